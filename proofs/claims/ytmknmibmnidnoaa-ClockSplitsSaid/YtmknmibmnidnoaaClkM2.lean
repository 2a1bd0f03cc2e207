/- The laws' waking. -/
import Derived.Test.YtmknmibmnidnoaaClkL
set_option linter.all false
namespace Go.Proofs.Ytmknmibmnidnoaa
open Go
def awakeC : Con where
  X := Unit
  Y := Unit
  args _ := []
  pre _ := []
  cond _ := True
  rdc _ _ := True
  rel _ _ := True
  val _ _ := .returned (.bool true)
  post _ _ := []
def awakeOv (_x : Unit) (_F : Atom) : List (Nat × Nat × OH) := [(1, 0, .c newC [] [100]), (4, 1, .c setC [100, 101] [100, 101]), (4, 3, .c setC [100, 101] [100, 101]), (4, 5, .c setC [100, 101] [100, 101]),
  (5, 1, .c tickC [100, 101] [100, 101, 102]), (6, 1, .c cancelC [100, 101] [100, 101, 103]), (7, 1, .c nextC [100, 101] [100, 101]), (8, 11, .c sameC [] []), (8, 16, .c sameC [] []), (8, 27, .c setC [100, 101] [100, 101]), (8, 32, .c nowC [100] [100]), (8, 37, .c dropC [100, 101] [100, 101, 104])]
def sA : ByteArray := ⟨#[97]⟩
def sB : ByteArray := ⟨#[98]⟩
def w1 : Tmr := ⟨0, sA, 10, 1⟩
def w2 : Tmr := ⟨0, sB, 5, 2⟩
def w3 : Tmr := ⟨1, sA, 10, 3⟩
theorem wk1 : setTs [] ⟨0, sA, 0 + 10, 1⟩ 10 = [w1] := by simp [setTs, setE, insT, w1]
theorem wk2 : setTs [w1] ⟨0, sB, 0 + 5, 2⟩ 5 = [w2, w1] := by simp [setTs, setE, insT, w1, w2]
theorem wk3 : setTs [w2, w1] ⟨1, sA, 0 + 10, 3⟩ 10 = [w2, w1, w3] := by simp [setTs, setE, insT, w1, w2, w3]
theorem wk4 : stay (tickG 0 5) [w2, w1, w3] = [w1, w3] := by simp [stay, tickG, tickE, w1, w2, w3]
theorem wk5 : nts (tickG 0 5) [w2, w1, w3] = [2] := by simp [nts, tickG, tickE, w1, w2, w3]
theorem wk6 : stay (cancelG 0 sA) [w1, w3] = [w3] := by simp [stay, cancelG, w1, w3]
theorem wk7 : nts (cancelG 0 sA) [w1, w3] = [1] := by simp [nts, cancelG, w1, w3]
theorem wk8 : setE [w3] (-1) = 1 := by simp [setE]
theorem wk9 : nts (dropG 1) [w3] = [3] := by simp [nts, dropG, w3]
theorem wke1 : setE [] 10 = 0 := by simp [setE]
theorem wke2 : setE [w1] 5 = 0 := by simp [setE]
theorem wke3 : setE [w2, w1] 10 = 0 := by simp [setE]
theorem wke4 : tickE 0 5 = 0 := by simp [tickE]
theorem wke5 : tickNow 0 5 = 5 := by simp [tickNow, wke4]
theorem one_src (b : Nat) (n : Int) : IsSrc 1 (ints [n]) (some ⟨b, 0, none⟩) 1 := .blk b 0 1 rfl
theorem one_srcd {S : St} {touch : List Nat} {b : Nat} {n : Int} {t : TypeId} (j : Nat) (hj : j ∉ touch) (e : gt S j = .cells b [.int .i64 n] t) : Srcd (.pred (rest S touch)) (some ⟨b, 0, none⟩) (ints [n]) := by
  intro ad h
  cases h
  refine Seg.rest hj ?_
  rw [e]
  exact Seg.cells (fun j u h => by rw [Nat.zero_add]; exact h)
theorem row_srcd {S : St} {touch : List Nat} {e : TypeId} {k : Nat} {cs : List Value} {r : Row} (j : Nat) (hj : j ∉ touch) (e' : gt S j = r.A) (h : IsRow e k cs r) : Srcd (.pred (rest S touch)) r.a cs := Srcd.sub (sub_rest j hj e') h.srcd
theorem br_t {t : Bool} {A B : Prop} (h : t = true) (a : A) : Br t A B := br_intro (fun _ => a) (fun e => by rw [h] at e; cases e)
noncomputable def awake_H (x : Con.X awakeC) (F : Atom) : Hints where
  op := hk ((awakeOv x F) ++ [(8, 10, OH.n (9100 : Nat)),   (8, 15, OH.n (9150 : Nat))])
  inv := (fun _ _ _ => none) x F
  cut := (fun _ _ _ => none) x F
  ord := (fun _ => [])
set_option maxRecDepth 100000 in
theorem awake_vc (x : PUnit) (F : Atom) (hc : Con.cond awakeC x) (hr : Con.rdc awakeC x F) :
  FnOk Try.prog (8 : Nat) newC ∧
    true = true ∧
      ∃ (x_1 : Unit),
        ([] : List Value) = [] ∧
          ([] : List Atom) = [] ∧
            True ∧
              True ∧
                ∀ (y : Nat),
                  True →
                    FnOk Try.prog (19 : Nat) setC ∧
                      true = true ∧
                        ∃ (x_2 : SetX),
                          [Value.pointer (some { block := y, off := (0 : Nat) }), Value.int IntKind.i64 (0 : Int), Value.string { data := #[(97 : UInt8)] }, Value.int IntKind.i64 (10 : Int), Value.int IntKind.i64 (1 : Int)] = [Value.pointer (some { block := x_2.b, off := (0 : Nat) }), Value.int IntKind.i64 x_2.ow, Value.string x_2.id, Value.int IntKind.i64 x_2.dl, Value.int IntKind.i64 x_2.n] ∧
                            [Atom.cells y [Value.int IntKind.i64 (0 : Int), Value.slice none (0 : Nat) (0 : Nat)] (59 : Nat), Atom.emp] = [Atom.cells x_2.b [Value.int IntKind.i64 x_2.now, Value.slice x_2.row.a x_2.row.n x_2.row.cap] (59 : Nat), x_2.row.A] ∧
                              (isTs x_2.ts x_2.row ∧ (0 : Int) ≤ x_2.now ∧ x_2.now ≤ (9007199254740992 : Int)) ∧
                                True ∧
                                  ∀ (y_1 : Row),
                                    isTs (setTs x_2.ts x_2.t x_2.dl) y_1 →
                                      FnOk Try.prog (19 : Nat) setC ∧
                                        true = true ∧
                                          ∃ (x_3 : SetX),
                                            [Value.pointer (some { block := y, off := (0 : Nat) }), Value.int IntKind.i64 (0 : Int), Value.string { data := #[(98 : UInt8)] }, Value.int IntKind.i64 (5 : Int), Value.int IntKind.i64 (2 : Int)] = [Value.pointer (some { block := x_3.b, off := (0 : Nat) }), Value.int IntKind.i64 x_3.ow, Value.string x_3.id, Value.int IntKind.i64 x_3.dl, Value.int IntKind.i64 x_3.n] ∧
                                              [Atom.cells x_2.b [Value.int IntKind.i64 x_2.now, Value.slice y_1.a y_1.n y_1.cap] (59 : Nat), y_1.A] = [Atom.cells x_3.b [Value.int IntKind.i64 x_3.now, Value.slice x_3.row.a x_3.row.n x_3.row.cap] (59 : Nat), x_3.row.A] ∧
                                                (isTs x_3.ts x_3.row ∧ (0 : Int) ≤ x_3.now ∧ x_3.now ≤ (9007199254740992 : Int)) ∧
                                                  True ∧
                                                    ∀ (y_2 : Row),
                                                      isTs (setTs x_3.ts x_3.t x_3.dl) y_2 →
                                                        FnOk Try.prog (19 : Nat) setC ∧
                                                          true = true ∧
                                                            ∃ (x_4 : SetX),
                                                              [Value.pointer (some { block := y, off := (0 : Nat) }), Value.int IntKind.i64 (1 : Int), Value.string { data := #[(97 : UInt8)] }, Value.int IntKind.i64 (10 : Int), Value.int IntKind.i64 (3 : Int)] = [Value.pointer (some { block := x_4.b, off := (0 : Nat) }), Value.int IntKind.i64 x_4.ow, Value.string x_4.id, Value.int IntKind.i64 x_4.dl, Value.int IntKind.i64 x_4.n] ∧
                                                                [Atom.cells x_3.b [Value.int IntKind.i64 x_3.now, Value.slice y_2.a y_2.n y_2.cap] (59 : Nat), y_2.A] = [Atom.cells x_4.b [Value.int IntKind.i64 x_4.now, Value.slice x_4.row.a x_4.row.n x_4.row.cap] (59 : Nat), x_4.row.A] ∧
                                                                  (isTs x_4.ts x_4.row ∧ (0 : Int) ≤ x_4.now ∧ x_4.now ≤ (9007199254740992 : Int)) ∧
                                                                    True ∧
                                                                      ∀ (y_3 : Row),
                                                                        isTs (setTs x_4.ts x_4.t x_4.dl) y_3 →
                                                                          FnOk Try.prog (18 : Nat) tickC ∧
                                                                            true = true ∧
                                                                              ∃ (x_5 : TickX),
                                                                                [Value.pointer (some { block := y, off := (0 : Nat) }), Value.int IntKind.i64 (5 : Int)] = [Value.pointer (some { block := x_5.b, off := (0 : Nat) }), Value.int IntKind.i64 x_5.by'] ∧
                                                                                  [Atom.cells x_4.b [Value.int IntKind.i64 x_4.now, Value.slice y_3.a y_3.n y_3.cap] (59 : Nat), y_3.A] = [Atom.cells x_5.b [Value.int IntKind.i64 x_5.now, Value.slice x_5.row.a x_5.row.n x_5.row.cap] (59 : Nat), x_5.row.A] ∧
                                                                                    (isTs x_5.ts x_5.row ∧ (0 : Int) ≤ x_5.now ∧ x_5.now ≤ (9007199254740992 : Int)) ∧
                                                                                      True ∧
                                                                                        ∀ (y_4 : DfY),
                                                                                          isTs (stay (tickG x_5.now x_5.by') x_5.ts) y_4.row ∧ isNs (nts (tickG x_5.now x_5.by') x_5.ts) y_4.r →
                                                                                            FnOk Try.prog (20 : Nat) cancelC ∧
                                                                                              true = true ∧
                                                                                                ∃ (x_6 : CancelX),
                                                                                                  [Value.pointer (some { block := y, off := (0 : Nat) }), Value.int IntKind.i64 (0 : Int), Value.string { data := #[(97 : UInt8)] }] = [Value.pointer (some { block := x_6.b, off := (0 : Nat) }), Value.int IntKind.i64 x_6.ow, Value.string x_6.id] ∧
                                                                                                    [Atom.cells x_5.b [Value.int IntKind.i64 (tickNow x_5.now x_5.by'), Value.slice y_4.row.a y_4.row.n y_4.row.cap] (59 : Nat), y_4.row.A] = [Atom.cells x_6.b [Value.int IntKind.i64 x_6.now, Value.slice x_6.row.a x_6.row.n x_6.row.cap] (59 : Nat), x_6.row.A] ∧
                                                                                                      isTs x_6.ts x_6.row ∧
                                                                                                        True ∧
                                                                                                          ∀ (y_5 : DfY),
                                                                                                            isTs (stay (cancelG x_6.ow x_6.id) x_6.ts) y_5.row ∧ isNs (nts (cancelG x_6.ow x_6.id) x_6.ts) y_5.r →
                                                                                                              FnOk Try.prog (12 : Nat) nextC ∧
                                                                                                                true = true ∧
                                                                                                                  ∃ (x_7 : ClkX),
                                                                                                                    [Value.pointer (some { block := y, off := (0 : Nat) })] = [Value.pointer (some { block := x_7.b, off := (0 : Nat) })] ∧
                                                                                                                      [Atom.cells x_6.b [Value.int IntKind.i64 x_6.now, Value.slice y_5.row.a y_5.row.n y_5.row.cap] (59 : Nat), y_5.row.A] = [Atom.cells x_7.b [Value.int IntKind.i64 x_7.now, Value.slice x_7.row.a x_7.row.n x_7.row.cap] (59 : Nat), x_7.row.A] ∧
                                                                                                                        (isTs x_7.ts x_7.row ∧ Bnd x_7.ts ∧ (0 : Int) ≤ x_7.now ∧ x_7.now ≤ (9007199254740992 : Int)) ∧
                                                                                                                          True ∧
                                                                                                                            ∀ (y_6 : Unit),
                                                                                                                              True →
                                                                                                                                ((-9223372036854775808 : Int) ≤ setE x_2.ts x_2.dl + setE x_3.ts x_3.dl ∧ setE x_2.ts x_2.dl + setE x_3.ts x_3.dl ≤ (9223372036854775807 : Int)) ∧
                                                                                                                                  ((-9223372036854775808 : Int) ≤ setE x_2.ts x_2.dl + setE x_3.ts x_3.dl + setE x_4.ts x_4.dl ∧ setE x_2.ts x_2.dl + setE x_3.ts x_3.dl + setE x_4.ts x_4.dl ≤ (9223372036854775807 : Int)) ∧
                                                                                                                                    ((-9223372036854775808 : Int) ≤ setE x_2.ts x_2.dl + setE x_3.ts x_3.dl + setE x_4.ts x_4.dl + tickE x_5.now x_5.by' ∧ setE x_2.ts x_2.dl + setE x_3.ts x_3.dl + setE x_4.ts x_4.dl + tickE x_5.now x_5.by' ≤ (9223372036854775807 : Int)) ∧
                                                                                                                                      Br (setE x_2.ts x_2.dl + setE x_3.ts x_3.dl + setE x_4.ts x_4.dl + tickE x_5.now x_5.by' == (0 : Int))
                                                                                                                                        (∀ (b : Nat),
                                                                                                                                          FnOk Try.prog (11 : Nat) sameC ∧
                                                                                                                                            true = true ∧
                                                                                                                                              ∃ (x_8 : SameX),
                                                                                                                                                [Value.slice y_4.r.a y_4.r.n y_4.r.cap, Value.slice (some { block := b, off := (0 : Nat) }) (1 : Nat) (1 : Nat)] = [Value.slice x_8.a x_8.an x_8.ac, Value.slice x_8.b x_8.bn x_8.bc] ∧
                                                                                                                                                  ([] : List Atom) = [] ∧
                                                                                                                                                    (IsSrc (1 : Nat) (ints x_8.xs) x_8.a x_8.an ∧ IsSrc (1 : Nat) (ints x_8.ys) x_8.b x_8.bn ∧ x_8.an ≤ (1000000 : Nat)) ∧
                                                                                                                                                      (Srcd (Atom.pred (rest [((0 : Nat), F), ((100 : Nat), Atom.cells x_7.b [Value.int IntKind.i64 x_7.now, Value.slice x_7.row.a x_7.row.n x_7.row.cap] (59 : Nat)), ((101 : Nat), x_7.row.A), ((102 : Nat), y_4.r.A), ((103 : Nat), y_5.r.A), ((9100 : Nat), Atom.cells b [Value.int IntKind.i64 (2 : Int)] (3 : Nat))] [])) x_8.a (ints x_8.xs) ∧ Srcd (Atom.pred (rest [((0 : Nat), F), ((100 : Nat), Atom.cells x_7.b [Value.int IntKind.i64 x_7.now, Value.slice x_7.row.a x_7.row.n x_7.row.cap] (59 : Nat)), ((101 : Nat), x_7.row.A), ((102 : Nat), y_4.r.A), ((103 : Nat), y_5.r.A), ((9100 : Nat), Atom.cells b [Value.int IntKind.i64 (2 : Int)] (3 : Nat))] [])) x_8.b (ints x_8.ys)) ∧
                                                                                                                                                        ∀ (y_7 : Unit),
                                                                                                                                                          True →
                                                                                                                                                            Br (decide (x_8.xs = x_8.ys))
                                                                                                                                                              (∀ (b_1 : Nat),
                                                                                                                                                                FnOk Try.prog (11 : Nat) sameC ∧
                                                                                                                                                                  true = true ∧
                                                                                                                                                                    ∃ (x_9 : SameX),
                                                                                                                                                                      [Value.slice y_5.r.a y_5.r.n y_5.r.cap, Value.slice (some { block := b_1, off := (0 : Nat) }) (1 : Nat) (1 : Nat)] = [Value.slice x_9.a x_9.an x_9.ac, Value.slice x_9.b x_9.bn x_9.bc] ∧
                                                                                                                                                                        ([] : List Atom) = [] ∧
                                                                                                                                                                          (IsSrc (1 : Nat) (ints x_9.xs) x_9.a x_9.an ∧ IsSrc (1 : Nat) (ints x_9.ys) x_9.b x_9.bn ∧ x_9.an ≤ (1000000 : Nat)) ∧
                                                                                                                                                                            (Srcd (Atom.pred (rest [((0 : Nat), F), ((100 : Nat), Atom.cells x_7.b [Value.int IntKind.i64 x_7.now, Value.slice x_7.row.a x_7.row.n x_7.row.cap] (59 : Nat)), ((101 : Nat), x_7.row.A), ((102 : Nat), y_4.r.A), ((103 : Nat), y_5.r.A), ((9100 : Nat), Atom.cells b [Value.int IntKind.i64 (2 : Int)] (3 : Nat)), ((9150 : Nat), Atom.cells b_1 [Value.int IntKind.i64 (1 : Int)] (3 : Nat))] [])) x_9.a (ints x_9.xs) ∧ Srcd (Atom.pred (rest [((0 : Nat), F), ((100 : Nat), Atom.cells x_7.b [Value.int IntKind.i64 x_7.now, Value.slice x_7.row.a x_7.row.n x_7.row.cap] (59 : Nat)), ((101 : Nat), x_7.row.A), ((102 : Nat), y_4.r.A), ((103 : Nat), y_5.r.A), ((9100 : Nat), Atom.cells b [Value.int IntKind.i64 (2 : Int)] (3 : Nat)), ((9150 : Nat), Atom.cells b_1 [Value.int IntKind.i64 (1 : Int)] (3 : Nat))] [])) x_9.b (ints x_9.ys)) ∧
                                                                                                                                                                              ∀ (y_8 : Unit),
                                                                                                                                                                                True →
                                                                                                                                                                                  Br (decide (x_9.xs = x_9.ys))
                                                                                                                                                                                    (Br (nxtB x_7.ts)
                                                                                                                                                                                      (Br (nxtI x_7.now x_7.ts == (5 : Int))
                                                                                                                                                                                        (FnOk Try.prog (19 : Nat) setC ∧
                                                                                                                                                                                          true = true ∧
                                                                                                                                                                                            ∃ (x_10 : SetX),
                                                                                                                                                                                              [Value.pointer (some { block := y, off := (0 : Nat) }), Value.int IntKind.i64 (0 : Int), Value.string { data := #[(120 : UInt8)] }, Value.int IntKind.i64 (-1 : Int), Value.int IntKind.i64 (0 : Int)] = [Value.pointer (some { block := x_10.b, off := (0 : Nat) }), Value.int IntKind.i64 x_10.ow, Value.string x_10.id, Value.int IntKind.i64 x_10.dl, Value.int IntKind.i64 x_10.n] ∧
                                                                                                                                                                                                [Atom.cells x_7.b [Value.int IntKind.i64 x_7.now, Value.slice x_7.row.a x_7.row.n x_7.row.cap] (59 : Nat), x_7.row.A] = [Atom.cells x_10.b [Value.int IntKind.i64 x_10.now, Value.slice x_10.row.a x_10.row.n x_10.row.cap] (59 : Nat), x_10.row.A] ∧
                                                                                                                                                                                                  (isTs x_10.ts x_10.row ∧ (0 : Int) ≤ x_10.now ∧ x_10.now ≤ (9007199254740992 : Int)) ∧
                                                                                                                                                                                                    True ∧
                                                                                                                                                                                                      ∀ (y_9 : Row),
                                                                                                                                                                                                        isTs (setTs x_10.ts x_10.t x_10.dl) y_9 →
                                                                                                                                                                                                          Br (setE x_10.ts x_10.dl == (1 : Int))
                                                                                                                                                                                                            (FnOk Try.prog (15 : Nat) nowC ∧
                                                                                                                                                                                                              true = true ∧
                                                                                                                                                                                                                ∃ (x_11 : ClkX),
                                                                                                                                                                                                                  [Value.pointer (some { block := y, off := (0 : Nat) })] = [Value.pointer (some { block := x_11.b, off := (0 : Nat) })] ∧
                                                                                                                                                                                                                    [Atom.cells x_10.b [Value.int IntKind.i64 x_10.now, Value.slice y_9.a y_9.n y_9.cap] (59 : Nat)] = [Atom.cells x_11.b [Value.int IntKind.i64 x_11.now, Value.slice x_11.row.a x_11.row.n x_11.row.cap] (59 : Nat)] ∧
                                                                                                                                                                                                                      True ∧
                                                                                                                                                                                                                        True ∧
                                                                                                                                                                                                                          ∀ (y_10 : Unit),
                                                                                                                                                                                                                            True →
                                                                                                                                                                                                                              Br (x_11.now == (5 : Int))
                                                                                                                                                                                                                                (FnOk Try.prog (21 : Nat) dropC ∧
                                                                                                                                                                                                                                  true = true ∧
                                                                                                                                                                                                                                    ∃ (x_12 : DropX),
                                                                                                                                                                                                                                      [Value.pointer (some { block := y, off := (0 : Nat) }), Value.int IntKind.i64 (1 : Int)] = [Value.pointer (some { block := x_12.b, off := (0 : Nat) }), Value.int IntKind.i64 x_12.ow] ∧
                                                                                                                                                                                                                                        [Atom.cells x_11.b [Value.int IntKind.i64 x_11.now, Value.slice x_11.row.a x_11.row.n x_11.row.cap] (59 : Nat), y_9.A] = [Atom.cells x_12.b [Value.int IntKind.i64 x_12.now, Value.slice x_12.row.a x_12.row.n x_12.row.cap] (59 : Nat), x_12.row.A] ∧
                                                                                                                                                                                                                                          isTs x_12.ts x_12.row ∧ True ∧ ∀ (y : DfY), isTs (stay (dropG x_12.ow) x_12.ts) y.row ∧ isNs (nts (dropG x_12.ow) x_12.ts) y.r → Done awakeC x F (Ending.returned (Value.bool ((↑y.r.n : Int) == (1 : Int)))) [((0 : Nat), F), ((100 : Nat), Atom.cells x_12.b [Value.int IntKind.i64 x_12.now, Value.slice y.row.a y.row.n y.row.cap] (59 : Nat)), ((101 : Nat), y.row.A), ((102 : Nat), y_4.r.A), ((103 : Nat), y_5.r.A), ((104 : Nat), y.r.A), ((9100 : Nat), Atom.cells b [Value.int IntKind.i64 (2 : Int)] (3 : Nat)), ((9150 : Nat), Atom.cells b_1 [Value.int IntKind.i64 (1 : Int)] (3 : Nat))])
                                                                                                                                                                                                                                (Done awakeC x F (Ending.returned (Value.bool false)) [((0 : Nat), F), ((100 : Nat), Atom.cells x_11.b [Value.int IntKind.i64 x_11.now, Value.slice x_11.row.a x_11.row.n x_11.row.cap] (59 : Nat)), ((101 : Nat), y_9.A), ((102 : Nat), y_4.r.A), ((103 : Nat), y_5.r.A), ((9100 : Nat), Atom.cells b [Value.int IntKind.i64 (2 : Int)] (3 : Nat)), ((9150 : Nat), Atom.cells b_1 [Value.int IntKind.i64 (1 : Int)] (3 : Nat))]))
                                                                                                                                                                                                            (Done awakeC x F (Ending.returned (Value.bool false)) [((0 : Nat), F), ((100 : Nat), Atom.cells x_10.b [Value.int IntKind.i64 x_10.now, Value.slice y_9.a y_9.n y_9.cap] (59 : Nat)), ((101 : Nat), y_9.A), ((102 : Nat), y_4.r.A), ((103 : Nat), y_5.r.A), ((9100 : Nat), Atom.cells b [Value.int IntKind.i64 (2 : Int)] (3 : Nat)), ((9150 : Nat), Atom.cells b_1 [Value.int IntKind.i64 (1 : Int)] (3 : Nat))]))
                                                                                                                                                                                        (Done awakeC x F (Ending.returned (Value.bool false)) [((0 : Nat), F), ((100 : Nat), Atom.cells x_7.b [Value.int IntKind.i64 x_7.now, Value.slice x_7.row.a x_7.row.n x_7.row.cap] (59 : Nat)), ((101 : Nat), x_7.row.A), ((102 : Nat), y_4.r.A), ((103 : Nat), y_5.r.A), ((9100 : Nat), Atom.cells b [Value.int IntKind.i64 (2 : Int)] (3 : Nat)), ((9150 : Nat), Atom.cells b_1 [Value.int IntKind.i64 (1 : Int)] (3 : Nat))]))
                                                                                                                                                                                      (Done awakeC x F (Ending.returned (Value.bool false)) [((0 : Nat), F), ((100 : Nat), Atom.cells x_7.b [Value.int IntKind.i64 x_7.now, Value.slice x_7.row.a x_7.row.n x_7.row.cap] (59 : Nat)), ((101 : Nat), x_7.row.A), ((102 : Nat), y_4.r.A), ((103 : Nat), y_5.r.A), ((9100 : Nat), Atom.cells b [Value.int IntKind.i64 (2 : Int)] (3 : Nat)), ((9150 : Nat), Atom.cells b_1 [Value.int IntKind.i64 (1 : Int)] (3 : Nat))]))
                                                                                                                                                                                    (Done awakeC x F (Ending.returned (Value.bool false)) [((0 : Nat), F), ((100 : Nat), Atom.cells x_7.b [Value.int IntKind.i64 x_7.now, Value.slice x_7.row.a x_7.row.n x_7.row.cap] (59 : Nat)), ((101 : Nat), x_7.row.A), ((102 : Nat), y_4.r.A), ((103 : Nat), y_5.r.A), ((9100 : Nat), Atom.cells b [Value.int IntKind.i64 (2 : Int)] (3 : Nat)), ((9150 : Nat), Atom.cells b_1 [Value.int IntKind.i64 (1 : Int)] (3 : Nat))]))
                                                                                                                                                              (Done awakeC x F (Ending.returned (Value.bool false)) [((0 : Nat), F), ((100 : Nat), Atom.cells x_7.b [Value.int IntKind.i64 x_7.now, Value.slice x_7.row.a x_7.row.n x_7.row.cap] (59 : Nat)), ((101 : Nat), x_7.row.A), ((102 : Nat), y_4.r.A), ((103 : Nat), y_5.r.A), ((9100 : Nat), Atom.cells b [Value.int IntKind.i64 (2 : Int)] (3 : Nat))]))
                                                                                                                                        (Done awakeC x F (Ending.returned (Value.bool false)) [((0 : Nat), F), ((100 : Nat), Atom.cells x_7.b [Value.int IntKind.i64 x_7.now, Value.slice x_7.row.a x_7.row.n x_7.row.cap] (59 : Nat)), ((101 : Nat), x_7.row.A), ((102 : Nat), y_4.r.A), ((103 : Nat), y_5.r.A)]) := by
  refine ⟨new_ok, rfl, (), rfl, rfl, trivial, trivial, fun b _ => ⟨set_ok, rfl, ⟨b, 0, [], ⟨none, 0, 0, .emp⟩, 0, sA, 10, 1⟩, rfl, rfl, ⟨isTs_nil, by dsimp only; omega, by dsimp only; omega⟩, trivial, fun r1 h1 => ?_⟩⟩
  replace h1 : isTs [w1] r1 := wk1 ▸ h1
  refine ⟨set_ok, rfl, ⟨b, 0, [w1], r1, 0, sB, 5, 2⟩, rfl, rfl, ⟨h1, by dsimp only; omega, by dsimp only; omega⟩, trivial, fun r2 h2 => ?_⟩
  replace h2 : isTs [w2, w1] r2 := wk2 ▸ h2
  refine ⟨set_ok, rfl, ⟨b, 0, [w2, w1], r2, 1, sA, 10, 3⟩, rfl, rfl, ⟨h2, by dsimp only; omega, by dsimp only; omega⟩, trivial, fun r3 h3 => ?_⟩
  replace h3 : isTs [w2, w1, w3] r3 := wk3 ▸ h3
  refine ⟨tick_ok, rfl, ⟨b, 0, [w2, w1, w3], r3, 5⟩, rfl, rfl, ⟨h3, by dsimp only; omega, by dsimp only; omega⟩, trivial, fun y4 h4 => ?_⟩
  obtain ⟨h4, h4'⟩ := h4
  replace h4 : isTs [w1, w3] y4.row := wk4 ▸ h4
  replace h4' : isNs [2] y4.r := wk5 ▸ h4'
  refine ⟨cancel_ok, rfl, ⟨b, 5, [w1, w3], y4.row, 0, sA⟩, rfl, rfl, h4, trivial, fun y5 h5 => ?_⟩
  obtain ⟨h5, h5'⟩ := h5
  replace h5 : isTs [w3] y5.row := wk6 ▸ h5
  replace h5' : isNs [1] y5.r := wk7 ▸ h5'
  refine ⟨next_ok, rfl, ⟨b, 5, [w3], y5.row⟩, rfl, rfl, ⟨h5, ?_, by dsimp only; omega, by dsimp only; omega⟩, trivial, fun _ _ => ?_⟩
  · intro t ht
    rw [List.mem_singleton.1 ht]
    decide
  dsimp only
  rw [wke1, wke2, wke3, wke4]
  refine ⟨by omega, by omega, by omega, br_t rfl fun b1 => ⟨same_ok, rfl, ⟨y4.r.a, y4.r.n, y4.r.cap, [2], some ⟨b1, 0, none⟩, 1, 1, [2]⟩, rfl, rfl, ⟨h4'.1.src, one_src b1 2, by have := h4'.2; simp at this; dsimp only; omega⟩, ⟨row_srcd 102 (by simp) rfl h4'.1, one_srcd 9100 (by simp) rfl⟩, fun _ _ => br_t rfl fun b2 => ?_⟩⟩
  refine ⟨same_ok, rfl, ⟨y5.r.a, y5.r.n, y5.r.cap, [1], some ⟨b2, 0, none⟩, 1, 1, [1]⟩, rfl, rfl, ⟨h5'.1.src, one_src b2 1, by have := h5'.2; simp at this; dsimp only; omega⟩, ⟨row_srcd 103 (by simp) rfl h5'.1, one_srcd 9150 (by simp) rfl⟩, fun _ _ => br_t rfl ?_⟩
  refine br_t rfl (br_t rfl ⟨set_ok, rfl, ⟨b, 5, [w3], y5.row, 0, ⟨#[120]⟩, -1, 0⟩, rfl, rfl, ⟨h5, by dsimp only; omega, by dsimp only; omega⟩, trivial, fun r9 h9 => ?_⟩)
  have h9 : isTs [w3] r9 := by
    have : setTs [w3] ⟨0, ⟨#[120]⟩, 5 + -1, 0⟩ (-1) = [w3] := setTs_no (by rw [wk8]; decide)
    exact this ▸ h9
  refine br_t (by rw [wk8]; rfl) ⟨now_ok, rfl, ⟨b, 5, [w3], r9⟩, rfl, rfl, trivial, trivial, fun _ _ => br_t rfl ⟨drop_ok, rfl, ⟨b, 5, [w3], r9, 1⟩, rfl, rfl, h9, trivial, fun y hy => ⟨(), trivial, ?_, Ent.pick [0] rfl rfl⟩⟩⟩
  obtain ⟨-, hy⟩ := hy
  replace hy : isNs [3] y.r := wk9 ▸ hy
  rw [hy.2]; rfl
set_option maxRecDepth 100000 in
theorem awake_ok : FnOk Try.prog 7 awakeC :=
  fnOk (N := 72) (by kernel_rfl) Try.func7 rfl (by kernel_rfl) (fun _ => Nat.le_of_ble_eq_true rfl) awake_H [] fun x F hc hr => Eq.mpr (by kernel_rfl) (awake_vc x F hc hr)
end Go.Proofs.Ytmknmibmnidnoaa
