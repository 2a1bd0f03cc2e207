/- The clock's Set. -/
import Derived.Test.YtmknmibmnidnoaaClkC
import Derived.Test.YtmknmibmnidnoaaClkP
set_option linter.all false
namespace Go.Proofs.Ytmknmibmnidnoaa
open Go
structure SetX where
  b : Nat
  now : Int
  ts : List Tmr
  row : Row
  ow : Int
  id : ByteArray
  dl : Int
  n : Int
def SetX.t (x : SetX) : Tmr := ⟨x.ow, x.id, x.now + x.dl, x.n⟩
def setE (ts : List Tmr) (dl : Int) : Int := bif decide (dl < 0) || decide (dl > 1000000000) then 1 else bif decide (128 ≤ ts.length) then 4 else 0
def setTs (ts : List Tmr) (t : Tmr) (dl : Int) : List Tmr := bif decide (setE ts dl = 0) then insT t ts else ts
def clkA (b : Nat) (now : Int) (r : Row) : Atom := .cells b [.int .i64 now, .slice r.a r.n r.cap] 59
def isTs (ts : List Tmr) (r : Row) : Prop := IsRow 44 4 (encT ts) r ∧ r.n = ts.length ∧ ts.length ≤ 128 ∧ Srt ts
def setC : Con where
  X := SetX
  Y := Row
  args x := [.pointer (some ⟨x.b, 0, none⟩), .int .i64 x.ow, .string x.id, .int .i64 x.dl, .int .i64 x.n]
  pre x := [clkA x.b x.now x.row, x.row.A]
  cond x := isTs x.ts x.row ∧ 0 ≤ x.now ∧ x.now ≤ 9007199254740992
  rdc _ _ := True
  rel x r := isTs (setTs x.ts x.t x.dl) r
  val x _ := .returned (.int .i64 (setE x.ts x.dl))
  post x r := [clkA x.b x.now r, r.A]
structure SetBX where
  b : Nat
  now : Int
  ts : List Tmr
  rb : Nat
  cap : Nat
  sp : List Value
  ow : Int
  id : ByteArray
  dl : Int
  n : Int
def setNC : Con where
  X := SetBX
  Y := Row
  args x := [.pointer (some ⟨x.b, 0, none⟩), .int .i64 x.ow, .string x.id, .int .i64 x.dl, .int .i64 x.n]
  pre x := [.cells x.b [.int .i64 x.now, .slice none 0 0] 59, .emp]
  cond x := 0 ≤ x.now ∧ x.now ≤ 9007199254740992
  rdc _ _ := True
  rel x r := isTs (setTs [] ⟨x.ow, x.id, x.now + x.dl, x.n⟩ x.dl) r
  val x _ := .returned (.int .i64 (setE [] x.dl))
  post x r := [clkA x.b x.now r, r.A]
def setBC : Con where
  X := SetBX
  Y := Row
  args x := [.pointer (some ⟨x.b, 0, none⟩), .int .i64 x.ow, .string x.id, .int .i64 x.dl, .int .i64 x.n]
  pre x := [.cells x.b [.int .i64 x.now, .slice (some ⟨x.rb, 0, none⟩) x.ts.length x.cap] 59, .cells x.rb (encT x.ts ++ x.sp) 44]
  cond x := (encT x.ts ++ x.sp).length = x.cap * 4 ∧ x.ts.length ≤ x.cap ∧ x.ts.length ≤ 128 ∧ Srt x.ts ∧ 0 ≤ x.now ∧ x.now ≤ 9007199254740992
  rdc _ _ := True
  rel x r := isTs (setTs x.ts ⟨x.ow, x.id, x.now + x.dl, x.n⟩ x.dl) r
  val x _ := .returned (.int .i64 (setE x.ts x.dl))
  post x r := [clkA x.b x.now r, r.A]
structure SetI where
  k : Nat
  b : Nat
def setInvN (x : SetBX) (F : Atom) : Nat → Option Inv := fun
  | 0 => some { X := Nat, P := fun _ => True, mu := fun _ => 0, lv := fun b => [(0, .pointer (some ⟨x.b, 0, none⟩)), (11, .pointer (some ⟨b, 0, none⟩)), (12, .int .i64 0)], st := fun b => [.cells x.b [.int .i64 x.now, .slice none 0 0] 59, .cells b [.int .i64 x.ow, .string x.id, .int .i64 (x.now + x.dl), .int .i64 x.n] 44, F] }
  | _ => none
def setInvB (x : SetBX) (F : Atom) : Nat → Option Inv := fun
  | 0 => some { X := SetI, P := fun i => i.k ≤ x.ts.length ∧ ∀ j u, i.k ≤ j → x.ts[j]? = some u → x.now + x.dl < u.due, mu := fun i => i.k, lv := fun i => [(0, .pointer (some ⟨x.b, 0, none⟩)), (11, .pointer (some ⟨i.b, 0, none⟩)), (12, .int .i64 i.k)], st := fun i => [.cells x.b [.int .i64 x.now, .slice (some ⟨x.rb, 0, none⟩) x.ts.length x.cap] 59, .cells x.rb (encT x.ts ++ x.sp) 44, .cells i.b [.int .i64 x.ow, .string x.id, .int .i64 (x.now + x.dl), .int .i64 x.n] 44, F] }
  | _ => none
theorem setE_arg (ts : List Tmr) {dl : Int} (h : dl < 0 ∨ dl > 1000000000) : setE ts dl = 1 := by
  unfold setE
  rcases h with h | h <;> simp [h]
theorem setE_full {ts : List Tmr} {dl : Int} (h : ¬ dl < 0) (h2 : ¬ dl > 1000000000) (h3 : 128 ≤ ts.length) : setE ts dl = 4 := by
  unfold setE
  rw [decide_eq_false h, decide_eq_false h2, decide_eq_true h3]; rfl
theorem setE_ok {ts : List Tmr} {dl : Int} (h : ¬ dl < 0) (h2 : ¬ dl > 1000000000) (h3 : ¬ 128 ≤ ts.length) : setE ts dl = 0 := by
  unfold setE
  rw [decide_eq_false h, decide_eq_false h2, decide_eq_false h3]; rfl
theorem setTs_no {ts : List Tmr} {t : Tmr} {dl : Int} (h : setE ts dl ≠ 0) : setTs ts t dl = ts := by
  unfold setTs; rw [decide_eq_false h]; rfl
theorem setTs_yes {ts : List Tmr} {t : Tmr} {dl : Int} (h : setE ts dl = 0) : setTs ts t dl = insT t ts := by
  unfold setTs; rw [decide_eq_true h]; rfl
theorem isTs_nil : isTs [] ⟨none, 0, 0, .emp⟩ := ⟨.nil rfl, rfl, by decide, by simp [Srt]⟩
theorem isTs_blk {ts : List Tmr} {b cap : Nat} {sp : List Value} (h1 : (encT ts ++ sp).length = cap * 4) (h2 : ts.length ≤ cap) (h3 : ts.length ≤ 128) (h4 : Srt ts) :
    isTs ts ⟨some ⟨b, 0, none⟩, ts.length, cap, .cells b (encT ts ++ sp) 44⟩ := ⟨.blk b ts.length cap sp (encT_length ts) h1 h2, rfl, h3, h4⟩
noncomputable def setN_H (x : Con.X setNC) (F : Atom) : Hints where
  op := hk (((fun _ _ => []) x F) ++ [(3, 3, OH.q [LH.atj (0 : Nat)]),   (5, 5, OH.q [LH.atj (0 : Nat)]),   (5, 10, OH.n (6100 : Nat)),   (5, 11, OH.w [LH.atj (6100 : Nat), LH.atj (6100 : Nat), LH.atj (6100 : Nat), LH.atj (6100 : Nat)]),   (6, 3, OH.q [LH.atj (0 : Nat)]),   (9, 4, OH.q [LH.atj (0 : Nat)]),   (9, 6, OH.q [LH.atj (1 : Nat), LH.atj (1 : Nat), LH.atj (1 : Nat), LH.atj (1 : Nat)]),   (9, 7, OH.n (10070 : Nat)),   (9, 8, OH.c insNC [(10070 : Nat)] [(10080 : Nat)]),   (9, 11, OH.w [LH.atj (0 : Nat)])])
  inv := setInvN x F
  cut := (fun _ _ _ => none) x F
  ord := (fun _ => [])
set_option maxRecDepth 100000 in
theorem setN_vc (x : SetBX) (F : Atom) (hc : Con.cond setNC x) (hr : Con.rdc setNC x F) :
  Br (decide (x.dl < (0 : Int))) (Done setNC x F (Ending.returned (Value.int IntKind.i64 (1 : Int))) [((0 : Nat), Atom.cells x.b [Value.int IntKind.i64 x.now, Value.slice none (0 : Nat) (0 : Nat)] (59 : Nat)), ((1 : Nat), Atom.emp), ((2 : Nat), F)])
    (Br (decide (x.dl > (1000000000 : Int))) (Done setNC x F (Ending.returned (Value.int IntKind.i64 (1 : Int))) [((0 : Nat), Atom.cells x.b [Value.int IntKind.i64 x.now, Value.slice none (0 : Nat) (0 : Nat)] (59 : Nat)), ((1 : Nat), Atom.emp), ((2 : Nat), F)])
      (Same { block := x.b, off := (1 : Nat) } x.b ∧
        Same { block := x.b, off := (0 : Nat) } x.b ∧
          ((-9223372036854775808 : Int) ≤ x.now + x.dl ∧ x.now + x.dl ≤ (9223372036854775807 : Int)) ∧
            ∀ (b : Nat),
              Same { block := b, off := (0 : Nat) } b ∧
                Same { block := b, off := (1 : Nat) } b ∧
                  Same { block := b, off := (2 : Nat) } b ∧
                    Same { block := b, off := (3 : Nat) } b ∧
                      Same { block := x.b, off := (1 : Nat) } x.b ∧
                        (∃ (x_1 : Nat), True ∧ (Value.pointer (some { block := x.b, off := (0 : Nat) }) = Value.pointer (some { block := x.b, off := (0 : Nat) }) ∧ Value.pointer (some { block := b, off := (0 : Nat) }) = Value.pointer (some { block := x_1, off := (0 : Nat) }) ∧ Value.int IntKind.i64 (↑(0 : Nat) : Int) = Value.int IntKind.i64 (0 : Int) ∧ True) ∧ Ent [((0 : Nat), Atom.cells x.b [Value.int IntKind.i64 x.now, Value.slice none (0 : Nat) (0 : Nat)] (59 : Nat)), ((1 : Nat), Atom.emp), ((2 : Nat), F), ((6100 : Nat), Atom.cells b [Value.int IntKind.i64 x.ow, Value.string x.id, Value.int IntKind.i64 (x.now + x.dl), Value.int IntKind.i64 x.n] (44 : Nat))] [((0 : Nat), Atom.cells x.b [Value.int IntKind.i64 x.now, Value.slice none (0 : Nat) (0 : Nat)] (59 : Nat)), ((1 : Nat), Atom.cells x_1 [Value.int IntKind.i64 x.ow, Value.string x.id, Value.int IntKind.i64 (x.now + x.dl), Value.int IntKind.i64 x.n] (44 : Nat)), ((2 : Nat), F)]) ∧
                          ∀ (x_1 : Nat) (js : Nat → Value),
                            True →
                              true = true ∧
                                true = true ∧
                                  Same { block := x.b, off := (1 : Nat) } x.b ∧
                                    Same { block := x_1, off := (0 : Nat) } x_1 ∧
                                      Same { block := x_1, off := (1 : Nat) } x_1 ∧
                                        Same { block := x_1, off := (2 : Nat) } x_1 ∧
                                          Same { block := x_1, off := (3 : Nat) } x_1 ∧
                                            ∀ (b : Nat),
                                              FnOk Try.prog (28 : Nat) insNC ∧
                                                true = true ∧
                                                  ∃ (x_2 : InsNX),
                                                    [Value.slice none (0 : Nat) (0 : Nat), Value.int IntKind.i64 (0 : Int), Value.slice (some { block := b, off := (0 : Nat) }) (1 : Nat) (1 : Nat)] = [Value.slice none (0 : Nat) (0 : Nat), Value.int IntKind.i64 (0 : Int), Value.slice (some { block := x_2.b2, off := (0 : Nat) }) (1 : Nat) (1 : Nat)] ∧
                                                      [Atom.cells b [Value.int IntKind.i64 x.ow, Value.string x.id, Value.int IntKind.i64 (x.now + x.dl), Value.int IntKind.i64 x.n] (44 : Nat)] = [Atom.cells x_2.b2 x_2.ys (44 : Nat)] ∧ (x_2.ys.length = (4 : Nat) ∧ ∀ (u : Value), u ∈ x_2.ys → u.oneCell' = true) ∧ True ∧ ∀ (y : Row), IsRow (44 : Nat) (4 : Nat) x_2.ys y ∧ y.n = (1 : Nat) → Same { block := x.b, off := (1 : Nat) } x.b ∧ Done setNC x F (Ending.returned (Value.int IntKind.i64 (0 : Int))) [((0 : Nat), Atom.cells x.b [Value.int IntKind.i64 x.now, Value.slice y.a y.n y.cap] (59 : Nat)), ((1 : Nat), Atom.cells x_1 [Value.int IntKind.i64 x.ow, Value.string x.id, Value.int IntKind.i64 (x.now + x.dl), Value.int IntKind.i64 x.n] (44 : Nat)), ((2 : Nat), F), ((10070 : Nat), Atom.emp), ((10080 : Nat), y.A)])) := by
  obtain ⟨b, now, ts, rb, cap, sp, ow, id, dl, n⟩ := x
  obtain ⟨h0, h1⟩ := hc
  dsimp only at h0 h1 ⊢
  simp only [same_refl, true_and, eq_self]
  refine br_decide (fun h => ?_) (fun h => br_decide (fun h2 => ?_) (fun h2 => ⟨by omega, fun bt => ⟨⟨bt, ⟨rfl, rfl, trivial⟩, Ent.pick [0, 6100, 2] rfl rfl⟩, fun bt' js _ bo => ⟨insN_ok, ⟨bo, _⟩, rfl, rfl, ⟨rfl, ?_⟩, ?_⟩⟩⟩))
  · have he := setE_arg [] (.inl h)
    refine ⟨⟨none, 0, 0, .emp⟩, ?_, by simp only [setNC, he], Ent.pick [0, 1, 2] rfl rfl⟩
    simp only [setNC]; rw [setTs_no (by omega)]; exact isTs_nil
  · have he := setE_arg [] (.inr h2)
    refine ⟨⟨none, 0, 0, .emp⟩, ?_, by simp only [setNC, he], Ent.pick [0, 1, 2] rfl rfl⟩
    simp only [setNC]; rw [setTs_no (by omega)]; exact isTs_nil
  · intro u hu
    simp only [List.mem_cons, List.not_mem_nil, or_false] at hu
    rcases hu with rfl | rfl | rfl | rfl <;> rfl
  · rintro y ⟨hy, hn⟩
    have he := setE_ok (ts := []) h h2 (by decide)
    refine ⟨y, ?_, by simp only [setNC, he], Ent.pick [0, 10080, 2] rfl rfl⟩
    simp only [setNC]; rw [setTs_yes he]
    exact ⟨hy, hn, by simp [insT], by simp [insT, Srt]⟩
set_option maxRecDepth 100000 in
theorem setN_ok : FnOk Try.prog 19 setNC :=
  fnOk (N := 69) (by kernel_rfl) Try.func19 rfl (by kernel_rfl) (fun _ => Nat.le_of_ble_eq_true rfl) setN_H [] fun x F hc hr => Eq.mpr (by kernel_rfl) (setN_vc x F hc hr)
noncomputable def setB_H (x : Con.X setBC) (F : Atom) : Hints where
  op := hk (((fun _ _ => []) x F) ++ [(3, 3, OH.q [LH.atj (0 : Nat)]),   (5, 5, OH.q [LH.atj (0 : Nat)]),   (5, 10, OH.n (6100 : Nat)),   (5, 11, OH.w [LH.atj (6100 : Nat), LH.atj (6100 : Nat), LH.atj (6100 : Nat), LH.atj (6100 : Nat)]),   (6, 3, OH.q [LH.atj (0 : Nat)]),   (7, 6, OH.q [LH.atj (0 : Nat)]),   (9, 4, OH.q [LH.atj (0 : Nat)]),   (7, 11, OH.q [LH.ex (1 : Nat) (Shape.int IntKind.i64)]),   (9, 6, OH.q [LH.atj (2 : Nat), LH.atj (2 : Nat), LH.atj (2 : Nat), LH.atj (2 : Nat)]),   (7, 13, OH.q [LH.atj (2 : Nat)]),   (9, 7, OH.n (10070 : Nat)),   (9, 8, OH.c insBC [(1 : Nat), (10070 : Nat)] [(10080 : Nat)]),   (9, 11, OH.w [LH.atj (0 : Nat)])])
  inv := setInvB x F
  cut := (fun _ _ _ => none) x F
  ord := (fun _ => [])
set_option maxRecDepth 100000 in
theorem setB_vc (x : SetBX) (F : Atom) (hc : Con.cond setBC x) (hr : Con.rdc setBC x F) :
  Br (decide (x.dl < (0 : Int))) (Done setBC x F (Ending.returned (Value.int IntKind.i64 (1 : Int))) [((0 : Nat), Atom.cells x.b [Value.int IntKind.i64 x.now, Value.slice (some { block := x.rb, off := (0 : Nat) }) x.ts.length x.cap] (59 : Nat)), ((1 : Nat), Atom.cells x.rb (encT x.ts ++ x.sp) (44 : Nat)), ((2 : Nat), F)])
    (Br (decide (x.dl > (1000000000 : Int))) (Done setBC x F (Ending.returned (Value.int IntKind.i64 (1 : Int))) [((0 : Nat), Atom.cells x.b [Value.int IntKind.i64 x.now, Value.slice (some { block := x.rb, off := (0 : Nat) }) x.ts.length x.cap] (59 : Nat)), ((1 : Nat), Atom.cells x.rb (encT x.ts ++ x.sp) (44 : Nat)), ((2 : Nat), F)])
      (Same { block := x.b, off := (1 : Nat) } x.b ∧
        Br (decide ((↑x.ts.length : Int) ≥ (128 : Int))) (Done setBC x F (Ending.returned (Value.int IntKind.i64 (4 : Int))) [((0 : Nat), Atom.cells x.b [Value.int IntKind.i64 x.now, Value.slice (some { block := x.rb, off := (0 : Nat) }) x.ts.length x.cap] (59 : Nat)), ((1 : Nat), Atom.cells x.rb (encT x.ts ++ x.sp) (44 : Nat)), ((2 : Nat), F)])
          (Same { block := x.b, off := (0 : Nat) } x.b ∧
            ((-9223372036854775808 : Int) ≤ x.now + x.dl ∧ x.now + x.dl ≤ (9223372036854775807 : Int)) ∧
              ∀ (b : Nat),
                Same { block := b, off := (0 : Nat) } b ∧
                  Same { block := b, off := (1 : Nat) } b ∧
                    Same { block := b, off := (2 : Nat) } b ∧
                      Same { block := b, off := (3 : Nat) } b ∧
                        Same { block := x.b, off := (1 : Nat) } x.b ∧
                          (∃ (x_1 : SetI),
                              (x_1.k ≤ x.ts.length ∧ ∀ (j : Nat) (u : Tmr), x_1.k ≤ j → x.ts[j]? = some u → x.now + x.dl < u.due) ∧
                                (Value.pointer (some { block := x.b, off := (0 : Nat) }) = Value.pointer (some { block := x.b, off := (0 : Nat) }) ∧ Value.pointer (some { block := b, off := (0 : Nat) }) = Value.pointer (some { block := x_1.b, off := (0 : Nat) }) ∧ Value.int IntKind.i64 (↑x.ts.length : Int) = Value.int IntKind.i64 (↑x_1.k : Int) ∧ True) ∧
                                  Ent [((0 : Nat), Atom.cells x.b [Value.int IntKind.i64 x.now, Value.slice (some { block := x.rb, off := (0 : Nat) }) x.ts.length x.cap] (59 : Nat)), ((1 : Nat), Atom.cells x.rb (encT x.ts ++ x.sp) (44 : Nat)), ((2 : Nat), F), ((6100 : Nat), Atom.cells b [Value.int IntKind.i64 x.ow, Value.string x.id, Value.int IntKind.i64 (x.now + x.dl), Value.int IntKind.i64 x.n] (44 : Nat))] [((0 : Nat), Atom.cells x.b [Value.int IntKind.i64 x.now, Value.slice (some { block := x.rb, off := (0 : Nat) }) x.ts.length x.cap] (59 : Nat)), ((1 : Nat), Atom.cells x.rb (encT x.ts ++ x.sp) (44 : Nat)), ((2 : Nat), Atom.cells x_1.b [Value.int IntKind.i64 x.ow, Value.string x.id, Value.int IntKind.i64 (x.now + x.dl), Value.int IntKind.i64 x.n] (44 : Nat)), ((3 : Nat), F)]) ∧
                            ∀ (x_1 : SetI) (js : Nat → Value),
                              (x_1.k ≤ x.ts.length ∧ ∀ (j : Nat) (u : Tmr), x_1.k ≤ j → x.ts[j]? = some u → x.now + x.dl < u.due) →
                                true = true ∧
                                  Br (decide ((↑x_1.k : Int) > (0 : Int)))
                                    (Same { block := x.b, off := (1 : Nat) } x.b ∧
                                      ((-9223372036854775808 : Int) ≤ (↑x_1.k : Int) - (1 : Int) ∧ (↑x_1.k : Int) - (1 : Int) ≤ (9223372036854775807 : Int)) ∧
                                        ((0 : Int) ≤ (↑x_1.k : Int) - (1 : Int) ∧ (↑x_1.k : Int) - (1 : Int) < (↑x.ts.length : Int)) ∧
                                          ∃ (n : Int),
                                            Look (Atom.cells x.rb (encT x.ts ++ x.sp) (44 : Nat)) { block := x.rb, off := (0 : Nat) + ((↑x_1.k : Int) - (1 : Int)).toNat * (4 : Nat) + (2 : Nat) } (Value.int IntKind.i64 n) ∧
                                              Same { block := x_1.b, off := (2 : Nat) } x_1.b ∧
                                                Br (decide (n > x.now + x.dl))
                                                  (((-9223372036854775808 : Int) ≤ (↑x_1.k : Int) - (1 : Int) ∧ (↑x_1.k : Int) - (1 : Int) ≤ (9223372036854775807 : Int)) ∧
                                                    ∃ (y : SetI),
                                                      (y.k ≤ x.ts.length ∧ ∀ (j : Nat) (u : Tmr), y.k ≤ j → x.ts[j]? = some u → x.now + x.dl < u.due) ∧
                                                        (Value.pointer (some { block := x.b, off := (0 : Nat) }) = Value.pointer (some { block := x.b, off := (0 : Nat) }) ∧ Value.pointer (some { block := x_1.b, off := (0 : Nat) }) = Value.pointer (some { block := y.b, off := (0 : Nat) }) ∧ Value.int IntKind.i64 ((↑x_1.k : Int) - (1 : Int)) = Value.int IntKind.i64 (↑y.k : Int) ∧ True) ∧
                                                          Ent [((0 : Nat), Atom.cells x.b [Value.int IntKind.i64 x.now, Value.slice (some { block := x.rb, off := (0 : Nat) }) x.ts.length x.cap] (59 : Nat)), ((1 : Nat), Atom.cells x.rb (encT x.ts ++ x.sp) (44 : Nat)), ((2 : Nat), Atom.cells x_1.b [Value.int IntKind.i64 x.ow, Value.string x.id, Value.int IntKind.i64 (x.now + x.dl), Value.int IntKind.i64 x.n] (44 : Nat)), ((3 : Nat), F)] [((0 : Nat), Atom.cells x.b [Value.int IntKind.i64 x.now, Value.slice (some { block := x.rb, off := (0 : Nat) }) x.ts.length x.cap] (59 : Nat)), ((1 : Nat), Atom.cells x.rb (encT x.ts ++ x.sp) (44 : Nat)), ((2 : Nat), Atom.cells y.b [Value.int IntKind.i64 x.ow, Value.string x.id, Value.int IntKind.i64 (x.now + x.dl), Value.int IntKind.i64 x.n] (44 : Nat)), ((3 : Nat), F)] ∧ y.k < x_1.k)
                                                  (true = true ∧
                                                    Same { block := x.b, off := (1 : Nat) } x.b ∧
                                                      Same { block := x_1.b, off := (0 : Nat) } x_1.b ∧
                                                        Same { block := x_1.b, off := (1 : Nat) } x_1.b ∧
                                                          Same { block := x_1.b, off := (2 : Nat) } x_1.b ∧
                                                            Same { block := x_1.b, off := (3 : Nat) } x_1.b ∧
                                                              ∀ (b : Nat),
                                                                FnOk Try.prog (28 : Nat) insBC ∧
                                                                  true = true ∧
                                                                    ∃ (x_2 : InsX),
                                                                      [Value.slice (some { block := x.rb, off := (0 : Nat) }) x.ts.length x.cap, Value.int IntKind.i64 (↑x_1.k : Int), Value.slice (some { block := b, off := (0 : Nat) }) (1 : Nat) (1 : Nat)] = [Value.slice (some { block := x_2.b, off := (0 : Nat) }) x_2.n x_2.cap, Value.int IntKind.i64 x_2.i, Value.slice (some { block := x_2.b2, off := (0 : Nat) }) (1 : Nat) (1 : Nat)] ∧
                                                                        [Atom.cells x.rb (encT x.ts ++ x.sp) (44 : Nat), Atom.cells b [Value.int IntKind.i64 x.ow, Value.string x.id, Value.int IntKind.i64 (x.now + x.dl), Value.int IntKind.i64 x.n] (44 : Nat)] = [Atom.cells x_2.b (x_2.cs ++ x_2.sp) (44 : Nat), Atom.cells x_2.b2 x_2.ys (44 : Nat)] ∧
                                                                          (x_2.cs.length = x_2.n * (4 : Nat) ∧ (x_2.cs ++ x_2.sp).length = x_2.cap * (4 : Nat) ∧ x_2.n ≤ x_2.cap ∧ x_2.ys.length = (4 : Nat) ∧ (∀ (u : Value), u ∈ x_2.cs → u.oneCell' = true) ∧ (∀ (u : Value), u ∈ x_2.ys → u.oneCell' = true) ∧ (0 : Int) ≤ x_2.i ∧ x_2.i ≤ (↑x_2.n : Int) ∧ x_2.n ≤ (1000 : Nat)) ∧
                                                                            True ∧ ∀ (y : Row), IsRow (44 : Nat) (4 : Nat) (List.take (x_2.i.toNat * (4 : Nat)) x_2.cs ++ x_2.ys ++ List.drop (x_2.i.toNat * (4 : Nat)) x_2.cs) y ∧ y.n = x_2.n + (1 : Nat) → Same { block := x.b, off := (1 : Nat) } x.b ∧ Done setBC x F (Ending.returned (Value.int IntKind.i64 (0 : Int))) [((0 : Nat), Atom.cells x.b [Value.int IntKind.i64 x.now, Value.slice y.a y.n y.cap] (59 : Nat)), ((1 : Nat), Atom.emp), ((2 : Nat), Atom.cells x_1.b [Value.int IntKind.i64 x.ow, Value.string x.id, Value.int IntKind.i64 (x.now + x.dl), Value.int IntKind.i64 x.n] (44 : Nat)), ((3 : Nat), F), ((10070 : Nat), Atom.emp), ((10080 : Nat), y.A)]))
                                    (true = true ∧
                                      Same { block := x.b, off := (1 : Nat) } x.b ∧
                                        Same { block := x_1.b, off := (0 : Nat) } x_1.b ∧
                                          Same { block := x_1.b, off := (1 : Nat) } x_1.b ∧
                                            Same { block := x_1.b, off := (2 : Nat) } x_1.b ∧
                                              Same { block := x_1.b, off := (3 : Nat) } x_1.b ∧
                                                ∀ (b : Nat),
                                                  FnOk Try.prog (28 : Nat) insBC ∧
                                                    true = true ∧
                                                      ∃ (x_2 : InsX),
                                                        [Value.slice (some { block := x.rb, off := (0 : Nat) }) x.ts.length x.cap, Value.int IntKind.i64 (↑x_1.k : Int), Value.slice (some { block := b, off := (0 : Nat) }) (1 : Nat) (1 : Nat)] = [Value.slice (some { block := x_2.b, off := (0 : Nat) }) x_2.n x_2.cap, Value.int IntKind.i64 x_2.i, Value.slice (some { block := x_2.b2, off := (0 : Nat) }) (1 : Nat) (1 : Nat)] ∧
                                                          [Atom.cells x.rb (encT x.ts ++ x.sp) (44 : Nat), Atom.cells b [Value.int IntKind.i64 x.ow, Value.string x.id, Value.int IntKind.i64 (x.now + x.dl), Value.int IntKind.i64 x.n] (44 : Nat)] = [Atom.cells x_2.b (x_2.cs ++ x_2.sp) (44 : Nat), Atom.cells x_2.b2 x_2.ys (44 : Nat)] ∧
                                                            (x_2.cs.length = x_2.n * (4 : Nat) ∧ (x_2.cs ++ x_2.sp).length = x_2.cap * (4 : Nat) ∧ x_2.n ≤ x_2.cap ∧ x_2.ys.length = (4 : Nat) ∧ (∀ (u : Value), u ∈ x_2.cs → u.oneCell' = true) ∧ (∀ (u : Value), u ∈ x_2.ys → u.oneCell' = true) ∧ (0 : Int) ≤ x_2.i ∧ x_2.i ≤ (↑x_2.n : Int) ∧ x_2.n ≤ (1000 : Nat)) ∧ True ∧ ∀ (y : Row), IsRow (44 : Nat) (4 : Nat) (List.take (x_2.i.toNat * (4 : Nat)) x_2.cs ++ x_2.ys ++ List.drop (x_2.i.toNat * (4 : Nat)) x_2.cs) y ∧ y.n = x_2.n + (1 : Nat) → Same { block := x.b, off := (1 : Nat) } x.b ∧ Done setBC x F (Ending.returned (Value.int IntKind.i64 (0 : Int))) [((0 : Nat), Atom.cells x.b [Value.int IntKind.i64 x.now, Value.slice y.a y.n y.cap] (59 : Nat)), ((1 : Nat), Atom.emp), ((2 : Nat), Atom.cells x_1.b [Value.int IntKind.i64 x.ow, Value.string x.id, Value.int IntKind.i64 (x.now + x.dl), Value.int IntKind.i64 x.n] (44 : Nat)), ((3 : Nat), F), ((10070 : Nat), Atom.emp), ((10080 : Nat), y.A)])))) := by
  obtain ⟨b, now, ts, rb, cap, sp, ow, id, dl, n⟩ := x
  obtain ⟨hl, hc, h128, hsrt, h0, h1⟩ := hc
  dsimp only at hl hc h128 hsrt h0 h1 ⊢
  simp only [same_refl, true_and, eq_self]
  have fail : ∀ e : Int, setE ts dl = e → e ≠ 0 → Done setBC ⟨b, now, ts, rb, cap, sp, ow, id, dl, n⟩ F (.returned (.int .i64 e)) [(0, .cells b [.int .i64 now, .slice (some ⟨rb, 0, none⟩) ts.length cap] 59), (1, .cells rb (encT ts ++ sp) 44), (2, F)] := by
    intro e he h
    refine ⟨⟨some ⟨rb, 0, none⟩, ts.length, cap, .cells rb (encT ts ++ sp) 44⟩, ?_, by simp only [setBC, he], Ent.pick [0, 1, 2] rfl rfl⟩
    simp only [setBC]; rw [setTs_no (by omega)]; exact isTs_blk hl hc h128 hsrt
  refine br_decide (fun h => fail 1 (setE_arg _ (.inl h)) (by decide)) (fun h => br_decide (fun h2 => fail 1 (setE_arg _ (.inr h2)) (by decide)) (fun h2 => br_decide (fun h3 => fail 4 (setE_full h h2 (by omega)) (by decide)) (fun h3 => ⟨by omega, fun bt => ⟨⟨⟨ts.length, bt⟩, ⟨Nat.le_refl _, ?_⟩, ⟨rfl, rfl, trivial⟩, Ent.pick [0, 1, 6100, 2] rfl rfl⟩, ?_⟩⟩)))
  · intro j u hj hu
    rw [List.getElem?_eq_none hj] at hu; cases hu
  · rintro ⟨k, b'⟩ js ⟨hk, hgt⟩
    dsimp only at hk hgt ⊢
    have he := setE_ok h h2 (show ¬ 128 ≤ ts.length by omega)
    have fin : ∀ bo : Nat, (∀ j u, j < k → ts[j]? = some u → u.due ≤ now + dl) → FnOk Try.prog 28 insBC ∧
        ∃ x_2 : InsX, [Value.slice (some ⟨rb, 0, none⟩) ts.length cap, Value.int .i64 k, Value.slice (some ⟨bo, 0, none⟩) 1 1] = [Value.slice (some ⟨x_2.b, 0, none⟩) x_2.n x_2.cap, Value.int .i64 x_2.i, Value.slice (some ⟨x_2.b2, 0, none⟩) 1 1] ∧
          [Atom.cells rb (encT ts ++ sp) 44, Atom.cells bo [.int .i64 ow, .string id, .int .i64 (now + dl), .int .i64 n] 44] = [Atom.cells x_2.b (x_2.cs ++ x_2.sp) 44, Atom.cells x_2.b2 x_2.ys 44] ∧
          (x_2.cs.length = x_2.n * 4 ∧ (x_2.cs ++ x_2.sp).length = x_2.cap * 4 ∧ x_2.n ≤ x_2.cap ∧ x_2.ys.length = 4 ∧ (∀ u ∈ x_2.cs, u.oneCell' = true) ∧ (∀ u ∈ x_2.ys, u.oneCell' = true) ∧ 0 ≤ x_2.i ∧ x_2.i ≤ x_2.n ∧ x_2.n ≤ 1000) ∧
          ∀ y : Row, IsRow 44 4 (List.take (x_2.i.toNat * 4) x_2.cs ++ x_2.ys ++ List.drop (x_2.i.toNat * 4) x_2.cs) y ∧ y.n = x_2.n + 1 →
            Done setBC ⟨b, now, ts, rb, cap, sp, ow, id, dl, n⟩ F (.returned (.int .i64 0)) [(0, .cells b [.int .i64 now, .slice y.a y.n y.cap] 59), (1, .emp), (2, .cells b' [.int .i64 ow, .string id, .int .i64 (now + dl), .int .i64 n] 44), (3, F), (10070, .emp), (10080, y.A)] := by
      intro bo hle
      refine ⟨ins_ok, ⟨rb, ts.length, cap, encT ts, sp, bo, _, k⟩, rfl, rfl, ⟨encT_length ts, hl, hc, rfl, fun u hu => encT_one hu, ?_, by dsimp only; omega, by dsimp only; omega, by dsimp only; omega⟩, ?_⟩
      · intro u hu
        simp only [List.mem_cons, List.not_mem_nil, or_false] at hu
        rcases hu with rfl | rfl | rfl | rfl <;> rfl
      · rintro y ⟨hy, hn⟩
        dsimp only at hy hn
        refine ⟨y, ?_, by simp only [setBC, he], Ent.pick [0, 10080, 3] rfl rfl⟩
        simp only [setBC]; rw [setTs_yes he]
        have e := insT_at (t := ⟨ow, id, now + dl, n⟩) ts k hk hgt hle
        refine ⟨?_, by rw [insT_length]; exact hn, by rw [insT_length]; omega, insT_srt hsrt⟩
        rw [e, encT_append, encT_cons, ← encT_take, ← encT_drop, ← List.append_assoc]
        exact hy
    refine br_decide (fun hk0 => ?_) (fun hk0 => ?_)
    · obtain ⟨m, rfl⟩ : ∃ m, k = m + 1 := ⟨k - 1, by omega⟩
      obtain ⟨u, hu⟩ : ∃ u, ts[m]? = some u := ⟨ts[m], List.getElem?_eq_getElem (by omega)⟩
      have em : ((m + 1 : Nat) : Int) - 1 = (m : Int) := by omega
      refine ⟨by omega, by omega, u.due, Look.cells ?_, br_decide (fun hd => ⟨by omega, ⟨m, b'⟩, ⟨by dsimp only; omega, ?_⟩, ⟨rfl, by rw [em], trivial⟩, Ent.pick [0, 1, 2, 3] rfl rfl, by dsimp only; omega⟩) (fun hd bo => fin bo ?_)⟩
      · rw [em, Nat.zero_add, Int.toNat_natCast, List.getElem?_append_left, encT_get ts m 2 u hu (by decide)]
        · rfl
        · rw [encT_length]; omega
      · intro j v hj hv
        dsimp only at hj
        rcases Nat.lt_or_ge m j with hlt | hge
        · exact hgt j v hlt hv
        · have : j = m := by omega
          subst this
          rw [hu] at hv; cases hv; exact hd
      · intro j v hj hv
        have := hsrt.get (show j ≤ m by omega) hv hu
        omega
    · exact fun bo => fin bo (fun j v hj _ => by omega)
set_option maxRecDepth 100000 in
theorem setB_ok : FnOk Try.prog 19 setBC :=
  fnOk (N := 69) (by kernel_rfl) Try.func19 rfl (by kernel_rfl) (fun _ => Nat.le_of_ble_eq_true rfl) setB_H [] fun x F hc hr => Eq.mpr (by kernel_rfl) (setB_vc x F hc hr)
theorem set_ok : FnOk Try.prog 19 setC := by
  refine ⟨fun x F I w hc hr hs => ?_⟩
  obtain ⟨b, now, ts, row, ow, id, dl, n⟩ := x
  obtain ⟨⟨hrow, hn, h128, hsrt⟩, h0, h1⟩ := hc
  dsimp only at hrow hn h128 hsrt h0 h1
  cases hrow with
  | nil h =>
    have : ts = [] := List.eq_nil_of_length_eq_zero hn.symm
    subst this
    exact setN_ok.h ⟨b, now, [], 0, 0, [], ow, id, dl, n⟩ F I w ⟨h0, h1⟩ trivial hs
  | blk rb n' cap sp hl hs' hn' =>
    dsimp only at hn
    subst hn
    exact setB_ok.h ⟨b, now, ts, rb, cap, sp, ow, id, dl, n⟩ F I w ⟨hs', hn', h128, hsrt, h0, h1⟩ trivial hs
end Go.Proofs.Ytmknmibmnidnoaa
