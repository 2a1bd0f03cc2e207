/- ClockSorts. -/
import Derived.Test.YtmknmibmnidnoaaClkM2
set_option linter.all false
namespace Go.Proofs.Ytmknmibmnidnoaa
open Go
def u16s (ds : List Int) : List Value := ds.map fun n => .int .u16 n
def sX : ByteArray := ⟨#[120]⟩
def mk1 (i : Nat) (d : Int) : Tmr := ⟨(i : Int).tmod 3, sX, 0 + d, i⟩
def us : List Int → Nat → List Tmr
  | [], _ => []
  | d :: r, i => mk1 i d :: us r (i + 1)
theorem us_snoc (l : List Int) (d : Int) : ∀ i, us (l ++ [d]) i = us l i ++ [mk1 (i + l.length) d] := by
  induction l with
  | nil => intro i; rfl
  | cons x r ih => intro i; rw [List.cons_append, us, ih, us, List.cons_append, List.length_cons, Nat.add_right_comm]; rfl
theorem us_take {ds : List Int} {k : Nat} {d : Int} (h : ds[k]? = some d) : us (ds.take (k + 1)) 0 = us (ds.take k) 0 ++ [mk1 k d] := by
  have hk : k < ds.length := (List.getElem?_eq_some_iff.1 h).1
  rw [List.take_add_one, h]
  exact (us_snoc _ _ _).trans (by rw [Nat.zero_add, List.length_take, Nat.min_eq_left (by omega)])
theorem us_length (l : List Int) : ∀ i, (us l i).length = l.length := by
  induction l with
  | nil => intro i; rfl
  | cons x r ih => intro i; rw [us, List.length_cons, ih, List.length_cons]
theorem us_mem (l : List Int) : ∀ i u, u ∈ us l i → ∃ j d, l[j]? = some d ∧ u = mk1 (i + j) d := by
  induction l with
  | nil => intro i u h; simp [us] at h
  | cons x r ih =>
    intro i u h
    rw [us, List.mem_cons] at h
    rcases h with rfl | h
    · exact ⟨0, x, rfl, rfl⟩
    · obtain ⟨j, d, hj, rfl⟩ := ih _ _ h
      exact ⟨j + 1, d, hj, by rw [Nat.add_assoc, Nat.add_comm 1 j]⟩
theorem us_inc (l : List Int) : ∀ i, (us l i).Pairwise fun a b => a.n < b.n := by
  induction l with
  | nil => intro i; simp [us]
  | cons x r ih =>
    intro i
    rw [us]
    refine List.pairwise_cons.2 ⟨fun u hu => ?_, ih _⟩
    obtain ⟨j, d, _, rfl⟩ := us_mem _ _ _ hu
    simp only [mk1]; omega
def Bef (a b : Tmr) : Prop := a.due < b.due ∨ a.due = b.due ∧ a.n < b.n
theorem insT_bef {t : Tmr} {ts : List Tmr} (h : ts.Pairwise Bef) (hn : ∀ u ∈ ts, u.n < t.n) : (insT t ts).Pairwise Bef := by
  induction ts with
  | nil => simp [insT]
  | cons x r ih =>
    have hx := List.pairwise_cons.1 h
    by_cases hle : x.due ≤ t.due
    · rw [insT_le hle]
      refine List.pairwise_cons.2 ⟨fun u hu => ?_, ih hx.2 fun u hu => hn u (List.mem_cons_of_mem _ hu)⟩
      rcases mem_insT.1 hu with rfl | hu
      · have := hn x (by simp)
        unfold Bef; omega
      · exact hx.1 u hu
    · rw [insT_gt hle]
      refine List.pairwise_cons.2 ⟨fun u hu => ?_, h⟩
      rcases List.mem_cons.1 hu with rfl | hu
      · unfold Bef; omega
      · have := hx.1 u hu
        unfold Bef at *; omega
theorem srt_bef {us : List Tmr} (h : us.Pairwise fun a b => a.n < b.n) : (srt us).Pairwise Bef := by
  have : ∀ (us a : List Tmr), a.Pairwise Bef → (∀ u ∈ a, ∀ t ∈ us, u.n < t.n) → (us.Pairwise fun a b => a.n < b.n) → (us.foldl (fun a t => insT t a) a).Pairwise Bef := by
    intro us
    induction us with
    | nil => intro a h _ _; exact h
    | cons t r ih =>
      intro a h hlt hp
      have hp := List.pairwise_cons.1 hp
      refine ih _ (insT_bef h fun u hu => hlt u hu t (by simp)) (fun u hu v hv => ?_) hp.2
      rcases mem_insT.1 hu with rfl | hu
      · exact hp.1 v hv
      · exact hlt u hu v (List.mem_cons_of_mem _ hv)
  exact this us [] (by simp) (by simp) h
theorem srt_us {ds : List Int} {m : Nat} {p : Tmr} (h : (srt (us ds 0))[m]? = some p) : ∃ i d, ds[i]? = some d ∧ p.due = d ∧ p.n = (i : Nat) := by
  obtain ⟨i, d, hd, rfl⟩ := us_mem _ _ _ (mem_srt.1 (List.mem_of_getElem? h))
  exact ⟨i, d, hd, by simp [mk1], by simp [mk1]⟩
theorem u16s_get {ns : List Int} {j : Nat} {n : Int} (h : ns[j]? = some n) : (u16s ns)[j]? = some (.int .u16 n) := by simp [u16s, h]
theorem u16s_length (ns : List Int) : (u16s ns).length = ns.length := by simp [u16s]
structure SortX where
  a : Option Addr
  n : Nat
  cap : Nat
  ds : List Int
def sortsC : Con where
  X := SortX
  Y := Unit
  args x := [.slice x.a x.n x.cap]
  pre _ := []
  cond x := IsSrc 1 (u16s x.ds) x.a x.n ∧ ∀ d ∈ x.ds, 0 ≤ d ∧ d ≤ 65535
  rdc x F := Srcd F x.a (u16s x.ds)
  rel _ _ := True
  val _ _ := .returned (.bool true)
  post _ _ := []
  rmono _ _ _ h hk := hk.sub h
structure SortI where
  k : Nat
  b : Nat
  row : Row
structure SortJ where
  k : Nat
  b : Nat
  row : Row
  r : Row
def sortInv (x : SortX) (F : Atom) : Nat → Option Inv := fun
  | 0 => some { X := SortI, P := fun i => x.n ≤ 128 ∧ i.k ≤ x.n ∧ isTs (srt (us (x.ds.take i.k) 0)) i.row, mu := fun i => x.n - i.k, lv := fun i => [(0, .slice x.a x.n x.cap), (3, .pointer (some ⟨i.b, 0, none⟩)), (17, .slice x.a x.n x.cap), (18, .int .i64 x.n), (19, .int .i64 i.k)], st := fun i => [F, clkA i.b 0 i.row, i.row.A] }
  | 2 => some { X := SortJ, P := fun i => x.n ≤ 128 ∧ 1 ≤ i.k ∧ i.k ≤ 129 ∧ isNs ((srt (us x.ds 0)).map (·.n)) i.r ∧ isTs [] i.row, mu := fun i => 200 - i.k, lv := fun i => [(0, .slice x.a x.n x.cap), (3, .pointer (some ⟨i.b, 0, none⟩)), (6, .slice i.r.a i.r.n i.r.cap), (8, .int .i64 i.k)], st := fun i => [F, clkA i.b 70000 i.row, i.row.A, i.r.A] }
  | _ => none
def sortOv (_x : SortX) (_F : Atom) : List (Nat × Nat × OH) := [(1, 0, .c awakeC [] []), (5, 0, .c newC [] [100]), (8, 1, .qo (ixQ 1)), (8, 2, .q [.ex 0 (.int .u16)]), (9, 6, .c setC [1, 2] [1, 2]), (12, 1, .c tickC [1, 2] [1, 2, 3]),
  (18, 3, .qo (ixQ 1)), (18, 4, .q [.ex 3 (.int .i64)]), (18, 7, .qo (ixQ 1)), (18, 8, .q [.ex 3 (.int .i64)]), (19, 2, .qo (ixQ 1)), (19, 3, .q [.ex 0 (.int .u16)]), (19, 6, .qo (ixQ 1)), (19, 7, .q [.ex 0 (.int .u16)]),
  (19, 12, .qo (ixQ 1)), (19, 13, .q [.ex 0 (.int .u16)]), (19, 16, .qo (ixQ 1)), (19, 17, .q [.ex 0 (.int .u16)]), (21, 1, .c timersC [1, 2] [1, 2, 4])]
noncomputable def sorts_H (x : Con.X sortsC) (F : Atom) : Hints where
  op := hk ((sortOv x F) ++ [])
  inv := sortInv x F
  cut := (fun _ _ _ => none) x F
  ord := (fun _ => [])
set_option maxRecDepth 100000 in
theorem sorts_vc (x : SortX) (F : Atom) (hc : Con.cond sortsC x) (hr : Con.rdc sortsC x F) :
  FnOk Try.prog (7 : Nat) awakeC ∧
    true = true ∧
      ∃ (x_1 : Unit),
        ([] : List Value) = [] ∧
          ([] : List Atom) = [] ∧
            True ∧
              True ∧
                ∀ (y : Unit),
                  True →
                    Br (decide ((↑x.n : Int) > (128 : Int))) (Done sortsC x F (Ending.returned (Value.bool true)) [((0 : Nat), F)])
                      (FnOk Try.prog (8 : Nat) newC ∧
                        true = true ∧
                          ∃ (x_2 : Unit),
                            ([] : List Value) = [] ∧
                              ([] : List Atom) = [] ∧
                                True ∧
                                  True ∧
                                    ∀ (y : Nat),
                                      True →
                                        (∃ (x_3 : SortI), (x.n ≤ (128 : Nat) ∧ x_3.k ≤ x.n ∧ isTs (srt (us (List.take x_3.k x.ds) (0 : Nat))) x_3.row) ∧ (Value.slice x.a x.n x.cap = Value.slice x.a x.n x.cap ∧ Value.pointer (some { block := y, off := (0 : Nat) }) = Value.pointer (some { block := x_3.b, off := (0 : Nat) }) ∧ Value.slice x.a x.n x.cap = Value.slice x.a x.n x.cap ∧ Value.int IntKind.i64 (↑x.n : Int) = Value.int IntKind.i64 (↑x.n : Int) ∧ Value.int IntKind.i64 (0 : Int) = Value.int IntKind.i64 (↑x_3.k : Int) ∧ True) ∧ Ent [((0 : Nat), F), ((100 : Nat), Atom.cells y [Value.int IntKind.i64 (0 : Int), Value.slice none (0 : Nat) (0 : Nat)] (59 : Nat))] [((0 : Nat), F), ((1 : Nat), Atom.cells x_3.b [Value.int IntKind.i64 (0 : Int), Value.slice x_3.row.a x_3.row.n x_3.row.cap] (59 : Nat)), ((2 : Nat), x_3.row.A)]) ∧
                                          ∀ (x_3 : SortI) (js : Nat → Value),
                                            x.n ≤ (128 : Nat) ∧ x_3.k ≤ x.n ∧ isTs (srt (us (List.take x_3.k x.ds) (0 : Nat))) x_3.row →
                                              Br (decide ((↑x_3.k : Int) < (↑x.n : Int)))
                                                (QOpOk Try.prog (opIn Try.f6 (8 : Nat) (1 : Nat)) (ixQ (1 : Nat)) ∧
                                                  ∃ (x_4 : IxQX),
                                                    [Value.slice x.a x.n x.cap, Value.int IntKind.i64 (↑x_3.k : Int)] = [Value.slice (some { block := x_4.b, off := x_4.o }) x_4.len x_4.cap, Value.int IntKind.i64 x_4.n] ∧
                                                      ((0 : Int) ≤ x_4.n ∧ x_4.n < (↑x_4.len : Int)) ∧
                                                        ∃ (n : Int),
                                                          Look F { block := x_4.b, off := x_4.o + x_4.n.toNat * (1 : Nat) } (Value.int IntKind.u16 n) ∧
                                                            (3 : Int) ≠ (0 : Int) ∧
                                                              ((-9223372036854775808 : Int) ≤ n ∧ n ≤ (9223372036854775807 : Int)) ∧
                                                                FnOk Try.prog (19 : Nat) setC ∧
                                                                  true = true ∧
                                                                    ∃ (x_5 : SetX),
                                                                      [Value.pointer (some { block := x_3.b, off := (0 : Nat) }), Value.int IntKind.i64 ((↑x_3.k : Int).tmod (3 : Int)), Value.string { data := #[(120 : UInt8)] }, Value.int IntKind.i64 n, Value.int IntKind.i64 (↑x_3.k : Int)] = [Value.pointer (some { block := x_5.b, off := (0 : Nat) }), Value.int IntKind.i64 x_5.ow, Value.string x_5.id, Value.int IntKind.i64 x_5.dl, Value.int IntKind.i64 x_5.n] ∧
                                                                        [Atom.cells x_3.b [Value.int IntKind.i64 (0 : Int), Value.slice x_3.row.a x_3.row.n x_3.row.cap] (59 : Nat), x_3.row.A] = [Atom.cells x_5.b [Value.int IntKind.i64 x_5.now, Value.slice x_5.row.a x_5.row.n x_5.row.cap] (59 : Nat), x_5.row.A] ∧
                                                                          (isTs x_5.ts x_5.row ∧ (0 : Int) ≤ x_5.now ∧ x_5.now ≤ (9007199254740992 : Int)) ∧
                                                                            True ∧
                                                                              ∀ (y : Row),
                                                                                isTs (setTs x_5.ts x_5.t x_5.dl) y →
                                                                                  Br (setE x_5.ts x_5.dl != (0 : Int)) (Done sortsC x F (Ending.returned (Value.bool false)) [((0 : Nat), F), ((1 : Nat), Atom.cells x_5.b [Value.int IntKind.i64 x_5.now, Value.slice y.a y.n y.cap] (59 : Nat)), ((2 : Nat), y.A)])
                                                                                    (((-9223372036854775808 : Int) ≤ (↑x_3.k : Int) + (1 : Int) ∧ (↑x_3.k : Int) + (1 : Int) ≤ (9223372036854775807 : Int)) ∧
                                                                                      ∃ (y_1 : SortI), (x.n ≤ (128 : Nat) ∧ y_1.k ≤ x.n ∧ isTs (srt (us (List.take y_1.k x.ds) (0 : Nat))) y_1.row) ∧ (Value.slice x.a x.n x.cap = Value.slice x.a x.n x.cap ∧ Value.pointer (some { block := x_3.b, off := (0 : Nat) }) = Value.pointer (some { block := y_1.b, off := (0 : Nat) }) ∧ Value.slice x.a x.n x.cap = Value.slice x.a x.n x.cap ∧ Value.int IntKind.i64 (↑x.n : Int) = Value.int IntKind.i64 (↑x.n : Int) ∧ Value.int IntKind.i64 ((↑x_3.k : Int) + (1 : Int)) = Value.int IntKind.i64 (↑y_1.k : Int) ∧ True) ∧ Ent [((0 : Nat), F), ((1 : Nat), Atom.cells x_5.b [Value.int IntKind.i64 x_5.now, Value.slice y.a y.n y.cap] (59 : Nat)), ((2 : Nat), y.A)] [((0 : Nat), F), ((1 : Nat), Atom.cells y_1.b [Value.int IntKind.i64 (0 : Int), Value.slice y_1.row.a y_1.row.n y_1.row.cap] (59 : Nat)), ((2 : Nat), y_1.row.A)] ∧ x.n - y_1.k < x.n - x_3.k))
                                                (FnOk Try.prog (18 : Nat) tickC ∧
                                                  true = true ∧
                                                    ∃ (x_4 : TickX),
                                                      [Value.pointer (some { block := x_3.b, off := (0 : Nat) }), Value.int IntKind.i64 (70000 : Int)] = [Value.pointer (some { block := x_4.b, off := (0 : Nat) }), Value.int IntKind.i64 x_4.by'] ∧
                                                        [Atom.cells x_3.b [Value.int IntKind.i64 (0 : Int), Value.slice x_3.row.a x_3.row.n x_3.row.cap] (59 : Nat), x_3.row.A] = [Atom.cells x_4.b [Value.int IntKind.i64 x_4.now, Value.slice x_4.row.a x_4.row.n x_4.row.cap] (59 : Nat), x_4.row.A] ∧
                                                          (isTs x_4.ts x_4.row ∧ (0 : Int) ≤ x_4.now ∧ x_4.now ≤ (9007199254740992 : Int)) ∧
                                                            True ∧
                                                              ∀ (y : DfY),
                                                                isTs (stay (tickG x_4.now x_4.by') x_4.ts) y.row ∧ isNs (nts (tickG x_4.now x_4.by') x_4.ts) y.r →
                                                                  Br (tickE x_4.now x_4.by' != (0 : Int)) (Done sortsC x F (Ending.returned (Value.bool false)) [((0 : Nat), F), ((1 : Nat), Atom.cells x_4.b [Value.int IntKind.i64 (tickNow x_4.now x_4.by'), Value.slice y.row.a y.row.n y.row.cap] (59 : Nat)), ((2 : Nat), y.row.A), ((3 : Nat), y.r.A)])
                                                                    (Br ((↑y.r.n : Int) != (↑x.n : Int)) (Done sortsC x F (Ending.returned (Value.bool false)) [((0 : Nat), F), ((1 : Nat), Atom.cells x_4.b [Value.int IntKind.i64 (tickNow x_4.now x_4.by'), Value.slice y.row.a y.row.n y.row.cap] (59 : Nat)), ((2 : Nat), y.row.A), ((3 : Nat), y.r.A)])
                                                                      ((∃ (x_5 : SortJ), (x.n ≤ (128 : Nat) ∧ (1 : Nat) ≤ x_5.k ∧ x_5.k ≤ (129 : Nat) ∧ isNs (List.map (fun (x : Tmr) => x.n) (srt (us x.ds (0 : Nat)))) x_5.r ∧ isTs [] x_5.row) ∧ (Value.slice x.a x.n x.cap = Value.slice x.a x.n x.cap ∧ Value.pointer (some { block := x_3.b, off := (0 : Nat) }) = Value.pointer (some { block := x_5.b, off := (0 : Nat) }) ∧ Value.slice y.r.a y.r.n y.r.cap = Value.slice x_5.r.a x_5.r.n x_5.r.cap ∧ Value.int IntKind.i64 (1 : Int) = Value.int IntKind.i64 (↑x_5.k : Int) ∧ True) ∧ Ent [((0 : Nat), F), ((1 : Nat), Atom.cells x_4.b [Value.int IntKind.i64 (tickNow x_4.now x_4.by'), Value.slice y.row.a y.row.n y.row.cap] (59 : Nat)), ((2 : Nat), y.row.A), ((3 : Nat), y.r.A)] [((0 : Nat), F), ((1 : Nat), Atom.cells x_5.b [Value.int IntKind.i64 (70000 : Int), Value.slice x_5.row.a x_5.row.n x_5.row.cap] (59 : Nat)), ((2 : Nat), x_5.row.A), ((3 : Nat), x_5.r.A)]) ∧
                                                                        ∀ (x_5 : SortJ) (js : Nat → Value),
                                                                          x.n ≤ (128 : Nat) ∧ (1 : Nat) ≤ x_5.k ∧ x_5.k ≤ (129 : Nat) ∧ isNs (List.map (fun (x : Tmr) => x.n) (srt (us x.ds (0 : Nat)))) x_5.r ∧ isTs [] x_5.row →
                                                                            Br (decide ((↑x_5.k : Int) < (↑x_5.r.n : Int)))
                                                                              (true = true ∧
                                                                                ((-9223372036854775808 : Int) ≤ (↑x_5.k : Int) - (1 : Int) ∧ (↑x_5.k : Int) - (1 : Int) ≤ (9223372036854775807 : Int)) ∧
                                                                                  QOpOk Try.prog (opIn Try.f6 (18 : Nat) (3 : Nat)) (ixQ (1 : Nat)) ∧
                                                                                    ∃ (x_6 : IxQX),
                                                                                      [Value.slice x_5.r.a x_5.r.n x_5.r.cap, Value.int IntKind.i64 ((↑x_5.k : Int) - (1 : Int))] = [Value.slice (some { block := x_6.b, off := x_6.o }) x_6.len x_6.cap, Value.int IntKind.i64 x_6.n] ∧
                                                                                        ((0 : Int) ≤ x_6.n ∧ x_6.n < (↑x_6.len : Int)) ∧
                                                                                          ∃ (n : Int),
                                                                                            Look x_5.r.A { block := x_6.b, off := x_6.o + x_6.n.toNat * (1 : Nat) } (Value.int IntKind.i64 n) ∧
                                                                                              QOpOk Try.prog (opIn Try.f6 (18 : Nat) (7 : Nat)) (ixQ (1 : Nat)) ∧
                                                                                                ∃ (x_7 : IxQX),
                                                                                                  [Value.slice x_5.r.a x_5.r.n x_5.r.cap, Value.int IntKind.i64 (↑x_5.k : Int)] = [Value.slice (some { block := x_7.b, off := x_7.o }) x_7.len x_7.cap, Value.int IntKind.i64 x_7.n] ∧
                                                                                                    ((0 : Int) ≤ x_7.n ∧ x_7.n < (↑x_7.len : Int)) ∧
                                                                                                      ∃ (n_1 : Int),
                                                                                                        Look x_5.r.A { block := x_7.b, off := x_7.o + x_7.n.toNat * (1 : Nat) } (Value.int IntKind.i64 n_1) ∧
                                                                                                          true = true ∧
                                                                                                            QOpOk Try.prog (opIn Try.f6 (19 : Nat) (2 : Nat)) (ixQ (1 : Nat)) ∧
                                                                                                              ∃ (x_8 : IxQX),
                                                                                                                [Value.slice x.a x.n x.cap, Value.int IntKind.i64 n] = [Value.slice (some { block := x_8.b, off := x_8.o }) x_8.len x_8.cap, Value.int IntKind.i64 x_8.n] ∧
                                                                                                                  ((0 : Int) ≤ x_8.n ∧ x_8.n < (↑x_8.len : Int)) ∧
                                                                                                                    ∃ (n_2 : Int),
                                                                                                                      Look F { block := x_8.b, off := x_8.o + x_8.n.toNat * (1 : Nat) } (Value.int IntKind.u16 n_2) ∧
                                                                                                                        QOpOk Try.prog (opIn Try.f6 (19 : Nat) (6 : Nat)) (ixQ (1 : Nat)) ∧
                                                                                                                          ∃ (x_9 : IxQX),
                                                                                                                            [Value.slice x.a x.n x.cap, Value.int IntKind.i64 n_1] = [Value.slice (some { block := x_9.b, off := x_9.o }) x_9.len x_9.cap, Value.int IntKind.i64 x_9.n] ∧
                                                                                                                              ((0 : Int) ≤ x_9.n ∧ x_9.n < (↑x_9.len : Int)) ∧
                                                                                                                                ∃ (n_3 : Int),
                                                                                                                                  Look F { block := x_9.b, off := x_9.o + x_9.n.toNat * (1 : Nat) } (Value.int IntKind.u16 n_3) ∧
                                                                                                                                    Br (decide (n_2 > n_3)) False
                                                                                                                                      (QOpOk Try.prog (opIn Try.f6 (19 : Nat) (12 : Nat)) (ixQ (1 : Nat)) ∧
                                                                                                                                        ∃ (x_10 : IxQX),
                                                                                                                                          [Value.slice x.a x.n x.cap, Value.int IntKind.i64 n] = [Value.slice (some { block := x_10.b, off := x_10.o }) x_10.len x_10.cap, Value.int IntKind.i64 x_10.n] ∧
                                                                                                                                            ((0 : Int) ≤ x_10.n ∧ x_10.n < (↑x_10.len : Int)) ∧
                                                                                                                                              ∃ (n_4 : Int),
                                                                                                                                                Look F { block := x_10.b, off := x_10.o + x_10.n.toNat * (1 : Nat) } (Value.int IntKind.u16 n_4) ∧
                                                                                                                                                  QOpOk Try.prog (opIn Try.f6 (19 : Nat) (16 : Nat)) (ixQ (1 : Nat)) ∧
                                                                                                                                                    ∃ (x_11 : IxQX),
                                                                                                                                                      [Value.slice x.a x.n x.cap, Value.int IntKind.i64 n_1] = [Value.slice (some { block := x_11.b, off := x_11.o }) x_11.len x_11.cap, Value.int IntKind.i64 x_11.n] ∧
                                                                                                                                                        ((0 : Int) ≤ x_11.n ∧ x_11.n < (↑x_11.len : Int)) ∧
                                                                                                                                                          ∃ (n_5 : Int),
                                                                                                                                                            Look F { block := x_11.b, off := x_11.o + x_11.n.toNat * (1 : Nat) } (Value.int IntKind.u16 n_5) ∧
                                                                                                                                                              Br (n_4 == n_5)
                                                                                                                                                                (Br (decide (n ≥ n_1)) (Done sortsC x F (Ending.returned (Value.bool false)) [((0 : Nat), F), ((1 : Nat), Atom.cells x_5.b [Value.int IntKind.i64 (70000 : Int), Value.slice x_5.row.a x_5.row.n x_5.row.cap] (59 : Nat)), ((2 : Nat), x_5.row.A), ((3 : Nat), x_5.r.A)])
                                                                                                                                                                  (((-9223372036854775808 : Int) ≤ (↑x_5.k : Int) + (1 : Int) ∧ (↑x_5.k : Int) + (1 : Int) ≤ (9223372036854775807 : Int)) ∧
                                                                                                                                                                    ∃ (y : SortJ),
                                                                                                                                                                      (x.n ≤ (128 : Nat) ∧ (1 : Nat) ≤ y.k ∧ y.k ≤ (129 : Nat) ∧ isNs (List.map (fun (x : Tmr) => x.n) (srt (us x.ds (0 : Nat)))) y.r ∧ isTs [] y.row) ∧
                                                                                                                                                                        (Value.slice x.a x.n x.cap = Value.slice x.a x.n x.cap ∧ Value.pointer (some { block := x_5.b, off := (0 : Nat) }) = Value.pointer (some { block := y.b, off := (0 : Nat) }) ∧ Value.slice x_5.r.a x_5.r.n x_5.r.cap = Value.slice y.r.a y.r.n y.r.cap ∧ Value.int IntKind.i64 ((↑x_5.k : Int) + (1 : Int)) = Value.int IntKind.i64 (↑y.k : Int) ∧ True) ∧ Ent [((0 : Nat), F), ((1 : Nat), Atom.cells x_5.b [Value.int IntKind.i64 (70000 : Int), Value.slice x_5.row.a x_5.row.n x_5.row.cap] (59 : Nat)), ((2 : Nat), x_5.row.A), ((3 : Nat), x_5.r.A)] [((0 : Nat), F), ((1 : Nat), Atom.cells y.b [Value.int IntKind.i64 (70000 : Int), Value.slice y.row.a y.row.n y.row.cap] (59 : Nat)), ((2 : Nat), y.row.A), ((3 : Nat), y.r.A)] ∧ (200 : Nat) - y.k < (200 : Nat) - x_5.k))
                                                                                                                                                                (((-9223372036854775808 : Int) ≤ (↑x_5.k : Int) + (1 : Int) ∧ (↑x_5.k : Int) + (1 : Int) ≤ (9223372036854775807 : Int)) ∧
                                                                                                                                                                  ∃ (y : SortJ),
                                                                                                                                                                    (x.n ≤ (128 : Nat) ∧ (1 : Nat) ≤ y.k ∧ y.k ≤ (129 : Nat) ∧ isNs (List.map (fun (x : Tmr) => x.n) (srt (us x.ds (0 : Nat)))) y.r ∧ isTs [] y.row) ∧
                                                                                                                                                                      (Value.slice x.a x.n x.cap = Value.slice x.a x.n x.cap ∧ Value.pointer (some { block := x_5.b, off := (0 : Nat) }) = Value.pointer (some { block := y.b, off := (0 : Nat) }) ∧ Value.slice x_5.r.a x_5.r.n x_5.r.cap = Value.slice y.r.a y.r.n y.r.cap ∧ Value.int IntKind.i64 ((↑x_5.k : Int) + (1 : Int)) = Value.int IntKind.i64 (↑y.k : Int) ∧ True) ∧ Ent [((0 : Nat), F), ((1 : Nat), Atom.cells x_5.b [Value.int IntKind.i64 (70000 : Int), Value.slice x_5.row.a x_5.row.n x_5.row.cap] (59 : Nat)), ((2 : Nat), x_5.row.A), ((3 : Nat), x_5.r.A)] [((0 : Nat), F), ((1 : Nat), Atom.cells y.b [Value.int IntKind.i64 (70000 : Int), Value.slice y.row.a y.row.n y.row.cap] (59 : Nat)), ((2 : Nat), y.row.A), ((3 : Nat), y.r.A)] ∧ (200 : Nat) - y.k < (200 : Nat) - x_5.k)))
                                                                              (FnOk Try.prog (14 : Nat) timersC ∧ true = true ∧ ∃ (x_6 : ClkX), [Value.pointer (some { block := x_5.b, off := (0 : Nat) })] = [Value.pointer (some { block := x_6.b, off := (0 : Nat) })] ∧ [Atom.cells x_5.b [Value.int IntKind.i64 (70000 : Int), Value.slice x_5.row.a x_5.row.n x_5.row.cap] (59 : Nat), x_5.row.A] = [Atom.cells x_6.b [Value.int IntKind.i64 x_6.now, Value.slice x_6.row.a x_6.row.n x_6.row.cap] (59 : Nat), x_6.row.A] ∧ isTs x_6.ts x_6.row ∧ True ∧ ∀ (y : Row), IsRow (44 : Nat) (4 : Nat) (encT x_6.ts) y ∧ y.n = x_6.ts.length → Done sortsC x F (Ending.returned (Value.bool ((↑y.n : Int) == (0 : Int)))) [((0 : Nat), F), ((1 : Nat), Atom.cells x_6.b [Value.int IntKind.i64 x_6.now, Value.slice x_6.row.a x_6.row.n x_6.row.cap] (59 : Nat)), ((2 : Nat), x_6.row.A), ((3 : Nat), x_5.r.A), ((4 : Nat), y.A)]))))) := by
  obtain ⟨a, n, cap, ds⟩ := x
  obtain ⟨hsrc, hd⟩ := hc
  dsimp only at hsrc hd
  replace hr : Srcd F a (u16s ds) := hr
  have hlen : ds.length = n := by have := hsrc.len; rw [u16s_length] at this; omega
  have e1 : ∀ o k : Nat, o + (k : Int).toNat * 1 = o + k := fun o k => by omega
  refine ⟨awake_ok, rfl, (), rfl, rfl, trivial, trivial, fun _ _ => br_decide (fun _ => ⟨(), trivial, rfl, Ent.pick [0] rfl rfl⟩) (fun h128 => ?_)⟩
  dsimp only at h128 ⊢
  refine ⟨new_ok, rfl, (), rfl, rfl, trivial, trivial, fun b _ => ⟨⟨⟨0, b, ⟨none, 0, 0, .emp⟩⟩, ⟨by omega, Nat.zero_le _, isTs_nil⟩, ⟨rfl, rfl, rfl, rfl, rfl, trivial⟩, Ent.pick [0, 100, 77] rfl rfl⟩, ?_⟩⟩
  rintro ⟨k, b, row⟩ js ⟨h1, h2, hts⟩
  dsimp only at h1 h2 hts ⊢
  refine br_decide (fun hlt => ?_) (fun hge => ?_)
  · obtain ⟨b1, o1, rfl⟩ := hsrc.some (by omega)
    obtain ⟨d, hdk⟩ : ∃ d, ds[k]? = some d := ⟨ds[k], List.getElem?_eq_getElem (by omega)⟩
    obtain ⟨hd0, hd1⟩ := hd d (List.mem_of_getElem? hdk)
    have hlt' : ¬ 128 ≤ (srt (us (ds.take k) 0)).length := by rw [srt_length, us_length, List.length_take]; omega
    have he : setE (srt (us (ds.take k) 0)) d = 0 := setE_ok (by omega) (by omega) hlt'
    refine ⟨ixq_ok 1 rfl rfl rfl rfl, ⟨b1, o1, n, cap, k⟩, rfl, by dsimp only; omega, d, ?_, by decide, by omega, set_ok, rfl, ⟨b, 0, srt (us (ds.take k) 0), row, (k : Int).tmod 3, sX, d, k⟩, rfl, rfl, ⟨hts, by dsimp only; omega, by dsimp only; omega⟩, trivial, fun y hy => ?_⟩
    · dsimp only; rw [e1]; exact hr.look (u16s_get hdk)
    · dsimp only
      rw [he]
      refine br_intro (fun h => by simp at h) (fun _ => ⟨by omega, ⟨k + 1, b, y⟩, ⟨h1, by dsimp only; omega, ?_⟩, ⟨rfl, rfl, rfl, rfl, rfl, trivial⟩, Ent.pick [0, 1, 2] rfl rfl, by dsimp only; omega⟩)
      dsimp only
      rw [us_take hdk, srt_snoc]
      have : setTs (srt (us (ds.take k) 0)) (mk1 k d) d = insT (mk1 k d) (srt (us (ds.take k) 0)) := setTs_yes he
      rw [← this]
      exact hy
  · have hk : k = n := by omega
    subst hk
    rw [List.take_of_length_le (by omega)] at hts
    have hall : ∀ t ∈ srt (us ds 0), tickG 0 70000 t = true := by
      intro t ht
      obtain ⟨i, e, hie, rfl⟩ := us_mem _ _ _ (mem_srt.1 ht)
      have := (hd e (List.mem_of_getElem? hie)).2
      simp [tickG, tickE, mk1]; omega
    have hnts : nts (tickG 0 70000) (srt (us ds 0)) = (srt (us ds 0)).map (·.n) := by
      unfold nts
      rw [List.filter_eq_self.2 hall]
    have hstay : stay (tickG 0 70000) (srt (us ds 0)) = [] := by
      unfold stay
      rw [List.filter_eq_nil_iff]
      intro t ht
      rw [hall t ht]; simp
    have hte : tickE 0 70000 = 0 := by simp [tickE]
    have htn : tickNow 0 70000 = 70000 := by simp [tickNow, hte]
    refine ⟨tick_ok, rfl, ⟨b, 0, srt (us ds 0), row, 70000⟩, rfl, rfl, ⟨hts, by dsimp only; omega, by dsimp only; omega⟩, trivial, ?_⟩
    rintro ⟨row2, r2⟩ ⟨hy1, hy2⟩
    dsimp only at hy1 hy2 ⊢
    rw [hstay] at hy1
    rw [hnts] at hy2
    have hrn : r2.n = k := by rw [hy2.2, List.length_map, srt_length, us_length]; exact hlen
    rw [hte, htn, hrn]
    refine br_intro (fun h => by simp at h) (fun _ => br_intro (fun h => by simp at h) (fun _ => ⟨⟨⟨1, b, row2, r2⟩, ⟨h1, Nat.le_refl 1, by dsimp only; omega, hy2, hy1⟩, ⟨rfl, rfl, by rw [hrn], rfl, trivial⟩, Ent.pick [0, 1, 2, 3] (by decide) (by simp only [List.map, hrn]; rfl)⟩, ?_⟩))
    clear hrn hy1 hy2 hts
    rintro ⟨m, b2, row3, r3⟩ js ⟨_, hm1, hm2, hr3, hts⟩
    dsimp only at hm1 hm2 hr3 hts ⊢
    have hl3 : r3.n = k := by rw [hr3.2, List.length_map, srt_length, us_length]; exact hlen
    refine br_decide (fun hlt => ?_) (fun _ => ?_)
    · obtain ⟨b1, o1, rfl⟩ := hsrc.some (by omega)
      obtain ⟨b4, o4, ea⟩ := hr3.1.src.some (by omega)
      have hs3 := hr3.1.srcd
      rw [ea] at hs3
      obtain ⟨m, rfl⟩ : ∃ m', m = m' + 1 := ⟨m - 1, by omega⟩
      have hl : (srt (us ds 0)).length = k := by rw [srt_length, us_length]; exact hlen
      obtain ⟨p, hp⟩ : ∃ p, (srt (us ds 0))[m]? = some p := ⟨(srt (us ds 0))[m], List.getElem?_eq_getElem (by omega)⟩
      obtain ⟨q, hq⟩ : ∃ q, (srt (us ds 0))[m + 1]? = some q := ⟨(srt (us ds 0))[m + 1], List.getElem?_eq_getElem (by omega)⟩
      have hbef : Bef p q := by
        obtain ⟨h1, rfl⟩ := List.getElem?_eq_some_iff.1 hp
        obtain ⟨h2, rfl⟩ := List.getElem?_eq_some_iff.1 hq
        exact List.pairwise_iff_getElem.1 (srt_bef (us_inc ds 0)) m (m + 1) h1 h2 (by omega)
      obtain ⟨i, d, hid, hpd, hpn⟩ := srt_us hp
      obtain ⟨j, e, hje, hqe, hqn⟩ := srt_us hq
      have hik : i < k := by have := (List.getElem?_eq_some_iff.1 hid).1; omega
      have hjk : j < k := by have := (List.getElem?_eq_some_iff.1 hje).1; omega
      have em : ((m + 1 : Nat) : Int) - 1 = (m : Nat) := by omega
      have lp : Look r3.A ⟨b4, o4 + m, none⟩ (.int .i64 p.n) := hs3.look (ints_get (by rw [List.getElem?_map, hp]; rfl))
      have lq : Look r3.A ⟨b4, o4 + (m + 1), none⟩ (.int .i64 q.n) := hs3.look (ints_get (by rw [List.getElem?_map, hq]; rfl))
      have ld : Look F ⟨b1, o1 + i, none⟩ (.int .u16 d) := hr.look (u16s_get hid)
      have le : Look F ⟨b1, o1 + j, none⟩ (.int .u16 e) := hr.look (u16s_get hje)
      refine ⟨rfl, by omega, ixq_ok 1 rfl rfl rfl rfl, ⟨b4, o4, r3.n, r3.cap, m⟩, by rw [ea, em], by dsimp only; omega, p.n, by dsimp only; rw [e1]; exact lp, ixq_ok 1 rfl rfl rfl rfl, ⟨b4, o4, r3.n, r3.cap, (m + 1 : Nat)⟩, by rw [ea], by dsimp only; omega, q.n, by dsimp only; rw [e1]; exact lq, rfl,
        ixq_ok 1 rfl rfl rfl rfl, ⟨b1, o1, k, cap, i⟩, by rw [hpn], by dsimp only; omega, d, by dsimp only; rw [e1]; exact ld, ixq_ok 1 rfl rfl rfl rfl, ⟨b1, o1, k, cap, j⟩, by rw [hqn], by dsimp only; omega, e, by dsimp only; rw [e1]; exact le, ?_⟩
      refine br_decide (fun h => by unfold Bef at hbef; omega) (fun _ => ⟨ixq_ok 1 rfl rfl rfl rfl, ⟨b1, o1, k, cap, i⟩, by rw [hpn], by dsimp only; omega, d, by dsimp only; rw [e1]; exact ld, ixq_ok 1 rfl rfl rfl rfl, ⟨b1, o1, k, cap, j⟩, by rw [hqn], by dsimp only; omega, e, by dsimp only; rw [e1]; exact le, ?_⟩)
      have go : ((-9223372036854775808 : Int) ≤ ((m + 1 : Nat) : Int) + 1 ∧ ((m + 1 : Nat) : Int) + 1 ≤ 9223372036854775807) := by omega
      refine br_intro (fun h => br_decide (fun h' => ?_) (fun _ => ⟨go, ⟨m + 2, b2, row3, r3⟩, ⟨h1, by dsimp only; omega, by dsimp only; omega, hr3, hts⟩, ⟨rfl, rfl, rfl, rfl, trivial⟩, Ent.pick [0, 1, 2, 3] rfl rfl, by dsimp only; omega⟩)) (fun _ => ⟨go, ⟨m + 2, b2, row3, r3⟩, ⟨h1, by dsimp only; omega, by dsimp only; omega, hr3, hts⟩, ⟨rfl, rfl, rfl, rfl, trivial⟩, Ent.pick [0, 1, 2, 3] rfl rfl, by dsimp only; omega⟩)
      have h : d = e := by simpa using h
      unfold Bef at hbef; omega
    · refine ⟨timers_ok, rfl, ⟨b2, 70000, [], row3⟩, rfl, rfl, hts, trivial, fun y hy => ⟨(), trivial, ?_, Ent.pick [0] rfl rfl⟩⟩
      have := hy.2
      dsimp only at this
      rw [this]; rfl
set_option maxRecDepth 100000 in
theorem sorts_ok : FnOk Try.prog 6 sortsC :=
  fnOk (N := 91) (by kernel_rfl) Try.func6 rfl (by kernel_rfl) (fun _ => Nat.le_of_ble_eq_true rfl) sorts_H [] fun x F hc hr => Eq.mpr (by kernel_rfl) (sorts_vc x F hc hr)
end Go.Proofs.Ytmknmibmnidnoaa
