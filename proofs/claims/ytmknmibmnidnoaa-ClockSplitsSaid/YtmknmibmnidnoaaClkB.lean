/- slices.Insert at timers, where the slice has a block: proved. -/
import Derived.Test.YtmknmibmnidnoaaClkA
import Derived.Test.YtmknmibmnidnoaaProg
set_option linter.all false
namespace Go.Proofs.Ytmknmibmnidnoaa
open Go
def tz : List Value := [.int .i64 0, .string ⟨#[]⟩, .int .i64 0, .int .i64 0]
def insOv (_x : InsX) (_F : Atom) : List (Nat × Nat × OH) := [(1, 2, .slu), (7, 2, .o (apC 44 4 40) [0] [0]), (9, 8, .o (zaC 44 tz 40) [] [9080]), (10, 4, .o (cpC 4) [9080] [9080]), (11, 8, .o (cpC 4) [9080] [9080]),
  (14, 6, .o (ovC 34) [1, 0] [1, 0]), (15, 8, .o (cpC 4) [0] [0]), (16, 4, .o (cpC 4) [0] [0])]
theorem splice_get {α : Type} (v y : List α) (o j : Nat) (h : o + y.length ≤ v.length) :
    (v.take o ++ y ++ v.drop (o + y.length))[j]? = if j < o then v[j]? else if j < o + y.length then y[j - o]? else v[j]? := by
  have ht : (v.take o).length = o := by simp; omega
  by_cases h1 : j < o
  · rw [List.append_assoc, List.getElem?_append_left (by omega), if_pos h1, List.getElem?_take_of_lt h1]
  · rw [if_neg h1]
    by_cases h2 : j < o + y.length
    · rw [if_pos h2, List.getElem?_append_left (by simp; omega), List.getElem?_append_right (by omega), ht]
    · rw [if_neg h2, List.getElem?_append_right (by simp; omega), List.getElem?_drop, List.length_append, ht]
      congr 1; omega
theorem splice_len {α : Type} (v y : List α) (o : Nat) (h : o + y.length ≤ v.length) : (v.take o ++ y ++ v.drop (o + y.length)).length = v.length := by
  simp; omega
theorem take_get {α : Type} (l : List α) (n j : Nat) : (l.take n)[j]? = if j < n then l[j]? else none := by
  rw [List.getElem?_take]
theorem ins_get {α : Type} (cs ys : List α) (o j : Nat) (h : o ≤ cs.length) :
    (cs.take o ++ ys ++ cs.drop o)[j]? = if j < o then cs[j]? else if j < o + ys.length then ys[j - o]? else cs[j - ys.length]? := by
  have ht : (cs.take o).length = o := by simp; omega
  by_cases h1 : j < o
  · rw [List.append_assoc, List.getElem?_append_left (by omega), if_pos h1, List.getElem?_take_of_lt h1]
  · rw [if_neg h1]
    by_cases h2 : j < o + ys.length
    · rw [if_pos h2, List.getElem?_append_left (by simp; omega), List.getElem?_append_right (by omega), ht]
    · rw [if_neg h2, List.getElem?_append_right (by simp; omega), List.getElem?_drop, List.length_append, ht]
      congr 1; omega
/-- first the new ones, then the tail behind them -/
theorem insA {α : Type} (cs ys zs sp : List α) (o : Nat) (h : o ≤ cs.length) (hz : zs.length = cs.length - o + ys.length) :
    let v := cs.take o ++ zs ++ sp
    let v1 := v.take o ++ ys ++ v.drop (o + ys.length)
    (v1.take (o + ys.length) ++ cs.drop o ++ v1.drop (o + ys.length + (cs.drop o).length)) = (cs.take o ++ ys ++ cs.drop o) ++ sp := by
  intro v v1
  have ht : (cs.take o).length = o := by simp; omega
  have e1 : v.take o = cs.take o := by simp only [v]; rw [List.append_assoc, List.take_append_of_le_length (by omega), List.take_of_length_le (by omega)]
  have e2 : v1.take (o + ys.length) = cs.take o ++ ys := by
    simp only [v1]; rw [e1, List.take_append_of_le_length (by simp; omega), List.take_of_length_le (by simp; omega)]
  have e3 : v1.drop (o + ys.length + (cs.drop o).length) = sp := by
    simp only [v1]
    rw [e1, List.drop_append, List.drop_of_length_le (by simp; omega), List.nil_append, List.drop_drop]
    simp only [v]
    rw [List.drop_append, List.drop_of_length_le (by simp; omega), List.nil_append]
    have : (o + ys.length + (o + ys.length + (List.drop o cs).length - (List.take o cs ++ ys).length) - (List.take o cs ++ zs).length) = 0 := by simp; omega
    rw [this]; rfl
  rw [e2, e3]
theorem insB {α : Type} (cs ys sp : List α) (o : Nat) (h : o ≤ cs.length) (hz : ys.length ≤ sp.length) :
    let v := cs ++ sp
    let v1 := v.take (o + ys.length) ++ cs.drop o ++ v.drop (o + ys.length + (cs.drop o).length)
    (v1.take o ++ ys ++ v1.drop (o + ys.length)) = (cs.take o ++ ys ++ cs.drop o) ++ sp.drop ys.length := by
  intro v v1
  have hv1 : o + ys.length + (cs.drop o).length ≤ v.length := by simp [v]; omega
  have ht : (v.take (o + ys.length)).length = o + ys.length := by simp [v]; omega
  have e1 : v1.take o = cs.take o := by
    simp only [v1]; rw [List.append_assoc, List.take_append_of_le_length (by omega), List.take_take, Nat.min_eq_left (by omega)]
    simp only [v]; rw [List.take_append_of_le_length h]
  have e2 : v1.drop (o + ys.length) = cs.drop o ++ sp.drop ys.length := by
    simp only [v1]
    rw [List.append_assoc, List.drop_append, List.drop_of_length_le (by omega), List.nil_append, ht, Nat.sub_self, List.drop_zero]
    congr 1
    simp only [v]
    rw [List.drop_append, List.drop_of_length_le (by simp; omega), List.nil_append]
    congr 1; simp; omega
  rw [e1, e2]; simp
noncomputable def ins_H (x : Con.X insBC) (F : Atom) : Hints where
  op := hk ((insOv x F) ++ [])
  inv := (fun _ _ _ => none) x F
  cut := (fun _ _ _ => none) x F
  ord := (fun _ => [])
set_option maxRecDepth 100000 in
theorem ins_vc (x : InsX) (F : Atom) (hc : Con.cond insBC x) (hr : Con.rdc insBC x F) :
  ((0 : Int) ≤ x.i ∧ x.i ≤ (↑x.n : Int) ∧ (↑x.n : Int) ≤ (↑x.cap : Int)) ∧
    ∀ (v : Value),
      Br (x.i == (↑x.n : Int))
        (OpOk Try.prog (opIn Try.f28 (7 : Nat) (2 : Nat)) (apC (44 : TypeId) (4 : Nat) (40 : Nat)) ∧
          true = true ∧
            ∃ (x_1 : ApX),
              [Value.slice (some { block := x.b, off := (0 : Nat) }) x.n x.cap, Value.slice (some { block := x.b2, off := (0 : Nat) }) (1 : Nat) (1 : Nat)] = [Value.slice x_1.r.a x_1.r.n x_1.r.cap, Value.slice x_1.a x_1.m x_1.c] ∧
                [Atom.cells x.b (x.cs ++ x.sp) (44 : Nat)] = [x_1.r.A] ∧ (IsRow (44 : Nat) (4 : Nat) x_1.cs x_1.r ∧ x_1.ys.length = x_1.m * (4 : Nat) ∧ (∀ (u : Value), u ∈ x_1.ys → u.oneCell' = true) ∧ (x_1.r.n + x_1.m) * (40 : Nat) ≤ (140737488355328 : Nat) ∧ x_1.r.n + x_1.m ≤ (9223372036854775807 : Nat) ∧ (x_1.a = none → x_1.m = (0 : Nat) ∧ x_1.c = (0 : Nat))) ∧ (∀ (a : Addr), x_1.a = some a → Seg (Atom.pred (rest [((0 : Nat), Atom.cells x.b (x.cs ++ x.sp) (44 : Nat)), ((1 : Nat), Atom.cells x.b2 x.ys (44 : Nat)), ((2 : Nat), F)] [(0 : Nat)])) a x_1.ys) ∧ ∀ (y : Row), IsRow (44 : Nat) (4 : Nat) (x_1.cs ++ x_1.ys) y ∧ y.n = x_1.r.n + x_1.m ∧ (x_1.m = (0 : Nat) → y = x_1.r) → Done insBC x F (Ending.returned (Value.slice y.a y.n y.cap)) [((0 : Nat), y.A), ((1 : Nat), Atom.cells x.b2 x.ys (44 : Nat)), ((2 : Nat), F)])
        (((-9223372036854775808 : Int) ≤ (↑x.n : Int) + (↑(1 : Nat) : Int) ∧ (↑x.n : Int) + (↑(1 : Nat) : Int) ≤ (9223372036854775807 : Int)) ∧
          Br (decide ((↑x.n : Int) + (↑(1 : Nat) : Int) > (↑x.cap : Int)))
            (((0 : Int) ≤ (0 : Int) ∧ (0 : Int) ≤ x.i ∧ x.i ≤ (↑x.cap : Int) ∧ (0 : Int) < (↑x.cap : Int)) ∧
              ((-9223372036854775808 : Int) ≤ (↑x.n : Int) + (↑(1 : Nat) : Int) ∧ (↑x.n : Int) + (↑(1 : Nat) : Int) ≤ (9223372036854775807 : Int)) ∧
                ((-9223372036854775808 : Int) ≤ (↑x.n : Int) + (↑(1 : Nat) : Int) - x.i ∧ (↑x.n : Int) + (↑(1 : Nat) : Int) - x.i ≤ (9223372036854775807 : Int)) ∧
                  OpOk Try.prog (opIn Try.f28 (9 : Nat) (8 : Nat)) (zaC (44 : TypeId) tz (40 : Nat)) ∧
                    true = true ∧
                      ∃ (x_1 : ZaX),
                        [Value.slice (some { block := x.b, off := (0 : Nat) }) (x.i.toNat - (0 : Nat)) (x.cap - (0 : Nat)), Value.int IntKind.i64 ((↑x.n : Int) + (↑(1 : Nat) : Int) - x.i)] = [Value.slice (some x_1.a) x_1.n x_1.c, Value.int IntKind.i64 x_1.m] ∧
                          ([] : List Atom) = [] ∧
                            ((0 : Int) < x_1.m ∧ x_1.c < x_1.n + x_1.m.toNat ∧ x_1.ys.length = x_1.n * (4 : Nat) ∧ (x_1.n + x_1.m.toNat) * (40 : Nat) ≤ (140737488355328 : Nat) ∧ x_1.n + x_1.m.toNat ≤ (9223372036854775807 : Nat)) ∧
                              Seg (Atom.pred (rest [((0 : Nat), Atom.cells x.b (x.cs ++ x.sp) (44 : Nat)), ((1 : Nat), Atom.cells x.b2 x.ys (44 : Nat)), ((2 : Nat), F)] [])) x_1.a x_1.ys ∧
                                ∀ (y : BlkY),
                                  (x_1.ys ++ zeros tz x_1.m.toNat ++ y.sp).length = y.cap * (4 : Nat) ∧ x_1.n + x_1.m.toNat ≤ y.cap →
                                    ((0 : Int) ≤ x.i ∧ x.i ≤ (↑(x_1.n + x_1.m.toNat) : Int) ∧ (↑(x_1.n + x_1.m.toNat) : Int) ≤ (↑y.cap : Int) ∧ x.i < (↑y.cap : Int)) ∧
                                      OpOk Try.prog (opIn Try.f28 (10 : Nat) (4 : Nat)) (cpC (4 : Nat)) ∧
                                        true = true ∧
                                          ∃ (x_2 : CpX),
                                            [Value.slice (some { block := y.b, off := (0 : Nat) + x.i.toNat * (4 : Nat) }) ((↑(x_1.n + x_1.m.toNat) : Int).toNat - x.i.toNat) (y.cap - x.i.toNat), Value.slice (some { block := x.b2, off := (0 : Nat) }) (1 : Nat) (1 : Nat)] = [Value.slice (some { block := x_2.b, off := x_2.o }) x_2.dl x_2.dc, Value.slice x_2.a x_2.sl x_2.sc] ∧
                                              [Atom.cells y.b (x_1.ys ++ zeros tz x_1.m.toNat ++ y.sp) (44 : Nat)] = [Atom.cells x_2.b x_2.vs x_2.t] ∧
                                                (x_2.ys.length = (if x_2.sl ≤ x_2.dl then x_2.sl else x_2.dl) * (4 : Nat) ∧ x_2.o + x_2.ys.length ≤ x_2.vs.length ∧ (∀ (u : Value), u ∈ x_2.ys → u.oneCell' = true) ∧ (x_2.a = none → x_2.ys = []) ∧ (x_2.own = true → ∃ (o2 : Nat), x_2.a = some { block := x_2.b, off := o2 } ∧ ∀ (j : Nat) (u : Value), x_2.ys[j]? = some u → x_2.vs[o2 + j]? = some u)) ∧
                                                  (x_2.own = false → ∀ (a : Addr), x_2.a = some a → Seg (Atom.pred (rest [((0 : Nat), Atom.cells x.b (x.cs ++ x.sp) (44 : Nat)), ((1 : Nat), Atom.cells x.b2 x.ys (44 : Nat)), ((2 : Nat), F), ((9080 : Nat), Atom.cells y.b (x_1.ys ++ zeros tz x_1.m.toNat ++ y.sp) (44 : Nat))] [(9080 : Nat)])) a x_2.ys) ∧
                                                    ∀ (y_1 : Unit),
                                                      True →
                                                        true = true ∧
                                                          ((-9223372036854775808 : Int) ≤ x.i + (↑(1 : Nat) : Int) ∧ x.i + (↑(1 : Nat) : Int) ≤ (9223372036854775807 : Int)) ∧
                                                            ((0 : Int) ≤ x.i + (↑(1 : Nat) : Int) ∧ x.i + (↑(1 : Nat) : Int) ≤ (↑(x_1.n + x_1.m.toNat) : Int) ∧ (↑(x_1.n + x_1.m.toNat) : Int) ≤ (↑y.cap : Int) ∧ x.i + (↑(1 : Nat) : Int) < (↑y.cap : Int)) ∧
                                                              ((0 : Int) ≤ x.i ∧ x.i ≤ (↑x.n : Int) ∧ (↑x.n : Int) ≤ (↑x.cap : Int) ∧ x.i < (↑x.cap : Int)) ∧
                                                                OpOk Try.prog (opIn Try.f28 (11 : Nat) (8 : Nat)) (cpC (4 : Nat)) ∧
                                                                  true = true ∧
                                                                    ∃ (x_3 : CpX),
                                                                      [Value.slice (some { block := y.b, off := (0 : Nat) + (x.i + (↑(1 : Nat) : Int)).toNat * (4 : Nat) }) ((↑(x_1.n + x_1.m.toNat) : Int).toNat - (x.i + (↑(1 : Nat) : Int)).toNat) (y.cap - (x.i + (↑(1 : Nat) : Int)).toNat), Value.slice (some { block := x.b, off := (0 : Nat) + x.i.toNat * (4 : Nat) }) ((↑x.n : Int).toNat - x.i.toNat) (x.cap - x.i.toNat)] = [Value.slice (some { block := x_3.b, off := x_3.o }) x_3.dl x_3.dc, Value.slice x_3.a x_3.sl x_3.sc] ∧
                                                                        [Atom.cells x_2.b (List.take x_2.o x_2.vs ++ x_2.ys ++ List.drop (x_2.o + x_2.ys.length) x_2.vs) x_2.t] = [Atom.cells x_3.b x_3.vs x_3.t] ∧
                                                                          (x_3.ys.length = (if x_3.sl ≤ x_3.dl then x_3.sl else x_3.dl) * (4 : Nat) ∧ x_3.o + x_3.ys.length ≤ x_3.vs.length ∧ (∀ (u : Value), u ∈ x_3.ys → u.oneCell' = true) ∧ (x_3.a = none → x_3.ys = []) ∧ (x_3.own = true → ∃ (o2 : Nat), x_3.a = some { block := x_3.b, off := o2 } ∧ ∀ (j : Nat) (u : Value), x_3.ys[j]? = some u → x_3.vs[o2 + j]? = some u)) ∧
                                                                            (x_3.own = false → ∀ (a : Addr), x_3.a = some a → Seg (Atom.pred (rest [((0 : Nat), Atom.cells x.b (x.cs ++ x.sp) (44 : Nat)), ((1 : Nat), Atom.cells x.b2 x.ys (44 : Nat)), ((2 : Nat), F), ((9080 : Nat), Atom.cells x_2.b (List.take x_2.o x_2.vs ++ x_2.ys ++ List.drop (x_2.o + x_2.ys.length) x_2.vs) x_2.t)] [(9080 : Nat)])) a x_3.ys) ∧ ∀ (y_2 : Unit), True → Done insBC x F (Ending.returned (Value.slice (some { block := y.b, off := (0 : Nat) }) (x_1.n + x_1.m.toNat) y.cap)) [((0 : Nat), Atom.cells x.b (x.cs ++ x.sp) (44 : Nat)), ((1 : Nat), Atom.cells x.b2 x.ys (44 : Nat)), ((2 : Nat), F), ((9080 : Nat), Atom.cells x_3.b (List.take x_3.o x_3.vs ++ x_3.ys ++ List.drop (x_3.o + x_3.ys.length) x_3.vs) x_3.t)])
            (((-9223372036854775808 : Int) ≤ (↑x.n : Int) + (↑(1 : Nat) : Int) ∧ (↑x.n : Int) + (↑(1 : Nat) : Int) ≤ (9223372036854775807 : Int)) ∧
              ((0 : Int) ≤ (0 : Int) ∧ (0 : Int) ≤ (↑x.n : Int) + (↑(1 : Nat) : Int) ∧ (↑x.n : Int) + (↑(1 : Nat) : Int) ≤ (↑x.cap : Int) ∧ (0 : Int) < (↑x.cap : Int)) ∧
                ((-9223372036854775808 : Int) ≤ x.i + (↑(1 : Nat) : Int) ∧ x.i + (↑(1 : Nat) : Int) ≤ (9223372036854775807 : Int)) ∧
                  ((0 : Int) ≤ x.i + (↑(1 : Nat) : Int) ∧ x.i + (↑(1 : Nat) : Int) ≤ (↑(((↑x.n : Int) + (↑(1 : Nat) : Int)).toNat - Int.toNat (0 : Int)) : Int) ∧ (↑(((↑x.n : Int) + (↑(1 : Nat) : Int)).toNat - Int.toNat (0 : Int)) : Int) ≤ (↑(x.cap - Int.toNat (0 : Int)) : Int) ∧ x.i + (↑(1 : Nat) : Int) < (↑(x.cap - Int.toNat (0 : Int)) : Int)) ∧
                    OpOk Try.prog (opIn Try.f28 (14 : Nat) (6 : Nat)) (ovC (34 : FuncId)) ∧
                      true = true ∧
                        ∃ (x_1 : OvX),
                          [Value.func (Fn.func (34 : Nat)) { toList := [] } { toList := [] }, Value.slice (some { block := x.b2, off := (0 : Nat) }) (1 : Nat) (1 : Nat), Value.slice (some { block := x.b, off := (0 : Nat) + (x.i + (↑(1 : Nat) : Int)).toNat * (4 : Nat) }) ((↑(((↑x.n : Int) + (↑(1 : Nat) : Int)).toNat - Int.toNat (0 : Int)) : Int).toNat - (x.i + (↑(1 : Nat) : Int)).toNat) (x.cap - (0 : Nat) - (x.i + (↑(1 : Nat) : Int)).toNat)] = [Value.func (Fn.func (34 : Nat)) { toList := [] } { toList := [] }, Value.slice (some { block := x_1.b1, off := x_1.o1 }) x_1.l1 x_1.c1, Value.slice (some { block := x_1.b2, off := x_1.o2 }) x_1.l2 x_1.c2] ∧
                            [Atom.cells x.b2 x.ys (44 : Nat), Atom.cells x.b (x.cs ++ x.sp) (44 : Nat)] = [Atom.cells x_1.b1 x_1.vs1 x_1.t1, Atom.cells x_1.b2 x_1.vs2 x_1.t2] ∧
                              x_1.vs2 ≠ [] ∧
                                True ∧
                                  ∀ (y : Unit),
                                    True →
                                      true = true ∧
                                        ((-9223372036854775808 : Int) ≤ x.i + (↑(1 : Nat) : Int) ∧ x.i + (↑(1 : Nat) : Int) ≤ (9223372036854775807 : Int)) ∧
                                          ((0 : Int) ≤ x.i + (↑(1 : Nat) : Int) ∧ x.i + (↑(1 : Nat) : Int) ≤ (↑(((↑x.n : Int) + (↑(1 : Nat) : Int)).toNat - Int.toNat (0 : Int)) : Int) ∧ (↑(((↑x.n : Int) + (↑(1 : Nat) : Int)).toNat - Int.toNat (0 : Int)) : Int) ≤ (↑(x.cap - Int.toNat (0 : Int)) : Int) ∧ x.i + (↑(1 : Nat) : Int) < (↑(x.cap - Int.toNat (0 : Int)) : Int)) ∧
                                            ((0 : Int) ≤ x.i ∧ x.i ≤ (↑(((↑x.n : Int) + (↑(1 : Nat) : Int)).toNat - Int.toNat (0 : Int)) : Int) ∧ (↑(((↑x.n : Int) + (↑(1 : Nat) : Int)).toNat - Int.toNat (0 : Int)) : Int) ≤ (↑(x.cap - Int.toNat (0 : Int)) : Int) ∧ x.i < (↑(x.cap - Int.toNat (0 : Int)) : Int)) ∧
                                              OpOk Try.prog (opIn Try.f28 (15 : Nat) (8 : Nat)) (cpC (4 : Nat)) ∧
                                                true = true ∧
                                                  ∃ (x_2 : CpX),
                                                    [Value.slice (some { block := x.b, off := (0 : Nat) + (x.i + (↑(1 : Nat) : Int)).toNat * (4 : Nat) }) ((↑(((↑x.n : Int) + (↑(1 : Nat) : Int)).toNat - Int.toNat (0 : Int)) : Int).toNat - (x.i + (↑(1 : Nat) : Int)).toNat) (x.cap - (0 : Nat) - (x.i + (↑(1 : Nat) : Int)).toNat), Value.slice (some { block := x.b, off := (0 : Nat) + x.i.toNat * (4 : Nat) }) ((↑(((↑x.n : Int) + (↑(1 : Nat) : Int)).toNat - Int.toNat (0 : Int)) : Int).toNat - x.i.toNat) (x.cap - (0 : Nat) - x.i.toNat)] = [Value.slice (some { block := x_2.b, off := x_2.o }) x_2.dl x_2.dc, Value.slice x_2.a x_2.sl x_2.sc] ∧
                                                      [Atom.cells x_1.b2 x_1.vs2 x_1.t2] = [Atom.cells x_2.b x_2.vs x_2.t] ∧
                                                        (x_2.ys.length = (if x_2.sl ≤ x_2.dl then x_2.sl else x_2.dl) * (4 : Nat) ∧ x_2.o + x_2.ys.length ≤ x_2.vs.length ∧ (∀ (u : Value), u ∈ x_2.ys → u.oneCell' = true) ∧ (x_2.a = none → x_2.ys = []) ∧ (x_2.own = true → ∃ (o2 : Nat), x_2.a = some { block := x_2.b, off := o2 } ∧ ∀ (j : Nat) (u : Value), x_2.ys[j]? = some u → x_2.vs[o2 + j]? = some u)) ∧
                                                          (x_2.own = false → ∀ (a : Addr), x_2.a = some a → Seg (Atom.pred (rest [((0 : Nat), Atom.cells x_1.b2 x_1.vs2 x_1.t2), ((1 : Nat), Atom.cells x_1.b1 x_1.vs1 x_1.t1), ((2 : Nat), F)] [(0 : Nat)])) a x_2.ys) ∧
                                                            ∀ (y : Unit),
                                                              True →
                                                                ((0 : Int) ≤ x.i ∧ x.i ≤ (↑(((↑x.n : Int) + (↑(1 : Nat) : Int)).toNat - Int.toNat (0 : Int)) : Int) ∧ (↑(((↑x.n : Int) + (↑(1 : Nat) : Int)).toNat - Int.toNat (0 : Int)) : Int) ≤ (↑(x.cap - Int.toNat (0 : Int)) : Int) ∧ x.i < (↑(x.cap - Int.toNat (0 : Int)) : Int)) ∧
                                                                  OpOk Try.prog (opIn Try.f28 (16 : Nat) (4 : Nat)) (cpC (4 : Nat)) ∧
                                                                    true = true ∧
                                                                      ∃ (x_3 : CpX),
                                                                        [Value.slice (some { block := x.b, off := (0 : Nat) + x.i.toNat * (4 : Nat) }) ((↑(((↑x.n : Int) + (↑(1 : Nat) : Int)).toNat - Int.toNat (0 : Int)) : Int).toNat - x.i.toNat) (x.cap - (0 : Nat) - x.i.toNat), Value.slice (some { block := x.b2, off := (0 : Nat) }) (1 : Nat) (1 : Nat)] = [Value.slice (some { block := x_3.b, off := x_3.o }) x_3.dl x_3.dc, Value.slice x_3.a x_3.sl x_3.sc] ∧
                                                                          [Atom.cells x_2.b (List.take x_2.o x_2.vs ++ x_2.ys ++ List.drop (x_2.o + x_2.ys.length) x_2.vs) x_2.t] = [Atom.cells x_3.b x_3.vs x_3.t] ∧
                                                                            (x_3.ys.length = (if x_3.sl ≤ x_3.dl then x_3.sl else x_3.dl) * (4 : Nat) ∧ x_3.o + x_3.ys.length ≤ x_3.vs.length ∧ (∀ (u : Value), u ∈ x_3.ys → u.oneCell' = true) ∧ (x_3.a = none → x_3.ys = []) ∧ (x_3.own = true → ∃ (o2 : Nat), x_3.a = some { block := x_3.b, off := o2 } ∧ ∀ (j : Nat) (u : Value), x_3.ys[j]? = some u → x_3.vs[o2 + j]? = some u)) ∧
                                                                              (x_3.own = false → ∀ (a : Addr), x_3.a = some a → Seg (Atom.pred (rest [((0 : Nat), Atom.cells x_2.b (List.take x_2.o x_2.vs ++ x_2.ys ++ List.drop (x_2.o + x_2.ys.length) x_2.vs) x_2.t), ((1 : Nat), Atom.cells x_1.b1 x_1.vs1 x_1.t1), ((2 : Nat), F)] [(0 : Nat)])) a x_3.ys) ∧ ∀ (y : Unit), True → Done insBC x F (Ending.returned (Value.slice (some { block := x.b, off := (0 : Nat) }) (((↑x.n : Int) + (↑(1 : Nat) : Int)).toNat - (0 : Nat)) (x.cap - (0 : Nat)))) [((0 : Nat), Atom.cells x_3.b (List.take x_3.o x_3.vs ++ x_3.ys ++ List.drop (x_3.o + x_3.ys.length) x_3.vs) x_3.t), ((1 : Nat), Atom.cells x_1.b1 x_1.vs1 x_1.t1), ((2 : Nat), F)])) := by
  obtain ⟨b, n, cap, cs, sp, b2, ys, i⟩ := x
  obtain ⟨hcl, hsl, hnc, hyl, hc1, hy1, hi0, hin, hn⟩ := hc
  dsimp only at hcl hsl hnc hyl hc1 hy1 hi0 hin hn
  dsimp only
  refine ⟨by omega, fun v => br_intro ?_ ?_⟩
  · intro he
    have he : i = n := by simpa using he
    subst he
    refine ⟨append_ok (P := Try.prog) 4 40 rfl rfl rfl rfl rfl rfl rfl (by decide), rfl, ⟨⟨some ⟨b, 0, none⟩, n, cap, _⟩, cs, some ⟨b2, 0, none⟩, 1, 1, ys⟩, rfl, rfl, ?_, ?_, ?_⟩
    · refine ⟨.blk b n cap sp hcl hsl hnc, by simp [hyl], hy1, by dsimp only; omega, by dsimp only; omega, by simp⟩
    · intro a ha
      cases ha
      exact Seg.rest (j := 1) (by simp) (Seg.cells (by simp))
    · rintro y ⟨h1, h2, h3⟩
      refine ⟨y, ⟨?_, h2⟩, rfl, Ent.pick [0, 2] rfl rfl⟩
      dsimp only at h1 ⊢
      rw [List.take_of_length_le (by omega), List.drop_of_length_le (by omega), List.append_nil]
      exact h1
  · intro hne
    have hne : i ≠ n := by simpa using hne
    obtain ⟨k, rfl⟩ := Int.eq_ofNat_of_zero_le hi0
    have hkn : k < n := by omega
    refine ⟨by omega, br_decide (fun hg => ?_) (fun hg => ?_)⟩
    · refine ⟨by omega, by omega, by omega, appendz_ok (P := Try.prog) tz 40 rfl rfl rfl rfl rfl rfl rfl (by decide) rfl, rfl, ⟨⟨b, 0, none⟩, k, cap, (n : Int) + 1 - k, cs.take (k * 4)⟩, by simp, rfl, ?_, ?_, ?_⟩
      · dsimp only
        refine ⟨by omega, by omega, by simp <;> omega, by omega, by omega⟩
      · exact Seg.rest (j := 0) (by simp) (Seg.cells (fun j u hu => by
          rw [List.getElem?_take] at hu
          split at hu
          · rw [Nat.zero_add, List.getElem?_append_left (by omega)]; exact hu
          · cases hu))
      · rintro ⟨b', cap', sp'⟩ ⟨hl, hle⟩
        dsimp only at hl hle ⊢
        have hz : (zeros tz ((n : Int) + 1 - k).toNat).length = (n + 1 - k) * 4 := by
          rw [zeros_length]; simp [tz] <;> omega
        have hkc : (cs.take (k * 4)).length = k * 4 := by simp <;> omega
        simp only [List.length_append, hz, hkc] at hl
        refine ⟨by omega, copy_ok (P := Try.prog) 4 rfl rfl rfl rfl, rfl, ⟨b', cs.take (k * 4) ++ zeros tz ((n : Int) + 1 - k).toNat ++ sp', 44, k * 4, n + 1 - k, cap' - k, some ⟨b2, 0, none⟩, 1, 1, ys, false⟩, ?_, rfl, ?_, ?_, ?_⟩
        · simp <;> omega
        · refine ⟨?_, ?_, hy1, by simp, by simp⟩
          · dsimp only; rw [if_pos (by omega)]; omega
          · simp only [List.length_append, hz, hkc]; omega
        · rintro - a ha
          cases ha
          exact Seg.rest (j := 1) (by simp) (Seg.cells (by simp))
        · rintro - -
          refine ⟨rfl, by omega, by omega, by omega, copy_ok (P := Try.prog) 4 rfl rfl rfl rfl, rfl, ⟨b', _, 44, (k + 1) * 4, n - k, cap' - (k + 1), some ⟨b, k * 4, none⟩, n - k, cap - k, cs.drop (k * 4), false⟩, ?_, rfl, ?_, ?_, ?_⟩
          · simp <;> omega
          · refine ⟨?_, ?_, fun u hu => hc1 u (List.mem_of_mem_drop hu), by simp, by simp⟩
            · dsimp only; rw [if_pos (by omega)]; simp <;> omega
            · simp only [List.length_append, List.length_take, List.length_drop, hz, hkc]; omega
          · rintro - a ha
            cases ha
            exact Seg.rest (j := 0) (by simp) (Seg.cells (fun j u hu => by
              rw [List.getElem?_drop] at hu
              exact (List.getElem?_append_left (by
                rcases Nat.lt_or_ge (k * 4 + j) cs.length with h | h
                · exact h
                · rw [List.getElem?_eq_none h] at hu; cases hu)).trans hu))
          · rintro - -
            have hin := insA cs ys (zeros tz ((n : Int) + 1 - k).toNat) sp' (k * 4) (by omega) (by rw [hz, hyl]; omega)
            rw [show (k + 1) * 4 = k * 4 + ys.length by omega]
            refine ⟨⟨some ⟨b', 0, none⟩, n + 1, cap', _⟩, ⟨?_, rfl⟩, ?_, Ent.pick [9080, 2] rfl rfl⟩
            · dsimp only
              dsimp only at hin
              rw [hin]
              refine .blk b' (n + 1) cap' sp' ?_ ?_ ?_
              · simp <;> omega
              · simp <;> omega
              · omega
            · simp only [insBC, Row.v]; congr 2 <;> omega
    · refine ⟨by omega, by omega, by omega, by omega, overlaps_ok (P := Try.prog) rfl rfl rfl rfl rfl rfl rfl rfl, rfl, ⟨b2, ys, 44, 0, 1, 1, b, cs ++ sp, 44, (k + 1) * 4, n - k, cap - (k + 1)⟩, ?_, rfl, ?_, trivial, ?_⟩
      · simp <;> omega
      · intro hnil
        have : (cs ++ sp).length = 0 := congrArg List.length hnil
        omega
      · rintro - -
        simp only [List.length_append] at hsl
        refine ⟨rfl, by omega, by omega, by omega, copy_ok (P := Try.prog) 4 rfl rfl rfl rfl, rfl, ⟨b, cs ++ sp, 44, (k + 1) * 4, n - k, cap - (k + 1), some ⟨b, k * 4, none⟩, n + 1 - k, cap - k, cs.drop (k * 4), true⟩, ?_, rfl, ?_, by simp, ?_⟩
        · simp <;> omega
        · refine ⟨?_, ?_, fun u hu => hc1 u (List.mem_of_mem_drop hu), by simp, fun _ => ⟨_, rfl, ?_⟩⟩
          · dsimp only; rw [if_neg (by omega)]; simp <;> omega
          · simp <;> omega
          · intro j u hu
            rw [List.getElem?_drop] at hu
            exact (List.getElem?_append_left (by
              rcases Nat.lt_or_ge (k * 4 + j) cs.length with h | h
              · exact h
              · rw [List.getElem?_eq_none h] at hu; cases hu)).trans hu
        · rintro - -
          refine ⟨by omega, copy_ok (P := Try.prog) 4 rfl rfl rfl rfl, rfl, ⟨b, _, 44, k * 4, n + 1 - k, cap - k, some ⟨b2, 0, none⟩, 1, 1, ys, false⟩, ?_, rfl, ?_, ?_, ?_⟩
          · simp <;> omega
          · refine ⟨?_, ?_, hy1, by simp, by simp⟩
            · dsimp only; rw [if_pos (by omega)]; omega
            · simp <;> omega
          · rintro - a ha
            cases ha
            exact Seg.rest (j := 1) (by simp) (Seg.cells (by simp))
          · rintro - -
            have hin := insB cs ys sp (k * 4) (by omega) (by omega)
            rw [show (k + 1) * 4 = k * 4 + ys.length by omega]
            refine ⟨⟨some ⟨b, 0, none⟩, n + 1, cap, _⟩, ⟨?_, rfl⟩, ?_, Ent.pick [0, 2] rfl rfl⟩
            · dsimp only
              dsimp only at hin
              rw [hin]
              refine .blk b (n + 1) cap (sp.drop ys.length) ?_ ?_ ?_
              · simp <;> omega
              · simp <;> omega
              · omega
            · simp only [insBC, Row.v]; congr 2 <;> omega
set_option maxRecDepth 100000 in
theorem ins_ok : FnOk Try.prog 28 insBC :=
  fnOk (N := 95) (by kernel_rfl) Try.func28 rfl (by kernel_rfl) (fun _ => Nat.le_of_ble_eq_true rfl) ins_H [] fun x F hc hr => Eq.mpr (by kernel_rfl) (ins_vc x F hc hr)
end Go.Proofs.Ytmknmibmnidnoaa
