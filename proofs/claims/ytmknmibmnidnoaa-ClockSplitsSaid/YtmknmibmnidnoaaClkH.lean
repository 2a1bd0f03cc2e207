/- slices.DeleteFunc at timers. -/
import Derived.Test.YtmknmibmnidnoaaClkG
set_option linter.all false
namespace Go.Proofs.Ytmknmibmnidnoaa
open Go
theorem set4_take {α : Type} (vs : List α) (i : Nat) (a b c d : α) (h : i + 4 ≤ vs.length) :
    ((((vs.set i a).set (i + 1) b).set (i + 2) c).set (i + 3) d).take (i + 4) = vs.take i ++ [a, b, c, d] := by
  apply List.ext_getElem?
  intro j
  rw [List.getElem?_take]
  by_cases h0 : j < i
  · rw [if_pos (by omega), List.getElem?_append_left (by simp; omega), List.getElem?_take_of_lt h0, List.getElem?_set_ne (by omega), List.getElem?_set_ne (by omega), List.getElem?_set_ne (by omega), List.getElem?_set_ne (by omega)]
  · rw [List.getElem?_append_right (by simp; omega)]
    have e : (List.take i vs).length = i := by simp; omega
    rw [e]
    by_cases h4 : j < i + 4
    · rw [if_pos h4]
      have : j = i ∨ j = i + 1 ∨ j = i + 2 ∨ j = i + 3 := by omega
      rcases this with rfl | rfl | rfl | rfl
      · rw [List.getElem?_set_ne (by omega), List.getElem?_set_ne (by omega), List.getElem?_set_ne (by omega), List.getElem?_set_self (by omega), Nat.sub_self]; rfl
      · rw [List.getElem?_set_ne (by omega), List.getElem?_set_ne (by omega), List.getElem?_set_self (by simp; omega), Nat.add_sub_cancel_left]; rfl
      · rw [List.getElem?_set_ne (by omega), List.getElem?_set_self (by simp; omega), Nat.add_sub_cancel_left]; rfl
      · rw [List.getElem?_set_self (by simp; omega), Nat.add_sub_cancel_left]; rfl
    · rw [if_neg h4, List.getElem?_eq_none]
      simp; omega
theorem set4_drop {α : Type} (vs : List α) (i m : Nat) (a b c d : α) (h : i + 4 ≤ m) :
    ((((vs.set i a).set (i + 1) b).set (i + 2) c).set (i + 3) d).drop m = vs.drop m := by
  rw [List.drop_set_of_lt (by omega), List.drop_set_of_lt (by omega), List.drop_set_of_lt (by omega), List.drop_set_of_lt (by omega)]
structure DfNX where
  v : Value
  A : Atom
  B : Atom
def dfNC : Con where
  X := DfNX
  Y := Unit
  args x := [.slice none 0 0, x.v]
  pre x := [.emp, x.A, x.B]
  cond _ := True
  rdc _ _ := True
  rel _ _ := True
  val _ _ := .returned (.slice none 0 0)
  post x _ := [.emp, x.A, x.B]
def dfNInv (x : DfNX) (F : Atom) : Nat → Option Inv := fun
  | 0 => some { X := Unit, P := fun _ => True, mu := fun _ => 0, lv := fun _ => [(0, .slice none 0 0), (1, x.v), (5, .int .i64 0), (6, .int .i64 0)], st := fun _ => [.emp, x.A, x.B, F] }
  | _ => none
noncomputable def dfN_H (x : Con.X dfNC) (F : Atom) : Hints where
  op := hk (((fun _ _ => []) x F) ++ [(1, 2, OH.c ixNC [] [])])
  inv := dfNInv x F
  cut := (fun _ _ _ => none) x F
  ord := (fun _ => [])
set_option maxRecDepth 100000 in
theorem dfN_vc (x : DfNX) (F : Atom) (hc : Con.cond dfNC x) (hr : Con.rdc dfNC x F) :
  FnOk Try.prog (36 : Nat) ixNC ∧ true = true ∧ ∃ (x_1 : Value), [Value.slice none (0 : Nat) (0 : Nat), x.v] = [Value.slice none (0 : Nat) (0 : Nat), x_1] ∧ ([] : List Atom) = [] ∧ True ∧ True ∧ ∀ (y : Unit), True → Done dfNC x F (Ending.returned (Value.slice none (0 : Nat) (0 : Nat))) [((0 : Nat), Atom.emp), ((1 : Nat), x.A), ((2 : Nat), x.B), ((3 : Nat), F)] := by
  exact ⟨ixN_ok, rfl, x.v, rfl, rfl, trivial, trivial, fun _ _ => ⟨(), trivial, rfl, Ent.pick [0, 1, 2, 3] rfl rfl⟩⟩
set_option maxRecDepth 100000 in
theorem dfN_ok : FnOk Try.prog 32 dfNC :=
  fnOk (N := 42) (by kernel_rfl) Try.func32 rfl (by kernel_rfl) (fun _ => Nat.le_of_ble_eq_true rfl) dfN_H [] fun x F hc hr => Eq.mpr (by kernel_rfl) (dfN_vc x F hc hr)
structure DfY where
  row : Row
  r : Row
structure DfI where
  j : Nat
  vs : List Value
  r : Row
def stay (g : Tmr → Bool) (ts : List Tmr) : List Tmr := ts.filter fun t => !g t
theorem stay_take {g : Tmr → Bool} {ts : List Tmr} {j : Nat} {t : Tmr} (h : ts[j]? = some t) : stay g (ts.take (j + 1)) = stay g (ts.take j) ++ (bif g t then [] else [t]) := by
  rw [List.take_add_one, h]
  unfold stay
  rw [List.filter_append]
  cases hg : g t <;> simp [hg]
theorem nts_take {g : Tmr → Bool} {ts : List Tmr} {j : Nat} {t : Tmr} (h : ts[j]? = some t) : nts g (ts.take (j + 1)) = nts g (ts.take j) ++ nts g [t] := by
  rw [List.take_add_one, h]
  unfold nts
  rw [List.filter_append, List.map_append]
  rfl
theorem stay_all {g : Tmr → Bool} {ts : List Tmr} (no : ∀ (j : Nat) u, ts[j]? = some u → g u = false) : stay g ts = ts := by
  unfold stay
  rw [List.filter_eq_self]
  intro u hu
  obtain ⟨j, hj, rfl⟩ := List.getElem_of_mem hu
  rw [no j _ (List.getElem?_eq_getElem hj)]; rfl
theorem stay_len (g : Tmr → Bool) (ts : List Tmr) : (stay g ts).length ≤ ts.length := List.length_filter_le _ _
theorem stay_srt {g : Tmr → Bool} {ts : List Tmr} (h : Srt ts) : Srt (stay g ts) := List.Pairwise.filter _ h
theorem take_no {g : Tmr → Bool} {ts : List Tmr} {i : Nat} (no : ∀ j u, j < i → ts[j]? = some u → g u = false) : stay g (ts.take i) = ts.take i := by
  refine stay_all fun j u hu => ?_
  rw [List.getElem?_take] at hu
  split at hu
  · exact no j u (by assumption) hu
  · cases hu
theorem vs_at {ts : List Tmr} {sp vs : List Value} {b j c : Nat} {t : Tmr} {v : Value} (hd : vs.drop (j * 4) = (encT ts ++ sp).drop (j * 4)) (h : ts[j]? = some t) (hc : c < 4) (e : t.enc[c]? = some v) :
    Look (.cells b vs 44) ⟨b, 0 + (j : Int).toNat * 4 + c, none⟩ v := by
  refine Look.cells ?_
  have hj : j < ts.length := (List.getElem?_eq_some_iff.1 h).1
  rw [Nat.zero_add, Int.toNat_natCast, ← List.getElem?_drop, hd, List.getElem?_drop, List.getElem?_append_left (by rw [encT_length]; omega), encT_get ts j c t h hc, e]
def dfTC : Con where
  X := IXT
  Y := DfY
  args x := [.slice (some ⟨x.rb, 0, none⟩) x.ts.length x.cap, fvK x.gb x.ob]
  pre x := [.cells x.rb (encT x.ts ++ x.sp) 44, outA x.ob x.r, x.r.A]
  cond x := (encT x.ts ++ x.sp).length = x.cap * 4 ∧ x.ts.length ≤ x.cap ∧ x.ts.length ≤ 128 ∧ isNs x.ns x.r ∧ x.ns.length ≤ 300 ∧ Srt x.ts
  rdc x F := Look F ⟨x.gb, 0, none⟩ (fvT x.k) ∧ rkT x.k F
  rel x y := isTs (stay (gT x.k) x.ts) y.row ∧ isNs (x.ns ++ nts (gT x.k) x.ts) y.r
  val _ y := .returned (.slice y.row.a y.row.n y.row.cap)
  post x y := [y.row.A, outA x.ob y.r, y.r.A]
  rmono x A B h hk := ⟨hk.1.sub h, rkT_mono x.k A B h hk.2⟩
structure IsT (x : IXT) (i : DfI) : Prop where
  le : i.j ≤ x.ts.length
  lt : (stay (gT x.k) (x.ts.take i.j)).length < i.j
  len : i.vs.length = x.cap * 4
  tak : i.vs.take ((stay (gT x.k) (x.ts.take i.j)).length * 4) = encT (stay (gT x.k) (x.ts.take i.j))
  drp : i.vs.drop (i.j * 4) = (encT x.ts ++ x.sp).drop (i.j * 4)
  ns : isNs (x.ns ++ nts (gT x.k) (x.ts.take i.j)) i.r
def dfTInv (x : IXT) (F : Atom) : Nat → Option Inv := fun
  | 0 => some { X := DfI, P := fun i => IsT x i, mu := fun i => x.ts.length - i.j, lv := fun i => [(0, .slice (some ⟨x.rb, 0, none⟩) x.ts.length x.cap), (1, fvK x.gb x.ob), (5, .int .i64 ((stay (gT x.k) (x.ts.take i.j)).length : Nat)), (6, .int .i64 i.j)], st := fun i => [.cells x.rb i.vs 44, outA x.ob i.r, i.r.A, F] }
  | _ => none
def dfTOv (_x : IXT) (_F : Atom) : List (Nat × Nat × OH) := [(1, 2, .c ixTC [0, 1, 2] [0, 1, 2]), (8, 2, .c tkTC [1, 2] [1, 2]), (11, 3, .o (clC tz) [0] [0])]
noncomputable def dfT_H (x : Con.X dfTC) (F : Atom) : Hints where
  op := hk ((dfTOv x F) ++ [(7, 3, OH.q [LH.ex (0 : Nat) (Shape.int IntKind.i64), LH.ex (0 : Nat) Shape.str, LH.ex (0 : Nat) (Shape.int IntKind.i64), LH.ex (0 : Nat) (Shape.int IntKind.i64)]),   (7, 4, OH.n (8040 : Nat)),   (7, 5, OH.w [LH.atj (8040 : Nat), LH.atj (8040 : Nat), LH.atj (8040 : Nat), LH.atj (8040 : Nat)]),   (8, 1, OH.q [LH.atj (8040 : Nat), LH.atj (8040 : Nat), LH.atj (8040 : Nat), LH.atj (8040 : Nat)]),   (9, 2, OH.q [LH.atj (8040 : Nat), LH.atj (8040 : Nat), LH.atj (8040 : Nat), LH.atj (8040 : Nat)]),   (9, 4, OH.w [LH.ex (0 : Nat) Shape.any, LH.ex (0 : Nat) Shape.any, LH.ex (0 : Nat) Shape.any, LH.ex (0 : Nat) Shape.any])])
  inv := dfTInv x F
  cut := (fun _ _ _ => none) x F
  ord := (fun _ => [])
set_option maxRecDepth 100000 in
theorem dfT_vc (x : IXT) (F : Atom) (hc : Con.cond dfTC x) (hr : Con.rdc dfTC x F) :
  FnOk Try.prog (36 : Nat) ixTC ∧
    true = true ∧
      ∃ (x_1 : IXT),
        [Value.slice (some { block := x.rb, off := (0 : Nat) }) x.ts.length x.cap, Value.func (Fn.func (33 : Nat)) { toList := [] } { toList := [Value.pointer (some { block := x.gb, off := (0 : Nat) }), Value.pointer (some { block := x.ob, off := (0 : Nat) })] }] = [Value.slice (some { block := x_1.rb, off := (0 : Nat) }) x_1.ts.length x_1.cap, Value.func (Fn.func (33 : Nat)) { toList := [] } { toList := [Value.pointer (some { block := x_1.gb, off := (0 : Nat) }), Value.pointer (some { block := x_1.ob, off := (0 : Nat) })] }] ∧
          [Atom.cells x.rb (encT x.ts ++ x.sp) (44 : Nat), Atom.cells x.ob [Value.slice x.r.a x.r.n x.r.cap] (32 : Nat), x.r.A] = [Atom.cells x_1.rb (encT x_1.ts ++ x_1.sp) (44 : Nat), Atom.cells x_1.ob [Value.slice x_1.r.a x_1.r.n x_1.r.cap] (32 : Nat), x_1.r.A] ∧
            ((encT x_1.ts ++ x_1.sp).length = x_1.cap * (4 : Nat) ∧ x_1.ts.length ≤ x_1.cap ∧ x_1.ts.length ≤ (128 : Nat) ∧ isNs x_1.ns x_1.r ∧ x_1.ns.length ≤ (500 : Nat)) ∧
              (Look (Atom.pred (rest [((0 : Nat), Atom.cells x.rb (encT x.ts ++ x.sp) (44 : Nat)), ((1 : Nat), Atom.cells x.ob [Value.slice x.r.a x.r.n x.r.cap] (32 : Nat)), ((2 : Nat), x.r.A), ((3 : Nat), F)] [(0 : Nat), (1 : Nat), (2 : Nat)])) { block := x_1.gb, off := (0 : Nat) } (Value.func (Fn.func (27 : Nat)) { toList := [] } { toList := [Value.pointer (some { block := x_1.k.cb, off := (0 : Nat) })] }) ∧ rkT x_1.k (Atom.pred (rest [((0 : Nat), Atom.cells x.rb (encT x.ts ++ x.sp) (44 : Nat)), ((1 : Nat), Atom.cells x.ob [Value.slice x.r.a x.r.n x.r.cap] (32 : Nat)), ((2 : Nat), x.r.A), ((3 : Nat), F)] [(0 : Nat), (1 : Nat), (2 : Nat)]))) ∧
                ∀ (y : IxY),
                  IsIx (gT x_1.k) x_1.ts y.i ∧ isNs (x_1.ns ++ nts (gT x_1.k) (List.take (y.i + (1 : Nat)) x_1.ts)) y.r →
                    Br (ixV' y.i x_1.ts.length == (-1 : Int)) (Done dfTC x F (Ending.returned (Value.slice (some { block := x.rb, off := (0 : Nat) }) x.ts.length x.cap)) [((0 : Nat), Atom.cells x_1.rb (encT x_1.ts ++ x_1.sp) (44 : Nat)), ((1 : Nat), Atom.cells x_1.ob [Value.slice y.r.a y.r.n y.r.cap] (32 : Nat)), ((2 : Nat), y.r.A), ((3 : Nat), F)])
                      (((-9223372036854775808 : Int) ≤ ixV' y.i x_1.ts.length + (1 : Int) ∧ ixV' y.i x_1.ts.length + (1 : Int) ≤ (9223372036854775807 : Int)) ∧
                        (∃ (x_2 : DfI),
                            IsT x x_2 ∧
                              (Value.slice (some { block := x.rb, off := (0 : Nat) }) x.ts.length x.cap = Value.slice (some { block := x.rb, off := (0 : Nat) }) x.ts.length x.cap ∧ Value.func (Fn.func (33 : Nat)) { toList := [] } { toList := [Value.pointer (some { block := x.gb, off := (0 : Nat) }), Value.pointer (some { block := x.ob, off := (0 : Nat) })] } = Value.func (Fn.func (33 : Nat)) { toList := [] } { toList := [Value.pointer (some { block := x.gb, off := (0 : Nat) }), Value.pointer (some { block := x.ob, off := (0 : Nat) })] } ∧ Value.int IntKind.i64 (ixV' y.i x_1.ts.length) = Value.int IntKind.i64 (↑(stay (gT x.k) (List.take x_2.j x.ts)).length : Int) ∧ Value.int IntKind.i64 (ixV' y.i x_1.ts.length + (1 : Int)) = Value.int IntKind.i64 (↑x_2.j : Int) ∧ True) ∧
                                Ent [((0 : Nat), Atom.cells x_1.rb (encT x_1.ts ++ x_1.sp) (44 : Nat)), ((1 : Nat), Atom.cells x_1.ob [Value.slice y.r.a y.r.n y.r.cap] (32 : Nat)), ((2 : Nat), y.r.A), ((3 : Nat), F)] [((0 : Nat), Atom.cells x.rb x_2.vs (44 : Nat)), ((1 : Nat), Atom.cells x.ob [Value.slice x_2.r.a x_2.r.n x_2.r.cap] (32 : Nat)), ((2 : Nat), x_2.r.A), ((3 : Nat), F)]) ∧
                          ∀ (x_2 : DfI) (js : Nat → Value),
                            IsT x x_2 →
                              Br (decide ((↑x_2.j : Int) < (↑x.ts.length : Int)))
                                (((0 : Int) ≤ (↑x_2.j : Int) ∧ (↑x_2.j : Int) < (↑x.ts.length : Int)) ∧
                                  ∃ (n : Int),
                                    Look (Atom.cells x.rb x_2.vs (44 : Nat)) { block := x.rb, off := (0 : Nat) + (↑x_2.j : Int).toNat * (4 : Nat) } (Value.int IntKind.i64 n) ∧
                                      ∃ (s : ByteArray),
                                        Look (Atom.cells x.rb x_2.vs (44 : Nat)) { block := x.rb, off := (0 : Nat) + (↑x_2.j : Int).toNat * (4 : Nat) + (1 : Nat) } (Value.string s) ∧
                                          ∃ (n_1 : Int),
                                            Look (Atom.cells x.rb x_2.vs (44 : Nat)) { block := x.rb, off := (0 : Nat) + (↑x_2.j : Int).toNat * (4 : Nat) + (2 : Nat) } (Value.int IntKind.i64 n_1) ∧
                                              ∃ (n_2 : Int),
                                                Look (Atom.cells x.rb x_2.vs (44 : Nat)) { block := x.rb, off := (0 : Nat) + (↑x_2.j : Int).toNat * (4 : Nat) + (3 : Nat) } (Value.int IntKind.i64 n_2) ∧
                                                  ∀ (b : Nat),
                                                    Same { block := b, off := (0 : Nat) } b ∧
                                                      Same { block := b, off := (1 : Nat) } b ∧
                                                        Same { block := b, off := (2 : Nat) } b ∧
                                                          Same { block := b, off := (3 : Nat) } b ∧
                                                            Same { block := b, off := (0 : Nat) } b ∧
                                                              Same { block := b, off := (1 : Nat) } b ∧
                                                                Same { block := b, off := (2 : Nat) } b ∧
                                                                  Same { block := b, off := (3 : Nat) } b ∧
                                                                    FnOk Try.prog (33 : Nat) tkTC ∧
                                                                      true = true ∧
                                                                        ∃ (x_3 : TKT),
                                                                          [Value.agg { toList := [Value.int IntKind.i64 n, Value.string s, Value.int IntKind.i64 n_1, Value.int IntKind.i64 n_2] }, Value.pointer (some { block := x.gb, off := (0 : Nat) }), Value.pointer (some { block := x.ob, off := (0 : Nat) })] = [Value.agg { toList := [Value.int IntKind.i64 x_3.t.ow, Value.string x_3.t.id, Value.int IntKind.i64 x_3.t.due, Value.int IntKind.i64 x_3.t.n] }, Value.pointer (some { block := x_3.gb, off := (0 : Nat) }), Value.pointer (some { block := x_3.ob, off := (0 : Nat) })] ∧
                                                                            [Atom.cells x.ob [Value.slice x_2.r.a x_2.r.n x_2.r.cap] (32 : Nat), x_2.r.A] = [Atom.cells x_3.ob [Value.slice x_3.r.a x_3.r.n x_3.r.cap] (32 : Nat), x_3.r.A] ∧
                                                                              (isNs x_3.ns x_3.r ∧ x_3.ns.length ≤ (1000 : Nat)) ∧
                                                                                (Look (Atom.pred (rest [((0 : Nat), Atom.cells x.rb x_2.vs (44 : Nat)), ((1 : Nat), Atom.cells x.ob [Value.slice x_2.r.a x_2.r.n x_2.r.cap] (32 : Nat)), ((2 : Nat), x_2.r.A), ((3 : Nat), F), ((8040 : Nat), Atom.cells b [Value.int IntKind.i64 n, Value.string s, Value.int IntKind.i64 n_1, Value.int IntKind.i64 n_2] (44 : Nat))] [(1 : Nat), (2 : Nat)])) { block := x_3.gb, off := (0 : Nat) } (Value.func (Fn.func (27 : Nat)) { toList := [] } { toList := [Value.pointer (some { block := x_3.k.cb, off := (0 : Nat) })] }) ∧ rkT x_3.k (Atom.pred (rest [((0 : Nat), Atom.cells x.rb x_2.vs (44 : Nat)), ((1 : Nat), Atom.cells x.ob [Value.slice x_2.r.a x_2.r.n x_2.r.cap] (32 : Nat)), ((2 : Nat), x_2.r.A), ((3 : Nat), F), ((8040 : Nat), Atom.cells b [Value.int IntKind.i64 n, Value.string s, Value.int IntKind.i64 n_1, Value.int IntKind.i64 n_2] (44 : Nat))] [(1 : Nat), (2 : Nat)]))) ∧
                                                                                  ∀ (y : Row),
                                                                                    isNs (x_3.ns ++ nts (gT x_3.k) [x_3.t]) y →
                                                                                      Br (!gT x_3.k x_3.t)
                                                                                        (Same { block := b, off := (0 : Nat) } b ∧
                                                                                          Same { block := b, off := (1 : Nat) } b ∧
                                                                                            Same { block := b, off := (2 : Nat) } b ∧
                                                                                              Same { block := b, off := (3 : Nat) } b ∧
                                                                                                ((0 : Int) ≤ (↑(stay (gT x.k) (List.take x_2.j x.ts)).length : Int) ∧ (↑(stay (gT x.k) (List.take x_2.j x.ts)).length : Int) < (↑x.ts.length : Int)) ∧
                                                                                                  (Same { block := x.rb, off := (0 : Nat) + (↑(stay (gT x.k) (List.take x_2.j x.ts)).length : Int).toNat * (4 : Nat) } x.rb ∧ (0 : Nat) + (↑(stay (gT x.k) (List.take x_2.j x.ts)).length : Int).toNat * (4 : Nat) < x_2.vs.length) ∧
                                                                                                    (Same { block := x.rb, off := (0 : Nat) + (↑(stay (gT x.k) (List.take x_2.j x.ts)).length : Int).toNat * (4 : Nat) + (1 : Nat) } x.rb ∧ (0 : Nat) + (↑(stay (gT x.k) (List.take x_2.j x.ts)).length : Int).toNat * (4 : Nat) + (1 : Nat) < (x_2.vs.set ((0 : Nat) + (↑(stay (gT x.k) (List.take x_2.j x.ts)).length : Int).toNat * (4 : Nat)) (Value.int IntKind.i64 n)).length) ∧
                                                                                                      (Same { block := x.rb, off := (0 : Nat) + (↑(stay (gT x.k) (List.take x_2.j x.ts)).length : Int).toNat * (4 : Nat) + (2 : Nat) } x.rb ∧ (0 : Nat) + (↑(stay (gT x.k) (List.take x_2.j x.ts)).length : Int).toNat * (4 : Nat) + (2 : Nat) < ((x_2.vs.set ((0 : Nat) + (↑(stay (gT x.k) (List.take x_2.j x.ts)).length : Int).toNat * (4 : Nat)) (Value.int IntKind.i64 n)).set ((0 : Nat) + (↑(stay (gT x.k) (List.take x_2.j x.ts)).length : Int).toNat * (4 : Nat) + (1 : Nat)) (Value.string s)).length) ∧
                                                                                                        (Same { block := x.rb, off := (0 : Nat) + (↑(stay (gT x.k) (List.take x_2.j x.ts)).length : Int).toNat * (4 : Nat) + (3 : Nat) } x.rb ∧ (0 : Nat) + (↑(stay (gT x.k) (List.take x_2.j x.ts)).length : Int).toNat * (4 : Nat) + (3 : Nat) < (((x_2.vs.set ((0 : Nat) + (↑(stay (gT x.k) (List.take x_2.j x.ts)).length : Int).toNat * (4 : Nat)) (Value.int IntKind.i64 n)).set ((0 : Nat) + (↑(stay (gT x.k) (List.take x_2.j x.ts)).length : Int).toNat * (4 : Nat) + (1 : Nat)) (Value.string s)).set ((0 : Nat) + (↑(stay (gT x.k) (List.take x_2.j x.ts)).length : Int).toNat * (4 : Nat) + (2 : Nat)) (Value.int IntKind.i64 n_1)).length) ∧
                                                                                                          ((-9223372036854775808 : Int) ≤ (↑(stay (gT x.k) (List.take x_2.j x.ts)).length : Int) + (1 : Int) ∧ (↑(stay (gT x.k) (List.take x_2.j x.ts)).length : Int) + (1 : Int) ≤ (9223372036854775807 : Int)) ∧
                                                                                                            ((-9223372036854775808 : Int) ≤ (↑x_2.j : Int) + (1 : Int) ∧ (↑x_2.j : Int) + (1 : Int) ≤ (9223372036854775807 : Int)) ∧
                                                                                                              ∃ (y_1 : DfI),
                                                                                                                IsT x y_1 ∧
                                                                                                                  (Value.slice (some { block := x.rb, off := (0 : Nat) }) x.ts.length x.cap = Value.slice (some { block := x.rb, off := (0 : Nat) }) x.ts.length x.cap ∧ Value.func (Fn.func (33 : Nat)) { toList := [] } { toList := [Value.pointer (some { block := x.gb, off := (0 : Nat) }), Value.pointer (some { block := x.ob, off := (0 : Nat) })] } = Value.func (Fn.func (33 : Nat)) { toList := [] } { toList := [Value.pointer (some { block := x.gb, off := (0 : Nat) }), Value.pointer (some { block := x.ob, off := (0 : Nat) })] } ∧ Value.int IntKind.i64 ((↑(stay (gT x.k) (List.take x_2.j x.ts)).length : Int) + (1 : Int)) = Value.int IntKind.i64 (↑(stay (gT x.k) (List.take y_1.j x.ts)).length : Int) ∧ Value.int IntKind.i64 ((↑x_2.j : Int) + (1 : Int)) = Value.int IntKind.i64 (↑y_1.j : Int) ∧ True) ∧
                                                                                                                    Ent [((0 : Nat), Atom.cells x.rb ((((x_2.vs.set ((0 : Nat) + (↑(stay (gT x.k) (List.take x_2.j x.ts)).length : Int).toNat * (4 : Nat)) (Value.int IntKind.i64 n)).set ((0 : Nat) + (↑(stay (gT x.k) (List.take x_2.j x.ts)).length : Int).toNat * (4 : Nat) + (1 : Nat)) (Value.string s)).set ((0 : Nat) + (↑(stay (gT x.k) (List.take x_2.j x.ts)).length : Int).toNat * (4 : Nat) + (2 : Nat)) (Value.int IntKind.i64 n_1)).set ((0 : Nat) + (↑(stay (gT x.k) (List.take x_2.j x.ts)).length : Int).toNat * (4 : Nat) + (3 : Nat)) (Value.int IntKind.i64 n_2)) (44 : Nat)), ((1 : Nat), Atom.cells x_3.ob [Value.slice y.a y.n y.cap] (32 : Nat)), ((2 : Nat), y.A), ((3 : Nat), F), ((8040 : Nat), Atom.cells b [Value.int IntKind.i64 n, Value.string s, Value.int IntKind.i64 n_1, Value.int IntKind.i64 n_2] (44 : Nat))]
                                                                                                                        [((0 : Nat), Atom.cells x.rb y_1.vs (44 : Nat)), ((1 : Nat), Atom.cells x.ob [Value.slice y_1.r.a y_1.r.n y_1.r.cap] (32 : Nat)), ((2 : Nat), y_1.r.A), ((3 : Nat), F)] ∧
                                                                                                                      x.ts.length - y_1.j < x.ts.length - x_2.j)
                                                                                        (((-9223372036854775808 : Int) ≤ (↑x_2.j : Int) + (1 : Int) ∧ (↑x_2.j : Int) + (1 : Int) ≤ (9223372036854775807 : Int)) ∧
                                                                                          ∃ (y_1 : DfI),
                                                                                            IsT x y_1 ∧
                                                                                              (Value.slice (some { block := x.rb, off := (0 : Nat) }) x.ts.length x.cap = Value.slice (some { block := x.rb, off := (0 : Nat) }) x.ts.length x.cap ∧ Value.func (Fn.func (33 : Nat)) { toList := [] } { toList := [Value.pointer (some { block := x.gb, off := (0 : Nat) }), Value.pointer (some { block := x.ob, off := (0 : Nat) })] } = Value.func (Fn.func (33 : Nat)) { toList := [] } { toList := [Value.pointer (some { block := x.gb, off := (0 : Nat) }), Value.pointer (some { block := x.ob, off := (0 : Nat) })] } ∧ Value.int IntKind.i64 (↑(stay (gT x.k) (List.take x_2.j x.ts)).length : Int) = Value.int IntKind.i64 (↑(stay (gT x.k) (List.take y_1.j x.ts)).length : Int) ∧ Value.int IntKind.i64 ((↑x_2.j : Int) + (1 : Int)) = Value.int IntKind.i64 (↑y_1.j : Int) ∧ True) ∧
                                                                                                Ent [((0 : Nat), Atom.cells x.rb x_2.vs (44 : Nat)), ((1 : Nat), Atom.cells x_3.ob [Value.slice y.a y.n y.cap] (32 : Nat)), ((2 : Nat), y.A), ((3 : Nat), F), ((8040 : Nat), Atom.cells b [Value.int IntKind.i64 n, Value.string s, Value.int IntKind.i64 n_1, Value.int IntKind.i64 n_2] (44 : Nat))] [((0 : Nat), Atom.cells x.rb y_1.vs (44 : Nat)), ((1 : Nat), Atom.cells x.ob [Value.slice y_1.r.a y_1.r.n y_1.r.cap] (32 : Nat)), ((2 : Nat), y_1.r.A), ((3 : Nat), F)] ∧ x.ts.length - y_1.j < x.ts.length - x_2.j))
                                (((0 : Int) ≤ (↑(stay (gT x.k) (List.take x_2.j x.ts)).length : Int) ∧ (↑(stay (gT x.k) (List.take x_2.j x.ts)).length : Int) ≤ (↑x.ts.length : Int) ∧ (↑x.ts.length : Int) ≤ (↑x.cap : Int) ∧ (↑(stay (gT x.k) (List.take x_2.j x.ts)).length : Int) < (↑x.cap : Int)) ∧
                                  OpOk Try.prog (opIn Try.f32 (11 : Nat) (3 : Nat)) (clC tz) ∧
                                    true = true ∧
                                      ∃ (x_3 : ClX),
                                        [Value.slice (some { block := x.rb, off := (0 : Nat) + (↑(stay (gT x.k) (List.take x_2.j x.ts)).length : Int).toNat * (4 : Nat) }) ((↑x.ts.length : Int).toNat - (↑(stay (gT x.k) (List.take x_2.j x.ts)).length : Int).toNat) (x.cap - (↑(stay (gT x.k) (List.take x_2.j x.ts)).length : Int).toNat)] = [Value.slice (some { block := x_3.b, off := x_3.o }) x_3.n x_3.c] ∧
                                          [Atom.cells x.rb x_2.vs (44 : Nat)] = [Atom.cells x_3.b x_3.vs x_3.t] ∧ x_3.o + x_3.n * (4 : Nat) ≤ x_3.vs.length ∧ True ∧ ∀ (y : Unit), True → ((0 : Int) ≤ (0 : Int) ∧ (0 : Int) ≤ (↑(stay (gT x.k) (List.take x_2.j x.ts)).length : Int) ∧ (↑(stay (gT x.k) (List.take x_2.j x.ts)).length : Int) ≤ (↑x.cap : Int) ∧ (0 : Int) < (↑x.cap : Int)) ∧ Done dfTC x F (Ending.returned (Value.slice (some { block := x.rb, off := (0 : Nat) }) ((↑(stay (gT x.k) (List.take x_2.j x.ts)).length : Int).toNat - (0 : Nat)) (x.cap - (0 : Nat)))) [((0 : Nat), Atom.cells x_3.b (List.take x_3.o x_3.vs ++ zeros tz x_3.n ++ List.drop (x_3.o + x_3.n * (4 : Nat)) x_3.vs) x_3.t), ((1 : Nat), Atom.cells x.ob [Value.slice x_2.r.a x_2.r.n x_2.r.cap] (32 : Nat)), ((2 : Nat), x_2.r.A), ((3 : Nat), F)])) := by
  obtain ⟨ts, rb, cap, sp, k, gb, ob, r, ns⟩ := x
  obtain ⟨hl, hcap, h128, hns, h300, hsrt⟩ := hc
  obtain ⟨hr1, hr2⟩ := hr
  dsimp only at hl hcap h128 hns h300 hsrt hr1 hr2 ⊢
  simp only [same_refl, true_and, eq_self]
  refine ⟨ixT_ok, ⟨ts, rb, cap, sp, k, gb, ob, r, ns⟩, rfl, rfl, ⟨hl, hcap, h128, hns, by dsimp only; omega⟩, ⟨Look.sub (A := F) (sub_rest 3 (by simp) rfl) hr1, rkT_mono k _ _ (sub_rest 3 (by simp) rfl) hr2⟩, ?_⟩
  rintro ⟨r1, i⟩ ⟨⟨hile, hino, hiyes⟩, hn1⟩
  dsimp only at hile hino hiyes hn1 ⊢
  refine br_intro (fun he => ?_) (fun he => ?_)
  · have : i = ts.length := by
      rcases Nat.lt_or_ge i ts.length with h | h
      · rw [ixV', decide_eq_true h] at he
        simp at he
      · omega
    subst this
    have hno : ∀ (j : Nat) u, ts[j]? = some u → gT k u = false := fun j u hu => hino j u (List.getElem?_eq_some_iff.1 hu).1 hu
    refine ⟨⟨⟨some ⟨rb, 0, none⟩, ts.length, cap, .cells rb (encT ts ++ sp) 44⟩, r1⟩, ⟨?_, ?_⟩, rfl, Ent.pick [0, 1, 2, 3] rfl rfl⟩
    · dsimp only
      rw [stay_all hno]; exact isTs_blk hl hcap h128 hsrt
    · dsimp only
      rw [List.take_of_length_le (by omega)] at hn1; exact hn1
  · have hlt : i < ts.length := by
      rcases Nat.lt_or_ge i ts.length with h | h
      · exact h
      · rw [ixV', decide_eq_false (by omega)] at he
        simp at he
    obtain ⟨t, ht⟩ : ∃ t, ts[i]? = some t := ⟨ts[i], List.getElem?_eq_getElem hlt⟩
    have ei : ixV' i ts.length = i := by rw [ixV', decide_eq_true hlt]; rfl
    have est : stay (gT k) (ts.take (i + 1)) = ts.take i := by rw [stay_take ht, hiyes t ht, take_no hino]; simp
    have eln : (ts.take i).length = i := by simp; omega
    rw [ei]
    refine ⟨by omega, ⟨⟨i + 1, encT ts ++ sp, r1⟩, ⟨by dsimp only; omega, ?_, hl, ?_, rfl, hn1⟩, ⟨?_, rfl, trivial⟩, Ent.pick [0, 1, 2, 3] rfl rfl⟩, ?_⟩
    · dsimp only; rw [est, eln]; omega
    · dsimp only
      rw [est, eln, List.take_append_of_le_length (by rw [encT_length]; omega), encT_take]
    · dsimp only; rw [est, eln]
    rintro ⟨j, vs, r2⟩ js ⟨hj, hjlt, hvl, htak, hdrp, hn2⟩
    dsimp only at hj hjlt hvl htak hdrp hn2 ⊢
    have hsl : (encT ts ++ sp).length = cap * 4 := hl
    generalize hst : stay (gT k) (ts.take j) = st at *
    refine br_decide (fun hjl => ?_) (fun hjl => ?_)
    · obtain ⟨u, hu⟩ : ∃ u, ts[j]? = some u := ⟨ts[j], List.getElem?_eq_getElem (by omega)⟩
      have hnl : (nts (gT k) (ts.take j)).length ≤ 128 := by
        unfold nts
        have := List.length_filter_le (gT k) (ts.take j)
        simp at this ⊢; omega
      refine ⟨by omega, u.ow, vs_at (c := 0) hdrp hu (by decide) rfl, u.id, vs_at (c := 1) hdrp hu (by decide) rfl, u.due, vs_at (c := 2) hdrp hu (by decide) rfl, u.n, vs_at (c := 3) hdrp hu (by decide) rfl, fun b => ⟨tkT_ok, ⟨u, k, gb, ob, r2, ns ++ nts (gT k) (ts.take j)⟩, rfl, rfl, ⟨hn2, ?_⟩, ⟨Look.sub (A := F) (sub_rest 3 (by simp) rfl) hr1, rkT_mono k _ _ (sub_rest 3 (by simp) rfl) hr2⟩, fun y hy => ?_⟩⟩
      · dsimp only; rw [List.length_append]; omega
      dsimp only at hy ⊢
      rw [List.append_assoc, ← nts_take hu] at hy
      refine br_intro (fun hg => ?_) (fun hg => ?_)
      · have hg : gT k u = false := by simpa using hg
        have est2 : stay (gT k) (ts.take (j + 1)) = st ++ [u] := by rw [stay_take hu, hg, hst]; rfl
        simp only [List.length_set]
        refine ⟨by omega, by omega, by omega, by omega, by omega, by omega, by omega, ⟨j + 1, _, y⟩, ⟨by dsimp only; omega, ?_, ?_, ?_, ?_, hy⟩, ⟨?_, rfl, trivial⟩, Ent.pick [0, 1, 2, 3] rfl rfl, by dsimp only; omega⟩
        · dsimp only; rw [est2]; simp; omega
        · dsimp only; simp only [List.length_set]; exact hvl
        · dsimp only; rw [est2, encT_append, ← htak]
          have := set4_take vs (st.length * 4) (.int .i64 u.ow) (.string u.id) (.int .i64 u.due) (.int .i64 u.n) (by omega)
          simp only [Nat.zero_add, Int.toNat_natCast, List.length_append, List.length_singleton, Nat.add_mul, Nat.one_mul]
          exact this
        · dsimp only
          simp only [Nat.zero_add, Int.toNat_natCast]
          rw [set4_drop _ _ _ _ _ _ _ (by omega), Nat.add_mul, ← List.drop_drop, hdrp, List.drop_drop]
        · rw [est2]; simp
      · have hg : gT k u = true := by simpa using hg
        have est2 : stay (gT k) (ts.take (j + 1)) = st := by rw [stay_take hu, hg, hst]; simp
        refine ⟨by omega, ⟨j + 1, vs, y⟩, ⟨by dsimp only; omega, ?_, hvl, ?_, ?_, hy⟩, ⟨?_, rfl, trivial⟩, Ent.pick [0, 1, 2, 3] rfl rfl, by dsimp only; omega⟩
        · dsimp only; rw [est2]; omega
        · dsimp only; rw [est2]; exact htak
        · dsimp only; rw [Nat.add_mul, ← List.drop_drop, hdrp, List.drop_drop]
        · rw [est2]
    · have : j = ts.length := by omega
      subst this
      rw [List.take_of_length_le (Nat.le_refl _)] at hst hn2
      refine ⟨by omega, clear_ok (P := Try.prog) tz rfl rfl rfl rfl rfl (by decide) (by decide), ⟨rb, vs, 44, st.length * 4, ts.length - st.length, cap - st.length⟩, ?_, rfl, by dsimp only; omega, fun _ _ => ⟨by omega, ⟨⟨some ⟨rb, 0, none⟩, st.length, cap, _⟩, r2⟩, ⟨?_, hn2⟩, ?_, Ent.pick [0, 1, 2, 3] rfl rfl⟩⟩
      · simp
      · dsimp only
        rw [hst, htak, List.append_assoc]
        have h3 : (encT st ++ (zeros tz (ts.length - st.length) ++ List.drop (st.length * 4 + (ts.length - st.length) * tz.length) vs)).length = cap * 4 := by
          simp only [List.length_append, List.length_drop, zeros_length, encT_length]
          simp only [tz, List.length_cons, List.length_nil]
          omega
        have h4 : Srt st := by rw [← hst]; exact stay_srt hsrt
        exact isTs_blk h3 (by omega) (by omega) h4
      · simp only [dfTC]; simp
set_option maxRecDepth 100000 in
theorem dfT_ok : FnOk Try.prog 32 dfTC :=
  fnOk (N := 42) (by kernel_rfl) Try.func32 rfl (by kernel_rfl) (fun _ => Nat.le_of_ble_eq_true rfl) dfT_H [] fun x F hc hr => Eq.mpr (by kernel_rfl) (dfT_vc x F hc hr)
def dfCC : Con where
  X := IXC
  Y := DfY
  args x := [.slice (some ⟨x.rb, 0, none⟩) x.ts.length x.cap, fvK x.gb x.ob]
  pre x := [.cells x.rb (encT x.ts ++ x.sp) 44, outA x.ob x.r, x.r.A]
  cond x := (encT x.ts ++ x.sp).length = x.cap * 4 ∧ x.ts.length ≤ x.cap ∧ x.ts.length ≤ 128 ∧ isNs x.ns x.r ∧ x.ns.length ≤ 300 ∧ Srt x.ts
  rdc x F := Look F ⟨x.gb, 0, none⟩ (fvC x.k) ∧ rkC x.k F
  rel x y := isTs (stay (gC x.k) x.ts) y.row ∧ isNs (x.ns ++ nts (gC x.k) x.ts) y.r
  val _ y := .returned (.slice y.row.a y.row.n y.row.cap)
  post x y := [y.row.A, outA x.ob y.r, y.r.A]
  rmono x A B h hk := ⟨hk.1.sub h, rkC_mono x.k A B h hk.2⟩
structure IsC (x : IXC) (i : DfI) : Prop where
  le : i.j ≤ x.ts.length
  lt : (stay (gC x.k) (x.ts.take i.j)).length < i.j
  len : i.vs.length = x.cap * 4
  tak : i.vs.take ((stay (gC x.k) (x.ts.take i.j)).length * 4) = encT (stay (gC x.k) (x.ts.take i.j))
  drp : i.vs.drop (i.j * 4) = (encT x.ts ++ x.sp).drop (i.j * 4)
  ns : isNs (x.ns ++ nts (gC x.k) (x.ts.take i.j)) i.r
def dfCInv (x : IXC) (F : Atom) : Nat → Option Inv := fun
  | 0 => some { X := DfI, P := fun i => IsC x i, mu := fun i => x.ts.length - i.j, lv := fun i => [(0, .slice (some ⟨x.rb, 0, none⟩) x.ts.length x.cap), (1, fvK x.gb x.ob), (5, .int .i64 ((stay (gC x.k) (x.ts.take i.j)).length : Nat)), (6, .int .i64 i.j)], st := fun i => [.cells x.rb i.vs 44, outA x.ob i.r, i.r.A, F] }
  | _ => none
def dfCOv (_x : IXC) (_F : Atom) : List (Nat × Nat × OH) := [(1, 2, .c ixCC [0, 1, 2] [0, 1, 2]), (8, 2, .c tkCC [1, 2] [1, 2]), (11, 3, .o (clC tz) [0] [0])]
noncomputable def dfC_H (x : Con.X dfCC) (F : Atom) : Hints where
  op := hk ((dfCOv x F) ++ [(7, 3, OH.q [LH.ex (0 : Nat) (Shape.int IntKind.i64), LH.ex (0 : Nat) Shape.str, LH.ex (0 : Nat) (Shape.int IntKind.i64), LH.ex (0 : Nat) (Shape.int IntKind.i64)]),   (7, 4, OH.n (8040 : Nat)),   (7, 5, OH.w [LH.atj (8040 : Nat), LH.atj (8040 : Nat), LH.atj (8040 : Nat), LH.atj (8040 : Nat)]),   (8, 1, OH.q [LH.atj (8040 : Nat), LH.atj (8040 : Nat), LH.atj (8040 : Nat), LH.atj (8040 : Nat)]),   (9, 2, OH.q [LH.atj (8040 : Nat), LH.atj (8040 : Nat), LH.atj (8040 : Nat), LH.atj (8040 : Nat)]),   (9, 4, OH.w [LH.ex (0 : Nat) Shape.any, LH.ex (0 : Nat) Shape.any, LH.ex (0 : Nat) Shape.any, LH.ex (0 : Nat) Shape.any])])
  inv := dfCInv x F
  cut := (fun _ _ _ => none) x F
  ord := (fun _ => [])
set_option maxRecDepth 100000 in
theorem dfC_vc (x : IXC) (F : Atom) (hc : Con.cond dfCC x) (hr : Con.rdc dfCC x F) :
  FnOk Try.prog (36 : Nat) ixCC ∧
    true = true ∧
      ∃ (x_1 : IXC),
        [Value.slice (some { block := x.rb, off := (0 : Nat) }) x.ts.length x.cap, Value.func (Fn.func (33 : Nat)) { toList := [] } { toList := [Value.pointer (some { block := x.gb, off := (0 : Nat) }), Value.pointer (some { block := x.ob, off := (0 : Nat) })] }] = [Value.slice (some { block := x_1.rb, off := (0 : Nat) }) x_1.ts.length x_1.cap, Value.func (Fn.func (33 : Nat)) { toList := [] } { toList := [Value.pointer (some { block := x_1.gb, off := (0 : Nat) }), Value.pointer (some { block := x_1.ob, off := (0 : Nat) })] }] ∧
          [Atom.cells x.rb (encT x.ts ++ x.sp) (44 : Nat), Atom.cells x.ob [Value.slice x.r.a x.r.n x.r.cap] (32 : Nat), x.r.A] = [Atom.cells x_1.rb (encT x_1.ts ++ x_1.sp) (44 : Nat), Atom.cells x_1.ob [Value.slice x_1.r.a x_1.r.n x_1.r.cap] (32 : Nat), x_1.r.A] ∧
            ((encT x_1.ts ++ x_1.sp).length = x_1.cap * (4 : Nat) ∧ x_1.ts.length ≤ x_1.cap ∧ x_1.ts.length ≤ (128 : Nat) ∧ isNs x_1.ns x_1.r ∧ x_1.ns.length ≤ (500 : Nat)) ∧
              (Look (Atom.pred (rest [((0 : Nat), Atom.cells x.rb (encT x.ts ++ x.sp) (44 : Nat)), ((1 : Nat), Atom.cells x.ob [Value.slice x.r.a x.r.n x.r.cap] (32 : Nat)), ((2 : Nat), x.r.A), ((3 : Nat), F)] [(0 : Nat), (1 : Nat), (2 : Nat)])) { block := x_1.gb, off := (0 : Nat) } (Value.func (Fn.func (29 : Nat)) { toList := [] } { toList := [Value.pointer (some { block := x_1.k.c1, off := (0 : Nat) }), Value.pointer (some { block := x_1.k.c2, off := (0 : Nat) })] }) ∧ rkC x_1.k (Atom.pred (rest [((0 : Nat), Atom.cells x.rb (encT x.ts ++ x.sp) (44 : Nat)), ((1 : Nat), Atom.cells x.ob [Value.slice x.r.a x.r.n x.r.cap] (32 : Nat)), ((2 : Nat), x.r.A), ((3 : Nat), F)] [(0 : Nat), (1 : Nat), (2 : Nat)]))) ∧
                ∀ (y : IxY),
                  IsIx (gC x_1.k) x_1.ts y.i ∧ isNs (x_1.ns ++ nts (gC x_1.k) (List.take (y.i + (1 : Nat)) x_1.ts)) y.r →
                    Br (ixV' y.i x_1.ts.length == (-1 : Int)) (Done dfCC x F (Ending.returned (Value.slice (some { block := x.rb, off := (0 : Nat) }) x.ts.length x.cap)) [((0 : Nat), Atom.cells x_1.rb (encT x_1.ts ++ x_1.sp) (44 : Nat)), ((1 : Nat), Atom.cells x_1.ob [Value.slice y.r.a y.r.n y.r.cap] (32 : Nat)), ((2 : Nat), y.r.A), ((3 : Nat), F)])
                      (((-9223372036854775808 : Int) ≤ ixV' y.i x_1.ts.length + (1 : Int) ∧ ixV' y.i x_1.ts.length + (1 : Int) ≤ (9223372036854775807 : Int)) ∧
                        (∃ (x_2 : DfI),
                            IsC x x_2 ∧
                              (Value.slice (some { block := x.rb, off := (0 : Nat) }) x.ts.length x.cap = Value.slice (some { block := x.rb, off := (0 : Nat) }) x.ts.length x.cap ∧ Value.func (Fn.func (33 : Nat)) { toList := [] } { toList := [Value.pointer (some { block := x.gb, off := (0 : Nat) }), Value.pointer (some { block := x.ob, off := (0 : Nat) })] } = Value.func (Fn.func (33 : Nat)) { toList := [] } { toList := [Value.pointer (some { block := x.gb, off := (0 : Nat) }), Value.pointer (some { block := x.ob, off := (0 : Nat) })] } ∧ Value.int IntKind.i64 (ixV' y.i x_1.ts.length) = Value.int IntKind.i64 (↑(stay (gC x.k) (List.take x_2.j x.ts)).length : Int) ∧ Value.int IntKind.i64 (ixV' y.i x_1.ts.length + (1 : Int)) = Value.int IntKind.i64 (↑x_2.j : Int) ∧ True) ∧
                                Ent [((0 : Nat), Atom.cells x_1.rb (encT x_1.ts ++ x_1.sp) (44 : Nat)), ((1 : Nat), Atom.cells x_1.ob [Value.slice y.r.a y.r.n y.r.cap] (32 : Nat)), ((2 : Nat), y.r.A), ((3 : Nat), F)] [((0 : Nat), Atom.cells x.rb x_2.vs (44 : Nat)), ((1 : Nat), Atom.cells x.ob [Value.slice x_2.r.a x_2.r.n x_2.r.cap] (32 : Nat)), ((2 : Nat), x_2.r.A), ((3 : Nat), F)]) ∧
                          ∀ (x_2 : DfI) (js : Nat → Value),
                            IsC x x_2 →
                              Br (decide ((↑x_2.j : Int) < (↑x.ts.length : Int)))
                                (((0 : Int) ≤ (↑x_2.j : Int) ∧ (↑x_2.j : Int) < (↑x.ts.length : Int)) ∧
                                  ∃ (n : Int),
                                    Look (Atom.cells x.rb x_2.vs (44 : Nat)) { block := x.rb, off := (0 : Nat) + (↑x_2.j : Int).toNat * (4 : Nat) } (Value.int IntKind.i64 n) ∧
                                      ∃ (s : ByteArray),
                                        Look (Atom.cells x.rb x_2.vs (44 : Nat)) { block := x.rb, off := (0 : Nat) + (↑x_2.j : Int).toNat * (4 : Nat) + (1 : Nat) } (Value.string s) ∧
                                          ∃ (n_1 : Int),
                                            Look (Atom.cells x.rb x_2.vs (44 : Nat)) { block := x.rb, off := (0 : Nat) + (↑x_2.j : Int).toNat * (4 : Nat) + (2 : Nat) } (Value.int IntKind.i64 n_1) ∧
                                              ∃ (n_2 : Int),
                                                Look (Atom.cells x.rb x_2.vs (44 : Nat)) { block := x.rb, off := (0 : Nat) + (↑x_2.j : Int).toNat * (4 : Nat) + (3 : Nat) } (Value.int IntKind.i64 n_2) ∧
                                                  ∀ (b : Nat),
                                                    Same { block := b, off := (0 : Nat) } b ∧
                                                      Same { block := b, off := (1 : Nat) } b ∧
                                                        Same { block := b, off := (2 : Nat) } b ∧
                                                          Same { block := b, off := (3 : Nat) } b ∧
                                                            Same { block := b, off := (0 : Nat) } b ∧
                                                              Same { block := b, off := (1 : Nat) } b ∧
                                                                Same { block := b, off := (2 : Nat) } b ∧
                                                                  Same { block := b, off := (3 : Nat) } b ∧
                                                                    FnOk Try.prog (33 : Nat) tkCC ∧
                                                                      true = true ∧
                                                                        ∃ (x_3 : TKC),
                                                                          [Value.agg { toList := [Value.int IntKind.i64 n, Value.string s, Value.int IntKind.i64 n_1, Value.int IntKind.i64 n_2] }, Value.pointer (some { block := x.gb, off := (0 : Nat) }), Value.pointer (some { block := x.ob, off := (0 : Nat) })] = [Value.agg { toList := [Value.int IntKind.i64 x_3.t.ow, Value.string x_3.t.id, Value.int IntKind.i64 x_3.t.due, Value.int IntKind.i64 x_3.t.n] }, Value.pointer (some { block := x_3.gb, off := (0 : Nat) }), Value.pointer (some { block := x_3.ob, off := (0 : Nat) })] ∧
                                                                            [Atom.cells x.ob [Value.slice x_2.r.a x_2.r.n x_2.r.cap] (32 : Nat), x_2.r.A] = [Atom.cells x_3.ob [Value.slice x_3.r.a x_3.r.n x_3.r.cap] (32 : Nat), x_3.r.A] ∧
                                                                              (isNs x_3.ns x_3.r ∧ x_3.ns.length ≤ (1000 : Nat)) ∧
                                                                                (Look (Atom.pred (rest [((0 : Nat), Atom.cells x.rb x_2.vs (44 : Nat)), ((1 : Nat), Atom.cells x.ob [Value.slice x_2.r.a x_2.r.n x_2.r.cap] (32 : Nat)), ((2 : Nat), x_2.r.A), ((3 : Nat), F), ((8040 : Nat), Atom.cells b [Value.int IntKind.i64 n, Value.string s, Value.int IntKind.i64 n_1, Value.int IntKind.i64 n_2] (44 : Nat))] [(1 : Nat), (2 : Nat)])) { block := x_3.gb, off := (0 : Nat) } (Value.func (Fn.func (29 : Nat)) { toList := [] } { toList := [Value.pointer (some { block := x_3.k.c1, off := (0 : Nat) }), Value.pointer (some { block := x_3.k.c2, off := (0 : Nat) })] }) ∧
                                                                                    rkC x_3.k (Atom.pred (rest [((0 : Nat), Atom.cells x.rb x_2.vs (44 : Nat)), ((1 : Nat), Atom.cells x.ob [Value.slice x_2.r.a x_2.r.n x_2.r.cap] (32 : Nat)), ((2 : Nat), x_2.r.A), ((3 : Nat), F), ((8040 : Nat), Atom.cells b [Value.int IntKind.i64 n, Value.string s, Value.int IntKind.i64 n_1, Value.int IntKind.i64 n_2] (44 : Nat))] [(1 : Nat), (2 : Nat)]))) ∧
                                                                                  ∀ (y : Row),
                                                                                    isNs (x_3.ns ++ nts (gC x_3.k) [x_3.t]) y →
                                                                                      Br (!gC x_3.k x_3.t)
                                                                                        (Same { block := b, off := (0 : Nat) } b ∧
                                                                                          Same { block := b, off := (1 : Nat) } b ∧
                                                                                            Same { block := b, off := (2 : Nat) } b ∧
                                                                                              Same { block := b, off := (3 : Nat) } b ∧
                                                                                                ((0 : Int) ≤ (↑(stay (gC x.k) (List.take x_2.j x.ts)).length : Int) ∧ (↑(stay (gC x.k) (List.take x_2.j x.ts)).length : Int) < (↑x.ts.length : Int)) ∧
                                                                                                  (Same { block := x.rb, off := (0 : Nat) + (↑(stay (gC x.k) (List.take x_2.j x.ts)).length : Int).toNat * (4 : Nat) } x.rb ∧ (0 : Nat) + (↑(stay (gC x.k) (List.take x_2.j x.ts)).length : Int).toNat * (4 : Nat) < x_2.vs.length) ∧
                                                                                                    (Same { block := x.rb, off := (0 : Nat) + (↑(stay (gC x.k) (List.take x_2.j x.ts)).length : Int).toNat * (4 : Nat) + (1 : Nat) } x.rb ∧ (0 : Nat) + (↑(stay (gC x.k) (List.take x_2.j x.ts)).length : Int).toNat * (4 : Nat) + (1 : Nat) < (x_2.vs.set ((0 : Nat) + (↑(stay (gC x.k) (List.take x_2.j x.ts)).length : Int).toNat * (4 : Nat)) (Value.int IntKind.i64 n)).length) ∧
                                                                                                      (Same { block := x.rb, off := (0 : Nat) + (↑(stay (gC x.k) (List.take x_2.j x.ts)).length : Int).toNat * (4 : Nat) + (2 : Nat) } x.rb ∧ (0 : Nat) + (↑(stay (gC x.k) (List.take x_2.j x.ts)).length : Int).toNat * (4 : Nat) + (2 : Nat) < ((x_2.vs.set ((0 : Nat) + (↑(stay (gC x.k) (List.take x_2.j x.ts)).length : Int).toNat * (4 : Nat)) (Value.int IntKind.i64 n)).set ((0 : Nat) + (↑(stay (gC x.k) (List.take x_2.j x.ts)).length : Int).toNat * (4 : Nat) + (1 : Nat)) (Value.string s)).length) ∧
                                                                                                        (Same { block := x.rb, off := (0 : Nat) + (↑(stay (gC x.k) (List.take x_2.j x.ts)).length : Int).toNat * (4 : Nat) + (3 : Nat) } x.rb ∧ (0 : Nat) + (↑(stay (gC x.k) (List.take x_2.j x.ts)).length : Int).toNat * (4 : Nat) + (3 : Nat) < (((x_2.vs.set ((0 : Nat) + (↑(stay (gC x.k) (List.take x_2.j x.ts)).length : Int).toNat * (4 : Nat)) (Value.int IntKind.i64 n)).set ((0 : Nat) + (↑(stay (gC x.k) (List.take x_2.j x.ts)).length : Int).toNat * (4 : Nat) + (1 : Nat)) (Value.string s)).set ((0 : Nat) + (↑(stay (gC x.k) (List.take x_2.j x.ts)).length : Int).toNat * (4 : Nat) + (2 : Nat)) (Value.int IntKind.i64 n_1)).length) ∧
                                                                                                          ((-9223372036854775808 : Int) ≤ (↑(stay (gC x.k) (List.take x_2.j x.ts)).length : Int) + (1 : Int) ∧ (↑(stay (gC x.k) (List.take x_2.j x.ts)).length : Int) + (1 : Int) ≤ (9223372036854775807 : Int)) ∧
                                                                                                            ((-9223372036854775808 : Int) ≤ (↑x_2.j : Int) + (1 : Int) ∧ (↑x_2.j : Int) + (1 : Int) ≤ (9223372036854775807 : Int)) ∧
                                                                                                              ∃ (y_1 : DfI),
                                                                                                                IsC x y_1 ∧
                                                                                                                  (Value.slice (some { block := x.rb, off := (0 : Nat) }) x.ts.length x.cap = Value.slice (some { block := x.rb, off := (0 : Nat) }) x.ts.length x.cap ∧ Value.func (Fn.func (33 : Nat)) { toList := [] } { toList := [Value.pointer (some { block := x.gb, off := (0 : Nat) }), Value.pointer (some { block := x.ob, off := (0 : Nat) })] } = Value.func (Fn.func (33 : Nat)) { toList := [] } { toList := [Value.pointer (some { block := x.gb, off := (0 : Nat) }), Value.pointer (some { block := x.ob, off := (0 : Nat) })] } ∧ Value.int IntKind.i64 ((↑(stay (gC x.k) (List.take x_2.j x.ts)).length : Int) + (1 : Int)) = Value.int IntKind.i64 (↑(stay (gC x.k) (List.take y_1.j x.ts)).length : Int) ∧ Value.int IntKind.i64 ((↑x_2.j : Int) + (1 : Int)) = Value.int IntKind.i64 (↑y_1.j : Int) ∧ True) ∧
                                                                                                                    Ent [((0 : Nat), Atom.cells x.rb ((((x_2.vs.set ((0 : Nat) + (↑(stay (gC x.k) (List.take x_2.j x.ts)).length : Int).toNat * (4 : Nat)) (Value.int IntKind.i64 n)).set ((0 : Nat) + (↑(stay (gC x.k) (List.take x_2.j x.ts)).length : Int).toNat * (4 : Nat) + (1 : Nat)) (Value.string s)).set ((0 : Nat) + (↑(stay (gC x.k) (List.take x_2.j x.ts)).length : Int).toNat * (4 : Nat) + (2 : Nat)) (Value.int IntKind.i64 n_1)).set ((0 : Nat) + (↑(stay (gC x.k) (List.take x_2.j x.ts)).length : Int).toNat * (4 : Nat) + (3 : Nat)) (Value.int IntKind.i64 n_2)) (44 : Nat)), ((1 : Nat), Atom.cells x_3.ob [Value.slice y.a y.n y.cap] (32 : Nat)), ((2 : Nat), y.A), ((3 : Nat), F), ((8040 : Nat), Atom.cells b [Value.int IntKind.i64 n, Value.string s, Value.int IntKind.i64 n_1, Value.int IntKind.i64 n_2] (44 : Nat))]
                                                                                                                        [((0 : Nat), Atom.cells x.rb y_1.vs (44 : Nat)), ((1 : Nat), Atom.cells x.ob [Value.slice y_1.r.a y_1.r.n y_1.r.cap] (32 : Nat)), ((2 : Nat), y_1.r.A), ((3 : Nat), F)] ∧
                                                                                                                      x.ts.length - y_1.j < x.ts.length - x_2.j)
                                                                                        (((-9223372036854775808 : Int) ≤ (↑x_2.j : Int) + (1 : Int) ∧ (↑x_2.j : Int) + (1 : Int) ≤ (9223372036854775807 : Int)) ∧
                                                                                          ∃ (y_1 : DfI),
                                                                                            IsC x y_1 ∧
                                                                                              (Value.slice (some { block := x.rb, off := (0 : Nat) }) x.ts.length x.cap = Value.slice (some { block := x.rb, off := (0 : Nat) }) x.ts.length x.cap ∧ Value.func (Fn.func (33 : Nat)) { toList := [] } { toList := [Value.pointer (some { block := x.gb, off := (0 : Nat) }), Value.pointer (some { block := x.ob, off := (0 : Nat) })] } = Value.func (Fn.func (33 : Nat)) { toList := [] } { toList := [Value.pointer (some { block := x.gb, off := (0 : Nat) }), Value.pointer (some { block := x.ob, off := (0 : Nat) })] } ∧ Value.int IntKind.i64 (↑(stay (gC x.k) (List.take x_2.j x.ts)).length : Int) = Value.int IntKind.i64 (↑(stay (gC x.k) (List.take y_1.j x.ts)).length : Int) ∧ Value.int IntKind.i64 ((↑x_2.j : Int) + (1 : Int)) = Value.int IntKind.i64 (↑y_1.j : Int) ∧ True) ∧
                                                                                                Ent [((0 : Nat), Atom.cells x.rb x_2.vs (44 : Nat)), ((1 : Nat), Atom.cells x_3.ob [Value.slice y.a y.n y.cap] (32 : Nat)), ((2 : Nat), y.A), ((3 : Nat), F), ((8040 : Nat), Atom.cells b [Value.int IntKind.i64 n, Value.string s, Value.int IntKind.i64 n_1, Value.int IntKind.i64 n_2] (44 : Nat))] [((0 : Nat), Atom.cells x.rb y_1.vs (44 : Nat)), ((1 : Nat), Atom.cells x.ob [Value.slice y_1.r.a y_1.r.n y_1.r.cap] (32 : Nat)), ((2 : Nat), y_1.r.A), ((3 : Nat), F)] ∧ x.ts.length - y_1.j < x.ts.length - x_2.j))
                                (((0 : Int) ≤ (↑(stay (gC x.k) (List.take x_2.j x.ts)).length : Int) ∧ (↑(stay (gC x.k) (List.take x_2.j x.ts)).length : Int) ≤ (↑x.ts.length : Int) ∧ (↑x.ts.length : Int) ≤ (↑x.cap : Int) ∧ (↑(stay (gC x.k) (List.take x_2.j x.ts)).length : Int) < (↑x.cap : Int)) ∧
                                  OpOk Try.prog (opIn Try.f32 (11 : Nat) (3 : Nat)) (clC tz) ∧
                                    true = true ∧
                                      ∃ (x_3 : ClX),
                                        [Value.slice (some { block := x.rb, off := (0 : Nat) + (↑(stay (gC x.k) (List.take x_2.j x.ts)).length : Int).toNat * (4 : Nat) }) ((↑x.ts.length : Int).toNat - (↑(stay (gC x.k) (List.take x_2.j x.ts)).length : Int).toNat) (x.cap - (↑(stay (gC x.k) (List.take x_2.j x.ts)).length : Int).toNat)] = [Value.slice (some { block := x_3.b, off := x_3.o }) x_3.n x_3.c] ∧
                                          [Atom.cells x.rb x_2.vs (44 : Nat)] = [Atom.cells x_3.b x_3.vs x_3.t] ∧ x_3.o + x_3.n * (4 : Nat) ≤ x_3.vs.length ∧ True ∧ ∀ (y : Unit), True → ((0 : Int) ≤ (0 : Int) ∧ (0 : Int) ≤ (↑(stay (gC x.k) (List.take x_2.j x.ts)).length : Int) ∧ (↑(stay (gC x.k) (List.take x_2.j x.ts)).length : Int) ≤ (↑x.cap : Int) ∧ (0 : Int) < (↑x.cap : Int)) ∧ Done dfCC x F (Ending.returned (Value.slice (some { block := x.rb, off := (0 : Nat) }) ((↑(stay (gC x.k) (List.take x_2.j x.ts)).length : Int).toNat - (0 : Nat)) (x.cap - (0 : Nat)))) [((0 : Nat), Atom.cells x_3.b (List.take x_3.o x_3.vs ++ zeros tz x_3.n ++ List.drop (x_3.o + x_3.n * (4 : Nat)) x_3.vs) x_3.t), ((1 : Nat), Atom.cells x.ob [Value.slice x_2.r.a x_2.r.n x_2.r.cap] (32 : Nat)), ((2 : Nat), x_2.r.A), ((3 : Nat), F)])) := by
  obtain ⟨ts, rb, cap, sp, k, gb, ob, r, ns⟩ := x
  obtain ⟨hl, hcap, h128, hns, h300, hsrt⟩ := hc
  obtain ⟨hr1, hr2⟩ := hr
  dsimp only at hl hcap h128 hns h300 hsrt hr1 hr2 ⊢
  simp only [same_refl, true_and, eq_self]
  refine ⟨ixC_ok, ⟨ts, rb, cap, sp, k, gb, ob, r, ns⟩, rfl, rfl, ⟨hl, hcap, h128, hns, by dsimp only; omega⟩, ⟨Look.sub (A := F) (sub_rest 3 (by simp) rfl) hr1, rkC_mono k _ _ (sub_rest 3 (by simp) rfl) hr2⟩, ?_⟩
  rintro ⟨r1, i⟩ ⟨⟨hile, hino, hiyes⟩, hn1⟩
  dsimp only at hile hino hiyes hn1 ⊢
  refine br_intro (fun he => ?_) (fun he => ?_)
  · have : i = ts.length := by
      rcases Nat.lt_or_ge i ts.length with h | h
      · rw [ixV', decide_eq_true h] at he
        simp at he
      · omega
    subst this
    have hno : ∀ (j : Nat) u, ts[j]? = some u → gC k u = false := fun j u hu => hino j u (List.getElem?_eq_some_iff.1 hu).1 hu
    refine ⟨⟨⟨some ⟨rb, 0, none⟩, ts.length, cap, .cells rb (encT ts ++ sp) 44⟩, r1⟩, ⟨?_, ?_⟩, rfl, Ent.pick [0, 1, 2, 3] rfl rfl⟩
    · dsimp only
      rw [stay_all hno]; exact isTs_blk hl hcap h128 hsrt
    · dsimp only
      rw [List.take_of_length_le (by omega)] at hn1; exact hn1
  · have hlt : i < ts.length := by
      rcases Nat.lt_or_ge i ts.length with h | h
      · exact h
      · rw [ixV', decide_eq_false (by omega)] at he
        simp at he
    obtain ⟨t, ht⟩ : ∃ t, ts[i]? = some t := ⟨ts[i], List.getElem?_eq_getElem hlt⟩
    have ei : ixV' i ts.length = i := by rw [ixV', decide_eq_true hlt]; rfl
    have est : stay (gC k) (ts.take (i + 1)) = ts.take i := by rw [stay_take ht, hiyes t ht, take_no hino]; simp
    have eln : (ts.take i).length = i := by simp; omega
    rw [ei]
    refine ⟨by omega, ⟨⟨i + 1, encT ts ++ sp, r1⟩, ⟨by dsimp only; omega, ?_, hl, ?_, rfl, hn1⟩, ⟨?_, rfl, trivial⟩, Ent.pick [0, 1, 2, 3] rfl rfl⟩, ?_⟩
    · dsimp only; rw [est, eln]; omega
    · dsimp only
      rw [est, eln, List.take_append_of_le_length (by rw [encT_length]; omega), encT_take]
    · dsimp only; rw [est, eln]
    rintro ⟨j, vs, r2⟩ js ⟨hj, hjlt, hvl, htak, hdrp, hn2⟩
    dsimp only at hj hjlt hvl htak hdrp hn2 ⊢
    have hsl : (encT ts ++ sp).length = cap * 4 := hl
    generalize hst : stay (gC k) (ts.take j) = st at *
    refine br_decide (fun hjl => ?_) (fun hjl => ?_)
    · obtain ⟨u, hu⟩ : ∃ u, ts[j]? = some u := ⟨ts[j], List.getElem?_eq_getElem (by omega)⟩
      have hnl : (nts (gC k) (ts.take j)).length ≤ 128 := by
        unfold nts
        have := List.length_filter_le (gC k) (ts.take j)
        simp at this ⊢; omega
      refine ⟨by omega, u.ow, vs_at (c := 0) hdrp hu (by decide) rfl, u.id, vs_at (c := 1) hdrp hu (by decide) rfl, u.due, vs_at (c := 2) hdrp hu (by decide) rfl, u.n, vs_at (c := 3) hdrp hu (by decide) rfl, fun b => ⟨tkC_ok, ⟨u, k, gb, ob, r2, ns ++ nts (gC k) (ts.take j)⟩, rfl, rfl, ⟨hn2, ?_⟩, ⟨Look.sub (A := F) (sub_rest 3 (by simp) rfl) hr1, rkC_mono k _ _ (sub_rest 3 (by simp) rfl) hr2⟩, fun y hy => ?_⟩⟩
      · dsimp only; rw [List.length_append]; omega
      dsimp only at hy ⊢
      rw [List.append_assoc, ← nts_take hu] at hy
      refine br_intro (fun hg => ?_) (fun hg => ?_)
      · have hg : gC k u = false := by simpa using hg
        have est2 : stay (gC k) (ts.take (j + 1)) = st ++ [u] := by rw [stay_take hu, hg, hst]; rfl
        simp only [List.length_set]
        refine ⟨by omega, by omega, by omega, by omega, by omega, by omega, by omega, ⟨j + 1, _, y⟩, ⟨by dsimp only; omega, ?_, ?_, ?_, ?_, hy⟩, ⟨?_, rfl, trivial⟩, Ent.pick [0, 1, 2, 3] rfl rfl, by dsimp only; omega⟩
        · dsimp only; rw [est2]; simp; omega
        · dsimp only; simp only [List.length_set]; exact hvl
        · dsimp only; rw [est2, encT_append, ← htak]
          have := set4_take vs (st.length * 4) (.int .i64 u.ow) (.string u.id) (.int .i64 u.due) (.int .i64 u.n) (by omega)
          simp only [Nat.zero_add, Int.toNat_natCast, List.length_append, List.length_singleton, Nat.add_mul, Nat.one_mul]
          exact this
        · dsimp only
          simp only [Nat.zero_add, Int.toNat_natCast]
          rw [set4_drop _ _ _ _ _ _ _ (by omega), Nat.add_mul, ← List.drop_drop, hdrp, List.drop_drop]
        · rw [est2]; simp
      · have hg : gC k u = true := by simpa using hg
        have est2 : stay (gC k) (ts.take (j + 1)) = st := by rw [stay_take hu, hg, hst]; simp
        refine ⟨by omega, ⟨j + 1, vs, y⟩, ⟨by dsimp only; omega, ?_, hvl, ?_, ?_, hy⟩, ⟨?_, rfl, trivial⟩, Ent.pick [0, 1, 2, 3] rfl rfl, by dsimp only; omega⟩
        · dsimp only; rw [est2]; omega
        · dsimp only; rw [est2]; exact htak
        · dsimp only; rw [Nat.add_mul, ← List.drop_drop, hdrp, List.drop_drop]
        · rw [est2]
    · have : j = ts.length := by omega
      subst this
      rw [List.take_of_length_le (Nat.le_refl _)] at hst hn2
      refine ⟨by omega, clear_ok (P := Try.prog) tz rfl rfl rfl rfl rfl (by decide) (by decide), ⟨rb, vs, 44, st.length * 4, ts.length - st.length, cap - st.length⟩, ?_, rfl, by dsimp only; omega, fun _ _ => ⟨by omega, ⟨⟨some ⟨rb, 0, none⟩, st.length, cap, _⟩, r2⟩, ⟨?_, hn2⟩, ?_, Ent.pick [0, 1, 2, 3] rfl rfl⟩⟩
      · simp
      · dsimp only
        rw [hst, htak, List.append_assoc]
        have h3 : (encT st ++ (zeros tz (ts.length - st.length) ++ List.drop (st.length * 4 + (ts.length - st.length) * tz.length) vs)).length = cap * 4 := by
          simp only [List.length_append, List.length_drop, zeros_length, encT_length]
          simp only [tz, List.length_cons, List.length_nil]
          omega
        have h4 : Srt st := by rw [← hst]; exact stay_srt hsrt
        exact isTs_blk h3 (by omega) (by omega) h4
      · simp only [dfCC]; simp
set_option maxRecDepth 100000 in
theorem dfC_ok : FnOk Try.prog 32 dfCC :=
  fnOk (N := 42) (by kernel_rfl) Try.func32 rfl (by kernel_rfl) (fun _ => Nat.le_of_ble_eq_true rfl) dfC_H [] fun x F hc hr => Eq.mpr (by kernel_rfl) (dfC_vc x F hc hr)
def dfDC : Con where
  X := IXD
  Y := DfY
  args x := [.slice (some ⟨x.rb, 0, none⟩) x.ts.length x.cap, fvK x.gb x.ob]
  pre x := [.cells x.rb (encT x.ts ++ x.sp) 44, outA x.ob x.r, x.r.A]
  cond x := (encT x.ts ++ x.sp).length = x.cap * 4 ∧ x.ts.length ≤ x.cap ∧ x.ts.length ≤ 128 ∧ isNs x.ns x.r ∧ x.ns.length ≤ 300 ∧ Srt x.ts
  rdc x F := Look F ⟨x.gb, 0, none⟩ (fvD x.k) ∧ rkD x.k F
  rel x y := isTs (stay (gD x.k) x.ts) y.row ∧ isNs (x.ns ++ nts (gD x.k) x.ts) y.r
  val _ y := .returned (.slice y.row.a y.row.n y.row.cap)
  post x y := [y.row.A, outA x.ob y.r, y.r.A]
  rmono x A B h hk := ⟨hk.1.sub h, rkD_mono x.k A B h hk.2⟩
structure IsD (x : IXD) (i : DfI) : Prop where
  le : i.j ≤ x.ts.length
  lt : (stay (gD x.k) (x.ts.take i.j)).length < i.j
  len : i.vs.length = x.cap * 4
  tak : i.vs.take ((stay (gD x.k) (x.ts.take i.j)).length * 4) = encT (stay (gD x.k) (x.ts.take i.j))
  drp : i.vs.drop (i.j * 4) = (encT x.ts ++ x.sp).drop (i.j * 4)
  ns : isNs (x.ns ++ nts (gD x.k) (x.ts.take i.j)) i.r
def dfDInv (x : IXD) (F : Atom) : Nat → Option Inv := fun
  | 0 => some { X := DfI, P := fun i => IsD x i, mu := fun i => x.ts.length - i.j, lv := fun i => [(0, .slice (some ⟨x.rb, 0, none⟩) x.ts.length x.cap), (1, fvK x.gb x.ob), (5, .int .i64 ((stay (gD x.k) (x.ts.take i.j)).length : Nat)), (6, .int .i64 i.j)], st := fun i => [.cells x.rb i.vs 44, outA x.ob i.r, i.r.A, F] }
  | _ => none
def dfDOv (_x : IXD) (_F : Atom) : List (Nat × Nat × OH) := [(1, 2, .c ixDC [0, 1, 2] [0, 1, 2]), (8, 2, .c tkDC [1, 2] [1, 2]), (11, 3, .o (clC tz) [0] [0])]
noncomputable def dfD_H (x : Con.X dfDC) (F : Atom) : Hints where
  op := hk ((dfDOv x F) ++ [(7, 3, OH.q [LH.ex (0 : Nat) (Shape.int IntKind.i64), LH.ex (0 : Nat) Shape.str, LH.ex (0 : Nat) (Shape.int IntKind.i64), LH.ex (0 : Nat) (Shape.int IntKind.i64)]),   (7, 4, OH.n (8040 : Nat)),   (7, 5, OH.w [LH.atj (8040 : Nat), LH.atj (8040 : Nat), LH.atj (8040 : Nat), LH.atj (8040 : Nat)]),   (8, 1, OH.q [LH.atj (8040 : Nat), LH.atj (8040 : Nat), LH.atj (8040 : Nat), LH.atj (8040 : Nat)]),   (9, 2, OH.q [LH.atj (8040 : Nat), LH.atj (8040 : Nat), LH.atj (8040 : Nat), LH.atj (8040 : Nat)]),   (9, 4, OH.w [LH.ex (0 : Nat) Shape.any, LH.ex (0 : Nat) Shape.any, LH.ex (0 : Nat) Shape.any, LH.ex (0 : Nat) Shape.any])])
  inv := dfDInv x F
  cut := (fun _ _ _ => none) x F
  ord := (fun _ => [])
set_option maxRecDepth 100000 in
theorem dfD_vc (x : IXD) (F : Atom) (hc : Con.cond dfDC x) (hr : Con.rdc dfDC x F) :
  FnOk Try.prog (36 : Nat) ixDC ∧
    true = true ∧
      ∃ (x_1 : IXD),
        [Value.slice (some { block := x.rb, off := (0 : Nat) }) x.ts.length x.cap, Value.func (Fn.func (33 : Nat)) { toList := [] } { toList := [Value.pointer (some { block := x.gb, off := (0 : Nat) }), Value.pointer (some { block := x.ob, off := (0 : Nat) })] }] = [Value.slice (some { block := x_1.rb, off := (0 : Nat) }) x_1.ts.length x_1.cap, Value.func (Fn.func (33 : Nat)) { toList := [] } { toList := [Value.pointer (some { block := x_1.gb, off := (0 : Nat) }), Value.pointer (some { block := x_1.ob, off := (0 : Nat) })] }] ∧
          [Atom.cells x.rb (encT x.ts ++ x.sp) (44 : Nat), Atom.cells x.ob [Value.slice x.r.a x.r.n x.r.cap] (32 : Nat), x.r.A] = [Atom.cells x_1.rb (encT x_1.ts ++ x_1.sp) (44 : Nat), Atom.cells x_1.ob [Value.slice x_1.r.a x_1.r.n x_1.r.cap] (32 : Nat), x_1.r.A] ∧
            ((encT x_1.ts ++ x_1.sp).length = x_1.cap * (4 : Nat) ∧ x_1.ts.length ≤ x_1.cap ∧ x_1.ts.length ≤ (128 : Nat) ∧ isNs x_1.ns x_1.r ∧ x_1.ns.length ≤ (500 : Nat)) ∧
              (Look (Atom.pred (rest [((0 : Nat), Atom.cells x.rb (encT x.ts ++ x.sp) (44 : Nat)), ((1 : Nat), Atom.cells x.ob [Value.slice x.r.a x.r.n x.r.cap] (32 : Nat)), ((2 : Nat), x.r.A), ((3 : Nat), F)] [(0 : Nat), (1 : Nat), (2 : Nat)])) { block := x_1.gb, off := (0 : Nat) } (Value.func (Fn.func (30 : Nat)) { toList := [] } { toList := [Value.pointer (some { block := x_1.k.c1, off := (0 : Nat) })] }) ∧ rkD x_1.k (Atom.pred (rest [((0 : Nat), Atom.cells x.rb (encT x.ts ++ x.sp) (44 : Nat)), ((1 : Nat), Atom.cells x.ob [Value.slice x.r.a x.r.n x.r.cap] (32 : Nat)), ((2 : Nat), x.r.A), ((3 : Nat), F)] [(0 : Nat), (1 : Nat), (2 : Nat)]))) ∧
                ∀ (y : IxY),
                  IsIx (gD x_1.k) x_1.ts y.i ∧ isNs (x_1.ns ++ nts (gD x_1.k) (List.take (y.i + (1 : Nat)) x_1.ts)) y.r →
                    Br (ixV' y.i x_1.ts.length == (-1 : Int)) (Done dfDC x F (Ending.returned (Value.slice (some { block := x.rb, off := (0 : Nat) }) x.ts.length x.cap)) [((0 : Nat), Atom.cells x_1.rb (encT x_1.ts ++ x_1.sp) (44 : Nat)), ((1 : Nat), Atom.cells x_1.ob [Value.slice y.r.a y.r.n y.r.cap] (32 : Nat)), ((2 : Nat), y.r.A), ((3 : Nat), F)])
                      (((-9223372036854775808 : Int) ≤ ixV' y.i x_1.ts.length + (1 : Int) ∧ ixV' y.i x_1.ts.length + (1 : Int) ≤ (9223372036854775807 : Int)) ∧
                        (∃ (x_2 : DfI),
                            IsD x x_2 ∧
                              (Value.slice (some { block := x.rb, off := (0 : Nat) }) x.ts.length x.cap = Value.slice (some { block := x.rb, off := (0 : Nat) }) x.ts.length x.cap ∧ Value.func (Fn.func (33 : Nat)) { toList := [] } { toList := [Value.pointer (some { block := x.gb, off := (0 : Nat) }), Value.pointer (some { block := x.ob, off := (0 : Nat) })] } = Value.func (Fn.func (33 : Nat)) { toList := [] } { toList := [Value.pointer (some { block := x.gb, off := (0 : Nat) }), Value.pointer (some { block := x.ob, off := (0 : Nat) })] } ∧ Value.int IntKind.i64 (ixV' y.i x_1.ts.length) = Value.int IntKind.i64 (↑(stay (gD x.k) (List.take x_2.j x.ts)).length : Int) ∧ Value.int IntKind.i64 (ixV' y.i x_1.ts.length + (1 : Int)) = Value.int IntKind.i64 (↑x_2.j : Int) ∧ True) ∧
                                Ent [((0 : Nat), Atom.cells x_1.rb (encT x_1.ts ++ x_1.sp) (44 : Nat)), ((1 : Nat), Atom.cells x_1.ob [Value.slice y.r.a y.r.n y.r.cap] (32 : Nat)), ((2 : Nat), y.r.A), ((3 : Nat), F)] [((0 : Nat), Atom.cells x.rb x_2.vs (44 : Nat)), ((1 : Nat), Atom.cells x.ob [Value.slice x_2.r.a x_2.r.n x_2.r.cap] (32 : Nat)), ((2 : Nat), x_2.r.A), ((3 : Nat), F)]) ∧
                          ∀ (x_2 : DfI) (js : Nat → Value),
                            IsD x x_2 →
                              Br (decide ((↑x_2.j : Int) < (↑x.ts.length : Int)))
                                (((0 : Int) ≤ (↑x_2.j : Int) ∧ (↑x_2.j : Int) < (↑x.ts.length : Int)) ∧
                                  ∃ (n : Int),
                                    Look (Atom.cells x.rb x_2.vs (44 : Nat)) { block := x.rb, off := (0 : Nat) + (↑x_2.j : Int).toNat * (4 : Nat) } (Value.int IntKind.i64 n) ∧
                                      ∃ (s : ByteArray),
                                        Look (Atom.cells x.rb x_2.vs (44 : Nat)) { block := x.rb, off := (0 : Nat) + (↑x_2.j : Int).toNat * (4 : Nat) + (1 : Nat) } (Value.string s) ∧
                                          ∃ (n_1 : Int),
                                            Look (Atom.cells x.rb x_2.vs (44 : Nat)) { block := x.rb, off := (0 : Nat) + (↑x_2.j : Int).toNat * (4 : Nat) + (2 : Nat) } (Value.int IntKind.i64 n_1) ∧
                                              ∃ (n_2 : Int),
                                                Look (Atom.cells x.rb x_2.vs (44 : Nat)) { block := x.rb, off := (0 : Nat) + (↑x_2.j : Int).toNat * (4 : Nat) + (3 : Nat) } (Value.int IntKind.i64 n_2) ∧
                                                  ∀ (b : Nat),
                                                    Same { block := b, off := (0 : Nat) } b ∧
                                                      Same { block := b, off := (1 : Nat) } b ∧
                                                        Same { block := b, off := (2 : Nat) } b ∧
                                                          Same { block := b, off := (3 : Nat) } b ∧
                                                            Same { block := b, off := (0 : Nat) } b ∧
                                                              Same { block := b, off := (1 : Nat) } b ∧
                                                                Same { block := b, off := (2 : Nat) } b ∧
                                                                  Same { block := b, off := (3 : Nat) } b ∧
                                                                    FnOk Try.prog (33 : Nat) tkDC ∧
                                                                      true = true ∧
                                                                        ∃ (x_3 : TKD),
                                                                          [Value.agg { toList := [Value.int IntKind.i64 n, Value.string s, Value.int IntKind.i64 n_1, Value.int IntKind.i64 n_2] }, Value.pointer (some { block := x.gb, off := (0 : Nat) }), Value.pointer (some { block := x.ob, off := (0 : Nat) })] = [Value.agg { toList := [Value.int IntKind.i64 x_3.t.ow, Value.string x_3.t.id, Value.int IntKind.i64 x_3.t.due, Value.int IntKind.i64 x_3.t.n] }, Value.pointer (some { block := x_3.gb, off := (0 : Nat) }), Value.pointer (some { block := x_3.ob, off := (0 : Nat) })] ∧
                                                                            [Atom.cells x.ob [Value.slice x_2.r.a x_2.r.n x_2.r.cap] (32 : Nat), x_2.r.A] = [Atom.cells x_3.ob [Value.slice x_3.r.a x_3.r.n x_3.r.cap] (32 : Nat), x_3.r.A] ∧
                                                                              (isNs x_3.ns x_3.r ∧ x_3.ns.length ≤ (1000 : Nat)) ∧
                                                                                (Look (Atom.pred (rest [((0 : Nat), Atom.cells x.rb x_2.vs (44 : Nat)), ((1 : Nat), Atom.cells x.ob [Value.slice x_2.r.a x_2.r.n x_2.r.cap] (32 : Nat)), ((2 : Nat), x_2.r.A), ((3 : Nat), F), ((8040 : Nat), Atom.cells b [Value.int IntKind.i64 n, Value.string s, Value.int IntKind.i64 n_1, Value.int IntKind.i64 n_2] (44 : Nat))] [(1 : Nat), (2 : Nat)])) { block := x_3.gb, off := (0 : Nat) } (Value.func (Fn.func (30 : Nat)) { toList := [] } { toList := [Value.pointer (some { block := x_3.k.c1, off := (0 : Nat) })] }) ∧ rkD x_3.k (Atom.pred (rest [((0 : Nat), Atom.cells x.rb x_2.vs (44 : Nat)), ((1 : Nat), Atom.cells x.ob [Value.slice x_2.r.a x_2.r.n x_2.r.cap] (32 : Nat)), ((2 : Nat), x_2.r.A), ((3 : Nat), F), ((8040 : Nat), Atom.cells b [Value.int IntKind.i64 n, Value.string s, Value.int IntKind.i64 n_1, Value.int IntKind.i64 n_2] (44 : Nat))] [(1 : Nat), (2 : Nat)]))) ∧
                                                                                  ∀ (y : Row),
                                                                                    isNs (x_3.ns ++ nts (gD x_3.k) [x_3.t]) y →
                                                                                      Br (!gD x_3.k x_3.t)
                                                                                        (Same { block := b, off := (0 : Nat) } b ∧
                                                                                          Same { block := b, off := (1 : Nat) } b ∧
                                                                                            Same { block := b, off := (2 : Nat) } b ∧
                                                                                              Same { block := b, off := (3 : Nat) } b ∧
                                                                                                ((0 : Int) ≤ (↑(stay (gD x.k) (List.take x_2.j x.ts)).length : Int) ∧ (↑(stay (gD x.k) (List.take x_2.j x.ts)).length : Int) < (↑x.ts.length : Int)) ∧
                                                                                                  (Same { block := x.rb, off := (0 : Nat) + (↑(stay (gD x.k) (List.take x_2.j x.ts)).length : Int).toNat * (4 : Nat) } x.rb ∧ (0 : Nat) + (↑(stay (gD x.k) (List.take x_2.j x.ts)).length : Int).toNat * (4 : Nat) < x_2.vs.length) ∧
                                                                                                    (Same { block := x.rb, off := (0 : Nat) + (↑(stay (gD x.k) (List.take x_2.j x.ts)).length : Int).toNat * (4 : Nat) + (1 : Nat) } x.rb ∧ (0 : Nat) + (↑(stay (gD x.k) (List.take x_2.j x.ts)).length : Int).toNat * (4 : Nat) + (1 : Nat) < (x_2.vs.set ((0 : Nat) + (↑(stay (gD x.k) (List.take x_2.j x.ts)).length : Int).toNat * (4 : Nat)) (Value.int IntKind.i64 n)).length) ∧
                                                                                                      (Same { block := x.rb, off := (0 : Nat) + (↑(stay (gD x.k) (List.take x_2.j x.ts)).length : Int).toNat * (4 : Nat) + (2 : Nat) } x.rb ∧ (0 : Nat) + (↑(stay (gD x.k) (List.take x_2.j x.ts)).length : Int).toNat * (4 : Nat) + (2 : Nat) < ((x_2.vs.set ((0 : Nat) + (↑(stay (gD x.k) (List.take x_2.j x.ts)).length : Int).toNat * (4 : Nat)) (Value.int IntKind.i64 n)).set ((0 : Nat) + (↑(stay (gD x.k) (List.take x_2.j x.ts)).length : Int).toNat * (4 : Nat) + (1 : Nat)) (Value.string s)).length) ∧
                                                                                                        (Same { block := x.rb, off := (0 : Nat) + (↑(stay (gD x.k) (List.take x_2.j x.ts)).length : Int).toNat * (4 : Nat) + (3 : Nat) } x.rb ∧ (0 : Nat) + (↑(stay (gD x.k) (List.take x_2.j x.ts)).length : Int).toNat * (4 : Nat) + (3 : Nat) < (((x_2.vs.set ((0 : Nat) + (↑(stay (gD x.k) (List.take x_2.j x.ts)).length : Int).toNat * (4 : Nat)) (Value.int IntKind.i64 n)).set ((0 : Nat) + (↑(stay (gD x.k) (List.take x_2.j x.ts)).length : Int).toNat * (4 : Nat) + (1 : Nat)) (Value.string s)).set ((0 : Nat) + (↑(stay (gD x.k) (List.take x_2.j x.ts)).length : Int).toNat * (4 : Nat) + (2 : Nat)) (Value.int IntKind.i64 n_1)).length) ∧
                                                                                                          ((-9223372036854775808 : Int) ≤ (↑(stay (gD x.k) (List.take x_2.j x.ts)).length : Int) + (1 : Int) ∧ (↑(stay (gD x.k) (List.take x_2.j x.ts)).length : Int) + (1 : Int) ≤ (9223372036854775807 : Int)) ∧
                                                                                                            ((-9223372036854775808 : Int) ≤ (↑x_2.j : Int) + (1 : Int) ∧ (↑x_2.j : Int) + (1 : Int) ≤ (9223372036854775807 : Int)) ∧
                                                                                                              ∃ (y_1 : DfI),
                                                                                                                IsD x y_1 ∧
                                                                                                                  (Value.slice (some { block := x.rb, off := (0 : Nat) }) x.ts.length x.cap = Value.slice (some { block := x.rb, off := (0 : Nat) }) x.ts.length x.cap ∧ Value.func (Fn.func (33 : Nat)) { toList := [] } { toList := [Value.pointer (some { block := x.gb, off := (0 : Nat) }), Value.pointer (some { block := x.ob, off := (0 : Nat) })] } = Value.func (Fn.func (33 : Nat)) { toList := [] } { toList := [Value.pointer (some { block := x.gb, off := (0 : Nat) }), Value.pointer (some { block := x.ob, off := (0 : Nat) })] } ∧ Value.int IntKind.i64 ((↑(stay (gD x.k) (List.take x_2.j x.ts)).length : Int) + (1 : Int)) = Value.int IntKind.i64 (↑(stay (gD x.k) (List.take y_1.j x.ts)).length : Int) ∧ Value.int IntKind.i64 ((↑x_2.j : Int) + (1 : Int)) = Value.int IntKind.i64 (↑y_1.j : Int) ∧ True) ∧
                                                                                                                    Ent [((0 : Nat), Atom.cells x.rb ((((x_2.vs.set ((0 : Nat) + (↑(stay (gD x.k) (List.take x_2.j x.ts)).length : Int).toNat * (4 : Nat)) (Value.int IntKind.i64 n)).set ((0 : Nat) + (↑(stay (gD x.k) (List.take x_2.j x.ts)).length : Int).toNat * (4 : Nat) + (1 : Nat)) (Value.string s)).set ((0 : Nat) + (↑(stay (gD x.k) (List.take x_2.j x.ts)).length : Int).toNat * (4 : Nat) + (2 : Nat)) (Value.int IntKind.i64 n_1)).set ((0 : Nat) + (↑(stay (gD x.k) (List.take x_2.j x.ts)).length : Int).toNat * (4 : Nat) + (3 : Nat)) (Value.int IntKind.i64 n_2)) (44 : Nat)), ((1 : Nat), Atom.cells x_3.ob [Value.slice y.a y.n y.cap] (32 : Nat)), ((2 : Nat), y.A), ((3 : Nat), F), ((8040 : Nat), Atom.cells b [Value.int IntKind.i64 n, Value.string s, Value.int IntKind.i64 n_1, Value.int IntKind.i64 n_2] (44 : Nat))]
                                                                                                                        [((0 : Nat), Atom.cells x.rb y_1.vs (44 : Nat)), ((1 : Nat), Atom.cells x.ob [Value.slice y_1.r.a y_1.r.n y_1.r.cap] (32 : Nat)), ((2 : Nat), y_1.r.A), ((3 : Nat), F)] ∧
                                                                                                                      x.ts.length - y_1.j < x.ts.length - x_2.j)
                                                                                        (((-9223372036854775808 : Int) ≤ (↑x_2.j : Int) + (1 : Int) ∧ (↑x_2.j : Int) + (1 : Int) ≤ (9223372036854775807 : Int)) ∧
                                                                                          ∃ (y_1 : DfI),
                                                                                            IsD x y_1 ∧
                                                                                              (Value.slice (some { block := x.rb, off := (0 : Nat) }) x.ts.length x.cap = Value.slice (some { block := x.rb, off := (0 : Nat) }) x.ts.length x.cap ∧ Value.func (Fn.func (33 : Nat)) { toList := [] } { toList := [Value.pointer (some { block := x.gb, off := (0 : Nat) }), Value.pointer (some { block := x.ob, off := (0 : Nat) })] } = Value.func (Fn.func (33 : Nat)) { toList := [] } { toList := [Value.pointer (some { block := x.gb, off := (0 : Nat) }), Value.pointer (some { block := x.ob, off := (0 : Nat) })] } ∧ Value.int IntKind.i64 (↑(stay (gD x.k) (List.take x_2.j x.ts)).length : Int) = Value.int IntKind.i64 (↑(stay (gD x.k) (List.take y_1.j x.ts)).length : Int) ∧ Value.int IntKind.i64 ((↑x_2.j : Int) + (1 : Int)) = Value.int IntKind.i64 (↑y_1.j : Int) ∧ True) ∧
                                                                                                Ent [((0 : Nat), Atom.cells x.rb x_2.vs (44 : Nat)), ((1 : Nat), Atom.cells x_3.ob [Value.slice y.a y.n y.cap] (32 : Nat)), ((2 : Nat), y.A), ((3 : Nat), F), ((8040 : Nat), Atom.cells b [Value.int IntKind.i64 n, Value.string s, Value.int IntKind.i64 n_1, Value.int IntKind.i64 n_2] (44 : Nat))] [((0 : Nat), Atom.cells x.rb y_1.vs (44 : Nat)), ((1 : Nat), Atom.cells x.ob [Value.slice y_1.r.a y_1.r.n y_1.r.cap] (32 : Nat)), ((2 : Nat), y_1.r.A), ((3 : Nat), F)] ∧ x.ts.length - y_1.j < x.ts.length - x_2.j))
                                (((0 : Int) ≤ (↑(stay (gD x.k) (List.take x_2.j x.ts)).length : Int) ∧ (↑(stay (gD x.k) (List.take x_2.j x.ts)).length : Int) ≤ (↑x.ts.length : Int) ∧ (↑x.ts.length : Int) ≤ (↑x.cap : Int) ∧ (↑(stay (gD x.k) (List.take x_2.j x.ts)).length : Int) < (↑x.cap : Int)) ∧
                                  OpOk Try.prog (opIn Try.f32 (11 : Nat) (3 : Nat)) (clC tz) ∧
                                    true = true ∧
                                      ∃ (x_3 : ClX),
                                        [Value.slice (some { block := x.rb, off := (0 : Nat) + (↑(stay (gD x.k) (List.take x_2.j x.ts)).length : Int).toNat * (4 : Nat) }) ((↑x.ts.length : Int).toNat - (↑(stay (gD x.k) (List.take x_2.j x.ts)).length : Int).toNat) (x.cap - (↑(stay (gD x.k) (List.take x_2.j x.ts)).length : Int).toNat)] = [Value.slice (some { block := x_3.b, off := x_3.o }) x_3.n x_3.c] ∧
                                          [Atom.cells x.rb x_2.vs (44 : Nat)] = [Atom.cells x_3.b x_3.vs x_3.t] ∧ x_3.o + x_3.n * (4 : Nat) ≤ x_3.vs.length ∧ True ∧ ∀ (y : Unit), True → ((0 : Int) ≤ (0 : Int) ∧ (0 : Int) ≤ (↑(stay (gD x.k) (List.take x_2.j x.ts)).length : Int) ∧ (↑(stay (gD x.k) (List.take x_2.j x.ts)).length : Int) ≤ (↑x.cap : Int) ∧ (0 : Int) < (↑x.cap : Int)) ∧ Done dfDC x F (Ending.returned (Value.slice (some { block := x.rb, off := (0 : Nat) }) ((↑(stay (gD x.k) (List.take x_2.j x.ts)).length : Int).toNat - (0 : Nat)) (x.cap - (0 : Nat)))) [((0 : Nat), Atom.cells x_3.b (List.take x_3.o x_3.vs ++ zeros tz x_3.n ++ List.drop (x_3.o + x_3.n * (4 : Nat)) x_3.vs) x_3.t), ((1 : Nat), Atom.cells x.ob [Value.slice x_2.r.a x_2.r.n x_2.r.cap] (32 : Nat)), ((2 : Nat), x_2.r.A), ((3 : Nat), F)])) := by
  obtain ⟨ts, rb, cap, sp, k, gb, ob, r, ns⟩ := x
  obtain ⟨hl, hcap, h128, hns, h300, hsrt⟩ := hc
  obtain ⟨hr1, hr2⟩ := hr
  dsimp only at hl hcap h128 hns h300 hsrt hr1 hr2 ⊢
  simp only [same_refl, true_and, eq_self]
  refine ⟨ixD_ok, ⟨ts, rb, cap, sp, k, gb, ob, r, ns⟩, rfl, rfl, ⟨hl, hcap, h128, hns, by dsimp only; omega⟩, ⟨Look.sub (A := F) (sub_rest 3 (by simp) rfl) hr1, rkD_mono k _ _ (sub_rest 3 (by simp) rfl) hr2⟩, ?_⟩
  rintro ⟨r1, i⟩ ⟨⟨hile, hino, hiyes⟩, hn1⟩
  dsimp only at hile hino hiyes hn1 ⊢
  refine br_intro (fun he => ?_) (fun he => ?_)
  · have : i = ts.length := by
      rcases Nat.lt_or_ge i ts.length with h | h
      · rw [ixV', decide_eq_true h] at he
        simp at he
      · omega
    subst this
    have hno : ∀ (j : Nat) u, ts[j]? = some u → gD k u = false := fun j u hu => hino j u (List.getElem?_eq_some_iff.1 hu).1 hu
    refine ⟨⟨⟨some ⟨rb, 0, none⟩, ts.length, cap, .cells rb (encT ts ++ sp) 44⟩, r1⟩, ⟨?_, ?_⟩, rfl, Ent.pick [0, 1, 2, 3] rfl rfl⟩
    · dsimp only
      rw [stay_all hno]; exact isTs_blk hl hcap h128 hsrt
    · dsimp only
      rw [List.take_of_length_le (by omega)] at hn1; exact hn1
  · have hlt : i < ts.length := by
      rcases Nat.lt_or_ge i ts.length with h | h
      · exact h
      · rw [ixV', decide_eq_false (by omega)] at he
        simp at he
    obtain ⟨t, ht⟩ : ∃ t, ts[i]? = some t := ⟨ts[i], List.getElem?_eq_getElem hlt⟩
    have ei : ixV' i ts.length = i := by rw [ixV', decide_eq_true hlt]; rfl
    have est : stay (gD k) (ts.take (i + 1)) = ts.take i := by rw [stay_take ht, hiyes t ht, take_no hino]; simp
    have eln : (ts.take i).length = i := by simp; omega
    rw [ei]
    refine ⟨by omega, ⟨⟨i + 1, encT ts ++ sp, r1⟩, ⟨by dsimp only; omega, ?_, hl, ?_, rfl, hn1⟩, ⟨?_, rfl, trivial⟩, Ent.pick [0, 1, 2, 3] rfl rfl⟩, ?_⟩
    · dsimp only; rw [est, eln]; omega
    · dsimp only
      rw [est, eln, List.take_append_of_le_length (by rw [encT_length]; omega), encT_take]
    · dsimp only; rw [est, eln]
    rintro ⟨j, vs, r2⟩ js ⟨hj, hjlt, hvl, htak, hdrp, hn2⟩
    dsimp only at hj hjlt hvl htak hdrp hn2 ⊢
    have hsl : (encT ts ++ sp).length = cap * 4 := hl
    generalize hst : stay (gD k) (ts.take j) = st at *
    refine br_decide (fun hjl => ?_) (fun hjl => ?_)
    · obtain ⟨u, hu⟩ : ∃ u, ts[j]? = some u := ⟨ts[j], List.getElem?_eq_getElem (by omega)⟩
      have hnl : (nts (gD k) (ts.take j)).length ≤ 128 := by
        unfold nts
        have := List.length_filter_le (gD k) (ts.take j)
        simp at this ⊢; omega
      refine ⟨by omega, u.ow, vs_at (c := 0) hdrp hu (by decide) rfl, u.id, vs_at (c := 1) hdrp hu (by decide) rfl, u.due, vs_at (c := 2) hdrp hu (by decide) rfl, u.n, vs_at (c := 3) hdrp hu (by decide) rfl, fun b => ⟨tkD_ok, ⟨u, k, gb, ob, r2, ns ++ nts (gD k) (ts.take j)⟩, rfl, rfl, ⟨hn2, ?_⟩, ⟨Look.sub (A := F) (sub_rest 3 (by simp) rfl) hr1, rkD_mono k _ _ (sub_rest 3 (by simp) rfl) hr2⟩, fun y hy => ?_⟩⟩
      · dsimp only; rw [List.length_append]; omega
      dsimp only at hy ⊢
      rw [List.append_assoc, ← nts_take hu] at hy
      refine br_intro (fun hg => ?_) (fun hg => ?_)
      · have hg : gD k u = false := by simpa using hg
        have est2 : stay (gD k) (ts.take (j + 1)) = st ++ [u] := by rw [stay_take hu, hg, hst]; rfl
        simp only [List.length_set]
        refine ⟨by omega, by omega, by omega, by omega, by omega, by omega, by omega, ⟨j + 1, _, y⟩, ⟨by dsimp only; omega, ?_, ?_, ?_, ?_, hy⟩, ⟨?_, rfl, trivial⟩, Ent.pick [0, 1, 2, 3] rfl rfl, by dsimp only; omega⟩
        · dsimp only; rw [est2]; simp; omega
        · dsimp only; simp only [List.length_set]; exact hvl
        · dsimp only; rw [est2, encT_append, ← htak]
          have := set4_take vs (st.length * 4) (.int .i64 u.ow) (.string u.id) (.int .i64 u.due) (.int .i64 u.n) (by omega)
          simp only [Nat.zero_add, Int.toNat_natCast, List.length_append, List.length_singleton, Nat.add_mul, Nat.one_mul]
          exact this
        · dsimp only
          simp only [Nat.zero_add, Int.toNat_natCast]
          rw [set4_drop _ _ _ _ _ _ _ (by omega), Nat.add_mul, ← List.drop_drop, hdrp, List.drop_drop]
        · rw [est2]; simp
      · have hg : gD k u = true := by simpa using hg
        have est2 : stay (gD k) (ts.take (j + 1)) = st := by rw [stay_take hu, hg, hst]; simp
        refine ⟨by omega, ⟨j + 1, vs, y⟩, ⟨by dsimp only; omega, ?_, hvl, ?_, ?_, hy⟩, ⟨?_, rfl, trivial⟩, Ent.pick [0, 1, 2, 3] rfl rfl, by dsimp only; omega⟩
        · dsimp only; rw [est2]; omega
        · dsimp only; rw [est2]; exact htak
        · dsimp only; rw [Nat.add_mul, ← List.drop_drop, hdrp, List.drop_drop]
        · rw [est2]
    · have : j = ts.length := by omega
      subst this
      rw [List.take_of_length_le (Nat.le_refl _)] at hst hn2
      refine ⟨by omega, clear_ok (P := Try.prog) tz rfl rfl rfl rfl rfl (by decide) (by decide), ⟨rb, vs, 44, st.length * 4, ts.length - st.length, cap - st.length⟩, ?_, rfl, by dsimp only; omega, fun _ _ => ⟨by omega, ⟨⟨some ⟨rb, 0, none⟩, st.length, cap, _⟩, r2⟩, ⟨?_, hn2⟩, ?_, Ent.pick [0, 1, 2, 3] rfl rfl⟩⟩
      · simp
      · dsimp only
        rw [hst, htak, List.append_assoc]
        have h3 : (encT st ++ (zeros tz (ts.length - st.length) ++ List.drop (st.length * 4 + (ts.length - st.length) * tz.length) vs)).length = cap * 4 := by
          simp only [List.length_append, List.length_drop, zeros_length, encT_length]
          simp only [tz, List.length_cons, List.length_nil]
          omega
        have h4 : Srt st := by rw [← hst]; exact stay_srt hsrt
        exact isTs_blk h3 (by omega) (by omega) h4
      · simp only [dfDC]; simp
set_option maxRecDepth 100000 in
theorem dfD_ok : FnOk Try.prog 32 dfDC :=
  fnOk (N := 42) (by kernel_rfl) Try.func32 rfl (by kernel_rfl) (fun _ => Nat.le_of_ble_eq_true rfl) dfD_H [] fun x F hc hr => Eq.mpr (by kernel_rfl) (dfD_vc x F hc hr)
end Go.Proofs.Ytmknmibmnidnoaa
