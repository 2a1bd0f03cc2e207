/- slices.IndexFunc at timers. -/
import Derived.Test.YtmknmibmnidnoaaClkF
set_option linter.all false
namespace Go.Proofs.Ytmknmibmnidnoaa
open Go
def ixNC : Con where
  X := Value
  Y := Unit
  args x := [.slice none 0 0, x]
  pre _ := []
  cond _ := True
  rdc _ _ := True
  rel _ _ := True
  val _ _ := .returned (.int .i64 (-1))
  post _ _ := []
def ixNInv (x : Value) (F : Atom) : Nat → Option Inv := fun
  | 0 => some { X := Unit, P := fun _ => True, mu := fun _ => 0, lv := fun _ => [(0, .slice none 0 0), (1, x), (7, .int .i64 0), (8, .int .i64 0)], st := fun _ => [F] }
  | _ => none
noncomputable def ixN_H (x : Con.X ixNC) (F : Atom) : Hints where
  op := hk (((fun _ _ => []) x F) ++ [])
  inv := ixNInv x F
  cut := (fun _ _ _ => none) x F
  ord := (fun _ => [])
set_option maxRecDepth 100000 in
theorem ixN_vc (x : Value) (F : Atom) (hc : Con.cond ixNC x) (hr : Con.rdc ixNC x F) :
  (∃ (x_1 : Unit), True ∧ (Value.slice none (0 : Nat) (0 : Nat) = Value.slice none (0 : Nat) (0 : Nat) ∧ x = x ∧ Value.int IntKind.i64 (↑(0 : Nat) : Int) = Value.int IntKind.i64 (0 : Int) ∧ Value.int IntKind.i64 (0 : Int) = Value.int IntKind.i64 (0 : Int) ∧ True) ∧ Ent [((0 : Nat), F)] [((0 : Nat), F)]) ∧ ∀ (x_1 : Unit) (js : Nat → Value), True → Done ixNC x F (Ending.returned (Value.int IntKind.i64 (-1 : Int))) [((0 : Nat), F)] := by
  exact ⟨⟨(), trivial, ⟨rfl, rfl, rfl, rfl, trivial⟩, Ent.pick [0] rfl rfl⟩, fun _ _ _ => ⟨(), trivial, rfl, Ent.pick [0] rfl rfl⟩⟩
set_option maxRecDepth 100000 in
theorem ixN_ok : FnOk Try.prog 36 ixNC :=
  fnOk (N := 19) (by kernel_rfl) Try.func36 rfl (by kernel_rfl) (fun _ => Nat.le_of_ble_eq_true rfl) ixN_H [] fun x F hc hr => Eq.mpr (by kernel_rfl) (ixN_vc x F hc hr)
structure IxY where
  r : Row
  i : Nat
def ixV' (i n : Nat) : Int := bif decide (i < n) then i else -1
/-- the first timer of which 'g' is true -/
structure IsIx (g : Tmr → Bool) (ts : List Tmr) (i : Nat) : Prop where
  le : i ≤ ts.length
  no : ∀ j u, j < i → ts[j]? = some u → g u = false
  yes : ∀ u, ts[i]? = some u → g u = true
def fvK (gb ob : Nat) : Value := .func (.func 33) #[] #[.pointer (some ⟨gb, 0, none⟩), .pointer (some ⟨ob, 0, none⟩)]
structure IxI where
  k : Nat
  r : Row
theorem enc_at {ts : List Tmr} {sp : List Value} {b j c : Nat} {t : Tmr} {v : Value} (h : ts[j]? = some t) (hc : c < 4) (e : t.enc[c]? = some v) : Look (.cells b (encT ts ++ sp) 44) ⟨b, 0 + (j : Int).toNat * 4 + c, none⟩ v := by
  refine Look.cells ?_
  have hj : j < ts.length := (List.getElem?_eq_some_iff.1 h).1
  rw [Nat.zero_add, Int.toNat_natCast, List.getElem?_append_left (by rw [encT_length]; omega), encT_get ts j c t h hc, e]
theorem nts_take_succ {g : Tmr → Bool} {ts : List Tmr} {i : Nat} (no : ∀ j u, j < i → ts[j]? = some u → g u = false) : nts g (ts.take i) = [] := by
  unfold nts
  rw [List.filter_eq_nil_iff.2, List.map_nil]
  intro u hu
  obtain ⟨j, hj, rfl⟩ := List.mem_take_iff_getElem.1 hu
  rw [no j _ (by omega) (List.getElem?_eq_getElem _)]
  simp
structure IXT where
  ts : List Tmr
  rb : Nat
  cap : Nat
  sp : List Value
  k : KT
  gb : Nat
  ob : Nat
  r : Row
  ns : List Int
def ixTC : Con where
  X := IXT
  Y := IxY
  args x := [.slice (some ⟨x.rb, 0, none⟩) x.ts.length x.cap, fvK x.gb x.ob]
  pre x := [.cells x.rb (encT x.ts ++ x.sp) 44, outA x.ob x.r, x.r.A]
  cond x := (encT x.ts ++ x.sp).length = x.cap * 4 ∧ x.ts.length ≤ x.cap ∧ x.ts.length ≤ 128 ∧ isNs x.ns x.r ∧ x.ns.length ≤ 500
  rdc x F := Look F ⟨x.gb, 0, none⟩ (fvT x.k) ∧ rkT x.k F
  rel x y := IsIx (gT x.k) x.ts y.i ∧ isNs (x.ns ++ nts (gT x.k) (x.ts.take (y.i + 1))) y.r
  val x y := .returned (.int .i64 (ixV' y.i x.ts.length))
  post x y := [.cells x.rb (encT x.ts ++ x.sp) 44, outA x.ob y.r, y.r.A]
  rmono x A B h hk := ⟨hk.1.sub h, rkT_mono x.k A B h hk.2⟩
def ixTInv (x : IXT) (F : Atom) : Nat → Option Inv := fun
  | 0 => some { X := IxI, P := fun i => i.k ≤ x.ts.length ∧ isNs x.ns i.r ∧ ∀ j u, j < i.k → x.ts[j]? = some u → gT x.k u = false, mu := fun i => x.ts.length - i.k, lv := fun i => [(0, .slice (some ⟨x.rb, 0, none⟩) x.ts.length x.cap), (1, fvK x.gb x.ob), (7, .int .i64 x.ts.length), (8, .int .i64 i.k)], st := fun i => [.cells x.rb (encT x.ts ++ x.sp) 44, outA x.ob i.r, i.r.A, F] }
  | _ => none
def ixTOv (_x : IXT) (_F : Atom) : List (Nat × Nat × OH) := [(4, 5, .c tkTC [1, 2] [1, 2])]
noncomputable def ixT_H (x : Con.X ixTC) (F : Atom) : Hints where
  op := hk ((ixTOv x F) ++ [(4, 4, OH.q [LH.ex (0 : Nat) (Shape.int IntKind.i64), LH.ex (0 : Nat) Shape.str, LH.ex (0 : Nat) (Shape.int IntKind.i64), LH.ex (0 : Nat) (Shape.int IntKind.i64)])])
  inv := ixTInv x F
  cut := (fun _ _ _ => none) x F
  ord := (fun _ => [])
set_option maxRecDepth 100000 in
theorem ixT_vc (x : IXT) (F : Atom) (hc : Con.cond ixTC x) (hr : Con.rdc ixTC x F) :
  (∃ (x_1 : IxI),
      (x_1.k ≤ x.ts.length ∧ isNs x.ns x_1.r ∧ ∀ (j : Nat) (u : Tmr), j < x_1.k → x.ts[j]? = some u → gT x.k u = false) ∧
        (Value.slice (some { block := x.rb, off := (0 : Nat) }) x.ts.length x.cap = Value.slice (some { block := x.rb, off := (0 : Nat) }) x.ts.length x.cap ∧ Value.func (Fn.func (33 : Nat)) { toList := [] } { toList := [Value.pointer (some { block := x.gb, off := (0 : Nat) }), Value.pointer (some { block := x.ob, off := (0 : Nat) })] } = Value.func (Fn.func (33 : Nat)) { toList := [] } { toList := [Value.pointer (some { block := x.gb, off := (0 : Nat) }), Value.pointer (some { block := x.ob, off := (0 : Nat) })] } ∧ Value.int IntKind.i64 (↑x.ts.length : Int) = Value.int IntKind.i64 (↑x.ts.length : Int) ∧ Value.int IntKind.i64 (0 : Int) = Value.int IntKind.i64 (↑x_1.k : Int) ∧ True) ∧
          Ent [((0 : Nat), Atom.cells x.rb (encT x.ts ++ x.sp) (44 : Nat)), ((1 : Nat), Atom.cells x.ob [Value.slice x.r.a x.r.n x.r.cap] (32 : Nat)), ((2 : Nat), x.r.A), ((3 : Nat), F)] [((0 : Nat), Atom.cells x.rb (encT x.ts ++ x.sp) (44 : Nat)), ((1 : Nat), Atom.cells x.ob [Value.slice x_1.r.a x_1.r.n x_1.r.cap] (32 : Nat)), ((2 : Nat), x_1.r.A), ((3 : Nat), F)]) ∧
    ∀ (x_1 : IxI) (js : Nat → Value),
      (x_1.k ≤ x.ts.length ∧ isNs x.ns x_1.r ∧ ∀ (j : Nat) (u : Tmr), j < x_1.k → x.ts[j]? = some u → gT x.k u = false) →
        Br (decide ((↑x_1.k : Int) < (↑x.ts.length : Int)))
          (((0 : Int) ≤ (↑x_1.k : Int) ∧ (↑x_1.k : Int) < (↑x.ts.length : Int)) ∧
            ∃ (n : Int),
              Look (Atom.cells x.rb (encT x.ts ++ x.sp) (44 : Nat)) { block := x.rb, off := (0 : Nat) + (↑x_1.k : Int).toNat * (4 : Nat) } (Value.int IntKind.i64 n) ∧
                ∃ (s : ByteArray),
                  Look (Atom.cells x.rb (encT x.ts ++ x.sp) (44 : Nat)) { block := x.rb, off := (0 : Nat) + (↑x_1.k : Int).toNat * (4 : Nat) + (1 : Nat) } (Value.string s) ∧
                    ∃ (n_1 : Int),
                      Look (Atom.cells x.rb (encT x.ts ++ x.sp) (44 : Nat)) { block := x.rb, off := (0 : Nat) + (↑x_1.k : Int).toNat * (4 : Nat) + (2 : Nat) } (Value.int IntKind.i64 n_1) ∧
                        ∃ (n_2 : Int),
                          Look (Atom.cells x.rb (encT x.ts ++ x.sp) (44 : Nat)) { block := x.rb, off := (0 : Nat) + (↑x_1.k : Int).toNat * (4 : Nat) + (3 : Nat) } (Value.int IntKind.i64 n_2) ∧
                            FnOk Try.prog (33 : Nat) tkTC ∧
                              true = true ∧
                                ∃ (x_2 : TKT),
                                  [Value.agg { toList := [Value.int IntKind.i64 n, Value.string s, Value.int IntKind.i64 n_1, Value.int IntKind.i64 n_2] }, Value.pointer (some { block := x.gb, off := (0 : Nat) }), Value.pointer (some { block := x.ob, off := (0 : Nat) })] = [Value.agg { toList := [Value.int IntKind.i64 x_2.t.ow, Value.string x_2.t.id, Value.int IntKind.i64 x_2.t.due, Value.int IntKind.i64 x_2.t.n] }, Value.pointer (some { block := x_2.gb, off := (0 : Nat) }), Value.pointer (some { block := x_2.ob, off := (0 : Nat) })] ∧
                                    [Atom.cells x.ob [Value.slice x_1.r.a x_1.r.n x_1.r.cap] (32 : Nat), x_1.r.A] = [Atom.cells x_2.ob [Value.slice x_2.r.a x_2.r.n x_2.r.cap] (32 : Nat), x_2.r.A] ∧
                                      (isNs x_2.ns x_2.r ∧ x_2.ns.length ≤ (1000 : Nat)) ∧
                                        (Look (Atom.pred (rest [((0 : Nat), Atom.cells x.rb (encT x.ts ++ x.sp) (44 : Nat)), ((1 : Nat), Atom.cells x.ob [Value.slice x_1.r.a x_1.r.n x_1.r.cap] (32 : Nat)), ((2 : Nat), x_1.r.A), ((3 : Nat), F)] [(1 : Nat), (2 : Nat)])) { block := x_2.gb, off := (0 : Nat) } (Value.func (Fn.func (27 : Nat)) { toList := [] } { toList := [Value.pointer (some { block := x_2.k.cb, off := (0 : Nat) })] }) ∧ rkT x_2.k (Atom.pred (rest [((0 : Nat), Atom.cells x.rb (encT x.ts ++ x.sp) (44 : Nat)), ((1 : Nat), Atom.cells x.ob [Value.slice x_1.r.a x_1.r.n x_1.r.cap] (32 : Nat)), ((2 : Nat), x_1.r.A), ((3 : Nat), F)] [(1 : Nat), (2 : Nat)]))) ∧
                                          ∀ (y : Row),
                                            isNs (x_2.ns ++ nts (gT x_2.k) [x_2.t]) y →
                                              Br (gT x_2.k x_2.t) (Done ixTC x F (Ending.returned (Value.int IntKind.i64 (↑x_1.k : Int))) [((0 : Nat), Atom.cells x.rb (encT x.ts ++ x.sp) (44 : Nat)), ((1 : Nat), Atom.cells x_2.ob [Value.slice y.a y.n y.cap] (32 : Nat)), ((2 : Nat), y.A), ((3 : Nat), F)])
                                                (((-9223372036854775808 : Int) ≤ (↑x_1.k : Int) + (1 : Int) ∧ (↑x_1.k : Int) + (1 : Int) ≤ (9223372036854775807 : Int)) ∧
                                                  ∃ (y_1 : IxI),
                                                    (y_1.k ≤ x.ts.length ∧ isNs x.ns y_1.r ∧ ∀ (j : Nat) (u : Tmr), j < y_1.k → x.ts[j]? = some u → gT x.k u = false) ∧
                                                      (Value.slice (some { block := x.rb, off := (0 : Nat) }) x.ts.length x.cap = Value.slice (some { block := x.rb, off := (0 : Nat) }) x.ts.length x.cap ∧ Value.func (Fn.func (33 : Nat)) { toList := [] } { toList := [Value.pointer (some { block := x.gb, off := (0 : Nat) }), Value.pointer (some { block := x.ob, off := (0 : Nat) })] } = Value.func (Fn.func (33 : Nat)) { toList := [] } { toList := [Value.pointer (some { block := x.gb, off := (0 : Nat) }), Value.pointer (some { block := x.ob, off := (0 : Nat) })] } ∧ Value.int IntKind.i64 (↑x.ts.length : Int) = Value.int IntKind.i64 (↑x.ts.length : Int) ∧ Value.int IntKind.i64 ((↑x_1.k : Int) + (1 : Int)) = Value.int IntKind.i64 (↑y_1.k : Int) ∧ True) ∧
                                                        Ent [((0 : Nat), Atom.cells x.rb (encT x.ts ++ x.sp) (44 : Nat)), ((1 : Nat), Atom.cells x_2.ob [Value.slice y.a y.n y.cap] (32 : Nat)), ((2 : Nat), y.A), ((3 : Nat), F)] [((0 : Nat), Atom.cells x.rb (encT x.ts ++ x.sp) (44 : Nat)), ((1 : Nat), Atom.cells x.ob [Value.slice y_1.r.a y_1.r.n y_1.r.cap] (32 : Nat)), ((2 : Nat), y_1.r.A), ((3 : Nat), F)] ∧ x.ts.length - y_1.k < x.ts.length - x_1.k))
          (Done ixTC x F (Ending.returned (Value.int IntKind.i64 (-1 : Int))) [((0 : Nat), Atom.cells x.rb (encT x.ts ++ x.sp) (44 : Nat)), ((1 : Nat), Atom.cells x.ob [Value.slice x_1.r.a x_1.r.n x_1.r.cap] (32 : Nat)), ((2 : Nat), x_1.r.A), ((3 : Nat), F)]) := by
  obtain ⟨ts, rb, cap, sp, k, gb, ob, r, ns⟩ := x
  obtain ⟨hl, hcap, h128, hns, h500⟩ := hc
  obtain ⟨hr1, hr2⟩ := hr
  dsimp only at hl hcap h128 hns h500 hr1 hr2 ⊢
  simp only [same_refl, true_and, eq_self]
  refine ⟨⟨⟨0, r⟩, ⟨Nat.zero_le _, hns, fun j u hj => absurd hj (Nat.not_lt_zero j)⟩, ⟨rfl, trivial⟩, Ent.pick [0, 1, 2, 3] rfl rfl⟩, ?_⟩
  rintro ⟨i, r1⟩ js ⟨hi, hn1, hno⟩
  dsimp only at hi hn1 hno ⊢
  refine br_decide (fun hlt => ?_) (fun hge => ?_)
  · obtain ⟨t, ht⟩ : ∃ t, ts[i]? = some t := ⟨ts[i], List.getElem?_eq_getElem (by omega)⟩
    refine ⟨by omega, t.ow, enc_at (c := 0) ht (by decide) rfl, t.id, enc_at (c := 1) ht (by decide) rfl, t.due, enc_at (c := 2) ht (by decide) rfl, t.n, enc_at (c := 3) ht (by decide) rfl, tkT_ok, ⟨t, k, gb, ob, r1, ns⟩, rfl, rfl, ⟨hn1, by dsimp only; omega⟩, ⟨Look.sub (A := F) (sub_rest 3 (by simp) rfl) hr1, rkT_mono k _ _ (sub_rest 3 (by simp) rfl) hr2⟩, ?_⟩
    intro y hy
    dsimp only at hy ⊢
    refine br_intro (fun hg => ?_) (fun hg => ?_)
    · refine ⟨⟨y, i⟩, ⟨⟨hi, hno, fun u hu => ?_⟩, ?_⟩, ?_, Ent.pick [0, 1, 2, 3] rfl rfl⟩
      · dsimp only at hu
        rw [ht] at hu; cases hu; exact hg
      · dsimp only
        have e : nts (gT k) (ts.take (i + 1)) = nts (gT k) [t] := by
          rw [List.take_add_one, ht]
          unfold nts
          rw [List.filter_append, List.map_append]
          have := nts_take_succ hno
          unfold nts at this
          rw [this]; rfl
        rw [e]; exact hy
      · simp only [ixTC, ixV', decide_eq_true (show i < ts.length by omega)]; rfl
    · refine ⟨by omega, ⟨i + 1, y⟩, ⟨by dsimp only; omega, ?_, ?_⟩, ⟨rfl, trivial⟩, Ent.pick [0, 1, 2, 3] rfl rfl, by dsimp only; omega⟩
      · have e : nts (gT k) [t] = [] := by simp [nts, hg]
        rw [e, List.append_nil] at hy
        exact hy
      · intro j u hj hu
        dsimp only at hj
        rcases Nat.lt_or_ge j i with h | h
        · exact hno j u h hu
        · have : j = i := by omega
          subst this
          rw [ht] at hu; cases hu; exact hg
  · have : i = ts.length := by omega
    subst this
    refine ⟨⟨r1, ts.length⟩, ⟨⟨Nat.le_refl _, hno, fun u hu => ?_⟩, ?_⟩, ?_, Ent.pick [0, 1, 2, 3] rfl rfl⟩
    · rw [List.getElem?_eq_none (Nat.le_refl _)] at hu; cases hu
    · dsimp only
      rw [nts_take_succ (fun j u _ hu => hno j u (List.getElem?_eq_some_iff.1 hu).1 hu), List.append_nil]
      exact hn1
    · simp only [ixTC, ixV', Nat.lt_irrefl, decide_false]; rfl
set_option maxRecDepth 100000 in
theorem ixT_ok : FnOk Try.prog 36 ixTC :=
  fnOk (N := 19) (by kernel_rfl) Try.func36 rfl (by kernel_rfl) (fun _ => Nat.le_of_ble_eq_true rfl) ixT_H [] fun x F hc hr => Eq.mpr (by kernel_rfl) (ixT_vc x F hc hr)
structure IXC where
  ts : List Tmr
  rb : Nat
  cap : Nat
  sp : List Value
  k : KC
  gb : Nat
  ob : Nat
  r : Row
  ns : List Int
def ixCC : Con where
  X := IXC
  Y := IxY
  args x := [.slice (some ⟨x.rb, 0, none⟩) x.ts.length x.cap, fvK x.gb x.ob]
  pre x := [.cells x.rb (encT x.ts ++ x.sp) 44, outA x.ob x.r, x.r.A]
  cond x := (encT x.ts ++ x.sp).length = x.cap * 4 ∧ x.ts.length ≤ x.cap ∧ x.ts.length ≤ 128 ∧ isNs x.ns x.r ∧ x.ns.length ≤ 500
  rdc x F := Look F ⟨x.gb, 0, none⟩ (fvC x.k) ∧ rkC x.k F
  rel x y := IsIx (gC x.k) x.ts y.i ∧ isNs (x.ns ++ nts (gC x.k) (x.ts.take (y.i + 1))) y.r
  val x y := .returned (.int .i64 (ixV' y.i x.ts.length))
  post x y := [.cells x.rb (encT x.ts ++ x.sp) 44, outA x.ob y.r, y.r.A]
  rmono x A B h hk := ⟨hk.1.sub h, rkC_mono x.k A B h hk.2⟩
def ixCInv (x : IXC) (F : Atom) : Nat → Option Inv := fun
  | 0 => some { X := IxI, P := fun i => i.k ≤ x.ts.length ∧ isNs x.ns i.r ∧ ∀ j u, j < i.k → x.ts[j]? = some u → gC x.k u = false, mu := fun i => x.ts.length - i.k, lv := fun i => [(0, .slice (some ⟨x.rb, 0, none⟩) x.ts.length x.cap), (1, fvK x.gb x.ob), (7, .int .i64 x.ts.length), (8, .int .i64 i.k)], st := fun i => [.cells x.rb (encT x.ts ++ x.sp) 44, outA x.ob i.r, i.r.A, F] }
  | _ => none
def ixCOv (_x : IXC) (_F : Atom) : List (Nat × Nat × OH) := [(4, 5, .c tkCC [1, 2] [1, 2])]
noncomputable def ixC_H (x : Con.X ixCC) (F : Atom) : Hints where
  op := hk ((ixCOv x F) ++ [(4, 4, OH.q [LH.ex (0 : Nat) (Shape.int IntKind.i64), LH.ex (0 : Nat) Shape.str, LH.ex (0 : Nat) (Shape.int IntKind.i64), LH.ex (0 : Nat) (Shape.int IntKind.i64)])])
  inv := ixCInv x F
  cut := (fun _ _ _ => none) x F
  ord := (fun _ => [])
set_option maxRecDepth 100000 in
theorem ixC_vc (x : IXC) (F : Atom) (hc : Con.cond ixCC x) (hr : Con.rdc ixCC x F) :
  (∃ (x_1 : IxI),
      (x_1.k ≤ x.ts.length ∧ isNs x.ns x_1.r ∧ ∀ (j : Nat) (u : Tmr), j < x_1.k → x.ts[j]? = some u → gC x.k u = false) ∧
        (Value.slice (some { block := x.rb, off := (0 : Nat) }) x.ts.length x.cap = Value.slice (some { block := x.rb, off := (0 : Nat) }) x.ts.length x.cap ∧ Value.func (Fn.func (33 : Nat)) { toList := [] } { toList := [Value.pointer (some { block := x.gb, off := (0 : Nat) }), Value.pointer (some { block := x.ob, off := (0 : Nat) })] } = Value.func (Fn.func (33 : Nat)) { toList := [] } { toList := [Value.pointer (some { block := x.gb, off := (0 : Nat) }), Value.pointer (some { block := x.ob, off := (0 : Nat) })] } ∧ Value.int IntKind.i64 (↑x.ts.length : Int) = Value.int IntKind.i64 (↑x.ts.length : Int) ∧ Value.int IntKind.i64 (0 : Int) = Value.int IntKind.i64 (↑x_1.k : Int) ∧ True) ∧
          Ent [((0 : Nat), Atom.cells x.rb (encT x.ts ++ x.sp) (44 : Nat)), ((1 : Nat), Atom.cells x.ob [Value.slice x.r.a x.r.n x.r.cap] (32 : Nat)), ((2 : Nat), x.r.A), ((3 : Nat), F)] [((0 : Nat), Atom.cells x.rb (encT x.ts ++ x.sp) (44 : Nat)), ((1 : Nat), Atom.cells x.ob [Value.slice x_1.r.a x_1.r.n x_1.r.cap] (32 : Nat)), ((2 : Nat), x_1.r.A), ((3 : Nat), F)]) ∧
    ∀ (x_1 : IxI) (js : Nat → Value),
      (x_1.k ≤ x.ts.length ∧ isNs x.ns x_1.r ∧ ∀ (j : Nat) (u : Tmr), j < x_1.k → x.ts[j]? = some u → gC x.k u = false) →
        Br (decide ((↑x_1.k : Int) < (↑x.ts.length : Int)))
          (((0 : Int) ≤ (↑x_1.k : Int) ∧ (↑x_1.k : Int) < (↑x.ts.length : Int)) ∧
            ∃ (n : Int),
              Look (Atom.cells x.rb (encT x.ts ++ x.sp) (44 : Nat)) { block := x.rb, off := (0 : Nat) + (↑x_1.k : Int).toNat * (4 : Nat) } (Value.int IntKind.i64 n) ∧
                ∃ (s : ByteArray),
                  Look (Atom.cells x.rb (encT x.ts ++ x.sp) (44 : Nat)) { block := x.rb, off := (0 : Nat) + (↑x_1.k : Int).toNat * (4 : Nat) + (1 : Nat) } (Value.string s) ∧
                    ∃ (n_1 : Int),
                      Look (Atom.cells x.rb (encT x.ts ++ x.sp) (44 : Nat)) { block := x.rb, off := (0 : Nat) + (↑x_1.k : Int).toNat * (4 : Nat) + (2 : Nat) } (Value.int IntKind.i64 n_1) ∧
                        ∃ (n_2 : Int),
                          Look (Atom.cells x.rb (encT x.ts ++ x.sp) (44 : Nat)) { block := x.rb, off := (0 : Nat) + (↑x_1.k : Int).toNat * (4 : Nat) + (3 : Nat) } (Value.int IntKind.i64 n_2) ∧
                            FnOk Try.prog (33 : Nat) tkCC ∧
                              true = true ∧
                                ∃ (x_2 : TKC),
                                  [Value.agg { toList := [Value.int IntKind.i64 n, Value.string s, Value.int IntKind.i64 n_1, Value.int IntKind.i64 n_2] }, Value.pointer (some { block := x.gb, off := (0 : Nat) }), Value.pointer (some { block := x.ob, off := (0 : Nat) })] = [Value.agg { toList := [Value.int IntKind.i64 x_2.t.ow, Value.string x_2.t.id, Value.int IntKind.i64 x_2.t.due, Value.int IntKind.i64 x_2.t.n] }, Value.pointer (some { block := x_2.gb, off := (0 : Nat) }), Value.pointer (some { block := x_2.ob, off := (0 : Nat) })] ∧
                                    [Atom.cells x.ob [Value.slice x_1.r.a x_1.r.n x_1.r.cap] (32 : Nat), x_1.r.A] = [Atom.cells x_2.ob [Value.slice x_2.r.a x_2.r.n x_2.r.cap] (32 : Nat), x_2.r.A] ∧
                                      (isNs x_2.ns x_2.r ∧ x_2.ns.length ≤ (1000 : Nat)) ∧
                                        (Look (Atom.pred (rest [((0 : Nat), Atom.cells x.rb (encT x.ts ++ x.sp) (44 : Nat)), ((1 : Nat), Atom.cells x.ob [Value.slice x_1.r.a x_1.r.n x_1.r.cap] (32 : Nat)), ((2 : Nat), x_1.r.A), ((3 : Nat), F)] [(1 : Nat), (2 : Nat)])) { block := x_2.gb, off := (0 : Nat) } (Value.func (Fn.func (29 : Nat)) { toList := [] } { toList := [Value.pointer (some { block := x_2.k.c1, off := (0 : Nat) }), Value.pointer (some { block := x_2.k.c2, off := (0 : Nat) })] }) ∧ rkC x_2.k (Atom.pred (rest [((0 : Nat), Atom.cells x.rb (encT x.ts ++ x.sp) (44 : Nat)), ((1 : Nat), Atom.cells x.ob [Value.slice x_1.r.a x_1.r.n x_1.r.cap] (32 : Nat)), ((2 : Nat), x_1.r.A), ((3 : Nat), F)] [(1 : Nat), (2 : Nat)]))) ∧
                                          ∀ (y : Row),
                                            isNs (x_2.ns ++ nts (gC x_2.k) [x_2.t]) y →
                                              Br (gC x_2.k x_2.t) (Done ixCC x F (Ending.returned (Value.int IntKind.i64 (↑x_1.k : Int))) [((0 : Nat), Atom.cells x.rb (encT x.ts ++ x.sp) (44 : Nat)), ((1 : Nat), Atom.cells x_2.ob [Value.slice y.a y.n y.cap] (32 : Nat)), ((2 : Nat), y.A), ((3 : Nat), F)])
                                                (((-9223372036854775808 : Int) ≤ (↑x_1.k : Int) + (1 : Int) ∧ (↑x_1.k : Int) + (1 : Int) ≤ (9223372036854775807 : Int)) ∧
                                                  ∃ (y_1 : IxI),
                                                    (y_1.k ≤ x.ts.length ∧ isNs x.ns y_1.r ∧ ∀ (j : Nat) (u : Tmr), j < y_1.k → x.ts[j]? = some u → gC x.k u = false) ∧
                                                      (Value.slice (some { block := x.rb, off := (0 : Nat) }) x.ts.length x.cap = Value.slice (some { block := x.rb, off := (0 : Nat) }) x.ts.length x.cap ∧ Value.func (Fn.func (33 : Nat)) { toList := [] } { toList := [Value.pointer (some { block := x.gb, off := (0 : Nat) }), Value.pointer (some { block := x.ob, off := (0 : Nat) })] } = Value.func (Fn.func (33 : Nat)) { toList := [] } { toList := [Value.pointer (some { block := x.gb, off := (0 : Nat) }), Value.pointer (some { block := x.ob, off := (0 : Nat) })] } ∧ Value.int IntKind.i64 (↑x.ts.length : Int) = Value.int IntKind.i64 (↑x.ts.length : Int) ∧ Value.int IntKind.i64 ((↑x_1.k : Int) + (1 : Int)) = Value.int IntKind.i64 (↑y_1.k : Int) ∧ True) ∧
                                                        Ent [((0 : Nat), Atom.cells x.rb (encT x.ts ++ x.sp) (44 : Nat)), ((1 : Nat), Atom.cells x_2.ob [Value.slice y.a y.n y.cap] (32 : Nat)), ((2 : Nat), y.A), ((3 : Nat), F)] [((0 : Nat), Atom.cells x.rb (encT x.ts ++ x.sp) (44 : Nat)), ((1 : Nat), Atom.cells x.ob [Value.slice y_1.r.a y_1.r.n y_1.r.cap] (32 : Nat)), ((2 : Nat), y_1.r.A), ((3 : Nat), F)] ∧ x.ts.length - y_1.k < x.ts.length - x_1.k))
          (Done ixCC x F (Ending.returned (Value.int IntKind.i64 (-1 : Int))) [((0 : Nat), Atom.cells x.rb (encT x.ts ++ x.sp) (44 : Nat)), ((1 : Nat), Atom.cells x.ob [Value.slice x_1.r.a x_1.r.n x_1.r.cap] (32 : Nat)), ((2 : Nat), x_1.r.A), ((3 : Nat), F)]) := by
  obtain ⟨ts, rb, cap, sp, k, gb, ob, r, ns⟩ := x
  obtain ⟨hl, hcap, h128, hns, h500⟩ := hc
  obtain ⟨hr1, hr2⟩ := hr
  dsimp only at hl hcap h128 hns h500 hr1 hr2 ⊢
  simp only [same_refl, true_and, eq_self]
  refine ⟨⟨⟨0, r⟩, ⟨Nat.zero_le _, hns, fun j u hj => absurd hj (Nat.not_lt_zero j)⟩, ⟨rfl, trivial⟩, Ent.pick [0, 1, 2, 3] rfl rfl⟩, ?_⟩
  rintro ⟨i, r1⟩ js ⟨hi, hn1, hno⟩
  dsimp only at hi hn1 hno ⊢
  refine br_decide (fun hlt => ?_) (fun hge => ?_)
  · obtain ⟨t, ht⟩ : ∃ t, ts[i]? = some t := ⟨ts[i], List.getElem?_eq_getElem (by omega)⟩
    refine ⟨by omega, t.ow, enc_at (c := 0) ht (by decide) rfl, t.id, enc_at (c := 1) ht (by decide) rfl, t.due, enc_at (c := 2) ht (by decide) rfl, t.n, enc_at (c := 3) ht (by decide) rfl, tkC_ok, ⟨t, k, gb, ob, r1, ns⟩, rfl, rfl, ⟨hn1, by dsimp only; omega⟩, ⟨Look.sub (A := F) (sub_rest 3 (by simp) rfl) hr1, rkC_mono k _ _ (sub_rest 3 (by simp) rfl) hr2⟩, ?_⟩
    intro y hy
    dsimp only at hy ⊢
    refine br_intro (fun hg => ?_) (fun hg => ?_)
    · refine ⟨⟨y, i⟩, ⟨⟨hi, hno, fun u hu => ?_⟩, ?_⟩, ?_, Ent.pick [0, 1, 2, 3] rfl rfl⟩
      · dsimp only at hu
        rw [ht] at hu; cases hu; exact hg
      · dsimp only
        have e : nts (gC k) (ts.take (i + 1)) = nts (gC k) [t] := by
          rw [List.take_add_one, ht]
          unfold nts
          rw [List.filter_append, List.map_append]
          have := nts_take_succ hno
          unfold nts at this
          rw [this]; rfl
        rw [e]; exact hy
      · simp only [ixCC, ixV', decide_eq_true (show i < ts.length by omega)]; rfl
    · refine ⟨by omega, ⟨i + 1, y⟩, ⟨by dsimp only; omega, ?_, ?_⟩, ⟨rfl, trivial⟩, Ent.pick [0, 1, 2, 3] rfl rfl, by dsimp only; omega⟩
      · have e : nts (gC k) [t] = [] := by simp [nts, hg]
        rw [e, List.append_nil] at hy
        exact hy
      · intro j u hj hu
        dsimp only at hj
        rcases Nat.lt_or_ge j i with h | h
        · exact hno j u h hu
        · have : j = i := by omega
          subst this
          rw [ht] at hu; cases hu; exact hg
  · have : i = ts.length := by omega
    subst this
    refine ⟨⟨r1, ts.length⟩, ⟨⟨Nat.le_refl _, hno, fun u hu => ?_⟩, ?_⟩, ?_, Ent.pick [0, 1, 2, 3] rfl rfl⟩
    · rw [List.getElem?_eq_none (Nat.le_refl _)] at hu; cases hu
    · dsimp only
      rw [nts_take_succ (fun j u _ hu => hno j u (List.getElem?_eq_some_iff.1 hu).1 hu), List.append_nil]
      exact hn1
    · simp only [ixCC, ixV', Nat.lt_irrefl, decide_false]; rfl
set_option maxRecDepth 100000 in
theorem ixC_ok : FnOk Try.prog 36 ixCC :=
  fnOk (N := 19) (by kernel_rfl) Try.func36 rfl (by kernel_rfl) (fun _ => Nat.le_of_ble_eq_true rfl) ixC_H [] fun x F hc hr => Eq.mpr (by kernel_rfl) (ixC_vc x F hc hr)
structure IXD where
  ts : List Tmr
  rb : Nat
  cap : Nat
  sp : List Value
  k : KD
  gb : Nat
  ob : Nat
  r : Row
  ns : List Int
def ixDC : Con where
  X := IXD
  Y := IxY
  args x := [.slice (some ⟨x.rb, 0, none⟩) x.ts.length x.cap, fvK x.gb x.ob]
  pre x := [.cells x.rb (encT x.ts ++ x.sp) 44, outA x.ob x.r, x.r.A]
  cond x := (encT x.ts ++ x.sp).length = x.cap * 4 ∧ x.ts.length ≤ x.cap ∧ x.ts.length ≤ 128 ∧ isNs x.ns x.r ∧ x.ns.length ≤ 500
  rdc x F := Look F ⟨x.gb, 0, none⟩ (fvD x.k) ∧ rkD x.k F
  rel x y := IsIx (gD x.k) x.ts y.i ∧ isNs (x.ns ++ nts (gD x.k) (x.ts.take (y.i + 1))) y.r
  val x y := .returned (.int .i64 (ixV' y.i x.ts.length))
  post x y := [.cells x.rb (encT x.ts ++ x.sp) 44, outA x.ob y.r, y.r.A]
  rmono x A B h hk := ⟨hk.1.sub h, rkD_mono x.k A B h hk.2⟩
def ixDInv (x : IXD) (F : Atom) : Nat → Option Inv := fun
  | 0 => some { X := IxI, P := fun i => i.k ≤ x.ts.length ∧ isNs x.ns i.r ∧ ∀ j u, j < i.k → x.ts[j]? = some u → gD x.k u = false, mu := fun i => x.ts.length - i.k, lv := fun i => [(0, .slice (some ⟨x.rb, 0, none⟩) x.ts.length x.cap), (1, fvK x.gb x.ob), (7, .int .i64 x.ts.length), (8, .int .i64 i.k)], st := fun i => [.cells x.rb (encT x.ts ++ x.sp) 44, outA x.ob i.r, i.r.A, F] }
  | _ => none
def ixDOv (_x : IXD) (_F : Atom) : List (Nat × Nat × OH) := [(4, 5, .c tkDC [1, 2] [1, 2])]
noncomputable def ixD_H (x : Con.X ixDC) (F : Atom) : Hints where
  op := hk ((ixDOv x F) ++ [(4, 4, OH.q [LH.ex (0 : Nat) (Shape.int IntKind.i64), LH.ex (0 : Nat) Shape.str, LH.ex (0 : Nat) (Shape.int IntKind.i64), LH.ex (0 : Nat) (Shape.int IntKind.i64)])])
  inv := ixDInv x F
  cut := (fun _ _ _ => none) x F
  ord := (fun _ => [])
set_option maxRecDepth 100000 in
theorem ixD_vc (x : IXD) (F : Atom) (hc : Con.cond ixDC x) (hr : Con.rdc ixDC x F) :
  (∃ (x_1 : IxI),
      (x_1.k ≤ x.ts.length ∧ isNs x.ns x_1.r ∧ ∀ (j : Nat) (u : Tmr), j < x_1.k → x.ts[j]? = some u → gD x.k u = false) ∧
        (Value.slice (some { block := x.rb, off := (0 : Nat) }) x.ts.length x.cap = Value.slice (some { block := x.rb, off := (0 : Nat) }) x.ts.length x.cap ∧ Value.func (Fn.func (33 : Nat)) { toList := [] } { toList := [Value.pointer (some { block := x.gb, off := (0 : Nat) }), Value.pointer (some { block := x.ob, off := (0 : Nat) })] } = Value.func (Fn.func (33 : Nat)) { toList := [] } { toList := [Value.pointer (some { block := x.gb, off := (0 : Nat) }), Value.pointer (some { block := x.ob, off := (0 : Nat) })] } ∧ Value.int IntKind.i64 (↑x.ts.length : Int) = Value.int IntKind.i64 (↑x.ts.length : Int) ∧ Value.int IntKind.i64 (0 : Int) = Value.int IntKind.i64 (↑x_1.k : Int) ∧ True) ∧
          Ent [((0 : Nat), Atom.cells x.rb (encT x.ts ++ x.sp) (44 : Nat)), ((1 : Nat), Atom.cells x.ob [Value.slice x.r.a x.r.n x.r.cap] (32 : Nat)), ((2 : Nat), x.r.A), ((3 : Nat), F)] [((0 : Nat), Atom.cells x.rb (encT x.ts ++ x.sp) (44 : Nat)), ((1 : Nat), Atom.cells x.ob [Value.slice x_1.r.a x_1.r.n x_1.r.cap] (32 : Nat)), ((2 : Nat), x_1.r.A), ((3 : Nat), F)]) ∧
    ∀ (x_1 : IxI) (js : Nat → Value),
      (x_1.k ≤ x.ts.length ∧ isNs x.ns x_1.r ∧ ∀ (j : Nat) (u : Tmr), j < x_1.k → x.ts[j]? = some u → gD x.k u = false) →
        Br (decide ((↑x_1.k : Int) < (↑x.ts.length : Int)))
          (((0 : Int) ≤ (↑x_1.k : Int) ∧ (↑x_1.k : Int) < (↑x.ts.length : Int)) ∧
            ∃ (n : Int),
              Look (Atom.cells x.rb (encT x.ts ++ x.sp) (44 : Nat)) { block := x.rb, off := (0 : Nat) + (↑x_1.k : Int).toNat * (4 : Nat) } (Value.int IntKind.i64 n) ∧
                ∃ (s : ByteArray),
                  Look (Atom.cells x.rb (encT x.ts ++ x.sp) (44 : Nat)) { block := x.rb, off := (0 : Nat) + (↑x_1.k : Int).toNat * (4 : Nat) + (1 : Nat) } (Value.string s) ∧
                    ∃ (n_1 : Int),
                      Look (Atom.cells x.rb (encT x.ts ++ x.sp) (44 : Nat)) { block := x.rb, off := (0 : Nat) + (↑x_1.k : Int).toNat * (4 : Nat) + (2 : Nat) } (Value.int IntKind.i64 n_1) ∧
                        ∃ (n_2 : Int),
                          Look (Atom.cells x.rb (encT x.ts ++ x.sp) (44 : Nat)) { block := x.rb, off := (0 : Nat) + (↑x_1.k : Int).toNat * (4 : Nat) + (3 : Nat) } (Value.int IntKind.i64 n_2) ∧
                            FnOk Try.prog (33 : Nat) tkDC ∧
                              true = true ∧
                                ∃ (x_2 : TKD),
                                  [Value.agg { toList := [Value.int IntKind.i64 n, Value.string s, Value.int IntKind.i64 n_1, Value.int IntKind.i64 n_2] }, Value.pointer (some { block := x.gb, off := (0 : Nat) }), Value.pointer (some { block := x.ob, off := (0 : Nat) })] = [Value.agg { toList := [Value.int IntKind.i64 x_2.t.ow, Value.string x_2.t.id, Value.int IntKind.i64 x_2.t.due, Value.int IntKind.i64 x_2.t.n] }, Value.pointer (some { block := x_2.gb, off := (0 : Nat) }), Value.pointer (some { block := x_2.ob, off := (0 : Nat) })] ∧
                                    [Atom.cells x.ob [Value.slice x_1.r.a x_1.r.n x_1.r.cap] (32 : Nat), x_1.r.A] = [Atom.cells x_2.ob [Value.slice x_2.r.a x_2.r.n x_2.r.cap] (32 : Nat), x_2.r.A] ∧
                                      (isNs x_2.ns x_2.r ∧ x_2.ns.length ≤ (1000 : Nat)) ∧
                                        (Look (Atom.pred (rest [((0 : Nat), Atom.cells x.rb (encT x.ts ++ x.sp) (44 : Nat)), ((1 : Nat), Atom.cells x.ob [Value.slice x_1.r.a x_1.r.n x_1.r.cap] (32 : Nat)), ((2 : Nat), x_1.r.A), ((3 : Nat), F)] [(1 : Nat), (2 : Nat)])) { block := x_2.gb, off := (0 : Nat) } (Value.func (Fn.func (30 : Nat)) { toList := [] } { toList := [Value.pointer (some { block := x_2.k.c1, off := (0 : Nat) })] }) ∧ rkD x_2.k (Atom.pred (rest [((0 : Nat), Atom.cells x.rb (encT x.ts ++ x.sp) (44 : Nat)), ((1 : Nat), Atom.cells x.ob [Value.slice x_1.r.a x_1.r.n x_1.r.cap] (32 : Nat)), ((2 : Nat), x_1.r.A), ((3 : Nat), F)] [(1 : Nat), (2 : Nat)]))) ∧
                                          ∀ (y : Row),
                                            isNs (x_2.ns ++ nts (gD x_2.k) [x_2.t]) y →
                                              Br (gD x_2.k x_2.t) (Done ixDC x F (Ending.returned (Value.int IntKind.i64 (↑x_1.k : Int))) [((0 : Nat), Atom.cells x.rb (encT x.ts ++ x.sp) (44 : Nat)), ((1 : Nat), Atom.cells x_2.ob [Value.slice y.a y.n y.cap] (32 : Nat)), ((2 : Nat), y.A), ((3 : Nat), F)])
                                                (((-9223372036854775808 : Int) ≤ (↑x_1.k : Int) + (1 : Int) ∧ (↑x_1.k : Int) + (1 : Int) ≤ (9223372036854775807 : Int)) ∧
                                                  ∃ (y_1 : IxI),
                                                    (y_1.k ≤ x.ts.length ∧ isNs x.ns y_1.r ∧ ∀ (j : Nat) (u : Tmr), j < y_1.k → x.ts[j]? = some u → gD x.k u = false) ∧
                                                      (Value.slice (some { block := x.rb, off := (0 : Nat) }) x.ts.length x.cap = Value.slice (some { block := x.rb, off := (0 : Nat) }) x.ts.length x.cap ∧ Value.func (Fn.func (33 : Nat)) { toList := [] } { toList := [Value.pointer (some { block := x.gb, off := (0 : Nat) }), Value.pointer (some { block := x.ob, off := (0 : Nat) })] } = Value.func (Fn.func (33 : Nat)) { toList := [] } { toList := [Value.pointer (some { block := x.gb, off := (0 : Nat) }), Value.pointer (some { block := x.ob, off := (0 : Nat) })] } ∧ Value.int IntKind.i64 (↑x.ts.length : Int) = Value.int IntKind.i64 (↑x.ts.length : Int) ∧ Value.int IntKind.i64 ((↑x_1.k : Int) + (1 : Int)) = Value.int IntKind.i64 (↑y_1.k : Int) ∧ True) ∧
                                                        Ent [((0 : Nat), Atom.cells x.rb (encT x.ts ++ x.sp) (44 : Nat)), ((1 : Nat), Atom.cells x_2.ob [Value.slice y.a y.n y.cap] (32 : Nat)), ((2 : Nat), y.A), ((3 : Nat), F)] [((0 : Nat), Atom.cells x.rb (encT x.ts ++ x.sp) (44 : Nat)), ((1 : Nat), Atom.cells x.ob [Value.slice y_1.r.a y_1.r.n y_1.r.cap] (32 : Nat)), ((2 : Nat), y_1.r.A), ((3 : Nat), F)] ∧ x.ts.length - y_1.k < x.ts.length - x_1.k))
          (Done ixDC x F (Ending.returned (Value.int IntKind.i64 (-1 : Int))) [((0 : Nat), Atom.cells x.rb (encT x.ts ++ x.sp) (44 : Nat)), ((1 : Nat), Atom.cells x.ob [Value.slice x_1.r.a x_1.r.n x_1.r.cap] (32 : Nat)), ((2 : Nat), x_1.r.A), ((3 : Nat), F)]) := by
  obtain ⟨ts, rb, cap, sp, k, gb, ob, r, ns⟩ := x
  obtain ⟨hl, hcap, h128, hns, h500⟩ := hc
  obtain ⟨hr1, hr2⟩ := hr
  dsimp only at hl hcap h128 hns h500 hr1 hr2 ⊢
  simp only [same_refl, true_and, eq_self]
  refine ⟨⟨⟨0, r⟩, ⟨Nat.zero_le _, hns, fun j u hj => absurd hj (Nat.not_lt_zero j)⟩, ⟨rfl, trivial⟩, Ent.pick [0, 1, 2, 3] rfl rfl⟩, ?_⟩
  rintro ⟨i, r1⟩ js ⟨hi, hn1, hno⟩
  dsimp only at hi hn1 hno ⊢
  refine br_decide (fun hlt => ?_) (fun hge => ?_)
  · obtain ⟨t, ht⟩ : ∃ t, ts[i]? = some t := ⟨ts[i], List.getElem?_eq_getElem (by omega)⟩
    refine ⟨by omega, t.ow, enc_at (c := 0) ht (by decide) rfl, t.id, enc_at (c := 1) ht (by decide) rfl, t.due, enc_at (c := 2) ht (by decide) rfl, t.n, enc_at (c := 3) ht (by decide) rfl, tkD_ok, ⟨t, k, gb, ob, r1, ns⟩, rfl, rfl, ⟨hn1, by dsimp only; omega⟩, ⟨Look.sub (A := F) (sub_rest 3 (by simp) rfl) hr1, rkD_mono k _ _ (sub_rest 3 (by simp) rfl) hr2⟩, ?_⟩
    intro y hy
    dsimp only at hy ⊢
    refine br_intro (fun hg => ?_) (fun hg => ?_)
    · refine ⟨⟨y, i⟩, ⟨⟨hi, hno, fun u hu => ?_⟩, ?_⟩, ?_, Ent.pick [0, 1, 2, 3] rfl rfl⟩
      · dsimp only at hu
        rw [ht] at hu; cases hu; exact hg
      · dsimp only
        have e : nts (gD k) (ts.take (i + 1)) = nts (gD k) [t] := by
          rw [List.take_add_one, ht]
          unfold nts
          rw [List.filter_append, List.map_append]
          have := nts_take_succ hno
          unfold nts at this
          rw [this]; rfl
        rw [e]; exact hy
      · simp only [ixDC, ixV', decide_eq_true (show i < ts.length by omega)]; rfl
    · refine ⟨by omega, ⟨i + 1, y⟩, ⟨by dsimp only; omega, ?_, ?_⟩, ⟨rfl, trivial⟩, Ent.pick [0, 1, 2, 3] rfl rfl, by dsimp only; omega⟩
      · have e : nts (gD k) [t] = [] := by simp [nts, hg]
        rw [e, List.append_nil] at hy
        exact hy
      · intro j u hj hu
        dsimp only at hj
        rcases Nat.lt_or_ge j i with h | h
        · exact hno j u h hu
        · have : j = i := by omega
          subst this
          rw [ht] at hu; cases hu; exact hg
  · have : i = ts.length := by omega
    subst this
    refine ⟨⟨r1, ts.length⟩, ⟨⟨Nat.le_refl _, hno, fun u hu => ?_⟩, ?_⟩, ?_, Ent.pick [0, 1, 2, 3] rfl rfl⟩
    · rw [List.getElem?_eq_none (Nat.le_refl _)] at hu; cases hu
    · dsimp only
      rw [nts_take_succ (fun j u _ hu => hno j u (List.getElem?_eq_some_iff.1 hu).1 hu), List.append_nil]
      exact hn1
    · simp only [ixDC, ixV', Nat.lt_irrefl, decide_false]; rfl
set_option maxRecDepth 100000 in
theorem ixD_ok : FnOk Try.prog 36 ixDC :=
  fnOk (N := 19) (by kernel_rfl) Try.func36 rfl (by kernel_rfl) (fun _ => Nat.le_of_ble_eq_true rfl) ixD_H [] fun x F hc hr => Eq.mpr (by kernel_rfl) (ixD_vc x F hc hr)
end Go.Proofs.Ytmknmibmnidnoaa
