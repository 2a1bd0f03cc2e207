/- One timer's question, and what is noted. -/
import Derived.Test.YtmknmibmnidnoaaClkE
set_option linter.all false
namespace Go.Proofs.Ytmknmibmnidnoaa
open Go
theorem sub_rest {S : St} {touch : List Nat} {A : Atom} (j : Nat) (hj : j ∉ touch) (e : gt S j = A) : Sub A (.pred (rest S touch)) := by
  intro I h o hA
  obtain ⟨f, h1, _, _⟩ := hA
  have := h1 j
  rw [gt_clr] at this
  simp only [hj, if_false] at this
  rw [e] at this
  exact ⟨_, this⟩
theorem sub_refl (A : Atom) : Sub A A := fun _ _ o h => ⟨o, h⟩
def ints (ns : List Int) : List Value := ns.map fun n => .int .i64 n
theorem ints_length (ns : List Int) : (ints ns).length = ns.length := by simp [ints]
theorem ints_one {ns : List Int} {u : Value} (h : u ∈ ints ns) : u.oneCell' = true := by
  obtain ⟨n, _, rfl⟩ := List.mem_map.1 h; rfl
def isNs (ns : List Int) (r : Row) : Prop := IsRow 3 1 (ints ns) r ∧ r.n = ns.length
def outA (b : Nat) (r : Row) : Atom := .cells b [.slice r.a r.n r.cap] 32
def nts (g : Tmr → Bool) (ts : List Tmr) : List Int := (ts.filter g).map (·.n)
def fvT (k : KT) : Value := .func (.func 27) #[] ⟨capT k⟩
structure TKT where
  t : Tmr
  k : KT
  gb : Nat
  ob : Nat
  r : Row
  ns : List Int
def tkTC : Con where
  X := TKT
  Y := Row
  args x := [.agg ⟨x.t.enc⟩, .pointer (some ⟨x.gb, 0, none⟩), .pointer (some ⟨x.ob, 0, none⟩)]
  pre x := [outA x.ob x.r, x.r.A]
  cond x := isNs x.ns x.r ∧ x.ns.length ≤ 1000
  rdc x F := Look F ⟨x.gb, 0, none⟩ (fvT x.k) ∧ rkT x.k F
  rel x r := isNs (x.ns ++ nts (gT x.k) [x.t]) r
  val x _ := .returned (.bool (gT x.k x.t))
  post x r := [outA x.ob r, r.A]
  rmono x A B h hk := ⟨hk.1.sub h, rkT_mono x.k A B h hk.2⟩
def tkTOv (x : TKT) (_F : Atom) : List (Nat × Nat × OH) := [(1, 0, .q [.ex 2 (.is (fvT x.k))]), (1, 2, .c goTC [] []), (2, 4, .o (apC 3 1 8) [1] [1])]
noncomputable def tkT_H (x : Con.X tkTC) (F : Atom) : Hints where
  op := hk ((tkTOv x F) ++ [(0, 0, OH.n (1000 : Nat)),   (1, 1, OH.q [LH.atj (1000 : Nat), LH.atj (1000 : Nat), LH.atj (1000 : Nat), LH.atj (1000 : Nat)]),   (2, 0, OH.q [LH.atj (0 : Nat)]),   (2, 2, OH.q [LH.atj (1000 : Nat)]),   (2, 3, OH.n (3030 : Nat)),   (2, 5, OH.w [LH.atj (0 : Nat)])])
  inv := (fun _ _ _ => none) x F
  cut := (fun _ _ _ => none) x F
  ord := (fun _ => [])
set_option maxRecDepth 100000 in
theorem tkT_vc (x : TKT) (F : Atom) (hc : Con.cond tkTC x) (hr : Con.rdc tkTC x F) :
  ∀ (b : Nat),
    Look F { block := x.gb, off := (0 : Nat) } (Value.func (Fn.func (27 : Nat)) { toList := [] } { toList := [Value.pointer (some { block := x.k.cb, off := (0 : Nat) })] }) ∧
      Same { block := b, off := (0 : Nat) } b ∧
        Same { block := b, off := (1 : Nat) } b ∧
          Same { block := b, off := (2 : Nat) } b ∧
            Same { block := b, off := (3 : Nat) } b ∧
              FnOk Try.prog (27 : Nat) goTC ∧
                true = true ∧
                  ∃ (x_1 : GXT),
                    [Value.agg { toList := [Value.int IntKind.i64 x.t.ow, Value.string x.t.id, Value.int IntKind.i64 x.t.due, Value.int IntKind.i64 x.t.n] }, Value.pointer (some { block := x.k.cb, off := (0 : Nat) })] = [Value.agg { toList := [Value.int IntKind.i64 x_1.t.ow, Value.string x_1.t.id, Value.int IntKind.i64 x_1.t.due, Value.int IntKind.i64 x_1.t.n] }, Value.pointer (some { block := x_1.k.cb, off := (0 : Nat) })] ∧
                      ([] : List Atom) = [] ∧
                        True ∧
                          rkT x_1.k (Atom.pred (rest [((0 : Nat), Atom.cells x.ob [Value.slice x.r.a x.r.n x.r.cap] (32 : Nat)), ((1 : Nat), x.r.A), ((2 : Nat), F), ((1000 : Nat), Atom.cells b [Value.int IntKind.i64 x.t.ow, Value.string x.t.id, Value.int IntKind.i64 x.t.due, Value.int IntKind.i64 x.t.n] (44 : Nat))] [])) ∧
                            ∀ (y : Unit),
                              True →
                                Br (gT x_1.k x_1.t)
                                  (Same { block := x.ob, off := (0 : Nat) } x.ob ∧
                                    Same { block := b, off := (3 : Nat) } b ∧
                                      ∀ (b_1 : Nat),
                                        OpOk Try.prog (opIn Try.f33 (2 : Nat) (4 : Nat)) (apC (3 : TypeId) (1 : Nat) (8 : Nat)) ∧
                                          true = true ∧
                                            ∃ (x_2 : ApX),
                                              [Value.slice x.r.a x.r.n x.r.cap, Value.slice (some { block := b_1, off := (0 : Nat) }) (1 : Nat) (1 : Nat)] = [Value.slice x_2.r.a x_2.r.n x_2.r.cap, Value.slice x_2.a x_2.m x_2.c] ∧
                                                [x.r.A] = [x_2.r.A] ∧
                                                  (IsRow (3 : Nat) (1 : Nat) x_2.cs x_2.r ∧ x_2.ys.length = x_2.m * (1 : Nat) ∧ (∀ (u : Value), u ∈ x_2.ys → u.oneCell' = true) ∧ (x_2.r.n + x_2.m) * (8 : Nat) ≤ (140737488355328 : Nat) ∧ x_2.r.n + x_2.m ≤ (9223372036854775807 : Nat) ∧ (x_2.a = none → x_2.m = (0 : Nat) ∧ x_2.c = (0 : Nat))) ∧
                                                    (∀ (a : Addr), x_2.a = some a → Seg (Atom.pred (rest [((0 : Nat), Atom.cells x.ob [Value.slice x.r.a x.r.n x.r.cap] (32 : Nat)), ((1 : Nat), x.r.A), ((2 : Nat), F), ((1000 : Nat), Atom.cells b [Value.int IntKind.i64 x.t.ow, Value.string x.t.id, Value.int IntKind.i64 x.t.due, Value.int IntKind.i64 x.t.n] (44 : Nat)), ((3030 : Nat), Atom.cells b_1 [Value.int IntKind.i64 x.t.n] (3 : Nat))] [(1 : Nat)])) a x_2.ys) ∧
                                                      ∀ (y : Row), IsRow (3 : Nat) (1 : Nat) (x_2.cs ++ x_2.ys) y ∧ y.n = x_2.r.n + x_2.m ∧ (x_2.m = (0 : Nat) → y = x_2.r) → Same { block := x.ob, off := (0 : Nat) } x.ob ∧ Done tkTC x F (Ending.returned (Value.bool true)) [((0 : Nat), Atom.cells x.ob [Value.slice y.a y.n y.cap] (32 : Nat)), ((1 : Nat), y.A), ((2 : Nat), F), ((1000 : Nat), Atom.cells b [Value.int IntKind.i64 x.t.ow, Value.string x.t.id, Value.int IntKind.i64 x.t.due, Value.int IntKind.i64 x.t.n] (44 : Nat)), ((3030 : Nat), Atom.cells b_1 [Value.int IntKind.i64 x.t.n] (3 : Nat))])
                                  (Done tkTC x F (Ending.returned (Value.bool false)) [((0 : Nat), Atom.cells x.ob [Value.slice x.r.a x.r.n x.r.cap] (32 : Nat)), ((1 : Nat), x.r.A), ((2 : Nat), F), ((1000 : Nat), Atom.cells b [Value.int IntKind.i64 x.t.ow, Value.string x.t.id, Value.int IntKind.i64 x.t.due, Value.int IntKind.i64 x.t.n] (44 : Nat))]) := by
  obtain ⟨t, k, gb, ob, r, ns⟩ := x
  obtain ⟨⟨hrow, hn⟩, hlen⟩ := hc
  obtain ⟨hr1, hr2⟩ := hr
  dsimp only at hrow hn hlen hr1 hr2 ⊢
  simp only [same_refl, true_and, eq_self]
  refine fun b => ⟨hr1, goT_ok, ⟨t, k⟩, rfl, rkT_mono k _ _ (sub_rest 2 (by simp) rfl) hr2, fun _ _ => br_intro (fun hg => ?_) (fun hg => ?_)⟩
  · dsimp only at hg
    refine fun b1 => ⟨append_ok (P := Try.prog) 1 8 rfl rfl rfl rfl rfl rfl rfl (by decide), ⟨r, ints ns, some ⟨b1, 0, none⟩, 1, 1, [.int .i64 t.n]⟩, rfl, rfl, ⟨hrow, rfl, ?_, by dsimp only; omega, by dsimp only; omega, by simp⟩, ?_, ?_⟩
    · intro u hu
      simp only [List.mem_cons, List.not_mem_nil, or_false] at hu
      rw [hu]; rfl
    · intro a ha
      cases ha
      exact Seg.rest (j := 3030) (by simp) (Seg.cells (by simp))
    · rintro y ⟨hy, hyn, -⟩
      dsimp only at hy hyn
      refine ⟨y, ?_, by simp only [tkTC, hg], Ent.pick [0, 1, 2] rfl rfl⟩
      have e : nts (gT k) [t] = [t.n] := by simp [nts, hg]
      simp only [tkTC, e, isNs]
      refine ⟨?_, by simp; omega⟩
      have : ints (ns ++ [t.n]) = ints ns ++ [.int .i64 t.n] := by simp [ints]
      rw [this]; exact hy
  · dsimp only at hg
    refine ⟨r, ?_, by simp only [tkTC, hg], Ent.pick [0, 1, 2] rfl rfl⟩
    have e : nts (gT k) [t] = [] := by simp [nts, hg]
    simp only [tkTC, e, List.append_nil]
    exact ⟨hrow, hn⟩
set_option maxRecDepth 100000 in
theorem tkT_ok : FnOk Try.prog 33 tkTC :=
  fnOk (N := 13) (by kernel_rfl) Try.func33 rfl (by kernel_rfl) (fun _ => Nat.le_of_ble_eq_true rfl) tkT_H [] fun x F hc hr => Eq.mpr (by kernel_rfl) (tkT_vc x F hc hr)
def fvC (k : KC) : Value := .func (.func 29) #[] ⟨capC k⟩
structure TKC where
  t : Tmr
  k : KC
  gb : Nat
  ob : Nat
  r : Row
  ns : List Int
def tkCC : Con where
  X := TKC
  Y := Row
  args x := [.agg ⟨x.t.enc⟩, .pointer (some ⟨x.gb, 0, none⟩), .pointer (some ⟨x.ob, 0, none⟩)]
  pre x := [outA x.ob x.r, x.r.A]
  cond x := isNs x.ns x.r ∧ x.ns.length ≤ 1000
  rdc x F := Look F ⟨x.gb, 0, none⟩ (fvC x.k) ∧ rkC x.k F
  rel x r := isNs (x.ns ++ nts (gC x.k) [x.t]) r
  val x _ := .returned (.bool (gC x.k x.t))
  post x r := [outA x.ob r, r.A]
  rmono x A B h hk := ⟨hk.1.sub h, rkC_mono x.k A B h hk.2⟩
def tkCOv (x : TKC) (_F : Atom) : List (Nat × Nat × OH) := [(1, 0, .q [.ex 2 (.is (fvC x.k))]), (1, 2, .c goCC [] []), (2, 4, .o (apC 3 1 8) [1] [1])]
noncomputable def tkC_H (x : Con.X tkCC) (F : Atom) : Hints where
  op := hk ((tkCOv x F) ++ [(0, 0, OH.n (1000 : Nat)),   (1, 1, OH.q [LH.atj (1000 : Nat), LH.atj (1000 : Nat), LH.atj (1000 : Nat), LH.atj (1000 : Nat)]),   (2, 0, OH.q [LH.atj (0 : Nat)]),   (2, 2, OH.q [LH.atj (1000 : Nat)]),   (2, 3, OH.n (3030 : Nat)),   (2, 5, OH.w [LH.atj (0 : Nat)])])
  inv := (fun _ _ _ => none) x F
  cut := (fun _ _ _ => none) x F
  ord := (fun _ => [])
set_option maxRecDepth 100000 in
theorem tkC_vc (x : TKC) (F : Atom) (hc : Con.cond tkCC x) (hr : Con.rdc tkCC x F) :
  ∀ (b : Nat),
    Look F { block := x.gb, off := (0 : Nat) } (Value.func (Fn.func (29 : Nat)) { toList := [] } { toList := [Value.pointer (some { block := x.k.c1, off := (0 : Nat) }), Value.pointer (some { block := x.k.c2, off := (0 : Nat) })] }) ∧
      Same { block := b, off := (0 : Nat) } b ∧
        Same { block := b, off := (1 : Nat) } b ∧
          Same { block := b, off := (2 : Nat) } b ∧
            Same { block := b, off := (3 : Nat) } b ∧
              FnOk Try.prog (29 : Nat) goCC ∧
                true = true ∧
                  ∃ (x_1 : GXC),
                    [Value.agg { toList := [Value.int IntKind.i64 x.t.ow, Value.string x.t.id, Value.int IntKind.i64 x.t.due, Value.int IntKind.i64 x.t.n] }, Value.pointer (some { block := x.k.c1, off := (0 : Nat) }), Value.pointer (some { block := x.k.c2, off := (0 : Nat) })] = [Value.agg { toList := [Value.int IntKind.i64 x_1.t.ow, Value.string x_1.t.id, Value.int IntKind.i64 x_1.t.due, Value.int IntKind.i64 x_1.t.n] }, Value.pointer (some { block := x_1.k.c1, off := (0 : Nat) }), Value.pointer (some { block := x_1.k.c2, off := (0 : Nat) })] ∧
                      ([] : List Atom) = [] ∧
                        True ∧
                          rkC x_1.k (Atom.pred (rest [((0 : Nat), Atom.cells x.ob [Value.slice x.r.a x.r.n x.r.cap] (32 : Nat)), ((1 : Nat), x.r.A), ((2 : Nat), F), ((1000 : Nat), Atom.cells b [Value.int IntKind.i64 x.t.ow, Value.string x.t.id, Value.int IntKind.i64 x.t.due, Value.int IntKind.i64 x.t.n] (44 : Nat))] [])) ∧
                            ∀ (y : Unit),
                              True →
                                Br (gC x_1.k x_1.t)
                                  (Same { block := x.ob, off := (0 : Nat) } x.ob ∧
                                    Same { block := b, off := (3 : Nat) } b ∧
                                      ∀ (b_1 : Nat),
                                        OpOk Try.prog (opIn Try.f33 (2 : Nat) (4 : Nat)) (apC (3 : TypeId) (1 : Nat) (8 : Nat)) ∧
                                          true = true ∧
                                            ∃ (x_2 : ApX),
                                              [Value.slice x.r.a x.r.n x.r.cap, Value.slice (some { block := b_1, off := (0 : Nat) }) (1 : Nat) (1 : Nat)] = [Value.slice x_2.r.a x_2.r.n x_2.r.cap, Value.slice x_2.a x_2.m x_2.c] ∧
                                                [x.r.A] = [x_2.r.A] ∧
                                                  (IsRow (3 : Nat) (1 : Nat) x_2.cs x_2.r ∧ x_2.ys.length = x_2.m * (1 : Nat) ∧ (∀ (u : Value), u ∈ x_2.ys → u.oneCell' = true) ∧ (x_2.r.n + x_2.m) * (8 : Nat) ≤ (140737488355328 : Nat) ∧ x_2.r.n + x_2.m ≤ (9223372036854775807 : Nat) ∧ (x_2.a = none → x_2.m = (0 : Nat) ∧ x_2.c = (0 : Nat))) ∧
                                                    (∀ (a : Addr), x_2.a = some a → Seg (Atom.pred (rest [((0 : Nat), Atom.cells x.ob [Value.slice x.r.a x.r.n x.r.cap] (32 : Nat)), ((1 : Nat), x.r.A), ((2 : Nat), F), ((1000 : Nat), Atom.cells b [Value.int IntKind.i64 x.t.ow, Value.string x.t.id, Value.int IntKind.i64 x.t.due, Value.int IntKind.i64 x.t.n] (44 : Nat)), ((3030 : Nat), Atom.cells b_1 [Value.int IntKind.i64 x.t.n] (3 : Nat))] [(1 : Nat)])) a x_2.ys) ∧
                                                      ∀ (y : Row), IsRow (3 : Nat) (1 : Nat) (x_2.cs ++ x_2.ys) y ∧ y.n = x_2.r.n + x_2.m ∧ (x_2.m = (0 : Nat) → y = x_2.r) → Same { block := x.ob, off := (0 : Nat) } x.ob ∧ Done tkCC x F (Ending.returned (Value.bool true)) [((0 : Nat), Atom.cells x.ob [Value.slice y.a y.n y.cap] (32 : Nat)), ((1 : Nat), y.A), ((2 : Nat), F), ((1000 : Nat), Atom.cells b [Value.int IntKind.i64 x.t.ow, Value.string x.t.id, Value.int IntKind.i64 x.t.due, Value.int IntKind.i64 x.t.n] (44 : Nat)), ((3030 : Nat), Atom.cells b_1 [Value.int IntKind.i64 x.t.n] (3 : Nat))])
                                  (Done tkCC x F (Ending.returned (Value.bool false)) [((0 : Nat), Atom.cells x.ob [Value.slice x.r.a x.r.n x.r.cap] (32 : Nat)), ((1 : Nat), x.r.A), ((2 : Nat), F), ((1000 : Nat), Atom.cells b [Value.int IntKind.i64 x.t.ow, Value.string x.t.id, Value.int IntKind.i64 x.t.due, Value.int IntKind.i64 x.t.n] (44 : Nat))]) := by
  obtain ⟨t, k, gb, ob, r, ns⟩ := x
  obtain ⟨⟨hrow, hn⟩, hlen⟩ := hc
  obtain ⟨hr1, hr2⟩ := hr
  dsimp only at hrow hn hlen hr1 hr2 ⊢
  simp only [same_refl, true_and, eq_self]
  refine fun b => ⟨hr1, goC_ok, ⟨t, k⟩, rfl, rkC_mono k _ _ (sub_rest 2 (by simp) rfl) hr2, fun _ _ => br_intro (fun hg => ?_) (fun hg => ?_)⟩
  · dsimp only at hg
    refine fun b1 => ⟨append_ok (P := Try.prog) 1 8 rfl rfl rfl rfl rfl rfl rfl (by decide), ⟨r, ints ns, some ⟨b1, 0, none⟩, 1, 1, [.int .i64 t.n]⟩, rfl, rfl, ⟨hrow, rfl, ?_, by dsimp only; omega, by dsimp only; omega, by simp⟩, ?_, ?_⟩
    · intro u hu
      simp only [List.mem_cons, List.not_mem_nil, or_false] at hu
      rw [hu]; rfl
    · intro a ha
      cases ha
      exact Seg.rest (j := 3030) (by simp) (Seg.cells (by simp))
    · rintro y ⟨hy, hyn, -⟩
      dsimp only at hy hyn
      refine ⟨y, ?_, by simp only [tkCC, hg], Ent.pick [0, 1, 2] rfl rfl⟩
      have e : nts (gC k) [t] = [t.n] := by simp [nts, hg]
      simp only [tkCC, e, isNs]
      refine ⟨?_, by simp; omega⟩
      have : ints (ns ++ [t.n]) = ints ns ++ [.int .i64 t.n] := by simp [ints]
      rw [this]; exact hy
  · dsimp only at hg
    refine ⟨r, ?_, by simp only [tkCC, hg], Ent.pick [0, 1, 2] rfl rfl⟩
    have e : nts (gC k) [t] = [] := by simp [nts, hg]
    simp only [tkCC, e, List.append_nil]
    exact ⟨hrow, hn⟩
set_option maxRecDepth 100000 in
theorem tkC_ok : FnOk Try.prog 33 tkCC :=
  fnOk (N := 13) (by kernel_rfl) Try.func33 rfl (by kernel_rfl) (fun _ => Nat.le_of_ble_eq_true rfl) tkC_H [] fun x F hc hr => Eq.mpr (by kernel_rfl) (tkC_vc x F hc hr)
def fvD (k : KD) : Value := .func (.func 30) #[] ⟨capD k⟩
structure TKD where
  t : Tmr
  k : KD
  gb : Nat
  ob : Nat
  r : Row
  ns : List Int
def tkDC : Con where
  X := TKD
  Y := Row
  args x := [.agg ⟨x.t.enc⟩, .pointer (some ⟨x.gb, 0, none⟩), .pointer (some ⟨x.ob, 0, none⟩)]
  pre x := [outA x.ob x.r, x.r.A]
  cond x := isNs x.ns x.r ∧ x.ns.length ≤ 1000
  rdc x F := Look F ⟨x.gb, 0, none⟩ (fvD x.k) ∧ rkD x.k F
  rel x r := isNs (x.ns ++ nts (gD x.k) [x.t]) r
  val x _ := .returned (.bool (gD x.k x.t))
  post x r := [outA x.ob r, r.A]
  rmono x A B h hk := ⟨hk.1.sub h, rkD_mono x.k A B h hk.2⟩
def tkDOv (x : TKD) (_F : Atom) : List (Nat × Nat × OH) := [(1, 0, .q [.ex 2 (.is (fvD x.k))]), (1, 2, .c goDC [] []), (2, 4, .o (apC 3 1 8) [1] [1])]
noncomputable def tkD_H (x : Con.X tkDC) (F : Atom) : Hints where
  op := hk ((tkDOv x F) ++ [(0, 0, OH.n (1000 : Nat)),   (1, 1, OH.q [LH.atj (1000 : Nat), LH.atj (1000 : Nat), LH.atj (1000 : Nat), LH.atj (1000 : Nat)]),   (2, 0, OH.q [LH.atj (0 : Nat)]),   (2, 2, OH.q [LH.atj (1000 : Nat)]),   (2, 3, OH.n (3030 : Nat)),   (2, 5, OH.w [LH.atj (0 : Nat)])])
  inv := (fun _ _ _ => none) x F
  cut := (fun _ _ _ => none) x F
  ord := (fun _ => [])
set_option maxRecDepth 100000 in
theorem tkD_vc (x : TKD) (F : Atom) (hc : Con.cond tkDC x) (hr : Con.rdc tkDC x F) :
  ∀ (b : Nat),
    Look F { block := x.gb, off := (0 : Nat) } (Value.func (Fn.func (30 : Nat)) { toList := [] } { toList := [Value.pointer (some { block := x.k.c1, off := (0 : Nat) })] }) ∧
      Same { block := b, off := (0 : Nat) } b ∧
        Same { block := b, off := (1 : Nat) } b ∧
          Same { block := b, off := (2 : Nat) } b ∧
            Same { block := b, off := (3 : Nat) } b ∧
              FnOk Try.prog (30 : Nat) goDC ∧
                true = true ∧
                  ∃ (x_1 : GXD),
                    [Value.agg { toList := [Value.int IntKind.i64 x.t.ow, Value.string x.t.id, Value.int IntKind.i64 x.t.due, Value.int IntKind.i64 x.t.n] }, Value.pointer (some { block := x.k.c1, off := (0 : Nat) })] = [Value.agg { toList := [Value.int IntKind.i64 x_1.t.ow, Value.string x_1.t.id, Value.int IntKind.i64 x_1.t.due, Value.int IntKind.i64 x_1.t.n] }, Value.pointer (some { block := x_1.k.c1, off := (0 : Nat) })] ∧
                      ([] : List Atom) = [] ∧
                        True ∧
                          rkD x_1.k (Atom.pred (rest [((0 : Nat), Atom.cells x.ob [Value.slice x.r.a x.r.n x.r.cap] (32 : Nat)), ((1 : Nat), x.r.A), ((2 : Nat), F), ((1000 : Nat), Atom.cells b [Value.int IntKind.i64 x.t.ow, Value.string x.t.id, Value.int IntKind.i64 x.t.due, Value.int IntKind.i64 x.t.n] (44 : Nat))] [])) ∧
                            ∀ (y : Unit),
                              True →
                                Br (gD x_1.k x_1.t)
                                  (Same { block := x.ob, off := (0 : Nat) } x.ob ∧
                                    Same { block := b, off := (3 : Nat) } b ∧
                                      ∀ (b_1 : Nat),
                                        OpOk Try.prog (opIn Try.f33 (2 : Nat) (4 : Nat)) (apC (3 : TypeId) (1 : Nat) (8 : Nat)) ∧
                                          true = true ∧
                                            ∃ (x_2 : ApX),
                                              [Value.slice x.r.a x.r.n x.r.cap, Value.slice (some { block := b_1, off := (0 : Nat) }) (1 : Nat) (1 : Nat)] = [Value.slice x_2.r.a x_2.r.n x_2.r.cap, Value.slice x_2.a x_2.m x_2.c] ∧
                                                [x.r.A] = [x_2.r.A] ∧
                                                  (IsRow (3 : Nat) (1 : Nat) x_2.cs x_2.r ∧ x_2.ys.length = x_2.m * (1 : Nat) ∧ (∀ (u : Value), u ∈ x_2.ys → u.oneCell' = true) ∧ (x_2.r.n + x_2.m) * (8 : Nat) ≤ (140737488355328 : Nat) ∧ x_2.r.n + x_2.m ≤ (9223372036854775807 : Nat) ∧ (x_2.a = none → x_2.m = (0 : Nat) ∧ x_2.c = (0 : Nat))) ∧
                                                    (∀ (a : Addr), x_2.a = some a → Seg (Atom.pred (rest [((0 : Nat), Atom.cells x.ob [Value.slice x.r.a x.r.n x.r.cap] (32 : Nat)), ((1 : Nat), x.r.A), ((2 : Nat), F), ((1000 : Nat), Atom.cells b [Value.int IntKind.i64 x.t.ow, Value.string x.t.id, Value.int IntKind.i64 x.t.due, Value.int IntKind.i64 x.t.n] (44 : Nat)), ((3030 : Nat), Atom.cells b_1 [Value.int IntKind.i64 x.t.n] (3 : Nat))] [(1 : Nat)])) a x_2.ys) ∧
                                                      ∀ (y : Row), IsRow (3 : Nat) (1 : Nat) (x_2.cs ++ x_2.ys) y ∧ y.n = x_2.r.n + x_2.m ∧ (x_2.m = (0 : Nat) → y = x_2.r) → Same { block := x.ob, off := (0 : Nat) } x.ob ∧ Done tkDC x F (Ending.returned (Value.bool true)) [((0 : Nat), Atom.cells x.ob [Value.slice y.a y.n y.cap] (32 : Nat)), ((1 : Nat), y.A), ((2 : Nat), F), ((1000 : Nat), Atom.cells b [Value.int IntKind.i64 x.t.ow, Value.string x.t.id, Value.int IntKind.i64 x.t.due, Value.int IntKind.i64 x.t.n] (44 : Nat)), ((3030 : Nat), Atom.cells b_1 [Value.int IntKind.i64 x.t.n] (3 : Nat))])
                                  (Done tkDC x F (Ending.returned (Value.bool false)) [((0 : Nat), Atom.cells x.ob [Value.slice x.r.a x.r.n x.r.cap] (32 : Nat)), ((1 : Nat), x.r.A), ((2 : Nat), F), ((1000 : Nat), Atom.cells b [Value.int IntKind.i64 x.t.ow, Value.string x.t.id, Value.int IntKind.i64 x.t.due, Value.int IntKind.i64 x.t.n] (44 : Nat))]) := by
  obtain ⟨t, k, gb, ob, r, ns⟩ := x
  obtain ⟨⟨hrow, hn⟩, hlen⟩ := hc
  obtain ⟨hr1, hr2⟩ := hr
  dsimp only at hrow hn hlen hr1 hr2 ⊢
  simp only [same_refl, true_and, eq_self]
  refine fun b => ⟨hr1, goD_ok, ⟨t, k⟩, rfl, rkD_mono k _ _ (sub_rest 2 (by simp) rfl) hr2, fun _ _ => br_intro (fun hg => ?_) (fun hg => ?_)⟩
  · dsimp only at hg
    refine fun b1 => ⟨append_ok (P := Try.prog) 1 8 rfl rfl rfl rfl rfl rfl rfl (by decide), ⟨r, ints ns, some ⟨b1, 0, none⟩, 1, 1, [.int .i64 t.n]⟩, rfl, rfl, ⟨hrow, rfl, ?_, by dsimp only; omega, by dsimp only; omega, by simp⟩, ?_, ?_⟩
    · intro u hu
      simp only [List.mem_cons, List.not_mem_nil, or_false] at hu
      rw [hu]; rfl
    · intro a ha
      cases ha
      exact Seg.rest (j := 3030) (by simp) (Seg.cells (by simp))
    · rintro y ⟨hy, hyn, -⟩
      dsimp only at hy hyn
      refine ⟨y, ?_, by simp only [tkDC, hg], Ent.pick [0, 1, 2] rfl rfl⟩
      have e : nts (gD k) [t] = [t.n] := by simp [nts, hg]
      simp only [tkDC, e, isNs]
      refine ⟨?_, by simp; omega⟩
      have : ints (ns ++ [t.n]) = ints ns ++ [.int .i64 t.n] := by simp [ints]
      rw [this]; exact hy
  · dsimp only at hg
    refine ⟨r, ?_, by simp only [tkDC, hg], Ent.pick [0, 1, 2] rfl rfl⟩
    have e : nts (gD k) [t] = [] := by simp [nts, hg]
    simp only [tkDC, e, List.append_nil]
    exact ⟨hrow, hn⟩
set_option maxRecDepth 100000 in
theorem tkD_ok : FnOk Try.prog 33 tkDC :=
  fnOk (N := 13) (by kernel_rfl) Try.func33 rfl (by kernel_rfl) (fun _ => Nat.le_of_ble_eq_true rfl) tkD_H [] fun x F hc hr => Eq.mpr (by kernel_rfl) (tkD_vc x F hc hr)
end Go.Proofs.Ytmknmibmnidnoaa
