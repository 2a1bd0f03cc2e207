/- A transition's goals: the walk. -/
import Derived.Test.YtkmdgnbfojkcnaaChoF
set_option linter.all false
namespace Go.Proofs.Ytkmdgnbfojkcnaa
open Go
set_option maxHeartbeats 1000000
def tgts (c : ChD) (t : Int) : List Int := ((c.trs[t.toNat]?).map (·.targets)).getD []
def ini (c : ChD) (i : Nat) : Int := ((c.sts[i]?).map (·.init)).getD (-1)
def gl1 (c : ChD) (mem : List (List Int)) (s : Int) : List Int := bif !hisB c s then [s] else bif decide (((remV c mem s).length : Int) > 0) then remV c mem s else tgts c (ini c s.toNat)
def goalsF (c : ChD) (mem : List (List Int)) (l : List Int) : List Int := l.foldl (fun o s => addV o (gl1 c mem s)) []
def goalsV (c : ChD) (mem : List (List Int)) (t : Int) : List Int := bif isT c t then goalsF c mem (tgts c t) else []
theorem goalsF_take {c : ChD} {mem : List (List Int)} {l : List Int} {j : Nat} {s : Int} (h : l[j]? = some s) : goalsF c mem (l.take (j + 1)) = addV (goalsF c mem (l.take j)) (gl1 c mem s) := by
  rw [List.take_add_one, h]
  unfold goalsF
  rw [List.foldl_append]; rfl
theorem tgts_ok {c : ChD} (h : newB c = true) (t : Int) : ∀ u ∈ tgts c t, isS c u = true := by
  unfold tgts
  cases ht : c.trs[t.toNat]? with
  | none => intro u hu; simp at hu
  | some x => intro u hu; exact right_tgt h _ _ ht u (by simpa using hu)
theorem isS_rng {c : ChD} {u : Int} (h : isS c u = true) : 0 ≤ u ∧ u < nS c := by
  obtain ⟨i, rfl, hi⟩ := isS_spec h
  omega
theorem remV_ok (c : ChD) (mem : List (List Int)) (s : Int) : ∀ u ∈ remV c mem s, 0 ≤ u ∧ u < nS c := by
  intro u hu
  unfold remV rest0 at hu
  have h2 := (List.mem_filter.1 hu).2
  unfold remG at h2
  simp at h2
  omega
theorem gl1_ok {c : ChD} (h : newB c = true) (mem : List (List Int)) {s : Int} (hs : isS c s = true) : ∀ u ∈ gl1 c mem s, 0 ≤ u ∧ u < nS c := by
  unfold gl1
  cases hisB c s with
  | false => intro u hu; simp at hu; rw [hu]; exact isS_rng hs
  | true =>
    simp only [Bool.not_true, cond_false]
    cases decide (((remV c mem s).length : Int) > 0) with
    | true => exact remV_ok c mem s
    | false => intro u hu; exact isS_rng (tgts_ok h _ u hu)
theorem goalsF_good {c : ChD} (h : newB c = true) (mem : List (List Int)) : ∀ (l : List Int) (o : List Int), Good (nS c) o → (∀ s ∈ l, isS c s = true) → Good (nS c) (l.foldl (fun o s => addV o (gl1 c mem s)) o)
  | [], _, ho, _ => ho
  | s :: l, _, ho, hl => goalsF_good h mem l _ (Good.addV _ ho (gl1_ok h mem (hl s (by simp)))) fun u hu => hl u (by simp [hu])
theorem lat_x {F : Atom} {b : Nat} {c : ChD} (h : LatIn F b c) : ∃ w : ChS, (∀ j u, (chS c w)[j]? = some u → Look F ⟨b, j, none⟩ u) ∧ w.vs.n = nS c ∧ w.vt.n = c.trs.length ∧ (∀ i, i < nS c → ∃ b0 o0, w.vs.a = some ⟨b0, o0, none⟩ ∧ Look F ⟨b0, o0 + i * 13 + 4, none⟩ (.int .i64 (ini c i))) ∧
    ∀ i, i < c.trs.length → ∃ b0 o0 ka kc, w.vt.a = some ⟨b0, o0, none⟩ ∧ Look F ⟨b0, o0 + i * 6 + 3, none⟩ (.slice ka (tgts c i).length kc) ∧ IntsIn F (.slice ka (tgts c i).length kc) (tgts c i) := by
  obtain ⟨w, hw, hch⟩ := h.chs
  obtain ⟨⟨va, vn, vcap⟩, ⟨ta, tn, tc⟩, wb, wd, wi⟩ := w
  have h1 := hch.sts
  have h2 := hch.trs
  dsimp only [ChS.v] at h1 h2
  obtain ⟨n1, -, -⟩ := h1.num
  obtain ⟨m1, -, -⟩ := h2.num
  refine ⟨⟨⟨va, vn, vcap⟩, ⟨ta, tn, tc⟩, wb, wd, wi⟩, hw, n1, m1, fun i hi => ?_, fun i hi => ?_⟩
  · obtain ⟨s, hs⟩ := get_st hi
    obtain ⟨b0, o0, r, rfl, ⟨vk, ve, vx, vt, vd, vi, vp, rfl, -⟩, hL⟩ := h1.at' hs
    have e : ini c i = s.init := by unfold ini; rw [hs]; rfl
    exact ⟨b0, o0, rfl, by rw [e]; exact hL 4 _ rfl⟩
  · obtain ⟨t, ht⟩ : ∃ t, c.trs[i]? = some t := ⟨_, List.getElem?_eq_getElem hi⟩
    obtain ⟨b0, o0, r, rfl, ⟨ve, vt, rfl, p1, p2⟩, hL⟩ := h2.at' ht
    have e : tgts c i = t.targets := by unfold tgts; rw [Int.toNat_natCast, ht]; rfl
    obtain ⟨ka, kc, rfl, -⟩ := SlIn.open p2
    exact ⟨b0, o0, ka, kc, rfl, by rw [e]; exact hL 3 _ rfl, by rw [e]; exact p2⟩
def gosC : Con where
  X := RmX
  Y := Row
  args x := [.pointer (some ⟨x.b, 0, none⟩), .slice x.m.a x.m.n x.m.cap, .int .i64 x.h]
  pre _ := []
  cond x := newB x.c = true
  rdc x F := LatIn F x.b x.c ∧ MemIn F (.slice x.m.a x.m.n x.m.cap) x.mem
  rel x y := IsRow 3 1 (ints (goalsV x.c x.mem x.h)) y
  val _ y := .returned (.slice y.a y.n y.cap)
  post _ y := [y.A]
  rmono _ _ _ h hk := ⟨hk.1.sub h, hk.2.sub h⟩
structure GoI where
  j : Nat
  bo : Nat
  r : Row
  ka : Option Addr
  kc : Nat
def fvA (bo : Nat) : Value := .func (.func 111) #[] #[.pointer (some ⟨bo, 0, none⟩)]
def gosInv (x : RmX) (F : Atom) : Nat → Option Inv := fun
  | 0 => some { X := GoI, P := fun i => i.j ≤ (tgts x.c x.h).length ∧ IntsIn F (.slice i.ka (tgts x.c x.h).length i.kc) (tgts x.c x.h) ∧ IsRow 3 1 (ints (goalsF x.c x.mem ((tgts x.c x.h).take i.j))) i.r, mu := fun i => (tgts x.c x.h).length - i.j, lv := fun i => [(0, .pointer (some ⟨x.b, 0, none⟩)), (1, .slice x.m.a x.m.n x.m.cap), (7, .pointer (some ⟨i.bo, 0, none⟩)), (8, fvA i.bo), (23, .slice i.ka (tgts x.c x.h).length i.kc), (24, .int .i64 (tgts x.c x.h).length), (25, .int .i64 i.j)], st := fun i => [.cells i.bo [.slice i.r.a i.r.n i.r.cap] 29, i.r.A, F] }
  | _ => none
def gosOv (_x : RmX) (_F : Atom) : List (Nat × Nat × OH) := [(1, 0, .n 2000), (2, 2, .c knoC [] []), (5, 1, .c chtC [] []), (5, 4, .qo (ixQ 6)), (5, 6, .q [.ex 0 .slice]), (7, 0, .qo (ixQ 1)), (7, 1, .q [.ex 2 (.int .i64)]), (8, 2, .c hisC [] []), (9, 2, .n 10020), (9, 3, .c addC [0, 1] [0, 1]), (10, 3, .c rmC [] [11030]), (12, 2, .c addC [0, 1] [0, 1]), (13, 2, .c chtC [] []), (13, 5, .c chtC [] []), (13, 8, .qo (ixQ 13)), (13, 10, .q [.ex 2 (.int .i64)]), (13, 11, .qo (ixQ 6)), (13, 13, .q [.ex 2 .slice]), (13, 14, .c addC [0, 1] [0, 1]), (15, 0, .q [.atj 0])]
noncomputable def gos_H (x : Con.X gosC) (F : Atom) : Hints where
  op := hk ((gosOv x F) ++ [])
  inv := gosInv x F
  cut := (fun _ _ _ => none) x F
  ord := (fun _ => [])
open Go.Value (int slice string bool pointer agg tuple func) in
open Go.IntKind (i64) in
set_option maxRecDepth 100000 in
theorem gos_vc (x : RmX) (F : Atom) (hc : Con.cond gosC x) (hr : Con.rdc gosC x F) :
  ∀ (b : Nat),
 FnOk Try.prog 110 knoC ∧
 true = true ∧
 ∃ (x_1 : LqX),
 [pointer (some ⟨x.b, 0, none⟩), int i64 x.h] = [pointer (some ⟨x_1.b, 0, none⟩), int i64 x_1.a] ∧
 ([] : List Atom) = [] ∧
 True ∧
 LatIn (Atom.pred (rest [(0, F), (2000, Atom.cells b [slice none 0 0] 29)] [])) x_1.b x_1.c ∧
 ∀ (y : Unit),
 True →
 Br (!isT x_1.c x_1.a) (Done gosC x F (Ending.returned (slice none 0 0)) [(0, F), (2000, Atom.cells b [slice none 0 0] 29)])
 (FnOk Try.prog 17 chtC ∧
 true = true ∧
 ∃ (x_2 : ChtX),
 [pointer (some ⟨x.b, 0, none⟩)] = [pointer (some ⟨x_2.b, 0, none⟩)] ∧
 ([] : List Atom) = [] ∧
 True ∧
 (∀ (j : Nat) (u : Value), (chS x_2.c x_2.w)[j]? = some u → Look (Atom.pred (rest [(0, F), (2000, Atom.cells b [slice none 0 0] 29)] [])) ⟨x_2.b, j, none⟩ u) ∧
 ∀ (y : Unit),
 True →
 QOpOk Try.prog (opIn Try.f88 5 4) (ixQ 6) ∧
 ∃ (x_3 : IxQX),
 [slice x_2.w.vt.a x_2.w.vt.n x_2.w.vt.cap, int i64 x.h] = [slice (some ⟨x_3.b, x_3.o, none⟩) x_3.len x_3.cap, int i64 x_3.n] ∧
 ((0 : Int) ≤ x_3.n ∧ x_3.n < (↑x_3.len : Int)) ∧
 ∃ (a : Option Addr),
 ∃ (l : Nat),
 ∃ (c : Nat),
 Look F ⟨x_3.b, x_3.o + x_3.n.toNat * 6 + 3, none⟩ (slice a l c) ∧
 (∃ (x_4 : GoI),
 (x_4.j ≤ (tgts x.c x.h).length ∧ IntsIn F (slice x_4.ka (tgts x.c x.h).length x_4.kc) (tgts x.c x.h) ∧ IsRow 3 1 (ints (goalsF x.c x.mem (List.take x_4.j (tgts x.c x.h)))) x_4.r) ∧
 (pointer (some ⟨x.b, 0, none⟩) = pointer (some ⟨x.b, 0, none⟩) ∧ slice x.m.a x.m.n x.m.cap = slice x.m.a x.m.n x.m.cap ∧ pointer (some ⟨b, 0, none⟩) = pointer (some ⟨x_4.bo, 0, none⟩) ∧ func (Fn.func 111) { toList := [] } { toList := [pointer (some ⟨b, 0, none⟩)] } = func (Fn.func 111) { toList := [] } { toList := [pointer (some ⟨x_4.bo, 0, none⟩)] } ∧ slice a l c = slice x_4.ka (tgts x.c x.h).length x_4.kc ∧ int i64 (↑l : Int) = int i64 (↑(tgts x.c x.h).length : Int) ∧ int i64 (0 : Int) = int i64 (↑x_4.j : Int) ∧ True) ∧
 Ent [(0, F), (2000, Atom.cells b [slice none 0 0] 29)] [(0, Atom.cells x_4.bo [slice x_4.r.a x_4.r.n x_4.r.cap] 29), (1, x_4.r.A), (2, F)]) ∧
 ∀ (x_4 : GoI) (js : Nat → Value),
 x_4.j ≤ (tgts x.c x.h).length ∧ IntsIn F (slice x_4.ka (tgts x.c x.h).length x_4.kc) (tgts x.c x.h) ∧ IsRow 3 1 (ints (goalsF x.c x.mem (List.take x_4.j (tgts x.c x.h)))) x_4.r →
 Br (decide ((↑x_4.j : Int) < (↑(tgts x.c x.h).length : Int)))
 (QOpOk Try.prog (opIn Try.f88 7 0) (ixQ 1) ∧
 ∃ (x_5 : IxQX),
 [slice x_4.ka (tgts x.c x.h).length x_4.kc, int i64 (↑x_4.j : Int)] = [slice (some ⟨x_5.b, x_5.o, none⟩) x_5.len x_5.cap, int i64 x_5.n] ∧
 ((0 : Int) ≤ x_5.n ∧ x_5.n < (↑x_5.len : Int)) ∧
 ∃ (n : Int),
 Look F ⟨x_5.b, x_5.o + x_5.n.toNat * 1, none⟩ (int i64 n) ∧
 FnOk Try.prog 109 hisC ∧
 true = true ∧
 ∃ (x_6 : LqX),
 [pointer (some ⟨x.b, 0, none⟩), int i64 n] = [pointer (some ⟨x_6.b, 0, none⟩), int i64 x_6.a] ∧
 ([] : List Atom) = [] ∧
 isS x_6.c x_6.a = true ∧
 LatIn (Atom.pred (rest [(0, Atom.cells x_4.bo [slice x_4.r.a x_4.r.n x_4.r.cap] 29), (1, x_4.r.A), (2, F)] [])) x_6.b x_6.c ∧
 ∀ (y : Unit),
 True →
 Br (!hisB x_6.c x_6.a)
 (∀ (b : Nat),
 FnOk Try.prog 111 addC ∧
 true = true ∧
 ∃ (x_7 : AddX),
 [slice (some ⟨b, 0, none⟩) 1 1, pointer (some ⟨x_4.bo, 0, none⟩)] = [slice x_7.a x_7.n x_7.cap, pointer (some ⟨x_7.bo, 0, none⟩)] ∧
 [Atom.cells x_4.bo [slice x_4.r.a x_4.r.n x_4.r.cap] 29, x_4.r.A] = [Atom.cells x_7.bo [slice x_7.r.a x_7.r.n x_7.r.cap] 29, x_7.r.A] ∧
 (IsRow 3 1 (ints x_7.out) x_7.r ∧ IsSrc 1 (ints x_7.xs) x_7.a x_7.n ∧ x_7.n * 8 ≤ 140737488351232 ∧ x_7.N * 8 ≤ 140737488351232 ∧ Good x_7.N x_7.out ∧ ∀ (u : Int), u ∈ x_7.xs → (0 : Int) ≤ u ∧ u < (↑x_7.N : Int)) ∧
 Srcd (Atom.pred (rest [(0, Atom.cells x_4.bo [slice x_4.r.a x_4.r.n x_4.r.cap] 29), (1, x_4.r.A), (2, F), (10020, Atom.cells b [int i64 n] 3)] [0, 1])) x_7.a (ints x_7.xs) ∧
 ∀ (y : Row),
 IsRow 3 1 (ints (addV x_7.out x_7.xs)) y →
 ((-9223372036854775808 : Int) ≤ (↑x_4.j : Int) + (1 : Int) ∧ (↑x_4.j : Int) + (1 : Int) ≤ (9223372036854775807 : Int)) ∧
 ∃ (y_1 : GoI),
 (y_1.j ≤ (tgts x.c x.h).length ∧ IntsIn F (slice y_1.ka (tgts x.c x.h).length y_1.kc) (tgts x.c x.h) ∧ IsRow 3 1 (ints (goalsF x.c x.mem (List.take y_1.j (tgts x.c x.h)))) y_1.r) ∧
 (pointer (some ⟨x.b, 0, none⟩) = pointer (some ⟨x.b, 0, none⟩) ∧ slice x.m.a x.m.n x.m.cap = slice x.m.a x.m.n x.m.cap ∧ pointer (some ⟨x_4.bo, 0, none⟩) = pointer (some ⟨y_1.bo, 0, none⟩) ∧ func (Fn.func 111) { toList := [] } { toList := [pointer (some ⟨x_4.bo, 0, none⟩)] } = func (Fn.func 111) { toList := [] } { toList := [pointer (some ⟨y_1.bo, 0, none⟩)] } ∧ slice x_4.ka (tgts x.c x.h).length x_4.kc = slice y_1.ka (tgts x.c x.h).length y_1.kc ∧ int i64 (↑(tgts x.c x.h).length : Int) = int i64 (↑(tgts x.c x.h).length : Int) ∧ int i64 ((↑x_4.j : Int) + (1 : Int)) = int i64 (↑y_1.j : Int) ∧ True) ∧
 Ent [(0, Atom.cells x_7.bo [slice y.a y.n y.cap] 29), (1, y.A), (2, F), (10020, Atom.cells b [int i64 n] 3)] [(0, Atom.cells y_1.bo [slice y_1.r.a y_1.r.n y_1.r.cap] 29), (1, y_1.r.A), (2, F)] ∧ (tgts x.c x.h).length - y_1.j < (tgts x.c x.h).length - x_4.j)
 (FnOk Try.prog 112 rmC ∧
 true = true ∧
 ∃ (x_7 : RmX),
 [pointer (some ⟨x.b, 0, none⟩), slice x.m.a x.m.n x.m.cap, int i64 n] = [pointer (some ⟨x_7.b, 0, none⟩), slice x_7.m.a x_7.m.n x_7.m.cap, int i64 x_7.h] ∧
 ([] : List Atom) = [] ∧
 isS x_7.c x_7.h = true ∧
 (LatIn (Atom.pred (rest [(0, Atom.cells x_4.bo [slice x_4.r.a x_4.r.n x_4.r.cap] 29), (1, x_4.r.A), (2, F)] [])) x_7.b x_7.c ∧ MemIn (Atom.pred (rest [(0, Atom.cells x_4.bo [slice x_4.r.a x_4.r.n x_4.r.cap] 29), (1, x_4.r.A), (2, F)] [])) (slice x_7.m.a x_7.m.n x_7.m.cap) x_7.mem) ∧
 ∀ (y : Row),
 IsRow 3 1 (ints (remV x_7.c x_7.mem x_7.h)) y ∧ y.n * 8 ≤ 140737488351232 →
 Br (decide ((↑y.n : Int) > (0 : Int)))
 (FnOk Try.prog 111 addC ∧
 true = true ∧
 ∃ (x_8 : AddX),
 [slice y.a y.n y.cap, pointer (some ⟨x_4.bo, 0, none⟩)] = [slice x_8.a x_8.n x_8.cap, pointer (some ⟨x_8.bo, 0, none⟩)] ∧
 [Atom.cells x_4.bo [slice x_4.r.a x_4.r.n x_4.r.cap] 29, x_4.r.A] = [Atom.cells x_8.bo [slice x_8.r.a x_8.r.n x_8.r.cap] 29, x_8.r.A] ∧
 (IsRow 3 1 (ints x_8.out) x_8.r ∧ IsSrc 1 (ints x_8.xs) x_8.a x_8.n ∧ x_8.n * 8 ≤ 140737488351232 ∧ x_8.N * 8 ≤ 140737488351232 ∧ Good x_8.N x_8.out ∧ ∀ (u : Int), u ∈ x_8.xs → (0 : Int) ≤ u ∧ u < (↑x_8.N : Int)) ∧
 Srcd (Atom.pred (rest [(0, Atom.cells x_4.bo [slice x_4.r.a x_4.r.n x_4.r.cap] 29), (1, x_4.r.A), (2, F), (11030, y.A)] [0, 1])) x_8.a (ints x_8.xs) ∧
 ∀ (y_1 : Row),
 IsRow 3 1 (ints (addV x_8.out x_8.xs)) y_1 →
 ((-9223372036854775808 : Int) ≤ (↑x_4.j : Int) + (1 : Int) ∧ (↑x_4.j : Int) + (1 : Int) ≤ (9223372036854775807 : Int)) ∧
 ∃ (y_2 : GoI),
 (y_2.j ≤ (tgts x.c x.h).length ∧ IntsIn F (slice y_2.ka (tgts x.c x.h).length y_2.kc) (tgts x.c x.h) ∧ IsRow 3 1 (ints (goalsF x.c x.mem (List.take y_2.j (tgts x.c x.h)))) y_2.r) ∧
 (pointer (some ⟨x.b, 0, none⟩) = pointer (some ⟨x.b, 0, none⟩) ∧
 slice x.m.a x.m.n x.m.cap = slice x.m.a x.m.n x.m.cap ∧ pointer (some ⟨x_4.bo, 0, none⟩) = pointer (some ⟨y_2.bo, 0, none⟩) ∧ func (Fn.func 111) { toList := [] } { toList := [pointer (some ⟨x_4.bo, 0, none⟩)] } = func (Fn.func 111) { toList := [] } { toList := [pointer (some ⟨y_2.bo, 0, none⟩)] } ∧ slice x_4.ka (tgts x.c x.h).length x_4.kc = slice y_2.ka (tgts x.c x.h).length y_2.kc ∧ int i64 (↑(tgts x.c x.h).length : Int) = int i64 (↑(tgts x.c x.h).length : Int) ∧ int i64 ((↑x_4.j : Int) + (1 : Int)) = int i64 (↑y_2.j : Int) ∧ True) ∧
 Ent [(0, Atom.cells x_8.bo [slice y_1.a y_1.n y_1.cap] 29), (1, y_1.A), (2, F), (11030, y.A)] [(0, Atom.cells y_2.bo [slice y_2.r.a y_2.r.n y_2.r.cap] 29), (1, y_2.r.A), (2, F)] ∧ (tgts x.c x.h).length - y_2.j < (tgts x.c x.h).length - x_4.j)
 (FnOk Try.prog 17 chtC ∧
 true = true ∧
 ∃ (x_8 : ChtX),
 [pointer (some ⟨x.b, 0, none⟩)] = [pointer (some ⟨x_8.b, 0, none⟩)] ∧
 ([] : List Atom) = [] ∧
 True ∧
 (∀ (j : Nat) (u : Value), (chS x_8.c x_8.w)[j]? = some u → Look (Atom.pred (rest [(0, Atom.cells x_4.bo [slice x_4.r.a x_4.r.n x_4.r.cap] 29), (1, x_4.r.A), (2, F), (11030, y.A)] [])) ⟨x_8.b, j, none⟩ u) ∧
 ∀ (y_1 : Unit),
 True →
 FnOk Try.prog 17 chtC ∧
 true = true ∧
 ∃ (x_9 : ChtX),
 [pointer (some ⟨x.b, 0, none⟩)] = [pointer (some ⟨x_9.b, 0, none⟩)] ∧
 ([] : List Atom) = [] ∧
 True ∧
 (∀ (j : Nat) (u : Value), (chS x_9.c x_9.w)[j]? = some u → Look (Atom.pred (rest [(0, Atom.cells x_4.bo [slice x_4.r.a x_4.r.n x_4.r.cap] 29), (1, x_4.r.A), (2, F), (11030, y.A)] [])) ⟨x_9.b, j, none⟩ u) ∧
 ∀ (y_2 : Unit),
 True →
 QOpOk Try.prog (opIn Try.f88 13 8) (ixQ 13) ∧
 ∃ (x_10 : IxQX),
 [slice x_9.w.vs.a x_9.w.vs.n x_9.w.vs.cap, int i64 n] = [slice (some ⟨x_10.b, x_10.o, none⟩) x_10.len x_10.cap, int i64 x_10.n] ∧
 ((0 : Int) ≤ x_10.n ∧ x_10.n < (↑x_10.len : Int)) ∧
 ∃ (n : Int),
 Look F ⟨x_10.b, x_10.o + x_10.n.toNat * 13 + 4, none⟩ (int i64 n) ∧
 QOpOk Try.prog (opIn Try.f88 13 11) (ixQ 6) ∧
 ∃ (x_11 : IxQX),
 [slice x_8.w.vt.a x_8.w.vt.n x_8.w.vt.cap, int i64 n] = [slice (some ⟨x_11.b, x_11.o, none⟩) x_11.len x_11.cap, int i64 x_11.n] ∧
 ((0 : Int) ≤ x_11.n ∧ x_11.n < (↑x_11.len : Int)) ∧
 ∃ (a : Option Addr),
 ∃ (l : Nat),
 ∃ (c : Nat),
 Look F ⟨x_11.b, x_11.o + x_11.n.toNat * 6 + 3, none⟩ (slice a l c) ∧
 FnOk Try.prog 111 addC ∧
 true = true ∧
 ∃ (x_12 : AddX),
 [slice a l c, pointer (some ⟨x_4.bo, 0, none⟩)] = [slice x_12.a x_12.n x_12.cap, pointer (some ⟨x_12.bo, 0, none⟩)] ∧
 [Atom.cells x_4.bo [slice x_4.r.a x_4.r.n x_4.r.cap] 29, x_4.r.A] = [Atom.cells x_12.bo [slice x_12.r.a x_12.r.n x_12.r.cap] 29, x_12.r.A] ∧
 (IsRow 3 1 (ints x_12.out) x_12.r ∧ IsSrc 1 (ints x_12.xs) x_12.a x_12.n ∧ x_12.n * 8 ≤ 140737488351232 ∧ x_12.N * 8 ≤ 140737488351232 ∧ Good x_12.N x_12.out ∧ ∀ (u : Int), u ∈ x_12.xs → (0 : Int) ≤ u ∧ u < (↑x_12.N : Int)) ∧
 Srcd (Atom.pred (rest [(0, Atom.cells x_4.bo [slice x_4.r.a x_4.r.n x_4.r.cap] 29), (1, x_4.r.A), (2, F), (11030, y.A)] [0, 1])) x_12.a (ints x_12.xs) ∧
 ∀ (y_3 : Row),
 IsRow 3 1 (ints (addV x_12.out x_12.xs)) y_3 →
 ((-9223372036854775808 : Int) ≤ (↑x_4.j : Int) + (1 : Int) ∧ (↑x_4.j : Int) + (1 : Int) ≤ (9223372036854775807 : Int)) ∧
 ∃ (y_4 : GoI),
 (y_4.j ≤ (tgts x.c x.h).length ∧ IntsIn F (slice y_4.ka (tgts x.c x.h).length y_4.kc) (tgts x.c x.h) ∧ IsRow 3 1 (ints (goalsF x.c x.mem (List.take y_4.j (tgts x.c x.h)))) y_4.r) ∧
 (pointer (some ⟨x.b, 0, none⟩) = pointer (some ⟨x.b, 0, none⟩) ∧
 slice x.m.a x.m.n x.m.cap = slice x.m.a x.m.n x.m.cap ∧ pointer (some ⟨x_4.bo, 0, none⟩) = pointer (some ⟨y_4.bo, 0, none⟩) ∧ func (Fn.func 111) { toList := [] } { toList := [pointer (some ⟨x_4.bo, 0, none⟩)] } = func (Fn.func 111) { toList := [] } { toList := [pointer (some ⟨y_4.bo, 0, none⟩)] } ∧ slice x_4.ka (tgts x.c x.h).length x_4.kc = slice y_4.ka (tgts x.c x.h).length y_4.kc ∧ int i64 (↑(tgts x.c x.h).length : Int) = int i64 (↑(tgts x.c x.h).length : Int) ∧ int i64 ((↑x_4.j : Int) + (1 : Int)) = int i64 (↑y_4.j : Int) ∧ True) ∧
 Ent [(0, Atom.cells x_12.bo [slice y_3.a y_3.n y_3.cap] 29), (1, y_3.A), (2, F), (11030, y.A)] [(0, Atom.cells y_4.bo [slice y_4.r.a y_4.r.n y_4.r.cap] 29), (1, y_4.r.A), (2, F)] ∧ (tgts x.c x.h).length - y_4.j < (tgts x.c x.h).length - x_4.j)))
 (Same ⟨x_4.bo, 0, none⟩ x_4.bo ∧ Done gosC x F (Ending.returned (slice x_4.r.a x_4.r.n x_4.r.cap)) [(0, Atom.cells x_4.bo [slice x_4.r.a x_4.r.n x_4.r.cap] 29), (1, x_4.r.A), (2, F)])) := by
  obtain ⟨b, c, ⟨ma, mn, mc⟩, mem, t⟩ := x
  obtain ⟨hr, hm⟩ := hr
  replace hr : LatIn F b c := hr
  have hnew : newB c = true := hc
  dsimp only at hm
  have hn128 := (newB_spec.1 hnew).1.n128
  obtain ⟨w, hw, e1, e2, hst, htr⟩ := lat_x hr
  intro bo
  refine ⟨kno_ok, rfl, ⟨b, c, t⟩, rfl, rfl, trivial, hr.sub (sub_rest 0 (by simp) rfl), fun _ _ => br_intro (fun h => ⟨nilRow, ?_, rfl, Ent.pick [77, 0] rfl rfl⟩) (fun h => ?_)⟩
  · have h' : isT c t = false := by simpa using h
    show IsRow 3 1 (ints (goalsV c mem t)) nilRow
    unfold goalsV
    rw [h']
    exact .nil rfl
  have hT : isT c t = true := by simpa using h
  obtain ⟨q, rfl, hq⟩ : ∃ q : Nat, t = q ∧ q < c.trs.length := by
    unfold isT at hT
    simp only [Bool.and_eq_true, decide_eq_true_eq] at hT
    exact ⟨t.toNat, by omega, by omega⟩
  obtain ⟨b0, o0, ka, kc, ea, hk, hI0⟩ := htr q hq
  have hgv : goalsV c mem q = goalsF c mem (tgts c q) := by unfold goalsV; rw [hT]; rfl
  refine ⟨cht_ok, rfl, ⟨b, c, w⟩, rfl, rfl, trivial, fun j u hj => Look.sub (A := F) (sub_rest 0 (by simp) rfl) (hw j u hj), fun _ _ => ⟨ixq_ok 6 rfl rfl rfl rfl, ⟨b0, o0, w.vt.n, w.vt.cap, q⟩, by dsimp only; rw [ea], by dsimp only; rw [e2]; omega, _, _, _, hk, ⟨⟨0, bo, nilRow, ka, kc⟩, ⟨Nat.zero_le _, hI0, .nil rfl⟩, ⟨rfl, rfl, rfl, rfl, rfl, rfl, rfl, trivial⟩, Ent.pick [2000, 77, 0] rfl rfl⟩, ?_⟩⟩
  clear hI0 hk ea b0 o0 ka kc bo h
  rintro ⟨j, bo, r, ka, kc⟩ js ⟨hj, hI, hrow⟩
  dsimp only at hj hI hrow ⊢
  obtain ⟨g1, g2, g3, g4, g5⟩ := hI.srcd
  have hall := tgts_ok hnew q
  have hgd : Good (nS c) (goalsF c mem ((tgts c q).take j)) := goalsF_good hnew mem _ [] ⟨List.nodup_nil, fun u hu => by simp at hu⟩ fun s hs => hall s (List.mem_of_mem_take hs)
  refine br_decide (fun hlt => ?_) (fun hge => ⟨⟨rfl, rfl⟩, r, ?_, rfl, Ent.pick [1, 2] rfl rfl⟩)
  · obtain ⟨s, hs⟩ : ∃ s, (tgts c q)[j]? = some s := ⟨_, List.getElem?_eq_getElem (by omega)⟩
    have hsS := hall s (List.mem_of_getElem? hs)
    obtain ⟨b2, o2, rfl⟩ := g1.some (by omega)
    have eo : o2 + (j : Int).toNat * 1 = o2 + j := by omega
    have hstep := goalsF_take (c := c) (mem := mem) hs
    have hgl := gl1_ok hnew mem hsS
    refine ⟨ixq_ok 1 rfl rfl rfl rfl, ⟨b2, o2, _, kc, j⟩, rfl, by dsimp only; omega, s, by dsimp only; rw [eo]; exact g2.look (ints_get hs), his_ok, rfl, ⟨b, c, s⟩, rfl, rfl, hsS, hr.sub (sub_rest 2 (by simp) rfl), fun _ _ => br_intro (fun hh => ?_) (fun hh => ?_)⟩
    · have eg : gl1 c mem s = [s] := by dsimp only at hh; unfold gl1; rw [hh]; rfl
      rw [eg] at hstep hgl
      intro b3
      refine ⟨add_ok, rfl, ⟨nS c, bo, r, _, some ⟨b3, 0, none⟩, 1, 1, [s]⟩, rfl, rfl, ⟨hrow, .blk b3 0 1 rfl, by dsimp only; omega, by dsimp only; omega, hgd, hgl⟩, lit_srcd 10020 (by simp) rfl, fun y' hy => ⟨⟨by omega, by omega⟩, ⟨j + 1, bo, y', _, kc⟩, ⟨by dsimp only; omega, hI, ?_⟩, ⟨rfl, rfl, rfl, rfl, rfl, rfl, rfl, trivial⟩, Ent.pick [0, 1, 2] rfl rfl, by dsimp only; omega⟩⟩
      dsimp only
      rw [hstep]; exact hy
    · have hh' : hisB c s = true := by dsimp only at hh; simpa using hh
      refine ⟨rm_ok, rfl, ⟨b, c, ⟨ma, mn, mc⟩, mem, s⟩, rfl, rfl, hsS, ⟨hr.sub (sub_rest 2 (by simp) rfl), hm.sub (sub_rest 2 (by simp) rfl)⟩, fun y hy => ?_⟩
      obtain ⟨hy1, hy2⟩ := hy
      dsimp only at hy1 hy2
      have hyn : y.n = (remV c mem s).length := by have := hy1.len; rw [ints_length] at this; omega
      refine br_decide (fun hp => ?_) (fun hp => ?_)
      · have eg : gl1 c mem s = remV c mem s := by unfold gl1; rw [hh', decide_eq_true (show ((remV c mem s).length : Int) > 0 by omega)]; rfl
        rw [eg] at hstep hgl
        refine ⟨add_ok, rfl, ⟨nS c, bo, r, _, y.a, y.n, y.cap, remV c mem s⟩, rfl, rfl, ⟨hrow, hy1.src, hy2, by dsimp only; omega, hgd, hgl⟩, Srcd.sub (A := y.A) (sub_rest 11030 (by simp) rfl) hy1.srcd, fun y' hy => ⟨⟨by omega, by omega⟩, ⟨j + 1, bo, y', _, kc⟩, ⟨by dsimp only; omega, hI, ?_⟩, ⟨rfl, rfl, rfl, rfl, rfl, rfl, rfl, trivial⟩, Ent.pick [0, 1, 2] rfl rfl, by dsimp only; omega⟩⟩
        dsimp only
        rw [hstep]; exact hy
      · have eg : gl1 c mem s = tgts c (ini c s.toNat) := by unfold gl1; rw [hh', decide_eq_false (show ¬ ((remV c mem s).length : Int) > 0 by omega)]; rfl
        rw [eg] at hstep hgl
        obtain ⟨i, rfl, hi⟩ := isS_spec hsS
        rw [Int.toNat_natCast] at hstep hgl
        obtain ⟨st, hst1⟩ := get_st hi
        have hkd : st.kind ≥ 4 := by
          unfold hisB at hh'
          rw [Int.toNat_natCast, kd_get hst1] at hh'
          exact of_decide_eq_true hh'
        obtain ⟨tt, hin0, htt⟩ := right_init hnew hst1 hkd
        have eini : ini c i = st.init := by unfold ini; rw [hst1]; rfl
        obtain ⟨p, hp2⟩ : ∃ p : Nat, ini c i = p := ⟨st.init.toNat, by rw [eini]; omega⟩
        have hpl : p < c.trs.length := by
          have e9 : p = st.init.toNat := by omega
          rw [e9]; exact (List.getElem?_eq_some_iff.1 htt).1
        rw [hp2] at hstep hgl
        obtain ⟨b5, o5, ea5, k5⟩ := hst i hi
        obtain ⟨b6, o6, ka6, kc6, ea6, k6, hI6⟩ := htr p hpl
        obtain ⟨m1, m2, m3, m4, m5⟩ := hI6.srcd
        rw [hp2] at k5
        refine ⟨cht_ok, rfl, ⟨b, c, w⟩, rfl, rfl, trivial, fun j u hj => Look.sub (A := F) (sub_rest 2 (by simp) rfl) (hw j u hj), fun _ _ => ⟨cht_ok, rfl, ⟨b, c, w⟩, rfl, rfl, trivial, fun j u hj => Look.sub (A := F) (sub_rest 2 (by simp) rfl) (hw j u hj), fun _ _ => ⟨ixq_ok 13 rfl rfl rfl rfl, ⟨b5, o5, w.vs.n, w.vs.cap, i⟩, by dsimp only; rw [ea5], by dsimp only; rw [e1]; omega, p, k5, ixq_ok 6 rfl rfl rfl rfl, ⟨b6, o6, w.vt.n, w.vt.cap, p⟩, by dsimp only; rw [ea6], by dsimp only; rw [e2]; omega, _, _, _, k6, add_ok, rfl, ⟨nS c, bo, r, _, ka6, _, kc6, tgts c p⟩, rfl, rfl, ⟨hrow, m1, m3, by dsimp only; omega, hgd, hgl⟩, Srcd.sub (A := F) (sub_rest 2 (by simp) rfl) m2, fun y' hy => ⟨⟨by omega, by omega⟩, ⟨j + 1, bo, y', _, kc⟩, ⟨by dsimp only; omega, hI, ?_⟩, ⟨rfl, rfl, rfl, rfl, rfl, rfl, rfl, trivial⟩, Ent.pick [0, 1, 2] rfl rfl, by dsimp only; omega⟩⟩⟩⟩
        dsimp only
        rw [hstep]; exact hy
  · show IsRow 3 1 (ints (goalsV c mem q)) r
    rw [hgv]
    have ej : j = (tgts c q).length := by omega
    rw [ej, List.take_of_length_le (Nat.le_refl _)] at hrow
    exact hrow
set_option maxRecDepth 100000 in
theorem gos_ok : FnOk Try.prog 88 gosC :=
  fnOk (N := 64) (by kernel_rfl) Try.func88 rfl (by kernel_rfl) (fun _ => Nat.le_of_ble_eq_true rfl) gos_H [] fun x F hc hr => Eq.mpr (by kernel_rfl) (gos_vc x F hc hr)
end Go.Proofs.Ytkmdgnbfojkcnaa
