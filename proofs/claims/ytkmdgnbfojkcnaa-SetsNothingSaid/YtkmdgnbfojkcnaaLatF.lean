/- A lattice's questions: Kids, Above, Common. -/
import Derived.Test.YtkmdgnbfojkcnaaLatD
set_option linter.all false
namespace Go.Proofs.Ytkmdgnbfojkcnaa
open Go
set_option maxHeartbeats 1000000
theorem IntsIn.srcd {F : Atom} {a : Option Addr} {n cap : Nat} {xs : List Int} (h : IntsIn F (.slice a n cap) xs) : IsSrc 1 (ints xs) a n ∧ Srcd F a (ints xs) ∧ n * 8 ≤ 140737488351232 ∧ (a = none → cap = 0) ∧ n = xs.length := by
  obtain ⟨a', n', cap', raw, e, h2, h3, h4, h5, h6, h7, h8, h9⟩ := h
  simp only [Value.slice.injEq] at e
  obtain ⟨rfl, rfl, rfl⟩ := e
  have hf : raw.flatten = ints xs := by
    clear h2 h3 h7 h8
    induction raw generalizing xs with
    | nil => cases xs with
      | nil => rfl
      | cons x l => exact h9.elim
    | cons r l ih => cases xs with
      | nil => exact h9.elim
      | cons x m =>
        rw [List.flatten_cons, ih h9.2, h9.1]; rfl
  rw [hf] at h2 h3
  have hl := h9.len
  exact ⟨h2, h3, h6, h4, by omega⟩
def kidsC : Con where
  X := LqX
  Y := Row
  args x := [.pointer (some ⟨x.b, 0, none⟩), .int .i64 x.a]
  pre _ := []
  cond _ := True
  rdc x F := LatIn F x.b x.c
  rel x r := IsRow 3 1 (ints (bif isS x.c x.a then kidsP x.c x.a.toNat else [])) r ∧ r.n = (bif isS x.c x.a then kidsP x.c x.a.toNat else []).length
  val _ r := .returned (.slice r.a r.n r.cap)
  post _ r := [r.A]
  rmono _ _ _ h hk := hk.sub h
def kidsOv (_x : LqX) (_F : Atom) : List (Nat × Nat × OH) := [(1, 2, .c stateC [] []), (3, 3, .q [.ex 0 .slice]), (3, 5, .qo (ixQ 1)), (3, 6, .q [.ex 0 .slice]), (3, 7, .c (clnRC 3 1 8) [] [77])]
noncomputable def kids_H (x : Con.X kidsC) (F : Atom) : Hints where
  op := hk ((kidsOv x F) ++ [])
  inv := (fun _ _ _ => none) x F
  cut := (fun _ _ _ => none) x F
  ord := (fun _ => [])
open Go.Value (int slice string bool pointer agg tuple func) in
open Go.IntKind (i64) in
set_option maxRecDepth 100000 in
theorem kids_vc (x : LqX) (F : Atom) (hc : Con.cond kidsC x) (hr : Con.rdc kidsC x F) :
  FnOk Try.prog 60 stateC ∧
 true = true ∧
 ∃ (x_1 : LqX),
 [pointer (some ⟨x.b, 0, none⟩), int i64 x.a] = [pointer (some ⟨x_1.b, 0, none⟩), int i64 x_1.a] ∧
 ([] : List Atom) = [] ∧
 True ∧
 LatIn (Atom.pred (rest [(0, F)] [])) x_1.b x_1.c ∧
 ∀ (y : Unit),
 True →
 Br (!isS x_1.c x_1.a) (Done kidsC x F (Ending.returned (slice none 0 0)) [(0, F)])
 (∃ (a : Option Addr),
 ∃ (l : Nat),
 ∃ (c : Nat),
 Look F ⟨x.b, 9, none⟩ (slice a l c) ∧
 QOpOk Try.prog (opIn Try.f33 3 5) (ixQ 1) ∧
 ∃ (x_2 : IxQX), [slice a l c, int i64 x.a] = [slice (some ⟨x_2.b, x_2.o, none⟩) x_2.len x_2.cap, int i64 x_2.n] ∧ ((0 : Int) ≤ x_2.n ∧ x_2.n < (↑x_2.len : Int)) ∧ ∃ (a : Option Addr), ∃ (l : Nat), ∃ (c : Nat), Look F ⟨x_2.b, x_2.o + x_2.n.toNat * 1, none⟩ (slice a l c) ∧ FnOk Try.prog 68 (clnRC 3 1 8) ∧ true = true ∧ ∃ (x_3 : ClrX), [slice a l c] = [slice x_3.a x_3.n x_3.cap] ∧ ([] : List Atom) = [] ∧ (IsSrc 1 x_3.ys x_3.a x_3.n ∧ (∀ (u : Value), u ∈ x_3.ys → u.oneCell' = true) ∧ x_3.n * 8 ≤ 140737488351232 ∧ (x_3.a = none → x_3.cap = 0)) ∧ Srcd (Atom.pred (rest [(0, F)] [])) x_3.a x_3.ys ∧ ∀ (y : Row), IsRow 3 1 x_3.ys y ∧ y.n = x_3.n → Done kidsC x F (Ending.returned (slice y.a y.n y.cap)) [(0, F), (77, y.A)]) := by
  obtain ⟨b, c, a⟩ := x
  replace hr : LatIn F b c := hr
  have hs : Sub F (.pred (rest [(0, F)] [])) := sub_rest 0 (by simp) rfl
  refine ⟨state_ok, rfl, ⟨b, c, a⟩, rfl, rfl, trivial, hr.sub hs, fun _ _ => br_intro (fun h1 => ⟨⟨none, 0, 0, .emp⟩, ?_, rfl, Ent.pick [77, 0] rfl rfl⟩) (fun h1 => ?_)⟩
  · have h1' : isS c a = false := by simpa using h1
    dsimp only [kidsC]
    rw [h1']
    exact ⟨.nil rfl, rfl⟩
  · have h1' : isS c a = true := by simpa using h1
    obtain ⟨i, rfl, hi⟩ := isS_spec h1'
    obtain ⟨b4, o4, cap4, h9, hkd⟩ := hr.kd
    obtain ⟨w, hw, hI⟩ := hkd i hi
    obtain ⟨ka, kcap, rfl, -⟩ := SlIn.open hI
    obtain ⟨g1, g2, g3, g4, g5⟩ := hI.srcd
    have e1 : o4 + (i : Int).toNat * 1 = o4 + i := by omega
    refine ⟨_, _, _, h9, ixq_ok 1 rfl rfl rfl rfl, ⟨b4, o4, nS c, cap4, i⟩, rfl, by dsimp only; omega, _, _, _, by dsimp only; rw [e1]; exact hw, clnI_ok, rfl, ⟨ka, _, kcap, ints (kidsP c i)⟩, rfl, rfl, ⟨g1, fun _ h => ints_one h, g3, g4⟩, Srcd.sub hs g2, fun y hy => ⟨y, ?_, rfl, Ent.pick [77, 0] rfl rfl⟩⟩
    dsimp only [kidsC]
    rw [h1']
    exact hy
set_option maxRecDepth 100000 in
theorem kids_ok : FnOk Try.prog 33 kidsC :=
  fnOk (N := 17) (by kernel_rfl) Try.func33 rfl (by kernel_rfl) (fun _ => Nat.le_of_ble_eq_true rfl) kids_H [] fun x F hc hr => Eq.mpr (by kernel_rfl) (kids_vc x F hc hr)
def abvL (c : ChD) (top : Int) : Nat → Int → List Int
  | 0, _ => []
  | f + 1, p => bif decide (p ≥ 0) && p != top then p :: abvL c top f (pr c p.toNat) else []
def abvP (c : ChD) (top p : Int) : List Int := abvL c top (p + 1).toNat p
theorem abvL_fuel {c : ChD} (hp : Placed c) (top : Int) : ∀ (f g : Nat) (p : Int), (p + 1).toNat ≤ f → (p + 1).toNat ≤ g → p < nS c → abvL c top f p = abvL c top g p := by
  intro f
  induction f with
  | zero =>
    intro g p h1 h2 hn
    cases g with
    | zero => rfl
    | succ g =>
      have : decide (p ≥ 0) = false := decide_eq_false (by omega)
      rw [abvL, abvL, this]; rfl
  | succ f ih =>
    intro g p h1 h2 hn
    cases g with
    | zero =>
      have : decide (p ≥ 0) = false := decide_eq_false (by omega)
      rw [abvL, abvL, this]; rfl
    | succ g =>
      rw [abvL, abvL]
      by_cases h0 : p ≥ 0
      · have hlt : pr c p.toNat < p := by
          rcases Nat.eq_zero_or_pos p.toNat with e | e
          · rw [e, hp.p0]; omega
          · have := (hp.st p.toNat e (by omega)).2.2.2.1; omega
        rw [ih g _ (by omega) (by omega) (by omega)]
      · rw [decide_eq_false h0]; rfl
theorem pr_lt {c : ChD} (hp : Placed c) {i : Nat} (hi : i < nS c) : -1 ≤ pr c i ∧ pr c i < i := by
  rcases Nat.eq_zero_or_pos i with e | e
  · subst e; rw [hp.p0]; omega
  · have := hp.st i e hi; omega
theorem abvP_step {c : ChD} (hp : Placed c) {top : Int} {i : Nat} (hi : i < nS c) (ht : (i : Int) ≠ top) : abvP c top i = (i : Int) :: abvP c top (pr c i) := by
  have h := pr_lt hp hi
  unfold abvP
  have e : ((i : Int) + 1).toNat = i + 1 := by omega
  rw [e, abvL]
  have : (decide ((i : Int) ≥ 0) && (i : Int) != top) = true := by
    rw [decide_eq_true (by omega)]; simpa using ht
  rw [this, cond_true, Int.toNat_natCast, abvL_fuel hp top i (pr c i + 1).toNat (pr c i) (by omega) (Nat.le_refl _) (by omega)]
theorem abvP_stop {c : ChD} {top p : Int} (h : p < 0 ∨ p = top) : abvP c top p = [] := by
  unfold abvP
  cases hf : (p + 1).toNat with
  | zero => rfl
  | succ f =>
    rw [abvL]
    have : (decide (p ≥ 0) && p != top) = false := by
      rcases h with h | h
      · rw [decide_eq_false (by omega)]; rfl
      · subst h; simp
    rw [this]; rfl
def abvV (c : ChD) (a top : Int) : List Int := bif isS c a then abvP c top (pr c a.toNat) else []
theorem abvL_len (c : ChD) (top : Int) : ∀ (f : Nat) (p : Int), (abvL c top f p).length ≤ f := by
  intro f
  induction f with
  | zero => intro p; exact Nat.le_refl 0
  | succ f ih =>
    intro p
    rw [abvL]
    cases decide (p ≥ 0) && p != top with
    | true => rw [cond_true, List.length_cons]; have := ih (pr c p.toNat); omega
    | false => exact Nat.zero_le _
theorem abvL_mem {c : ChD} (hp : Placed c) (top : Int) : ∀ (f : Nat) (p u : Int), p < nS c → u ∈ abvL c top f p → isS c u = true ∧ u ≤ p := by
  intro f
  induction f with
  | zero => intro p u _ h; simp [abvL] at h
  | succ f ih =>
    intro p u hn h
    rw [abvL] at h
    cases hb : decide (p ≥ 0) && p != top with
    | true =>
      rw [hb, cond_true] at h
      simp only [Bool.and_eq_true, decide_eq_true_eq] at hb
      have hl := pr_lt hp (i := p.toNat) (by omega)
      rcases List.mem_cons.1 h with rfl | h
      · refine ⟨?_, Int.le_refl _⟩
        unfold isS; rw [decide_eq_true hb.1, decide_eq_true hn]; rfl
      · have := ih (pr c p.toNat) u (by omega) h
        exact ⟨this.1, by omega⟩
    | false => rw [hb] at h; simp at h
theorem abvV_mem {c : ChD} (hp : Placed c) {a top u : Int} (h : u ∈ abvV c a top) : isS c u = true := by
  unfold abvV at h
  cases ha : isS c a with
  | true =>
    rw [ha, cond_true] at h
    obtain ⟨i, rfl, hi⟩ := isS_spec ha
    have := pr_lt hp hi
    exact (abvL_mem hp top _ _ _ (by rw [Int.toNat_natCast]; omega) h).1
  | false => rw [ha] at h; simp at h
theorem abvV_len {c : ChD} (hp : Placed c) (a top : Int) : (abvV c a top).length ≤ 128 := by
  unfold abvV
  cases ha : isS c a with
  | true =>
    rw [cond_true]
    obtain ⟨i, rfl, hi⟩ := isS_spec ha
    have h1 := pr_lt hp hi
    have h2 := abvL_len c top (pr c i + 1).toNat (pr c i)
    have := hp.n128
    unfold abvP
    rw [Int.toNat_natCast]
    omega
  | false => exact Nat.zero_le _
structure AbX where
  b : Nat
  c : ChD
  a : Int
  top : Int
def aboveC : Con where
  X := AbX
  Y := Row
  args x := [.pointer (some ⟨x.b, 0, none⟩), .int .i64 x.a, .int .i64 x.top]
  pre _ := []
  cond _ := True
  rdc x F := LatIn F x.b x.c
  rel x r := IsRow 3 1 (ints (abvV x.c x.a x.top)) r ∧ r.n = (abvV x.c x.a x.top).length
  val _ r := .returned (.slice r.a r.n r.cap)
  post _ r := [r.A]
  rmono _ _ _ h hk := hk.sub h
structure AbI where
  out : List Int
  p : Int
  r : Row
def aboveInv (x : AbX) (F : Atom) : Nat → Option Inv := fun
  | 0 => some { X := AbI, P := fun i => -1 ≤ i.p ∧ i.p < nS x.c ∧ isS x.c x.a = true ∧ i.out ++ abvP x.c x.top i.p = abvV x.c x.a x.top ∧ i.out.length + (i.p + 1).toNat ≤ 1000 ∧ IsRow 3 1 (ints i.out) i.r ∧ i.r.n = i.out.length, mu := fun i => (i.p + 1).toNat, lv := fun i => [(0, .pointer (some ⟨x.b, 0, none⟩)), (2, .int .i64 x.top), (7, .slice i.r.a i.r.n i.r.cap), (8, .int .i64 i.p)], st := fun i => [F, i.r.A] }
  | _ => none
def aboveOv (_x : AbX) (_F : Atom) : List (Nat × Nat × OH) := [(2, 2, .c stateC [] []), (4, 4, .q [.ex 0 .slice]), (4, 6, .qo (ixQ 13)), (4, 8, .q [.ex 0 (.int .i64)]), (7, 3, .o (apC 3 1 8) [1] [1]), (6, 4, .q [.ex 0 .slice]), (6, 6, .qo (ixQ 13)), (6, 8, .q [.ex 0 (.int .i64)])]
noncomputable def above_H (x : Con.X aboveC) (F : Atom) : Hints where
  op := hk ((aboveOv x F) ++ [(7, 2, OH.n (8020 : Nat))])
  inv := aboveInv x F
  cut := (fun _ _ _ => none) x F
  ord := (fun _ => [])
open Go.Value (int slice string bool pointer agg tuple func) in
open Go.IntKind (i64) in
set_option maxRecDepth 100000 in
theorem above_vc (x : AbX) (F : Atom) (hc : Con.cond aboveC x) (hr : Con.rdc aboveC x F) :
  FnOk Try.prog 60 stateC ∧
 true = true ∧
 ∃ (x_1 : LqX),
 [pointer (some ⟨x.b, 0, none⟩), int i64 x.a] = [pointer (some ⟨x_1.b, 0, none⟩), int i64 x_1.a] ∧
 ([] : List Atom) = [] ∧
 True ∧
 LatIn (Atom.pred (rest [(0, F)] [])) x_1.b x_1.c ∧
 ∀ (y : Unit),
 True →
 Br (!isS x_1.c x_1.a) (Done aboveC x F (Ending.returned (slice none 0 0)) [(0, F)])
 (∃ (a : Option Addr),
 ∃ (l : Nat),
 ∃ (c : Nat),
 Look F ⟨x.b, 3, none⟩ (slice a l c) ∧
 QOpOk Try.prog (opIn Try.f31 4 6) (ixQ 13) ∧
 ∃ (x_2 : IxQX),
 [slice a l c, int i64 x.a] = [slice (some ⟨x_2.b, x_2.o, none⟩) x_2.len x_2.cap, int i64 x_2.n] ∧
 ((0 : Int) ≤ x_2.n ∧ x_2.n < (↑x_2.len : Int)) ∧
 ∃ (n : Int),
 Look F ⟨x_2.b, x_2.o + x_2.n.toNat * 13 + 2, none⟩ (int i64 n) ∧
 (∃ (x_3 : AbI), ((-1 : Int) ≤ x_3.p ∧ x_3.p < (↑(nS x.c) : Int) ∧ isS x.c x.a = true ∧ x_3.out ++ abvP x.c x.top x_3.p = abvV x.c x.a x.top ∧ x_3.out.length + (x_3.p + (1 : Int)).toNat ≤ 1000 ∧ IsRow 3 1 (ints x_3.out) x_3.r ∧ x_3.r.n = x_3.out.length) ∧ (pointer (some ⟨x.b, 0, none⟩) = pointer (some ⟨x.b, 0, none⟩) ∧ int i64 x.top = int i64 x.top ∧ slice none 0 0 = slice x_3.r.a x_3.r.n x_3.r.cap ∧ int i64 n = int i64 x_3.p ∧ True) ∧ Ent [(0, F)] [(0, F), (1, x_3.r.A)]) ∧
 ∀ (x_3 : AbI) (js : Nat → Value),
 (-1 : Int) ≤ x_3.p ∧ x_3.p < (↑(nS x.c) : Int) ∧ isS x.c x.a = true ∧ x_3.out ++ abvP x.c x.top x_3.p = abvV x.c x.a x.top ∧ x_3.out.length + (x_3.p + (1 : Int)).toNat ≤ 1000 ∧ IsRow 3 1 (ints x_3.out) x_3.r ∧ x_3.r.n = x_3.out.length →
 Br (decide (x_3.p ≥ (0 : Int)))
 (Br (x_3.p != x.top)
 (∀ (b : Nat),
 OpOk Try.prog (opIn Try.f31 7 3) (apC (3 : TypeId) 1 8) ∧
 true = true ∧
 ∃ (x_4 : ApX),
 [slice x_3.r.a x_3.r.n x_3.r.cap, slice (some ⟨b, 0, none⟩) 1 1] = [slice x_4.r.a x_4.r.n x_4.r.cap, slice x_4.a x_4.m x_4.c] ∧
 [x_3.r.A] = [x_4.r.A] ∧
 (IsRow 3 1 x_4.cs x_4.r ∧ x_4.ys.length = x_4.m * 1 ∧ (∀ (u : Value), u ∈ x_4.ys → u.oneCell' = true) ∧ (x_4.r.n + x_4.m) * 8 ≤ 140737488355328 ∧ x_4.r.n + x_4.m ≤ 9223372036854775807 ∧ (x_4.a = none → x_4.m = 0 ∧ x_4.c = 0)) ∧
 (∀ (a : Addr), x_4.a = some a → Seg (Atom.pred (rest [(0, F), (1, x_3.r.A), (8020, Atom.cells b [int i64 x_3.p] 3)] [1])) a x_4.ys) ∧
 ∀ (y : Row),
 IsRow 3 1 (x_4.cs ++ x_4.ys) y ∧ y.n = x_4.r.n + x_4.m ∧ (x_4.m = 0 → y = x_4.r) →
 ∃ (a : Option Addr),
 ∃ (l : Nat),
 ∃ (c : Nat),
 Look F ⟨x.b, 3, none⟩ (slice a l c) ∧
 QOpOk Try.prog (opIn Try.f31 6 6) (ixQ 13) ∧
 ∃ (x_5 : IxQX),
 [slice a l c, int i64 x_3.p] = [slice (some ⟨x_5.b, x_5.o, none⟩) x_5.len x_5.cap, int i64 x_5.n] ∧
 ((0 : Int) ≤ x_5.n ∧ x_5.n < (↑x_5.len : Int)) ∧
 ∃ (n : Int), Look F ⟨x_5.b, x_5.o + x_5.n.toNat * 13 + 2, none⟩ (int i64 n) ∧ ∃ (y_1 : AbI), ((-1 : Int) ≤ y_1.p ∧ y_1.p < (↑(nS x.c) : Int) ∧ isS x.c x.a = true ∧ y_1.out ++ abvP x.c x.top y_1.p = abvV x.c x.a x.top ∧ y_1.out.length + (y_1.p + (1 : Int)).toNat ≤ 1000 ∧ IsRow 3 1 (ints y_1.out) y_1.r ∧ y_1.r.n = y_1.out.length) ∧ (pointer (some ⟨x.b, 0, none⟩) = pointer (some ⟨x.b, 0, none⟩) ∧ int i64 x.top = int i64 x.top ∧ slice y.a y.n y.cap = slice y_1.r.a y_1.r.n y_1.r.cap ∧ int i64 n = int i64 y_1.p ∧ True) ∧ Ent [(0, F), (1, y.A), (8020, Atom.cells b [int i64 x_3.p] 3)] [(0, F), (1, y_1.r.A)] ∧ (y_1.p + (1 : Int)).toNat < (x_3.p + (1 : Int)).toNat)
 (Done aboveC x F (Ending.returned (slice x_3.r.a x_3.r.n x_3.r.cap)) [(0, F), (1, x_3.r.A)]))
 (Done aboveC x F (Ending.returned (slice x_3.r.a x_3.r.n x_3.r.cap)) [(0, F), (1, x_3.r.A)])) := by
  obtain ⟨b, c, a, top⟩ := x
  replace hr : LatIn F b c := hr
  have hs : Sub F (.pred (rest [(0, F)] [])) := sub_rest 0 (by simp) rfl
  have hp := hr.pl
  have hn := hp.n128
  refine ⟨state_ok, rfl, ⟨b, c, a⟩, rfl, rfl, trivial, hr.sub hs, fun _ _ => br_intro (fun h1 => ⟨⟨none, 0, 0, .emp⟩, ?_, rfl, Ent.pick [77, 0] rfl rfl⟩) (fun h1 => ?_)⟩
  · have h1' : isS c a = false := by simpa using h1
    dsimp only [aboveC]
    unfold abvV
    rw [h1']
    exact ⟨.nil rfl, rfl⟩
  · have h1' : isS c a = true := by simpa using h1
    obtain ⟨i, rfl, hi⟩ := isS_spec h1'
    obtain ⟨s, hsi⟩ := get_st hi
    obtain ⟨b1, o1, cap, h3, hst⟩ := hr.sts
    obtain ⟨r, ⟨vk, ve, vx, vt, vd, vi, vp, rfl, -⟩, hL⟩ := hst i s hsi
    have ep : pr c i = s.parent := pr_get hsi
    have hpl := pr_lt hp hi
    refine ⟨_, _, _, h3, ixq_ok 13 rfl rfl rfl rfl, ⟨b1, o1, nS c, cap, i⟩, rfl, by dsimp only; omega, s.parent, hL 2 _ rfl, ⟨⟨[], s.parent, ⟨none, 0, 0, .emp⟩⟩, ⟨by dsimp only; omega, by dsimp only; omega, h1', ?_, by dsimp only; rw [List.length_nil]; omega, .nil rfl, rfl⟩, ⟨rfl, rfl, rfl, rfl, trivial⟩, Ent.pick [0, 77] rfl rfl⟩, ?_⟩
    · dsimp only
      unfold abvV
      rw [h1', List.nil_append, ← ep]; rfl
    rintro ⟨out, p, w⟩ js ⟨q1, q2, q3, q4, q5, q6, q7⟩
    dsimp only at q1 q2 q3 q4 q5 q6 q7 ⊢
    have fin : (p < 0 ∨ p = top) → Done aboveC ⟨b, c, i, top⟩ F (.returned (.slice w.a w.n w.cap)) [(0, F), (1, w.A)] := by
      intro h
      rw [abvP_stop h, List.append_nil] at q4
      refine ⟨w, ?_, rfl, Ent.pick [1, 0] rfl rfl⟩
      dsimp only [aboveC]
      rw [← q4]
      exact ⟨q6, q7⟩
    refine br_decide (fun h0 => br_intro (fun ht => ?_) (fun ht => fin (.inr (by simpa using ht)))) (fun h0 => fin (.inl (by omega)))
    obtain ⟨j, rfl⟩ : ∃ j : Nat, p = j := ⟨p.toNat, by omega⟩
    have hj : j < nS c := by omega
    have ht' : (j : Int) ≠ top := by simpa using ht
    rw [abvP_step hp hj ht'] at q4
    obtain ⟨s2, hs2⟩ := get_st hj
    obtain ⟨r2, ⟨vk, ve, vx, vt, vd, vi, vp, rfl, -⟩, hL2⟩ := hst j s2 hs2
    have ep2 : pr c j = s2.parent := pr_get hs2
    have hpl2 := pr_lt hp hj
    have hq5 : out.length + (j + 1) ≤ 1000 := by omega
    refine fun b3 => ⟨append_ok (P := Try.prog) 1 8 rfl rfl rfl rfl rfl rfl rfl (by decide), rfl, ⟨w, _, some ⟨b3, 0, none⟩, 1, 1, [.int .i64 j]⟩, rfl, rfl, ⟨q6, rfl, by simp [Value.oneCell'], by dsimp only; omega, by dsimp only; omega, by simp⟩, ?_, fun z hz => ⟨_, _, _, h3, ixq_ok 13 rfl rfl rfl rfl, ⟨b1, o1, nS c, cap, j⟩, rfl, by dsimp only; omega, s2.parent, hL2 2 _ rfl, ⟨out ++ [(j : Int)], s2.parent, z⟩, ⟨by dsimp only; omega, by dsimp only; omega, q3, ?_, ?_, ?_, ?_⟩, ⟨rfl, rfl, rfl, rfl, trivial⟩, Ent.pick [0, 1] rfl rfl, by dsimp only; omega⟩⟩
    · intro ad e
      cases e
      exact Seg.rest (j := 8020) (by simp) (Seg.cells fun j u h => by rw [Nat.zero_add]; exact h)
    · dsimp only
      rw [List.append_assoc, List.singleton_append, ← ep2]; exact q4
    · dsimp only; rw [List.length_append, List.length_singleton]; omega
    · dsimp only; rw [ints_append]; exact hz.1
    · dsimp only; rw [List.length_append, List.length_singleton, ← q7]; exact hz.2.1
set_option maxRecDepth 100000 in
theorem above_ok : FnOk Try.prog 31 aboveC :=
  fnOk (N := 43) (by kernel_rfl) Try.func31 rfl (by kernel_rfl) (fun _ => Nat.le_of_ble_eq_true rfl) above_H [] fun x F hc hr => Eq.mpr (by kernel_rfl) (above_vc x F hc hr)
structure C1X where
  c1 : Nat
  b : Nat
  c : ChD
  a : Int
def c1C : Con where
  X := C1X
  Y := Unit
  args x := [.int .i64 x.a, .pointer (some ⟨x.c1, 0, none⟩)]
  pre _ := []
  cond _ := True
  rdc x F := Look F ⟨x.c1, 0, none⟩ (.pointer (some ⟨x.b, 0, none⟩)) ∧ LatIn F x.b x.c
  rel _ _ := True
  val x _ := .returned (.bool (!isS x.c x.a))
  post _ _ := []
  rmono _ _ _ h hk := ⟨hk.1.sub h, hk.2.sub h⟩
def c1Ov (x : C1X) (_F : Atom) : List (Nat × Nat × OH) := [(1, 0, .q [.ex 0 (.is (.pointer (some ⟨x.b, 0, none⟩)))]), (1, 2, .c stateC [] [])]
noncomputable def c1_H (x : Con.X c1C) (F : Atom) : Hints where
  op := hk ((c1Ov x F) ++ [])
  inv := (fun _ _ _ => none) x F
  cut := (fun _ _ _ => none) x F
  ord := (fun _ => [])
open Go.Value (int slice string bool pointer agg tuple func) in
open Go.IntKind (i64) in
set_option maxRecDepth 100000 in
theorem c1_vc (x : C1X) (F : Atom) (hc : Con.cond c1C x) (hr : Con.rdc c1C x F) :
  Look F ⟨x.c1, 0, none⟩ (pointer (some ⟨x.b, 0, none⟩)) ∧ FnOk Try.prog 60 stateC ∧ true = true ∧ ∃ (x_1 : LqX), [pointer (some ⟨x.b, 0, none⟩), int i64 x.a] = [pointer (some ⟨x_1.b, 0, none⟩), int i64 x_1.a] ∧ ([] : List Atom) = [] ∧ True ∧ LatIn (Atom.pred (rest [(0, F)] [])) x_1.b x_1.c ∧ ∀ (y : Unit), True → Done c1C x F (Ending.returned (bool !isS x_1.c x_1.a)) [(0, F)] := by
  obtain ⟨c1, b, c, a⟩ := x
  obtain ⟨h1, h2⟩ := hr
  have hs : Sub F (.pred (rest [(0, F)] [])) := sub_rest 0 (by simp) rfl
  exact ⟨h1, state_ok, rfl, ⟨b, c, a⟩, rfl, rfl, trivial, h2.sub hs, fun _ _ => ⟨(), trivial, rfl, Ent.pick [0] rfl rfl⟩⟩
set_option maxRecDepth 100000 in
theorem c1_ok : FnOk Try.prog 63 c1C :=
  fnOk (N := 8) (by kernel_rfl) Try.func63 rfl (by kernel_rfl) (fun _ => Nat.le_of_ble_eq_true rfl) c1_H [] fun x F hc hr => Eq.mpr (by kernel_rfl) (c1_vc x F hc hr)
structure C2X where
  c1 : Nat
  c2 : Nat
  b : Nat
  c : ChD
  p : Int
  a : Int
def c2C : Con where
  X := C2X
  Y := Unit
  args x := [.int .i64 x.a, .pointer (some ⟨x.c1, 0, none⟩), .pointer (some ⟨x.c2, 0, none⟩)]
  pre _ := []
  cond x := isS x.c x.a = true ∧ isS x.c x.p = true
  rdc x F := Look F ⟨x.c1, 0, none⟩ (.pointer (some ⟨x.b, 0, none⟩)) ∧ Look F ⟨x.c2, 0, none⟩ (.int .i64 x.p) ∧ LatIn F x.b x.c
  rel _ _ := True
  val x _ := .returned (.bool (!insB x.c x.a.toNat x.p.toNat))
  post _ _ := []
  rmono _ _ _ h hk := ⟨hk.1.sub h, hk.2.1.sub h, hk.2.2.sub h⟩
def c2Ov (x : C2X) (_F : Atom) : List (Nat × Nat × OH) := [(1, 0, .q [.ex 0 (.is (.pointer (some ⟨x.b, 0, none⟩)))]), (1, 3, .q [.ex 0 .slice]), (1, 5, .qo (ixQ 1)), (1, 6, .q [.ex 0 .slice]), (1, 7, .q [.ex 0 (.is (.int .i64 x.p))]), (1, 8, .qo (ixQ 1)), (1, 9, .q [.ex 0 .bool])]
noncomputable def c2_H (x : Con.X c2C) (F : Atom) : Hints where
  op := hk ((c2Ov x F) ++ [])
  inv := (fun _ _ _ => none) x F
  cut := (fun _ _ _ => none) x F
  ord := (fun _ => [])
open Go.Value (int slice string bool pointer agg tuple func) in
open Go.IntKind (i64) in
set_option maxRecDepth 100000 in
theorem c2_vc (x : C2X) (F : Atom) (hc : Con.cond c2C x) (hr : Con.rdc c2C x F) :
  true = true ∧
 Look F ⟨x.c1, 0, none⟩ (pointer (some ⟨x.b, 0, none⟩)) ∧
 ∃ (a : Option Addr),
 ∃ (l : Nat),
 ∃ (c : Nat),
 Look F ⟨x.b, 8, none⟩ (slice a l c) ∧
 QOpOk Try.prog (opIn Try.f64 1 5) (ixQ 1) ∧ ∃ (x_1 : IxQX), [slice a l c, int i64 x.a] = [slice (some ⟨x_1.b, x_1.o, none⟩) x_1.len x_1.cap, int i64 x_1.n] ∧ ((0 : Int) ≤ x_1.n ∧ x_1.n < (↑x_1.len : Int)) ∧ ∃ (a : Option Addr), ∃ (l : Nat), ∃ (c : Nat), Look F ⟨x_1.b, x_1.o + x_1.n.toNat * 1, none⟩ (slice a l c) ∧ Look F ⟨x.c2, 0, none⟩ (int i64 x.p) ∧ QOpOk Try.prog (opIn Try.f64 1 8) (ixQ 1) ∧ ∃ (x_2 : IxQX), [slice a l c, int i64 x.p] = [slice (some ⟨x_2.b, x_2.o, none⟩) x_2.len x_2.cap, int i64 x_2.n] ∧ ((0 : Int) ≤ x_2.n ∧ x_2.n < (↑x_2.len : Int)) ∧ ∃ (b : Bool), Look F ⟨x_2.b, x_2.o + x_2.n.toNat * 1, none⟩ (bool b) ∧ Done c2C x F (Ending.returned (bool !b)) [(0, F)] := by
  obtain ⟨c1, c2, b, c, p, a⟩ := x
  obtain ⟨k1, k2⟩ := hc
  obtain ⟨h1, h2, h3⟩ := hr
  dsimp only at k1 k2 h1 h2 h3
  obtain ⟨i, rfl, hi⟩ := isS_spec k1
  obtain ⟨j, rfl, hj⟩ := isS_spec k2
  obtain ⟨b2, o2, cap, h8, hab⟩ := h3.ab
  obtain ⟨b3, o3, cap3, hrow, hcell⟩ := hab i hi
  have e1 : ∀ o k : Nat, o + (k : Int).toNat * 1 = o + k := fun o k => by omega
  exact ⟨rfl, h1, _, _, _, h8, ixq_ok 1 rfl rfl rfl rfl, ⟨b2, o2, nS c, cap, i⟩, rfl, by dsimp only; omega, _, _, _, by dsimp only; rw [e1]; exact hrow, h2, ixq_ok 1 rfl rfl rfl rfl, ⟨b3, o3, nS c, cap3, j⟩, rfl, by dsimp only; omega, _, by dsimp only; rw [e1]; exact hcell j hj, (), trivial, rfl, Ent.pick [0] rfl rfl⟩
set_option maxRecDepth 100000 in
theorem c2_ok : FnOk Try.prog 64 c2C :=
  fnOk (N := 16) (by kernel_rfl) Try.func64 rfl (by kernel_rfl) (fun _ => Nat.le_of_ble_eq_true rfl) c2_H [] fun x F hc hr => Eq.mpr (by kernel_rfl) (c2_vc x F hc hr)
theorem c1_good (c1 b : Nat) (c : ChD) : FnOk Try.prog 63 (goC (capsM 1 c1 0 0 0) (fun a => !isS c a) (fun _ => True) (fun F => Look F ⟨c1, 0, none⟩ (.pointer (some ⟨b, 0, none⟩)) ∧ LatIn F b c) (fun _ _ h hk => ⟨hk.1.sub h, hk.2.sub h⟩)) :=
  c1_ok.conseq fun a F I w _ hr hs => ⟨⟨c1, b, c, a⟩, I, Imm.le_refl I, trivial, hr, rfl, hs, fun _ _ => ⟨(), trivial, rfl, Ent.refl _⟩⟩
theorem c2_good (c1 c2 b : Nat) (c : ChD) (p : Int) (hp : isS c p = true) : FnOk Try.prog 64 (goC (capsM 2 c1 c2 0 0) (fun a => !insB c a.toNat p.toNat) (fun a => isS c a = true) (fun F => Look F ⟨c1, 0, none⟩ (.pointer (some ⟨b, 0, none⟩)) ∧ Look F ⟨c2, 0, none⟩ (.int .i64 p) ∧ LatIn F b c) (fun _ _ h hk => ⟨hk.1.sub h, hk.2.1.sub h, hk.2.2.sub h⟩)) :=
  c2_ok.conseq fun a F I w hc hr hs => ⟨⟨c1, c2, b, c, p, a⟩, I, Imm.le_refl I, ⟨hc, hp⟩, hr, rfl, hs, fun _ _ => ⟨(), trivial, rfl, Ent.refl _⟩⟩
def clo1 (c1 b : Nat) (c : ChD) : Clo 63 1 := ⟨c1, 0, 0, 0, _, _, _, _, c1_good c1 b c⟩
def clo2 (c1 c2 b : Nat) (c : ChD) (p : Int) (hp : isS c p = true) : Clo 64 2 := ⟨c1, c2, 0, 0, _, _, _, _, c2_good c1 c2 b c p hp⟩
def comL (c : ChD) (xs : List Int) : List Int → Int
  | [] => -1
  | p :: r => bif decide (kd c p.toNat ≤ 1) && !(xs.any fun s => !insB c s.toNat p.toNat) then p else comL c xs r
def comV (c : ChD) (xs : List Int) : Int := match xs with
  | [] => -1
  | x :: r => bif (x :: r).any (fun a => !isS c a) then -1 else comL c (x :: r) (abvV c x (-1))
theorem comV_cons (c : ChD) (x : Int) (r : List Int) : comV c (x :: r) = bif (x :: r).any (fun a => !isS c a) then -1 else comL c (x :: r) (abvV c x (-1)) := rfl
structure CmX where
  b : Nat
  c : ChD
  a : Option Addr
  n : Nat
  cap : Nat
  xs : List Int
def comC : Con where
  X := CmX
  Y := Unit
  args x := [.pointer (some ⟨x.b, 0, none⟩), .slice x.a x.n x.cap]
  pre _ := []
  cond x := IsSrc 1 (ints x.xs) x.a x.n ∧ x.n * 8 ≤ 140737488351232
  rdc x F := LatIn F x.b x.c ∧ Srcd F x.a (ints x.xs)
  rel _ _ := True
  val x _ := .returned (.int .i64 (comV x.c x.xs))
  post _ _ := []
  rmono _ _ _ h hk := ⟨hk.1.sub h, hk.2.sub h⟩
structure CmI where
  c1 : Nat
  r : Row
  k : Nat
  l : List Int
def comInv (x : CmX) (F : Atom) : Nat → Option Inv := fun
  | 0 => some { X := CmI, P := fun i => IsRow 3 1 (ints i.l) i.r ∧ i.r.n = i.l.length ∧ i.l.length ≤ 1000 ∧ i.k ≤ i.l.length ∧ (∀ u ∈ i.l, isS x.c u = true) ∧ (∀ u ∈ x.xs, isS x.c u = true) ∧ comV x.c x.xs = comL x.c x.xs (i.l.drop i.k), mu := fun i => i.l.length - i.k, lv := fun i => [(1, .slice x.a x.n x.cap), (2, .pointer (some ⟨i.c1, 0, none⟩)), (19, .slice i.r.a i.r.n i.r.cap), (20, .int .i64 i.r.n), (21, .int .i64 i.k)], st := fun i => [.cells i.c1 [.pointer (some ⟨x.b, 0, none⟩)] 34, i.r.A, F] }
  | _ => none
def comOv (_x : CmX) (_F : Atom) : List (Nat × Nat × OH) := [(1, 6, .c (cfC 63 1) [] []), (3, 2, .qo (ixQ 1)), (3, 3, .q [.ex 0 (.int .i64)]), (3, 4, .c aboveC [] [77]), (5, 0, .qo (ixQ 1)), (5, 1, .q [.ex 1 (.int .i64)]), (6, 4, .q [.ex 2 .slice]), (6, 6, .qo (ixQ 13)), (6, 8, .q [.ex 2 (.int .i64)]), (6, 13, .c (cfC 64 2) [] [])]
noncomputable def com_H (x : Con.X comC) (F : Atom) : Hints where
  op := hk ((comOv x F) ++ [(0, 0, OH.n (1000 : Nat)),   (3, 0, OH.q [LH.atj (1000 : Nat)]),   (5, 2, OH.n (6020 : Nat)),   (5, 3, OH.w [LH.atj (6020 : Nat)]),   (6, 0, OH.q [LH.atj (0 : Nat)]),   (6, 5, OH.q [LH.atj (6020 : Nat)]),   (7, 0, OH.q [LH.atj (6020 : Nat)])])
  inv := comInv x F
  cut := (fun _ _ _ => none) x F
  ord := (fun _ => [])
open Go.Value (int slice string bool pointer agg tuple func) in
open Go.IntKind (i64) in
set_option maxRecDepth 100000 in
theorem com_vc (x : CmX) (F : Atom) (hc : Con.cond comC x) (hr : Con.rdc comC x F) :
  ∀ (b : Nat),
 Br ((↑x.n : Int) == (0 : Int)) (Done comC x F (Ending.returned (int i64 (-1 : Int))) [(0, F), (1000, Atom.cells b [pointer (some ⟨x.b, 0, none⟩)] 34)])
 (FnOk Try.prog 62 (cfC (63 : FuncId) 1) ∧
 true = true ∧
 ∃ (x_1 : IxX (63 : FuncId) 1),
 [slice x.a x.n x.cap, func (Fn.func 63) { toList := [] } { toList := [pointer (some ⟨b, 0, none⟩)] }] = [slice x_1.a x_1.n x_1.cap, func (Fn.func 63) { toList := [] } { toList := [pointer (some ⟨x_1.L.c1, 0, none⟩)] }] ∧
 ([] : List Atom) = [] ∧
 (IsSrc 1 (ints x_1.xs) x_1.a x_1.n ∧ x_1.n * 8 ≤ 140737488351232 ∧ ∀ (u : Int), u ∈ x_1.xs → x_1.L.ok u) ∧
 (Srcd (Atom.pred (rest [(0, F), (1000, Atom.cells b [pointer (some ⟨x.b, 0, none⟩)] 34)] [])) x_1.a (ints x_1.xs) ∧ x_1.L.7 (Atom.pred (rest [(0, F), (1000, Atom.cells b [pointer (some ⟨x.b, 0, none⟩)] 34)] []))) ∧
 ∀ (y : Unit),
 True →
 Br (x_1.xs.any x_1.L.g) (Done comC x F (Ending.returned (int i64 (-1 : Int))) [(0, F), (1000, Atom.cells b [pointer (some ⟨x.b, 0, none⟩)] 34)])
 (true = true ∧
 Same ⟨b, 0, none⟩ b ∧
 QOpOk Try.prog (opIn Try.f24 3 2) (ixQ 1) ∧
 ∃ (x_2 : IxQX),
 [slice x.a x.n x.cap, int i64 (0 : Int)] = [slice (some ⟨x_2.b, x_2.o, none⟩) x_2.len x_2.cap, int i64 x_2.n] ∧
 ((0 : Int) ≤ x_2.n ∧ x_2.n < (↑x_2.len : Int)) ∧
 ∃ (n : Int),
 Look F ⟨x_2.b, x_2.o + x_2.n.toNat * 1, none⟩ (int i64 n) ∧
 FnOk Try.prog 31 aboveC ∧
 true = true ∧
 ∃ (x_3 : AbX),
 [pointer (some ⟨x.b, 0, none⟩), int i64 n, int i64 (-1 : Int)] = [pointer (some ⟨x_3.b, 0, none⟩), int i64 x_3.a, int i64 x_3.top] ∧
 ([] : List Atom) = [] ∧
 True ∧
 LatIn (Atom.pred (rest [(0, F), (1000, Atom.cells b [pointer (some ⟨x.b, 0, none⟩)] 34)] [])) x_3.b x_3.c ∧
 ∀ (y : Row),
 IsRow 3 1 (ints (abvV x_3.c x_3.a x_3.top)) y ∧ y.n = (abvV x_3.c x_3.a x_3.top).length →
 (∃ (x_4 : CmI),
 (IsRow 3 1 (ints x_4.l) x_4.r ∧ x_4.r.n = x_4.l.length ∧ x_4.l.length ≤ 1000 ∧ x_4.k ≤ x_4.l.length ∧ (∀ (u : Int), u ∈ x_4.l → isS x.c u = true) ∧ (∀ (u : Int), u ∈ x.xs → isS x.c u = true) ∧ comV x.c x.xs = comL x.c x.xs (List.drop x_4.k x_4.l)) ∧
 (slice x.a x.n x.cap = slice x.a x.n x.cap ∧ pointer (some ⟨b, 0, none⟩) = pointer (some ⟨x_4.c1, 0, none⟩) ∧ slice y.a y.n y.cap = slice x_4.r.a x_4.r.n x_4.r.cap ∧ int i64 (↑y.n : Int) = int i64 (↑x_4.r.n : Int) ∧ int i64 (0 : Int) = int i64 (↑x_4.k : Int) ∧ True) ∧ Ent [(0, F), (77, y.A), (1000, Atom.cells b [pointer (some ⟨x.b, 0, none⟩)] 34)] [(0, Atom.cells x_4.c1 [pointer (some ⟨x.b, 0, none⟩)] 34), (1, x_4.r.A), (2, F)]) ∧
 ∀ (x_4 : CmI) (js : Nat → Value),
 IsRow 3 1 (ints x_4.l) x_4.r ∧ x_4.r.n = x_4.l.length ∧ x_4.l.length ≤ 1000 ∧ x_4.k ≤ x_4.l.length ∧ (∀ (u : Int), u ∈ x_4.l → isS x.c u = true) ∧ (∀ (u : Int), u ∈ x.xs → isS x.c u = true) ∧ comV x.c x.xs = comL x.c x.xs (List.drop x_4.k x_4.l) →
 Br (decide ((↑x_4.k : Int) < (↑x_4.r.n : Int)))
 (QOpOk Try.prog (opIn Try.f24 5 0) (ixQ 1) ∧
 ∃ (x_5 : IxQX),
 [slice x_4.r.a x_4.r.n x_4.r.cap, int i64 (↑x_4.k : Int)] = [slice (some ⟨x_5.b, x_5.o, none⟩) x_5.len x_5.cap, int i64 x_5.n] ∧
 ((0 : Int) ≤ x_5.n ∧ x_5.n < (↑x_5.len : Int)) ∧
 ∃ (n : Int),
 Look x_4.r.A ⟨x_5.b, x_5.o + x_5.n.toNat * 1, none⟩ (int i64 n) ∧
 ∀ (b : Nat),
 Same ⟨b, 0, none⟩ b ∧
 true = true ∧
 Same ⟨x_4.c1, 0, none⟩ x_4.c1 ∧
 ∃ (a : Option Addr),
 ∃ (l : Nat),
 ∃ (c : Nat),
 Look F ⟨x.b, 3, none⟩ (slice a l c) ∧
 Same ⟨b, 0, none⟩ b ∧
 QOpOk Try.prog (opIn Try.f24 6 6) (ixQ 13) ∧
 ∃ (x_6 : IxQX),
 [slice a l c, int i64 n] = [slice (some ⟨x_6.b, x_6.o, none⟩) x_6.len x_6.cap, int i64 x_6.n] ∧
 ((0 : Int) ≤ x_6.n ∧ x_6.n < (↑x_6.len : Int)) ∧
 ∃ (n_1 : Int),
 Look F ⟨x_6.b, x_6.o + x_6.n.toNat * 13 + 1, none⟩ (int i64 n_1) ∧
 Br (decide (n_1 ≤ (1 : Int)))
 (FnOk Try.prog 62 (cfC (64 : FuncId) 2) ∧
 true = true ∧
 ∃ (x_7 : IxX (64 : FuncId) 2),
 [slice x.a x.n x.cap, func (Fn.func 64) { toList := [] } { toList := [pointer (some ⟨x_4.c1, 0, none⟩), pointer (some ⟨b, 0, none⟩)] }] = [slice x_7.a x_7.n x_7.cap, func (Fn.func 64) { toList := [] } { toList := [pointer (some ⟨x_7.L.c1, 0, none⟩), pointer (some ⟨x_7.L.c2, 0, none⟩)] }] ∧
 ([] : List Atom) = [] ∧
 (IsSrc 1 (ints x_7.xs) x_7.a x_7.n ∧ x_7.n * 8 ≤ 140737488351232 ∧ ∀ (u : Int), u ∈ x_7.xs → x_7.L.ok u) ∧
 (Srcd (Atom.pred (rest [(0, Atom.cells x_4.c1 [pointer (some ⟨x.b, 0, none⟩)] 34), (1, x_4.r.A), (2, F), (6020, Atom.cells b [int i64 n] 3)] [])) x_7.a (ints x_7.xs) ∧ x_7.L.7 (Atom.pred (rest [(0, Atom.cells x_4.c1 [pointer (some ⟨x.b, 0, none⟩)] 34), (1, x_4.r.A), (2, F), (6020, Atom.cells b [int i64 n] 3)] []))) ∧
 ∀ (y : Unit),
 True →
 Br (!x_7.xs.any x_7.L.g) (Same ⟨b, 0, none⟩ b ∧ Done comC x F (Ending.returned (int i64 n)) [(0, Atom.cells x_4.c1 [pointer (some ⟨x.b, 0, none⟩)] 34), (1, x_4.r.A), (2, F), (6020, Atom.cells b [int i64 n] 3)])
 (((-9223372036854775808 : Int) ≤ (↑x_4.k : Int) + (1 : Int) ∧ (↑x_4.k : Int) + (1 : Int) ≤ (9223372036854775807 : Int)) ∧
 ∃ (y : CmI),
 (IsRow 3 1 (ints y.l) y.r ∧ y.r.n = y.l.length ∧ y.l.length ≤ 1000 ∧ y.k ≤ y.l.length ∧ (∀ (u : Int), u ∈ y.l → isS x.c u = true) ∧ (∀ (u : Int), u ∈ x.xs → isS x.c u = true) ∧ comV x.c x.xs = comL x.c x.xs (List.drop y.k y.l)) ∧
 (slice x.a x.n x.cap = slice x.a x.n x.cap ∧ pointer (some ⟨x_4.c1, 0, none⟩) = pointer (some ⟨y.c1, 0, none⟩) ∧ slice x_4.r.a x_4.r.n x_4.r.cap = slice y.r.a y.r.n y.r.cap ∧ int i64 (↑x_4.r.n : Int) = int i64 (↑y.r.n : Int) ∧ int i64 ((↑x_4.k : Int) + (1 : Int)) = int i64 (↑y.k : Int) ∧ True) ∧ Ent [(0, Atom.cells x_4.c1 [pointer (some ⟨x.b, 0, none⟩)] 34), (1, x_4.r.A), (2, F), (6020, Atom.cells b [int i64 n] 3)] [(0, Atom.cells y.c1 [pointer (some ⟨x.b, 0, none⟩)] 34), (1, y.r.A), (2, F)] ∧ y.l.length - y.k < x_4.l.length - x_4.k))
 (((-9223372036854775808 : Int) ≤ (↑x_4.k : Int) + (1 : Int) ∧ (↑x_4.k : Int) + (1 : Int) ≤ (9223372036854775807 : Int)) ∧
 ∃ (y : CmI),
 (IsRow 3 1 (ints y.l) y.r ∧ y.r.n = y.l.length ∧ y.l.length ≤ 1000 ∧ y.k ≤ y.l.length ∧ (∀ (u : Int), u ∈ y.l → isS x.c u = true) ∧ (∀ (u : Int), u ∈ x.xs → isS x.c u = true) ∧ comV x.c x.xs = comL x.c x.xs (List.drop y.k y.l)) ∧
 (slice x.a x.n x.cap = slice x.a x.n x.cap ∧ pointer (some ⟨x_4.c1, 0, none⟩) = pointer (some ⟨y.c1, 0, none⟩) ∧ slice x_4.r.a x_4.r.n x_4.r.cap = slice y.r.a y.r.n y.r.cap ∧ int i64 (↑x_4.r.n : Int) = int i64 (↑y.r.n : Int) ∧ int i64 ((↑x_4.k : Int) + (1 : Int)) = int i64 (↑y.k : Int) ∧ True) ∧ Ent [(0, Atom.cells x_4.c1 [pointer (some ⟨x.b, 0, none⟩)] 34), (1, x_4.r.A), (2, F), (6020, Atom.cells b [int i64 n] 3)] [(0, Atom.cells y.c1 [pointer (some ⟨x.b, 0, none⟩)] 34), (1, y.r.A), (2, F)] ∧ y.l.length - y.k < x_4.l.length - x_4.k))
 (Done comC x F (Ending.returned (int i64 (-1 : Int))) [(0, Atom.cells x_4.c1 [pointer (some ⟨x.b, 0, none⟩)] 34), (1, x_4.r.A), (2, F)]))) := by
  obtain ⟨b, c, a, n, cap, xs⟩ := x
  obtain ⟨hsrc, hle⟩ := hc
  obtain ⟨hl, hx⟩ := hr
  dsimp only at hsrc hle hl hx
  have hlen : xs.length = n := by have := hsrc.len; rw [ints_length] at this; omega
  intro c1
  have hs : Sub F (.pred (rest [(0, F), (1000, .cells c1 [.pointer (some ⟨b, 0, none⟩)] 34)] [])) := sub_rest 0 (by simp) rfl
  refine br_intro (fun h0 => ⟨(), trivial, retI ?_, Ent.pick [0] rfl rfl⟩) (fun h0 => ?_)
  · replace h0 : ((n : Int) == 0) = true := h0
    have : n = 0 := by have := beq_iff_eq.1 h0; omega
    have : xs = [] := List.eq_nil_of_length_eq_zero (by omega)
    dsimp only; rw [this]; rfl
  obtain ⟨u0, us, rfl⟩ : ∃ u us, xs = u :: us := by
    cases xs with
    | nil => rw [← hlen] at h0; simp at h0
    | cons u us => exact ⟨u, us, rfl⟩
  refine ⟨cfa_ok, rfl, ⟨clo1 c1 b c, a, n, cap, u0 :: us⟩, rfl, rfl, ⟨hsrc, hle, fun _ _ => trivial⟩, ⟨hx.sub hs, Look.rest (j := 1000) (by simp) (Look.cells rfl), hl.sub hs⟩, fun _ _ => br_intro (fun h1 => ⟨(), trivial, retI ?_, Ent.pick [0] rfl rfl⟩) (fun h1 => ?_)⟩
  · replace h1 : (u0 :: us).any (fun a => !isS c a) = true := h1
    rw [comV_cons, h1]; rfl
  replace h1 : (u0 :: us).any (fun a => !isS c a) = false := h1
  have hin : ∀ u ∈ u0 :: us, isS c u = true := by
    intro u hu
    cases he : isS c u with
    | true => rfl
    | false =>
      have : (u0 :: us).any (fun a => !isS c a) = true := List.any_eq_true.2 ⟨u, hu, by rw [he]; rfl⟩
      rw [h1] at this; cases this
  have hcv : comV c (u0 :: us) = comL c (u0 :: us) (abvV c u0 (-1)) := by rw [comV_cons, h1]; rfl
  obtain ⟨b1, o1, rfl⟩ := hsrc.some (by rw [← hlen]; simp)
  have hpos : 0 < n := by rw [← hlen]; simp
  refine ⟨rfl, ⟨rfl, rfl⟩, ixq_ok 1 rfl rfl rfl rfl, ⟨b1, o1, n, cap, 0⟩, rfl, by dsimp only; omega, u0, hx.look (j := 0) rfl, above_ok, rfl, ⟨b, c, u0, -1⟩, rfl, rfl, trivial, hl.sub hs, fun y hy => ⟨⟨⟨c1, y, 0, abvV c u0 (-1)⟩, ⟨hy.1, hy.2, Nat.le_trans (abvV_len hl.pl _ _) (by decide), Nat.zero_le _, fun u hu => abvV_mem hl.pl hu, hin, hcv⟩, ⟨rfl, rfl, rfl, rfl, rfl, trivial⟩, Ent.pick [1000, 77, 0] rfl rfl⟩, ?_⟩⟩
  rintro ⟨c1, r, k, l⟩ js ⟨q1, q2, q3, q4, q5, q6, q7⟩
  dsimp only at q1 q2 q3 q4 q5 q6 q7 ⊢
  refine br_decide (fun hlt => ?_) (fun hge => ⟨(), trivial, retI ?_, Ent.pick [2] rfl rfl⟩)
  · obtain ⟨p, hp⟩ : ∃ p, l[k]? = some p := ⟨_, List.getElem?_eq_getElem (by omega)⟩
    have hpS := q5 p (List.mem_of_getElem? hp)
    obtain ⟨b4, o4, e4⟩ := q1.src.some (show 0 < r.n by omega)
    have hlk : Look r.A ⟨b4, o4 + (k : Int).toNat * 1, none⟩ (.int .i64 p) := by
      have h1 := q1.srcd
      rw [e4] at h1
      have : o4 + (k : Int).toNat * 1 = o4 + k := by omega
      rw [this]
      exact h1.look (ints_get hp)
    rw [drop_get hp, comL] at q7
    obtain ⟨i, rfl, hi⟩ := isS_spec hpS
    obtain ⟨s, hsi⟩ := get_st hi
    obtain ⟨b5, o5, cap5, h3, hst⟩ := hl.sts
    obtain ⟨rr, ⟨vk, ve, vx, vt, vd, vi, vp, rfl, -⟩, hL⟩ := hst i s hsi
    have ek : kd c (i : Int).toNat = s.kind := kd_get hsi
    rw [ek] at q7
    refine ⟨ixq_ok 1 rfl rfl rfl rfl, ⟨b4, o4, r.n, r.cap, k⟩, by rw [e4], by dsimp only; omega, i, hlk, fun c2 => ⟨⟨rfl, rfl⟩, rfl, ⟨rfl, rfl⟩, _, _, _, h3, ⟨rfl, rfl⟩, ixq_ok 13 rfl rfl rfl rfl, ⟨b5, o5, nS c, cap5, i⟩, rfl, by dsimp only; omega, s.kind, hL 1 _ rfl, br_decide (fun h1 => ?_) (fun h1 => ?_)⟩⟩
    · rw [decide_eq_true h1] at q7
      have hs2 : Sub F (.pred (rest [(0, .cells c1 [.pointer (some ⟨b, 0, none⟩)] 34), (1, r.A), (2, F), (6020, .cells c2 [.int .i64 i] 3)] [])) := sub_rest 2 (by simp) rfl
      refine ⟨cfb_ok, rfl, ⟨clo2 c1 c2 b c i hpS, _, n, cap, u0 :: us⟩, rfl, rfl, ⟨hsrc, hle, fun u hu => q6 u hu⟩, ⟨hx.sub hs2, Look.rest (j := 0) (by simp) (Look.cells rfl), Look.rest (j := 6020) (by simp) (Look.cells rfl), hl.sub hs2⟩, fun _ _ => br_intro (fun h2 => ⟨⟨rfl, rfl⟩, (), trivial, retI ?_, Ent.pick [2] rfl rfl⟩) (fun h2 => ⟨by omega, ⟨c1, r, k + 1, l⟩, ⟨q1, q2, q3, by dsimp only; omega, q5, q6, ?_⟩, ⟨rfl, rfl, rfl, rfl, rfl, trivial⟩, Ent.pick [0, 1, 2] rfl rfl, by dsimp only; omega⟩)⟩
      · replace h2 : (!(u0 :: us).any fun s => !insB c s.toNat (i : Int).toNat) = true := h2
        rw [h2] at q7
        exact q7.symm
      · replace h2 : (!(u0 :: us).any fun s => !insB c s.toNat (i : Int).toNat) = false := h2
        rw [h2] at q7
        exact q7
    · rw [decide_eq_false h1] at q7
      exact ⟨by omega, ⟨c1, r, k + 1, l⟩, ⟨q1, q2, q3, by dsimp only; omega, q5, q6, q7⟩, ⟨rfl, rfl, rfl, rfl, rfl, trivial⟩, Ent.pick [0, 1, 2] rfl rfl, by dsimp only; omega⟩
  · rw [List.drop_eq_nil_of_le (by omega)] at q7
    exact q7.symm
set_option maxRecDepth 100000 in
theorem com_ok : FnOk Try.prog 24 comC :=
  fnOk (N := 43) (by kernel_rfl) Try.func24 rfl (by kernel_rfl) (fun _ => Nat.le_of_ble_eq_true rfl) com_H [] fun x F hc hr => Eq.mpr (by kernel_rfl) (com_vc x F hc hr)
end Go.Proofs.Ytkmdgnbfojkcnaa
