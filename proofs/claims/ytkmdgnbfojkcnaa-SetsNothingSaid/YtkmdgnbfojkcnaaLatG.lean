/- slices.Equal; together; a state's Initial. -/
import Derived.Test.YtkmdgnbfojkcnaaLatF
set_option linter.all false
namespace Go.Proofs.Ytkmdgnbfojkcnaa
open Go
set_option maxHeartbeats 1000000
structure EqX where
  a : Option Addr
  an : Nat
  ac : Nat
  xs : List Int
  b : Option Addr
  bn : Nat
  bc : Nat
  ys : List Int
def eqC : Con where
  X := EqX
  Y := Unit
  args x := [.slice x.a x.an x.ac, .slice x.b x.bn x.bc]
  pre _ := []
  cond x := IsSrc 1 (ints x.xs) x.a x.an ∧ IsSrc 1 (ints x.ys) x.b x.bn ∧ x.an * 8 ≤ 140737488351232
  rdc x F := Srcd F x.a (ints x.xs) ∧ Srcd F x.b (ints x.ys)
  rel _ _ := True
  val x _ := .returned (.bool (decide (x.xs = x.ys)))
  post _ _ := []
  rmono _ _ _ h hk := ⟨hk.1.sub h, hk.2.sub h⟩
def eqInv (x : EqX) (F : Atom) : Nat → Option Inv := fun
  | 0 => some { X := Nat, P := fun k => k ≤ x.an ∧ x.an = x.bn ∧ x.xs.take k = x.ys.take k, mu := fun k => x.an - k, lv := fun k => [(0, .slice x.a x.an x.ac), (1, .slice x.b x.bn x.bc), (12, .int .i64 x.an), (13, .int .i64 k)], st := fun _ => [F] }
  | _ => none
def eqOv (_x : EqX) (_F : Atom) : List (Nat × Nat × OH) := [(6, 2, .qo (ixQ 1)), (6, 3, .q [.ex 0 (.int .i64)]), (6, 6, .qo (ixQ 1)), (6, 7, .q [.ex 0 (.int .i64)])]
noncomputable def eq_H (x : Con.X eqC) (F : Atom) : Hints where
  op := hk ((eqOv x F) ++ [])
  inv := eqInv x F
  cut := (fun _ _ _ => none) x F
  ord := (fun _ => [])
open Go.Value (int slice string bool pointer agg tuple func) in
open Go.IntKind (i64) in
set_option maxRecDepth 100000 in
theorem eq_vc (x : EqX) (F : Atom) (hc : Con.cond eqC x) (hr : Con.rdc eqC x F) :
  Br ((↑x.an : Int) != (↑x.bn : Int)) (Done eqC x F (Ending.returned (bool false)) [(0, F)])
 ((∃ (x_1 : Nat), (x_1 ≤ x.an ∧ x.an = x.bn ∧ List.take x_1 x.xs = List.take x_1 x.ys) ∧ (slice x.a x.an x.ac = slice x.a x.an x.ac ∧ slice x.b x.bn x.bc = slice x.b x.bn x.bc ∧ int i64 (↑x.an : Int) = int i64 (↑x.an : Int) ∧ int i64 (0 : Int) = int i64 (↑x_1 : Int) ∧ True) ∧ Ent [(0, F)] [(0, F)]) ∧
 ∀ (x_1 : Nat) (js : Nat → Value),
 x_1 ≤ x.an ∧ x.an = x.bn ∧ List.take x_1 x.xs = List.take x_1 x.ys →
 Br (decide ((↑x_1 : Int) < (↑x.an : Int)))
 (true = true ∧
 QOpOk Try.prog (opIn Try.f51 6 2) (ixQ 1) ∧
 ∃ (x_2 : IxQX),
 [slice x.a x.an x.ac, int i64 (↑x_1 : Int)] = [slice (some ⟨x_2.b, x_2.o, none⟩) x_2.len x_2.cap, int i64 x_2.n] ∧
 ((0 : Int) ≤ x_2.n ∧ x_2.n < (↑x_2.len : Int)) ∧
 ∃ (n : Int),
 Look F ⟨x_2.b, x_2.o + x_2.n.toNat * 1, none⟩ (int i64 n) ∧
 QOpOk Try.prog (opIn Try.f51 6 6) (ixQ 1) ∧
 ∃ (x_3 : IxQX), [slice x.b x.bn x.bc, int i64 (↑x_1 : Int)] = [slice (some ⟨x_3.b, x_3.o, none⟩) x_3.len x_3.cap, int i64 x_3.n] ∧ ((0 : Int) ≤ x_3.n ∧ x_3.n < (↑x_3.len : Int)) ∧ ∃ (n_1 : Int), Look F ⟨x_3.b, x_3.o + x_3.n.toNat * 1, none⟩ (int i64 n_1) ∧ Br (n != n_1) (Done eqC x F (Ending.returned (bool false)) [(0, F)]) (((-9223372036854775808 : Int) ≤ (↑x_1 : Int) + (1 : Int) ∧ (↑x_1 : Int) + (1 : Int) ≤ (9223372036854775807 : Int)) ∧ ∃ (y : Nat), (y ≤ x.an ∧ x.an = x.bn ∧ List.take y x.xs = List.take y x.ys) ∧ (slice x.a x.an x.ac = slice x.a x.an x.ac ∧ slice x.b x.bn x.bc = slice x.b x.bn x.bc ∧ int i64 (↑x.an : Int) = int i64 (↑x.an : Int) ∧ int i64 ((↑x_1 : Int) + (1 : Int)) = int i64 (↑y : Int) ∧ True) ∧ Ent [(0, F)] [(0, F)] ∧ x.an - y < x.an - x_1))
 (Done eqC x F (Ending.returned (bool true)) [(0, F)])) := by
  obtain ⟨a, an, ac, xs, b, bn, bc, ys⟩ := x
  obtain ⟨ha, hb, hn⟩ := hc
  obtain ⟨hra, hrb⟩ := hr
  dsimp only at ha hb hn hra hrb
  have la : xs.length = an := by have := ha.len; rw [ints_length] at this; omega
  have lb : ys.length = bn := by have := hb.len; rw [ints_length] at this; omega
  refine br_intro (fun h => ⟨(), trivial, retB ?_, Ent.pick [0] rfl rfl⟩) (fun h => ?_)
  · refine (decide_eq_false fun e => ?_).symm
    dsimp only at e h
    subst e
    simp only [bne_iff_ne, ne_eq] at h
    omega
  have hab : an = bn := by
    dsimp only at h
    simp only [bne_eq_false_iff_eq] at h
    omega
  refine ⟨⟨0, ⟨Nat.zero_le _, hab, rfl⟩, ⟨rfl, rfl, rfl, rfl, trivial⟩, Ent.pick [0] rfl rfl⟩, ?_⟩
  rintro k js ⟨h1, h2, h3⟩
  dsimp only at h1 h2 h3 ⊢
  refine br_decide (fun hlt => ?_) (fun hge => ⟨(), trivial, retB (decide_eq_true ?_).symm, Ent.pick [0] rfl rfl⟩)
  · obtain ⟨b1, o1, rfl⟩ := ha.some (by omega)
    obtain ⟨b2, o2, rfl⟩ := hb.some (by omega)
    obtain ⟨u, hu⟩ : ∃ u, xs[k]? = some u := ⟨_, List.getElem?_eq_getElem (by omega)⟩
    obtain ⟨v, hv⟩ : ∃ v, ys[k]? = some v := ⟨_, List.getElem?_eq_getElem (by omega)⟩
    have e1 : ∀ o : Nat, o + (k : Int).toNat * 1 = o + k := fun o => by omega
    refine ⟨rfl, ixq_ok 1 rfl rfl rfl rfl, ⟨b1, o1, an, ac, k⟩, rfl, by dsimp only; omega, u, by dsimp only; rw [e1]; exact hra.look (ints_get hu), ixq_ok 1 rfl rfl rfl rfl, ⟨b2, o2, bn, bc, k⟩, rfl, by dsimp only; omega, v, by dsimp only; rw [e1]; exact hrb.look (ints_get hv), br_intro (fun hne => ⟨(), trivial, retB (decide_eq_false fun e => ?_).symm, Ent.pick [0] rfl rfl⟩) (fun he => ⟨by omega, k + 1, ⟨by omega, h2, ?_⟩, ⟨rfl, rfl, rfl, rfl, trivial⟩, Ent.pick [0] rfl rfl, by omega⟩)⟩
    · dsimp only at e
      subst e
      rw [hu] at hv
      cases hv
      simp at hne
    · have : u = v := by simpa using he
      subst this
      rw [List.take_add_one, List.take_add_one, h3, hu, hv]
  · have hk : k = an := by omega
    subst hk
    rw [List.take_of_length_le (by omega), List.take_of_length_le (by omega)] at h3
    exact h3
set_option maxRecDepth 100000 in
theorem eq_ok : FnOk Try.prog 51 eqC :=
  fnOk (N := 26) (by kernel_rfl) Try.func51 rfl (by kernel_rfl) (fun _ => Nat.le_of_ble_eq_true rfl) eq_H [] fun x F hc hr => Eq.mpr (by kernel_rfl) (eq_vc x F hc hr)
def lcaL (c : ChD) (b : Nat) : Nat → Int → Int
  | 0, p => p
  | f + 1, p => bif insB c b p.toNat then p else lcaL c b f (pr c p.toNat)
def lcaP (c : ChD) (b : Nat) (p : Int) : Int := lcaL c b (p + 1).toNat p
theorem lcaL_neg {c : ChD} (hp : Placed c) (b : Nat) : ∀ f, lcaL c b f (-1) = -1 := by
  intro f
  induction f with
  | zero => rfl
  | succ f ih =>
    rw [lcaL]
    have : pr c (-1 : Int).toNat = -1 := hp.p0
    rw [this, ih]
    cases insB c b (-1 : Int).toNat <;> rfl
theorem lcaL_fuel {c : ChD} (hp : Placed c) (b : Nat) : ∀ (f g : Nat) (p : Int), -1 ≤ p → (p + 1).toNat ≤ f → (p + 1).toNat ≤ g → p < nS c → lcaL c b f p = lcaL c b g p := by
  intro f
  induction f with
  | zero =>
    intro g p h0 h1 h2 hn
    have : p = -1 := by omega
    subst this
    rw [lcaL_neg hp, lcaL_neg hp]
  | succ f ih =>
    intro g p h0 h1 h2 hn
    by_cases hp0 : p = -1
    · subst hp0
      rw [lcaL_neg hp, lcaL_neg hp]
    · cases g with
      | zero => omega
      | succ g =>
        have hl := pr_lt hp (i := p.toNat) (by omega)
        rw [lcaL, lcaL, ih g _ (by omega) (by omega) (by omega) (by omega)]
theorem lcaP_yes {c : ChD} {b : Nat} {p : Nat} (h : insB c b p = true) : lcaP c b p = p := by
  unfold lcaP
  have e : ((p : Int) + 1).toNat = p + 1 := by omega
  rw [e, lcaL, Int.toNat_natCast, h]; rfl
theorem lcaP_no {c : ChD} (hp : Placed c) {b : Nat} {p : Nat} (hn : p < nS c) (h : insB c b p = false) : lcaP c b p = lcaP c b (pr c p) := by
  have hl := pr_lt hp hn
  unfold lcaP
  have e : ((p : Int) + 1).toNat = p + 1 := by omega
  rw [e, lcaL, Int.toNat_natCast, h, cond_false]
  exact lcaL_fuel hp b p _ _ (by omega) (by omega) (Nat.le_refl _) (by omega)
theorem ins_zero {c : ChD} (hp : Placed c) : ∀ {a : Nat}, 0 < a → a < nS c → insB c a 0 = true := by
  intro a
  induction a using Nat.strongRecOn with
  | _ a ih =>
    intro h0 ha
    have := hp.n2
    obtain ⟨_, _, h3, h4, _⟩ := hp.st a h0 ha
    rw [ins_step hp h0 ha (by omega)]
    by_cases hz : (pr c a).toNat = 0
    · rw [decide_eq_true hz]; rfl
    · rw [ih _ (show (pr c a).toNat < a by omega) (by omega) (by omega), Bool.or_true]
theorem plB_ok {c : ChD} (hp : Placed c) {a : Int} (h : isS c a = true) : isS c (plB c a) = true := by
  unfold plB
  obtain ⟨i, rfl, hi⟩ := isS_spec h
  rw [Int.toNat_natCast]
  by_cases hk : kd c i ≥ 4
  · rw [decide_eq_true hk, cond_true]
    have h0 : 0 < i := by
      rcases Nat.eq_zero_or_pos i with e | e
      · subst e; rw [hp.k0] at hk; omega
      · exact e
    obtain ⟨_, _, h3, h4, _⟩ := hp.st i h0 hi
    have : pr c i = ((pr c i).toNat : Int) := by omega
    rw [this]
    exact isS_nat (by omega)
  · rw [decide_eq_false hk]; exact h
def tgB (c : ChD) (a d : Int) : Bool := bif plB c a == plB c d then false else bif insB c (plB c a).toNat (plB c d).toNat then false else bif insB c (plB c d).toNat (plB c a).toNat then false else kd c (lcaP c (plB c d).toNat (pr c (plB c a).toNat)).toNat == 2
def tgC : Con where
  X := L2X
  Y := Unit
  args x := [.pointer (some ⟨x.b, 0, none⟩), .int .i64 x.a, .int .i64 x.d]
  pre _ := []
  cond x := isS x.c x.a = true ∧ isS x.c x.d = true
  rdc x F := LatIn F x.b x.c
  rel _ _ := True
  val x _ := .returned (.bool (tgB x.c x.a x.d))
  post _ _ := []
  rmono _ _ _ h hk := hk.sub h
def tgInv (x : L2X) (F : Atom) : Nat → Option Inv := fun
  | 0 => some { X := Nat, P := fun p => isS x.c p = true ∧ isS x.c (plB x.c x.d) = true ∧ 0 < (plB x.c x.d) ∧ tgB x.c x.a x.d = (kd x.c (lcaP x.c (plB x.c x.d).toNat p).toNat == 2), mu := fun p => p, lv := fun p => [(0, .pointer (some ⟨x.b, 0, none⟩)), (2, .int .i64 (plB x.c x.d)), (7, .int .i64 p)], st := fun _ => [F] }
  | _ => none
def tgOv (_x : L2X) (_F : Atom) : List (Nat × Nat × OH) := [(1, 2, .c plainC [] []), (1, 5, .c plainC [] []), (2, 7, .q [.ex 0 .slice]), (2, 9, .qo (ixQ 1)), (2, 10, .q [.ex 0 .slice]), (2, 12, .qo (ixQ 1)), (2, 13, .q [.ex 0 .bool]), (2, 19, .q [.ex 0 .slice]), (2, 21, .qo (ixQ 1)), (2, 22, .q [.ex 0 .slice]), (2, 24, .qo (ixQ 1)), (2, 25, .q [.ex 0 .bool]),
  (4, 4, .q [.ex 0 .slice]), (4, 6, .qo (ixQ 13)), (4, 8, .q [.ex 0 (.int .i64)]), (5, 3, .q [.ex 0 .slice]), (5, 5, .qo (ixQ 1)), (5, 6, .q [.ex 0 .slice]), (5, 8, .qo (ixQ 1)), (5, 9, .q [.ex 0 .bool]), (6, 4, .q [.ex 0 .slice]), (6, 6, .qo (ixQ 13)), (6, 8, .q [.ex 0 (.int .i64)]), (7, 4, .q [.ex 0 .slice]), (7, 6, .qo (ixQ 13)), (7, 8, .q [.ex 0 (.int .i64)])]
noncomputable def tg_H (x : Con.X tgC) (F : Atom) : Hints where
  op := hk ((tgOv x F) ++ [])
  inv := tgInv x F
  cut := (fun _ _ _ => none) x F
  ord := (fun _ => [])
open Go.Value (int slice string bool pointer agg tuple func) in
open Go.IntKind (i64) in
set_option maxRecDepth 100000 in
theorem tg_vc (x : L2X) (F : Atom) (hc : Con.cond tgC x) (hr : Con.rdc tgC x F) :
  FnOk Try.prog 119 plainC ∧
 true = true ∧
 ∃ (x_1 : LqX),
 [pointer (some ⟨x.b, 0, none⟩), int i64 x.a] = [pointer (some ⟨x_1.b, 0, none⟩), int i64 x_1.a] ∧
 ([] : List Atom) = [] ∧
 isS x_1.c x_1.a = true ∧
 LatIn (Atom.pred (rest [(0, F)] [])) x_1.b x_1.c ∧
 ∀ (y : Unit),
 True →
 FnOk Try.prog 119 plainC ∧
 true = true ∧
 ∃ (x_2 : LqX),
 [pointer (some ⟨x.b, 0, none⟩), int i64 x.d] = [pointer (some ⟨x_2.b, 0, none⟩), int i64 x_2.a] ∧
 ([] : List Atom) = [] ∧
 isS x_2.c x_2.a = true ∧
 LatIn (Atom.pred (rest [(0, F)] [])) x_2.b x_2.c ∧
 ∀ (y : Unit),
 True →
 Br (plB x_1.c x_1.a == plB x_2.c x_2.a) (Done tgC x F (Ending.returned (bool false)) [(0, F)])
 (∃ (a : Option Addr),
 ∃ (l : Nat),
 ∃ (c : Nat),
 Look F ⟨x.b, 8, none⟩ (slice a l c) ∧
 QOpOk Try.prog (opIn Try.f96 2 9) (ixQ 1) ∧
 ∃ (x_3 : IxQX),
 [slice a l c, int i64 (plB x_1.c x_1.a)] = [slice (some ⟨x_3.b, x_3.o, none⟩) x_3.len x_3.cap, int i64 x_3.n] ∧
 ((0 : Int) ≤ x_3.n ∧ x_3.n < (↑x_3.len : Int)) ∧
 ∃ (a : Option Addr),
 ∃ (l : Nat),
 ∃ (c : Nat),
 Look F ⟨x_3.b, x_3.o + x_3.n.toNat * 1, none⟩ (slice a l c) ∧
 QOpOk Try.prog (opIn Try.f96 2 12) (ixQ 1) ∧
 ∃ (x_4 : IxQX),
 [slice a l c, int i64 (plB x_2.c x_2.a)] = [slice (some ⟨x_4.b, x_4.o, none⟩) x_4.len x_4.cap, int i64 x_4.n] ∧
 ((0 : Int) ≤ x_4.n ∧ x_4.n < (↑x_4.len : Int)) ∧
 ∃ (b : Bool),
 Look F ⟨x_4.b, x_4.o + x_4.n.toNat * 1, none⟩ (bool b) ∧
 Br b (Done tgC x F (Ending.returned (bool false)) [(0, F)])
 (∃ (a : Option Addr),
 ∃ (l : Nat),
 ∃ (c : Nat),
 Look F ⟨x.b, 8, none⟩ (slice a l c) ∧
 QOpOk Try.prog (opIn Try.f96 2 21) (ixQ 1) ∧
 ∃ (x_5 : IxQX),
 [slice a l c, int i64 (plB x_2.c x_2.a)] = [slice (some ⟨x_5.b, x_5.o, none⟩) x_5.len x_5.cap, int i64 x_5.n] ∧
 ((0 : Int) ≤ x_5.n ∧ x_5.n < (↑x_5.len : Int)) ∧
 ∃ (a : Option Addr),
 ∃ (l : Nat),
 ∃ (c : Nat),
 Look F ⟨x_5.b, x_5.o + x_5.n.toNat * 1, none⟩ (slice a l c) ∧
 QOpOk Try.prog (opIn Try.f96 2 24) (ixQ 1) ∧
 ∃ (x_6 : IxQX),
 [slice a l c, int i64 (plB x_1.c x_1.a)] = [slice (some ⟨x_6.b, x_6.o, none⟩) x_6.len x_6.cap, int i64 x_6.n] ∧
 ((0 : Int) ≤ x_6.n ∧ x_6.n < (↑x_6.len : Int)) ∧
 ∃ (b : Bool),
 Look F ⟨x_6.b, x_6.o + x_6.n.toNat * 1, none⟩ (bool b) ∧
 Br b (Done tgC x F (Ending.returned (bool false)) [(0, F)])
 (∃ (a : Option Addr),
 ∃ (l : Nat),
 ∃ (c : Nat),
 Look F ⟨x.b, 3, none⟩ (slice a l c) ∧
 QOpOk Try.prog (opIn Try.f96 4 6) (ixQ 13) ∧
 ∃ (x_7 : IxQX),
 [slice a l c, int i64 (plB x_1.c x_1.a)] = [slice (some ⟨x_7.b, x_7.o, none⟩) x_7.len x_7.cap, int i64 x_7.n] ∧
 ((0 : Int) ≤ x_7.n ∧ x_7.n < (↑x_7.len : Int)) ∧
 ∃ (n : Int),
 Look F ⟨x_7.b, x_7.o + x_7.n.toNat * 13 + 2, none⟩ (int i64 n) ∧
 (∃ (x_8 : Nat), (isS x.c (↑x_8 : Int) = true ∧ isS x.c (plB x.c x.d) = true ∧ (0 : Int) < plB x.c x.d ∧ tgB x.c x.a x.d = (kd x.c (lcaP x.c (plB x.c x.d).toNat (↑x_8 : Int)).toNat == (2 : Int))) ∧ (pointer (some ⟨x.b, 0, none⟩) = pointer (some ⟨x.b, 0, none⟩) ∧ int i64 (plB x_2.c x_2.a) = int i64 (plB x.c x.d) ∧ int i64 n = int i64 (↑x_8 : Int) ∧ True) ∧ Ent [(0, F)] [(0, F)]) ∧
 ∀ (x_8 : Nat) (js : Nat → Value),
 isS x.c (↑x_8 : Int) = true ∧ isS x.c (plB x.c x.d) = true ∧ (0 : Int) < plB x.c x.d ∧ tgB x.c x.a x.d = (kd x.c (lcaP x.c (plB x.c x.d).toNat (↑x_8 : Int)).toNat == (2 : Int)) →
 ∃ (a : Option Addr),
 ∃ (l : Nat),
 ∃ (c : Nat),
 Look F ⟨x.b, 8, none⟩ (slice a l c) ∧
 QOpOk Try.prog (opIn Try.f96 5 5) (ixQ 1) ∧
 ∃ (x_9 : IxQX),
 [slice a l c, int i64 (plB x.c x.d)] = [slice (some ⟨x_9.b, x_9.o, none⟩) x_9.len x_9.cap, int i64 x_9.n] ∧
 ((0 : Int) ≤ x_9.n ∧ x_9.n < (↑x_9.len : Int)) ∧
 ∃ (a : Option Addr),
 ∃ (l : Nat),
 ∃ (c : Nat),
 Look F ⟨x_9.b, x_9.o + x_9.n.toNat * 1, none⟩ (slice a l c) ∧
 QOpOk Try.prog (opIn Try.f96 5 8) (ixQ 1) ∧
 ∃ (x_10 : IxQX),
 [slice a l c, int i64 (↑x_8 : Int)] = [slice (some ⟨x_10.b, x_10.o, none⟩) x_10.len x_10.cap, int i64 x_10.n] ∧
 ((0 : Int) ≤ x_10.n ∧ x_10.n < (↑x_10.len : Int)) ∧
 ∃ (b : Bool),
 Look F ⟨x_10.b, x_10.o + x_10.n.toNat * 1, none⟩ (bool b) ∧
 Br (!b)
 (∃ (a : Option Addr),
 ∃ (l : Nat),
 ∃ (c : Nat),
 Look F ⟨x.b, 3, none⟩ (slice a l c) ∧
 QOpOk Try.prog (opIn Try.f96 6 6) (ixQ 13) ∧
 ∃ (x_11 : IxQX),
 [slice a l c, int i64 (↑x_8 : Int)] = [slice (some ⟨x_11.b, x_11.o, none⟩) x_11.len x_11.cap, int i64 x_11.n] ∧
 ((0 : Int) ≤ x_11.n ∧ x_11.n < (↑x_11.len : Int)) ∧ ∃ (n : Int), Look F ⟨x_11.b, x_11.o + x_11.n.toNat * 13 + 2, none⟩ (int i64 n) ∧ ∃ (y : Nat), (isS x.c (↑y : Int) = true ∧ isS x.c (plB x.c x.d) = true ∧ (0 : Int) < plB x.c x.d ∧ tgB x.c x.a x.d = (kd x.c (lcaP x.c (plB x.c x.d).toNat (↑y : Int)).toNat == (2 : Int))) ∧ (pointer (some ⟨x.b, 0, none⟩) = pointer (some ⟨x.b, 0, none⟩) ∧ int i64 (plB x.c x.d) = int i64 (plB x.c x.d) ∧ int i64 n = int i64 (↑y : Int) ∧ True) ∧ Ent [(0, F)] [(0, F)] ∧ y < x_8)
 (∃ (a : Option Addr), ∃ (l : Nat), ∃ (c : Nat), Look F ⟨x.b, 3, none⟩ (slice a l c) ∧ QOpOk Try.prog (opIn Try.f96 7 6) (ixQ 13) ∧ ∃ (x_11 : IxQX), [slice a l c, int i64 (↑x_8 : Int)] = [slice (some ⟨x_11.b, x_11.o, none⟩) x_11.len x_11.cap, int i64 x_11.n] ∧ ((0 : Int) ≤ x_11.n ∧ x_11.n < (↑x_11.len : Int)) ∧ ∃ (n : Int), Look F ⟨x_11.b, x_11.o + x_11.n.toNat * 13 + 1, none⟩ (int i64 n) ∧ Done tgC x F (Ending.returned (bool (n == (2 : Int)))) [(0, F)])))) := by
  obtain ⟨b, c, a, d⟩ := x
  obtain ⟨ka, kdd⟩ := hc
  replace hr : LatIn F b c := hr
  dsimp only at ka kdd
  have hp := hr.pl
  have hs : Sub F (.pred (rest [(0, F)] [])) := sub_rest 0 (by simp) rfl
  have e1 : ∀ o k : Nat, o + (k : Int).toNat * 1 = o + k := fun o k => by omega
  obtain ⟨b2, o2, cap, h8, hab⟩ := hr.ab
  obtain ⟨b1, o1, cap1, h3, hst⟩ := hr.sts
  have pa := plB_ok hp ka
  have pd := plB_ok hp kdd
  refine ⟨plain_ok, rfl, ⟨b, c, a⟩, rfl, rfl, ka, hr.sub hs, fun _ _ => ⟨plain_ok, rfl, ⟨b, c, d⟩, rfl, rfl, kdd, hr.sub hs, fun _ _ => ?_⟩⟩
  have ht : ∀ v, tgB c a d = v → v = tgB c a d := fun v h => h.symm
  unfold tgB at ht
  dsimp only
  obtain ⟨i, ei, hi⟩ := isS_spec pa
  obtain ⟨j, ej, hj⟩ := isS_spec pd
  obtain ⟨b3, o3, cap3, hrow, hcell⟩ := hab i hi
  obtain ⟨b4, o4, cap4, hrow4, hcell4⟩ := hab j hj
  have hT : tgB c a d = bif (i : Int) == (j : Int) then false else bif insB c i j then false else bif insB c j i then false else kd c (lcaP c j (pr c i)).toNat == 2 := by
    unfold tgB; rw [ei, ej]; rfl
  rw [ei, ej]
  refine br_intro (fun h1 => ⟨(), trivial, retB ?_, Ent.pick [0] rfl rfl⟩) (fun h1 => ?_)
  · dsimp only; rw [hT, h1]; rfl
  rw [h1, cond_false] at hT
  refine ⟨_, _, _, h8, ixq_ok 1 rfl rfl rfl rfl, ⟨b2, o2, nS c, cap, i⟩, rfl, by dsimp only; omega, _, _, _, by dsimp only; rw [e1]; exact hrow, ixq_ok 1 rfl rfl rfl rfl, ⟨b3, o3, nS c, cap3, j⟩, rfl, by dsimp only; omega, _, by dsimp only; rw [e1]; exact hcell j hj, br_intro (fun h2 => ⟨(), trivial, retB ?_, Ent.pick [0] rfl rfl⟩) (fun h2 => ?_)⟩
  · dsimp only; rw [hT, h2]; rfl
  rw [h2, cond_false] at hT
  refine ⟨_, _, _, h8, ixq_ok 1 rfl rfl rfl rfl, ⟨b2, o2, nS c, cap, j⟩, rfl, by dsimp only; omega, _, _, _, by dsimp only; rw [e1]; exact hrow4, ixq_ok 1 rfl rfl rfl rfl, ⟨b4, o4, nS c, cap4, i⟩, rfl, by dsimp only; omega, _, by dsimp only; rw [e1]; exact hcell4 i hi, br_intro (fun h4 => ⟨(), trivial, retB ?_, Ent.pick [0] rfl rfl⟩) (fun h4 => ?_)⟩
  · dsimp only; rw [hT, h4]; rfl
  rw [h4, cond_false] at hT
  have hne : i ≠ j := fun e => by subst e; simp at h1
  have hi0 : 0 < i := by
    rcases Nat.eq_zero_or_pos i with e | e
    · subst e; rw [ins_zero hp (by omega) hj] at h4; cases h4
    · exact e
  have hj0 : 0 < j := by
    rcases Nat.eq_zero_or_pos j with e | e
    · subst e; rw [ins_zero hp (by omega) hi] at h2; cases h2
    · exact e
  obtain ⟨_, _, hp3, hp4, _⟩ := hp.st i hi0 hi
  obtain ⟨s, hsi⟩ := get_st hi
  obtain ⟨r, ⟨vk, ve, vx, vt, vd, vi, vp, rfl, -⟩, hL⟩ := hst i s hsi
  have ep : pr c i = s.parent := pr_get hsi
  refine ⟨_, _, _, h3, ixq_ok 13 rfl rfl rfl rfl, ⟨b1, o1, nS c, cap1, i⟩, rfl, by dsimp only; omega, s.parent, hL 2 _ rfl, ⟨(pr c i).toNat, ⟨isS_nat (by omega), isS_nat hj, by omega, ?_⟩, ⟨rfl, rfl, ?_, trivial⟩, Ent.pick [0] rfl rfl⟩, ?_⟩
  · rw [hT, Int.toNat_natCast, show (((pr c i).toNat : Nat) : Int) = pr c i by omega]
  · rw [← ep, show (((pr c i).toNat : Nat) : Int) = pr c i by omega]
  rintro p js ⟨q1, -, -, q4⟩
  obtain ⟨p', ep', hpn⟩ := isS_spec q1
  have : p' = p := by omega
  subst this
  rw [Int.toNat_natCast] at q4
  refine ⟨_, _, _, h8, ixq_ok 1 rfl rfl rfl rfl, ⟨b2, o2, nS c, cap, j⟩, rfl, by dsimp only; omega, _, _, _, by dsimp only; rw [e1]; exact hrow4, ixq_ok 1 rfl rfl rfl rfl, ⟨b4, o4, nS c, cap4, p'⟩, rfl, by dsimp only; omega, _, by dsimp only; rw [e1]; exact hcell4 p' hpn, ?_⟩
  obtain ⟨s2, hs2⟩ := get_st hpn
  obtain ⟨r2, ⟨vk, ve, vx, vt, vd, vi, vp, rfl, -⟩, hL2⟩ := hst p' s2 hs2
  refine br_intro (fun h5 => ?_) (fun h5 => ?_)
  · have h5' : insB c j p' = false := by simpa using h5
    have hp0 : 0 < p' := by
      rcases Nat.eq_zero_or_pos p' with e | e
      · subst e; rw [ins_zero hp hj0 hj] at h5'; cases h5'
      · exact e
    obtain ⟨_, _, hq3, hq4, _⟩ := hp.st p' hp0 hpn
    have ep2 : pr c p' = s2.parent := pr_get hs2
    have e3 : (((pr c p').toNat : Nat) : Int) = pr c p' := by omega
    refine ⟨_, _, _, h3, ixq_ok 13 rfl rfl rfl rfl, ⟨b1, o1, nS c, cap1, p'⟩, rfl, by dsimp only; omega, s2.parent, hL2 2 _ rfl, (pr c p').toNat, ⟨isS_nat (by omega), isS_nat hj, by omega, ?_⟩, ⟨rfl, rfl, ?_, trivial⟩, Ent.pick [0] rfl rfl, by omega⟩
    · rw [q4, lcaP_no hp hpn h5', Int.toNat_natCast, e3]
    · rw [← ep2, e3]
  · have h5' : insB c j p' = true := by simpa using h5
    rw [lcaP_yes h5', Int.toNat_natCast] at q4
    have ek : kd c p' = s2.kind := kd_get hs2
    refine ⟨_, _, _, h3, ixq_ok 13 rfl rfl rfl rfl, ⟨b1, o1, nS c, cap1, p'⟩, rfl, by dsimp only; omega, s2.kind, hL2 1 _ rfl, (), trivial, retB ?_, Ent.pick [0] rfl rfl⟩
    dsimp only; rw [q4, ek]
set_option maxRecDepth 100000 in
theorem tg_ok : FnOk Try.prog 96 tgC :=
  fnOk (N := 80) (by kernel_rfl) Try.func96 rfl (by kernel_rfl) (fun _ => Nat.le_of_ble_eq_true rfl) tg_H [] fun x F hc hr => Eq.mpr (by kernel_rfl) (tg_vc x F hc hr)
end Go.Proofs.Ytkmdgnbfojkcnaa
