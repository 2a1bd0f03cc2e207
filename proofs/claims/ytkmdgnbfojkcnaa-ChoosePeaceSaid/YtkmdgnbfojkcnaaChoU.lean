/- The document's answers: Held, Reached, Goals. -/
import Derived.Test.YtkmdgnbfojkcnaaChoT
import Derived.Test.YtkmdgnbfojkcnaaChoP
set_option linter.all false
namespace Go.Proofs.Ytkmdgnbfojkcnaa
open Go
set_option maxHeartbeats 1000000
structure RmR where
  c : ChD
  w : ChS
  m : Sl
  mem : List (List Int)
  h : Int
  tv : Nat → Sl
/-- What is read of a chart's states and transitions; 'tv': where the targets lie. -/
structure TgW (F : Atom) (c : ChD) (w : ChS) (tv : Nat → Sl) : Prop where
  sn : w.vs.n = nS c
  tn : w.vt.n = c.trs.length
  st : ∀ i, i < nS c → ∃ b0 o0, w.vs.a = some ⟨b0, o0, none⟩ ∧ Look F ⟨b0, o0 + i * 13 + 1, none⟩ (.int .i64 (kd c i)) ∧ Look F ⟨b0, o0 + i * 13 + 2, none⟩ (.int .i64 (pr c i)) ∧ Look F ⟨b0, o0 + i * 13 + 4, none⟩ (.int .i64 (ini c i))
  tr : ∀ i, i < c.trs.length → ∃ b0 o0, w.vt.a = some ⟨b0, o0, none⟩ ∧ Look F ⟨b0, o0 + i * 6 + 3, none⟩ (.slice (tv i).a (tgts c i).length (tv i).cap)
  tg : ∀ i, i < c.trs.length → IntsIn F (.slice (tv i).a (tgts c i).length (tv i).cap) (tgts c i)
theorem TgW.sub {A B : Atom} {c : ChD} {w : ChS} {tv : Nat → Sl} (hs : Sub A B) (h : TgW A c w tv) : TgW B c w tv := by
  refine ⟨h.sn, h.tn, fun i hi => ?_, fun i hi => ?_, fun i hi => (h.tg i hi).sub hs⟩
  · obtain ⟨b0, o0, h1, h2, h3, h4⟩ := h.st i hi
    exact ⟨b0, o0, h1, h2.sub hs, h3.sub hs, h4.sub hs⟩
  · obtain ⟨b0, o0, h1, h2⟩ := h.tr i hi
    exact ⟨b0, o0, h1, h2.sub hs⟩
theorem tg_w {F : Atom} {c : ChD} {w : ChS} (h : ChIn F w.v c) : ∃ tv, TgW F c w tv := by
  obtain ⟨⟨va, vn, vcap⟩, ⟨ta, tn, tc⟩, wb, wd, wi⟩ := w
  have h1 := h.sts
  have h2 := h.trs
  dsimp only [ChS.v] at h1 h2
  obtain ⟨n1, -, -⟩ := h1.num
  obtain ⟨m1, -, -⟩ := h2.num
  have hex : ∀ i, ∃ s : Sl, i < c.trs.length → (∃ b0 o0, ta = some ⟨b0, o0, none⟩ ∧ Look F ⟨b0, o0 + i * 6 + 3, none⟩ (.slice s.a (tgts c i).length s.cap)) ∧ IntsIn F (.slice s.a (tgts c i).length s.cap) (tgts c i) := fun i => by
    by_cases hi : i < c.trs.length
    · obtain ⟨t, ht⟩ : ∃ t, c.trs[i]? = some t := ⟨_, List.getElem?_eq_getElem hi⟩
      obtain ⟨b0, o0, r, rfl, ⟨ve, vt, rfl, p1, p2⟩, hL⟩ := h2.at' ht
      have e : tgts c i = t.targets := by unfold tgts; rw [Int.toNat_natCast, ht]; rfl
      obtain ⟨ka, kc, rfl, -⟩ := SlIn.open p2
      exact ⟨⟨ka, 0, kc⟩, fun _ => ⟨⟨b0, o0, rfl, by rw [e]; exact hL 3 _ rfl⟩, by rw [e]; exact p2⟩⟩
    · exact ⟨⟨none, 0, 0⟩, fun h => absurd h hi⟩
  have hex2 := Classical.axiomOfChoice hex
  obtain ⟨tv, htv⟩ := hex2
  refine ⟨tv, n1, m1, fun i hi => ?_, fun i hi => (htv i hi).1, fun i hi => (htv i hi).2⟩
  obtain ⟨s, hs⟩ := get_st hi
  obtain ⟨b0, o0, r, rfl, ⟨vk, ve, vx, vt, vd, vi, vp, rfl, -⟩, hL⟩ := h1.at' hs
  have e : ini c i = s.init := by unfold ini; rw [hs]; rfl
  exact ⟨b0, o0, rfl, by rw [kd_get hs]; exact hL 1 _ rfl, by rw [pr_get hs]; exact hL 2 _ rfl, by rw [e]; exact hL 4 _ rfl⟩
def heldC : Con where
  X := RmR
  Y := Row
  args x := [chAgg x.c x.w, .slice x.m.a x.m.n x.m.cap, .int .i64 x.h]
  pre _ := []
  cond x := newB x.c = true ∧ isS x.c x.h = true
  rdc x F := ChIn F x.w.v x.c ∧ MemIn F (.slice x.m.a x.m.n x.m.cap) x.mem
  rel x y := IsRow 3 1 (ints (remV x.c x.mem x.h)) y ∧ y.n * 8 ≤ 140737488351232
  val _ y := .returned (.slice y.a y.n y.cap)
  post _ y := [y.A]
  rmono _ _ _ h hk := ⟨hk.1.sub h, hk.2.sub h⟩
structure HeI where
  i : Nat
  b : Nat
  r : Row
def heInv (x : RmR) (F : Atom) : Nat → Option Inv := fun
  | 0 => some { X := HeI, P := fun i => i.i ≤ (x.mem.getD x.h.toNat []).length ∧ IsRow 3 1 (ints (rest0 (remG x.c x.h) ((x.mem.getD x.h.toNat []).take i.i))) i.r, mu := fun i => (x.mem.getD x.h.toNat []).length - i.i, lv := fun i => [(1, .slice x.m.a x.m.n x.m.cap), (2, .int .i64 x.h), (3, .pointer (some ⟨i.b, 0, none⟩)), (7, .slice i.r.a i.r.n i.r.cap), (8, .int .i64 i.i)], st := fun i => [.cells i.b (chS x.c x.w) 28, i.r.A, F] }
  | _ => none
def heOv (_x : RmR) (_F : Atom) : List (Nat × Nat × OH) := [(0, 0, .n 1000), (3, 8, .qo (ixQ 1)), (3, 9, .q [.ex 2 .slice]), (5, 2, .qo (ixQ 1)), (5, 3, .q [.ex 2 .slice]), (5, 5, .qo (ixQ 1)), (5, 6, .q [.ex 2 (.int .i64)]), (6, 5, .q [.atj 0]), (6, 11, .q [.atj 0]), (6, 13, .qo (ixQ 13)), (6, 15, .q [.ex 2 (.int .i64)]), (6, 19, .q (at8 0)), (6, 22, .q [.atj 0]), (6, 24, .qo (ixQ 13)), (6, 26, .q [.ex 2 (.int .i64)]), (6, 27, .c rInC [] []), (7, 2, .n 8020), (7, 3, .o (apC 3 1 8) [1] [1])]
noncomputable def he_H (x : Con.X heldC) (F : Atom) : Hints where
  op := hk ((heOv x F) ++ [])
  inv := heInv x F
  cut := (fun _ _ _ => none) x F
  ord := (fun _ => [])
open Go.Value (int slice string bool pointer agg tuple func) in
open Go.IntKind (i64) in
set_option maxRecDepth 100000 in
theorem he_vc (x : RmR) (F : Atom) (hc : Con.cond heldC x) (hr : Con.rdc heldC x F) :
  ∀ (b : Nat),
 (∃ (x_1 : HeI),
 (x_1.i ≤ (x.mem.getD x.h.toNat []).length ∧ IsRow 3 1 (ints (rest0 (remG x.c x.h) (List.take x_1.i (x.mem.getD x.h.toNat [])))) x_1.r) ∧
 (slice x.m.a x.m.n x.m.cap = slice x.m.a x.m.n x.m.cap ∧ int i64 x.h = int i64 x.h ∧ pointer (some ⟨b, 0, none⟩) = pointer (some ⟨x_1.b, 0, none⟩) ∧ slice none 0 0 = slice x_1.r.a x_1.r.n x_1.r.cap ∧ int i64 (0 : Int) = int i64 (↑x_1.i : Int) ∧ True) ∧
 Ent [(0, F), (1000, Atom.cells b (chS x.c x.w) 28)] [(0, Atom.cells x_1.b (chS x.c x.w) 28), (1, x_1.r.A), (2, F)]) ∧
 ∀ (x_1 : HeI) (js : Nat → Value),
 x_1.i ≤ (x.mem.getD x.h.toNat []).length ∧ IsRow 3 1 (ints (rest0 (remG x.c x.h) (List.take x_1.i (x.mem.getD x.h.toNat [])))) x_1.r →
 Br (decide (x.h < (↑x.m.n : Int)))
 (QOpOk Try.prog (opIn Try.f140 3 8) (ixQ 1) ∧
 ∃ (x_2 : IxQX),
 [slice x.m.a x.m.n x.m.cap, int i64 x.h] = [slice (some ⟨x_2.b, x_2.o, none⟩) x_2.len x_2.cap, int i64 x_2.n] ∧
 ((0 : Int) ≤ x_2.n ∧ x_2.n < (↑x_2.len : Int)) ∧
 ∃ (a : Option Addr),
 ∃ (l : Nat),
 ∃ (c : Nat),
 Look F ⟨x_2.b, x_2.o + x_2.n.toNat * 1, none⟩ (slice a l c) ∧
 Br (decide ((↑x_1.i : Int) < (↑l : Int)))
 (QOpOk Try.prog (opIn Try.f140 5 2) (ixQ 1) ∧
 ∃ (x_3 : IxQX),
 [slice x.m.a x.m.n x.m.cap, int i64 x.h] = [slice (some ⟨x_3.b, x_3.o, none⟩) x_3.len x_3.cap, int i64 x_3.n] ∧
 ((0 : Int) ≤ x_3.n ∧ x_3.n < (↑x_3.len : Int)) ∧
 ∃ (a : Option Addr),
 ∃ (l : Nat),
 ∃ (c : Nat),
 Look F ⟨x_3.b, x_3.o + x_3.n.toNat * 1, none⟩ (slice a l c) ∧
 QOpOk Try.prog (opIn Try.f140 5 5) (ixQ 1) ∧
 ∃ (x_4 : IxQX),
 [slice a l c, int i64 (↑x_1.i : Int)] = [slice (some ⟨x_4.b, x_4.o, none⟩) x_4.len x_4.cap, int i64 x_4.n] ∧
 ((0 : Int) ≤ x_4.n ∧ x_4.n < (↑x_4.len : Int)) ∧
 ∃ (n : Int),
 Look F ⟨x_4.b, x_4.o + x_4.n.toNat * 1, none⟩ (int i64 n) ∧
 true = true ∧
 Br (decide (n > (0 : Int)))
 (Same ⟨x_1.b, 3, none⟩ x_1.b ∧
 Br (decide (n < (↑x.w.vs.n : Int)))
 (Same ⟨x_1.b, 3, none⟩ x_1.b ∧
 QOpOk Try.prog (opIn Try.f140 6 13) (ixQ 13) ∧
 ∃ (x_5 : IxQX),
 [slice x.w.vs.a x.w.vs.n x.w.vs.cap, int i64 n] = [slice (some ⟨x_5.b, x_5.o, none⟩) x_5.len x_5.cap, int i64 x_5.n] ∧
 ((0 : Int) ≤ x_5.n ∧ x_5.n < (↑x_5.len : Int)) ∧
 ∃ (n_1 : Int),
 Look F ⟨x_5.b, x_5.o + x_5.n.toNat * 13 + 1, none⟩ (int i64 n_1) ∧
 Br (decide (n_1 < (4 : Int)))
 (Same ⟨x_1.b, 0, none⟩ x_1.b ∧
 Same ⟨x_1.b, 1, none⟩ x_1.b ∧
 Same ⟨x_1.b, 2, none⟩ x_1.b ∧
 Same ⟨x_1.b, 3, none⟩ x_1.b ∧
 Same ⟨x_1.b, 4, none⟩ x_1.b ∧
 Same ⟨x_1.b, 5, none⟩ x_1.b ∧
 Same ⟨x_1.b, 6, none⟩ x_1.b ∧
 Same ⟨x_1.b, 7, none⟩ x_1.b ∧
 Same ⟨x_1.b, 3, none⟩ x_1.b ∧
 QOpOk Try.prog (opIn Try.f140 6 24) (ixQ 13) ∧
 ∃ (x_6 : IxQX),
 [slice x.w.vs.a x.w.vs.n x.w.vs.cap, int i64 x.h] = [slice (some ⟨x_6.b, x_6.o, none⟩) x_6.len x_6.cap, int i64 x_6.n] ∧
 ((0 : Int) ≤ x_6.n ∧ x_6.n < (↑x_6.len : Int)) ∧
 ∃ (n_2 : Int),
 Look F ⟨x_6.b, x_6.o + x_6.n.toNat * 13 + 2, none⟩ (int i64 n_2) ∧
 FnOk Try.prog 19 rInC ∧
 true = true ∧
 ∃ (x_7 : RfX),
 [agg { toList := (chS x.c x.w) }, int i64 n, int i64 n_2] = [agg { toList := (chS x_7.c x_7.w) }, int i64 x_7.a, int i64 x_7.d] ∧
 ([] : List Atom) = [] ∧
 Placed x_7.c ∧
 ChIn (Atom.pred (rest [(0, Atom.cells x_1.b (chS x.c x.w) 28), (1, x_1.r.A), (2, F)] [])) x_7.w.v x_7.c ∧
 ∀ (y : Unit),
 True →
 Br (inB x_7.c x_7.a x_7.d)
 (∀ (b : Nat),
 OpOk Try.prog (opIn Try.f140 7 3) (apC (3 : TypeId) 1 8) ∧
 true = true ∧
 ∃ (x_8 : ApX),
 [slice x_1.r.a x_1.r.n x_1.r.cap, slice (some ⟨b, 0, none⟩) 1 1] = [slice x_8.r.a x_8.r.n x_8.r.cap, slice x_8.a x_8.m x_8.c] ∧
 [x_1.r.A] = [x_8.r.A] ∧
 (IsRow 3 1 x_8.cs x_8.r ∧ x_8.ys.length = x_8.m * 1 ∧ (∀ (u : Value), u ∈ x_8.ys → u.oneCell' = true) ∧ (x_8.r.n + x_8.m) * 8 ≤ 140737488355328 ∧ x_8.r.n + x_8.m ≤ 9223372036854775807 ∧ (x_8.a = none → x_8.m = 0 ∧ x_8.c = 0)) ∧
 (∀ (a : Addr), x_8.a = some a → Seg (Atom.pred (rest [(0, Atom.cells x_1.b (chS x.c x.w) 28), (1, x_1.r.A), (2, F), (8020, Atom.cells b [int i64 n] 3)] [1])) a x_8.ys) ∧
 ∀ (y : Row),
 IsRow 3 1 (x_8.cs ++ x_8.ys) y ∧ y.n = x_8.r.n + x_8.m ∧ (x_8.m = 0 → y = x_8.r) →
 ((-9223372036854775808 : Int) ≤ (↑x_1.i : Int) + (1 : Int) ∧ (↑x_1.i : Int) + (1 : Int) ≤ (9223372036854775807 : Int)) ∧
 ∃ (y_1 : HeI),
 (y_1.i ≤ (x.mem.getD x.h.toNat []).length ∧ IsRow 3 1 (ints (rest0 (remG x.c x.h) (List.take y_1.i (x.mem.getD x.h.toNat [])))) y_1.r) ∧
 (slice x.m.a x.m.n x.m.cap = slice x.m.a x.m.n x.m.cap ∧ int i64 x.h = int i64 x.h ∧ pointer (some ⟨x_1.b, 0, none⟩) = pointer (some ⟨y_1.b, 0, none⟩) ∧ slice y.a y.n y.cap = slice y_1.r.a y_1.r.n y_1.r.cap ∧ int i64 ((↑x_1.i : Int) + (1 : Int)) = int i64 (↑y_1.i : Int) ∧ True) ∧
 Ent [(0, Atom.cells x_1.b (chS x.c x.w) 28), (1, y.A), (2, F), (8020, Atom.cells b [int i64 n] 3)] [(0, Atom.cells y_1.b (chS x.c x.w) 28), (1, y_1.r.A), (2, F)] ∧
 (x.mem.getD x.h.toNat []).length - y_1.i < (x.mem.getD x.h.toNat []).length - x_1.i)
 (((-9223372036854775808 : Int) ≤ (↑x_1.i : Int) + (1 : Int) ∧ (↑x_1.i : Int) + (1 : Int) ≤ (9223372036854775807 : Int)) ∧
 ∃ (y : HeI),
 (y.i ≤ (x.mem.getD x.h.toNat []).length ∧ IsRow 3 1 (ints (rest0 (remG x.c x.h) (List.take y.i (x.mem.getD x.h.toNat [])))) y.r) ∧
 (slice x.m.a x.m.n x.m.cap = slice x.m.a x.m.n x.m.cap ∧ int i64 x.h = int i64 x.h ∧ pointer (some ⟨x_1.b, 0, none⟩) = pointer (some ⟨y.b, 0, none⟩) ∧ slice x_1.r.a x_1.r.n x_1.r.cap = slice y.r.a y.r.n y.r.cap ∧ int i64 ((↑x_1.i : Int) + (1 : Int)) = int i64 (↑y.i : Int) ∧ True) ∧
 Ent [(0, Atom.cells x_1.b (chS x.c x.w) 28), (1, x_1.r.A), (2, F)] [(0, Atom.cells y.b (chS x.c x.w) 28), (1, y.r.A), (2, F)] ∧ (x.mem.getD x.h.toNat []).length - y.i < (x.mem.getD x.h.toNat []).length - x_1.i))
 (((-9223372036854775808 : Int) ≤ (↑x_1.i : Int) + (1 : Int) ∧ (↑x_1.i : Int) + (1 : Int) ≤ (9223372036854775807 : Int)) ∧
 ∃ (y : HeI),
 (y.i ≤ (x.mem.getD x.h.toNat []).length ∧ IsRow 3 1 (ints (rest0 (remG x.c x.h) (List.take y.i (x.mem.getD x.h.toNat [])))) y.r) ∧
 (slice x.m.a x.m.n x.m.cap = slice x.m.a x.m.n x.m.cap ∧ int i64 x.h = int i64 x.h ∧ pointer (some ⟨x_1.b, 0, none⟩) = pointer (some ⟨y.b, 0, none⟩) ∧ slice x_1.r.a x_1.r.n x_1.r.cap = slice y.r.a y.r.n y.r.cap ∧ int i64 ((↑x_1.i : Int) + (1 : Int)) = int i64 (↑y.i : Int) ∧ True) ∧
 Ent [(0, Atom.cells x_1.b (chS x.c x.w) 28), (1, x_1.r.A), (2, F)] [(0, Atom.cells y.b (chS x.c x.w) 28), (1, y.r.A), (2, F)] ∧ (x.mem.getD x.h.toNat []).length - y.i < (x.mem.getD x.h.toNat []).length - x_1.i))
 (((-9223372036854775808 : Int) ≤ (↑x_1.i : Int) + (1 : Int) ∧ (↑x_1.i : Int) + (1 : Int) ≤ (9223372036854775807 : Int)) ∧
 ∃ (y : HeI),
 (y.i ≤ (x.mem.getD x.h.toNat []).length ∧ IsRow 3 1 (ints (rest0 (remG x.c x.h) (List.take y.i (x.mem.getD x.h.toNat [])))) y.r) ∧
 (slice x.m.a x.m.n x.m.cap = slice x.m.a x.m.n x.m.cap ∧ int i64 x.h = int i64 x.h ∧ pointer (some ⟨x_1.b, 0, none⟩) = pointer (some ⟨y.b, 0, none⟩) ∧ slice x_1.r.a x_1.r.n x_1.r.cap = slice y.r.a y.r.n y.r.cap ∧ int i64 ((↑x_1.i : Int) + (1 : Int)) = int i64 (↑y.i : Int) ∧ True) ∧
 Ent [(0, Atom.cells x_1.b (chS x.c x.w) 28), (1, x_1.r.A), (2, F)] [(0, Atom.cells y.b (chS x.c x.w) 28), (1, y.r.A), (2, F)] ∧ (x.mem.getD x.h.toNat []).length - y.i < (x.mem.getD x.h.toNat []).length - x_1.i))
 (((-9223372036854775808 : Int) ≤ (↑x_1.i : Int) + (1 : Int) ∧ (↑x_1.i : Int) + (1 : Int) ≤ (9223372036854775807 : Int)) ∧
 ∃ (y : HeI),
 (y.i ≤ (x.mem.getD x.h.toNat []).length ∧ IsRow 3 1 (ints (rest0 (remG x.c x.h) (List.take y.i (x.mem.getD x.h.toNat [])))) y.r) ∧
 (slice x.m.a x.m.n x.m.cap = slice x.m.a x.m.n x.m.cap ∧ int i64 x.h = int i64 x.h ∧ pointer (some ⟨x_1.b, 0, none⟩) = pointer (some ⟨y.b, 0, none⟩) ∧ slice x_1.r.a x_1.r.n x_1.r.cap = slice y.r.a y.r.n y.r.cap ∧ int i64 ((↑x_1.i : Int) + (1 : Int)) = int i64 (↑y.i : Int) ∧ True) ∧
 Ent [(0, Atom.cells x_1.b (chS x.c x.w) 28), (1, x_1.r.A), (2, F)] [(0, Atom.cells y.b (chS x.c x.w) 28), (1, y.r.A), (2, F)] ∧ (x.mem.getD x.h.toNat []).length - y.i < (x.mem.getD x.h.toNat []).length - x_1.i))
 (Done heldC x F (Ending.returned (slice x_1.r.a x_1.r.n x_1.r.cap)) [(0, Atom.cells x_1.b (chS x.c x.w) 28), (1, x_1.r.A), (2, F)]))
 (Done heldC x F (Ending.returned (slice x_1.r.a x_1.r.n x_1.r.cap)) [(0, Atom.cells x_1.b (chS x.c x.w) 28), (1, x_1.r.A), (2, F)]) := by
  obtain ⟨c, w, ⟨ma, mn, mc⟩, mem, h, tv⟩ := x
  obtain ⟨hnew, hh⟩ := hc
  obtain ⟨hr, hm⟩ := hr
  dsimp only at hnew hh hr hm ⊢
  have hp := (newB_spec.1 hnew).1
  obtain ⟨tv, htw⟩ := tg_w hr
  obtain ⟨q, rfl, hq⟩ := isS_spec hh
  obtain ⟨n1, n2, n3⟩ := SlIn.num hm
  have hsn := htw.sn
  intro b0
  refine ⟨⟨⟨0, b0, nilRow⟩, ⟨Nat.zero_le _, .nil rfl⟩, ⟨rfl, rfl, rfl, rfl, rfl, trivial⟩, Ent.pick [1000, 77, 0] rfl rfl⟩, ?_⟩
  clear b0
  rintro ⟨i, b, r⟩ js ⟨hi, hrow⟩
  dsimp only at hi hrow ⊢
  rw [Int.toNat_natCast] at hi hrow ⊢
  refine br_decide (fun h1 => ?_) (fun h1 => ⟨r, ⟨?_, ?_⟩, rfl, Ent.pick [1, 2] rfl rfl⟩)
  · obtain ⟨m, hmi⟩ : ∃ m, mem[q]? = some m := ⟨_, List.getElem?_eq_getElem (by omega)⟩
    have hgd : mem.getD q [] = m := by rw [List.getD_eq_getElem?_getD, hmi]; rfl
    rw [hgd] at hi hrow ⊢
    obtain ⟨b0, o0, rr, rfl, ⟨u, rfl, hI⟩, hL⟩ := SlIn.at' hm hmi
    obtain ⟨ka, kcap, rfl, -⟩ := SlIn.open hI
    obtain ⟨g1, g2, g3, g4, g5⟩ := hI.srcd
    have eo : o0 + (q : Int).toNat * 1 = o0 + q * 1 + 0 := by omega
    have hrl : r.n ≤ i := by
      have h7 := hrow.len
      rw [ints_length] at h7
      have h8 : (rest0 (remG c q) (m.take i)).length ≤ (m.take i).length := List.length_filter_le _ _
      have := List.length_take_le i m
      omega
    have hlk : Look F ⟨b0, o0 + (q : Int).toNat * 1, none⟩ (.slice ka m.length kcap) := by rw [eo]; exact hL 0 _ rfl
    refine ⟨ixq_ok 1 rfl rfl rfl rfl, ⟨b0, o0, mn, mc, q⟩, rfl, by dsimp only; omega, _, _, _, hlk, br_decide (fun h2 => ?_) (fun h2 => ⟨r, ⟨?_, ?_⟩, rfl, Ent.pick [1, 2] rfl rfl⟩)⟩
    · obtain ⟨s, hs⟩ : ∃ s, m[i]? = some s := ⟨_, List.getElem?_eq_getElem (by omega)⟩
      obtain ⟨b2, o2, rfl⟩ := g1.some (by omega)
      have e2 : o2 + (i : Int).toNat * 1 = o2 + i := by omega
      have hst := rest0_take (g := remG c q) hs
      have skip : remG c q s = true → rest0 (remG c q) (m.take (i + 1)) = rest0 (remG c q) (m.take i) := fun h => by rw [hst, h]; simp
      have goSkip : remG c q s = true → (-9223372036854775808 ≤ (i : Int) + 1 ∧ (i : Int) + 1 ≤ 9223372036854775807) ∧ ∃ y : HeI, (y.i ≤ m.length ∧ IsRow 3 1 (ints (rest0 (remG c q) (m.take y.i))) y.r) ∧ (Value.slice (some ⟨b0, o0, none⟩) mn mc = Value.slice (some ⟨b0, o0, none⟩) mn mc ∧ Value.int .i64 (q : Int) = Value.int .i64 (q : Int) ∧ Value.pointer (some ⟨b, 0, none⟩) = Value.pointer (some ⟨y.b, 0, none⟩) ∧ Value.slice r.a r.n r.cap = Value.slice y.r.a y.r.n y.r.cap ∧ Value.int .i64 ((i : Int) + 1) = Value.int .i64 (y.i : Int) ∧ True) ∧ Ent (ofL [.cells b (chS c w) 28, r.A, F]) (ofL [.cells y.b (chS c w) 28, y.r.A, F]) ∧ m.length - y.i < m.length - i := fun hg =>
        ⟨⟨by omega, by omega⟩, ⟨i + 1, b, r⟩, ⟨by dsimp only; omega, by dsimp only; rw [skip hg]; exact hrow⟩, ⟨rfl, rfl, rfl, rfl, rfl, trivial⟩, Ent.pick [0, 1, 2] rfl rfl, by dsimp only; omega⟩
      refine ⟨ixq_ok 1 rfl rfl rfl rfl, ⟨b0, o0, mn, mc, q⟩, rfl, by dsimp only; omega, _, _, _, hlk, ixq_ok 1 rfl rfl rfl rfl, ⟨b2, o2, _, kcap, i⟩, rfl, by dsimp only; omega, s, by dsimp only; rw [e2]; exact g2.look (ints_get hs), rfl, br_decide (fun h3 => ⟨⟨rfl, rfl⟩, br_decide (fun h4 => ?_) (fun h4 => goSkip ?_)⟩) (fun h3 => goSkip ?_)⟩
      · obtain ⟨p, rfl⟩ : ∃ p : Nat, s = p := ⟨s.toNat, by omega⟩
        obtain ⟨b3, o3, ea3, L1, -, -⟩ := htw.st p (by omega)
        obtain ⟨b4, o4, ea4, -, L2, -⟩ := htw.st q hq
        have eh : hisB c p = decide (kd c p ≥ 4) := by unfold hisB; rw [Int.toNat_natCast]
        refine ⟨⟨rfl, rfl⟩, ixq_ok 13 rfl rfl rfl rfl, ⟨b3, o3, w.vs.n, w.vs.cap, p⟩, by rw [ea3], by dsimp only; omega, kd c p, L1, br_decide (fun h5 => ?_) (fun h5 => goSkip ?_)⟩
        · iterate 9 refine ⟨⟨rfl, rfl⟩, ?_⟩
          have hsub : Sub F (.pred (rest (ofL [.cells b (chS c w) 28, r.A, F]) [])) := sub_rest 2 (by simp) rfl
          refine ⟨ixq_ok 13 rfl rfl rfl rfl, ⟨b4, o4, w.vs.n, w.vs.cap, q⟩, by rw [ea4], by dsimp only; omega, pr c q, L2, rin_ok, rfl, ⟨c, w, p, pr c q⟩, rfl, rfl, hp, hr.sub hsub, fun _ _ => br_intro (fun h6 b7 => ?_) (fun h6 => goSkip ?_)⟩
          · dsimp only at h6
            have hg : remG c q p = false := by
              unfold remG
              rw [eh, decide_eq_false (show ¬ (p : Int) < 1 by omega), decide_eq_false (show ¬ (p : Int) ≥ nS c by omega), decide_eq_false (show ¬ kd c p ≥ 4 by omega), Int.toNat_natCast, h6]; rfl
            refine ⟨append_ok (P := Try.prog) 1 8 rfl rfl rfl rfl rfl rfl rfl (by decide), rfl, ⟨r, _, some ⟨b7, 0, none⟩, 1, 1, [.int .i64 p]⟩, rfl, rfl, ⟨hrow, rfl, by simp [Value.oneCell'], by dsimp only; omega, by dsimp only; omega, by simp⟩, ?_, fun z hz => ⟨⟨by omega, by omega⟩, ⟨i + 1, b, z⟩, ⟨by dsimp only; omega, ?_⟩, ⟨rfl, rfl, rfl, rfl, rfl, trivial⟩, Ent.pick [0, 1, 2] rfl rfl, by dsimp only; omega⟩⟩
            · intro ad e
              cases e
              exact Seg.rest (j := 8020) (by simp) (Seg.cells fun j u h => by rw [Nat.zero_add]; exact h)
            · dsimp only
              rw [hst, hg, cond_false, ints_append]
              exact hz.1
          · dsimp only at h6
            unfold remG
            rw [Int.toNat_natCast, h6]; simp
        · unfold remG
          rw [eh, decide_eq_true (show kd c p ≥ 4 by omega)]; simp
      · unfold remG
        rw [decide_eq_true (show s ≥ nS c by omega)]; simp
      · unfold remG
        rw [decide_eq_true (show s < 1 by omega)]; simp
    · show IsRow 3 1 (ints (remV c mem q)) r
      unfold remV
      rw [Int.toNat_natCast, hgd]
      rw [List.take_of_length_le (by omega)] at hrow
      exact hrow
    · omega
  · have hnone : mem.getD q [] = [] := by rw [List.getD_eq_getElem?_getD, List.getElem?_eq_none (by omega)]; rfl
    show IsRow 3 1 (ints (remV c mem q)) r
    unfold remV
    rw [Int.toNat_natCast, hnone]
    rw [hnone] at hrow
    simpa using hrow
  · have hnone : mem.getD q [] = [] := by rw [List.getD_eq_getElem?_getD, List.getElem?_eq_none (by omega)]; rfl
    rw [hnone] at hrow
    have h7 := hrow.len
    rw [ints_length] at h7
    simp [rest0] at h7
    omega
set_option maxRecDepth 100000 in
theorem he_ok : FnOk Try.prog 140 heldC :=
  fnOk (N := 66) (by kernel_rfl) Try.func140 rfl (by kernel_rfl) (fun _ => Nat.le_of_ble_eq_true rfl) he_H [] fun x F hc hr => Eq.mpr (by kernel_rfl) (he_vc x F hc hr)
structure ReY where
  a : Option Addr
  n : Nat
  cap : Nat
  G : Atom
def reC : Con where
  X := RmR
  Y := ReY
  args x := [chAgg x.c x.w, .slice x.m.a x.m.n x.m.cap, .int .i64 x.h]
  pre _ := []
  cond x := newB x.c = true ∧ isS x.c x.h = true
  rdc x F := ChIn F x.w.v x.c ∧ TgW F x.c x.w x.tv ∧ MemIn F (.slice x.m.a x.m.n x.m.cap) x.mem
  rel x y := IsSrc 1 (ints (gl1 x.c x.mem x.h)) y.a y.n ∧ y.n * 8 ≤ 140737488351232 ∧ (Srcd y.G y.a (ints (gl1 x.c x.mem x.h)) ∨ ∃ i, i < x.c.trs.length ∧ y.a = (x.tv i).a ∧ gl1 x.c x.mem x.h = tgts x.c i)
  val _ y := .returned (.slice y.a y.n y.cap)
  post _ y := [y.G]
  rmono _ _ _ h hk := ⟨hk.1.sub h, hk.2.1.sub h, hk.2.2.sub h⟩
def reOv (_x : RmR) (_F : Atom) : List (Nat × Nat × OH) := [(0, 0, .n 1000), (1, 1, .q [.atj 1000]), (1, 3, .qo (ixQ 13)), (1, 5, .q [.ex 0 (.int .i64)]), (2, 1, .n 3010), (3, 0, .q (at8 1000)), (3, 3, .c heldC [] [4030]), (6, 1, .q [.atj 1000]), (6, 3, .q [.atj 1000]), (6, 5, .qo (ixQ 13)), (6, 7, .q [.ex 0 (.int .i64)]), (6, 8, .qo (ixQ 6)), (6, 10, .q [.ex 0 .slice])]
noncomputable def re_H (x : Con.X reC) (F : Atom) : Hints where
  op := hk ((reOv x F) ++ [])
  inv := (fun _ _ _ => none) x F
  cut := (fun _ _ _ => none) x F
  ord := (fun _ => [])
open Go.Value (int slice string bool pointer agg tuple func) in
open Go.IntKind (i64) in
set_option maxRecDepth 100000 in
theorem re_vc (x : RmR) (F : Atom) (hc : Con.cond reC x) (hr : Con.rdc reC x F) :
  ∀ (b : Nat),
 Same ⟨b, 3, none⟩ b ∧
 QOpOk Try.prog (opIn Try.f128 1 3) (ixQ 13) ∧
 ∃ (x_1 : IxQX),
 [slice x.w.vs.a x.w.vs.n x.w.vs.cap, int i64 x.h] = [slice (some ⟨x_1.b, x_1.o, none⟩) x_1.len x_1.cap, int i64 x_1.n] ∧
 ((0 : Int) ≤ x_1.n ∧ x_1.n < (↑x_1.len : Int)) ∧
 ∃ (n : Int),
 Look F ⟨x_1.b, x_1.o + x_1.n.toNat * 13 + 1, none⟩ (int i64 n) ∧
 Br (decide (n < (4 : Int))) (∀ (b_1 : Nat), Done reC x F (Ending.returned (slice (some ⟨b_1, 0, none⟩) 1 1)) [(0, F), (1000, Atom.cells b (chS x.c x.w) 28), (3010, Atom.cells b_1 [int i64 x.h] 3)])
 (Same ⟨b, 0, none⟩ b ∧
 Same ⟨b, 1, none⟩ b ∧
 Same ⟨b, 2, none⟩ b ∧
 Same ⟨b, 3, none⟩ b ∧
 Same ⟨b, 4, none⟩ b ∧
 Same ⟨b, 5, none⟩ b ∧
 Same ⟨b, 6, none⟩ b ∧
 Same ⟨b, 7, none⟩ b ∧
 FnOk Try.prog 140 heldC ∧
 true = true ∧
 ∃ (x_2 : RmR),
 [agg { toList := (chS x.c x.w) }, slice x.m.a x.m.n x.m.cap, int i64 x.h] = [agg { toList := (chS x_2.c x_2.w) }, slice x_2.m.a x_2.m.n x_2.m.cap, int i64 x_2.h] ∧
 ([] : List Atom) = [] ∧
 (newB x_2.c = true ∧ isS x_2.c x_2.h = true) ∧
 (ChIn (Atom.pred (rest [(0, F), (1000, Atom.cells b (chS x.c x.w) 28)] [])) x_2.w.v x_2.c ∧ MemIn (Atom.pred (rest [(0, F), (1000, Atom.cells b (chS x.c x.w) 28)] [])) (slice x_2.m.a x_2.m.n x_2.m.cap) x_2.mem) ∧
 ∀ (y : Row),
 IsRow 3 1 (ints (remV x_2.c x_2.mem x_2.h)) y ∧ y.n * 8 ≤ 140737488351232 →
 Br (decide ((↑y.n : Int) > (0 : Int))) (Done reC x F (Ending.returned (slice y.a y.n y.cap)) [(0, F), (1000, Atom.cells b (chS x.c x.w) 28), (4030, y.A)])
 (true = true ∧
 Same ⟨b, 4, none⟩ b ∧
 Same ⟨b, 3, none⟩ b ∧
 QOpOk Try.prog (opIn Try.f128 6 5) (ixQ 13) ∧
 ∃ (x_3 : IxQX),
 [slice x.w.vs.a x.w.vs.n x.w.vs.cap, int i64 x.h] = [slice (some ⟨x_3.b, x_3.o, none⟩) x_3.len x_3.cap, int i64 x_3.n] ∧
 ((0 : Int) ≤ x_3.n ∧ x_3.n < (↑x_3.len : Int)) ∧
 ∃ (n : Int),
 Look F ⟨x_3.b, x_3.o + x_3.n.toNat * 13 + 4, none⟩ (int i64 n) ∧
 QOpOk Try.prog (opIn Try.f128 6 8) (ixQ 6) ∧ ∃ (x_4 : IxQX), [slice x.w.vt.a x.w.vt.n x.w.vt.cap, int i64 n] = [slice (some ⟨x_4.b, x_4.o, none⟩) x_4.len x_4.cap, int i64 x_4.n] ∧ ((0 : Int) ≤ x_4.n ∧ x_4.n < (↑x_4.len : Int)) ∧ ∃ (a : Option Addr), ∃ (l : Nat), ∃ (c : Nat), Look F ⟨x_4.b, x_4.o + x_4.n.toNat * 6 + 3, none⟩ (slice a l c) ∧ Done reC x F (Ending.returned (slice a l c)) [(0, F), (1000, Atom.cells b (chS x.c x.w) 28), (4030, y.A)])) := by
  obtain ⟨c, w, ⟨ma, mn, mc⟩, mem, h, tv⟩ := x
  obtain ⟨hnew, hh⟩ := hc
  obtain ⟨hr, htw, hm⟩ := hr
  dsimp only at hnew hh hr htw hm ⊢
  obtain ⟨q, rfl, hq⟩ := isS_spec hh
  have hsn := htw.sn
  have htn := htw.tn
  obtain ⟨b4, o4, ea4, L1, -, L3⟩ := htw.st q hq
  have eh : hisB c q = decide (kd c q ≥ 4) := by unfold hisB; rw [Int.toNat_natCast]
  intro b
  refine ⟨⟨rfl, rfl⟩, ixq_ok 13 rfl rfl rfl rfl, ⟨b4, o4, w.vs.n, w.vs.cap, q⟩, by rw [ea4], by dsimp only; omega, kd c q, L1, br_decide (fun h1 b1 => ?_) (fun h1 => ?_)⟩
  · have eg : gl1 c mem q = [(q : Int)] := by unfold gl1; rw [eh, decide_eq_false (by omega)]; rfl
    refine ⟨⟨some ⟨b1, 0, none⟩, 1, 1, .cells b1 [.int .i64 q] 3⟩, ⟨?_, by dsimp only; omega, .inl ?_⟩, rfl, Ent.pick [3010, 0] rfl rfl⟩
    · dsimp only; rw [eg]; exact .blk b1 0 1 rfl
    · dsimp only
      rw [eg]
      intro ad e
      cases e
      exact Seg.cells fun j u h => by rw [Nat.zero_add]; exact h
  · iterate 8 refine ⟨⟨rfl, rfl⟩, ?_⟩
    have hhis : hisB c q = true := by rw [eh, decide_eq_true (by omega)]
    refine ⟨he_ok, rfl, ⟨c, w, ⟨ma, mn, mc⟩, mem, q, tv⟩, rfl, rfl, ⟨hnew, hh⟩, ⟨hr.sub (sub_rest 0 (by simp) rfl), hm.sub (sub_rest 0 (by simp) rfl)⟩, fun y hy => ?_⟩
    obtain ⟨hy1, hy2⟩ := hy
    dsimp only at hy1 hy2
    have hyn : y.n = (remV c mem q).length := by have := hy1.len; rw [ints_length] at this; omega
    refine br_decide (fun h2 => ?_) (fun h2 => ?_)
    · have eg : gl1 c mem q = remV c mem q := by unfold gl1; rw [hhis, decide_eq_true (show ((remV c mem q).length : Int) > 0 by omega)]; rfl
      exact ⟨⟨y.a, y.n, y.cap, y.A⟩, ⟨by dsimp only; rw [eg]; exact hy1.src, hy2, .inl (by dsimp only; rw [eg]; exact hy1.srcd)⟩, rfl, Ent.pick [4030, 0] rfl rfl⟩
    · have eg : gl1 c mem q = tgts c (ini c q) := by unfold gl1; rw [hhis, decide_eq_false (show ¬ ((remV c mem q).length : Int) > 0 by omega), Int.toNat_natCast]; rfl
      obtain ⟨st, hst1⟩ := get_st hq
      have hkd : st.kind ≥ 4 := by rw [← kd_get hst1]; omega
      obtain ⟨tt, hin0, htt⟩ := right_init hnew hst1 hkd
      have eini : ini c q = st.init := by unfold ini; rw [hst1]; rfl
      obtain ⟨p, hp2⟩ : ∃ p : Nat, ini c q = p := ⟨st.init.toNat, by rw [eini]; omega⟩
      have hpl : p < c.trs.length := by
        have e9 : p = st.init.toNat := by omega
        rw [e9]; exact (List.getElem?_eq_some_iff.1 htt).1
      obtain ⟨b6, o6, ea6, k6⟩ := htw.tr p hpl
      obtain ⟨m1, m2, m3, m4, m5⟩ := (htw.tg p hpl).srcd
      rw [hp2] at L3 eg
      refine ⟨rfl, ⟨rfl, rfl⟩, ⟨rfl, rfl⟩, ixq_ok 13 rfl rfl rfl rfl, ⟨b4, o4, w.vs.n, w.vs.cap, q⟩, by rw [ea4], by dsimp only; omega, p, L3, ixq_ok 6 rfl rfl rfl rfl, ⟨b6, o6, w.vt.n, w.vt.cap, p⟩, by rw [ea6], by dsimp only; omega, _, _, _, k6, ⟨(tv p).a, (tgts c p).length, (tv p).cap, .emp⟩, ⟨by dsimp only; rw [eg]; exact m1, m3, .inr ⟨p, hpl, rfl, eg⟩⟩, rfl, Ent.pick [77, 0] rfl rfl⟩
set_option maxRecDepth 100000 in
theorem re_ok : FnOk Try.prog 128 reC :=
  fnOk (N := 36) (by kernel_rfl) Try.func128 rfl (by kernel_rfl) (fun _ => Nat.le_of_ble_eq_true rfl) re_H [] fun x F hc hr => Eq.mpr (by kernel_rfl) (re_vc x F hc hr)
def glC : Con where
  X := RmR
  Y := Row
  args x := [chAgg x.c x.w, .slice x.m.a x.m.n x.m.cap, .int .i64 x.h]
  pre _ := []
  cond x := newB x.c = true
  rdc x F := ChIn F x.w.v x.c ∧ MemIn F (.slice x.m.a x.m.n x.m.cap) x.mem
  rel x y := IsRow 3 1 (ints (goalsV x.c x.mem x.h)) y
  val _ y := .returned (.slice y.a y.n y.cap)
  post _ y := [y.A]
  rmono _ _ _ h hk := ⟨hk.1.sub h, hk.2.sub h⟩
theorem Ent.unbag {Ks As : List Atom} : Ent (ofL (Ks ++ [bagA As])) (ofL (Ks ++ As)) := ⟨fun I _ h => ⟨I, Imm.le_refl I, h.unbagTail⟩⟩
structure GlI where
  j : Nat
  b : Nat
  r : Row
  k : Nat
  s : Int
  y : ReY
structure GlP (x : RmR) (F : Atom) (i : GlI) : Prop where
  t : isT x.c x.h = true
  le : i.j ≤ (tgts x.c x.h).length
  row : IsRow 3 1 (ints (goalsF x.c x.mem ((tgts x.c x.h).take i.j))) i.r
structure GlQ (x : RmR) (F : Atom) (i : GlI) : Prop where
  t : isT x.c x.h = true
  s : (tgts x.c x.h)[i.j]? = some i.s
  src : IsSrc 1 (ints (gl1 x.c x.mem i.s)) i.y.a i.y.n
  n : i.y.n * 8 ≤ 140737488351232
  rd : Srcd (bagA [F, i.y.G]) i.y.a (ints (gl1 x.c x.mem i.s))
  le : i.k ≤ i.y.n
  row : IsRow 3 1 (ints (addV (goalsF x.c x.mem ((tgts x.c x.h).take i.j)) ((gl1 x.c x.mem i.s).take i.k))) i.r
def glInv (x : RmR) (F : Atom) : Nat → Option Inv := fun
  | 0 => some { X := GlI, P := fun i => GlP x F i, mu := fun i => (tgts x.c x.h).length - i.j, lv := fun i => [(1, .slice x.m.a x.m.n x.m.cap), (2, .int .i64 x.h), (3, .pointer (some ⟨i.b, 0, none⟩)), (7, .slice i.r.a i.r.n i.r.cap), (8, .int .i64 i.j)], st := fun i => [.cells i.b (chS x.c x.w) 28, i.r.A, F] }
  | 2 => some { X := GlI, P := fun i => GlQ x F i, gh := some ⟨Nat, fun i => i.j⟩, mu := fun i => i.y.n - i.k, lv := fun i => [(1, .slice x.m.a x.m.n x.m.cap), (2, .int .i64 x.h), (3, .pointer (some ⟨i.b, 0, none⟩)), (7, .slice i.r.a i.r.n i.r.cap), (8, .int .i64 i.j), (9, .slice i.y.a i.y.n i.y.cap), (10, .int .i64 i.k)], st := fun i => [.cells i.b (chS x.c x.w) 28, i.r.A, bagA [F, i.y.G]] }
  | _ => none
def glOv (_x : RmR) (_F : Atom) : List (Nat × Nat × OH) := [(0, 0, .n 1000), (2, 5, .q [.atj 1000]), (5, 2, .q [.atj 0]), (5, 4, .qo (ixQ 6)), (5, 6, .q [.ex 2 .slice]), (7, 0, .q (at8 0)), (7, 3, .q [.atj 0]), (7, 5, .qo (ixQ 6)), (7, 7, .q [.ex 2 .slice]), (7, 9, .qo (ixQ 1)), (7, 10, .q [.ex 2 (.int .i64)]), (7, 11, .c reC [] [8110]), (11, 2, .qo (ixQ 1)), (11, 3, .q [.ex 2 (.int .i64)]), (11, 5, .c amC [] []), (12, 3, .qo (ixQ 1)), (12, 4, .q [.ex 2 (.int .i64)]), (12, 5, .n 13050), (12, 6, .o (apC 3 1 8) [1] [1])]
noncomputable def gl_H (x : Con.X glC) (F : Atom) : Hints where
  op := hk ((glOv x F) ++ [])
  inv := glInv x F
  cut := (fun _ _ _ => none) x F
  ord := (fun _ => [])
open Go.Value (int slice string bool pointer agg tuple func) in
open Go.IntKind (i64) in
set_option maxRecDepth 100000 in
theorem gl_vc (x : RmR) (F : Atom) (hc : Con.cond glC x) (hr : Con.rdc glC x F) :
  ∀ (b : Nat),
 Br (decide (x.h < (0 : Int))) (Done glC x F (Ending.returned (slice none 0 0)) [(0, F), (1000, Atom.cells b (chS x.c x.w) 28)])
 (Same ⟨b, 4, none⟩ b ∧
 Br (decide (x.h ≥ (↑x.w.vt.n : Int))) (Done glC x F (Ending.returned (slice none 0 0)) [(0, F), (1000, Atom.cells b (chS x.c x.w) 28)])
 ((∃ (x_1 : GlI),
 GlP x F x_1 ∧
 (slice x.m.a x.m.n x.m.cap = slice x.m.a x.m.n x.m.cap ∧ int i64 x.h = int i64 x.h ∧ pointer (some ⟨b, 0, none⟩) = pointer (some ⟨x_1.b, 0, none⟩) ∧ slice none 0 0 = slice x_1.r.a x_1.r.n x_1.r.cap ∧ int i64 (0 : Int) = int i64 (↑x_1.j : Int) ∧ True) ∧
 Ent [(0, F), (1000, Atom.cells b (chS x.c x.w) 28)] [(0, Atom.cells x_1.b (chS x.c x.w) 28), (1, x_1.r.A), (2, F)]) ∧
 ∀ (x_1 : GlI) (js : Nat → Value),
 GlP x F x_1 →
 Same ⟨x_1.b, 4, none⟩ x_1.b ∧
 QOpOk Try.prog (opIn Try.f121 5 4) (ixQ 6) ∧
 ∃ (x_2 : IxQX),
 [slice x.w.vt.a x.w.vt.n x.w.vt.cap, int i64 x.h] = [slice (some ⟨x_2.b, x_2.o, none⟩) x_2.len x_2.cap, int i64 x_2.n] ∧
 ((0 : Int) ≤ x_2.n ∧ x_2.n < (↑x_2.len : Int)) ∧
 ∃ (a : Option Addr),
 ∃ (l : Nat),
 ∃ (c : Nat),
 Look F ⟨x_2.b, x_2.o + x_2.n.toNat * 6 + 3, none⟩ (slice a l c) ∧
 Br (decide ((↑x_1.j : Int) < (↑l : Int)))
 (true = true ∧
 Same ⟨x_1.b, 0, none⟩ x_1.b ∧
 Same ⟨x_1.b, 1, none⟩ x_1.b ∧
 Same ⟨x_1.b, 2, none⟩ x_1.b ∧
 Same ⟨x_1.b, 3, none⟩ x_1.b ∧
 Same ⟨x_1.b, 4, none⟩ x_1.b ∧
 Same ⟨x_1.b, 5, none⟩ x_1.b ∧
 Same ⟨x_1.b, 6, none⟩ x_1.b ∧
 Same ⟨x_1.b, 7, none⟩ x_1.b ∧
 Same ⟨x_1.b, 4, none⟩ x_1.b ∧
 QOpOk Try.prog (opIn Try.f121 7 5) (ixQ 6) ∧
 ∃ (x_3 : IxQX),
 [slice x.w.vt.a x.w.vt.n x.w.vt.cap, int i64 x.h] = [slice (some ⟨x_3.b, x_3.o, none⟩) x_3.len x_3.cap, int i64 x_3.n] ∧
 ((0 : Int) ≤ x_3.n ∧ x_3.n < (↑x_3.len : Int)) ∧
 ∃ (a : Option Addr),
 ∃ (l : Nat),
 ∃ (c : Nat),
 Look F ⟨x_3.b, x_3.o + x_3.n.toNat * 6 + 3, none⟩ (slice a l c) ∧
 QOpOk Try.prog (opIn Try.f121 7 9) (ixQ 1) ∧
 ∃ (x_4 : IxQX),
 [slice a l c, int i64 (↑x_1.j : Int)] = [slice (some ⟨x_4.b, x_4.o, none⟩) x_4.len x_4.cap, int i64 x_4.n] ∧
 ((0 : Int) ≤ x_4.n ∧ x_4.n < (↑x_4.len : Int)) ∧
 ∃ (n : Int),
 Look F ⟨x_4.b, x_4.o + x_4.n.toNat * 1, none⟩ (int i64 n) ∧
 FnOk Try.prog 128 reC ∧
 true = true ∧
 ∃ (x_5 : RmR),
 [agg { toList := (chS x.c x.w) }, slice x.m.a x.m.n x.m.cap, int i64 n] = [agg { toList := (chS x_5.c x_5.w) }, slice x_5.m.a x_5.m.n x_5.m.cap, int i64 x_5.h] ∧
 ([] : List Atom) = [] ∧
 (newB x_5.c = true ∧ isS x_5.c x_5.h = true) ∧
 (ChIn (Atom.pred (rest [(0, Atom.cells x_1.b (chS x.c x.w) 28), (1, x_1.r.A), (2, F)] [])) x_5.w.v x_5.c ∧
 TgW (Atom.pred (rest [(0, Atom.cells x_1.b (chS x.c x.w) 28), (1, x_1.r.A), (2, F)] [])) x_5.c x_5.w x_5.tv ∧ MemIn (Atom.pred (rest [(0, Atom.cells x_1.b (chS x.c x.w) 28), (1, x_1.r.A), (2, F)] [])) (slice x_5.m.a x_5.m.n x_5.m.cap) x_5.mem) ∧
 ∀ (y : ReY),
 IsSrc 1 (ints (gl1 x_5.c x_5.mem x_5.h)) y.a y.n ∧ y.n * 8 ≤ 140737488351232 ∧ (Srcd y.G y.a (ints (gl1 x_5.c x_5.mem x_5.h)) ∨ ∃ (i : Nat), i < x_5.c.trs.length ∧ y.a = (x_5.tv i).a ∧ gl1 x_5.c x_5.mem x_5.h = tgts x_5.c (↑i : Int)) →
 ∃ (n : Nat),
 (∃ (x_6 : GlI),
 (GlQ x F x_6 ∧ x_6.j = n) ∧
 (slice x.m.a x.m.n x.m.cap = slice x.m.a x.m.n x.m.cap ∧ int i64 x.h = int i64 x.h ∧ pointer (some ⟨x_1.b, 0, none⟩) = pointer (some ⟨x_6.b, 0, none⟩) ∧ slice x_1.r.a x_1.r.n x_1.r.cap = slice x_6.r.a x_6.r.n x_6.r.cap ∧ int i64 (↑x_1.j : Int) = int i64 (↑x_6.j : Int) ∧ slice y.a y.n y.cap = slice x_6.y.a x_6.y.n x_6.y.cap ∧ int i64 (0 : Int) = int i64 (↑x_6.k : Int) ∧ True) ∧
 Ent [(0, Atom.cells x_1.b (chS x.c x.w) 28), (1, x_1.r.A), (2, F), (8110, y.G)] [(0, Atom.cells x_6.b (chS x.c x.w) 28), (1, x_6.r.A), (2, Atom.pred (rest [(0, F), (1, x_6.y.G)] []))]) ∧
 ∀ (x_6 : GlI) (js : Nat → Value),
 GlQ x F x_6 ∧ x_6.j = n →
 Br (decide ((↑x_6.k : Int) < (↑x_6.y.n : Int)))
 (QOpOk Try.prog (opIn Try.f121 11 2) (ixQ 1) ∧
 ∃ (x_7 : IxQX),
 [slice x_6.y.a x_6.y.n x_6.y.cap, int i64 (↑x_6.k : Int)] = [slice (some ⟨x_7.b, x_7.o, none⟩) x_7.len x_7.cap, int i64 x_7.n] ∧
 ((0 : Int) ≤ x_7.n ∧ x_7.n < (↑x_7.len : Int)) ∧
 ∃ (n_1 : Int),
 Look (Atom.pred (rest [(0, F), (1, x_6.y.G)] [])) ⟨x_7.b, x_7.o + x_7.n.toNat * 1, none⟩ (int i64 n_1) ∧
 FnOk Try.prog 35 amC ∧
 true = true ∧
 ∃ (x_8 : InX),
 [int i64 n_1, slice x_6.r.a x_6.r.n x_6.r.cap] = [int i64 x_8.v, slice x_8.a x_8.n x_8.cap] ∧
 ([] : List Atom) = [] ∧
 (IsSrc 1 (ints x_8.xs) x_8.a x_8.n ∧ x_8.n * 8 ≤ 140737488351232) ∧
 Srcd (Atom.pred (rest [(0, Atom.cells x_6.b (chS x.c x.w) 28), (1, x_6.r.A), (2, Atom.pred (rest [(0, F), (1, x_6.y.G)] []))] [])) x_8.a (ints x_8.xs) ∧
 ∀ (y : Unit),
 True →
 Br (!memB x_8.xs x_8.v)
 (QOpOk Try.prog (opIn Try.f121 12 3) (ixQ 1) ∧
 ∃ (x_9 : IxQX),
 [slice x_6.y.a x_6.y.n x_6.y.cap, int i64 (↑x_6.k : Int)] = [slice (some ⟨x_9.b, x_9.o, none⟩) x_9.len x_9.cap, int i64 x_9.n] ∧
 ((0 : Int) ≤ x_9.n ∧ x_9.n < (↑x_9.len : Int)) ∧
 ∃ (n_2 : Int),
 Look (Atom.pred (rest [(0, F), (1, x_6.y.G)] [])) ⟨x_9.b, x_9.o + x_9.n.toNat * 1, none⟩ (int i64 n_2) ∧
 ∀ (b : Nat),
 OpOk Try.prog (opIn Try.f121 12 6) (apC (3 : TypeId) 1 8) ∧
 true = true ∧
 ∃ (x_10 : ApX),
 [slice x_6.r.a x_6.r.n x_6.r.cap, slice (some ⟨b, 0, none⟩) 1 1] = [slice x_10.r.a x_10.r.n x_10.r.cap, slice x_10.a x_10.m x_10.c] ∧
 [x_6.r.A] = [x_10.r.A] ∧
 (IsRow 3 1 x_10.cs x_10.r ∧ x_10.ys.length = x_10.m * 1 ∧ (∀ (u : Value), u ∈ x_10.ys → u.oneCell' = true) ∧ (x_10.r.n + x_10.m) * 8 ≤ 140737488355328 ∧ x_10.r.n + x_10.m ≤ 9223372036854775807 ∧ (x_10.a = none → x_10.m = 0 ∧ x_10.c = 0)) ∧
 (∀ (a : Addr), x_10.a = some a → Seg (Atom.pred (rest [(0, Atom.cells x_6.b (chS x.c x.w) 28), (1, x_6.r.A), (2, Atom.pred (rest [(0, F), (1, x_6.y.G)] [])), (13050, Atom.cells b [int i64 n_2] 3)] [1])) a x_10.ys) ∧
 ∀ (y : Row),
 IsRow 3 1 (x_10.cs ++ x_10.ys) y ∧ y.n = x_10.r.n + x_10.m ∧ (x_10.m = 0 → y = x_10.r) →
 ((-9223372036854775808 : Int) ≤ (↑x_6.k : Int) + (1 : Int) ∧ (↑x_6.k : Int) + (1 : Int) ≤ (9223372036854775807 : Int)) ∧
 ∃ (y_1 : GlI),
 (GlQ x F y_1 ∧ y_1.j = n) ∧
 (slice x.m.a x.m.n x.m.cap = slice x.m.a x.m.n x.m.cap ∧ int i64 x.h = int i64 x.h ∧ pointer (some ⟨x_6.b, 0, none⟩) = pointer (some ⟨y_1.b, 0, none⟩) ∧ slice y.a y.n y.cap = slice y_1.r.a y_1.r.n y_1.r.cap ∧ int i64 (↑x_6.j : Int) = int i64 (↑y_1.j : Int) ∧ slice x_6.y.a x_6.y.n x_6.y.cap = slice y_1.y.a y_1.y.n y_1.y.cap ∧ int i64 ((↑x_6.k : Int) + (1 : Int)) = int i64 (↑y_1.k : Int) ∧ True) ∧
 Ent [(0, Atom.cells x_6.b (chS x.c x.w) 28), (1, y.A), (2, Atom.pred (rest [(0, F), (1, x_6.y.G)] [])), (13050, Atom.cells b [int i64 n_2] 3)]
 [(0, Atom.cells y_1.b (chS x.c x.w) 28), (1, y_1.r.A), (2, Atom.pred (rest [(0, F), (1, y_1.y.G)] []))] ∧
 y_1.y.n - y_1.k < x_6.y.n - x_6.k)
 (((-9223372036854775808 : Int) ≤ (↑x_6.k : Int) + (1 : Int) ∧ (↑x_6.k : Int) + (1 : Int) ≤ (9223372036854775807 : Int)) ∧
 ∃ (y : GlI),
 (GlQ x F y ∧ y.j = n) ∧
 (slice x.m.a x.m.n x.m.cap = slice x.m.a x.m.n x.m.cap ∧ int i64 x.h = int i64 x.h ∧ pointer (some ⟨x_6.b, 0, none⟩) = pointer (some ⟨y.b, 0, none⟩) ∧ slice x_6.r.a x_6.r.n x_6.r.cap = slice y.r.a y.r.n y.r.cap ∧ int i64 (↑x_6.j : Int) = int i64 (↑y.j : Int) ∧ slice x_6.y.a x_6.y.n x_6.y.cap = slice y.y.a y.y.n y.y.cap ∧ int i64 ((↑x_6.k : Int) + (1 : Int)) = int i64 (↑y.k : Int) ∧ True) ∧
 Ent [(0, Atom.cells x_6.b (chS x.c x.w) 28), (1, x_6.r.A), (2, Atom.pred (rest [(0, F), (1, x_6.y.G)] []))]
 [(0, Atom.cells y.b (chS x.c x.w) 28), (1, y.r.A), (2, Atom.pred (rest [(0, F), (1, y.y.G)] []))] ∧
 y.y.n - y.k < x_6.y.n - x_6.k))
 (((-9223372036854775808 : Int) ≤ (↑x_6.j : Int) + (1 : Int) ∧ (↑x_6.j : Int) + (1 : Int) ≤ (9223372036854775807 : Int)) ∧
 ∃ (y : GlI),
 GlP x F y ∧
 (slice x.m.a x.m.n x.m.cap = slice x.m.a x.m.n x.m.cap ∧ int i64 x.h = int i64 x.h ∧ pointer (some ⟨x_6.b, 0, none⟩) = pointer (some ⟨y.b, 0, none⟩) ∧ slice x_6.r.a x_6.r.n x_6.r.cap = slice y.r.a y.r.n y.r.cap ∧ int i64 ((↑x_6.j : Int) + (1 : Int)) = int i64 (↑y.j : Int) ∧ True) ∧
 Ent [(0, Atom.cells x_6.b (chS x.c x.w) 28), (1, x_6.r.A), (2, Atom.pred (rest [(0, F), (1, x_6.y.G)] []))] [(0, Atom.cells y.b (chS x.c x.w) 28), (1, y.r.A), (2, F)] ∧ (tgts x.c x.h).length - y.j < (tgts x.c x.h).length - x_1.j))
 (Done glC x F (Ending.returned (slice x_1.r.a x_1.r.n x_1.r.cap)) [(0, Atom.cells x_1.b (chS x.c x.w) 28), (1, x_1.r.A), (2, F)]))) := by
  obtain ⟨c, w, ⟨ma, mn, mc⟩, mem, t, tv0⟩ := x
  obtain ⟨hr, hm⟩ := hr
  have hnew : newB c = true := hc
  dsimp only at hr hm ⊢
  have hn128 := (newB_spec.1 hnew).1.n128
  obtain ⟨tv, htw⟩ := tg_w hr
  have hsn := htw.sn
  have htn := htw.tn
  have stop : isT c t = false → IsRow 3 1 (ints (goalsV c mem t)) nilRow := fun h => by unfold goalsV; rw [h]; exact .nil rfl
  intro b0
  refine br_decide (fun h1 => ⟨nilRow, stop ?_, rfl, Ent.pick [77, 0] rfl rfl⟩) (fun h1 => ⟨⟨rfl, rfl⟩, br_decide (fun h2 => ⟨nilRow, stop ?_, rfl, Ent.pick [77, 0] rfl rfl⟩) (fun h2 => ?_)⟩)
  · unfold isT; rw [decide_eq_false (show ¬ t ≥ 0 by omega)]; rfl
  · unfold isT; rw [decide_eq_false (show ¬ t < (c.trs.length : Int) by omega), Bool.and_false]
  have hT : isT c t = true := by unfold isT; rw [decide_eq_true (show t ≥ 0 by omega), decide_eq_true (show t < (c.trs.length : Int) by omega)]; rfl
  obtain ⟨q, rfl, hq⟩ := isT_spec hT
  have hgv : goalsV c mem q = goalsF c mem (tgts c q) := by unfold goalsV; rw [hT]; rfl
  have hall := tgts_ok hnew q
  obtain ⟨b6, o6, ea6, k6⟩ := htw.tr q hq
  have hI6 := htw.tg q hq
  obtain ⟨m1, m2, m3, m4, m5⟩ := hI6.srcd
  refine ⟨⟨⟨0, b0, nilRow, 0, 0, ⟨none, 0, 0, .emp⟩⟩, ⟨hT, Nat.zero_le _, .nil rfl⟩, ⟨rfl, rfl, rfl, rfl, rfl, trivial⟩, Ent.pick [1000, 77, 0] rfl rfl⟩, ?_⟩
  clear b0 h1 h2
  rintro ⟨j, b, r, k0, s0, y0⟩ js ⟨-, hj, hrow⟩
  dsimp only at hj hrow ⊢
  have hgd : Good (nS c) (goalsF c mem ((tgts c q).take j)) := goalsF_good hnew mem _ [] ⟨List.nodup_nil, fun u hu => by simp at hu⟩ fun s hs => hall s (List.mem_of_mem_take hs)
  refine ⟨⟨rfl, rfl⟩, ixq_ok 6 rfl rfl rfl rfl, ⟨b6, o6, w.vt.n, w.vt.cap, q⟩, by rw [ea6], by dsimp only; omega, _, _, _, k6, br_decide (fun hlt => ?_) (fun hge => ⟨r, ?_, rfl, Ent.pick [1, 2] rfl rfl⟩)⟩
  · obtain ⟨s, hs⟩ : ∃ s, (tgts c q)[j]? = some s := ⟨_, List.getElem?_eq_getElem (by omega)⟩
    have hsS := hall s (List.mem_of_getElem? hs)
    obtain ⟨b2, o2, e2a⟩ := m1.some (by omega)
    have eo : o2 + (j : Int).toNat * 1 = o2 + j := by omega
    have hlk : Look F ⟨b2, o2 + (j : Int).toNat * 1, none⟩ (.int .i64 s) := by
      have m2' := m2
      rw [e2a] at m2'
      rw [eo]; exact m2'.look (ints_get hs)
    have hstep := goalsF_take (c := c) (mem := mem) hs
    have hgl := gl1_ok hnew mem hsS
    refine ⟨rfl, ⟨rfl, rfl⟩, ⟨rfl, rfl⟩, ⟨rfl, rfl⟩, ⟨rfl, rfl⟩, ⟨rfl, rfl⟩, ⟨rfl, rfl⟩, ⟨rfl, rfl⟩, ⟨rfl, rfl⟩, ⟨rfl, rfl⟩, ixq_ok 6 rfl rfl rfl rfl, ⟨b6, o6, w.vt.n, w.vt.cap, q⟩, by rw [ea6], by dsimp only; omega, _, _, _, k6, ixq_ok 1 rfl rfl rfl rfl, ⟨b2, o2, (tgts c q).length, (tv q).cap, j⟩, by rw [e2a], by dsimp only; omega, s, hlk, re_ok, rfl, ⟨c, w, ⟨ma, mn, mc⟩, mem, s, tv⟩, rfl, rfl, ⟨hnew, hsS⟩, ⟨hr.sub (sub_rest 2 (by simp) rfl), htw.sub (sub_rest 2 (by simp) rfl), hm.sub (sub_rest 2 (by simp) rfl)⟩, fun y hy => ?_⟩
    obtain ⟨y1, y2, y3⟩ := hy
    dsimp only at y1 y2 y3
    have hrd : Srcd (bagA [F, y.G]) y.a (ints (gl1 c mem s)) := by
      rcases y3 with h | ⟨i, hi, ea, eg⟩
      · exact Srcd.sub (sub_bag 1 rfl) h
      · rw [ea, eg]
        exact Srcd.sub (sub_bag 0 rfl) (htw.tg i hi).srcd.2.1
    refine ⟨j, ⟨⟨j, b, r, 0, s, y⟩, ⟨⟨hT, hs, y1, y2, hrd, Nat.zero_le _, hrow⟩, rfl⟩, ⟨rfl, rfl, rfl, rfl, rfl, rfl, rfl, trivial⟩, Ent.bag [0, 1] [2, 8110] rfl rfl⟩, ?_⟩
    clear hrd y1 y2 y3 hlk hrow
    clear y0 y r b
    rintro ⟨j', b, r, k, s', y⟩ js ⟨⟨-, q2, y1, y2, hrd, hk, hrow⟩, ej⟩
    dsimp only at q2 y1 y2 hrd hk hrow ej ⊢
    subst ej
    obtain rfl : s = s' := by rw [hs] at q2; exact Option.some.inj q2
    have hyl : y.n = (gl1 c mem s).length := by have := y1.len; rw [ints_length] at this; omega
    have hgk : Good (nS c) (addV (goalsF c mem ((tgts c q).take j')) ((gl1 c mem s).take k)) := Good.addV _ hgd fun v hv => hgl v (List.mem_of_mem_take hv)
    have hgkl := hgk.len
    have hrl : r.n = (addV (goalsF c mem ((tgts c q).take j')) ((gl1 c mem s).take k)).length := by have := hrow.len; rw [ints_length] at this; omega
    refine br_decide (fun hlt2 => ?_) (fun hge2 => ⟨⟨by omega, by omega⟩, ⟨j' + 1, b, r, 0, 0, ⟨none, 0, 0, .emp⟩⟩, ⟨hT, by dsimp only; omega, ?_⟩, ⟨rfl, rfl, rfl, rfl, rfl, trivial⟩, Ent.trans (Ent.unbag (Ks := [.cells b (chS c w) 28, r.A]) (As := [F, y.G])) (Ent.pick [0, 1, 2] rfl rfl), by dsimp only; omega⟩)
    · obtain ⟨u, hu⟩ : ∃ u, (gl1 c mem s)[k]? = some u := ⟨_, List.getElem?_eq_getElem (by omega)⟩
      obtain ⟨b3, o3, e3a⟩ := y1.some (by omega)
      have eo3 : o3 + (k : Int).toNat * 1 = o3 + k := by omega
      have hlk2 : Look (bagA [F, y.G]) ⟨b3, o3 + (k : Int).toNat * 1, none⟩ (.int .i64 u) := by
        rw [e3a] at hrd
        rw [eo3]; exact hrd.look (ints_get hu)
      have hst2 := addV_take (o := goalsF c mem ((tgts c q).take j')) hu
      refine ⟨ixq_ok 1 rfl rfl rfl rfl, ⟨b3, o3, y.n, y.cap, k⟩, by rw [e3a], by dsimp only; omega, u, hlk2, am_ok, rfl, ⟨r.a, r.n, r.cap, _, u⟩, rfl, rfl, ⟨hrow.src, by dsimp only; omega⟩, Srcd.sub (A := r.A) (sub_rest 1 (by simp) rfl) hrow.srcd, fun _ _ => br_intro (fun h5 => ?_) (fun h5 => ?_)⟩
      · have hm' : memB (addV (goalsF c mem ((tgts c q).take j')) ((gl1 c mem s).take k)) u = false := by
          have h6 : (!memB (addV (goalsF c mem ((tgts c q).take j')) ((gl1 c mem s).take k)) u) = true := h5
          rw [Bool.not_eq_true'] at h6; exact h6
        have e5 : addV (goalsF c mem ((tgts c q).take j')) ((gl1 c mem s).take (k + 1)) = addV (goalsF c mem ((tgts c q).take j')) ((gl1 c mem s).take k) ++ [u] := by rw [hst2]; unfold add1; rw [hm']; rfl
        refine ⟨ixq_ok 1 rfl rfl rfl rfl, ⟨b3, o3, y.n, y.cap, k⟩, by rw [e3a], by dsimp only; omega, u, hlk2, fun b7 => ⟨append_ok (P := Try.prog) 1 8 rfl rfl rfl rfl rfl rfl rfl (by decide), rfl, ⟨r, _, some ⟨b7, 0, none⟩, 1, 1, [.int .i64 u]⟩, rfl, rfl, ⟨hrow, rfl, by simp [Value.oneCell'], by dsimp only; omega, by dsimp only; omega, by simp⟩, ?_, fun z hz => ⟨⟨by omega, by omega⟩, ⟨j', b, z, k + 1, s, y⟩, ⟨⟨hT, hs, y1, y2, hrd, by dsimp only; omega, ?_⟩, rfl⟩, ⟨rfl, rfl, rfl, rfl, rfl, rfl, rfl, trivial⟩, Ent.pick [0, 1, 2] rfl rfl, by dsimp only; omega⟩⟩⟩
        · intro ad e
          cases e
          exact Seg.rest (j := 13050) (by simp) (Seg.cells fun j u h => by rw [Nat.zero_add]; exact h)
        · dsimp only
          rw [e5, ints_append]
          exact hz.1
      · have hm' : memB (addV (goalsF c mem ((tgts c q).take j')) ((gl1 c mem s).take k)) u = true := by
          have h6 : (!memB (addV (goalsF c mem ((tgts c q).take j')) ((gl1 c mem s).take k)) u) = false := h5
          rw [Bool.not_eq_false'] at h6; exact h6
        have e5 : addV (goalsF c mem ((tgts c q).take j')) ((gl1 c mem s).take (k + 1)) = addV (goalsF c mem ((tgts c q).take j')) ((gl1 c mem s).take k) := by rw [hst2]; unfold add1; rw [hm']; rfl
        exact ⟨⟨by omega, by omega⟩, ⟨j', b, r, k + 1, s, y⟩, ⟨⟨hT, hs, y1, y2, hrd, by dsimp only; omega, by dsimp only; rw [e5]; exact hrow⟩, rfl⟩, ⟨rfl, rfl, rfl, rfl, rfl, rfl, rfl, trivial⟩, Ent.pick [0, 1, 2] rfl rfl, by dsimp only; omega⟩
    · dsimp only
      rw [hstep]
      have ek : (gl1 c mem s).take k = gl1 c mem s := List.take_of_length_le (by omega)
      rw [ek] at hrow
      exact hrow
  · show IsRow 3 1 (ints (goalsV c mem q)) r
    rw [hgv]
    rw [List.take_of_length_le (by omega)] at hrow
    exact hrow
set_option maxRecDepth 100000 in
theorem gl_ok : FnOk Try.prog 121 glC :=
  fnOk (N := 64) (by kernel_rfl) Try.func121 rfl (by kernel_rfl) (fun _ => Nat.le_of_ble_eq_true rfl) gl_H [] fun x F hc hr => Eq.mpr (by kernel_rfl) (gl_vc x F hc hr)
end Go.Proofs.Ytkmdgnbfojkcnaa
