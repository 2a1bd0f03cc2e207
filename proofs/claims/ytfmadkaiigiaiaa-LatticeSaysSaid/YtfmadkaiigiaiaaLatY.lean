/- The document's answers about a chart, part 4: placed, aimed. -/
import Derived.Test.YtfmadkaiigiaiaaLatX
set_option linter.all false
namespace Go.Proofs.Ytfmadkaiigiaiaa
open Go
set_option maxHeartbeats 1000000
def headP (c : ChD) : Bool := decide (2 ≤ nS c) && decide (nS c ≤ 128) && decide (kd c 0 = 0) && decide (pr c 0 = -1)
def placedB (c : ChD) : Bool := headP c && (List.range (nS c)).all (fun i => Nat.beq i 0 || stB c i) && (List.range (nS c)).all (fun i => decide (kidAt c i = kidsA c i)) && !(kidsP c 0).isEmpty
theorem placedB_spec {c : ChD} : placedB c = true ↔ Placed c := by
  unfold placedB headP
  simp only [Bool.and_eq_true, decide_eq_true_eq, List.all_eq_true, List.mem_range, Bool.or_eq_true, Nat.beq_eq, Bool.not_eq_true', List.isEmpty_eq_false_iff]
  constructor
  · rintro ⟨⟨⟨⟨⟨⟨h1, h2⟩, h4⟩, h5⟩, h6⟩, h7⟩, h8⟩
    refine ⟨h1, h2, h4, h5, fun i h0 hi => stB_spec ((h6 i hi).resolve_left (by omega)), fun i s hs => ?_, h8⟩
    have := h7 i (List.getElem?_eq_some_iff.1 hs).1
    unfold kidAt at this
    rw [hs] at this
    exact this
  · rintro ⟨h1, h2, h4, h5, h6, h7, h8⟩
    refine ⟨⟨⟨⟨⟨⟨h1, h2⟩, h4⟩, h5⟩, fun i hi => ?_⟩, fun i hi => ?_⟩, h8⟩
    · rcases Nat.eq_zero_or_pos i with e | e
      · exact .inl e
      · right
        have := h6 i e hi
        unfold stB
        simp only [Bool.and_eq_true, decide_eq_true_eq]
        omega
    · obtain ⟨s, hs⟩ := get_st hi
      unfold kidAt
      rw [hs]
      exact h7 i s hs
theorem placedB_no {c : ChD} (h : Placed c → False) : placedB c = false := by
  cases e : placedB c with
  | false => rfl
  | true => exact (h (placedB_spec.1 e)).elim
structure R1X where
  c : ChD
  w : ChS
def rPlC : Con where
  X := R1X
  Y := Unit
  args x := [chAgg x.c x.w]
  pre _ := []
  cond _ := True
  rdc x F := ChIn F x.w.v x.c
  rel _ _ := True
  val x _ := .returned (.bool (placedB x.c))
  post _ _ := []
  rmono _ _ _ h hk := hk.sub h
structure RpI where
  i : Nat
  b : Nat
  j : Nat
def RpH (c : ChD) (i : Nat) : Prop := headP c = true ∧ ∀ j, 0 < j → j < i → stB c j = true
def rPlInv (x : R1X) (F : Atom) : Nat → Option Inv := fun
  | 0 => some { X := RpI, P := fun i => 1 ≤ i.i ∧ i.i ≤ nS x.c ∧ RpH x.c i.i, mu := fun i => nS x.c - i.i, lv := fun i => [(1, .pointer (some ⟨i.b, 0, none⟩)), (3, .int .i64 x.w.vs.n), (4, .int .i64 i.i)], st := fun i => [F, .cells i.b (chS x.c x.w) 28] }
  | 2 => some { X := RpI, P := fun i => i.i ≤ nS x.c ∧ RpH x.c (nS x.c) ∧ ∀ j, j < i.i → kidAt x.c j = kidsA x.c j, mu := fun i => nS x.c - i.i, lv := fun i => [(1, .pointer (some ⟨i.b, 0, none⟩)), (3, .int .i64 x.w.vs.n), (6, .int .i64 i.i)], st := fun i => [F, .cells i.b (chS x.c x.w) 28] }
  | 4 => some { X := RpI, P := fun i => i.i < nS x.c ∧ RpH x.c (nS x.c) ∧ (∀ j, j < i.i → kidAt x.c j = kidsA x.c j) ∧ 1 ≤ i.j ∧ i.j ≤ nS x.c ∧ (kidAt x.c i.i).take (kidsOf x.c 6 i.j i.i).length = kidsOf x.c 6 i.j i.i, gh := some ⟨Nat, fun i => i.i⟩, mu := fun i => nS x.c - i.j, lv := fun i => [(1, .pointer (some ⟨i.b, 0, none⟩)), (3, .int .i64 x.w.vs.n), (6, .int .i64 i.i), (7, .int .i64 (kidsOf x.c 6 i.j i.i).length), (8, .int .i64 i.j)], st := fun i => [F, .cells i.b (chS x.c x.w) 28] }
  | _ => none
def rPlOv (_x : R1X) (_F : Atom) : List (Nat × Nat × OH) := [(0, 0, .n 1000), (1, 1, .q [.atj 1000]), (2, 8, .q [.atj 1000]), (2, 9, .qo (ixQ 13)), (2, 11, .q [.ex 0 (.int .i64)]), (2, 16, .q [.atj 1000]), (2, 17, .qo (ixQ 13)), (2, 19, .q [.ex 0 (.int .i64)]),
  (7, 1, .q [.atj 1]), (7, 3, .qo (ixQ 13)), (7, 4, .q sh13), (7, 5, .n 8050), (7, 6, .w (at13 8050)), (8, 1, .q [.atj 8050]), (8, 5, .q [.atj 8050]), (8, 10, .q [.atj 8050]), (8, 15, .q [.atj 8050]), (8, 21, .q [.atj 1]), (8, 23, .q [.atj 8050]), (8, 24, .qo (ixQ 13)), (8, 26, .q [.ex 0 (.int .i64)]),
  (17, 1, .q [.atj 1]), (17, 3, .qo (ixQ 13)), (17, 5, .q [.ex 0 (.int .i64)]), (18, 2, .q [.atj 1]), (18, 4, .qo (ixQ 13)), (18, 6, .q [.ex 0 .slice]), (18, 11, .q [.atj 1]), (18, 13, .qo (ixQ 13)), (18, 15, .q [.ex 0 .slice]), (18, 17, .qo (ixQ 1)), (18, 18, .q [.ex 0 (.int .i64)]),
  (21, 2, .q [.atj 1]), (21, 4, .qo (ixQ 13)), (21, 6, .q [.ex 0 .slice]), (23, 0, .q (at8 1)), (23, 1, .c rKidsC [] [77])]
theorem kid_get {F : Atom} {a : Option Addr} {n cap : Nat} {xs : List Int} (h : IntsIn F (.slice a n cap) xs) {i : Nat} {u : Int} (hu : xs[i]? = some u) : ∃ b o, a = some ⟨b, o, none⟩ ∧ Look F ⟨b, o + (i : Int).toNat * 1, none⟩ (.int .i64 u) := by
  obtain ⟨h1, h2, -, -, h5⟩ := IntsIn.srcd h
  have hi := (List.getElem?_eq_some_iff.1 hu).1
  obtain ⟨b, o, rfl⟩ := h1.some (by omega)
  refine ⟨b, o, rfl, ?_⟩
  have : o + (i : Int).toNat * 1 = o + i := by omega
  rw [this]
  exact h2.look (ints_get hu)
noncomputable def rpl_H (x : Con.X rPlC) (F : Atom) : Hints where
  op := hk ((rPlOv x F) ++ [])
  inv := rPlInv x F
  cut := (fun _ _ _ => none) x F
  ord := (fun _ => [])
open Go.Value (int slice string bool pointer agg tuple func) in
open Go.IntKind (i64) in
set_option maxRecDepth 100000 in
theorem rpl_vc (x : R1X) (F : Atom) (hc : Con.cond rPlC x) (hr : Con.rdc rPlC x F) :
  ∀ (b : Nat),
 Same ⟨b, 3, none⟩ b ∧
 Br (decide ((↑x.w.vs.n : Int) < (2 : Int))) (Done rPlC x F (Ending.returned (bool false)) [(0, F), (1000, Atom.cells b (chS x.c x.w) 28)])
 (Br (decide ((↑x.w.vs.n : Int) > (128 : Int))) (Done rPlC x F (Ending.returned (bool false)) [(0, F), (1000, Atom.cells b (chS x.c x.w) 28)])
 (Same ⟨b, 3, none⟩ b ∧
 QOpOk Try.prog (opIn Try.f44 2 9) (ixQ 13) ∧
 ∃ (x_1 : IxQX),
 [slice x.w.vs.a x.w.vs.n x.w.vs.cap, int i64 (0 : Int)] = [slice (some ⟨x_1.b, x_1.o, none⟩) x_1.len x_1.cap, int i64 x_1.n] ∧
 ((0 : Int) ≤ x_1.n ∧ x_1.n < (↑x_1.len : Int)) ∧
 ∃ (n : Int),
 Look F ⟨x_1.b, x_1.o + x_1.n.toNat * 13 + 1, none⟩ (int i64 n) ∧
 Br (n != (0 : Int)) (Done rPlC x F (Ending.returned (bool false)) [(0, F), (1000, Atom.cells b (chS x.c x.w) 28)])
 (Same ⟨b, 3, none⟩ b ∧
 QOpOk Try.prog (opIn Try.f44 2 17) (ixQ 13) ∧
 ∃ (x_2 : IxQX),
 [slice x.w.vs.a x.w.vs.n x.w.vs.cap, int i64 (0 : Int)] = [slice (some ⟨x_2.b, x_2.o, none⟩) x_2.len x_2.cap, int i64 x_2.n] ∧
 ((0 : Int) ≤ x_2.n ∧ x_2.n < (↑x_2.len : Int)) ∧
 ∃ (n : Int),
 Look F ⟨x_2.b, x_2.o + x_2.n.toNat * 13 + 2, none⟩ (int i64 n) ∧
 Br (n != (-1 : Int)) (Done rPlC x F (Ending.returned (bool false)) [(0, F), (1000, Atom.cells b (chS x.c x.w) 28)])
 ((∃ (x_3 : RpI),
 (1 ≤ x_3.i ∧ x_3.i ≤ nS x.c ∧ RpH x.c x_3.i) ∧
 (pointer (some ⟨b, 0, none⟩) = pointer (some ⟨x_3.b, 0, none⟩) ∧ int i64 (↑x.w.vs.n : Int) = int i64 (↑x.w.vs.n : Int) ∧ int i64 (1 : Int) = int i64 (↑x_3.i : Int) ∧ True) ∧
 Ent [(0, F), (1000, Atom.cells b (chS x.c x.w) 28)] [(0, F), (1, Atom.cells x_3.b (chS x.c x.w) 28)]) ∧
 ∀ (x_3 : RpI) (js : Nat → Value),
 1 ≤ x_3.i ∧ x_3.i ≤ nS x.c ∧ RpH x.c x_3.i →
 Br (decide ((↑x_3.i : Int) < (↑x.w.vs.n : Int)))
 (Same ⟨x_3.b, 3, none⟩ x_3.b ∧
 QOpOk Try.prog (opIn Try.f44 7 3) (ixQ 13) ∧
 ∃ (x_4 : IxQX),
 [slice x.w.vs.a x.w.vs.n x.w.vs.cap, int i64 (↑x_3.i : Int)] = [slice (some ⟨x_4.b, x_4.o, none⟩) x_4.len x_4.cap, int i64 x_4.n] ∧
 ((0 : Int) ≤ x_4.n ∧ x_4.n < (↑x_4.len : Int)) ∧
 ∃ (s : ByteArray),
 Look F ⟨x_4.b, x_4.o + x_4.n.toNat * 13, none⟩ (string s) ∧
 ∃ (n : Int),
 Look F ⟨x_4.b, x_4.o + x_4.n.toNat * 13 + 1, none⟩ (int i64 n) ∧
 ∃ (n_1 : Int),
 Look F ⟨x_4.b, x_4.o + x_4.n.toNat * 13 + 2, none⟩ (int i64 n_1) ∧
 ∃ (a : Option Addr),
 ∃ (l : Nat),
 ∃ (c : Nat),
 Look F ⟨x_4.b, x_4.o + x_4.n.toNat * 13 + 3, none⟩ (slice a l c) ∧
 ∃ (n_2 : Int),
 Look F ⟨x_4.b, x_4.o + x_4.n.toNat * 13 + 4, none⟩ (int i64 n_2) ∧
 ∃ (a_1 : Option Addr),
 ∃ (l_1 : Nat),
 ∃ (c_1 : Nat),
 Look F ⟨x_4.b, x_4.o + x_4.n.toNat * 13 + 5, none⟩ (slice a_1 l_1 c_1) ∧
 ∃ (a_2 : Option Addr),
 ∃ (l_2 : Nat),
 ∃ (c_2 : Nat),
 Look F ⟨x_4.b, x_4.o + x_4.n.toNat * 13 + 6, none⟩ (slice a_2 l_2 c_2) ∧
 ∃ (a_3 : Option Addr),
 ∃ (l_3 : Nat),
 ∃ (c_3 : Nat),
 Look F ⟨x_4.b, x_4.o + x_4.n.toNat * 13 + 7, none⟩ (slice a_3 l_3 c_3) ∧
 ∃ (a_4 : Option Addr),
 ∃ (l_4 : Nat),
 ∃ (c_4 : Nat),
 Look F ⟨x_4.b, x_4.o + x_4.n.toNat * 13 + 8, none⟩ (slice a_4 l_4 c_4) ∧
 ∃ (a_5 : Option Addr),
 ∃ (l_5 : Nat),
 ∃ (c_5 : Nat),
 Look F ⟨x_4.b, x_4.o + x_4.n.toNat * 13 + 9, none⟩ (slice a_5 l_5 c_5) ∧
 ∃ (n_3 : Int),
 Look F ⟨x_4.b, x_4.o + x_4.n.toNat * 13 + 10, none⟩ (int i64 n_3) ∧
 ∃ (a_6 : Option Addr),
 ∃ (l_6 : Nat),
 ∃ (c_6 : Nat),
 Look F ⟨x_4.b, x_4.o + x_4.n.toNat * 13 + 11, none⟩ (slice a_6 l_6 c_6) ∧
 ∃ (s_1 : ByteArray),
 Look F ⟨x_4.b, x_4.o + x_4.n.toNat * 13 + 12, none⟩ (string s_1) ∧
 ∀ (b : Nat),
 Same ⟨b, 0, none⟩ b ∧
 Same ⟨b, 1, none⟩ b ∧
 Same ⟨b, 2, none⟩ b ∧
 Same ⟨b, 3, none⟩ b ∧
 Same ⟨b, 4, none⟩ b ∧
 Same ⟨b, 5, none⟩ b ∧
 Same ⟨b, 6, none⟩ b ∧
 Same ⟨b, 7, none⟩ b ∧
 Same ⟨b, 8, none⟩ b ∧
 Same ⟨b, 9, none⟩ b ∧
 Same ⟨b, 10, none⟩ b ∧
 Same ⟨b, 11, none⟩ b ∧
 Same ⟨b, 12, none⟩ b ∧
 Same ⟨b, 1, none⟩ b ∧
 Br (decide (n < (1 : Int))) (Done rPlC x F (Ending.returned (bool false)) [(0, F), (1, Atom.cells x_3.b (chS x.c x.w) 28), (8050, Atom.cells b [string s, int i64 n, int i64 n_1, slice a l c, int i64 n_2, slice a_1 l_1 c_1, slice a_2 l_2 c_2, slice a_3 l_3 c_3, slice a_4 l_4 c_4, slice a_5 l_5 c_5, int i64 n_3, slice a_6 l_6 c_6, string s_1] 61)])
 (Same ⟨b, 1, none⟩ b ∧
 Br (decide (n > (5 : Int))) (Done rPlC x F (Ending.returned (bool false)) [(0, F), (1, Atom.cells x_3.b (chS x.c x.w) 28), (8050, Atom.cells b [string s, int i64 n, int i64 n_1, slice a l c, int i64 n_2, slice a_1 l_1 c_1, slice a_2 l_2 c_2, slice a_3 l_3 c_3, slice a_4 l_4 c_4, slice a_5 l_5 c_5, int i64 n_3, slice a_6 l_6 c_6, string s_1] 61)])
 (Same ⟨b, 2, none⟩ b ∧
 Br (decide (n_1 < (0 : Int))) (Done rPlC x F (Ending.returned (bool false)) [(0, F), (1, Atom.cells x_3.b (chS x.c x.w) 28), (8050, Atom.cells b [string s, int i64 n, int i64 n_1, slice a l c, int i64 n_2, slice a_1 l_1 c_1, slice a_2 l_2 c_2, slice a_3 l_3 c_3, slice a_4 l_4 c_4, slice a_5 l_5 c_5, int i64 n_3, slice a_6 l_6 c_6, string s_1] 61)])
 (Same ⟨b, 2, none⟩ b ∧
 Br (decide (n_1 ≥ (↑x_3.i : Int))) (Done rPlC x F (Ending.returned (bool false)) [(0, F), (1, Atom.cells x_3.b (chS x.c x.w) 28), (8050, Atom.cells b [string s, int i64 n, int i64 n_1, slice a l c, int i64 n_2, slice a_1 l_1 c_1, slice a_2 l_2 c_2, slice a_3 l_3 c_3, slice a_4 l_4 c_4, slice a_5 l_5 c_5, int i64 n_3, slice a_6 l_6 c_6, string s_1] 61)])
 (Same ⟨x_3.b, 3, none⟩ x_3.b ∧
 Same ⟨b, 2, none⟩ b ∧
 QOpOk Try.prog (opIn Try.f44 8 24) (ixQ 13) ∧
 ∃ (x_5 : IxQX),
 [slice x.w.vs.a x.w.vs.n x.w.vs.cap, int i64 n_1] = [slice (some ⟨x_5.b, x_5.o, none⟩) x_5.len x_5.cap, int i64 x_5.n] ∧
 ((0 : Int) ≤ x_5.n ∧ x_5.n < (↑x_5.len : Int)) ∧
 ∃ (n_4 : Int),
 Look F ⟨x_5.b, x_5.o + x_5.n.toNat * 13 + 1, none⟩ (int i64 n_4) ∧
 Br (decide (n_4 > (2 : Int))) (Done rPlC x F (Ending.returned (bool false)) [(0, F), (1, Atom.cells x_3.b (chS x.c x.w) 28), (8050, Atom.cells b [string s, int i64 n, int i64 n_1, slice a l c, int i64 n_2, slice a_1 l_1 c_1, slice a_2 l_2 c_2, slice a_3 l_3 c_3, slice a_4 l_4 c_4, slice a_5 l_5 c_5, int i64 n_3, slice a_6 l_6 c_6, string s_1] 61)])
 (((-9223372036854775808 : Int) ≤ (↑x_3.i : Int) + (1 : Int) ∧ (↑x_3.i : Int) + (1 : Int) ≤ (9223372036854775807 : Int)) ∧
 ∃ (y : RpI),
 (1 ≤ y.i ∧ y.i ≤ nS x.c ∧ RpH x.c y.i) ∧
 (pointer (some ⟨x_3.b, 0, none⟩) = pointer (some ⟨y.b, 0, none⟩) ∧ int i64 (↑x.w.vs.n : Int) = int i64 (↑x.w.vs.n : Int) ∧ int i64 ((↑x_3.i : Int) + (1 : Int)) = int i64 (↑y.i : Int) ∧ True) ∧
 Ent [(0, F), (1, Atom.cells x_3.b (chS x.c x.w) 28), (8050, Atom.cells b [string s, int i64 n, int i64 n_1, slice a l c, int i64 n_2, slice a_1 l_1 c_1, slice a_2 l_2 c_2, slice a_3 l_3 c_3, slice a_4 l_4 c_4, slice a_5 l_5 c_5, int i64 n_3, slice a_6 l_6 c_6, string s_1] 61)]
 [(0, F), (1, Atom.cells y.b (chS x.c x.w) 28)] ∧
 nS x.c - y.i < nS x.c - x_3.i))))))
 ((∃ (x_4 : RpI),
 (x_4.i ≤ nS x.c ∧ RpH x.c (nS x.c) ∧ ∀ (j : Nat), j < x_4.i → kidAt x.c j = kidsA x.c j) ∧
 (pointer (some ⟨x_3.b, 0, none⟩) = pointer (some ⟨x_4.b, 0, none⟩) ∧ int i64 (↑x.w.vs.n : Int) = int i64 (↑x.w.vs.n : Int) ∧ int i64 (0 : Int) = int i64 (↑x_4.i : Int) ∧ True) ∧
 Ent [(0, F), (1, Atom.cells x_3.b (chS x.c x.w) 28)] [(0, F), (1, Atom.cells x_4.b (chS x.c x.w) 28)]) ∧
 ∀ (x_4 : RpI) (js : Nat → Value),
 (x_4.i ≤ nS x.c ∧ RpH x.c (nS x.c) ∧ ∀ (j : Nat), j < x_4.i → kidAt x.c j = kidsA x.c j) →
 Br (decide ((↑x_4.i : Int) < (↑x.w.vs.n : Int)))
 (∃ (n : Nat),
 (∃ (x_5 : RpI),
 ((x_5.i < nS x.c ∧ RpH x.c (nS x.c) ∧ (∀ (j : Nat), j < x_5.i → kidAt x.c j = kidsA x.c j) ∧ 1 ≤ x_5.j ∧ x_5.j ≤ nS x.c ∧ List.take (kidsOf x.c (6 : Int) x_5.j x_5.i).length (kidAt x.c x_5.i) = kidsOf x.c (6 : Int) x_5.j x_5.i) ∧ x_5.i = n) ∧
 (pointer (some ⟨x_4.b, 0, none⟩) = pointer (some ⟨x_5.b, 0, none⟩) ∧ int i64 (↑x.w.vs.n : Int) = int i64 (↑x.w.vs.n : Int) ∧ int i64 (↑x_4.i : Int) = int i64 (↑x_5.i : Int) ∧ int i64 (0 : Int) = int i64 (↑(kidsOf x.c (6 : Int) x_5.j x_5.i).length : Int) ∧ int i64 (1 : Int) = int i64 (↑x_5.j : Int) ∧ True) ∧
 Ent [(0, F), (1, Atom.cells x_4.b (chS x.c x.w) 28)] [(0, F), (1, Atom.cells x_5.b (chS x.c x.w) 28)]) ∧
 ∀ (x_5 : RpI) (js : Nat → Value),
 (x_5.i < nS x.c ∧ RpH x.c (nS x.c) ∧ (∀ (j : Nat), j < x_5.i → kidAt x.c j = kidsA x.c j) ∧ 1 ≤ x_5.j ∧ x_5.j ≤ nS x.c ∧ List.take (kidsOf x.c (6 : Int) x_5.j x_5.i).length (kidAt x.c x_5.i) = kidsOf x.c (6 : Int) x_5.j x_5.i) ∧ x_5.i = n →
 Br (decide ((↑x_5.j : Int) < (↑x.w.vs.n : Int)))
 (Same ⟨x_5.b, 3, none⟩ x_5.b ∧
 QOpOk Try.prog (opIn Try.f44 17 3) (ixQ 13) ∧
 ∃ (x_6 : IxQX),
 [slice x.w.vs.a x.w.vs.n x.w.vs.cap, int i64 (↑x_5.j : Int)] = [slice (some ⟨x_6.b, x_6.o, none⟩) x_6.len x_6.cap, int i64 x_6.n] ∧
 ((0 : Int) ≤ x_6.n ∧ x_6.n < (↑x_6.len : Int)) ∧
 ∃ (n_1 : Int),
 Look F ⟨x_6.b, x_6.o + x_6.n.toNat * 13 + 2, none⟩ (int i64 n_1) ∧
 Br (n_1 == (↑x_5.i : Int))
 (Same ⟨x_5.b, 3, none⟩ x_5.b ∧
 QOpOk Try.prog (opIn Try.f44 18 4) (ixQ 13) ∧
 ∃ (x_7 : IxQX),
 [slice x.w.vs.a x.w.vs.n x.w.vs.cap, int i64 (↑x_5.i : Int)] = [slice (some ⟨x_7.b, x_7.o, none⟩) x_7.len x_7.cap, int i64 x_7.n] ∧
 ((0 : Int) ≤ x_7.n ∧ x_7.n < (↑x_7.len : Int)) ∧
 ∃ (a : Option Addr),
 ∃ (l : Nat),
 ∃ (c : Nat),
 Look F ⟨x_7.b, x_7.o + x_7.n.toNat * 13 + 3, none⟩ (slice a l c) ∧
 Br (decide ((↑(kidsOf x.c (6 : Int) x_5.j x_5.i).length : Int) ≥ (↑l : Int))) (Done rPlC x F (Ending.returned (bool false)) [(0, F), (1, Atom.cells x_5.b (chS x.c x.w) 28)])
 (Same ⟨x_5.b, 3, none⟩ x_5.b ∧
 QOpOk Try.prog (opIn Try.f44 18 13) (ixQ 13) ∧
 ∃ (x_8 : IxQX),
 [slice x.w.vs.a x.w.vs.n x.w.vs.cap, int i64 (↑x_5.i : Int)] = [slice (some ⟨x_8.b, x_8.o, none⟩) x_8.len x_8.cap, int i64 x_8.n] ∧
 ((0 : Int) ≤ x_8.n ∧ x_8.n < (↑x_8.len : Int)) ∧
 ∃ (a : Option Addr),
 ∃ (l : Nat),
 ∃ (c : Nat),
 Look F ⟨x_8.b, x_8.o + x_8.n.toNat * 13 + 3, none⟩ (slice a l c) ∧
 QOpOk Try.prog (opIn Try.f44 18 17) (ixQ 1) ∧
 ∃ (x_9 : IxQX),
 [slice a l c, int i64 (↑(kidsOf x.c (6 : Int) x_5.j x_5.i).length : Int)] = [slice (some ⟨x_9.b, x_9.o, none⟩) x_9.len x_9.cap, int i64 x_9.n] ∧
 ((0 : Int) ≤ x_9.n ∧ x_9.n < (↑x_9.len : Int)) ∧
 ∃ (n_2 : Int),
 Look F ⟨x_9.b, x_9.o + x_9.n.toNat * 1, none⟩ (int i64 n_2) ∧
 Br (n_2 != (↑x_5.j : Int)) (Done rPlC x F (Ending.returned (bool false)) [(0, F), (1, Atom.cells x_5.b (chS x.c x.w) 28)])
 (((-9223372036854775808 : Int) ≤ (↑(kidsOf x.c (6 : Int) x_5.j x_5.i).length : Int) + (1 : Int) ∧ (↑(kidsOf x.c (6 : Int) x_5.j x_5.i).length : Int) + (1 : Int) ≤ (9223372036854775807 : Int)) ∧
 ((-9223372036854775808 : Int) ≤ (↑x_5.j : Int) + (1 : Int) ∧ (↑x_5.j : Int) + (1 : Int) ≤ (9223372036854775807 : Int)) ∧
 ∃ (y : RpI),
 ((y.i < nS x.c ∧ RpH x.c (nS x.c) ∧ (∀ (j : Nat), j < y.i → kidAt x.c j = kidsA x.c j) ∧ 1 ≤ y.j ∧ y.j ≤ nS x.c ∧ List.take (kidsOf x.c (6 : Int) y.j y.i).length (kidAt x.c y.i) = kidsOf x.c (6 : Int) y.j y.i) ∧ y.i = n) ∧
 (pointer (some ⟨x_5.b, 0, none⟩) = pointer (some ⟨y.b, 0, none⟩) ∧ int i64 (↑x.w.vs.n : Int) = int i64 (↑x.w.vs.n : Int) ∧ int i64 (↑x_5.i : Int) = int i64 (↑y.i : Int) ∧ int i64 ((↑(kidsOf x.c (6 : Int) x_5.j x_5.i).length : Int) + (1 : Int)) = int i64 (↑(kidsOf x.c (6 : Int) y.j y.i).length : Int) ∧ int i64 ((↑x_5.j : Int) + (1 : Int)) = int i64 (↑y.j : Int) ∧ True) ∧
 Ent [(0, F), (1, Atom.cells x_5.b (chS x.c x.w) 28)] [(0, F), (1, Atom.cells y.b (chS x.c x.w) 28)] ∧ nS x.c - y.j < nS x.c - x_5.j)))
 (((-9223372036854775808 : Int) ≤ (↑x_5.j : Int) + (1 : Int) ∧ (↑x_5.j : Int) + (1 : Int) ≤ (9223372036854775807 : Int)) ∧
 ∃ (y : RpI),
 ((y.i < nS x.c ∧ RpH x.c (nS x.c) ∧ (∀ (j : Nat), j < y.i → kidAt x.c j = kidsA x.c j) ∧ 1 ≤ y.j ∧ y.j ≤ nS x.c ∧ List.take (kidsOf x.c (6 : Int) y.j y.i).length (kidAt x.c y.i) = kidsOf x.c (6 : Int) y.j y.i) ∧ y.i = n) ∧
 (pointer (some ⟨x_5.b, 0, none⟩) = pointer (some ⟨y.b, 0, none⟩) ∧ int i64 (↑x.w.vs.n : Int) = int i64 (↑x.w.vs.n : Int) ∧ int i64 (↑x_5.i : Int) = int i64 (↑y.i : Int) ∧ int i64 (↑(kidsOf x.c (6 : Int) x_5.j x_5.i).length : Int) = int i64 (↑(kidsOf x.c (6 : Int) y.j y.i).length : Int) ∧ int i64 ((↑x_5.j : Int) + (1 : Int)) = int i64 (↑y.j : Int) ∧ True) ∧
 Ent [(0, F), (1, Atom.cells x_5.b (chS x.c x.w) 28)] [(0, F), (1, Atom.cells y.b (chS x.c x.w) 28)] ∧ nS x.c - y.j < nS x.c - x_5.j))
 (Same ⟨x_5.b, 3, none⟩ x_5.b ∧
 QOpOk Try.prog (opIn Try.f44 21 4) (ixQ 13) ∧
 ∃ (x_6 : IxQX),
 [slice x.w.vs.a x.w.vs.n x.w.vs.cap, int i64 (↑x_5.i : Int)] = [slice (some ⟨x_6.b, x_6.o, none⟩) x_6.len x_6.cap, int i64 x_6.n] ∧
 ((0 : Int) ≤ x_6.n ∧ x_6.n < (↑x_6.len : Int)) ∧
 ∃ (a : Option Addr),
 ∃ (l : Nat),
 ∃ (c : Nat),
 Look F ⟨x_6.b, x_6.o + x_6.n.toNat * 13 + 3, none⟩ (slice a l c) ∧
 Br ((↑(kidsOf x.c (6 : Int) x_5.j x_5.i).length : Int) != (↑l : Int)) (Done rPlC x F (Ending.returned (bool false)) [(0, F), (1, Atom.cells x_5.b (chS x.c x.w) 28)])
 (((-9223372036854775808 : Int) ≤ (↑x_5.i : Int) + (1 : Int) ∧ (↑x_5.i : Int) + (1 : Int) ≤ (9223372036854775807 : Int)) ∧
 ∃ (y : RpI),
 (y.i ≤ nS x.c ∧ RpH x.c (nS x.c) ∧ ∀ (j : Nat), j < y.i → kidAt x.c j = kidsA x.c j) ∧
 (pointer (some ⟨x_5.b, 0, none⟩) = pointer (some ⟨y.b, 0, none⟩) ∧ int i64 (↑x.w.vs.n : Int) = int i64 (↑x.w.vs.n : Int) ∧ int i64 ((↑x_5.i : Int) + (1 : Int)) = int i64 (↑y.i : Int) ∧ True) ∧
 Ent [(0, F), (1, Atom.cells x_5.b (chS x.c x.w) 28)] [(0, F), (1, Atom.cells y.b (chS x.c x.w) 28)] ∧ nS x.c - y.i < nS x.c - x_4.i)))
 (Same ⟨x_4.b, 0, none⟩ x_4.b ∧
 Same ⟨x_4.b, 1, none⟩ x_4.b ∧
 Same ⟨x_4.b, 2, none⟩ x_4.b ∧
 Same ⟨x_4.b, 3, none⟩ x_4.b ∧
 Same ⟨x_4.b, 4, none⟩ x_4.b ∧
 Same ⟨x_4.b, 5, none⟩ x_4.b ∧
 Same ⟨x_4.b, 6, none⟩ x_4.b ∧
 Same ⟨x_4.b, 7, none⟩ x_4.b ∧
 FnOk Try.prog 31 rKidsC ∧
 true = true ∧
 ∃ (x_5 : RfX),
 [agg { toList := (chS x.c x.w) }, int i64 (0 : Int)] = [agg { toList := (chS x_5.c x_5.w) }, int i64 x_5.a] ∧
 ([] : List Atom) = [] ∧
 nS x_5.c ≤ 1000 ∧
 ChIn (Atom.pred (rest [(0, F), (1, Atom.cells x_4.b (chS x.c x.w) 28)] [])) x_5.w.v x_5.c ∧
 ∀ (y : Row), IsRow 3 1 (ints (kidV x_5.c x_5.a)) y ∧ y.n = (kidV x_5.c x_5.a).length → Done rPlC x F (Ending.returned (bool (decide ((↑y.n : Int) > (0 : Int))))) [(0, F), (1, Atom.cells x_4.b (chS x.c x.w) 28), (77, y.A)])))))) := by
  obtain ⟨c, w⟩ := x
  replace hr : ChIn F w.v c := hr
  obtain ⟨hn, hnb⟩ := hr.num
  have no : ∀ {S : St}, Ent S (ofL [F]) → (Placed c → False) → Done rPlC ⟨c, w⟩ F (.returned (.bool false)) S := fun hS h => ⟨⟨(), trivial, retB (placedB_no h).symm, hS⟩⟩
  intro b1
  refine ⟨⟨rfl, rfl⟩, br_decide (fun q => no (Ent.pick [0] rfl rfl) fun hp => ?_) (fun q1 => br_decide (fun q => no (Ent.pick [0] rfl rfl) fun hp => ?_) (fun q2 => ?_))⟩
  · have := hp.n2; dsimp only at q; omega
  · have := hp.n128; dsimp only at q; omega
  dsimp only at q1 q2
  obtain ⟨b0, o0, ea, hst⟩ := hr.stsAt (by omega)
  obtain ⟨s0, hs0⟩ := get_st (c := c) (i := 0) (by omega)
  obtain ⟨r0, ⟨vk0, ve0, vx0, vt0, vd0, vi0, vp0, rfl, -⟩, hL0⟩ := hst 0 s0 hs0
  refine ⟨⟨rfl, rfl⟩, ixq_ok 13 rfl rfl rfl rfl, ⟨b0, o0, w.vs.n, w.vs.cap, 0⟩, by dsimp only; rw [ea], by dsimp only; omega, s0.kind, hL0 1 _ rfl, br_intro (fun q => no (Ent.pick [0] rfl rfl) fun hp => ?_) (fun q3 => ⟨⟨rfl, rfl⟩, ixq_ok 13 rfl rfl rfl rfl, ⟨b0, o0, w.vs.n, w.vs.cap, 0⟩, by dsimp only; rw [ea], by dsimp only; omega, s0.parent, hL0 2 _ rfl, br_intro (fun q => no (Ent.pick [0] rfl rfl) fun hp => ?_) (fun q4 => ?_)⟩)⟩
  · have := hp.k0
    rw [kd_get hs0] at this
    rw [this] at q; cases q
  · have := hp.p0
    rw [pr_get hs0] at this
    rw [this] at q; cases q
  have q3' : s0.kind = 0 := by simpa using q3
  have q4' : s0.parent = -1 := by simpa using q4
  have hh : headP c = true := by
    unfold headP
    simp only [Bool.and_eq_true, decide_eq_true_eq]
    rw [kd_get hs0, pr_get hs0]
    omega
  clear hL0 q3 q4 q3' q4' hs0
  refine ⟨⟨⟨1, b1, 0⟩, ⟨Nat.le_refl 1, by dsimp only; omega, hh, fun j h0 h1 => by dsimp only at h1; omega⟩, ⟨rfl, rfl, rfl, trivial⟩, Ent.pick [0, 1000] rfl rfl⟩, ?_⟩
  clear b1
  rintro ⟨i, b1, j0⟩ js ⟨h1, h2, h3⟩
  dsimp only at h1 h2 h3 ⊢
  refine br_decide (fun hlt => ?_) (fun hge => ?_)
  · have hi : i < nS c := by omega
    obtain ⟨s, hs⟩ := get_st hi
    obtain ⟨r, ⟨vk, ve, vx, vt, vd, vi, vp, rfl, p1, p2, p3, p4, p5, p6, p7⟩, hL⟩ := hst i s hs
    obtain ⟨ka, kc, rfl, -⟩ := SlIn.open p1
    obtain ⟨ea2, ec, rfl, -⟩ := SlIn.open p2
    obtain ⟨xa, xc, rfl, -⟩ := SlIn.open p3
    obtain ⟨ta, tc, rfl, -⟩ := SlIn.open p4
    obtain ⟨da, dc, rfl, -⟩ := SlIn.open p5
    obtain ⟨ia, ic, rfl, -⟩ := SlIn.open p6
    obtain ⟨pa, pc, rfl, -⟩ := SlIn.open p7
    have ek := kd_get hs
    have ep := pr_get hs
    refine ⟨⟨rfl, rfl⟩, ixq_ok 13 rfl rfl rfl rfl, ⟨b0, o0, w.vs.n, w.vs.cap, i⟩, by dsimp only; rw [ea], by dsimp only; omega, s.id, hL 0 _ rfl, s.kind, hL 1 _ rfl, s.parent, hL 2 _ rfl, _, _, _, hL 3 _ rfl, s.init, hL 4 _ rfl, _, _, _, hL 5 _ rfl, _, _, _, hL 6 _ rfl, _, _, _, hL 7 _ rfl, _, _, _, hL 8 _ rfl, _, _, _, hL 9 _ rfl, s.done.kind, hL 10 _ rfl, _, _, _, hL 11 _ rfl, s.done.body, hL 12 _ rfl, fun bs => ?_⟩
    iterate 13 refine ⟨⟨rfl, rfl⟩, ?_⟩
    refine ⟨⟨rfl, rfl⟩, br_decide (fun q => no (Ent.pick [0] rfl rfl) fun hp => ?_) (fun q1 => ⟨⟨rfl, rfl⟩, br_decide (fun q => no (Ent.pick [0] rfl rfl) fun hp => ?_) (fun q2 => ⟨⟨rfl, rfl⟩, br_decide (fun q => no (Ent.pick [0] rfl rfl) fun hp => ?_) (fun q3 => ⟨⟨rfl, rfl⟩, br_decide (fun q => no (Ent.pick [0] rfl rfl) fun hp => ?_) (fun q4 => ?_)⟩)⟩)⟩)⟩
    · have := hp.st i (by omega) hi; omega
    · have := hp.st i (by omega) hi; omega
    · have := hp.st i (by omega) hi; omega
    · have := hp.st i (by omega) hi; omega
    obtain ⟨m, hm⟩ : ∃ m, m = s.parent.toNat := ⟨_, rfl⟩
    obtain ⟨s2, hs2⟩ := get_st (c := c) (i := m) (by omega)
    obtain ⟨r2, ⟨vk', ve', vx', vt', vd', vi', vp', rfl, -⟩, hL2⟩ := hst m s2 hs2
    have ek2 := kd_get hs2
    refine ⟨⟨rfl, rfl⟩, ⟨rfl, rfl⟩, ixq_ok 13 rfl rfl rfl rfl, ⟨b0, o0, w.vs.n, w.vs.cap, s.parent⟩, by dsimp only; rw [ea], by dsimp only; omega, s2.kind, by dsimp only; rw [← hm]; exact hL2 1 _ rfl, br_decide (fun q => no (Ent.pick [0] rfl rfl) fun hp => ?_) (fun q5 => ⟨by omega, ⟨i + 1, b1, 0⟩, ⟨by dsimp only; omega, hi, h3.1, fun j h0 hj => ?_⟩, ⟨rfl, rfl, rfl, trivial⟩, Ent.pick [0, 1] rfl rfl, by dsimp only; omega⟩)⟩
    · have := hp.st i (by omega) hi
      rw [ep, ← hm, ek2] at this
      omega
    · by_cases e : j < i
      · exact h3.2 j h0 e
      · have e : j = i := by dsimp only at hj; omega
        subst e
        unfold stB
        simp only [Bool.and_eq_true, decide_eq_true_eq]
        rw [ek, ep, ← hm, ek2]
        omega
  · have hin : i = nS c := by omega
    subst hin
    refine ⟨⟨⟨0, b1, 0⟩, ⟨Nat.zero_le _, h3, fun j hj => absurd hj (Nat.not_lt_zero j)⟩, ⟨rfl, rfl, rfl, trivial⟩, Ent.pick [0, 1] rfl rfl⟩, ?_⟩
    have hst5 : ∀ j, 0 < j → j < nS c → kd c j < 6 := fun j h0 hj => by
      have := stB_spec (h3.2 j h0 hj); omega
    clear hge h1 h2 b1
    rintro ⟨i, b1, j0⟩ js2 ⟨g1, -, g3⟩
    dsimp only at g1 g3 ⊢
    refine br_decide (fun hlt => ?_) (fun hge => ?_)
    · have hi : i < nS c := by omega
      obtain ⟨s, hs⟩ := get_st hi
      obtain ⟨r, ⟨vk, ve, vx, vt, vd, vi, vp, rfl, p1, -⟩, hL⟩ := hst i s hs
      obtain ⟨ka, kc, rfl, -⟩ := SlIn.open p1
      have hkn := (SlIn.num p1).2.2
      have hka : kidAt c i = s.kids := by unfold kidAt; rw [hs]; rfl
      refine ⟨i, ⟨⟨i, b1, 1⟩, ⟨⟨hi, h3, g3, Nat.le_refl 1, by dsimp only; omega, rfl⟩, rfl⟩, ⟨rfl, rfl, rfl, rfl, rfl, trivial⟩, Ent.pick [0, 1] rfl rfl⟩, ?_⟩
      clear b1
      rintro ⟨i2, b1, j⟩ js3 ⟨⟨-, -, -, f4, f5, f6⟩, hkk⟩
      dsimp only at f4 f5 f6 hkk ⊢
      subst hkk
      rw [hka] at f6
      have hkl := kidsOf_len c 6 j i2
      have hlen : (kidsOf c 6 j i2).length ≤ s.kids.length := by
        have := congrArg List.length f6
        rw [List.length_take] at this
        omega
      have whole : Placed c → s.kids = kidsA c i2 := fun hp => hp.kids i2 s hs
      refine br_decide (fun hlt2 => ?_) (fun hge2 => ?_)
      · have hj : j < nS c := by omega
        obtain ⟨sj, hsj⟩ := get_st hj
        obtain ⟨rj, ⟨vk2, ve2, vx2, vt2, vd2, vi2, vp2, rfl, -⟩, hLj⟩ := hst j sj hsj
        have epj := pr_get hsj
        have ext : ∀ m, j + 1 ≤ m → m ≤ nS c → pr c j = i2 → ∃ t, kidsOf c 6 m i2 = kidsOf c 6 j i2 ++ (j : Int) :: t := fun m h1 h2 hpj => by
          induction m with
          | zero => omega
          | succ m ih =>
            by_cases e : m = j
            · subst e
              refine ⟨[], ?_⟩
              rw [kidsOf_succ]
              have : (Nat.blt 0 m && (pr c m == (i2 : Int)) && decide (kd c m < 6)) = true := by
                simp only [Bool.and_eq_true, Nat.blt_eq, beq_iff_eq, decide_eq_true_eq]
                exact ⟨⟨by omega, hpj⟩, hst5 m (by omega) hj⟩
              rw [this]; rfl
            · obtain ⟨t, ht⟩ := ih (by omega) (by omega)
              rw [kidsOf_succ, ht]
              exact ⟨t ++ _, by rw [List.append_assoc, List.cons_append]⟩
        refine ⟨⟨rfl, rfl⟩, ixq_ok 13 rfl rfl rfl rfl, ⟨b0, o0, w.vs.n, w.vs.cap, j⟩, by dsimp only; rw [ea], by dsimp only; omega, sj.parent, hLj 2 _ rfl, br_intro (fun q1 => ?_) (fun q1 => ⟨by omega, ⟨i2, b1, j + 1⟩, ⟨⟨hi, h3, g3, by dsimp only; omega, hj, ?_⟩, rfl⟩, ⟨rfl, rfl, rfl, ?_, rfl, trivial⟩, Ent.pick [0, 1] rfl rfl, by dsimp only; omega⟩)⟩
        · have q1 : pr c j = (i2 : Int) := by rw [epj]; simpa using q1
          have yes : kidsOf c 6 (j + 1) i2 = kidsOf c 6 j i2 ++ [(j : Int)] := by
            rw [kidsOf_succ]
            have : (Nat.blt 0 j && (pr c j == (i2 : Int)) && decide (kd c j < 6)) = true := by
              simp only [Bool.and_eq_true, Nat.blt_eq, beq_iff_eq, decide_eq_true_eq]
              exact ⟨⟨by omega, q1⟩, hst5 j (by omega) hj⟩
            rw [this]; rfl
          obtain ⟨t, ht⟩ := ext (nS c) hj (Nat.le_refl _) q1
          have ylen : (kidsOf c 6 (j + 1) i2).length = (kidsOf c 6 j i2).length + 1 := by rw [yes, List.length_append]; rfl
          refine ⟨⟨rfl, rfl⟩, ixq_ok 13 rfl rfl rfl rfl, ⟨b0, o0, w.vs.n, w.vs.cap, i2⟩, by dsimp only; rw [ea], by dsimp only; omega, _, _, _, hL 3 _ rfl, br_decide (fun q2 => no (Ent.pick [0] rfl rfl) fun hp => ?_) (fun q2 => ?_)⟩
          · have := congrArg List.length (whole hp)
            unfold kidsA at this
            rw [ht, List.length_append, List.length_cons] at this
            omega
          · obtain ⟨u, hu⟩ : ∃ u, s.kids[(kidsOf c 6 j i2).length]? = some u := ⟨_, List.getElem?_eq_getElem (by omega)⟩
            obtain ⟨kb, ko, rfl, hlk⟩ := kid_get p1 hu
            refine ⟨⟨rfl, rfl⟩, ixq_ok 13 rfl rfl rfl rfl, ⟨b0, o0, w.vs.n, w.vs.cap, i2⟩, by dsimp only; rw [ea], by dsimp only; omega, _, _, _, hL 3 _ rfl, ixq_ok 1 rfl rfl rfl rfl, ⟨kb, ko, _, kc, (kidsOf c 6 j i2).length⟩, rfl, by dsimp only; omega, u, hlk, br_intro (fun q3 => no (Ent.pick [0] rfl rfl) fun hp => ?_) (fun q3 => ⟨by omega, by omega, ⟨i2, b1, j + 1⟩, ⟨⟨hi, h3, g3, by dsimp only; omega, hj, ?_⟩, rfl⟩, ⟨rfl, rfl, rfl, ?_, rfl, trivial⟩, Ent.pick [0, 1] rfl rfl, by dsimp only; omega⟩)⟩
            · have e := whole hp
              unfold kidsA at e
              rw [ht] at e
              rw [e, List.getElem?_append_right (Nat.le_refl _), Nat.sub_self] at hu
              simp at hu
              rw [← hu] at q3
              simp at q3
            · have q3 : u = (j : Int) := by simpa using q3
              subst q3
              dsimp only
              rw [hka, ylen, take_g hu, f6, yes]
            · dsimp only
              rw [ylen]; rfl
        · have q1 : ¬ pr c j = (i2 : Int) := by rw [epj]; simpa using q1
          dsimp only
          rw [hka, kidsOf_succ]
          have : (Nat.blt 0 j && (pr c j == (i2 : Int)) && decide (kd c j < 6)) = false := by
            have : (pr c j == (i2 : Int)) = false := by simpa using q1
            rw [this]; simp
          rw [this, cond_false, List.append_nil]
          exact f6
        · have q1 : ¬ pr c j = (i2 : Int) := by rw [epj]; simpa using q1
          dsimp only
          rw [kidsOf_succ]
          have : (Nat.blt 0 j && (pr c j == (i2 : Int)) && decide (kd c j < 6)) = false := by
            have : (pr c j == (i2 : Int)) = false := by simpa using q1
            rw [this]; simp
          rw [this, cond_false, List.append_nil]
      · have hjn : j = nS c := by omega
        subst hjn
        refine ⟨⟨rfl, rfl⟩, ixq_ok 13 rfl rfl rfl rfl, ⟨b0, o0, w.vs.n, w.vs.cap, i2⟩, by dsimp only; rw [ea], by dsimp only; omega, _, _, _, hL 3 _ rfl, br_intro (fun q => no (Ent.pick [0] rfl rfl) fun hp => ?_) (fun q => ⟨by omega, ⟨i2 + 1, b1, 0⟩, ⟨hi, h3, fun j hj => ?_⟩, ⟨rfl, rfl, rfl, trivial⟩, Ent.pick [0, 1] rfl rfl, by dsimp only; omega⟩)⟩
        · have := congrArg List.length (whole hp)
          unfold kidsA at this
          rw [← this] at q
          simp at q
        · by_cases e : j < i2
          · exact g3 j e
          · have e : j = i2 := by dsimp only at hj; omega
            subst e
            have q : ((kidsOf c 6 (nS c) j).length : Int) = s.kids.length := by simpa using q
            rw [List.take_of_length_le (by omega)] at f6
            rw [hka, f6]; rfl
    · have hin : i = nS c := by omega
      subst hin
      iterate 8 refine ⟨⟨rfl, rfl⟩, ?_⟩
      refine ⟨rkids_ok, rfl, ⟨c, w, 0, 0⟩, rfl, rfl, by dsimp only; omega, hr.sub (sub_rest 0 (by simp) rfl), fun r hr2 => ⟨(), trivial, retB ?_, Ent.pick [0] rfl rfl⟩⟩
      have ekv : kidV c 0 = kidsP c 0 := by
        unfold kidV
        have : isS c (0 : Int) = true := isS_nat (i := 0) (show 0 < nS c by omega)
        rw [this]; rfl
      dsimp only at hr2 ⊢
      rw [hr2.2, ekv]
      have e : placedB c = !(kidsP c 0).isEmpty := by
        unfold placedB
        have e1 : (List.range (nS c)).all (fun i => Nat.beq i 0 || stB c i) = true := by
          simp only [List.all_eq_true, List.mem_range, Bool.or_eq_true, Nat.beq_eq]
          intro i hi
          rcases Nat.eq_zero_or_pos i with e | e
          · exact .inl e
          · exact .inr (h3.2 i e hi)
        have e2 : (List.range (nS c)).all (fun i => decide (kidAt c i = kidsA c i)) = true := by
          simp only [List.all_eq_true, List.mem_range, decide_eq_true_eq]
          exact fun i hi => g3 i hi
        rw [hh, e1, e2]; rfl
      rw [e]
      cases kidsP c 0 with
      | nil => rfl
      | cons x l =>
        rw [List.length_cons, decide_eq_true (by omega)]; rfl
set_option maxRecDepth 100000 in
theorem rpl_ok : FnOk Try.prog 44 rPlC :=
  fnOk (N := 128) (by kernel_rfl) Try.func44 rfl (by kernel_rfl) (fun _ => Nat.le_of_ble_eq_true rfl) rpl_H [] fun x F hc hr => Eq.mpr (by kernel_rfl) (rpl_vc x F hc hr)
structure RamX where
  c : ChD
  w : ChS
  t : TrD
  we : Sl
  wt : Sl
def rAmC : Con where
  X := RamX
  Y := Unit
  args x := [chAgg x.c x.w, .agg #[.int .i64 x.t.source, .slice x.we.a x.we.n x.we.cap, .string x.t.cond, .slice x.wt.a x.wt.n x.wt.cap, .bool x.t.internal, .int .i64 x.t.block]]
  pre _ := []
  cond x := Placed x.c
  rdc x F := ChIn F x.w.v x.c ∧ IntsIn F (.slice x.wt.a x.wt.n x.wt.cap) x.t.targets
  rel _ _ := True
  val x _ := .returned (.bool (aimB x.c x.t))
  post _ _ := []
  rmono _ _ _ h hk := ⟨hk.1.sub h, hk.2.sub h⟩
structure RmI where
  i : Nat
  b : Nat
  b2 : Nat
  k : Nat
  a : Int
def rAmInv (x : RamX) (F : Atom) : Nat → Option Inv := fun
  | 0 => some { X := RmI, P := fun i => i.i ≤ x.t.targets.length ∧ isS x.c x.t.source = true ∧ aimB x.c x.t = aimT x.c (x.t.targets.take i.i) (x.t.targets.drop i.i) ∧ ∀ u ∈ x.t.targets.take i.i, isS x.c u = true, mu := fun i => x.t.targets.length - i.i, lv := fun i => [(2, .pointer (some ⟨i.b, 0, none⟩)), (3, .pointer (some ⟨i.b2, 0, none⟩)), (5, .int .i64 i.i)], st := fun i => [F, .cells i.b (chS x.c x.w) 28, .cells i.b2 (trA x.t x.we x.wt) 74] }
  | 2 => some { X := RmI, P := fun i => i.i < x.t.targets.length ∧ isS x.c x.t.source = true ∧ x.t.targets[i.i]? = some i.a ∧ isS x.c i.a = true ∧ (∀ u ∈ x.t.targets.take i.i, isS x.c u = true) ∧ i.k ≤ i.i ∧ aimB x.c x.t = (((x.t.targets.take i.i).drop i.k).all (fun b => tgB x.c i.a b) && aimT x.c (x.t.targets.take (i.i + 1)) (x.t.targets.drop (i.i + 1))), gh := some ⟨Nat, fun i => i.i⟩, mu := fun i => i.i - i.k, lv := fun i => [(2, .pointer (some ⟨i.b, 0, none⟩)), (3, .pointer (some ⟨i.b2, 0, none⟩)), (5, .int .i64 i.i), (6, .int .i64 i.k)], st := fun i => [F, .cells i.b (chS x.c x.w) 28, .cells i.b2 (trA x.t x.we x.wt) 74] }
  | _ => none
def rAmOv (_x : RamX) (_F : Atom) : List (Nat × Nat × OH) := [(0, 0, .n 1000), (0, 1, .n 1010), (1, 0, .q (at8 1000)), (1, 2, .q [.atj 1010]), (1, 3, .c rIsC [] []), (4, 2, .q [.atj 2]), (6, 0, .q (at8 1)), (6, 2, .q [.atj 2]), (6, 4, .qo (ixQ 1)), (6, 5, .q [.ex 0 (.int .i64)]), (6, 6, .c rIsC [] []), (6, 10, .q [.atj 2]), (6, 12, .qo (ixQ 1)), (6, 13, .q [.ex 0 (.int .i64)]),
  (11, 0, .q (at8 1)), (11, 2, .q [.atj 2]), (11, 4, .qo (ixQ 1)), (11, 5, .q [.ex 0 (.int .i64)]), (11, 7, .q [.atj 2]), (11, 9, .qo (ixQ 1)), (11, 10, .q [.ex 0 (.int .i64)]), (11, 11, .c rTgC [] [])]
noncomputable def ram_H (x : Con.X rAmC) (F : Atom) : Hints where
  op := hk ((rAmOv x F) ++ [])
  inv := rAmInv x F
  cut := (fun _ _ _ => none) x F
  ord := (fun _ => [])
open Go.Value (int slice string bool pointer agg tuple func) in
open Go.IntKind (i64) in
set_option maxRecDepth 100000 in
theorem ram_vc (x : RamX) (F : Atom) (hc : Con.cond rAmC x) (hr : Con.rdc rAmC x F) :
  ∀ (b b_1 : Nat),
 Same ⟨b, 0, none⟩ b ∧
 Same ⟨b, 1, none⟩ b ∧
 Same ⟨b, 2, none⟩ b ∧
 Same ⟨b, 3, none⟩ b ∧
 Same ⟨b, 4, none⟩ b ∧
 Same ⟨b, 5, none⟩ b ∧
 Same ⟨b, 6, none⟩ b ∧
 Same ⟨b, 7, none⟩ b ∧
 Same ⟨b_1, 0, none⟩ b_1 ∧
 FnOk Try.prog 52 rIsC ∧
 true = true ∧
 ∃ (x_1 : RfX),
 [agg { toList := (chS x.c x.w) }, int i64 x.t.source] = [agg { toList := (chS x_1.c x_1.w) }, int i64 x_1.a] ∧
 ([] : List Atom) = [] ∧
 True ∧
 ChIn (Atom.pred (rest [(0, F), (1000, Atom.cells b (chS x.c x.w) 28), (1010, Atom.cells b_1 [int i64 x.t.source, slice x.we.a x.we.n x.we.cap, string x.t.cond, slice x.wt.a x.wt.n x.wt.cap, bool x.t.internal, int i64 x.t.block] 74)] [])) x_1.w.v x_1.c ∧
 ∀ (y : Unit),
 True →
 Br (!isS x_1.c x_1.a) (Done rAmC x F (Ending.returned (bool false)) [(0, F), (1000, Atom.cells b (chS x.c x.w) 28), (1010, Atom.cells b_1 [int i64 x.t.source, slice x.we.a x.we.n x.we.cap, string x.t.cond, slice x.wt.a x.wt.n x.wt.cap, bool x.t.internal, int i64 x.t.block] 74)])
 ((∃ (x_2 : RmI),
 (x_2.i ≤ x.t.targets.length ∧ isS x.c x.t.source = true ∧ aimB x.c x.t = aimT x.c (List.take x_2.i x.t.targets) (List.drop x_2.i x.t.targets) ∧ ∀ (u : Int), u ∈ List.take x_2.i x.t.targets → isS x.c u = true) ∧
 (pointer (some ⟨b, 0, none⟩) = pointer (some ⟨x_2.b, 0, none⟩) ∧ pointer (some ⟨b_1, 0, none⟩) = pointer (some ⟨x_2.b2, 0, none⟩) ∧ int i64 (0 : Int) = int i64 (↑x_2.i : Int) ∧ True) ∧
 Ent [(0, F), (1000, Atom.cells b (chS x.c x.w) 28), (1010, Atom.cells b_1 [int i64 x.t.source, slice x.we.a x.we.n x.we.cap, string x.t.cond, slice x.wt.a x.wt.n x.wt.cap, bool x.t.internal, int i64 x.t.block] 74)]
 [(0, F), (1, Atom.cells x_2.b (chS x.c x.w) 28), (2, Atom.cells x_2.b2 [int i64 x.t.source, slice x.we.a x.we.n x.we.cap, string x.t.cond, slice x.wt.a x.wt.n x.wt.cap, bool x.t.internal, int i64 x.t.block] 74)]) ∧
 ∀ (x_2 : RmI) (js : Nat → Value),
 (x_2.i ≤ x.t.targets.length ∧ isS x.c x.t.source = true ∧ aimB x.c x.t = aimT x.c (List.take x_2.i x.t.targets) (List.drop x_2.i x.t.targets) ∧ ∀ (u : Int), u ∈ List.take x_2.i x.t.targets → isS x.c u = true) →
 Same ⟨x_2.b2, 3, none⟩ x_2.b2 ∧
 Br (decide ((↑x_2.i : Int) < (↑x.wt.n : Int)))
 (true = true ∧
 Same ⟨x_2.b, 0, none⟩ x_2.b ∧
 Same ⟨x_2.b, 1, none⟩ x_2.b ∧
 Same ⟨x_2.b, 2, none⟩ x_2.b ∧
 Same ⟨x_2.b, 3, none⟩ x_2.b ∧
 Same ⟨x_2.b, 4, none⟩ x_2.b ∧
 Same ⟨x_2.b, 5, none⟩ x_2.b ∧
 Same ⟨x_2.b, 6, none⟩ x_2.b ∧
 Same ⟨x_2.b, 7, none⟩ x_2.b ∧
 Same ⟨x_2.b2, 3, none⟩ x_2.b2 ∧
 QOpOk Try.prog (opIn Try.f45 6 4) (ixQ 1) ∧
 ∃ (x_3 : IxQX),
 [slice x.wt.a x.wt.n x.wt.cap, int i64 (↑x_2.i : Int)] = [slice (some ⟨x_3.b, x_3.o, none⟩) x_3.len x_3.cap, int i64 x_3.n] ∧
 ((0 : Int) ≤ x_3.n ∧ x_3.n < (↑x_3.len : Int)) ∧
 ∃ (n : Int),
 Look F ⟨x_3.b, x_3.o + x_3.n.toNat * 1, none⟩ (int i64 n) ∧
 FnOk Try.prog 52 rIsC ∧
 true = true ∧
 ∃ (x_4 : RfX),
 [agg { toList := (chS x.c x.w) }, int i64 n] = [agg { toList := (chS x_4.c x_4.w) }, int i64 x_4.a] ∧
 ([] : List Atom) = [] ∧
 True ∧
 ChIn (Atom.pred (rest [(0, F), (1, Atom.cells x_2.b (chS x.c x.w) 28), (2, Atom.cells x_2.b2 [int i64 x.t.source, slice x.we.a x.we.n x.we.cap, string x.t.cond, slice x.wt.a x.wt.n x.wt.cap, bool x.t.internal, int i64 x.t.block] 74)] [])) x_4.w.v x_4.c ∧
 ∀ (y : Unit),
 True →
 Br (!isS x_4.c x_4.a) (Done rAmC x F (Ending.returned (bool false)) [(0, F), (1, Atom.cells x_2.b (chS x.c x.w) 28), (2, Atom.cells x_2.b2 [int i64 x.t.source, slice x.we.a x.we.n x.we.cap, string x.t.cond, slice x.wt.a x.wt.n x.wt.cap, bool x.t.internal, int i64 x.t.block] 74)])
 (Same ⟨x_2.b2, 3, none⟩ x_2.b2 ∧
 QOpOk Try.prog (opIn Try.f45 6 12) (ixQ 1) ∧
 ∃ (x_5 : IxQX),
 [slice x.wt.a x.wt.n x.wt.cap, int i64 (↑x_2.i : Int)] = [slice (some ⟨x_5.b, x_5.o, none⟩) x_5.len x_5.cap, int i64 x_5.n] ∧
 ((0 : Int) ≤ x_5.n ∧ x_5.n < (↑x_5.len : Int)) ∧
 ∃ (n : Int),
 Look F ⟨x_5.b, x_5.o + x_5.n.toNat * 1, none⟩ (int i64 n) ∧
 Br (n == (0 : Int)) (Done rAmC x F (Ending.returned (bool false)) [(0, F), (1, Atom.cells x_2.b (chS x.c x.w) 28), (2, Atom.cells x_2.b2 [int i64 x.t.source, slice x.we.a x.we.n x.we.cap, string x.t.cond, slice x.wt.a x.wt.n x.wt.cap, bool x.t.internal, int i64 x.t.block] 74)])
 (∃ (n : Nat),
 (∃ (x_6 : RmI),
 ((x_6.i < x.t.targets.length ∧ isS x.c x.t.source = true ∧ x.t.targets[x_6.i]? = some x_6.a ∧ isS x.c x_6.a = true ∧ (∀ (u : Int), u ∈ List.take x_6.i x.t.targets → isS x.c u = true) ∧ x_6.k ≤ x_6.i ∧ aimB x.c x.t = (((List.drop x_6.k (List.take x_6.i x.t.targets)).all fun (b : Int) => tgB x.c x_6.a b) && aimT x.c (List.take (x_6.i + 1) x.t.targets) (List.drop (x_6.i + 1) x.t.targets))) ∧ x_6.i = n) ∧
 (pointer (some ⟨x_2.b, 0, none⟩) = pointer (some ⟨x_6.b, 0, none⟩) ∧ pointer (some ⟨x_2.b2, 0, none⟩) = pointer (some ⟨x_6.b2, 0, none⟩) ∧ int i64 (↑x_2.i : Int) = int i64 (↑x_6.i : Int) ∧ int i64 (0 : Int) = int i64 (↑x_6.k : Int) ∧ True) ∧
 Ent [(0, F), (1, Atom.cells x_2.b (chS x.c x.w) 28), (2, Atom.cells x_2.b2 [int i64 x.t.source, slice x.we.a x.we.n x.we.cap, string x.t.cond, slice x.wt.a x.wt.n x.wt.cap, bool x.t.internal, int i64 x.t.block] 74)]
 [(0, F), (1, Atom.cells x_6.b (chS x.c x.w) 28), (2, Atom.cells x_6.b2 [int i64 x.t.source, slice x.we.a x.we.n x.we.cap, string x.t.cond, slice x.wt.a x.wt.n x.wt.cap, bool x.t.internal, int i64 x.t.block] 74)]) ∧
 ∀ (x_6 : RmI) (js : Nat → Value),
 (x_6.i < x.t.targets.length ∧ isS x.c x.t.source = true ∧ x.t.targets[x_6.i]? = some x_6.a ∧ isS x.c x_6.a = true ∧ (∀ (u : Int), u ∈ List.take x_6.i x.t.targets → isS x.c u = true) ∧ x_6.k ≤ x_6.i ∧ aimB x.c x.t = (((List.drop x_6.k (List.take x_6.i x.t.targets)).all fun (b : Int) => tgB x.c x_6.a b) && aimT x.c (List.take (x_6.i + 1) x.t.targets) (List.drop (x_6.i + 1) x.t.targets))) ∧ x_6.i = n →
 Br (decide ((↑x_6.k : Int) < (↑x_6.i : Int)))
 (true = true ∧
 Same ⟨x_6.b, 0, none⟩ x_6.b ∧
 Same ⟨x_6.b, 1, none⟩ x_6.b ∧
 Same ⟨x_6.b, 2, none⟩ x_6.b ∧
 Same ⟨x_6.b, 3, none⟩ x_6.b ∧
 Same ⟨x_6.b, 4, none⟩ x_6.b ∧
 Same ⟨x_6.b, 5, none⟩ x_6.b ∧
 Same ⟨x_6.b, 6, none⟩ x_6.b ∧
 Same ⟨x_6.b, 7, none⟩ x_6.b ∧
 Same ⟨x_6.b2, 3, none⟩ x_6.b2 ∧
 QOpOk Try.prog (opIn Try.f45 11 4) (ixQ 1) ∧
 ∃ (x_7 : IxQX),
 [slice x.wt.a x.wt.n x.wt.cap, int i64 (↑x_6.k : Int)] = [slice (some ⟨x_7.b, x_7.o, none⟩) x_7.len x_7.cap, int i64 x_7.n] ∧
 ((0 : Int) ≤ x_7.n ∧ x_7.n < (↑x_7.len : Int)) ∧
 ∃ (n_1 : Int),
 Look F ⟨x_7.b, x_7.o + x_7.n.toNat * 1, none⟩ (int i64 n_1) ∧
 Same ⟨x_6.b2, 3, none⟩ x_6.b2 ∧
 QOpOk Try.prog (opIn Try.f45 11 9) (ixQ 1) ∧
 ∃ (x_8 : IxQX),
 [slice x.wt.a x.wt.n x.wt.cap, int i64 (↑x_6.i : Int)] = [slice (some ⟨x_8.b, x_8.o, none⟩) x_8.len x_8.cap, int i64 x_8.n] ∧
 ((0 : Int) ≤ x_8.n ∧ x_8.n < (↑x_8.len : Int)) ∧
 ∃ (n_2 : Int),
 Look F ⟨x_8.b, x_8.o + x_8.n.toNat * 1, none⟩ (int i64 n_2) ∧
 FnOk Try.prog 79 rTgC ∧
 true = true ∧
 ∃ (x_9 : RfX),
 [agg { toList := (chS x.c x.w) }, int i64 n_1, int i64 n_2] = [agg { toList := (chS x_9.c x_9.w) }, int i64 x_9.a, int i64 x_9.d] ∧
 ([] : List Atom) = [] ∧
 (Placed x_9.c ∧ isS x_9.c x_9.a = true ∧ isS x_9.c x_9.d = true) ∧
 ChIn (Atom.pred (rest [(0, F), (1, Atom.cells x_6.b (chS x.c x.w) 28), (2, Atom.cells x_6.b2 [int i64 x.t.source, slice x.we.a x.we.n x.we.cap, string x.t.cond, slice x.wt.a x.wt.n x.wt.cap, bool x.t.internal, int i64 x.t.block] 74)] [])) x_9.w.v x_9.c ∧
 ∀ (y : Unit),
 True →
 Br (!refTg x_9.c x_9.a x_9.d) (Done rAmC x F (Ending.returned (bool false)) [(0, F), (1, Atom.cells x_6.b (chS x.c x.w) 28), (2, Atom.cells x_6.b2 [int i64 x.t.source, slice x.we.a x.we.n x.we.cap, string x.t.cond, slice x.wt.a x.wt.n x.wt.cap, bool x.t.internal, int i64 x.t.block] 74)])
 (((-9223372036854775808 : Int) ≤ (↑x_6.k : Int) + (1 : Int) ∧ (↑x_6.k : Int) + (1 : Int) ≤ (9223372036854775807 : Int)) ∧
 ∃ (y : RmI),
 ((y.i < x.t.targets.length ∧ isS x.c x.t.source = true ∧ x.t.targets[y.i]? = some y.a ∧ isS x.c y.a = true ∧ (∀ (u : Int), u ∈ List.take y.i x.t.targets → isS x.c u = true) ∧ y.k ≤ y.i ∧ aimB x.c x.t = (((List.drop y.k (List.take y.i x.t.targets)).all fun (b : Int) => tgB x.c y.a b) && aimT x.c (List.take (y.i + 1) x.t.targets) (List.drop (y.i + 1) x.t.targets))) ∧ y.i = n) ∧
 (pointer (some ⟨x_6.b, 0, none⟩) = pointer (some ⟨y.b, 0, none⟩) ∧ pointer (some ⟨x_6.b2, 0, none⟩) = pointer (some ⟨y.b2, 0, none⟩) ∧ int i64 (↑x_6.i : Int) = int i64 (↑y.i : Int) ∧ int i64 ((↑x_6.k : Int) + (1 : Int)) = int i64 (↑y.k : Int) ∧ True) ∧
 Ent [(0, F), (1, Atom.cells x_6.b (chS x.c x.w) 28), (2, Atom.cells x_6.b2 [int i64 x.t.source, slice x.we.a x.we.n x.we.cap, string x.t.cond, slice x.wt.a x.wt.n x.wt.cap, bool x.t.internal, int i64 x.t.block] 74)]
 [(0, F), (1, Atom.cells y.b (chS x.c x.w) 28), (2, Atom.cells y.b2 [int i64 x.t.source, slice x.we.a x.we.n x.we.cap, string x.t.cond, slice x.wt.a x.wt.n x.wt.cap, bool x.t.internal, int i64 x.t.block] 74)] ∧
 y.i - y.k < x_6.i - x_6.k))
 (((-9223372036854775808 : Int) ≤ (↑x_6.i : Int) + (1 : Int) ∧ (↑x_6.i : Int) + (1 : Int) ≤ (9223372036854775807 : Int)) ∧
 ∃ (y : RmI),
 (y.i ≤ x.t.targets.length ∧ isS x.c x.t.source = true ∧ aimB x.c x.t = aimT x.c (List.take y.i x.t.targets) (List.drop y.i x.t.targets) ∧ ∀ (u : Int), u ∈ List.take y.i x.t.targets → isS x.c u = true) ∧
 (pointer (some ⟨x_6.b, 0, none⟩) = pointer (some ⟨y.b, 0, none⟩) ∧ pointer (some ⟨x_6.b2, 0, none⟩) = pointer (some ⟨y.b2, 0, none⟩) ∧ int i64 ((↑x_6.i : Int) + (1 : Int)) = int i64 (↑y.i : Int) ∧ True) ∧
 Ent [(0, F), (1, Atom.cells x_6.b (chS x.c x.w) 28), (2, Atom.cells x_6.b2 [int i64 x.t.source, slice x.we.a x.we.n x.we.cap, string x.t.cond, slice x.wt.a x.wt.n x.wt.cap, bool x.t.internal, int i64 x.t.block] 74)]
 [(0, F), (1, Atom.cells y.b (chS x.c x.w) 28), (2, Atom.cells y.b2 [int i64 x.t.source, slice x.we.a x.we.n x.we.cap, string x.t.cond, slice x.wt.a x.wt.n x.wt.cap, bool x.t.internal, int i64 x.t.block] 74)] ∧
 x.t.targets.length - y.i < x.t.targets.length - x_2.i))))
 (Done rAmC x F (Ending.returned (bool true)) [(0, F), (1, Atom.cells x_2.b (chS x.c x.w) 28), (2, Atom.cells x_2.b2 [int i64 x.t.source, slice x.we.a x.we.n x.we.cap, string x.t.cond, slice x.wt.a x.wt.n x.wt.cap, bool x.t.internal, int i64 x.t.block] 74)])) := by
  obtain ⟨c, w, t, we, wt⟩ := x
  replace hp : Placed c := hc
  obtain ⟨hr, hx⟩ := hr
  dsimp only at hx
  replace hr : ChIn F w.v c := hr
  obtain ⟨htn, -, htb⟩ := SlIn.num hx
  intro b1 b2
  iterate 8 refine ⟨⟨rfl, rfl⟩, ?_⟩
  refine ⟨⟨rfl, rfl⟩, ris_ok, rfl, ⟨c, w, t.source, 0⟩, rfl, rfl, trivial, hr.sub (sub_rest 0 (by simp) rfl), fun _ _ => br_intro (fun q => ⟨(), trivial, retB ?_, Ent.pick [0] rfl rfl⟩) (fun q => ?_)⟩
  · dsimp only at q ⊢
    have : isS c t.source = false := by simpa using q
    unfold aimB; rw [this]; rfl
  have hsrc : isS c t.source = true := by dsimp only at q; simpa using q
  refine ⟨⟨⟨0, b1, b2, 0, 0⟩, ⟨Nat.zero_le _, hsrc, ?_, fun u hu => by simp at hu⟩, ⟨rfl, rfl, rfl, trivial⟩, Ent.pick [0, 1000, 1010] rfl rfl⟩, ?_⟩
  · dsimp only
    unfold aimB; rw [hsrc]; rfl
  clear q b1 b2
  rintro ⟨i, b1, b2, k0, a0⟩ js ⟨h1, -, h3, h4⟩
  dsimp only at h1 h3 h4 ⊢
  refine ⟨⟨rfl, rfl⟩, br_decide (fun hlt => ?_) (fun hge => ⟨(), trivial, retB ?_, Ent.pick [0] rfl rfl⟩)⟩
  · have hil : i < t.targets.length := by omega
    obtain ⟨a, ha⟩ : ∃ u, t.targets[i]? = some u := ⟨_, List.getElem?_eq_getElem hil⟩
    obtain ⟨tb, to, et, hlk⟩ := kid_get hx ha
    rw [aimT_step ha] at h3
    refine ⟨rfl, ?_⟩
    iterate 8 refine ⟨⟨rfl, rfl⟩, ?_⟩
    refine ⟨⟨rfl, rfl⟩, ixq_ok 1 rfl rfl rfl rfl, ⟨tb, to, wt.n, wt.cap, i⟩, by dsimp only; rw [et], by dsimp only; omega, a, hlk, ris_ok, rfl, ⟨c, w, a, 0⟩, rfl, rfl, trivial, hr.sub (sub_rest 0 (by simp) rfl), fun _ _ => br_intro (fun q => ⟨(), trivial, retB ?_, Ent.pick [0] rfl rfl⟩) (fun q => ⟨⟨rfl, rfl⟩, ixq_ok 1 rfl rfl rfl rfl, ⟨tb, to, wt.n, wt.cap, i⟩, by dsimp only; rw [et], by dsimp only; omega, a, hlk, br_intro (fun q2 => ⟨(), trivial, retB ?_, Ent.pick [0] rfl rfl⟩) (fun q2 => ⟨i, ⟨⟨i, b1, b2, 0, a⟩, ⟨⟨hil, hsrc, ha, ?_, h4, Nat.zero_le _, ?_⟩, rfl⟩, ⟨rfl, rfl, rfl, rfl, trivial⟩, Ent.pick [0, 1, 2] rfl rfl⟩, ?_⟩)⟩)⟩
    · dsimp only at q ⊢
      rw [h3, q]; rfl
    · dsimp only at q ⊢
      rw [h3, q, q2]; rfl
    · dsimp only at q ⊢
      simpa using q
    · dsimp only at q ⊢
      rw [h3, q, q2]; rfl
    clear b1 b2
    rintro ⟨i2, b1, b2, k, a2⟩ js2 ⟨⟨-, -, g3, g4, -, g6, g7⟩, hkk⟩
    dsimp only at g3 g4 g6 g7 hkk ⊢
    subst hkk
    rw [ha] at g3
    cases g3
    refine br_decide (fun hlt2 => ?_) (fun hge2 => ⟨by omega, ⟨i2 + 1, b1, b2, 0, 0⟩, ⟨hil, hsrc, ?_, fun u hu => ?_⟩, ⟨rfl, rfl, rfl, trivial⟩, Ent.pick [0, 1, 2] rfl rfl, by dsimp only; omega⟩)
    · obtain ⟨u, hu⟩ : ∃ u, t.targets[k]? = some u := ⟨_, List.getElem?_eq_getElem (by omega)⟩
      obtain ⟨tb2, to2, et2, hlk2⟩ := kid_get hx hu
      have hki : k < i2 := by omega
      have huS : isS c u = true := h4 u (by
        have : (t.targets.take i2)[k]? = some u := by rw [List.getElem?_take_of_lt hki]; exact hu
        exact List.mem_of_getElem? this)
      rw [take_drop_g hki hu, List.all_cons, Bool.and_assoc] at g7
      have e : refTg c u a = tgB c a u := by rw [refTg_eq hp huS g4, tgB_comm hp huS g4]
      refine ⟨rfl, ?_⟩
      iterate 8 refine ⟨⟨rfl, rfl⟩, ?_⟩
      refine ⟨⟨rfl, rfl⟩, ixq_ok 1 rfl rfl rfl rfl, ⟨tb2, to2, wt.n, wt.cap, k⟩, by dsimp only; rw [et2], by dsimp only; omega, u, hlk2, ⟨rfl, rfl⟩, ixq_ok 1 rfl rfl rfl rfl, ⟨tb, to, wt.n, wt.cap, i2⟩, by dsimp only; rw [et], by dsimp only; omega, a, hlk, rtg_ok, rfl, ⟨c, w, u, a⟩, rfl, rfl, ⟨hp, huS, g4⟩, hr.sub (sub_rest 0 (by simp) rfl), fun _ _ => br_intro (fun q => ⟨(), trivial, retB ?_, Ent.pick [0] rfl rfl⟩) (fun q => ⟨by omega, ⟨i2, b1, b2, k + 1, a⟩, ⟨⟨hil, hsrc, ha, g4, h4, by dsimp only; omega, ?_⟩, rfl⟩, ⟨rfl, rfl, rfl, rfl, trivial⟩, Ent.pick [0, 1, 2] rfl rfl, by dsimp only; omega⟩)⟩
      · have q : refTg c u a = false := by simpa using q
        rw [e] at q
        dsimp only
        rw [g7, q]; rfl
      · have q : refTg c u a = true := by simpa using q
        rw [e] at q
        dsimp only
        rw [g7, q]; rfl
    · have : k = i2 := by omega
      subst this
      dsimp only
      rw [List.drop_eq_nil_of_le (by rw [List.length_take]; omega)] at g7
      exact g7
    · dsimp only at hu
      rw [take_g ha] at hu
      rcases List.mem_append.1 hu with hu | hu
      · exact h4 u hu
      · rw [List.mem_singleton] at hu; rw [hu]; exact g4
  · rw [List.drop_eq_nil_of_le (by omega)] at h3
    exact h3.symm
set_option maxRecDepth 100000 in
theorem ram_ok : FnOk Try.prog 45 rAmC :=
  fnOk (N := 53) (by kernel_rfl) Try.func45 rfl (by kernel_rfl) (fun _ => Nat.le_of_ble_eq_true rfl) ram_H [] fun x F hc hr => Eq.mpr (by kernel_rfl) (ram_vc x F hc hr)
end Go.Proofs.Ytfmadkaiigiaiaa
