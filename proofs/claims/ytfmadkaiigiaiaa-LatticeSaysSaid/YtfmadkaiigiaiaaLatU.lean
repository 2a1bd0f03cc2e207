/- The document's answers about a chart, part 1. -/
import Derived.Test.YtfmadkaiigiaiaaLatQ
import Derived.Test.YtfmadkaiigiaiaaLatS
set_option linter.all false
namespace Go.Proofs.Ytfmadkaiigiaiaa
open Go
set_option maxHeartbeats 1000000
structure RfX where
  c : ChD
  w : ChS
  a : Int
  d : Int
theorem ChIn.stsAt {F : Atom} {w : ChS} {c : ChD} (h : ChIn F w.v c) (hp : 0 < nS c) : ∃ b o, w.vs.a = some ⟨b, o, none⟩ ∧ ∀ i s, c.sts[i]? = some s → ∃ r, StIn F r s ∧ ∀ j u, r[j]? = some u → Look F ⟨b, o + i * 13 + j, none⟩ u := by
  have h1 : SlIn F (StIn F) 13 232 (.slice w.vs.a w.vs.n w.vs.cap) c.sts := h.sts
  obtain ⟨s0, hs0⟩ := get_st hp
  obtain ⟨b, o, r, ea, -⟩ := h1.at' hs0
  refine ⟨b, o, ea, fun i s hs => ?_⟩
  obtain ⟨b', o', r', ea', hR, hL⟩ := h1.at' hs
  rw [ea] at ea'
  simp only [Option.some.injEq, Addr.mk.injEq, and_true] at ea'
  obtain ⟨rfl, rfl⟩ := ea'
  exact ⟨r', hR, hL⟩
theorem ChIn.num {F : Atom} {w : ChS} {c : ChD} (h : ChIn F w.v c) : w.vs.n = nS c ∧ w.vs.n * 232 ≤ 140737488351232 := by
  have h1 : SlIn F (StIn F) 13 232 (.slice w.vs.a w.vs.n w.vs.cap) c.sts := h.sts
  exact ⟨h1.num.1, h1.num.2.2⟩
def rIsC : Con where
  X := RfX
  Y := Unit
  args x := [chAgg x.c x.w, .int .i64 x.a]
  pre _ := []
  cond _ := True
  rdc x F := ChIn F x.w.v x.c
  rel _ _ := True
  val x _ := .returned (.bool (isS x.c x.a))
  post _ _ := []
  rmono _ _ _ h hk := hk.sub h
def rIsOv (_x : RfX) (_F : Atom) : List (Nat × Nat × OH) := [(0, 0, .n 1000), (1, 5, .q [.atj 1000])]
noncomputable def ris_H (x : Con.X rIsC) (F : Atom) : Hints where
  op := hk ((rIsOv x F) ++ [])
  inv := (fun _ _ _ => none) x F
  cut := (fun _ _ _ => none) x F
  ord := (fun _ => [])
open Go.Value (int slice string bool pointer agg tuple func) in
open Go.IntKind (i64) in
set_option maxRecDepth 100000 in
theorem ris_vc (x : RfX) (F : Atom) (hc : Con.cond rIsC x) (hr : Con.rdc rIsC x F) :
  ∀ (b : Nat), Br (decide (x.a ≥ (0 : Int))) (Same ⟨b, 3, none⟩ b ∧ Done rIsC x F (Ending.returned (bool (decide (x.a < (↑x.w.vs.n : Int))))) [(0, F), (1000, Atom.cells b (chS x.c x.w) 28)]) (Done rIsC x F (Ending.returned (bool false)) [(0, F), (1000, Atom.cells b (chS x.c x.w) 28)]) := by
  obtain ⟨c, w, a, d⟩ := x
  have hn := (ChIn.num hr).1
  dsimp only at hn
  refine fun b => br_decide (fun h => ⟨⟨rfl, rfl⟩, (), trivial, retB ?_, Ent.pick [0] rfl rfl⟩) (fun h => ⟨(), trivial, retB ?_, Ent.pick [0] rfl rfl⟩)
  · dsimp only at h ⊢
    unfold isS; rw [decide_eq_true h, hn]; rfl
  · dsimp only at h ⊢
    unfold isS; rw [decide_eq_false h]; rfl
set_option maxRecDepth 100000 in
theorem ris_ok : FnOk Try.prog 52 rIsC :=
  fnOk (N := 14) (by kernel_rfl) Try.func52 rfl (by kernel_rfl) (fun _ => Nat.le_of_ble_eq_true rfl) ris_H [] fun x F hc hr => Eq.mpr (by kernel_rfl) (ris_vc x F hc hr)
def upB (c : ChD) (p : Int) (d : Nat) : Bool := decide (p ≥ 0) && (decide (p = d) || insB c p.toNat d)
theorem up_step {c : ChD} (hp : Placed c) {i j : Nat} (hi : i < nS c) (hj : j < nS c) : insB c i j = upB c (pr c i) j := by
  unfold upB
  rcases Nat.eq_zero_or_pos i with e | e
  · subst e
    rw [ins_root c hi, hp.p0]; rfl
  · obtain ⟨_, _, h3, h4, _⟩ := hp.st i e hi
    obtain ⟨m, hm⟩ : ∃ m : Nat, pr c i = m := ⟨(pr c i).toNat, by omega⟩
    rw [ins_step hp e hi hj, hm, Int.toNat_natCast, decide_eq_true (show (m : Int) ≥ 0 by omega), Bool.true_and]
    congr 1
    by_cases h : m = j
    · rw [decide_eq_true h, decide_eq_true (by omega)]
    · rw [decide_eq_false h, decide_eq_false (by omega)]
def rInC : Con where
  X := RfX
  Y := Unit
  args x := [chAgg x.c x.w, .int .i64 x.a, .int .i64 x.d]
  pre _ := []
  cond x := Placed x.c
  rdc x F := ChIn F x.w.v x.c
  rel _ _ := True
  val x _ := .returned (.bool (inB x.c x.a x.d))
  post _ _ := []
  rmono _ _ _ h hk := hk.sub h
def rInInv (x : RfX) (F : Atom) : Nat → Option Inv := fun
  | 0 => some { X := Int × Nat, P := fun i => isS x.c x.a = true ∧ isS x.c x.d = true ∧ -1 ≤ i.1 ∧ i.1 < nS x.c ∧ insB x.c x.a.toNat x.d.toNat = upB x.c i.1 x.d.toNat, mu := fun i => (i.1 + 1).toNat, lv := fun i => [(2, .int .i64 x.d), (3, .pointer (some ⟨i.2, 0, none⟩)), (7, .int .i64 i.1)], st := fun i => [F, .cells i.2 (chS x.c x.w) 28] }
  | _ => none
def rInOv (_x : RfX) (_F : Atom) : List (Nat × Nat × OH) := [(0, 0, .n 1000), (1, 0, .q (at8 1000)), (1, 2, .c rIsC [] []), (1, 5, .q (at8 1000)), (1, 7, .c rIsC [] []), (3, 1, .q [.atj 1000]), (3, 3, .qo (ixQ 13)), (3, 5, .q [.ex 0 (.int .i64)]), (7, 1, .q [.atj 1]), (7, 3, .qo (ixQ 13)), (7, 5, .q [.ex 0 (.int .i64)])]
noncomputable def rin_H (x : Con.X rInC) (F : Atom) : Hints where
  op := hk ((rInOv x F) ++ [])
  inv := rInInv x F
  cut := (fun _ _ _ => none) x F
  ord := (fun _ => [])
open Go.Value (int slice string bool pointer agg tuple func) in
open Go.IntKind (i64) in
set_option maxRecDepth 100000 in
theorem rin_vc (x : RfX) (F : Atom) (hc : Con.cond rInC x) (hr : Con.rdc rInC x F) :
  ∀ (b : Nat),
 Same ⟨b, 0, none⟩ b ∧
 Same ⟨b, 1, none⟩ b ∧
 Same ⟨b, 2, none⟩ b ∧
 Same ⟨b, 3, none⟩ b ∧
 Same ⟨b, 4, none⟩ b ∧
 Same ⟨b, 5, none⟩ b ∧
 Same ⟨b, 6, none⟩ b ∧
 Same ⟨b, 7, none⟩ b ∧
 FnOk Try.prog 52 rIsC ∧
 true = true ∧
 ∃ (x_1 : RfX),
 [agg { toList := (chS x.c x.w) }, int i64 x.a] = [agg { toList := (chS x_1.c x_1.w) }, int i64 x_1.a] ∧
 ([] : List Atom) = [] ∧
 True ∧
 ChIn (Atom.pred (rest [(0, F), (1000, Atom.cells b (chS x.c x.w) 28)] [])) x_1.w.v x_1.c ∧
 ∀ (y : Unit),
 True →
 Br (!isS x_1.c x_1.a) (Done rInC x F (Ending.returned (bool false)) [(0, F), (1000, Atom.cells b (chS x.c x.w) 28)])
 (Same ⟨b, 0, none⟩ b ∧
 Same ⟨b, 1, none⟩ b ∧
 Same ⟨b, 2, none⟩ b ∧
 Same ⟨b, 3, none⟩ b ∧
 Same ⟨b, 4, none⟩ b ∧
 Same ⟨b, 5, none⟩ b ∧
 Same ⟨b, 6, none⟩ b ∧
 Same ⟨b, 7, none⟩ b ∧
 FnOk Try.prog 52 rIsC ∧
 true = true ∧
 ∃ (x_2 : RfX),
 [agg { toList := (chS x.c x.w) }, int i64 x.d] = [agg { toList := (chS x_2.c x_2.w) }, int i64 x_2.a] ∧
 ([] : List Atom) = [] ∧
 True ∧
 ChIn (Atom.pred (rest [(0, F), (1000, Atom.cells b (chS x.c x.w) 28)] [])) x_2.w.v x_2.c ∧
 ∀ (y : Unit),
 True →
 Br (!isS x_2.c x_2.a) (Done rInC x F (Ending.returned (bool false)) [(0, F), (1000, Atom.cells b (chS x.c x.w) 28)])
 (Same ⟨b, 3, none⟩ b ∧
 QOpOk Try.prog (opIn Try.f16 3 3) (ixQ 13) ∧
 ∃ (x_3 : IxQX),
 [slice x.w.vs.a x.w.vs.n x.w.vs.cap, int i64 x.a] = [slice (some ⟨x_3.b, x_3.o, none⟩) x_3.len x_3.cap, int i64 x_3.n] ∧
 ((0 : Int) ≤ x_3.n ∧ x_3.n < (↑x_3.len : Int)) ∧
 ∃ (n : Int),
 Look F ⟨x_3.b, x_3.o + x_3.n.toNat * 13 + 2, none⟩ (int i64 n) ∧
 (∃ (x_4 : Int × Nat),
 (isS x.c x.a = true ∧ isS x.c x.d = true ∧ (-1 : Int) ≤ x_4.fst ∧ x_4.fst < (↑(nS x.c) : Int) ∧ insB x.c x.a.toNat x.d.toNat = upB x.c x_4.fst x.d.toNat) ∧
 (int i64 x.d = int i64 x.d ∧ pointer (some ⟨b, 0, none⟩) = pointer (some ⟨x_4.snd, 0, none⟩) ∧ int i64 n = int i64 x_4.fst ∧ True) ∧
 Ent [(0, F), (1000, Atom.cells b (chS x.c x.w) 28)] [(0, F), (1, Atom.cells x_4.snd (chS x.c x.w) 28)]) ∧
 ∀ (x_4 : Int × Nat) (js : Nat → Value),
 isS x.c x.a = true ∧ isS x.c x.d = true ∧ (-1 : Int) ≤ x_4.fst ∧ x_4.fst < (↑(nS x.c) : Int) ∧ insB x.c x.a.toNat x.d.toNat = upB x.c x_4.fst x.d.toNat →
 Br (decide (x_4.fst ≥ (0 : Int)))
 (Br (x_4.fst == x.d) (Done rInC x F (Ending.returned (bool true)) [(0, F), (1, Atom.cells x_4.snd (chS x.c x.w) 28)])
 (Same ⟨x_4.snd, 3, none⟩ x_4.snd ∧
 QOpOk Try.prog (opIn Try.f16 7 3) (ixQ 13) ∧
 ∃ (x_5 : IxQX),
 [slice x.w.vs.a x.w.vs.n x.w.vs.cap, int i64 x_4.fst] = [slice (some ⟨x_5.b, x_5.o, none⟩) x_5.len x_5.cap, int i64 x_5.n] ∧
 ((0 : Int) ≤ x_5.n ∧ x_5.n < (↑x_5.len : Int)) ∧
 ∃ (n : Int),
 Look F ⟨x_5.b, x_5.o + x_5.n.toNat * 13 + 2, none⟩ (int i64 n) ∧
 ∃ (y : Int × Nat),
 (isS x.c x.a = true ∧ isS x.c x.d = true ∧ (-1 : Int) ≤ y.fst ∧ y.fst < (↑(nS x.c) : Int) ∧ insB x.c x.a.toNat x.d.toNat = upB x.c y.fst x.d.toNat) ∧
 (int i64 x.d = int i64 x.d ∧ pointer (some ⟨x_4.snd, 0, none⟩) = pointer (some ⟨y.snd, 0, none⟩) ∧ int i64 n = int i64 y.fst ∧ True) ∧
 Ent [(0, F), (1, Atom.cells x_4.snd (chS x.c x.w) 28)] [(0, F), (1, Atom.cells y.snd (chS x.c x.w) 28)] ∧ (y.fst + (1 : Int)).toNat < (x_4.fst + (1 : Int)).toNat))
 (Done rInC x F (Ending.returned (bool false)) [(0, F), (1, Atom.cells x_4.snd (chS x.c x.w) 28)]))) := by
  obtain ⟨c, w, a, d⟩ := x
  replace hc : Placed c := hc
  replace hr : ChIn F w.v c := hr
  have hn2 := hc.n2
  obtain ⟨b0, o0, ea, hst⟩ := hr.stsAt (by omega)
  have hn := hr.num.1
  intro b1
  iterate 8 refine ⟨⟨rfl, rfl⟩, ?_⟩
  refine ⟨ris_ok, rfl, ⟨c, w, a, 0⟩, rfl, rfl, trivial, hr.sub (sub_rest 0 (by simp) rfl), fun _ _ => br_intro (fun q => ⟨(), trivial, retB ?_, Ent.pick [0] rfl rfl⟩) (fun q => ?_)⟩
  · dsimp only at q ⊢
    unfold inB
    have : isS c a = false := by simpa using q
    rw [this]; rfl
  have ha : isS c a = true := by dsimp only at q; simpa using q
  clear q
  iterate 8 refine ⟨⟨rfl, rfl⟩, ?_⟩
  refine ⟨ris_ok, rfl, ⟨c, w, d, 0⟩, rfl, rfl, trivial, hr.sub (sub_rest 0 (by simp) rfl), fun _ _ => br_intro (fun q => ⟨(), trivial, retB ?_, Ent.pick [0] rfl rfl⟩) (fun q => ?_)⟩
  · dsimp only at q ⊢
    unfold inB
    have : isS c d = false := by simpa using q
    rw [this]; simp
  have hd : isS c d = true := by dsimp only at q; simpa using q
  clear q
  have hin : inB c a d = insB c a.toNat d.toNat := by unfold inB; rw [ha, hd]; rfl
  obtain ⟨i, rfl, hi⟩ := isS_spec ha
  obtain ⟨j, rfl, hj⟩ := isS_spec hd
  obtain ⟨s, hs⟩ := get_st hi
  obtain ⟨r, ⟨vk, ve, vx, vt, vd, vi, vp, rfl, -⟩, hL⟩ := hst i s hs
  have ep := pr_get hs
  have hpl := pr_lt hc hi
  refine ⟨⟨rfl, rfl⟩, ixq_ok 13 rfl rfl rfl rfl, ⟨b0, o0, w.vs.n, w.vs.cap, i⟩, by dsimp only; rw [ea], by dsimp only; omega, s.parent, hL 2 _ rfl, ⟨(s.parent, b1), ⟨ha, hd, by dsimp only; omega, by dsimp only; omega, ?_⟩, ⟨rfl, rfl, rfl, trivial⟩, Ent.pick [0, 1000] rfl rfl⟩, ?_⟩
  · dsimp only
    rw [Int.toNat_natCast, Int.toNat_natCast, ← ep]
    exact up_step hc hi hj
  clear hL hs ep hpl b1
  rintro ⟨p, b1⟩ js ⟨-, -, p1, p2, p3⟩
  dsimp only at p1 p2 p3 ⊢
  rw [Int.toNat_natCast, Int.toNat_natCast] at p3 hin
  refine br_decide (fun h0 => br_intro (fun h1 => ⟨(), trivial, retB ?_, Ent.pick [0] rfl rfl⟩) (fun h1 => ?_)) (fun h0 => ⟨(), trivial, retB ?_, Ent.pick [0] rfl rfl⟩)
  · have h1 : p = (j : Int) := by simpa using h1
    dsimp only
    rw [hin, p3]
    unfold upB
    rw [decide_eq_true h0, decide_eq_true h1]; rfl
  · have h1 : ¬ p = (j : Int) := by simpa using h1
    obtain ⟨m, rfl⟩ : ∃ m : Nat, p = m := ⟨p.toNat, by omega⟩
    have hm : m < nS c := by omega
    obtain ⟨s, hs⟩ := get_st hm
    obtain ⟨r, ⟨vk, ve, vx, vt, vd, vi, vp, rfl, -⟩, hL⟩ := hst m s hs
    have ep := pr_get hs
    have hpl := pr_lt hc hm
    refine ⟨⟨rfl, rfl⟩, ixq_ok 13 rfl rfl rfl rfl, ⟨b0, o0, w.vs.n, w.vs.cap, m⟩, by dsimp only; rw [ea], by dsimp only; omega, s.parent, hL 2 _ rfl, ⟨(s.parent, b1), ⟨ha, hd, by dsimp only; omega, by dsimp only; omega, ?_⟩, ⟨rfl, rfl, rfl, trivial⟩, Ent.pick [0, 1] rfl rfl, by dsimp only; omega⟩⟩
    dsimp only
    rw [Int.toNat_natCast, Int.toNat_natCast, p3, ← ep, ← up_step hc hm hj]
    unfold upB
    rw [decide_eq_true h0, decide_eq_false h1, Int.toNat_natCast]; rfl
  · dsimp only
    rw [hin, p3]
    unfold upB
    rw [decide_eq_false h0]; rfl
set_option maxRecDepth 100000 in
theorem rin_ok : FnOk Try.prog 16 rInC :=
  fnOk (N := 35) (by kernel_rfl) Try.func16 rfl (by kernel_rfl) (fun _ => Nat.le_of_ble_eq_true rfl) rin_H [] fun x F hc hr => Eq.mpr (by kernel_rfl) (rin_vc x F hc hr)
def kidV (c : ChD) (a : Int) : List Int := bif isS c a then kidsP c a.toNat else []
def rKidsC : Con where
  X := RfX
  Y := Row
  args x := [chAgg x.c x.w, .int .i64 x.a]
  pre _ := []
  cond x := nS x.c ≤ 1000
  rdc x F := ChIn F x.w.v x.c
  rel x r := IsRow 3 1 (ints (kidV x.c x.a)) r ∧ r.n = (kidV x.c x.a).length
  val _ r := .returned (.slice r.a r.n r.cap)
  post _ r := [r.A]
  rmono _ _ _ h hk := hk.sub h
structure RkI where
  k : Nat
  b : Nat
  r : Row
def rKidsInv (x : RfX) (F : Atom) : Nat → Option Inv := fun
  | 0 => some { X := RkI, P := fun i => i.k ≤ nS x.c ∧ (isS x.c x.a = false → i.k = 0) ∧ IsRow 3 1 (ints (kidsOf x.c 4 i.k x.a.toNat)) i.r ∧ i.r.n = (kidsOf x.c 4 i.k x.a.toNat).length, mu := fun i => nS x.c - i.k, lv := fun i => [(1, .int .i64 x.a), (2, .pointer (some ⟨i.b, 0, none⟩)), (5, .slice i.r.a i.r.n i.r.cap), (6, .int .i64 i.k)], st := fun i => [F, .cells i.b (chS x.c x.w) 28, i.r.A] }
  | _ => none
def rKidsOv (_x : RfX) (_F : Atom) : List (Nat × Nat × OH) := [(0, 0, .n 1000), (3, 2, .q [.atj 1]), (3, 6, .q (at8 1)), (3, 8, .c rIsC [] []), (5, 1, .q [.atj 1]), (5, 3, .qo (ixQ 13)), (5, 5, .q [.ex 0 (.int .i64)]), (5, 10, .q [.atj 1]), (5, 12, .qo (ixQ 13)), (5, 14, .q [.ex 0 (.int .i64)]), (6, 2, .n 7020), (6, 3, .o (apC 3 1 8) [2] [2])]
noncomputable def rkids_H (x : Con.X rKidsC) (F : Atom) : Hints where
  op := hk ((rKidsOv x F) ++ [])
  inv := rKidsInv x F
  cut := (fun _ _ _ => none) x F
  ord := (fun _ => [])
open Go.Value (int slice string bool pointer agg tuple func) in
open Go.IntKind (i64) in
set_option maxRecDepth 100000 in
theorem rkids_vc (x : RfX) (F : Atom) (hc : Con.cond rKidsC x) (hr : Con.rdc rKidsC x F) :
  ∀ (b : Nat),
 (∃ (x_1 : RkI),
 (x_1.k ≤ nS x.c ∧ (isS x.c x.a = false → x_1.k = 0) ∧ IsRow 3 1 (ints (kidsOf x.c (4 : Int) x_1.k x.a.toNat)) x_1.r ∧ x_1.r.n = (kidsOf x.c (4 : Int) x_1.k x.a.toNat).length) ∧
 (int i64 x.a = int i64 x.a ∧ pointer (some ⟨b, 0, none⟩) = pointer (some ⟨x_1.b, 0, none⟩) ∧ slice none 0 0 = slice x_1.r.a x_1.r.n x_1.r.cap ∧ int i64 (0 : Int) = int i64 (↑x_1.k : Int) ∧ True) ∧
 Ent [(0, F), (1000, Atom.cells b (chS x.c x.w) 28)] [(0, F), (1, Atom.cells x_1.b (chS x.c x.w) 28), (2, x_1.r.A)]) ∧
 ∀ (x_1 : RkI) (js : Nat → Value),
 x_1.k ≤ nS x.c ∧ (isS x.c x.a = false → x_1.k = 0) ∧ IsRow 3 1 (ints (kidsOf x.c (4 : Int) x_1.k x.a.toNat)) x_1.r ∧ x_1.r.n = (kidsOf x.c (4 : Int) x_1.k x.a.toNat).length →
 Same ⟨x_1.b, 3, none⟩ x_1.b ∧
 Br (decide ((↑x_1.k : Int) < (↑x.w.vs.n : Int)))
 (Same ⟨x_1.b, 0, none⟩ x_1.b ∧
 Same ⟨x_1.b, 1, none⟩ x_1.b ∧
 Same ⟨x_1.b, 2, none⟩ x_1.b ∧
 Same ⟨x_1.b, 3, none⟩ x_1.b ∧
 Same ⟨x_1.b, 4, none⟩ x_1.b ∧
 Same ⟨x_1.b, 5, none⟩ x_1.b ∧
 Same ⟨x_1.b, 6, none⟩ x_1.b ∧
 Same ⟨x_1.b, 7, none⟩ x_1.b ∧
 FnOk Try.prog 52 rIsC ∧
 true = true ∧
 ∃ (x_2 : RfX),
 [agg { toList := (chS x.c x.w) }, int i64 x.a] = [agg { toList := (chS x_2.c x_2.w) }, int i64 x_2.a] ∧
 ([] : List Atom) = [] ∧
 True ∧
 ChIn (Atom.pred (rest [(0, F), (1, Atom.cells x_1.b (chS x.c x.w) 28), (2, x_1.r.A)] [])) x_2.w.v x_2.c ∧
 ∀ (y : Unit),
 True →
 Br (isS x_2.c x_2.a)
 (Same ⟨x_1.b, 3, none⟩ x_1.b ∧
 QOpOk Try.prog (opIn Try.f31 5 3) (ixQ 13) ∧
 ∃ (x_3 : IxQX),
 [slice x.w.vs.a x.w.vs.n x.w.vs.cap, int i64 (↑x_1.k : Int)] = [slice (some ⟨x_3.b, x_3.o, none⟩) x_3.len x_3.cap, int i64 x_3.n] ∧
 ((0 : Int) ≤ x_3.n ∧ x_3.n < (↑x_3.len : Int)) ∧
 ∃ (n : Int),
 Look F ⟨x_3.b, x_3.o + x_3.n.toNat * 13 + 2, none⟩ (int i64 n) ∧
 Br (n == x.a)
 (Same ⟨x_1.b, 3, none⟩ x_1.b ∧
 QOpOk Try.prog (opIn Try.f31 5 12) (ixQ 13) ∧
 ∃ (x_4 : IxQX),
 [slice x.w.vs.a x.w.vs.n x.w.vs.cap, int i64 (↑x_1.k : Int)] = [slice (some ⟨x_4.b, x_4.o, none⟩) x_4.len x_4.cap, int i64 x_4.n] ∧
 ((0 : Int) ≤ x_4.n ∧ x_4.n < (↑x_4.len : Int)) ∧
 ∃ (n : Int),
 Look F ⟨x_4.b, x_4.o + x_4.n.toNat * 13 + 1, none⟩ (int i64 n) ∧
 Br (decide (n < (4 : Int)))
 (Br (decide ((↑x_1.k : Int) > (0 : Int)))
 (∀ (b : Nat),
 OpOk Try.prog (opIn Try.f31 6 3) (apC (3 : TypeId) 1 8) ∧
 true = true ∧
 ∃ (x_5 : ApX),
 [slice x_1.r.a x_1.r.n x_1.r.cap, slice (some ⟨b, 0, none⟩) 1 1] = [slice x_5.r.a x_5.r.n x_5.r.cap, slice x_5.a x_5.m x_5.c] ∧
 [x_1.r.A] = [x_5.r.A] ∧
 (IsRow 3 1 x_5.cs x_5.r ∧ x_5.ys.length = x_5.m * 1 ∧ (∀ (u : Value), u ∈ x_5.ys → u.oneCell' = true) ∧ (x_5.r.n + x_5.m) * 8 ≤ 140737488355328 ∧ x_5.r.n + x_5.m ≤ 9223372036854775807 ∧ (x_5.a = none → x_5.m = 0 ∧ x_5.c = 0)) ∧
 (∀ (a : Addr), x_5.a = some a → Seg (Atom.pred (rest [(0, F), (1, Atom.cells x_1.b (chS x.c x.w) 28), (2, x_1.r.A), (7020, Atom.cells b [int i64 (↑x_1.k : Int)] 3)] [2])) a x_5.ys) ∧
 ∀ (y : Row),
 IsRow 3 1 (x_5.cs ++ x_5.ys) y ∧ y.n = x_5.r.n + x_5.m ∧ (x_5.m = 0 → y = x_5.r) →
 ((-9223372036854775808 : Int) ≤ (↑x_1.k : Int) + (1 : Int) ∧ (↑x_1.k : Int) + (1 : Int) ≤ (9223372036854775807 : Int)) ∧
 ∃ (y_1 : RkI),
 (y_1.k ≤ nS x.c ∧ (isS x.c x.a = false → y_1.k = 0) ∧ IsRow 3 1 (ints (kidsOf x.c (4 : Int) y_1.k x.a.toNat)) y_1.r ∧ y_1.r.n = (kidsOf x.c (4 : Int) y_1.k x.a.toNat).length) ∧
 (int i64 x.a = int i64 x.a ∧ pointer (some ⟨x_1.b, 0, none⟩) = pointer (some ⟨y_1.b, 0, none⟩) ∧ slice y.a y.n y.cap = slice y_1.r.a y_1.r.n y_1.r.cap ∧ int i64 ((↑x_1.k : Int) + (1 : Int)) = int i64 (↑y_1.k : Int) ∧ True) ∧
 Ent [(0, F), (1, Atom.cells x_1.b (chS x.c x.w) 28), (2, y.A), (7020, Atom.cells b [int i64 (↑x_1.k : Int)] 3)] [(0, F), (1, Atom.cells y_1.b (chS x.c x.w) 28), (2, y_1.r.A)] ∧ nS x.c - y_1.k < nS x.c - x_1.k)
 (((-9223372036854775808 : Int) ≤ (↑x_1.k : Int) + (1 : Int) ∧ (↑x_1.k : Int) + (1 : Int) ≤ (9223372036854775807 : Int)) ∧
 ∃ (y : RkI),
 (y.k ≤ nS x.c ∧ (isS x.c x.a = false → y.k = 0) ∧ IsRow 3 1 (ints (kidsOf x.c (4 : Int) y.k x.a.toNat)) y.r ∧ y.r.n = (kidsOf x.c (4 : Int) y.k x.a.toNat).length) ∧
 (int i64 x.a = int i64 x.a ∧ pointer (some ⟨x_1.b, 0, none⟩) = pointer (some ⟨y.b, 0, none⟩) ∧ slice x_1.r.a x_1.r.n x_1.r.cap = slice y.r.a y.r.n y.r.cap ∧ int i64 ((↑x_1.k : Int) + (1 : Int)) = int i64 (↑y.k : Int) ∧ True) ∧
 Ent [(0, F), (1, Atom.cells x_1.b (chS x.c x.w) 28), (2, x_1.r.A)] [(0, F), (1, Atom.cells y.b (chS x.c x.w) 28), (2, y.r.A)] ∧ nS x.c - y.k < nS x.c - x_1.k))
 (((-9223372036854775808 : Int) ≤ (↑x_1.k : Int) + (1 : Int) ∧ (↑x_1.k : Int) + (1 : Int) ≤ (9223372036854775807 : Int)) ∧
 ∃ (y : RkI),
 (y.k ≤ nS x.c ∧ (isS x.c x.a = false → y.k = 0) ∧ IsRow 3 1 (ints (kidsOf x.c (4 : Int) y.k x.a.toNat)) y.r ∧ y.r.n = (kidsOf x.c (4 : Int) y.k x.a.toNat).length) ∧
 (int i64 x.a = int i64 x.a ∧ pointer (some ⟨x_1.b, 0, none⟩) = pointer (some ⟨y.b, 0, none⟩) ∧ slice x_1.r.a x_1.r.n x_1.r.cap = slice y.r.a y.r.n y.r.cap ∧ int i64 ((↑x_1.k : Int) + (1 : Int)) = int i64 (↑y.k : Int) ∧ True) ∧
 Ent [(0, F), (1, Atom.cells x_1.b (chS x.c x.w) 28), (2, x_1.r.A)] [(0, F), (1, Atom.cells y.b (chS x.c x.w) 28), (2, y.r.A)] ∧ nS x.c - y.k < nS x.c - x_1.k))
 (((-9223372036854775808 : Int) ≤ (↑x_1.k : Int) + (1 : Int) ∧ (↑x_1.k : Int) + (1 : Int) ≤ (9223372036854775807 : Int)) ∧
 ∃ (y : RkI),
 (y.k ≤ nS x.c ∧ (isS x.c x.a = false → y.k = 0) ∧ IsRow 3 1 (ints (kidsOf x.c (4 : Int) y.k x.a.toNat)) y.r ∧ y.r.n = (kidsOf x.c (4 : Int) y.k x.a.toNat).length) ∧
 (int i64 x.a = int i64 x.a ∧ pointer (some ⟨x_1.b, 0, none⟩) = pointer (some ⟨y.b, 0, none⟩) ∧ slice x_1.r.a x_1.r.n x_1.r.cap = slice y.r.a y.r.n y.r.cap ∧ int i64 ((↑x_1.k : Int) + (1 : Int)) = int i64 (↑y.k : Int) ∧ True) ∧
 Ent [(0, F), (1, Atom.cells x_1.b (chS x.c x.w) 28), (2, x_1.r.A)] [(0, F), (1, Atom.cells y.b (chS x.c x.w) 28), (2, y.r.A)] ∧ nS x.c - y.k < nS x.c - x_1.k))
 (Done rKidsC x F (Ending.returned (slice x_1.r.a x_1.r.n x_1.r.cap)) [(0, F), (1, Atom.cells x_1.b (chS x.c x.w) 28), (2, x_1.r.A)]))
 (Done rKidsC x F (Ending.returned (slice x_1.r.a x_1.r.n x_1.r.cap)) [(0, F), (1, Atom.cells x_1.b (chS x.c x.w) 28), (2, x_1.r.A)]) := by
  obtain ⟨c, w, a, d⟩ := x
  replace hr : ChIn F w.v c := hr
  replace hc : nS c ≤ 1000 := hc
  have hn := hr.num.1
  intro b1
  refine ⟨⟨⟨0, b1, nilRow⟩, ⟨Nat.zero_le _, fun _ => rfl, .nil rfl, rfl⟩, ⟨rfl, rfl, rfl, rfl, trivial⟩, Ent.pick [0, 1000, 77] rfl rfl⟩, ?_⟩
  rintro ⟨k, b, r⟩ js ⟨p1, p2, p3, p4⟩
  dsimp only at p1 p2 p3 p4 ⊢
  have hkl := kidsOf_len c 4 k a.toNat
  have fin : (isS c a = true → k = nS c) → Done rKidsC ⟨c, w, a, d⟩ F (.returned (.slice r.a r.n r.cap)) [(0, F), (1, .cells b (chS c w) 28), (2, r.A)] := by
    intro h
    have e : kidsOf c 4 k a.toNat = kidV c a := by
      unfold kidV
      cases ha : isS c a with
      | true => rw [h ha]; rfl
      | false => rw [p2 ha]; rfl
    rw [e] at p3 p4
    exact ⟨⟨r, ⟨p3, p4⟩, rfl, Ent.pick [2, 0] rfl rfl⟩⟩
  refine ⟨⟨rfl, rfl⟩, br_decide (fun hlt => ?_) (fun hge => fin fun _ => by omega)⟩
  iterate 8 refine ⟨⟨rfl, rfl⟩, ?_⟩
  refine ⟨ris_ok, rfl, ⟨c, w, a, 0⟩, rfl, rfl, trivial, hr.sub (sub_rest 0 (by simp) rfl), fun _ _ => br_intro (fun q => ?_) (fun q => fin fun h => ?_)⟩
  · dsimp only at q
    have hkS : k < nS c := by omega
    obtain ⟨b0, o0, ea, hst⟩ := hr.stsAt (by omega)
    obtain ⟨s, hs⟩ := get_st hkS
    obtain ⟨rr, ⟨vk, ve, vx, vt, vd, vi, vp, rfl, -⟩, hL⟩ := hst k s hs
    have ek := kd_get hs
    have ep := pr_get hs
    obtain ⟨i, rfl, hi⟩ := isS_spec q
    rw [Int.toNat_natCast] at p3 p4 hkl
    have skip : ¬ (0 < k ∧ pr c k = i ∧ kd c k < 4) → kidsOf c 4 (k + 1) i = kidsOf c 4 k i := fun h => by
      rw [kidsOf_succ]
      have : (Nat.blt 0 k && (pr c k == (i : Int)) && decide (kd c k < 4)) = false := by
        rw [← Bool.not_eq_true]
        intro hb
        simp only [Bool.and_eq_true, Nat.blt_eq, beq_iff_eq, decide_eq_true_eq] at hb
        exact h ⟨hb.1.1, hb.1.2, hb.2⟩
      rw [this, cond_false, List.append_nil]
    have no : ¬ (0 < k ∧ pr c k = i ∧ kd c k < 4) → k + 1 ≤ nS c ∧ (isS c (i : Int) = false → k + 1 = 0) ∧ IsRow 3 1 (ints (kidsOf c 4 (k + 1) (i : Int).toNat)) r ∧ r.n = (kidsOf c 4 (k + 1) (i : Int).toNat).length := fun h => by
      rw [Int.toNat_natCast, skip h]
      exact ⟨hkS, fun h => (by rw [q] at h; cases h), p3, p4⟩
    refine ⟨⟨rfl, rfl⟩, ixq_ok 13 rfl rfl rfl rfl, ⟨b0, o0, w.vs.n, w.vs.cap, k⟩, by dsimp only; rw [ea], by dsimp only; omega, s.parent, hL 2 _ rfl, br_intro (fun q1 => ⟨⟨rfl, rfl⟩, ixq_ok 13 rfl rfl rfl rfl, ⟨b0, o0, w.vs.n, w.vs.cap, k⟩, by dsimp only; rw [ea], by dsimp only; omega, s.kind, hL 1 _ rfl, br_decide (fun q2 => br_decide (fun q3 => ?_) (fun q3 => ⟨by omega, ⟨k + 1, b, r⟩, no fun h => by omega, ⟨rfl, rfl, rfl, rfl, trivial⟩, Ent.pick [0, 1, 2] rfl rfl, by dsimp only; omega⟩)) (fun q2 => ⟨by omega, ⟨k + 1, b, r⟩, no fun h => by omega, ⟨rfl, rfl, rfl, rfl, trivial⟩, Ent.pick [0, 1, 2] rfl rfl, by dsimp only; omega⟩)⟩) (fun q1 => ⟨by omega, ⟨k + 1, b, r⟩, no fun h => ?_, ⟨rfl, rfl, rfl, rfl, trivial⟩, Ent.pick [0, 1, 2] rfl rfl, by dsimp only; omega⟩)⟩
    · have q1 : s.parent = (i : Int) := by simpa using q1
      have yes : kidsOf c 4 (k + 1) i = kidsOf c 4 k i ++ [(k : Int)] := by
        rw [kidsOf_succ]
        have : (Nat.blt 0 k && (pr c k == (i : Int)) && decide (kd c k < 4)) = true := by
          simp only [Bool.and_eq_true, Nat.blt_eq, beq_iff_eq, decide_eq_true_eq]
          omega
        rw [this]; rfl
      refine fun b3 => ⟨append_ok (P := Try.prog) 1 8 rfl rfl rfl rfl rfl rfl rfl (by decide), rfl, ⟨r, _, some ⟨b3, 0, none⟩, 1, 1, [.int .i64 k]⟩, rfl, rfl, ⟨p3, rfl, by simp [Value.oneCell'], by dsimp only; omega, by dsimp only; omega, by simp⟩, ?_, fun z hz => ⟨by omega, ⟨k + 1, b, z⟩, ⟨hkS, fun h => (by rw [q] at h; cases h), ?_, ?_⟩, ⟨rfl, rfl, rfl, rfl, trivial⟩, Ent.pick [0, 1, 2] rfl rfl, by dsimp only; omega⟩⟩
      · intro ad e
        cases e
        exact Seg.rest (j := 7020) (by simp) (Seg.cells fun j u h => by rw [Nat.zero_add]; exact h)
      · dsimp only
        rw [Int.toNat_natCast, yes, ints_append]
        exact hz.1
      · dsimp only
        rw [Int.toNat_natCast, yes, List.length_append, List.length_singleton, ← p4]
        exact hz.2.1
    · have q1 : ¬ s.parent = (i : Int) := by simpa using q1
      omega
  · dsimp only at q
    rw [q] at h; cases h
set_option maxRecDepth 100000 in
theorem rkids_ok : FnOk Try.prog 31 rKidsC :=
  fnOk (N := 45) (by kernel_rfl) Try.func31 rfl (by kernel_rfl) (fun _ => Nat.le_of_ble_eq_true rfl) rkids_H [] fun x F hc hr => Eq.mpr (by kernel_rfl) (rkids_vc x F hc hr)
def rCoC : Con where
  X := RfX
  Y := Unit
  args x := [chAgg x.c x.w, .int .i64 x.a]
  pre _ := []
  cond x := nS x.c ≤ 1000
  rdc x F := ChIn F x.w.v x.c
  rel _ _ := True
  val x _ := .returned (.bool (coB x.c x.a))
  post _ _ := []
  rmono _ _ _ h hk := hk.sub h
def rAtC : Con where
  X := RfX
  Y := Unit
  args x := [chAgg x.c x.w, .int .i64 x.a]
  pre _ := []
  cond x := nS x.c ≤ 1000
  rdc x F := ChIn F x.w.v x.c
  rel _ _ := True
  val x _ := .returned (.bool (atB x.c x.a))
  post _ _ := []
  rmono _ _ _ h hk := hk.sub h
def rCoOv (_x : RfX) (_F : Atom) : List (Nat × Nat × OH) := [(0, 0, .n 1000), (1, 0, .q (at8 1000)), (1, 2, .c rIsC [] []), (1, 5, .q [.atj 1000]), (1, 7, .qo (ixQ 13)), (1, 9, .q [.ex 0 (.int .i64)]), (1, 13, .q (at8 1000)), (1, 15, .c rKidsC [] [77])]
noncomputable def rco_H (x : Con.X rCoC) (F : Atom) : Hints where
  op := hk ((rCoOv x F) ++ [])
  inv := (fun _ _ _ => none) x F
  cut := (fun _ _ _ => none) x F
  ord := (fun _ => [])
open Go.Value (int slice string bool pointer agg tuple func) in
open Go.IntKind (i64) in
set_option maxRecDepth 100000 in
theorem rco_vc (x : RfX) (F : Atom) (hc : Con.cond rCoC x) (hr : Con.rdc rCoC x F) :
  ∀ (b : Nat),
 Same ⟨b, 0, none⟩ b ∧
 Same ⟨b, 1, none⟩ b ∧
 Same ⟨b, 2, none⟩ b ∧
 Same ⟨b, 3, none⟩ b ∧
 Same ⟨b, 4, none⟩ b ∧
 Same ⟨b, 5, none⟩ b ∧
 Same ⟨b, 6, none⟩ b ∧
 Same ⟨b, 7, none⟩ b ∧
 FnOk Try.prog 52 rIsC ∧
 true = true ∧
 ∃ (x_1 : RfX),
 [agg { toList := (chS x.c x.w) }, int i64 x.a] = [agg { toList := (chS x_1.c x_1.w) }, int i64 x_1.a] ∧
 ([] : List Atom) = [] ∧
 True ∧
 ChIn (Atom.pred (rest [(0, F), (1000, Atom.cells b (chS x.c x.w) 28)] [])) x_1.w.v x_1.c ∧
 ∀ (y : Unit),
 True →
 Br (isS x_1.c x_1.a)
 (Same ⟨b, 3, none⟩ b ∧
 QOpOk Try.prog (opIn Try.f20 1 7) (ixQ 13) ∧
 ∃ (x_2 : IxQX),
 [slice x.w.vs.a x.w.vs.n x.w.vs.cap, int i64 x.a] = [slice (some ⟨x_2.b, x_2.o, none⟩) x_2.len x_2.cap, int i64 x_2.n] ∧
 ((0 : Int) ≤ x_2.n ∧ x_2.n < (↑x_2.len : Int)) ∧
 ∃ (n : Int),
 Look F ⟨x_2.b, x_2.o + x_2.n.toNat * 13 + 1, none⟩ (int i64 n) ∧
 Br (decide (n < (2 : Int)))
 (Same ⟨b, 0, none⟩ b ∧
 Same ⟨b, 1, none⟩ b ∧
 Same ⟨b, 2, none⟩ b ∧
 Same ⟨b, 3, none⟩ b ∧
 Same ⟨b, 4, none⟩ b ∧
 Same ⟨b, 5, none⟩ b ∧
 Same ⟨b, 6, none⟩ b ∧
 Same ⟨b, 7, none⟩ b ∧
 FnOk Try.prog 31 rKidsC ∧
 true = true ∧
 ∃ (x_3 : RfX),
 [agg { toList := (chS x.c x.w) }, int i64 x.a] = [agg { toList := (chS x_3.c x_3.w) }, int i64 x_3.a] ∧
 ([] : List Atom) = [] ∧
 nS x_3.c ≤ 1000 ∧
 ChIn (Atom.pred (rest [(0, F), (1000, Atom.cells b (chS x.c x.w) 28)] [])) x_3.w.v x_3.c ∧
 ∀ (y : Row), IsRow 3 1 (ints (kidV x_3.c x_3.a)) y ∧ y.n = (kidV x_3.c x_3.a).length → Done rCoC x F (Ending.returned (bool (decide ((↑y.n : Int) > (0 : Int))))) [(0, F), (77, y.A), (1000, Atom.cells b (chS x.c x.w) 28)])
 (Done rCoC x F (Ending.returned (bool false)) [(0, F), (1000, Atom.cells b (chS x.c x.w) 28)]))
 (Done rCoC x F (Ending.returned (bool false)) [(0, F), (1000, Atom.cells b (chS x.c x.w) 28)]) := by
  obtain ⟨c, w, a, d⟩ := x
  replace hr : ChIn F w.v c := hr
  replace hc : nS c ≤ 1000 := hc
  have hn := hr.num.1
  intro b1
  iterate 8 refine ⟨⟨rfl, rfl⟩, ?_⟩
  refine ⟨ris_ok, rfl, ⟨c, w, a, 0⟩, rfl, rfl, trivial, hr.sub (sub_rest 0 (by simp) rfl), fun _ _ => br_intro (fun q => ?_) (fun q => ⟨(), trivial, retB ?_, Ent.pick [0] rfl rfl⟩)⟩
  · dsimp only at q
    obtain ⟨i, rfl, hi⟩ := isS_spec q
    obtain ⟨b0, o0, ea, hst⟩ := hr.stsAt (by omega)
    obtain ⟨s, hs⟩ := get_st hi
    obtain ⟨rr, ⟨vk, ve, vx, vt, vd, vi, vp, rfl, -⟩, hL⟩ := hst i s hs
    have ek := kd_get hs
    have ekv : kidV c i = kidsP c i := by unfold kidV; rw [q]; rfl
    refine ⟨⟨rfl, rfl⟩, ixq_ok 13 rfl rfl rfl rfl, ⟨b0, o0, w.vs.n, w.vs.cap, i⟩, by dsimp only; rw [ea], by dsimp only; omega, s.kind, hL 1 _ rfl, br_decide (fun q1 => ?_) (fun q1 => ⟨(), trivial, retB ?_, Ent.pick [0] rfl rfl⟩)⟩
    · iterate 8 refine ⟨⟨rfl, rfl⟩, ?_⟩
      refine ⟨rkids_ok, rfl, ⟨c, w, i, 0⟩, rfl, rfl, hc, hr.sub (sub_rest 0 (by simp) rfl), fun r hr2 => ⟨(), trivial, retB ?_, Ent.pick [0] rfl rfl⟩⟩
      dsimp only at hr2 ⊢
      rw [hr2.2, ekv]
      unfold coB
      rw [q, Int.toNat_natCast, ek, decide_eq_true (show s.kind ≤ 1 by omega)]; rfl
    · dsimp only
      unfold coB
      rw [q, Int.toNat_natCast, ek, decide_eq_false (show ¬ s.kind ≤ 1 by omega)]; rfl
  · dsimp only at q ⊢
    unfold coB
    rw [q]; rfl
set_option maxRecDepth 100000 in
theorem rco_ok : FnOk Try.prog 20 rCoC :=
  fnOk (N := 24) (by kernel_rfl) Try.func20 rfl (by kernel_rfl) (fun _ => Nat.le_of_ble_eq_true rfl) rco_H [] fun x F hc hr => Eq.mpr (by kernel_rfl) (rco_vc x F hc hr)
noncomputable def rat_H (x : Con.X rAtC) (F : Atom) : Hints where
  op := hk ((rCoOv x F) ++ [])
  inv := (fun _ _ _ => none) x F
  cut := (fun _ _ _ => none) x F
  ord := (fun _ => [])
open Go.Value (int slice string bool pointer agg tuple func) in
open Go.IntKind (i64) in
set_option maxRecDepth 100000 in
theorem rat_vc (x : RfX) (F : Atom) (hc : Con.cond rAtC x) (hr : Con.rdc rAtC x F) :
  ∀ (b : Nat),
 Same ⟨b, 0, none⟩ b ∧
 Same ⟨b, 1, none⟩ b ∧
 Same ⟨b, 2, none⟩ b ∧
 Same ⟨b, 3, none⟩ b ∧
 Same ⟨b, 4, none⟩ b ∧
 Same ⟨b, 5, none⟩ b ∧
 Same ⟨b, 6, none⟩ b ∧
 Same ⟨b, 7, none⟩ b ∧
 FnOk Try.prog 52 rIsC ∧
 true = true ∧
 ∃ (x_1 : RfX),
 [agg { toList := (chS x.c x.w) }, int i64 x.a] = [agg { toList := (chS x_1.c x_1.w) }, int i64 x_1.a] ∧
 ([] : List Atom) = [] ∧
 True ∧
 ChIn (Atom.pred (rest [(0, F), (1000, Atom.cells b (chS x.c x.w) 28)] [])) x_1.w.v x_1.c ∧
 ∀ (y : Unit),
 True →
 Br (isS x_1.c x_1.a)
 (Same ⟨b, 3, none⟩ b ∧
 QOpOk Try.prog (opIn Try.f18 1 7) (ixQ 13) ∧
 ∃ (x_2 : IxQX),
 [slice x.w.vs.a x.w.vs.n x.w.vs.cap, int i64 x.a] = [slice (some ⟨x_2.b, x_2.o, none⟩) x_2.len x_2.cap, int i64 x_2.n] ∧
 ((0 : Int) ≤ x_2.n ∧ x_2.n < (↑x_2.len : Int)) ∧
 ∃ (n : Int),
 Look F ⟨x_2.b, x_2.o + x_2.n.toNat * 13 + 1, none⟩ (int i64 n) ∧
 Br (decide (n < (4 : Int)))
 (Same ⟨b, 0, none⟩ b ∧
 Same ⟨b, 1, none⟩ b ∧
 Same ⟨b, 2, none⟩ b ∧
 Same ⟨b, 3, none⟩ b ∧
 Same ⟨b, 4, none⟩ b ∧
 Same ⟨b, 5, none⟩ b ∧
 Same ⟨b, 6, none⟩ b ∧
 Same ⟨b, 7, none⟩ b ∧
 FnOk Try.prog 31 rKidsC ∧
 true = true ∧
 ∃ (x_3 : RfX),
 [agg { toList := (chS x.c x.w) }, int i64 x.a] = [agg { toList := (chS x_3.c x_3.w) }, int i64 x_3.a] ∧
 ([] : List Atom) = [] ∧
 nS x_3.c ≤ 1000 ∧
 ChIn (Atom.pred (rest [(0, F), (1000, Atom.cells b (chS x.c x.w) 28)] [])) x_3.w.v x_3.c ∧
 ∀ (y : Row), IsRow 3 1 (ints (kidV x_3.c x_3.a)) y ∧ y.n = (kidV x_3.c x_3.a).length → Done rAtC x F (Ending.returned (bool ((↑y.n : Int) == (0 : Int)))) [(0, F), (77, y.A), (1000, Atom.cells b (chS x.c x.w) 28)])
 (Done rAtC x F (Ending.returned (bool false)) [(0, F), (1000, Atom.cells b (chS x.c x.w) 28)]))
 (Done rAtC x F (Ending.returned (bool false)) [(0, F), (1000, Atom.cells b (chS x.c x.w) 28)]) := by
  obtain ⟨c, w, a, d⟩ := x
  replace hr : ChIn F w.v c := hr
  replace hc : nS c ≤ 1000 := hc
  have hn := hr.num.1
  intro b1
  iterate 8 refine ⟨⟨rfl, rfl⟩, ?_⟩
  refine ⟨ris_ok, rfl, ⟨c, w, a, 0⟩, rfl, rfl, trivial, hr.sub (sub_rest 0 (by simp) rfl), fun _ _ => br_intro (fun q => ?_) (fun q => ⟨(), trivial, retB ?_, Ent.pick [0] rfl rfl⟩)⟩
  · dsimp only at q
    obtain ⟨i, rfl, hi⟩ := isS_spec q
    obtain ⟨b0, o0, ea, hst⟩ := hr.stsAt (by omega)
    obtain ⟨s, hs⟩ := get_st hi
    obtain ⟨rr, ⟨vk, ve, vx, vt, vd, vi, vp, rfl, -⟩, hL⟩ := hst i s hs
    have ek := kd_get hs
    have ekv : kidV c i = kidsP c i := by unfold kidV; rw [q]; rfl
    refine ⟨⟨rfl, rfl⟩, ixq_ok 13 rfl rfl rfl rfl, ⟨b0, o0, w.vs.n, w.vs.cap, i⟩, by dsimp only; rw [ea], by dsimp only; omega, s.kind, hL 1 _ rfl, br_decide (fun q1 => ?_) (fun q1 => ⟨(), trivial, retB ?_, Ent.pick [0] rfl rfl⟩)⟩
    · iterate 8 refine ⟨⟨rfl, rfl⟩, ?_⟩
      refine ⟨rkids_ok, rfl, ⟨c, w, i, 0⟩, rfl, rfl, hc, hr.sub (sub_rest 0 (by simp) rfl), fun r hr2 => ⟨(), trivial, retB ?_, Ent.pick [0] rfl rfl⟩⟩
      dsimp only at hr2 ⊢
      rw [hr2.2, ekv]
      unfold atB
      rw [q, Int.toNat_natCast, ek, decide_eq_true (show s.kind < 4 by omega)]; rfl
    · dsimp only
      unfold atB
      rw [q, Int.toNat_natCast, ek, decide_eq_false (show ¬ s.kind < 4 by omega)]; rfl
  · dsimp only at q ⊢
    unfold atB
    rw [q]; rfl
set_option maxRecDepth 100000 in
theorem rat_ok : FnOk Try.prog 18 rAtC :=
  fnOk (N := 24) (by kernel_rfl) Try.func18 rfl (by kernel_rfl) (fun _ => Nat.le_of_ble_eq_true rfl) rat_H [] fun x F hc hr => Eq.mpr (by kernel_rfl) (rat_vc x F hc hr)
def rAbvC : Con where
  X := RfX
  Y := Row
  args x := [chAgg x.c x.w, .int .i64 x.a, .int .i64 x.d]
  pre _ := []
  cond x := Placed x.c
  rdc x F := ChIn F x.w.v x.c
  rel x r := IsRow 3 1 (ints (abvV x.c x.a x.d)) r ∧ r.n = (abvV x.c x.a x.d).length
  val _ r := .returned (.slice r.a r.n r.cap)
  post _ r := [r.A]
  rmono _ _ _ h hk := hk.sub h
structure RaI where
  out : List Int
  p : Int
  r : Row
  b : Nat
def rAbvInv (x : RfX) (F : Atom) : Nat → Option Inv := fun
  | 0 => some { X := RaI, P := fun i => -1 ≤ i.p ∧ i.p < nS x.c ∧ isS x.c x.a = true ∧ i.out ++ abvP x.c x.d i.p = abvV x.c x.a x.d ∧ i.out.length + (i.p + 1).toNat ≤ 1000 ∧ IsRow 3 1 (ints i.out) i.r ∧ i.r.n = i.out.length, mu := fun i => (i.p + 1).toNat, lv := fun i => [(2, .int .i64 x.d), (3, .pointer (some ⟨i.b, 0, none⟩)), (7, .slice i.r.a i.r.n i.r.cap), (8, .int .i64 i.p)], st := fun i => [F, .cells i.b (chS x.c x.w) 28, i.r.A] }
  | _ => none
def rAbvOv (_x : RfX) (_F : Atom) : List (Nat × Nat × OH) := [(0, 0, .n 1000), (2, 0, .q (at8 1000)), (2, 2, .c rIsC [] []), (4, 1, .q [.atj 1000]), (4, 3, .qo (ixQ 13)), (4, 5, .q [.ex 0 (.int .i64)]), (6, 2, .n 7020), (6, 3, .o (apC 3 1 8) [2] [2]), (7, 1, .q [.atj 1]), (7, 3, .qo (ixQ 13)), (7, 5, .q [.ex 0 (.int .i64)])]
noncomputable def rabv_H (x : Con.X rAbvC) (F : Atom) : Hints where
  op := hk ((rAbvOv x F) ++ [])
  inv := rAbvInv x F
  cut := (fun _ _ _ => none) x F
  ord := (fun _ => [])
open Go.Value (int slice string bool pointer agg tuple func) in
open Go.IntKind (i64) in
set_option maxRecDepth 100000 in
theorem rabv_vc (x : RfX) (F : Atom) (hc : Con.cond rAbvC x) (hr : Con.rdc rAbvC x F) :
  ∀ (b : Nat),
 Same ⟨b, 0, none⟩ b ∧
 Same ⟨b, 1, none⟩ b ∧
 Same ⟨b, 2, none⟩ b ∧
 Same ⟨b, 3, none⟩ b ∧
 Same ⟨b, 4, none⟩ b ∧
 Same ⟨b, 5, none⟩ b ∧
 Same ⟨b, 6, none⟩ b ∧
 Same ⟨b, 7, none⟩ b ∧
 FnOk Try.prog 52 rIsC ∧
 true = true ∧
 ∃ (x_1 : RfX),
 [agg { toList := (chS x.c x.w) }, int i64 x.a] = [agg { toList := (chS x_1.c x_1.w) }, int i64 x_1.a] ∧
 ([] : List Atom) = [] ∧
 True ∧
 ChIn (Atom.pred (rest [(0, F), (1000, Atom.cells b (chS x.c x.w) 28)] [])) x_1.w.v x_1.c ∧
 ∀ (y : Unit),
 True →
 Br (!isS x_1.c x_1.a) (Done rAbvC x F (Ending.returned (slice none 0 0)) [(0, F), (1000, Atom.cells b (chS x.c x.w) 28)])
 (Same ⟨b, 3, none⟩ b ∧
 QOpOk Try.prog (opIn Try.f29 4 3) (ixQ 13) ∧
 ∃ (x_2 : IxQX),
 [slice x.w.vs.a x.w.vs.n x.w.vs.cap, int i64 x.a] = [slice (some ⟨x_2.b, x_2.o, none⟩) x_2.len x_2.cap, int i64 x_2.n] ∧
 ((0 : Int) ≤ x_2.n ∧ x_2.n < (↑x_2.len : Int)) ∧
 ∃ (n : Int),
 Look F ⟨x_2.b, x_2.o + x_2.n.toNat * 13 + 2, none⟩ (int i64 n) ∧
 (∃ (x_3 : RaI),
 ((-1 : Int) ≤ x_3.p ∧ x_3.p < (↑(nS x.c) : Int) ∧ isS x.c x.a = true ∧ x_3.out ++ abvP x.c x.d x_3.p = abvV x.c x.a x.d ∧ x_3.out.length + (x_3.p + (1 : Int)).toNat ≤ 1000 ∧ IsRow 3 1 (ints x_3.out) x_3.r ∧ x_3.r.n = x_3.out.length) ∧
 (int i64 x.d = int i64 x.d ∧ pointer (some ⟨b, 0, none⟩) = pointer (some ⟨x_3.b, 0, none⟩) ∧ slice none 0 0 = slice x_3.r.a x_3.r.n x_3.r.cap ∧ int i64 n = int i64 x_3.p ∧ True) ∧
 Ent [(0, F), (1000, Atom.cells b (chS x.c x.w) 28)] [(0, F), (1, Atom.cells x_3.b (chS x.c x.w) 28), (2, x_3.r.A)]) ∧
 ∀ (x_3 : RaI) (js : Nat → Value),
 (-1 : Int) ≤ x_3.p ∧ x_3.p < (↑(nS x.c) : Int) ∧ isS x.c x.a = true ∧ x_3.out ++ abvP x.c x.d x_3.p = abvV x.c x.a x.d ∧ x_3.out.length + (x_3.p + (1 : Int)).toNat ≤ 1000 ∧ IsRow 3 1 (ints x_3.out) x_3.r ∧ x_3.r.n = x_3.out.length →
 Br (decide (x_3.p ≥ (0 : Int)))
 (Br (x_3.p != x.d)
 (∀ (b : Nat),
 OpOk Try.prog (opIn Try.f29 6 3) (apC (3 : TypeId) 1 8) ∧
 true = true ∧
 ∃ (x_4 : ApX),
 [slice x_3.r.a x_3.r.n x_3.r.cap, slice (some ⟨b, 0, none⟩) 1 1] = [slice x_4.r.a x_4.r.n x_4.r.cap, slice x_4.a x_4.m x_4.c] ∧
 [x_3.r.A] = [x_4.r.A] ∧
 (IsRow 3 1 x_4.cs x_4.r ∧ x_4.ys.length = x_4.m * 1 ∧ (∀ (u : Value), u ∈ x_4.ys → u.oneCell' = true) ∧ (x_4.r.n + x_4.m) * 8 ≤ 140737488355328 ∧ x_4.r.n + x_4.m ≤ 9223372036854775807 ∧ (x_4.a = none → x_4.m = 0 ∧ x_4.c = 0)) ∧
 (∀ (a : Addr), x_4.a = some a → Seg (Atom.pred (rest [(0, F), (1, Atom.cells x_3.b (chS x.c x.w) 28), (2, x_3.r.A), (7020, Atom.cells b [int i64 x_3.p] 3)] [2])) a x_4.ys) ∧
 ∀ (y : Row),
 IsRow 3 1 (x_4.cs ++ x_4.ys) y ∧ y.n = x_4.r.n + x_4.m ∧ (x_4.m = 0 → y = x_4.r) →
 Same ⟨x_3.b, 3, none⟩ x_3.b ∧
 QOpOk Try.prog (opIn Try.f29 7 3) (ixQ 13) ∧
 ∃ (x_5 : IxQX),
 [slice x.w.vs.a x.w.vs.n x.w.vs.cap, int i64 x_3.p] = [slice (some ⟨x_5.b, x_5.o, none⟩) x_5.len x_5.cap, int i64 x_5.n] ∧
 ((0 : Int) ≤ x_5.n ∧ x_5.n < (↑x_5.len : Int)) ∧
 ∃ (n : Int),
 Look F ⟨x_5.b, x_5.o + x_5.n.toNat * 13 + 2, none⟩ (int i64 n) ∧
 ∃ (y_1 : RaI),
 ((-1 : Int) ≤ y_1.p ∧ y_1.p < (↑(nS x.c) : Int) ∧ isS x.c x.a = true ∧ y_1.out ++ abvP x.c x.d y_1.p = abvV x.c x.a x.d ∧ y_1.out.length + (y_1.p + (1 : Int)).toNat ≤ 1000 ∧ IsRow 3 1 (ints y_1.out) y_1.r ∧ y_1.r.n = y_1.out.length) ∧
 (int i64 x.d = int i64 x.d ∧ pointer (some ⟨x_3.b, 0, none⟩) = pointer (some ⟨y_1.b, 0, none⟩) ∧ slice y.a y.n y.cap = slice y_1.r.a y_1.r.n y_1.r.cap ∧ int i64 n = int i64 y_1.p ∧ True) ∧
 Ent [(0, F), (1, Atom.cells x_3.b (chS x.c x.w) 28), (2, y.A), (7020, Atom.cells b [int i64 x_3.p] 3)] [(0, F), (1, Atom.cells y_1.b (chS x.c x.w) 28), (2, y_1.r.A)] ∧ (y_1.p + (1 : Int)).toNat < (x_3.p + (1 : Int)).toNat)
 (Done rAbvC x F (Ending.returned (slice x_3.r.a x_3.r.n x_3.r.cap)) [(0, F), (1, Atom.cells x_3.b (chS x.c x.w) 28), (2, x_3.r.A)]))
 (Done rAbvC x F (Ending.returned (slice x_3.r.a x_3.r.n x_3.r.cap)) [(0, F), (1, Atom.cells x_3.b (chS x.c x.w) 28), (2, x_3.r.A)])) := by
  obtain ⟨c, w, a, top⟩ := x
  replace hr : ChIn F w.v c := hr
  replace hp : Placed c := hc
  have hn2 := hp.n2
  have hn := hp.n128
  obtain ⟨b0, o0, ea, hst⟩ := hr.stsAt (by omega)
  have hwn := hr.num.1
  intro b1
  iterate 8 refine ⟨⟨rfl, rfl⟩, ?_⟩
  refine ⟨ris_ok, rfl, ⟨c, w, a, 0⟩, rfl, rfl, trivial, hr.sub (sub_rest 0 (by simp) rfl), fun _ _ => br_intro (fun h1 => ⟨nilRow, ?_, rfl, Ent.pick [77, 0] rfl rfl⟩) (fun h1 => ?_)⟩
  · have h1' : isS c a = false := by simpa using h1
    dsimp only [rAbvC]
    unfold abvV
    rw [h1']
    exact ⟨.nil rfl, rfl⟩
  · have h1' : isS c a = true := by simpa using h1
    obtain ⟨i, rfl, hi⟩ := isS_spec h1'
    obtain ⟨s, hsi⟩ := get_st hi
    obtain ⟨r, ⟨vk, ve, vx, vt, vd, vi, vp, rfl, -⟩, hL⟩ := hst i s hsi
    have ep : pr c i = s.parent := pr_get hsi
    have hpl := pr_lt hp hi
    refine ⟨⟨rfl, rfl⟩, ixq_ok 13 rfl rfl rfl rfl, ⟨b0, o0, w.vs.n, w.vs.cap, i⟩, by dsimp only; rw [ea], by dsimp only; omega, s.parent, hL 2 _ rfl, ⟨⟨[], s.parent, nilRow, b1⟩, ⟨by dsimp only; omega, by dsimp only; omega, h1', ?_, by dsimp only; rw [List.length_nil]; omega, .nil rfl, rfl⟩, ⟨rfl, rfl, rfl, rfl, trivial⟩, Ent.pick [0, 1000, 77] rfl rfl⟩, ?_⟩
    · dsimp only
      unfold abvV
      rw [h1', List.nil_append, ← ep]; rfl
    rintro ⟨out, p, wr, b1⟩ js ⟨q1, q2, q3, q4, q5, q6, q7⟩
    dsimp only at q1 q2 q3 q4 q5 q6 q7 ⊢
    have fin : (p < 0 ∨ p = top) → Done rAbvC ⟨c, w, i, top⟩ F (.returned (.slice wr.a wr.n wr.cap)) [(0, F), (1, .cells b1 (chS c w) 28), (2, wr.A)] := by
      intro h
      rw [abvP_stop h, List.append_nil] at q4
      refine ⟨wr, ?_, rfl, Ent.pick [2, 0] rfl rfl⟩
      dsimp only [rAbvC]
      rw [← q4]
      exact ⟨q6, q7⟩
    refine br_decide (fun h0 => br_intro (fun ht => ?_) (fun ht => fin (.inr (by simpa using ht)))) (fun h0 => fin (.inl (by omega)))
    obtain ⟨j, rfl⟩ : ∃ j : Nat, p = j := ⟨p.toNat, by omega⟩
    have hj : j < nS c := by omega
    have ht' : (j : Int) ≠ top := by simpa using ht
    rw [abvP_step hp hj ht'] at q4
    obtain ⟨s2, hs2⟩ := get_st hj
    obtain ⟨r2, ⟨vk, ve, vx, vt, vd, vi, vp, rfl, -⟩, hL2⟩ := hst j s2 hs2
    have ep2 : pr c j = s2.parent := pr_get hs2
    have hpl2 := pr_lt hp hj
    have hq5 : out.length + (j + 1) ≤ 1000 := by omega
    refine fun b3 => ⟨append_ok (P := Try.prog) 1 8 rfl rfl rfl rfl rfl rfl rfl (by decide), rfl, ⟨wr, _, some ⟨b3, 0, none⟩, 1, 1, [.int .i64 j]⟩, rfl, rfl, ⟨q6, rfl, by simp [Value.oneCell'], by dsimp only; omega, by dsimp only; omega, by simp⟩, ?_, fun z hz => ⟨⟨rfl, rfl⟩, ixq_ok 13 rfl rfl rfl rfl, ⟨b0, o0, w.vs.n, w.vs.cap, j⟩, by dsimp only; rw [ea], by dsimp only; omega, s2.parent, hL2 2 _ rfl, ⟨out ++ [(j : Int)], s2.parent, z, b1⟩, ⟨by dsimp only; omega, by dsimp only; omega, q3, ?_, ?_, ?_, ?_⟩, ⟨rfl, rfl, rfl, rfl, trivial⟩, Ent.pick [0, 1, 2] rfl rfl, by dsimp only; omega⟩⟩
    · intro ad e
      cases e
      exact Seg.rest (j := 7020) (by simp) (Seg.cells fun j u h => by rw [Nat.zero_add]; exact h)
    · dsimp only
      rw [List.append_assoc, List.singleton_append, ← ep2]; exact q4
    · dsimp only; rw [List.length_append, List.length_singleton]; omega
    · dsimp only; rw [ints_append]; exact hz.1
    · dsimp only; rw [List.length_append, List.length_singleton, ← q7]; exact hz.2.1
set_option maxRecDepth 100000 in
theorem rabv_ok : FnOk Try.prog 29 rAbvC :=
  fnOk (N := 37) (by kernel_rfl) Try.func29 rfl (by kernel_rfl) (fun _ => Nat.le_of_ble_eq_true rfl) rabv_H [] fun x F hc hr => Eq.mpr (by kernel_rfl) (rabv_vc x F hc hr)
end Go.Proofs.Ytfmadkaiigiaiaa
