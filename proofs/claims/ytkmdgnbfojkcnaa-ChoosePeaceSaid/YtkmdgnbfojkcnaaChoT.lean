/- What the document's answers say of a chart, as far as the choice laws ask. -/
import Derived.Test.YtkmdgnbfojkcnaaLatP
set_option linter.all false
namespace Go.Proofs.Ytkmdgnbfojkcnaa
open Go
set_option maxHeartbeats 1000000
structure LawX where
  c : ChD
  w : ChS
  a : Option Addr
  n : Nat
  cap : Nat
  xs : List Int
structure RfX where
  c : ChD
  w : ChS
  a : Int
  d : Int
theorem ChIn.stsAt {F : Atom} {w : ChS} {c : ChD} (h : ChIn F w.v c) (hp : 0 < nS c) : ∃ b o, w.vs.a = some ⟨b, o, none⟩ ∧ ∀ i s, c.sts[i]? = some s → ∃ r, StIn F r s ∧ ∀ j u, r[j]? = some u → Look F ⟨b, o + i * 13 + j, none⟩ u := by
  have h1 : SlIn F (StIn F) 13 232 (.slice w.vs.a w.vs.n w.vs.cap) c.sts := h.sts
  obtain ⟨s0, hs0⟩ := get_st hp
  obtain ⟨b, o, r, ea, -⟩ := h1.at' hs0
  refine ⟨b, o, ea, fun i s hs => ?_⟩
  obtain ⟨b', o', r', ea', hR, hL⟩ := h1.at' hs
  rw [ea] at ea'
  simp only [Option.some.injEq, Addr.mk.injEq, and_true] at ea'
  obtain ⟨rfl, rfl⟩ := ea'
  exact ⟨r', hR, hL⟩
theorem ChIn.num {F : Atom} {w : ChS} {c : ChD} (h : ChIn F w.v c) : w.vs.n = nS c ∧ w.vs.n * 232 ≤ 140737488351232 := by
  have h1 : SlIn F (StIn F) 13 232 (.slice w.vs.a w.vs.n w.vs.cap) c.sts := h.sts
  exact ⟨h1.num.1, h1.num.2.2⟩
def rIsC : Con where
  X := RfX
  Y := Unit
  args x := [chAgg x.c x.w, .int .i64 x.a]
  pre _ := []
  cond _ := True
  rdc x F := ChIn F x.w.v x.c
  rel _ _ := True
  val x _ := .returned (.bool (isS x.c x.a))
  post _ _ := []
  rmono _ _ _ h hk := hk.sub h
def rIsOv (_x : RfX) (_F : Atom) : List (Nat × Nat × OH) := [(0, 0, .n 1000), (1, 5, .q [.atj 1000])]
noncomputable def ris_H (x : Con.X rIsC) (F : Atom) : Hints where
  op := hk ((rIsOv x F) ++ [])
  inv := (fun _ _ _ => none) x F
  cut := (fun _ _ _ => none) x F
  ord := (fun _ => [])
open Go.Value (int slice string bool pointer agg tuple func) in
open Go.IntKind (i64) in
set_option maxRecDepth 100000 in
theorem ris_vc (x : RfX) (F : Atom) (hc : Con.cond rIsC x) (hr : Con.rdc rIsC x F) :
  ∀ (b : Nat), Br (decide (x.a ≥ (0 : Int))) (Same ⟨b, 3, none⟩ b ∧ Done rIsC x F (Ending.returned (bool (decide (x.a < (↑x.w.vs.n : Int))))) [(0, F), (1000, Atom.cells b (chS x.c x.w) 28)]) (Done rIsC x F (Ending.returned (bool false)) [(0, F), (1000, Atom.cells b (chS x.c x.w) 28)]) := by
  obtain ⟨c, w, a, d⟩ := x
  have hn := (ChIn.num hr).1
  dsimp only at hn
  refine fun b => br_decide (fun h => ⟨⟨rfl, rfl⟩, (), trivial, retB ?_, Ent.pick [0] rfl rfl⟩) (fun h => ⟨(), trivial, retB ?_, Ent.pick [0] rfl rfl⟩)
  · dsimp only at h ⊢
    unfold isS; rw [decide_eq_true h, hn]; rfl
  · dsimp only at h ⊢
    unfold isS; rw [decide_eq_false h]; rfl
set_option maxRecDepth 100000 in
theorem ris_ok : FnOk Try.prog 61 rIsC :=
  fnOk (N := 14) (by kernel_rfl) Try.func61 rfl (by kernel_rfl) (fun _ => Nat.le_of_ble_eq_true rfl) ris_H [] fun x F hc hr => Eq.mpr (by kernel_rfl) (ris_vc x F hc hr)
def upB (c : ChD) (p : Int) (d : Nat) : Bool := decide (p ≥ 0) && (decide (p = d) || insB c p.toNat d)
theorem up_step {c : ChD} (hp : Placed c) {i j : Nat} (hi : i < nS c) (hj : j < nS c) : insB c i j = upB c (pr c i) j := by
  unfold upB
  rcases Nat.eq_zero_or_pos i with e | e
  · subst e
    rw [ins_root c hi, hp.p0]; rfl
  · obtain ⟨_, _, h3, h4, _⟩ := hp.st i e hi
    obtain ⟨m, hm⟩ : ∃ m : Nat, pr c i = m := ⟨(pr c i).toNat, by omega⟩
    rw [ins_step hp e hi hj, hm, Int.toNat_natCast, decide_eq_true (show (m : Int) ≥ 0 by omega), Bool.true_and]
    congr 1
    by_cases h : m = j
    · rw [decide_eq_true h, decide_eq_true (by omega)]
    · rw [decide_eq_false h, decide_eq_false (by omega)]
def rInC : Con where
  X := RfX
  Y := Unit
  args x := [chAgg x.c x.w, .int .i64 x.a, .int .i64 x.d]
  pre _ := []
  cond x := Placed x.c
  rdc x F := ChIn F x.w.v x.c
  rel _ _ := True
  val x _ := .returned (.bool (inB x.c x.a x.d))
  post _ _ := []
  rmono _ _ _ h hk := hk.sub h
def rInInv (x : RfX) (F : Atom) : Nat → Option Inv := fun
  | 0 => some { X := Int × Nat, P := fun i => isS x.c x.a = true ∧ isS x.c x.d = true ∧ -1 ≤ i.1 ∧ i.1 < nS x.c ∧ insB x.c x.a.toNat x.d.toNat = upB x.c i.1 x.d.toNat, mu := fun i => (i.1 + 1).toNat, lv := fun i => [(2, .int .i64 x.d), (3, .pointer (some ⟨i.2, 0, none⟩)), (7, .int .i64 i.1)], st := fun i => [F, .cells i.2 (chS x.c x.w) 28] }
  | _ => none
def rInOv (_x : RfX) (_F : Atom) : List (Nat × Nat × OH) := [(0, 0, .n 1000), (1, 0, .q (at8 1000)), (1, 2, .c rIsC [] []), (1, 5, .q (at8 1000)), (1, 7, .c rIsC [] []), (3, 1, .q [.atj 1000]), (3, 3, .qo (ixQ 13)), (3, 5, .q [.ex 0 (.int .i64)]), (7, 1, .q [.atj 1]), (7, 3, .qo (ixQ 13)), (7, 5, .q [.ex 0 (.int .i64)])]
noncomputable def rin_H (x : Con.X rInC) (F : Atom) : Hints where
  op := hk ((rInOv x F) ++ [])
  inv := rInInv x F
  cut := (fun _ _ _ => none) x F
  ord := (fun _ => [])
open Go.Value (int slice string bool pointer agg tuple func) in
open Go.IntKind (i64) in
set_option maxRecDepth 100000 in
theorem rin_vc (x : RfX) (F : Atom) (hc : Con.cond rInC x) (hr : Con.rdc rInC x F) :
  ∀ (b : Nat),
 Same ⟨b, 0, none⟩ b ∧
 Same ⟨b, 1, none⟩ b ∧
 Same ⟨b, 2, none⟩ b ∧
 Same ⟨b, 3, none⟩ b ∧
 Same ⟨b, 4, none⟩ b ∧
 Same ⟨b, 5, none⟩ b ∧
 Same ⟨b, 6, none⟩ b ∧
 Same ⟨b, 7, none⟩ b ∧
 FnOk Try.prog 61 rIsC ∧
 true = true ∧
 ∃ (x_1 : RfX),
 [agg { toList := (chS x.c x.w) }, int i64 x.a] = [agg { toList := (chS x_1.c x_1.w) }, int i64 x_1.a] ∧
 ([] : List Atom) = [] ∧
 True ∧
 ChIn (Atom.pred (rest [(0, F), (1000, Atom.cells b (chS x.c x.w) 28)] [])) x_1.w.v x_1.c ∧
 ∀ (y : Unit),
 True →
 Br (!isS x_1.c x_1.a) (Done rInC x F (Ending.returned (bool false)) [(0, F), (1000, Atom.cells b (chS x.c x.w) 28)])
 (Same ⟨b, 0, none⟩ b ∧
 Same ⟨b, 1, none⟩ b ∧
 Same ⟨b, 2, none⟩ b ∧
 Same ⟨b, 3, none⟩ b ∧
 Same ⟨b, 4, none⟩ b ∧
 Same ⟨b, 5, none⟩ b ∧
 Same ⟨b, 6, none⟩ b ∧
 Same ⟨b, 7, none⟩ b ∧
 FnOk Try.prog 61 rIsC ∧
 true = true ∧
 ∃ (x_2 : RfX),
 [agg { toList := (chS x.c x.w) }, int i64 x.d] = [agg { toList := (chS x_2.c x_2.w) }, int i64 x_2.a] ∧
 ([] : List Atom) = [] ∧
 True ∧
 ChIn (Atom.pred (rest [(0, F), (1000, Atom.cells b (chS x.c x.w) 28)] [])) x_2.w.v x_2.c ∧
 ∀ (y : Unit),
 True →
 Br (!isS x_2.c x_2.a) (Done rInC x F (Ending.returned (bool false)) [(0, F), (1000, Atom.cells b (chS x.c x.w) 28)])
 (Same ⟨b, 3, none⟩ b ∧
 QOpOk Try.prog (opIn Try.f19 3 3) (ixQ 13) ∧
 ∃ (x_3 : IxQX),
 [slice x.w.vs.a x.w.vs.n x.w.vs.cap, int i64 x.a] = [slice (some ⟨x_3.b, x_3.o, none⟩) x_3.len x_3.cap, int i64 x_3.n] ∧
 ((0 : Int) ≤ x_3.n ∧ x_3.n < (↑x_3.len : Int)) ∧
 ∃ (n : Int),
 Look F ⟨x_3.b, x_3.o + x_3.n.toNat * 13 + 2, none⟩ (int i64 n) ∧
 (∃ (x_4 : Int × Nat),
 (isS x.c x.a = true ∧ isS x.c x.d = true ∧ (-1 : Int) ≤ x_4.fst ∧ x_4.fst < (↑(nS x.c) : Int) ∧ insB x.c x.a.toNat x.d.toNat = upB x.c x_4.fst x.d.toNat) ∧
 (int i64 x.d = int i64 x.d ∧ pointer (some ⟨b, 0, none⟩) = pointer (some ⟨x_4.snd, 0, none⟩) ∧ int i64 n = int i64 x_4.fst ∧ True) ∧
 Ent [(0, F), (1000, Atom.cells b (chS x.c x.w) 28)] [(0, F), (1, Atom.cells x_4.snd (chS x.c x.w) 28)]) ∧
 ∀ (x_4 : Int × Nat) (js : Nat → Value),
 isS x.c x.a = true ∧ isS x.c x.d = true ∧ (-1 : Int) ≤ x_4.fst ∧ x_4.fst < (↑(nS x.c) : Int) ∧ insB x.c x.a.toNat x.d.toNat = upB x.c x_4.fst x.d.toNat →
 Br (decide (x_4.fst ≥ (0 : Int)))
 (Br (x_4.fst == x.d) (Done rInC x F (Ending.returned (bool true)) [(0, F), (1, Atom.cells x_4.snd (chS x.c x.w) 28)])
 (Same ⟨x_4.snd, 3, none⟩ x_4.snd ∧
 QOpOk Try.prog (opIn Try.f19 7 3) (ixQ 13) ∧
 ∃ (x_5 : IxQX),
 [slice x.w.vs.a x.w.vs.n x.w.vs.cap, int i64 x_4.fst] = [slice (some ⟨x_5.b, x_5.o, none⟩) x_5.len x_5.cap, int i64 x_5.n] ∧
 ((0 : Int) ≤ x_5.n ∧ x_5.n < (↑x_5.len : Int)) ∧
 ∃ (n : Int),
 Look F ⟨x_5.b, x_5.o + x_5.n.toNat * 13 + 2, none⟩ (int i64 n) ∧
 ∃ (y : Int × Nat),
 (isS x.c x.a = true ∧ isS x.c x.d = true ∧ (-1 : Int) ≤ y.fst ∧ y.fst < (↑(nS x.c) : Int) ∧ insB x.c x.a.toNat x.d.toNat = upB x.c y.fst x.d.toNat) ∧
 (int i64 x.d = int i64 x.d ∧ pointer (some ⟨x_4.snd, 0, none⟩) = pointer (some ⟨y.snd, 0, none⟩) ∧ int i64 n = int i64 y.fst ∧ True) ∧
 Ent [(0, F), (1, Atom.cells x_4.snd (chS x.c x.w) 28)] [(0, F), (1, Atom.cells y.snd (chS x.c x.w) 28)] ∧ (y.fst + (1 : Int)).toNat < (x_4.fst + (1 : Int)).toNat))
 (Done rInC x F (Ending.returned (bool false)) [(0, F), (1, Atom.cells x_4.snd (chS x.c x.w) 28)]))) := by
  obtain ⟨c, w, a, d⟩ := x
  replace hc : Placed c := hc
  replace hr : ChIn F w.v c := hr
  have hn2 := hc.n2
  obtain ⟨b0, o0, ea, hst⟩ := hr.stsAt (by omega)
  have hn := hr.num.1
  intro b1
  iterate 8 refine ⟨⟨rfl, rfl⟩, ?_⟩
  refine ⟨ris_ok, rfl, ⟨c, w, a, 0⟩, rfl, rfl, trivial, hr.sub (sub_rest 0 (by simp) rfl), fun _ _ => br_intro (fun q => ⟨(), trivial, retB ?_, Ent.pick [0] rfl rfl⟩) (fun q => ?_)⟩
  · dsimp only at q ⊢
    unfold inB
    have : isS c a = false := by simpa using q
    rw [this]; rfl
  have ha : isS c a = true := by dsimp only at q; simpa using q
  clear q
  iterate 8 refine ⟨⟨rfl, rfl⟩, ?_⟩
  refine ⟨ris_ok, rfl, ⟨c, w, d, 0⟩, rfl, rfl, trivial, hr.sub (sub_rest 0 (by simp) rfl), fun _ _ => br_intro (fun q => ⟨(), trivial, retB ?_, Ent.pick [0] rfl rfl⟩) (fun q => ?_)⟩
  · dsimp only at q ⊢
    unfold inB
    have : isS c d = false := by simpa using q
    rw [this]; simp
  have hd : isS c d = true := by dsimp only at q; simpa using q
  clear q
  have hin : inB c a d = insB c a.toNat d.toNat := by unfold inB; rw [ha, hd]; rfl
  obtain ⟨i, rfl, hi⟩ := isS_spec ha
  obtain ⟨j, rfl, hj⟩ := isS_spec hd
  obtain ⟨s, hs⟩ := get_st hi
  obtain ⟨r, ⟨vk, ve, vx, vt, vd, vi, vp, rfl, -⟩, hL⟩ := hst i s hs
  have ep := pr_get hs
  have hpl := pr_lt hc hi
  refine ⟨⟨rfl, rfl⟩, ixq_ok 13 rfl rfl rfl rfl, ⟨b0, o0, w.vs.n, w.vs.cap, i⟩, by dsimp only; rw [ea], by dsimp only; omega, s.parent, hL 2 _ rfl, ⟨(s.parent, b1), ⟨ha, hd, by dsimp only; omega, by dsimp only; omega, ?_⟩, ⟨rfl, rfl, rfl, trivial⟩, Ent.pick [0, 1000] rfl rfl⟩, ?_⟩
  · dsimp only
    rw [Int.toNat_natCast, Int.toNat_natCast, ← ep]
    exact up_step hc hi hj
  clear hL hs ep hpl b1
  rintro ⟨p, b1⟩ js ⟨-, -, p1, p2, p3⟩
  dsimp only at p1 p2 p3 ⊢
  rw [Int.toNat_natCast, Int.toNat_natCast] at p3 hin
  refine br_decide (fun h0 => br_intro (fun h1 => ⟨(), trivial, retB ?_, Ent.pick [0] rfl rfl⟩) (fun h1 => ?_)) (fun h0 => ⟨(), trivial, retB ?_, Ent.pick [0] rfl rfl⟩)
  · have h1 : p = (j : Int) := by simpa using h1
    dsimp only
    rw [hin, p3]
    unfold upB
    rw [decide_eq_true h0, decide_eq_true h1]; rfl
  · have h1 : ¬ p = (j : Int) := by simpa using h1
    obtain ⟨m, rfl⟩ : ∃ m : Nat, p = m := ⟨p.toNat, by omega⟩
    have hm : m < nS c := by omega
    obtain ⟨s, hs⟩ := get_st hm
    obtain ⟨r, ⟨vk, ve, vx, vt, vd, vi, vp, rfl, -⟩, hL⟩ := hst m s hs
    have ep := pr_get hs
    have hpl := pr_lt hc hm
    refine ⟨⟨rfl, rfl⟩, ixq_ok 13 rfl rfl rfl rfl, ⟨b0, o0, w.vs.n, w.vs.cap, m⟩, by dsimp only; rw [ea], by dsimp only; omega, s.parent, hL 2 _ rfl, ⟨(s.parent, b1), ⟨ha, hd, by dsimp only; omega, by dsimp only; omega, ?_⟩, ⟨rfl, rfl, rfl, trivial⟩, Ent.pick [0, 1] rfl rfl, by dsimp only; omega⟩⟩
    dsimp only
    rw [Int.toNat_natCast, Int.toNat_natCast, p3, ← ep, ← up_step hc hm hj]
    unfold upB
    rw [decide_eq_true h0, decide_eq_false h1, Int.toNat_natCast]; rfl
  · dsimp only
    rw [hin, p3]
    unfold upB
    rw [decide_eq_false h0]; rfl
set_option maxRecDepth 100000 in
theorem rin_ok : FnOk Try.prog 19 rInC :=
  fnOk (N := 35) (by kernel_rfl) Try.func19 rfl (by kernel_rfl) (fun _ => Nat.le_of_ble_eq_true rfl) rin_H [] fun x F hc hr => Eq.mpr (by kernel_rfl) (rin_vc x F hc hr)
def kidV (c : ChD) (a : Int) : List Int := bif isS c a then kidsP c a.toNat else []
def rKidsC : Con where
  X := RfX
  Y := Row
  args x := [chAgg x.c x.w, .int .i64 x.a]
  pre _ := []
  cond x := nS x.c ≤ 1000
  rdc x F := ChIn F x.w.v x.c
  rel x r := IsRow 3 1 (ints (kidV x.c x.a)) r ∧ r.n = (kidV x.c x.a).length
  val _ r := .returned (.slice r.a r.n r.cap)
  post _ r := [r.A]
  rmono _ _ _ h hk := hk.sub h
structure RkI where
  k : Nat
  b : Nat
  r : Row
def rKidsInv (x : RfX) (F : Atom) : Nat → Option Inv := fun
  | 0 => some { X := RkI, P := fun i => i.k ≤ nS x.c ∧ (isS x.c x.a = false → i.k = 0) ∧ IsRow 3 1 (ints (kidsOf x.c 4 i.k x.a.toNat)) i.r ∧ i.r.n = (kidsOf x.c 4 i.k x.a.toNat).length, mu := fun i => nS x.c - i.k, lv := fun i => [(1, .int .i64 x.a), (2, .pointer (some ⟨i.b, 0, none⟩)), (5, .slice i.r.a i.r.n i.r.cap), (6, .int .i64 i.k)], st := fun i => [F, .cells i.b (chS x.c x.w) 28, i.r.A] }
  | _ => none
def rKidsOv (_x : RfX) (_F : Atom) : List (Nat × Nat × OH) := [(0, 0, .n 1000), (3, 2, .q [.atj 1]), (3, 6, .q (at8 1)), (3, 8, .c rIsC [] []), (5, 1, .q [.atj 1]), (5, 3, .qo (ixQ 13)), (5, 5, .q [.ex 0 (.int .i64)]), (5, 10, .q [.atj 1]), (5, 12, .qo (ixQ 13)), (5, 14, .q [.ex 0 (.int .i64)]), (6, 2, .n 7020), (6, 3, .o (apC 3 1 8) [2] [2])]
noncomputable def rkids_H (x : Con.X rKidsC) (F : Atom) : Hints where
  op := hk ((rKidsOv x F) ++ [])
  inv := rKidsInv x F
  cut := (fun _ _ _ => none) x F
  ord := (fun _ => [])
open Go.Value (int slice string bool pointer agg tuple func) in
open Go.IntKind (i64) in
set_option maxRecDepth 100000 in
theorem rkids_vc (x : RfX) (F : Atom) (hc : Con.cond rKidsC x) (hr : Con.rdc rKidsC x F) :
  ∀ (b : Nat),
 (∃ (x_1 : RkI),
 (x_1.k ≤ nS x.c ∧ (isS x.c x.a = false → x_1.k = 0) ∧ IsRow 3 1 (ints (kidsOf x.c (4 : Int) x_1.k x.a.toNat)) x_1.r ∧ x_1.r.n = (kidsOf x.c (4 : Int) x_1.k x.a.toNat).length) ∧
 (int i64 x.a = int i64 x.a ∧ pointer (some ⟨b, 0, none⟩) = pointer (some ⟨x_1.b, 0, none⟩) ∧ slice none 0 0 = slice x_1.r.a x_1.r.n x_1.r.cap ∧ int i64 (0 : Int) = int i64 (↑x_1.k : Int) ∧ True) ∧
 Ent [(0, F), (1000, Atom.cells b (chS x.c x.w) 28)] [(0, F), (1, Atom.cells x_1.b (chS x.c x.w) 28), (2, x_1.r.A)]) ∧
 ∀ (x_1 : RkI) (js : Nat → Value),
 x_1.k ≤ nS x.c ∧ (isS x.c x.a = false → x_1.k = 0) ∧ IsRow 3 1 (ints (kidsOf x.c (4 : Int) x_1.k x.a.toNat)) x_1.r ∧ x_1.r.n = (kidsOf x.c (4 : Int) x_1.k x.a.toNat).length →
 Same ⟨x_1.b, 3, none⟩ x_1.b ∧
 Br (decide ((↑x_1.k : Int) < (↑x.w.vs.n : Int)))
 (Same ⟨x_1.b, 0, none⟩ x_1.b ∧
 Same ⟨x_1.b, 1, none⟩ x_1.b ∧
 Same ⟨x_1.b, 2, none⟩ x_1.b ∧
 Same ⟨x_1.b, 3, none⟩ x_1.b ∧
 Same ⟨x_1.b, 4, none⟩ x_1.b ∧
 Same ⟨x_1.b, 5, none⟩ x_1.b ∧
 Same ⟨x_1.b, 6, none⟩ x_1.b ∧
 Same ⟨x_1.b, 7, none⟩ x_1.b ∧
 FnOk Try.prog 61 rIsC ∧
 true = true ∧
 ∃ (x_2 : RfX),
 [agg { toList := (chS x.c x.w) }, int i64 x.a] = [agg { toList := (chS x_2.c x_2.w) }, int i64 x_2.a] ∧
 ([] : List Atom) = [] ∧
 True ∧
 ChIn (Atom.pred (rest [(0, F), (1, Atom.cells x_1.b (chS x.c x.w) 28), (2, x_1.r.A)] [])) x_2.w.v x_2.c ∧
 ∀ (y : Unit),
 True →
 Br (isS x_2.c x_2.a)
 (Same ⟨x_1.b, 3, none⟩ x_1.b ∧
 QOpOk Try.prog (opIn Try.f34 5 3) (ixQ 13) ∧
 ∃ (x_3 : IxQX),
 [slice x.w.vs.a x.w.vs.n x.w.vs.cap, int i64 (↑x_1.k : Int)] = [slice (some ⟨x_3.b, x_3.o, none⟩) x_3.len x_3.cap, int i64 x_3.n] ∧
 ((0 : Int) ≤ x_3.n ∧ x_3.n < (↑x_3.len : Int)) ∧
 ∃ (n : Int),
 Look F ⟨x_3.b, x_3.o + x_3.n.toNat * 13 + 2, none⟩ (int i64 n) ∧
 Br (n == x.a)
 (Same ⟨x_1.b, 3, none⟩ x_1.b ∧
 QOpOk Try.prog (opIn Try.f34 5 12) (ixQ 13) ∧
 ∃ (x_4 : IxQX),
 [slice x.w.vs.a x.w.vs.n x.w.vs.cap, int i64 (↑x_1.k : Int)] = [slice (some ⟨x_4.b, x_4.o, none⟩) x_4.len x_4.cap, int i64 x_4.n] ∧
 ((0 : Int) ≤ x_4.n ∧ x_4.n < (↑x_4.len : Int)) ∧
 ∃ (n : Int),
 Look F ⟨x_4.b, x_4.o + x_4.n.toNat * 13 + 1, none⟩ (int i64 n) ∧
 Br (decide (n < (4 : Int)))
 (Br (decide ((↑x_1.k : Int) > (0 : Int)))
 (∀ (b : Nat),
 OpOk Try.prog (opIn Try.f34 6 3) (apC (3 : TypeId) 1 8) ∧
 true = true ∧
 ∃ (x_5 : ApX),
 [slice x_1.r.a x_1.r.n x_1.r.cap, slice (some ⟨b, 0, none⟩) 1 1] = [slice x_5.r.a x_5.r.n x_5.r.cap, slice x_5.a x_5.m x_5.c] ∧
 [x_1.r.A] = [x_5.r.A] ∧
 (IsRow 3 1 x_5.cs x_5.r ∧ x_5.ys.length = x_5.m * 1 ∧ (∀ (u : Value), u ∈ x_5.ys → u.oneCell' = true) ∧ (x_5.r.n + x_5.m) * 8 ≤ 140737488355328 ∧ x_5.r.n + x_5.m ≤ 9223372036854775807 ∧ (x_5.a = none → x_5.m = 0 ∧ x_5.c = 0)) ∧
 (∀ (a : Addr), x_5.a = some a → Seg (Atom.pred (rest [(0, F), (1, Atom.cells x_1.b (chS x.c x.w) 28), (2, x_1.r.A), (7020, Atom.cells b [int i64 (↑x_1.k : Int)] 3)] [2])) a x_5.ys) ∧
 ∀ (y : Row),
 IsRow 3 1 (x_5.cs ++ x_5.ys) y ∧ y.n = x_5.r.n + x_5.m ∧ (x_5.m = 0 → y = x_5.r) →
 ((-9223372036854775808 : Int) ≤ (↑x_1.k : Int) + (1 : Int) ∧ (↑x_1.k : Int) + (1 : Int) ≤ (9223372036854775807 : Int)) ∧
 ∃ (y_1 : RkI),
 (y_1.k ≤ nS x.c ∧ (isS x.c x.a = false → y_1.k = 0) ∧ IsRow 3 1 (ints (kidsOf x.c (4 : Int) y_1.k x.a.toNat)) y_1.r ∧ y_1.r.n = (kidsOf x.c (4 : Int) y_1.k x.a.toNat).length) ∧
 (int i64 x.a = int i64 x.a ∧ pointer (some ⟨x_1.b, 0, none⟩) = pointer (some ⟨y_1.b, 0, none⟩) ∧ slice y.a y.n y.cap = slice y_1.r.a y_1.r.n y_1.r.cap ∧ int i64 ((↑x_1.k : Int) + (1 : Int)) = int i64 (↑y_1.k : Int) ∧ True) ∧
 Ent [(0, F), (1, Atom.cells x_1.b (chS x.c x.w) 28), (2, y.A), (7020, Atom.cells b [int i64 (↑x_1.k : Int)] 3)] [(0, F), (1, Atom.cells y_1.b (chS x.c x.w) 28), (2, y_1.r.A)] ∧ nS x.c - y_1.k < nS x.c - x_1.k)
 (((-9223372036854775808 : Int) ≤ (↑x_1.k : Int) + (1 : Int) ∧ (↑x_1.k : Int) + (1 : Int) ≤ (9223372036854775807 : Int)) ∧
 ∃ (y : RkI),
 (y.k ≤ nS x.c ∧ (isS x.c x.a = false → y.k = 0) ∧ IsRow 3 1 (ints (kidsOf x.c (4 : Int) y.k x.a.toNat)) y.r ∧ y.r.n = (kidsOf x.c (4 : Int) y.k x.a.toNat).length) ∧
 (int i64 x.a = int i64 x.a ∧ pointer (some ⟨x_1.b, 0, none⟩) = pointer (some ⟨y.b, 0, none⟩) ∧ slice x_1.r.a x_1.r.n x_1.r.cap = slice y.r.a y.r.n y.r.cap ∧ int i64 ((↑x_1.k : Int) + (1 : Int)) = int i64 (↑y.k : Int) ∧ True) ∧
 Ent [(0, F), (1, Atom.cells x_1.b (chS x.c x.w) 28), (2, x_1.r.A)] [(0, F), (1, Atom.cells y.b (chS x.c x.w) 28), (2, y.r.A)] ∧ nS x.c - y.k < nS x.c - x_1.k))
 (((-9223372036854775808 : Int) ≤ (↑x_1.k : Int) + (1 : Int) ∧ (↑x_1.k : Int) + (1 : Int) ≤ (9223372036854775807 : Int)) ∧
 ∃ (y : RkI),
 (y.k ≤ nS x.c ∧ (isS x.c x.a = false → y.k = 0) ∧ IsRow 3 1 (ints (kidsOf x.c (4 : Int) y.k x.a.toNat)) y.r ∧ y.r.n = (kidsOf x.c (4 : Int) y.k x.a.toNat).length) ∧
 (int i64 x.a = int i64 x.a ∧ pointer (some ⟨x_1.b, 0, none⟩) = pointer (some ⟨y.b, 0, none⟩) ∧ slice x_1.r.a x_1.r.n x_1.r.cap = slice y.r.a y.r.n y.r.cap ∧ int i64 ((↑x_1.k : Int) + (1 : Int)) = int i64 (↑y.k : Int) ∧ True) ∧
 Ent [(0, F), (1, Atom.cells x_1.b (chS x.c x.w) 28), (2, x_1.r.A)] [(0, F), (1, Atom.cells y.b (chS x.c x.w) 28), (2, y.r.A)] ∧ nS x.c - y.k < nS x.c - x_1.k))
 (((-9223372036854775808 : Int) ≤ (↑x_1.k : Int) + (1 : Int) ∧ (↑x_1.k : Int) + (1 : Int) ≤ (9223372036854775807 : Int)) ∧
 ∃ (y : RkI),
 (y.k ≤ nS x.c ∧ (isS x.c x.a = false → y.k = 0) ∧ IsRow 3 1 (ints (kidsOf x.c (4 : Int) y.k x.a.toNat)) y.r ∧ y.r.n = (kidsOf x.c (4 : Int) y.k x.a.toNat).length) ∧
 (int i64 x.a = int i64 x.a ∧ pointer (some ⟨x_1.b, 0, none⟩) = pointer (some ⟨y.b, 0, none⟩) ∧ slice x_1.r.a x_1.r.n x_1.r.cap = slice y.r.a y.r.n y.r.cap ∧ int i64 ((↑x_1.k : Int) + (1 : Int)) = int i64 (↑y.k : Int) ∧ True) ∧
 Ent [(0, F), (1, Atom.cells x_1.b (chS x.c x.w) 28), (2, x_1.r.A)] [(0, F), (1, Atom.cells y.b (chS x.c x.w) 28), (2, y.r.A)] ∧ nS x.c - y.k < nS x.c - x_1.k))
 (Done rKidsC x F (Ending.returned (slice x_1.r.a x_1.r.n x_1.r.cap)) [(0, F), (1, Atom.cells x_1.b (chS x.c x.w) 28), (2, x_1.r.A)]))
 (Done rKidsC x F (Ending.returned (slice x_1.r.a x_1.r.n x_1.r.cap)) [(0, F), (1, Atom.cells x_1.b (chS x.c x.w) 28), (2, x_1.r.A)]) := by
  obtain ⟨c, w, a, d⟩ := x
  replace hr : ChIn F w.v c := hr
  replace hc : nS c ≤ 1000 := hc
  have hn := hr.num.1
  intro b1
  refine ⟨⟨⟨0, b1, nilRow⟩, ⟨Nat.zero_le _, fun _ => rfl, .nil rfl, rfl⟩, ⟨rfl, rfl, rfl, rfl, trivial⟩, Ent.pick [0, 1000, 77] rfl rfl⟩, ?_⟩
  rintro ⟨k, b, r⟩ js ⟨p1, p2, p3, p4⟩
  dsimp only at p1 p2 p3 p4 ⊢
  have hkl := kidsOf_len c 4 k a.toNat
  have fin : (isS c a = true → k = nS c) → Done rKidsC ⟨c, w, a, d⟩ F (.returned (.slice r.a r.n r.cap)) [(0, F), (1, .cells b (chS c w) 28), (2, r.A)] := by
    intro h
    have e : kidsOf c 4 k a.toNat = kidV c a := by
      unfold kidV
      cases ha : isS c a with
      | true => rw [h ha]; rfl
      | false => rw [p2 ha]; rfl
    rw [e] at p3 p4
    exact ⟨⟨r, ⟨p3, p4⟩, rfl, Ent.pick [2, 0] rfl rfl⟩⟩
  refine ⟨⟨rfl, rfl⟩, br_decide (fun hlt => ?_) (fun hge => fin fun _ => by omega)⟩
  iterate 8 refine ⟨⟨rfl, rfl⟩, ?_⟩
  refine ⟨ris_ok, rfl, ⟨c, w, a, 0⟩, rfl, rfl, trivial, hr.sub (sub_rest 0 (by simp) rfl), fun _ _ => br_intro (fun q => ?_) (fun q => fin fun h => ?_)⟩
  · dsimp only at q
    have hkS : k < nS c := by omega
    obtain ⟨b0, o0, ea, hst⟩ := hr.stsAt (by omega)
    obtain ⟨s, hs⟩ := get_st hkS
    obtain ⟨rr, ⟨vk, ve, vx, vt, vd, vi, vp, rfl, -⟩, hL⟩ := hst k s hs
    have ek := kd_get hs
    have ep := pr_get hs
    obtain ⟨i, rfl, hi⟩ := isS_spec q
    rw [Int.toNat_natCast] at p3 p4 hkl
    have skip : ¬ (0 < k ∧ pr c k = i ∧ kd c k < 4) → kidsOf c 4 (k + 1) i = kidsOf c 4 k i := fun h => by
      rw [kidsOf_succ]
      have : (Nat.blt 0 k && (pr c k == (i : Int)) && decide (kd c k < 4)) = false := by
        rw [← Bool.not_eq_true]
        intro hb
        simp only [Bool.and_eq_true, Nat.blt_eq, beq_iff_eq, decide_eq_true_eq] at hb
        exact h ⟨hb.1.1, hb.1.2, hb.2⟩
      rw [this, cond_false, List.append_nil]
    have no : ¬ (0 < k ∧ pr c k = i ∧ kd c k < 4) → k + 1 ≤ nS c ∧ (isS c (i : Int) = false → k + 1 = 0) ∧ IsRow 3 1 (ints (kidsOf c 4 (k + 1) (i : Int).toNat)) r ∧ r.n = (kidsOf c 4 (k + 1) (i : Int).toNat).length := fun h => by
      rw [Int.toNat_natCast, skip h]
      exact ⟨hkS, fun h => (by rw [q] at h; cases h), p3, p4⟩
    refine ⟨⟨rfl, rfl⟩, ixq_ok 13 rfl rfl rfl rfl, ⟨b0, o0, w.vs.n, w.vs.cap, k⟩, by dsimp only; rw [ea], by dsimp only; omega, s.parent, hL 2 _ rfl, br_intro (fun q1 => ⟨⟨rfl, rfl⟩, ixq_ok 13 rfl rfl rfl rfl, ⟨b0, o0, w.vs.n, w.vs.cap, k⟩, by dsimp only; rw [ea], by dsimp only; omega, s.kind, hL 1 _ rfl, br_decide (fun q2 => br_decide (fun q3 => ?_) (fun q3 => ⟨by omega, ⟨k + 1, b, r⟩, no fun h => by omega, ⟨rfl, rfl, rfl, rfl, trivial⟩, Ent.pick [0, 1, 2] rfl rfl, by dsimp only; omega⟩)) (fun q2 => ⟨by omega, ⟨k + 1, b, r⟩, no fun h => by omega, ⟨rfl, rfl, rfl, rfl, trivial⟩, Ent.pick [0, 1, 2] rfl rfl, by dsimp only; omega⟩)⟩) (fun q1 => ⟨by omega, ⟨k + 1, b, r⟩, no fun h => ?_, ⟨rfl, rfl, rfl, rfl, trivial⟩, Ent.pick [0, 1, 2] rfl rfl, by dsimp only; omega⟩)⟩
    · have q1 : s.parent = (i : Int) := by simpa using q1
      have yes : kidsOf c 4 (k + 1) i = kidsOf c 4 k i ++ [(k : Int)] := by
        rw [kidsOf_succ]
        have : (Nat.blt 0 k && (pr c k == (i : Int)) && decide (kd c k < 4)) = true := by
          simp only [Bool.and_eq_true, Nat.blt_eq, beq_iff_eq, decide_eq_true_eq]
          omega
        rw [this]; rfl
      refine fun b3 => ⟨append_ok (P := Try.prog) 1 8 rfl rfl rfl rfl rfl rfl rfl (by decide), rfl, ⟨r, _, some ⟨b3, 0, none⟩, 1, 1, [.int .i64 k]⟩, rfl, rfl, ⟨p3, rfl, by simp [Value.oneCell'], by dsimp only; omega, by dsimp only; omega, by simp⟩, ?_, fun z hz => ⟨by omega, ⟨k + 1, b, z⟩, ⟨hkS, fun h => (by rw [q] at h; cases h), ?_, ?_⟩, ⟨rfl, rfl, rfl, rfl, trivial⟩, Ent.pick [0, 1, 2] rfl rfl, by dsimp only; omega⟩⟩
      · intro ad e
        cases e
        exact Seg.rest (j := 7020) (by simp) (Seg.cells fun j u h => by rw [Nat.zero_add]; exact h)
      · dsimp only
        rw [Int.toNat_natCast, yes, ints_append]
        exact hz.1
      · dsimp only
        rw [Int.toNat_natCast, yes, List.length_append, List.length_singleton, ← p4]
        exact hz.2.1
    · have q1 : ¬ s.parent = (i : Int) := by simpa using q1
      omega
  · dsimp only at q
    rw [q] at h; cases h
set_option maxRecDepth 100000 in
theorem rkids_ok : FnOk Try.prog 34 rKidsC :=
  fnOk (N := 45) (by kernel_rfl) Try.func34 rfl (by kernel_rfl) (fun _ => Nat.le_of_ble_eq_true rfl) rkids_H [] fun x F hc hr => Eq.mpr (by kernel_rfl) (rkids_vc x F hc hr)
def rCoC : Con where
  X := RfX
  Y := Unit
  args x := [chAgg x.c x.w, .int .i64 x.a]
  pre _ := []
  cond x := nS x.c ≤ 1000
  rdc x F := ChIn F x.w.v x.c
  rel _ _ := True
  val x _ := .returned (.bool (coB x.c x.a))
  post _ _ := []
  rmono _ _ _ h hk := hk.sub h
def rCoOv (_x : RfX) (_F : Atom) : List (Nat × Nat × OH) := [(0, 0, .n 1000), (1, 0, .q (at8 1000)), (1, 2, .c rIsC [] []), (1, 5, .q [.atj 1000]), (1, 7, .qo (ixQ 13)), (1, 9, .q [.ex 0 (.int .i64)]), (1, 13, .q (at8 1000)), (1, 15, .c rKidsC [] [77])]
noncomputable def rco_H (x : Con.X rCoC) (F : Atom) : Hints where
  op := hk ((rCoOv x F) ++ [])
  inv := (fun _ _ _ => none) x F
  cut := (fun _ _ _ => none) x F
  ord := (fun _ => [])
open Go.Value (int slice string bool pointer agg tuple func) in
open Go.IntKind (i64) in
set_option maxRecDepth 100000 in
theorem rco_vc (x : RfX) (F : Atom) (hc : Con.cond rCoC x) (hr : Con.rdc rCoC x F) :
  ∀ (b : Nat),
 Same ⟨b, 0, none⟩ b ∧
 Same ⟨b, 1, none⟩ b ∧
 Same ⟨b, 2, none⟩ b ∧
 Same ⟨b, 3, none⟩ b ∧
 Same ⟨b, 4, none⟩ b ∧
 Same ⟨b, 5, none⟩ b ∧
 Same ⟨b, 6, none⟩ b ∧
 Same ⟨b, 7, none⟩ b ∧
 FnOk Try.prog 61 rIsC ∧
 true = true ∧
 ∃ (x_1 : RfX),
 [agg { toList := (chS x.c x.w) }, int i64 x.a] = [agg { toList := (chS x_1.c x_1.w) }, int i64 x_1.a] ∧
 ([] : List Atom) = [] ∧
 True ∧
 ChIn (Atom.pred (rest [(0, F), (1000, Atom.cells b (chS x.c x.w) 28)] [])) x_1.w.v x_1.c ∧
 ∀ (y : Unit),
 True →
 Br (isS x_1.c x_1.a)
 (Same ⟨b, 3, none⟩ b ∧
 QOpOk Try.prog (opIn Try.f23 1 7) (ixQ 13) ∧
 ∃ (x_2 : IxQX),
 [slice x.w.vs.a x.w.vs.n x.w.vs.cap, int i64 x.a] = [slice (some ⟨x_2.b, x_2.o, none⟩) x_2.len x_2.cap, int i64 x_2.n] ∧
 ((0 : Int) ≤ x_2.n ∧ x_2.n < (↑x_2.len : Int)) ∧
 ∃ (n : Int),
 Look F ⟨x_2.b, x_2.o + x_2.n.toNat * 13 + 1, none⟩ (int i64 n) ∧
 Br (decide (n < (2 : Int)))
 (Same ⟨b, 0, none⟩ b ∧
 Same ⟨b, 1, none⟩ b ∧
 Same ⟨b, 2, none⟩ b ∧
 Same ⟨b, 3, none⟩ b ∧
 Same ⟨b, 4, none⟩ b ∧
 Same ⟨b, 5, none⟩ b ∧
 Same ⟨b, 6, none⟩ b ∧
 Same ⟨b, 7, none⟩ b ∧
 FnOk Try.prog 34 rKidsC ∧
 true = true ∧
 ∃ (x_3 : RfX),
 [agg { toList := (chS x.c x.w) }, int i64 x.a] = [agg { toList := (chS x_3.c x_3.w) }, int i64 x_3.a] ∧
 ([] : List Atom) = [] ∧
 nS x_3.c ≤ 1000 ∧
 ChIn (Atom.pred (rest [(0, F), (1000, Atom.cells b (chS x.c x.w) 28)] [])) x_3.w.v x_3.c ∧
 ∀ (y : Row), IsRow 3 1 (ints (kidV x_3.c x_3.a)) y ∧ y.n = (kidV x_3.c x_3.a).length → Done rCoC x F (Ending.returned (bool (decide ((↑y.n : Int) > (0 : Int))))) [(0, F), (77, y.A), (1000, Atom.cells b (chS x.c x.w) 28)])
 (Done rCoC x F (Ending.returned (bool false)) [(0, F), (1000, Atom.cells b (chS x.c x.w) 28)]))
 (Done rCoC x F (Ending.returned (bool false)) [(0, F), (1000, Atom.cells b (chS x.c x.w) 28)]) := by
  obtain ⟨c, w, a, d⟩ := x
  replace hr : ChIn F w.v c := hr
  replace hc : nS c ≤ 1000 := hc
  have hn := hr.num.1
  intro b1
  iterate 8 refine ⟨⟨rfl, rfl⟩, ?_⟩
  refine ⟨ris_ok, rfl, ⟨c, w, a, 0⟩, rfl, rfl, trivial, hr.sub (sub_rest 0 (by simp) rfl), fun _ _ => br_intro (fun q => ?_) (fun q => ⟨(), trivial, retB ?_, Ent.pick [0] rfl rfl⟩)⟩
  · dsimp only at q
    obtain ⟨i, rfl, hi⟩ := isS_spec q
    obtain ⟨b0, o0, ea, hst⟩ := hr.stsAt (by omega)
    obtain ⟨s, hs⟩ := get_st hi
    obtain ⟨rr, ⟨vk, ve, vx, vt, vd, vi, vp, rfl, -⟩, hL⟩ := hst i s hs
    have ek := kd_get hs
    have ekv : kidV c i = kidsP c i := by unfold kidV; rw [q]; rfl
    refine ⟨⟨rfl, rfl⟩, ixq_ok 13 rfl rfl rfl rfl, ⟨b0, o0, w.vs.n, w.vs.cap, i⟩, by dsimp only; rw [ea], by dsimp only; omega, s.kind, hL 1 _ rfl, br_decide (fun q1 => ?_) (fun q1 => ⟨(), trivial, retB ?_, Ent.pick [0] rfl rfl⟩)⟩
    · iterate 8 refine ⟨⟨rfl, rfl⟩, ?_⟩
      refine ⟨rkids_ok, rfl, ⟨c, w, i, 0⟩, rfl, rfl, hc, hr.sub (sub_rest 0 (by simp) rfl), fun r hr2 => ⟨(), trivial, retB ?_, Ent.pick [0] rfl rfl⟩⟩
      dsimp only at hr2 ⊢
      rw [hr2.2, ekv]
      unfold coB
      rw [q, Int.toNat_natCast, ek, decide_eq_true (show s.kind ≤ 1 by omega)]; rfl
    · dsimp only
      unfold coB
      rw [q, Int.toNat_natCast, ek, decide_eq_false (show ¬ s.kind ≤ 1 by omega)]; rfl
  · dsimp only at q ⊢
    unfold coB
    rw [q]; rfl
set_option maxRecDepth 100000 in
theorem rco_ok : FnOk Try.prog 23 rCoC :=
  fnOk (N := 24) (by kernel_rfl) Try.func23 rfl (by kernel_rfl) (fun _ => Nat.le_of_ble_eq_true rfl) rco_H [] fun x F hc hr => Eq.mpr (by kernel_rfl) (rco_vc x F hc hr)
def cmQ (c : ChD) (xs : List Int) (p : Nat) : Bool := decide (kd c p < 2) && xs.all fun a => inB c a p
def bestC (c : ChD) (xs : List Int) : Nat → Int
  | 0 => -1
  | k + 1 => bif cmQ c xs k then (k : Int) else bestC c xs k
theorem bestC_max {c : ChD} {xs : List Int} {m : Nat} (h1 : cmQ c xs m = true) : ∀ k, m < k → (∀ q, q < k → cmQ c xs q = true → q ≤ m) → bestC c xs k = m := by
  intro k
  induction k with
  | zero => intro h; omega
  | succ k ih =>
    intro h hq
    rw [bestC]
    by_cases e : k = m
    · subst e
      rw [h1]; rfl
    · cases hb : cmQ c xs k with
      | true => have := hq k (by omega) hb; omega
      | false =>
        rw [cond_false]
        exact ih (by omega) fun q h3 => hq q (by omega)
theorem bestC_no {c : ChD} {xs : List Int} : ∀ k, (∀ q, q < k → cmQ c xs q = false) → bestC c xs k = -1 := by
  intro k
  induction k with
  | zero => intro _; rfl
  | succ k ih =>
    intro hq
    rw [bestC, hq k (by omega), cond_false]
    exact ih fun q h => hq q (by omega)
theorem com_kd (c : ChD) (hp : Placed c) (xs : List Int) (h : comV c xs ≥ 0) : isS c (comV c xs) = true ∧ kd c (comV c xs).toNat ≤ 1 := by
  cases xs with
  | nil => simp [comV] at h
  | cons x r =>
    rw [comV_cons] at h ⊢
    cases hb : (x :: r).any (fun a => !isS c a) with
    | true => rw [hb, cond_true] at h; omega
    | false =>
      rw [hb, cond_false] at h
      rw [cond_false]
      rcases comL_spec c (x :: r) (abvV c x (-1)) with h1 | ⟨h1, h2⟩
      · rw [h1] at h; omega
      · refine ⟨abvV_mem hp h1, ?_⟩
        unfold comQ at h2
        simp only [Bool.and_eq_true, decide_eq_true_eq] at h2
        exact h2.1
theorem bestC_eq {c : ChD} (hp : Placed c) {xs : List Int} (hn : xs ≠ []) : bestC c xs (nS c) = comV c xs := by
  obtain ⟨g1, g2⟩ := com_ge c hp xs
  have best : ∀ q, q < nS c → cmQ c xs q = true → ((q : Int) = comV c xs ∨ inB c (comV c xs) q = true) := fun q hq h => by
    unfold cmQ at h
    simp only [Bool.and_eq_true, decide_eq_true_eq, List.all_eq_true] at h
    exact com_best c hp xs q hq hn (by omega) h.2
  by_cases h0 : comV c xs ≥ 0
  · obtain ⟨h1, h2⟩ := com_kd c hp xs h0
    obtain ⟨m, hm, hmn⟩ := isS_spec h1
    have g2 := g2 h0
    rw [hm] at h2 g2 best ⊢
    refine bestC_max ?_ _ hmn fun q hq h => ?_
    · unfold cmQ
      rw [Bool.and_eq_true, List.all_eq_true]
      rw [Int.toNat_natCast] at h2
      exact ⟨decide_eq_true (by omega), g2⟩
    · rcases best q hq h with h | h
      · omega
      · rw [inB_nat hmn hq] at h
        have := ins_lt hp hmn hq h
        omega
  · have hm : comV c xs = -1 := by omega
    rw [hm]
    refine bestC_no _ fun q hq => ?_
    rw [← Bool.not_eq_true]
    intro h
    rcases best q hq h with h | h
    · omega
    · rw [hm] at h
      obtain ⟨i, j, hi, -⟩ := inB_spec h
      omega
def rCmC : Con where
  X := LawX
  Y := Unit
  args x := [chAgg x.c x.w, .slice x.a x.n x.cap]
  pre _ := []
  cond x := Placed x.c ∧ IsSrc 1 (ints x.xs) x.a x.n ∧ x.n * 8 ≤ 140737488351232
  rdc x F := ChIn F x.w.v x.c ∧ Srcd F x.a (ints x.xs)
  rel _ _ := True
  val x _ := .returned (.int .i64 (comV x.c x.xs))
  post _ _ := []
  rmono _ _ _ h hk := ⟨hk.1.sub h, hk.2.sub h⟩
structure RcI where
  k : Nat
  b : Nat
  j : Nat
def rcA (x : LawX) (k j : Nat) : Bool := decide (kd x.c k < 2) && (x.xs.take j).all fun a => inB x.c a k
def rCmInv (x : LawX) (F : Atom) : Nat → Option Inv := fun
  | 0 => some { X := RcI, P := fun i => i.k ≤ nS x.c ∧ (x.xs = [] → i.k = 0), mu := fun i => nS x.c - i.k, lv := fun i => [(1, .slice x.a x.n x.cap), (2, .pointer (some ⟨i.b, 0, none⟩)), (5, .int .i64 (bestC x.c x.xs i.k)), (6, .int .i64 i.k)], st := fun i => [F, .cells i.b (chS x.c x.w) 28] }
  | 2 => some { X := RcI, P := fun i => i.k < nS x.c ∧ x.xs ≠ [] ∧ i.j ≤ x.n, gh := some ⟨Nat, fun i => i.k⟩, mu := fun i => x.n - i.j, lv := fun i => [(1, .slice x.a x.n x.cap), (2, .pointer (some ⟨i.b, 0, none⟩)), (5, .int .i64 (bestC x.c x.xs i.k)), (6, .int .i64 i.k), (7, .bool (rcA x i.k i.j)), (8, .int .i64 i.j)], st := fun i => [F, .cells i.b (chS x.c x.w) 28] }
  | _ => none
def rCmOv (_x : LawX) (_F : Atom) : List (Nat × Nat × OH) := [(0, 0, .n 1000), (3, 2, .q [.atj 1]), (5, 1, .q [.atj 1]), (5, 3, .qo (ixQ 13)), (5, 5, .q [.ex 0 (.int .i64)]), (9, 2, .q (at8 1)), (9, 5, .qo (ixQ 1)), (9, 6, .q [.ex 0 (.int .i64)]), (9, 8, .c rInC [] [])]
noncomputable def rcm_H (x : Con.X rCmC) (F : Atom) : Hints where
  op := hk ((rCmOv x F) ++ [])
  inv := rCmInv x F
  cut := (fun _ _ _ => none) x F
  ord := (fun _ => [])
open Go.Value (int slice string bool pointer agg tuple func) in
open Go.IntKind (i64) in
set_option maxRecDepth 100000 in
theorem rcm_vc (x : LawX) (F : Atom) (hc : Con.cond rCmC x) (hr : Con.rdc rCmC x F) :
  ∀ (b : Nat),
 (∃ (x_1 : RcI),
 (x_1.k ≤ nS x.c ∧ (x.xs = [] → x_1.k = 0)) ∧
 (slice x.a x.n x.cap = slice x.a x.n x.cap ∧ pointer (some ⟨b, 0, none⟩) = pointer (some ⟨x_1.b, 0, none⟩) ∧ int i64 (-1 : Int) = int i64 (bestC x.c x.xs x_1.k) ∧ int i64 (0 : Int) = int i64 (↑x_1.k : Int) ∧ True) ∧
 Ent [(0, F), (1000, Atom.cells b (chS x.c x.w) 28)] [(0, F), (1, Atom.cells x_1.b (chS x.c x.w) 28)]) ∧
 ∀ (x_1 : RcI) (js : Nat → Value),
 x_1.k ≤ nS x.c ∧ (x.xs = [] → x_1.k = 0) →
 Same ⟨x_1.b, 3, none⟩ x_1.b ∧
 Br (decide ((↑x_1.k : Int) < (↑x.w.vs.n : Int)))
 (Br (decide ((↑x.n : Int) > (0 : Int)))
 (Same ⟨x_1.b, 3, none⟩ x_1.b ∧
 QOpOk Try.prog (opIn Try.f25 5 3) (ixQ 13) ∧
 ∃ (x_2 : IxQX),
 [slice x.w.vs.a x.w.vs.n x.w.vs.cap, int i64 (↑x_1.k : Int)] = [slice (some ⟨x_2.b, x_2.o, none⟩) x_2.len x_2.cap, int i64 x_2.n] ∧
 ((0 : Int) ≤ x_2.n ∧ x_2.n < (↑x_2.len : Int)) ∧
 ∃ (n : Int),
 Look F ⟨x_2.b, x_2.o + x_2.n.toNat * 13 + 1, none⟩ (int i64 n) ∧
 ∃ (n_1 : Nat),
 (∃ (x_3 : RcI),
 ((x_3.k < nS x.c ∧ x.xs ≠ [] ∧ x_3.j ≤ x.n) ∧ x_3.k = n_1) ∧
 (slice x.a x.n x.cap = slice x.a x.n x.cap ∧ pointer (some ⟨x_1.b, 0, none⟩) = pointer (some ⟨x_3.b, 0, none⟩) ∧ int i64 (bestC x.c x.xs x_1.k) = int i64 (bestC x.c x.xs x_3.k) ∧ int i64 (↑x_1.k : Int) = int i64 (↑x_3.k : Int) ∧ bool (decide (n < (2 : Int))) = bool (rcA x x_3.k x_3.j) ∧ int i64 (0 : Int) = int i64 (↑x_3.j : Int) ∧ True) ∧
 Ent [(0, F), (1, Atom.cells x_1.b (chS x.c x.w) 28)] [(0, F), (1, Atom.cells x_3.b (chS x.c x.w) 28)]) ∧
 ∀ (x_3 : RcI) (js : Nat → Value),
 (x_3.k < nS x.c ∧ x.xs ≠ [] ∧ x_3.j ≤ x.n) ∧ x_3.k = n_1 →
 Br (decide ((↑x_3.j : Int) < (↑x.n : Int)))
 (true = true ∧
 Br (rcA x x_3.k x_3.j)
 (Same ⟨x_3.b, 0, none⟩ x_3.b ∧
 Same ⟨x_3.b, 1, none⟩ x_3.b ∧
 Same ⟨x_3.b, 2, none⟩ x_3.b ∧
 Same ⟨x_3.b, 3, none⟩ x_3.b ∧
 Same ⟨x_3.b, 4, none⟩ x_3.b ∧
 Same ⟨x_3.b, 5, none⟩ x_3.b ∧
 Same ⟨x_3.b, 6, none⟩ x_3.b ∧
 Same ⟨x_3.b, 7, none⟩ x_3.b ∧
 QOpOk Try.prog (opIn Try.f25 9 5) (ixQ 1) ∧
 ∃ (x_4 : IxQX),
 [slice x.a x.n x.cap, int i64 (↑x_3.j : Int)] = [slice (some ⟨x_4.b, x_4.o, none⟩) x_4.len x_4.cap, int i64 x_4.n] ∧
 ((0 : Int) ≤ x_4.n ∧ x_4.n < (↑x_4.len : Int)) ∧
 ∃ (n : Int),
 Look F ⟨x_4.b, x_4.o + x_4.n.toNat * 1, none⟩ (int i64 n) ∧
 FnOk Try.prog 19 rInC ∧
 true = true ∧
 ∃ (x_5 : RfX),
 [agg { toList := (chS x.c x.w) }, int i64 n, int i64 (↑x_3.k : Int)] = [agg { toList := (chS x_5.c x_5.w) }, int i64 x_5.a, int i64 x_5.d] ∧
 ([] : List Atom) = [] ∧
 Placed x_5.c ∧
 ChIn (Atom.pred (rest [(0, F), (1, Atom.cells x_3.b (chS x.c x.w) 28)] [])) x_5.w.v x_5.c ∧
 ∀ (y : Unit),
 True →
 ((-9223372036854775808 : Int) ≤ (↑x_3.j : Int) + (1 : Int) ∧ (↑x_3.j : Int) + (1 : Int) ≤ (9223372036854775807 : Int)) ∧
 ∃ (y : RcI),
 ((y.k < nS x.c ∧ x.xs ≠ [] ∧ y.j ≤ x.n) ∧ y.k = n_1) ∧
 (slice x.a x.n x.cap = slice x.a x.n x.cap ∧ pointer (some ⟨x_3.b, 0, none⟩) = pointer (some ⟨y.b, 0, none⟩) ∧ int i64 (bestC x.c x.xs x_3.k) = int i64 (bestC x.c x.xs y.k) ∧ int i64 (↑x_3.k : Int) = int i64 (↑y.k : Int) ∧ bool (inB x_5.c x_5.a x_5.d) = bool (rcA x y.k y.j) ∧ int i64 ((↑x_3.j : Int) + (1 : Int)) = int i64 (↑y.j : Int) ∧ True) ∧
 Ent [(0, F), (1, Atom.cells x_3.b (chS x.c x.w) 28)] [(0, F), (1, Atom.cells y.b (chS x.c x.w) 28)] ∧ x.n - y.j < x.n - x_3.j)
 (((-9223372036854775808 : Int) ≤ (↑x_3.j : Int) + (1 : Int) ∧ (↑x_3.j : Int) + (1 : Int) ≤ (9223372036854775807 : Int)) ∧
 ∃ (y : RcI),
 ((y.k < nS x.c ∧ x.xs ≠ [] ∧ y.j ≤ x.n) ∧ y.k = n_1) ∧
 (slice x.a x.n x.cap = slice x.a x.n x.cap ∧ pointer (some ⟨x_3.b, 0, none⟩) = pointer (some ⟨y.b, 0, none⟩) ∧ int i64 (bestC x.c x.xs x_3.k) = int i64 (bestC x.c x.xs y.k) ∧ int i64 (↑x_3.k : Int) = int i64 (↑y.k : Int) ∧ bool false = bool (rcA x y.k y.j) ∧ int i64 ((↑x_3.j : Int) + (1 : Int)) = int i64 (↑y.j : Int) ∧ True) ∧
 Ent [(0, F), (1, Atom.cells x_3.b (chS x.c x.w) 28)] [(0, F), (1, Atom.cells y.b (chS x.c x.w) 28)] ∧ x.n - y.j < x.n - x_3.j))
 (Br (rcA x x_3.k x_3.j)
 (((-9223372036854775808 : Int) ≤ (↑x_3.k : Int) + (1 : Int) ∧ (↑x_3.k : Int) + (1 : Int) ≤ (9223372036854775807 : Int)) ∧
 ∃ (y : RcI),
 (y.k ≤ nS x.c ∧ (x.xs = [] → y.k = 0)) ∧
 (slice x.a x.n x.cap = slice x.a x.n x.cap ∧ pointer (some ⟨x_3.b, 0, none⟩) = pointer (some ⟨y.b, 0, none⟩) ∧ int i64 (↑x_3.k : Int) = int i64 (bestC x.c x.xs y.k) ∧ int i64 ((↑x_3.k : Int) + (1 : Int)) = int i64 (↑y.k : Int) ∧ True) ∧
 Ent [(0, F), (1, Atom.cells x_3.b (chS x.c x.w) 28)] [(0, F), (1, Atom.cells y.b (chS x.c x.w) 28)] ∧ nS x.c - y.k < nS x.c - x_1.k)
 (((-9223372036854775808 : Int) ≤ (↑x_3.k : Int) + (1 : Int) ∧ (↑x_3.k : Int) + (1 : Int) ≤ (9223372036854775807 : Int)) ∧
 ∃ (y : RcI),
 (y.k ≤ nS x.c ∧ (x.xs = [] → y.k = 0)) ∧
 (slice x.a x.n x.cap = slice x.a x.n x.cap ∧ pointer (some ⟨x_3.b, 0, none⟩) = pointer (some ⟨y.b, 0, none⟩) ∧ int i64 (bestC x.c x.xs x_3.k) = int i64 (bestC x.c x.xs y.k) ∧ int i64 ((↑x_3.k : Int) + (1 : Int)) = int i64 (↑y.k : Int) ∧ True) ∧
 Ent [(0, F), (1, Atom.cells x_3.b (chS x.c x.w) 28)] [(0, F), (1, Atom.cells y.b (chS x.c x.w) 28)] ∧ nS x.c - y.k < nS x.c - x_1.k)))
 (Done rCmC x F (Ending.returned (int i64 (bestC x.c x.xs x_1.k))) [(0, F), (1, Atom.cells x_1.b (chS x.c x.w) 28)]))
 (Done rCmC x F (Ending.returned (int i64 (bestC x.c x.xs x_1.k))) [(0, F), (1, Atom.cells x_1.b (chS x.c x.w) 28)]) := by
  obtain ⟨c, w, a, n, cap, xs⟩ := x
  obtain ⟨hp, hsrc, hle⟩ := hc
  obtain ⟨hr, hx⟩ := hr
  dsimp only at hp hsrc hle hx
  replace hr : ChIn F w.v c := hr
  have hlen : xs.length = n := by have := hsrc.len; rw [ints_length] at this; omega
  have hn2 := hp.n2
  have hn128 := hp.n128
  obtain ⟨b0, o0, ea, hst⟩ := hr.stsAt (by omega)
  have hn := hr.num.1
  have look : ∀ (b o i : Nat) (u : Int), a = some ⟨b, o, none⟩ → xs[i]? = some u → Look F ⟨b, o + (i : Int).toNat * 1, none⟩ (.int .i64 u) := by
    intro b o i u e hu
    subst e
    have : o + (i : Int).toNat * 1 = o + i := by omega
    rw [this]
    exact hx.look (ints_get hu)
  refine fun b1 => ⟨⟨⟨0, b1, 0⟩, ⟨Nat.zero_le _, fun _ => rfl⟩, ⟨rfl, rfl, rfl, rfl, trivial⟩, Ent.pick [0, 1000] rfl rfl⟩, ?_⟩
  clear b1
  rintro ⟨k, b1, j0⟩ js ⟨hk, hk0⟩
  dsimp only at hk hk0 ⊢
  refine ⟨⟨rfl, rfl⟩, br_decide (fun hlt => br_decide (fun hn0 => ?_) (fun hn0 => ⟨(), trivial, retI ?_, Ent.pick [0] rfl rfl⟩)) (fun hge => ⟨(), trivial, retI ?_, Ent.pick [0] rfl rfl⟩)⟩
  · have hkS : k < nS c := by omega
    have hne : xs ≠ [] := fun e => by rw [e] at hlen; simp at hlen; omega
    obtain ⟨s, hs⟩ := get_st hkS
    obtain ⟨r, ⟨vk, ve, vx, vt, vd, vi, vp, rfl, -⟩, hL⟩ := hst k s hs
    have ek := kd_get hs
    refine ⟨⟨rfl, rfl⟩, ixq_ok 13 rfl rfl rfl rfl, ⟨b0, o0, w.vs.n, w.vs.cap, k⟩, by dsimp only; rw [ea], by dsimp only; omega, s.kind, hL 1 _ rfl, k, ⟨⟨k, b1, 0⟩, ⟨⟨hkS, hne, Nat.zero_le _⟩, rfl⟩, ⟨rfl, rfl, rfl, rfl, ?_, rfl, trivial⟩, Ent.pick [0, 1] rfl rfl⟩, ?_⟩
    · unfold rcA
      dsimp only
      rw [ek, List.take_zero]; simp
    clear b1
    rintro ⟨k2, b1, j⟩ js2 ⟨⟨_, _, hj⟩, hkk⟩
    dsimp only at hj hkk ⊢
    subst hkk
    refine br_decide (fun hlt2 => ?_) (fun hge2 => ?_)
    · obtain ⟨u, hu⟩ : ∃ u, xs[j]? = some u := ⟨_, List.getElem?_eq_getElem (by omega)⟩
      obtain ⟨b2, o2, e2⟩ := hsrc.some (by omega)
      have step : rcA ⟨c, w, a, n, cap, xs⟩ k2 (j + 1) = (rcA ⟨c, w, a, n, cap, xs⟩ k2 j && inB c u k2) := by
        unfold rcA
        dsimp only
        rw [take_g hu, List.all_append]
        simp [Bool.and_assoc]
      refine ⟨rfl, br_intro (fun q => ?_) (fun q => ⟨by omega, ⟨k2, b1, j + 1⟩, ⟨⟨hkS, hne, by dsimp only; omega⟩, rfl⟩, ⟨rfl, rfl, rfl, rfl, ?_, rfl, trivial⟩, Ent.pick [0, 1] rfl rfl, by dsimp only; omega⟩)⟩
      · iterate 8 refine ⟨⟨rfl, rfl⟩, ?_⟩
        refine ⟨ixq_ok 1 rfl rfl rfl rfl, ⟨b2, o2, n, cap, j⟩, by rw [e2], by dsimp only; omega, u, look b2 o2 j u e2 hu, rin_ok, rfl, ⟨c, w, u, k2⟩, rfl, rfl, hp, hr.sub (sub_rest 0 (by simp) rfl), fun _ _ => ⟨by omega, ⟨k2, b1, j + 1⟩, ⟨⟨hkS, hne, by dsimp only; omega⟩, rfl⟩, ⟨rfl, rfl, rfl, rfl, ?_, rfl, trivial⟩, Ent.pick [0, 1] rfl rfl, by dsimp only; omega⟩⟩
        rw [step, q, Bool.true_and]
      · rw [step, q, Bool.false_and]
    · have hjn : j = xs.length := by omega
      have eq : rcA ⟨c, w, a, n, cap, xs⟩ k2 j = cmQ c xs k2 := by
        unfold rcA cmQ
        dsimp only
        rw [hjn, List.take_length]
      refine br_intro (fun q => ⟨by omega, ⟨k2 + 1, b1, 0⟩, ⟨by dsimp only; omega, fun h => absurd h hne⟩, ⟨rfl, rfl, ?_, rfl, trivial⟩, Ent.pick [0, 1] rfl rfl, by dsimp only; omega⟩) (fun q => ⟨by omega, ⟨k2 + 1, b1, 0⟩, ⟨by dsimp only; omega, fun h => absurd h hne⟩, ⟨rfl, rfl, ?_, rfl, trivial⟩, Ent.pick [0, 1] rfl rfl, by dsimp only; omega⟩)
      · dsimp only
        rw [bestC, ← eq, q]; rfl
      · dsimp only
        rw [bestC, ← eq, q]; rfl
  · have hxs : xs = [] := List.eq_nil_of_length_eq_zero (by omega)
    dsimp only
    rw [hk0 hxs, hxs]; rfl
  · dsimp only
    by_cases hxs : xs = []
    · rw [hk0 hxs, hxs]; rfl
    · rw [show k = nS c by omega]
      exact bestC_eq hp hxs
set_option maxRecDepth 100000 in
theorem rcm_ok : FnOk Try.prog 25 rCmC :=
  fnOk (N := 47) (by kernel_rfl) Try.func25 rfl (by kernel_rfl) (fun _ => Nat.le_of_ble_eq_true rfl) rcm_H [] fun x F hc hr => Eq.mpr (by kernel_rfl) (rcm_vc x F hc hr)
end Go.Proofs.Ytkmdgnbfojkcnaa
