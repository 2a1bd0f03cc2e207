/- The document's answers: Domain, Exit, Conflict. -/
import Derived.Test.YtkmdgnbfojkcnaaChoU
set_option linter.all false
namespace Go.Proofs.Ytkmdgnbfojkcnaa
open Go
set_option maxHeartbeats 1000000
theorem domP_nn {c : ChD} (h : newB c = true) {mem : List (List Int)} {t : Int} (hd : (domP c mem t).2 = true) : 0 ≤ (domP c mem t).1 := by
  unfold domP at hd ⊢
  cases hg : (goalsV c mem t).isEmpty with
  | true => rw [hg] at hd; cases hd
  | false =>
    rw [cond_false]
    have hT : isT c t = true := by
      cases h1 : isT c t with
      | true => rfl
      | false => unfold goalsV at hg; rw [h1] at hg; simp at hg
    obtain ⟨q, rfl, hq⟩ := isT_spec hT
    cases (intT c q && coB c (srcT c q)) && !((goalsV c mem q).any fun s => !inB c s (srcT c q)) with
    | true =>
      rw [cond_true]
      obtain ⟨tt, ht⟩ : ∃ tt, c.trs[q]? = some tt := ⟨_, List.getElem?_eq_getElem hq⟩
      have hsrc : srcT c q = tt.source := by unfold srcT; rw [Int.toNat_natCast, ht]; rfl
      have := isS_rng (right_src h ht)
      dsimp only
      omega
    | false =>
      rw [cond_false]
      dsimp only
      split <;> omega
def domR (c : ChD) (mem : List (List Int)) (t : Int) : Int := bif (domP c mem t).2 then (domP c mem t).1 else -1
def drC : Con where
  X := RmR
  Y := Unit
  args x := [chAgg x.c x.w, .slice x.m.a x.m.n x.m.cap, .int .i64 x.h]
  pre _ := []
  cond x := newB x.c = true
  rdc x F := ChIn F x.w.v x.c ∧ MemIn F (.slice x.m.a x.m.n x.m.cap) x.mem
  rel _ _ := True
  val x _ := .returned (.int .i64 (domR x.c x.mem x.h))
  post _ _ := []
  rmono _ _ _ h hk := ⟨hk.1.sub h, hk.2.sub h⟩
structure DrI where
  i : Nat
  b : Nat
  b8 : Nat
  tt : TrD
  ve : Sl
  vt : Sl
  r : Row
def trS (tt : TrD) (ve vt : Sl) : List Value := [.int .i64 tt.source, .slice ve.a ve.n ve.cap, .string tt.cond, .slice vt.a vt.n vt.cap, .bool tt.internal, .int .i64 tt.block]
structure DrP (x : RmR) (F : Atom) (i : DrI) : Prop where
  t : isT x.c x.h = true
  tt : x.c.trs[x.h.toNat]? = some i.tt
  ne : goalsV x.c x.mem x.h ≠ []
  row : IsRow 3 1 (ints (goalsV x.c x.mem x.h)) i.r
  le : i.i ≤ (goalsV x.c x.mem x.h).length
def drInv (x : RmR) (F : Atom) : Nat → Option Inv := fun
  | 0 => some { X := DrI, P := fun i => DrP x F i, mu := fun i => (goalsV x.c x.mem x.h).length - i.i, lv := fun i => [(3, .pointer (some ⟨i.b, 0, none⟩)), (7, .slice i.r.a i.r.n i.r.cap), (8, .pointer (some ⟨i.b8, 0, none⟩)), (9, .bool ((i.tt.internal && coB x.c i.tt.source) && ((goalsV x.c x.mem x.h).take i.i).all fun s => inB x.c s i.tt.source)), (10, .int .i64 i.i)], st := fun i => [.cells i.b (chS x.c x.w) 28, .cells i.b8 (trS i.tt i.ve i.vt) 76, i.r.A, F] }
  | _ => none
def drCut (x : RmR) (F : Atom) : Nat → Option Inv := fun
  | 6 => some { X := DrI, P := fun i => DrP x F i, mu := fun _ => 0, lv := fun i => [(3, .pointer (some ⟨i.b, 0, none⟩)), (7, .slice i.r.a i.r.n i.r.cap), (8, .pointer (some ⟨i.b8, 0, none⟩)), (9, .bool (i.tt.internal && coB x.c i.tt.source))], st := fun i => [.cells i.b (chS x.c x.w) 28, .cells i.b8 (trS i.tt i.ve i.vt) 76, i.r.A, F] }
  | _ => none
def drOv (_x : RmR) (_F : Atom) : List (Nat × Nat × OH) := [(0, 0, .n 1000), (1, 0, .q (at8 1000)), (1, 3, .c glC [] [2030]), (4, 1, .q [.atj 1000]), (4, 3, .qo (ixQ 6)), (4, 4, .q sh6d), (4, 5, .n 5050), (4, 6, .w (at6 5050)), (5, 1, .q [.atj 5050]), (5, 3, .q (at8 1000)), (5, 5, .q [.atj 5050]), (5, 6, .c rCoC [] []), (9, 2, .q (at8 0)), (9, 5, .qo (ixQ 1)), (9, 6, .q [.ex 2 (.int .i64)]), (9, 8, .q [.atj 1]), (9, 9, .c rInC [] []), (11, 1, .q [.atj 1]), (12, 0, .q (at8 0)), (12, 2, .q [.atj 1]), (12, 3, .n 13030), (12, 5, .o (apC 3 1 8) [13030] [13050]), (12, 6, .c rCmC [] []), (12, 7, .qo maxQ)]
noncomputable def dr_H (x : Con.X drC) (F : Atom) : Hints where
  op := hk ((drOv x F) ++ [])
  inv := drInv x F
  cut := drCut x F
  ord := (fun _ => [])
open Go.Value (int slice string bool pointer agg tuple func) in
open Go.IntKind (i64) in
set_option maxRecDepth 100000 in
theorem dr_vc (x : RmR) (F : Atom) (hc : Con.cond drC x) (hr : Con.rdc drC x F) :
  ∀ (b : Nat),
 Same ⟨b, 0, none⟩ b ∧
 Same ⟨b, 1, none⟩ b ∧
 Same ⟨b, 2, none⟩ b ∧
 Same ⟨b, 3, none⟩ b ∧
 Same ⟨b, 4, none⟩ b ∧
 Same ⟨b, 5, none⟩ b ∧
 Same ⟨b, 6, none⟩ b ∧
 Same ⟨b, 7, none⟩ b ∧
 FnOk Try.prog 121 glC ∧
 true = true ∧
 ∃ (x_1 : RmR),
 [agg { toList := (chS x.c x.w) }, slice x.m.a x.m.n x.m.cap, int i64 x.h] = [agg { toList := (chS x_1.c x_1.w) }, slice x_1.m.a x_1.m.n x_1.m.cap, int i64 x_1.h] ∧
 ([] : List Atom) = [] ∧
 newB x_1.c = true ∧
 (ChIn (Atom.pred (rest [(0, F), (1000, Atom.cells b (chS x.c x.w) 28)] [])) x_1.w.v x_1.c ∧ MemIn (Atom.pred (rest [(0, F), (1000, Atom.cells b (chS x.c x.w) 28)] [])) (slice x_1.m.a x_1.m.n x_1.m.cap) x_1.mem) ∧
 ∀ (y : Row),
 IsRow 3 1 (ints (goalsV x_1.c x_1.mem x_1.h)) y →
 Br ((↑y.n : Int) == (0 : Int)) (Done drC x F (Ending.returned (int i64 (-1 : Int))) [(0, F), (1000, Atom.cells b (chS x.c x.w) 28), (2030, y.A)])
 (Same ⟨b, 4, none⟩ b ∧
 QOpOk Try.prog (opIn Try.f106 4 3) (ixQ 6) ∧
 ∃ (x_2 : IxQX),
 [slice x.w.vt.a x.w.vt.n x.w.vt.cap, int i64 x.h] = [slice (some ⟨x_2.b, x_2.o, none⟩) x_2.len x_2.cap, int i64 x_2.n] ∧
 ((0 : Int) ≤ x_2.n ∧ x_2.n < (↑x_2.len : Int)) ∧
 ∃ (n : Int),
 Look F ⟨x_2.b, x_2.o + x_2.n.toNat * 6, none⟩ (int i64 n) ∧
 ∃ (a : Option Addr),
 ∃ (l : Nat),
 ∃ (c : Nat),
 Look F ⟨x_2.b, x_2.o + x_2.n.toNat * 6 + 1, none⟩ (slice a l c) ∧
 ∃ (s : ByteArray),
 Look F ⟨x_2.b, x_2.o + x_2.n.toNat * 6 + 2, none⟩ (string s) ∧
 ∃ (a_1 : Option Addr),
 ∃ (l_1 : Nat),
 ∃ (c_1 : Nat),
 Look F ⟨x_2.b, x_2.o + x_2.n.toNat * 6 + 3, none⟩ (slice a_1 l_1 c_1) ∧
 ∃ (b_1 : Bool),
 Look F ⟨x_2.b, x_2.o + x_2.n.toNat * 6 + 4, none⟩ (bool b_1) ∧
 ∃ (n_1 : Int),
 Look F ⟨x_2.b, x_2.o + x_2.n.toNat * 6 + 5, none⟩ (int i64 n_1) ∧
 ∀ (b_2 : Nat),
 Same ⟨b_2, 0, none⟩ b_2 ∧
 Same ⟨b_2, 1, none⟩ b_2 ∧
 Same ⟨b_2, 2, none⟩ b_2 ∧
 Same ⟨b_2, 3, none⟩ b_2 ∧
 Same ⟨b_2, 4, none⟩ b_2 ∧
 Same ⟨b_2, 5, none⟩ b_2 ∧
 (Same ⟨b_2, 4, none⟩ b_2 ∧
 Br b_1
 (Same ⟨b, 0, none⟩ b ∧
 Same ⟨b, 1, none⟩ b ∧
 Same ⟨b, 2, none⟩ b ∧
 Same ⟨b, 3, none⟩ b ∧
 Same ⟨b, 4, none⟩ b ∧
 Same ⟨b, 5, none⟩ b ∧
 Same ⟨b, 6, none⟩ b ∧
 Same ⟨b, 7, none⟩ b ∧
 Same ⟨b_2, 0, none⟩ b_2 ∧
 FnOk Try.prog 23 rCoC ∧
 true = true ∧
 ∃ (x_3 : RfX),
 [agg { toList := (chS x.c x.w) }, int i64 n] = [agg { toList := (chS x_3.c x_3.w) }, int i64 x_3.a] ∧
 ([] : List Atom) = [] ∧
 nS x_3.c ≤ 1000 ∧
 ChIn (Atom.pred (rest [(0, F), (1000, Atom.cells b (chS x.c x.w) 28), (2030, y.A), (5050, Atom.cells b_2 [int i64 n, slice a l c, string s, slice a_1 l_1 c_1, bool b_1, int i64 n_1] 76)] [])) x_3.w.v x_3.c ∧
 ∀ (y_1 : Unit),
 True →
 ∃ (x_4 : DrI),
 DrP x F x_4 ∧
 (pointer (some ⟨b, 0, none⟩) = pointer (some ⟨x_4.b, 0, none⟩) ∧ slice y.a y.n y.cap = slice x_4.r.a x_4.r.n x_4.r.cap ∧ pointer (some ⟨b_2, 0, none⟩) = pointer (some ⟨x_4.b8, 0, none⟩) ∧ bool (coB x_3.c x_3.a) = bool (x_4.tt.internal && coB x.c x_4.tt.source) ∧ True) ∧
 Ent [(0, F), (1000, Atom.cells b (chS x.c x.w) 28), (2030, y.A), (5050, Atom.cells b_2 [int i64 n, slice a l c, string s, slice a_1 l_1 c_1, bool b_1, int i64 n_1] 76)]
 [(0, Atom.cells x_4.b (chS x.c x.w) 28), (1, Atom.cells x_4.b8 [int i64 x_4.tt.source, slice x_4.ve.a x_4.ve.n x_4.ve.cap, string x_4.tt.cond, slice x_4.vt.a x_4.vt.n x_4.vt.cap, bool x_4.tt.internal, int i64 x_4.tt.block] 76), (2, x_4.r.A), (3, F)])
 (∃ (x_3 : DrI),
 DrP x F x_3 ∧
 (pointer (some ⟨b, 0, none⟩) = pointer (some ⟨x_3.b, 0, none⟩) ∧ slice y.a y.n y.cap = slice x_3.r.a x_3.r.n x_3.r.cap ∧ pointer (some ⟨b_2, 0, none⟩) = pointer (some ⟨x_3.b8, 0, none⟩) ∧ bool false = bool (x_3.tt.internal && coB x.c x_3.tt.source) ∧ True) ∧
 Ent [(0, F), (1000, Atom.cells b (chS x.c x.w) 28), (2030, y.A), (5050, Atom.cells b_2 [int i64 n, slice a l c, string s, slice a_1 l_1 c_1, bool b_1, int i64 n_1] 76)]
 [(0, Atom.cells x_3.b (chS x.c x.w) 28), (1, Atom.cells x_3.b8 [int i64 x_3.tt.source, slice x_3.ve.a x_3.ve.n x_3.ve.cap, string x_3.tt.cond, slice x_3.vt.a x_3.vt.n x_3.vt.cap, bool x_3.tt.internal, int i64 x_3.tt.block] 76), (2, x_3.r.A), (3, F)])) ∧
 ∀ (x_3 : DrI) (js : Nat → Value),
 DrP x F x_3 →
 (∃ (x_4 : DrI),
 DrP x F x_4 ∧
 (pointer (some ⟨x_3.b, 0, none⟩) = pointer (some ⟨x_4.b, 0, none⟩) ∧ slice x_3.r.a x_3.r.n x_3.r.cap = slice x_4.r.a x_4.r.n x_4.r.cap ∧ pointer (some ⟨x_3.b8, 0, none⟩) = pointer (some ⟨x_4.b8, 0, none⟩) ∧ bool (x_3.tt.internal && coB x.c x_3.tt.source) = bool (x_4.tt.internal && coB x.c x_4.tt.source && (List.take x_4.i (goalsV x.c x.mem x.h)).all fun (s : Int) => inB x.c s x_4.tt.source) ∧ int i64 (0 : Int) = int i64 (↑x_4.i : Int) ∧ True) ∧
 Ent [(0, Atom.cells x_3.b (chS x.c x.w) 28), (1, Atom.cells x_3.b8 [int i64 x_3.tt.source, slice x_3.ve.a x_3.ve.n x_3.ve.cap, string x_3.tt.cond, slice x_3.vt.a x_3.vt.n x_3.vt.cap, bool x_3.tt.internal, int i64 x_3.tt.block] 76), (2, x_3.r.A), (3, F)]
 [(0, Atom.cells x_4.b (chS x.c x.w) 28), (1, Atom.cells x_4.b8 [int i64 x_4.tt.source, slice x_4.ve.a x_4.ve.n x_4.ve.cap, string x_4.tt.cond, slice x_4.vt.a x_4.vt.n x_4.vt.cap, bool x_4.tt.internal, int i64 x_4.tt.block] 76), (2, x_4.r.A), (3, F)]) ∧
 ∀ (x_4 : DrI) (js : Nat → Value),
 DrP x F x_4 →
 Br (decide ((↑x_4.i : Int) < (↑x_4.r.n : Int)))
 (true = true ∧
 Br (x_4.tt.internal && coB x.c x_4.tt.source && (List.take x_4.i (goalsV x.c x.mem x.h)).all fun (s : Int) => inB x.c s x_4.tt.source)
 (Same ⟨x_4.b, 0, none⟩ x_4.b ∧
 Same ⟨x_4.b, 1, none⟩ x_4.b ∧
 Same ⟨x_4.b, 2, none⟩ x_4.b ∧
 Same ⟨x_4.b, 3, none⟩ x_4.b ∧
 Same ⟨x_4.b, 4, none⟩ x_4.b ∧
 Same ⟨x_4.b, 5, none⟩ x_4.b ∧
 Same ⟨x_4.b, 6, none⟩ x_4.b ∧
 Same ⟨x_4.b, 7, none⟩ x_4.b ∧
 QOpOk Try.prog (opIn Try.f106 9 5) (ixQ 1) ∧
 ∃ (x_5 : IxQX),
 [slice x_4.r.a x_4.r.n x_4.r.cap, int i64 (↑x_4.i : Int)] = [slice (some ⟨x_5.b, x_5.o, none⟩) x_5.len x_5.cap, int i64 x_5.n] ∧
 ((0 : Int) ≤ x_5.n ∧ x_5.n < (↑x_5.len : Int)) ∧
 ∃ (n : Int),
 Look x_4.r.A ⟨x_5.b, x_5.o + x_5.n.toNat * 1, none⟩ (int i64 n) ∧
 Same ⟨x_4.b8, 0, none⟩ x_4.b8 ∧
 FnOk Try.prog 19 rInC ∧
 true = true ∧
 ∃ (x_6 : RfX),
 [agg { toList := (chS x.c x.w) }, int i64 n, int i64 x_4.tt.source] = [agg { toList := (chS x_6.c x_6.w) }, int i64 x_6.a, int i64 x_6.d] ∧
 ([] : List Atom) = [] ∧
 Placed x_6.c ∧
 ChIn (Atom.pred (rest [(0, Atom.cells x_4.b (chS x.c x.w) 28), (1, Atom.cells x_4.b8 [int i64 x_4.tt.source, slice x_4.ve.a x_4.ve.n x_4.ve.cap, string x_4.tt.cond, slice x_4.vt.a x_4.vt.n x_4.vt.cap, bool x_4.tt.internal, int i64 x_4.tt.block] 76), (2, x_4.r.A), (3, F)] [])) x_6.w.v x_6.c ∧
 ∀ (y : Unit),
 True →
 ((-9223372036854775808 : Int) ≤ (↑x_4.i : Int) + (1 : Int) ∧ (↑x_4.i : Int) + (1 : Int) ≤ (9223372036854775807 : Int)) ∧
 ∃ (y : DrI),
 DrP x F y ∧
 (pointer (some ⟨x_4.b, 0, none⟩) = pointer (some ⟨y.b, 0, none⟩) ∧ slice x_4.r.a x_4.r.n x_4.r.cap = slice y.r.a y.r.n y.r.cap ∧ pointer (some ⟨x_4.b8, 0, none⟩) = pointer (some ⟨y.b8, 0, none⟩) ∧ bool (inB x_6.c x_6.a x_6.d) = bool (y.tt.internal && coB x.c y.tt.source && (List.take y.i (goalsV x.c x.mem x.h)).all fun (s : Int) => inB x.c s y.tt.source) ∧ int i64 ((↑x_4.i : Int) + (1 : Int)) = int i64 (↑y.i : Int) ∧ True) ∧
 Ent [(0, Atom.cells x_4.b (chS x.c x.w) 28), (1, Atom.cells x_4.b8 [int i64 x_4.tt.source, slice x_4.ve.a x_4.ve.n x_4.ve.cap, string x_4.tt.cond, slice x_4.vt.a x_4.vt.n x_4.vt.cap, bool x_4.tt.internal, int i64 x_4.tt.block] 76), (2, x_4.r.A), (3, F)]
 [(0, Atom.cells y.b (chS x.c x.w) 28), (1, Atom.cells y.b8 [int i64 y.tt.source, slice y.ve.a y.ve.n y.ve.cap, string y.tt.cond, slice y.vt.a y.vt.n y.vt.cap, bool y.tt.internal, int i64 y.tt.block] 76), (2, y.r.A), (3, F)] ∧
 (goalsV x.c x.mem x.h).length - y.i < (goalsV x.c x.mem x.h).length - x_4.i)
 (((-9223372036854775808 : Int) ≤ (↑x_4.i : Int) + (1 : Int) ∧ (↑x_4.i : Int) + (1 : Int) ≤ (9223372036854775807 : Int)) ∧
 ∃ (y : DrI),
 DrP x F y ∧
 (pointer (some ⟨x_4.b, 0, none⟩) = pointer (some ⟨y.b, 0, none⟩) ∧ slice x_4.r.a x_4.r.n x_4.r.cap = slice y.r.a y.r.n y.r.cap ∧ pointer (some ⟨x_4.b8, 0, none⟩) = pointer (some ⟨y.b8, 0, none⟩) ∧ bool false = bool (y.tt.internal && coB x.c y.tt.source && (List.take y.i (goalsV x.c x.mem x.h)).all fun (s : Int) => inB x.c s y.tt.source) ∧ int i64 ((↑x_4.i : Int) + (1 : Int)) = int i64 (↑y.i : Int) ∧ True) ∧
 Ent [(0, Atom.cells x_4.b (chS x.c x.w) 28), (1, Atom.cells x_4.b8 [int i64 x_4.tt.source, slice x_4.ve.a x_4.ve.n x_4.ve.cap, string x_4.tt.cond, slice x_4.vt.a x_4.vt.n x_4.vt.cap, bool x_4.tt.internal, int i64 x_4.tt.block] 76), (2, x_4.r.A), (3, F)]
 [(0, Atom.cells y.b (chS x.c x.w) 28), (1, Atom.cells y.b8 [int i64 y.tt.source, slice y.ve.a y.ve.n y.ve.cap, string y.tt.cond, slice y.vt.a y.vt.n y.vt.cap, bool y.tt.internal, int i64 y.tt.block] 76), (2, y.r.A), (3, F)] ∧
 (goalsV x.c x.mem x.h).length - y.i < (goalsV x.c x.mem x.h).length - x_4.i))
 (Br (x_4.tt.internal && coB x.c x_4.tt.source && (List.take x_4.i (goalsV x.c x.mem x.h)).all fun (s : Int) => inB x.c s x_4.tt.source) (Same ⟨x_4.b8, 0, none⟩ x_4.b8 ∧ Done drC x F (Ending.returned (int i64 x_4.tt.source)) [(0, Atom.cells x_4.b (chS x.c x.w) 28), (1, Atom.cells x_4.b8 [int i64 x_4.tt.source, slice x_4.ve.a x_4.ve.n x_4.ve.cap, string x_4.tt.cond, slice x_4.vt.a x_4.vt.n x_4.vt.cap, bool x_4.tt.internal, int i64 x_4.tt.block] 76), (2, x_4.r.A), (3, F)])
 (true = true ∧
 Same ⟨x_4.b, 0, none⟩ x_4.b ∧
 Same ⟨x_4.b, 1, none⟩ x_4.b ∧
 Same ⟨x_4.b, 2, none⟩ x_4.b ∧
 Same ⟨x_4.b, 3, none⟩ x_4.b ∧
 Same ⟨x_4.b, 4, none⟩ x_4.b ∧
 Same ⟨x_4.b, 5, none⟩ x_4.b ∧
 Same ⟨x_4.b, 6, none⟩ x_4.b ∧
 Same ⟨x_4.b, 7, none⟩ x_4.b ∧
 Same ⟨x_4.b8, 0, none⟩ x_4.b8 ∧
 ∀ (b : Nat),
 OpOk Try.prog (opIn Try.f106 12 5) (apC (3 : TypeId) 1 8) ∧
 true = true ∧
 ∃ (x_5 : ApX),
 [slice (some ⟨b, 0, none⟩) 1 1, slice x_4.r.a x_4.r.n x_4.r.cap] = [slice x_5.r.a x_5.r.n x_5.r.cap, slice x_5.a x_5.m x_5.c] ∧
 [Atom.cells b [int i64 x_4.tt.source] 3] = [x_5.r.A] ∧
 (IsRow 3 1 x_5.cs x_5.r ∧ x_5.ys.length = x_5.m * 1 ∧ (∀ (u : Value), u ∈ x_5.ys → u.oneCell' = true) ∧ (x_5.r.n + x_5.m) * 8 ≤ 140737488355328 ∧ x_5.r.n + x_5.m ≤ 9223372036854775807 ∧ (x_5.a = none → x_5.m = 0 ∧ x_5.c = 0)) ∧
 (∀ (a : Addr), x_5.a = some a → Seg (Atom.pred (rest [(0, Atom.cells x_4.b (chS x.c x.w) 28), (1, Atom.cells x_4.b8 [int i64 x_4.tt.source, slice x_4.ve.a x_4.ve.n x_4.ve.cap, string x_4.tt.cond, slice x_4.vt.a x_4.vt.n x_4.vt.cap, bool x_4.tt.internal, int i64 x_4.tt.block] 76), (2, x_4.r.A), (3, F), (13030, Atom.cells b [int i64 x_4.tt.source] 3)] [13030])) a x_5.ys) ∧
 ∀ (y : Row),
 IsRow 3 1 (x_5.cs ++ x_5.ys) y ∧ y.n = x_5.r.n + x_5.m ∧ (x_5.m = 0 → y = x_5.r) →
 FnOk Try.prog 25 rCmC ∧
 true = true ∧
 ∃ (x_6 : LawX),
 [agg { toList := (chS x.c x.w) }, slice y.a y.n y.cap] = [agg { toList := (chS x_6.c x_6.w) }, slice x_6.a x_6.n x_6.cap] ∧
 ([] : List Atom) = [] ∧
 (Placed x_6.c ∧ IsSrc 1 (ints x_6.xs) x_6.a x_6.n ∧ x_6.n * 8 ≤ 140737488351232) ∧
 (ChIn (Atom.pred (rest [(0, Atom.cells x_4.b (chS x.c x.w) 28), (1, Atom.cells x_4.b8 [int i64 x_4.tt.source, slice x_4.ve.a x_4.ve.n x_4.ve.cap, string x_4.tt.cond, slice x_4.vt.a x_4.vt.n x_4.vt.cap, bool x_4.tt.internal, int i64 x_4.tt.block] 76), (2, x_4.r.A), (3, F), (13030, Atom.emp), (13050, y.A)] [])) x_6.w.v x_6.c ∧
 Srcd (Atom.pred (rest [(0, Atom.cells x_4.b (chS x.c x.w) 28), (1, Atom.cells x_4.b8 [int i64 x_4.tt.source, slice x_4.ve.a x_4.ve.n x_4.ve.cap, string x_4.tt.cond, slice x_4.vt.a x_4.vt.n x_4.vt.cap, bool x_4.tt.internal, int i64 x_4.tt.block] 76), (2, x_4.r.A), (3, F), (13030, Atom.emp), (13050, y.A)] [])) x_6.a (ints x_6.xs)) ∧
 ∀ (y_1 : Unit),
 True →
 QOpOk Try.prog (opIn Try.f106 12 7) maxQ ∧
 ∃ (x_7 : Int × Int),
 [int i64 (0 : Int), int i64 (comV x_6.c x_6.xs)] = [int i64 x_7.fst, int i64 x_7.snd] ∧
 True ∧ Done drC x F (Ending.returned (int i64 (if x_7.snd > x_7.fst then x_7.snd else x_7.fst))) [(0, Atom.cells x_4.b (chS x.c x.w) 28), (1, Atom.cells x_4.b8 [int i64 x_4.tt.source, slice x_4.ve.a x_4.ve.n x_4.ve.cap, string x_4.tt.cond, slice x_4.vt.a x_4.vt.n x_4.vt.cap, bool x_4.tt.internal, int i64 x_4.tt.block] 76), (2, x_4.r.A), (3, F), (13030, Atom.emp), (13050, y.A)]))) := by
  obtain ⟨c, w, ⟨ma, mn, mc⟩, mem, t, tv0⟩ := x
  obtain ⟨hr, hm⟩ := hr
  have hnew : newB c = true := hc
  dsimp only at hr hm ⊢
  have hpl := (newB_spec.1 hnew).1
  have hn128 := hpl.n128
  intro b
  iterate 8 refine ⟨⟨rfl, rfl⟩, ?_⟩
  refine ⟨gl_ok, rfl, ⟨c, w, ⟨ma, mn, mc⟩, mem, t, tv0⟩, rfl, rfl, hnew, ⟨hr.sub (sub_rest 0 (by simp) rfl), hm.sub (sub_rest 0 (by simp) rfl)⟩, fun y hy => ?_⟩
  replace hy : IsRow 3 1 (ints (goalsV c mem t)) y := hy
  have hyn : y.n = (goalsV c mem t).length := by have := hy.len; rw [ints_length] at this; omega
  have hgl := (goalsV_good hnew mem t).len
  refine br_intro (fun h => ⟨(), trivial, retI ?_, Ent.pick [0] rfl rfl⟩) (fun h => ?_)
  · have h0 : goalsV c mem t = [] := List.eq_nil_of_length_eq_zero (by have : (y.n : Int) = 0 := by simpa using h
                                                                       omega)
    unfold domR domP
    rw [h0]; rfl
  have hne : goalsV c mem t ≠ [] := fun e => by rw [e] at hyn; simp at hyn; rw [hyn] at h; simp at h
  have hne2 : (goalsV c mem t).isEmpty = false := by
    cases hg : goalsV c mem t with
    | nil => exact absurd hg hne
    | cons u r => rfl
  have hT : isT c t = true := by
    cases h1 : isT c t with
    | true => rfl
    | false => unfold goalsV at hne; rw [h1] at hne; simp at hne
  obtain ⟨q, rfl, hq⟩ := isT_spec hT
  obtain ⟨tt, ht⟩ : ∃ tt, c.trs[q]? = some tt := ⟨_, List.getElem?_eq_getElem hq⟩
  have hsrc : srcT c q = tt.source := by unfold srcT; rw [Int.toNat_natCast, ht]; rfl
  have hint : intT c q = tt.internal := by unfold intT; rw [Int.toNat_natCast, ht]; rfl
  have hall : (goalsV c mem q).all (fun s => inB c s tt.source) = !((goalsV c mem q).any fun s => !inB c s tt.source) := by
    rw [List.not_any_eq_all_not]
    simp
  obtain ⟨⟨va, vn, vcap⟩, ⟨ta, tn, tc⟩, wb, wd, wi⟩ := w
  have h2 := hr.trs
  dsimp only [ChS.v] at h2
  obtain ⟨m1, -, -⟩ := h2.num
  obtain ⟨b0, o0, r, rfl, ⟨ve, vt, rfl, p1, p2⟩, hL⟩ := h2.at' ht
  obtain ⟨ka, kc, rfl, -⟩ := SlIn.open p2
  obtain ⟨la, lc, rfl, -⟩ := SlIn.open p1
  refine ⟨⟨rfl, rfl⟩, ixq_ok 6 rfl rfl rfl rfl, ⟨b0, o0, tn, tc, q⟩, rfl, by dsimp only; omega, tt.source, hL 0 _ rfl, _, _, _, hL 1 _ rfl, tt.cond, hL 2 _ rfl, _, _, _, hL 3 _ rfl, tt.internal, hL 4 _ rfl, tt.block, hL 5 _ rfl, fun b2 => ?_⟩
  iterate 6 refine ⟨⟨rfl, rfl⟩, ?_⟩
  have P0 : ∀ i, i ≤ (goalsV c mem q).length → DrP ⟨c, ⟨⟨va, vn, vcap⟩, ⟨some ⟨b0, o0, none⟩, tn, tc⟩, wb, wd, wi⟩, ⟨ma, mn, mc⟩, mem, q, tv0⟩ F ⟨i, b, b2, tt, ⟨la, tt.events.length, lc⟩, ⟨ka, tt.targets.length, kc⟩, y⟩ := fun i hi => ⟨hT, by dsimp only; rw [Int.toNat_natCast]; exact ht, hne, hy, hi⟩
  refine ⟨⟨⟨rfl, rfl⟩, br_intro (fun hi => ?_) (fun hi => ?_)⟩, ?_⟩
  · iterate 9 refine ⟨⟨rfl, rfl⟩, ?_⟩
    refine ⟨rco_ok, rfl, ⟨c, ⟨⟨va, vn, vcap⟩, ⟨some ⟨b0, o0, none⟩, tn, tc⟩, wb, wd, wi⟩, tt.source, 0⟩, rfl, rfl, by dsimp only; omega, hr.sub (sub_rest 0 (by simp) rfl), fun _ _ => ⟨_, P0 0 (Nat.zero_le _), ⟨rfl, rfl, rfl, ?_, trivial⟩, Ent.pick [1000, 5050, 2030, 0] rfl rfl⟩⟩
    dsimp only
    rw [hi]; rfl
  · refine ⟨_, P0 0 (Nat.zero_le _), ⟨rfl, rfl, rfl, ?_, trivial⟩, Ent.pick [1000, 5050, 2030, 0] rfl rfl⟩
    dsimp only
    rw [hi]; rfl
  clear P0 hL p1 p2
  clear hyn hy h y b2 b
  rintro ⟨i0, b, b8, tt', ve, vt, y⟩ js ⟨-, q2, -, hy, -⟩
  dsimp only at q2 hy ⊢
  rw [Int.toNat_natCast] at q2
  obtain rfl : tt = tt' := by rw [ht] at q2; exact Option.some.inj q2
  have hyn : y.n = (goalsV c mem q).length := by have := hy.len; rw [ints_length] at this; omega
  refine ⟨⟨⟨0, b, b8, tt, ve, vt, y⟩, ⟨hT, by dsimp only; rw [Int.toNat_natCast]; exact ht, hne, hy, Nat.zero_le _⟩, ⟨rfl, rfl, rfl, by dsimp only; simp, rfl, trivial⟩, Ent.pick [0, 1, 2, 3] rfl rfl⟩, ?_⟩
  clear hyn hy y b8 b ve vt i0 q2
  rintro ⟨i, b, b8, tt', ve, vt, y⟩ js ⟨-, q2, -, hy, hi⟩
  dsimp only at q2 hy hi ⊢
  rw [Int.toNat_natCast] at q2
  obtain rfl : tt = tt' := by rw [ht] at q2; exact Option.some.inj q2
  have hyn : y.n = (goalsV c mem q).length := by have := hy.len; rw [ints_length] at this; omega
  refine br_decide (fun hlt => ⟨rfl, ?_⟩) (fun hge => ?_)
  · obtain ⟨u, hu⟩ : ∃ u, (goalsV c mem q)[i]? = some u := ⟨_, List.getElem?_eq_getElem (by omega)⟩
    obtain ⟨b5, hb5⟩ := hy.at0 (by omega)
    have elook : Look y.A ⟨b5, 0 + (i : Int).toNat * 1, none⟩ (.int .i64 u) := by
      have hsr := hy.srcd
      rw [hb5] at hsr
      rw [show 0 + (i : Int).toNat * 1 = 0 + i by omega]
      exact hsr.look (ints_get hu)
    have htk : ((goalsV c mem q).take (i + 1)).all (fun s => inB c s tt.source) = (((goalsV c mem q).take i).all (fun s => inB c s tt.source) && inB c u tt.source) := by
      rw [List.take_add_one, hu, List.all_append]; simp
    refine br_intro (fun h5 => ?_) (fun h5 => ?_)
    · iterate 8 refine ⟨⟨rfl, rfl⟩, ?_⟩
      refine ⟨ixq_ok 1 rfl rfl rfl rfl, ⟨b5, 0, y.n, y.cap, i⟩, by rw [hb5], by dsimp only; omega, u, elook, ⟨rfl, rfl⟩, rin_ok, rfl, ⟨c, _, u, tt.source⟩, rfl, rfl, hpl, hr.sub (sub_rest 3 (by simp) rfl), fun _ _ => ⟨⟨by omega, by omega⟩, ⟨i + 1, b, b8, tt, ve, vt, y⟩, ⟨hT, by dsimp only; rw [Int.toNat_natCast]; exact ht, hne, hy, by dsimp only; omega⟩, ⟨rfl, rfl, rfl, ?_, rfl, trivial⟩, Ent.pick [0, 1, 2, 3] rfl rfl, by dsimp only; omega⟩⟩
      dsimp only
      rw [htk, ← Bool.and_assoc, h5, Bool.true_and]
    · refine ⟨⟨by omega, by omega⟩, ⟨i + 1, b, b8, tt, ve, vt, y⟩, ⟨hT, by dsimp only; rw [Int.toNat_natCast]; exact ht, hne, hy, by dsimp only; omega⟩, ⟨rfl, rfl, rfl, ?_, rfl, trivial⟩, Ent.pick [0, 1, 2, 3] rfl rfl, by dsimp only; omega⟩
      dsimp only
      rw [htk, ← Bool.and_assoc, h5, Bool.false_and]
  · have ei : (goalsV c mem q).take i = goalsV c mem q := List.take_of_length_le (by omega)
    rw [ei, hall]
    refine br_intro (fun h5 => ⟨⟨rfl, rfl⟩, (), trivial, retI ?_, Ent.pick [3] rfl rfl⟩) (fun h5 => ?_)
    · unfold domR domP
      rw [hne2, hsrc, hint, h5]; rfl
    · refine ⟨rfl, ?_⟩
      iterate 9 refine ⟨⟨rfl, rfl⟩, ?_⟩
      refine fun b3 => ⟨append_ok (P := Try.prog) 1 8 rfl rfl rfl rfl rfl rfl rfl (by decide), rfl, ⟨⟨some ⟨b3, 0, none⟩, 1, 1, .cells b3 [.int .i64 tt.source] 3⟩, [.int .i64 tt.source], y.a, y.n, y.cap, ints (goalsV c mem q)⟩, rfl, rfl, ⟨.blk b3 1 1 [] rfl rfl (Nat.le_refl _), by dsimp only; rw [ints_length]; omega, fun _ h => ints_one h, by dsimp only; omega, by dsimp only; omega, hy.none0⟩, fun ad e => Seg.rest (j := 2) (by simp) (hy.srcd ad e), fun z hz => ?_⟩
      obtain ⟨hz1, hz2, -⟩ := hz
      replace hz1 : IsRow 3 1 (ints (tt.source :: goalsV c mem q)) z := hz1
      dsimp only at hz2
      refine ⟨rcm_ok, rfl, ⟨c, _, z.a, z.n, z.cap, tt.source :: goalsV c mem q⟩, rfl, rfl, ⟨hpl, hz1.src, by dsimp only; omega⟩, ⟨hr.sub (sub_rest 3 (by simp) rfl), Srcd.sub (A := z.A) (sub_rest 13050 (by simp) rfl) hz1.srcd⟩, fun _ _ => ⟨maxq_ok rfl, (0, comV c (tt.source :: goalsV c mem q)), rfl, trivial, (), trivial, retI ?_, Ent.pick [3] rfl rfl⟩⟩
      unfold domR domP
      rw [hne2, hsrc, hint, h5]; rfl
set_option maxRecDepth 100000 in
theorem dr_ok : FnOk Try.prog 106 drC :=
  fnOk (N := 59) (by kernel_rfl) Try.func106 rfl (by kernel_rfl) (fun _ => Nat.le_of_ble_eq_true rfl) dr_H [] fun x F hc hr => Eq.mpr (by kernel_rfl) (dr_vc x F hc hr)
def lft (c : ChD) (mem : List (List Int)) (ts : List Int) (s : Int) : Bool := ts.any fun t => (domP c mem t).2 && inB c s (domP c mem t).1
def exRL (c : ChD) (mem : List (List Int)) (cf ts : List Int) : Nat → List Int
  | 0 => []
  | k + 1 => exRL c mem cf ts k ++ (bif lft c mem ts ((nS c : Int) - 1 - k) && memB cf ((nS c : Int) - 1 - k) then [(nS c : Int) - 1 - k] else [])
structure XrX where
  c : ChD
  w : ChS
  g : Sl
  cf : List Int
  m : Sl
  mem : List (List Int)
  s : Sl
  ts : List Int
def xrC : Con where
  X := XrX
  Y := Row
  args x := [chAgg x.c x.w, .slice x.g.a x.g.n x.g.cap, .slice x.m.a x.m.n x.m.cap, .slice x.s.a x.s.n x.s.cap]
  pre _ := []
  cond x := newB x.c = true ∧ (IsSrc 1 (ints x.cf) x.g.a x.g.n ∧ x.g.n * 8 ≤ 140737488351232) ∧ IsSrc 1 (ints x.ts) x.s.a x.s.n ∧ x.s.n * 8 ≤ 140737488351232
  rdc x F := ChIn F x.w.v x.c ∧ Srcd F x.g.a (ints x.cf) ∧ MemIn F (.slice x.m.a x.m.n x.m.cap) x.mem ∧ Srcd F x.s.a (ints x.ts)
  rel x y := IsRow 3 1 (ints (exRL x.c x.mem x.cf x.ts (nS x.c - 1))) y
  val _ y := .returned (.slice y.a y.n y.cap)
  post _ y := [y.A]
  rmono _ _ _ h hk := ⟨hk.1.sub h, hk.2.1.sub h, hk.2.2.1.sub h, hk.2.2.2.sub h⟩
structure XrI where
  k : Nat
  b : Nat
  r : Row
  i : Nat
def xrInv (x : XrX) (F : Atom) : Nat → Option Inv := fun
  | 0 => some { X := XrI, P := fun i => i.k ≤ nS x.c - 1 ∧ IsRow 3 1 (ints (exRL x.c x.mem x.cf x.ts i.k)) i.r, mu := fun i => nS x.c - i.k, lv := fun i => [(1, .slice x.g.a x.g.n x.g.cap), (2, .slice x.m.a x.m.n x.m.cap), (3, .slice x.s.a x.s.n x.s.cap), (4, .pointer (some ⟨i.b, 0, none⟩)), (9, .slice i.r.a i.r.n i.r.cap), (10, .int .i64 ((nS x.c : Int) - 1 - i.k))], st := fun i => [.cells i.b (chS x.c x.w) 28, i.r.A, F] }
  | 2 => some { X := XrI, P := fun i => i.k < nS x.c - 1 ∧ IsRow 3 1 (ints (exRL x.c x.mem x.cf x.ts i.k)) i.r ∧ i.i ≤ x.ts.length, gh := some ⟨Nat, fun i => i.k⟩, mu := fun i => x.ts.length - i.i, lv := fun i => [(1, .slice x.g.a x.g.n x.g.cap), (2, .slice x.m.a x.m.n x.m.cap), (3, .slice x.s.a x.s.n x.s.cap), (4, .pointer (some ⟨i.b, 0, none⟩)), (9, .slice i.r.a i.r.n i.r.cap), (10, .int .i64 ((nS x.c : Int) - 1 - i.k)), (11, .bool (lft x.c x.mem (x.ts.take i.i) ((nS x.c : Int) - 1 - i.k))), (12, .int .i64 i.i)], st := fun i => [.cells i.b (chS x.c x.w) 28, i.r.A, F] }
  | _ => none
def xrOv (_x : XrX) (_F : Atom) : List (Nat × Nat × OH) := [(0, 0, .n 1000), (2, 1, .q [.atj 1000]), (9, 0, .q (at8 0)), (9, 4, .qo (ixQ 1)), (9, 5, .q [.ex 2 (.int .i64)]), (9, 6, .c drC [] []), (10, 5, .q (at8 0)), (10, 8, .c rInC [] []), (11, 4, .c amC [] []), (12, 2, .n 13020), (12, 3, .o (apC 3 1 8) [1] [1])]
noncomputable def xr_H (x : Con.X xrC) (F : Atom) : Hints where
  op := hk ((xrOv x F) ++ [])
  inv := xrInv x F
  cut := (fun _ _ _ => none) x F
  ord := (fun _ => [])
open Go.Value (int slice string bool pointer agg tuple func) in
open Go.IntKind (i64) in
set_option maxRecDepth 100000 in
theorem xr_vc (x : XrX) (F : Atom) (hc : Con.cond xrC x) (hr : Con.rdc xrC x F) :
  ∀ (b : Nat),
 Same ⟨b, 3, none⟩ b ∧
 ((-9223372036854775808 : Int) ≤ (↑x.w.vs.n : Int) - (1 : Int) ∧ (↑x.w.vs.n : Int) - (1 : Int) ≤ (9223372036854775807 : Int)) ∧
 (∃ (x_1 : XrI),
 (x_1.k ≤ nS x.c - 1 ∧ IsRow 3 1 (ints (exRL x.c x.mem x.cf x.ts x_1.k)) x_1.r) ∧
 (slice x.g.a x.g.n x.g.cap = slice x.g.a x.g.n x.g.cap ∧ slice x.m.a x.m.n x.m.cap = slice x.m.a x.m.n x.m.cap ∧ slice x.s.a x.s.n x.s.cap = slice x.s.a x.s.n x.s.cap ∧ pointer (some ⟨b, 0, none⟩) = pointer (some ⟨x_1.b, 0, none⟩) ∧ slice none 0 0 = slice x_1.r.a x_1.r.n x_1.r.cap ∧ int i64 ((↑x.w.vs.n : Int) - (1 : Int)) = int i64 ((↑(nS x.c) : Int) - (1 : Int) - (↑x_1.k : Int)) ∧ True) ∧
 Ent [(0, F), (1000, Atom.cells b (chS x.c x.w) 28)] [(0, Atom.cells x_1.b (chS x.c x.w) 28), (1, x_1.r.A), (2, F)]) ∧
 ∀ (x_1 : XrI) (js : Nat → Value),
 x_1.k ≤ nS x.c - 1 ∧ IsRow 3 1 (ints (exRL x.c x.mem x.cf x.ts x_1.k)) x_1.r →
 Br (decide ((↑(nS x.c) : Int) - (1 : Int) - (↑x_1.k : Int) > (0 : Int)))
 (∃ (n : Nat),
 (∃ (x_2 : XrI),
 ((x_2.k < nS x.c - 1 ∧ IsRow 3 1 (ints (exRL x.c x.mem x.cf x.ts x_2.k)) x_2.r ∧ x_2.i ≤ x.ts.length) ∧ x_2.k = n) ∧
 (slice x.g.a x.g.n x.g.cap = slice x.g.a x.g.n x.g.cap ∧ slice x.m.a x.m.n x.m.cap = slice x.m.a x.m.n x.m.cap ∧ slice x.s.a x.s.n x.s.cap = slice x.s.a x.s.n x.s.cap ∧ pointer (some ⟨x_1.b, 0, none⟩) = pointer (some ⟨x_2.b, 0, none⟩) ∧ slice x_1.r.a x_1.r.n x_1.r.cap = slice x_2.r.a x_2.r.n x_2.r.cap ∧ int i64 ((↑(nS x.c) : Int) - (1 : Int) - (↑x_1.k : Int)) = int i64 ((↑(nS x.c) : Int) - (1 : Int) - (↑x_2.k : Int)) ∧ bool false = bool (lft x.c x.mem (List.take x_2.i x.ts) ((↑(nS x.c) : Int) - (1 : Int) - (↑x_2.k : Int))) ∧ int i64 (0 : Int) = int i64 (↑x_2.i : Int) ∧ True) ∧
 Ent [(0, Atom.cells x_1.b (chS x.c x.w) 28), (1, x_1.r.A), (2, F)] [(0, Atom.cells x_2.b (chS x.c x.w) 28), (1, x_2.r.A), (2, F)]) ∧
 ∀ (x_2 : XrI) (js : Nat → Value),
 (x_2.k < nS x.c - 1 ∧ IsRow 3 1 (ints (exRL x.c x.mem x.cf x.ts x_2.k)) x_2.r ∧ x_2.i ≤ x.ts.length) ∧ x_2.k = n →
 Br (decide ((↑x_2.i : Int) < (↑x.s.n : Int)))
 (true = true ∧
 Same ⟨x_2.b, 0, none⟩ x_2.b ∧
 Same ⟨x_2.b, 1, none⟩ x_2.b ∧
 Same ⟨x_2.b, 2, none⟩ x_2.b ∧
 Same ⟨x_2.b, 3, none⟩ x_2.b ∧
 Same ⟨x_2.b, 4, none⟩ x_2.b ∧
 Same ⟨x_2.b, 5, none⟩ x_2.b ∧
 Same ⟨x_2.b, 6, none⟩ x_2.b ∧
 Same ⟨x_2.b, 7, none⟩ x_2.b ∧
 QOpOk Try.prog (opIn Try.f83 9 4) (ixQ 1) ∧
 ∃ (x_3 : IxQX),
 [slice x.s.a x.s.n x.s.cap, int i64 (↑x_2.i : Int)] = [slice (some ⟨x_3.b, x_3.o, none⟩) x_3.len x_3.cap, int i64 x_3.n] ∧
 ((0 : Int) ≤ x_3.n ∧ x_3.n < (↑x_3.len : Int)) ∧
 ∃ (n_1 : Int),
 Look F ⟨x_3.b, x_3.o + x_3.n.toNat * 1, none⟩ (int i64 n_1) ∧
 FnOk Try.prog 106 drC ∧
 true = true ∧
 ∃ (x_4 : RmR),
 [agg { toList := (chS x.c x.w) }, slice x.m.a x.m.n x.m.cap, int i64 n_1] = [agg { toList := (chS x_4.c x_4.w) }, slice x_4.m.a x_4.m.n x_4.m.cap, int i64 x_4.h] ∧
 ([] : List Atom) = [] ∧
 newB x_4.c = true ∧
 (ChIn (Atom.pred (rest [(0, Atom.cells x_2.b (chS x.c x.w) 28), (1, x_2.r.A), (2, F)] [])) x_4.w.v x_4.c ∧ MemIn (Atom.pred (rest [(0, Atom.cells x_2.b (chS x.c x.w) 28), (1, x_2.r.A), (2, F)] [])) (slice x_4.m.a x_4.m.n x_4.m.cap) x_4.mem) ∧
 ∀ (y : Unit),
 True →
 Br (lft x.c x.mem (List.take x_2.i x.ts) ((↑(nS x.c) : Int) - (1 : Int) - (↑x_2.k : Int)))
 (((-9223372036854775808 : Int) ≤ (↑x_2.i : Int) + (1 : Int) ∧ (↑x_2.i : Int) + (1 : Int) ≤ (9223372036854775807 : Int)) ∧
 ∃ (y : XrI),
 ((y.k < nS x.c - 1 ∧ IsRow 3 1 (ints (exRL x.c x.mem x.cf x.ts y.k)) y.r ∧ y.i ≤ x.ts.length) ∧ y.k = n) ∧
 (slice x.g.a x.g.n x.g.cap = slice x.g.a x.g.n x.g.cap ∧ slice x.m.a x.m.n x.m.cap = slice x.m.a x.m.n x.m.cap ∧ slice x.s.a x.s.n x.s.cap = slice x.s.a x.s.n x.s.cap ∧ pointer (some ⟨x_2.b, 0, none⟩) = pointer (some ⟨y.b, 0, none⟩) ∧ slice x_2.r.a x_2.r.n x_2.r.cap = slice y.r.a y.r.n y.r.cap ∧ int i64 ((↑(nS x.c) : Int) - (1 : Int) - (↑x_2.k : Int)) = int i64 ((↑(nS x.c) : Int) - (1 : Int) - (↑y.k : Int)) ∧ bool true = bool (lft x.c x.mem (List.take y.i x.ts) ((↑(nS x.c) : Int) - (1 : Int) - (↑y.k : Int))) ∧ int i64 ((↑x_2.i : Int) + (1 : Int)) = int i64 (↑y.i : Int) ∧ True) ∧
 Ent [(0, Atom.cells x_2.b (chS x.c x.w) 28), (1, x_2.r.A), (2, F)] [(0, Atom.cells y.b (chS x.c x.w) 28), (1, y.r.A), (2, F)] ∧ x.ts.length - y.i < x.ts.length - x_2.i)
 (Br (decide (domR x_4.c x_4.mem x_4.h ≥ (0 : Int)))
 (Same ⟨x_2.b, 0, none⟩ x_2.b ∧
 Same ⟨x_2.b, 1, none⟩ x_2.b ∧
 Same ⟨x_2.b, 2, none⟩ x_2.b ∧
 Same ⟨x_2.b, 3, none⟩ x_2.b ∧
 Same ⟨x_2.b, 4, none⟩ x_2.b ∧
 Same ⟨x_2.b, 5, none⟩ x_2.b ∧
 Same ⟨x_2.b, 6, none⟩ x_2.b ∧
 Same ⟨x_2.b, 7, none⟩ x_2.b ∧
 FnOk Try.prog 19 rInC ∧
 true = true ∧
 ∃ (x_5 : RfX),
 [agg { toList := (chS x.c x.w) }, int i64 ((↑(nS x.c) : Int) - (1 : Int) - (↑x_2.k : Int)), int i64 (domR x_4.c x_4.mem x_4.h)] = [agg { toList := (chS x_5.c x_5.w) }, int i64 x_5.a, int i64 x_5.d] ∧
 ([] : List Atom) = [] ∧
 Placed x_5.c ∧
 ChIn (Atom.pred (rest [(0, Atom.cells x_2.b (chS x.c x.w) 28), (1, x_2.r.A), (2, F)] [])) x_5.w.v x_5.c ∧
 ∀ (y : Unit),
 True →
 ((-9223372036854775808 : Int) ≤ (↑x_2.i : Int) + (1 : Int) ∧ (↑x_2.i : Int) + (1 : Int) ≤ (9223372036854775807 : Int)) ∧
 ∃ (y : XrI),
 ((y.k < nS x.c - 1 ∧ IsRow 3 1 (ints (exRL x.c x.mem x.cf x.ts y.k)) y.r ∧ y.i ≤ x.ts.length) ∧ y.k = n) ∧
 (slice x.g.a x.g.n x.g.cap = slice x.g.a x.g.n x.g.cap ∧ slice x.m.a x.m.n x.m.cap = slice x.m.a x.m.n x.m.cap ∧ slice x.s.a x.s.n x.s.cap = slice x.s.a x.s.n x.s.cap ∧ pointer (some ⟨x_2.b, 0, none⟩) = pointer (some ⟨y.b, 0, none⟩) ∧ slice x_2.r.a x_2.r.n x_2.r.cap = slice y.r.a y.r.n y.r.cap ∧ int i64 ((↑(nS x.c) : Int) - (1 : Int) - (↑x_2.k : Int)) = int i64 ((↑(nS x.c) : Int) - (1 : Int) - (↑y.k : Int)) ∧ bool (inB x_5.c x_5.a x_5.d) = bool (lft x.c x.mem (List.take y.i x.ts) ((↑(nS x.c) : Int) - (1 : Int) - (↑y.k : Int))) ∧ int i64 ((↑x_2.i : Int) + (1 : Int)) = int i64 (↑y.i : Int) ∧ True) ∧
 Ent [(0, Atom.cells x_2.b (chS x.c x.w) 28), (1, x_2.r.A), (2, F)] [(0, Atom.cells y.b (chS x.c x.w) 28), (1, y.r.A), (2, F)] ∧ x.ts.length - y.i < x.ts.length - x_2.i)
 (((-9223372036854775808 : Int) ≤ (↑x_2.i : Int) + (1 : Int) ∧ (↑x_2.i : Int) + (1 : Int) ≤ (9223372036854775807 : Int)) ∧
 ∃ (y : XrI),
 ((y.k < nS x.c - 1 ∧ IsRow 3 1 (ints (exRL x.c x.mem x.cf x.ts y.k)) y.r ∧ y.i ≤ x.ts.length) ∧ y.k = n) ∧
 (slice x.g.a x.g.n x.g.cap = slice x.g.a x.g.n x.g.cap ∧ slice x.m.a x.m.n x.m.cap = slice x.m.a x.m.n x.m.cap ∧ slice x.s.a x.s.n x.s.cap = slice x.s.a x.s.n x.s.cap ∧ pointer (some ⟨x_2.b, 0, none⟩) = pointer (some ⟨y.b, 0, none⟩) ∧ slice x_2.r.a x_2.r.n x_2.r.cap = slice y.r.a y.r.n y.r.cap ∧ int i64 ((↑(nS x.c) : Int) - (1 : Int) - (↑x_2.k : Int)) = int i64 ((↑(nS x.c) : Int) - (1 : Int) - (↑y.k : Int)) ∧ bool false = bool (lft x.c x.mem (List.take y.i x.ts) ((↑(nS x.c) : Int) - (1 : Int) - (↑y.k : Int))) ∧ int i64 ((↑x_2.i : Int) + (1 : Int)) = int i64 (↑y.i : Int) ∧ True) ∧
 Ent [(0, Atom.cells x_2.b (chS x.c x.w) 28), (1, x_2.r.A), (2, F)] [(0, Atom.cells y.b (chS x.c x.w) 28), (1, y.r.A), (2, F)] ∧ x.ts.length - y.i < x.ts.length - x_2.i)))
 (Br (lft x.c x.mem (List.take x_2.i x.ts) ((↑(nS x.c) : Int) - (1 : Int) - (↑x_2.k : Int)))
 (FnOk Try.prog 35 amC ∧
 true = true ∧
 ∃ (x_3 : InX),
 [int i64 ((↑(nS x.c) : Int) - (1 : Int) - (↑x_2.k : Int)), slice x.g.a x.g.n x.g.cap] = [int i64 x_3.v, slice x_3.a x_3.n x_3.cap] ∧
 ([] : List Atom) = [] ∧
 (IsSrc 1 (ints x_3.xs) x_3.a x_3.n ∧ x_3.n * 8 ≤ 140737488351232) ∧
 Srcd (Atom.pred (rest [(0, Atom.cells x_2.b (chS x.c x.w) 28), (1, x_2.r.A), (2, F)] [])) x_3.a (ints x_3.xs) ∧
 ∀ (y : Unit),
 True →
 Br (memB x_3.xs x_3.v)
 (∀ (b : Nat),
 OpOk Try.prog (opIn Try.f83 12 3) (apC (3 : TypeId) 1 8) ∧
 true = true ∧
 ∃ (x_4 : ApX),
 [slice x_2.r.a x_2.r.n x_2.r.cap, slice (some ⟨b, 0, none⟩) 1 1] = [slice x_4.r.a x_4.r.n x_4.r.cap, slice x_4.a x_4.m x_4.c] ∧
 [x_2.r.A] = [x_4.r.A] ∧
 (IsRow 3 1 x_4.cs x_4.r ∧ x_4.ys.length = x_4.m * 1 ∧ (∀ (u : Value), u ∈ x_4.ys → u.oneCell' = true) ∧ (x_4.r.n + x_4.m) * 8 ≤ 140737488355328 ∧ x_4.r.n + x_4.m ≤ 9223372036854775807 ∧ (x_4.a = none → x_4.m = 0 ∧ x_4.c = 0)) ∧
 (∀ (a : Addr), x_4.a = some a → Seg (Atom.pred (rest [(0, Atom.cells x_2.b (chS x.c x.w) 28), (1, x_2.r.A), (2, F), (13020, Atom.cells b [int i64 ((↑(nS x.c) : Int) - (1 : Int) - (↑x_2.k : Int))] 3)] [1])) a x_4.ys) ∧
 ∀ (y : Row),
 IsRow 3 1 (x_4.cs ++ x_4.ys) y ∧ y.n = x_4.r.n + x_4.m ∧ (x_4.m = 0 → y = x_4.r) →
 ((-9223372036854775808 : Int) ≤ (↑(nS x.c) : Int) - (1 : Int) - (↑x_2.k : Int) - (1 : Int) ∧ (↑(nS x.c) : Int) - (1 : Int) - (↑x_2.k : Int) - (1 : Int) ≤ (9223372036854775807 : Int)) ∧
 ∃ (y_1 : XrI),
 (y_1.k ≤ nS x.c - 1 ∧ IsRow 3 1 (ints (exRL x.c x.mem x.cf x.ts y_1.k)) y_1.r) ∧
 (slice x.g.a x.g.n x.g.cap = slice x.g.a x.g.n x.g.cap ∧ slice x.m.a x.m.n x.m.cap = slice x.m.a x.m.n x.m.cap ∧ slice x.s.a x.s.n x.s.cap = slice x.s.a x.s.n x.s.cap ∧ pointer (some ⟨x_2.b, 0, none⟩) = pointer (some ⟨y_1.b, 0, none⟩) ∧ slice y.a y.n y.cap = slice y_1.r.a y_1.r.n y_1.r.cap ∧ int i64 ((↑(nS x.c) : Int) - (1 : Int) - (↑x_2.k : Int) - (1 : Int)) = int i64 ((↑(nS x.c) : Int) - (1 : Int) - (↑y_1.k : Int)) ∧ True) ∧
 Ent [(0, Atom.cells x_2.b (chS x.c x.w) 28), (1, y.A), (2, F), (13020, Atom.cells b [int i64 ((↑(nS x.c) : Int) - (1 : Int) - (↑x_2.k : Int))] 3)] [(0, Atom.cells y_1.b (chS x.c x.w) 28), (1, y_1.r.A), (2, F)] ∧ nS x.c - y_1.k < nS x.c - x_1.k)
 (((-9223372036854775808 : Int) ≤ (↑(nS x.c) : Int) - (1 : Int) - (↑x_2.k : Int) - (1 : Int) ∧ (↑(nS x.c) : Int) - (1 : Int) - (↑x_2.k : Int) - (1 : Int) ≤ (9223372036854775807 : Int)) ∧
 ∃ (y : XrI),
 (y.k ≤ nS x.c - 1 ∧ IsRow 3 1 (ints (exRL x.c x.mem x.cf x.ts y.k)) y.r) ∧
 (slice x.g.a x.g.n x.g.cap = slice x.g.a x.g.n x.g.cap ∧ slice x.m.a x.m.n x.m.cap = slice x.m.a x.m.n x.m.cap ∧ slice x.s.a x.s.n x.s.cap = slice x.s.a x.s.n x.s.cap ∧ pointer (some ⟨x_2.b, 0, none⟩) = pointer (some ⟨y.b, 0, none⟩) ∧ slice x_2.r.a x_2.r.n x_2.r.cap = slice y.r.a y.r.n y.r.cap ∧ int i64 ((↑(nS x.c) : Int) - (1 : Int) - (↑x_2.k : Int) - (1 : Int)) = int i64 ((↑(nS x.c) : Int) - (1 : Int) - (↑y.k : Int)) ∧ True) ∧
 Ent [(0, Atom.cells x_2.b (chS x.c x.w) 28), (1, x_2.r.A), (2, F)] [(0, Atom.cells y.b (chS x.c x.w) 28), (1, y.r.A), (2, F)] ∧ nS x.c - y.k < nS x.c - x_1.k))
 (((-9223372036854775808 : Int) ≤ (↑(nS x.c) : Int) - (1 : Int) - (↑x_2.k : Int) - (1 : Int) ∧ (↑(nS x.c) : Int) - (1 : Int) - (↑x_2.k : Int) - (1 : Int) ≤ (9223372036854775807 : Int)) ∧
 ∃ (y : XrI),
 (y.k ≤ nS x.c - 1 ∧ IsRow 3 1 (ints (exRL x.c x.mem x.cf x.ts y.k)) y.r) ∧
 (slice x.g.a x.g.n x.g.cap = slice x.g.a x.g.n x.g.cap ∧ slice x.m.a x.m.n x.m.cap = slice x.m.a x.m.n x.m.cap ∧ slice x.s.a x.s.n x.s.cap = slice x.s.a x.s.n x.s.cap ∧ pointer (some ⟨x_2.b, 0, none⟩) = pointer (some ⟨y.b, 0, none⟩) ∧ slice x_2.r.a x_2.r.n x_2.r.cap = slice y.r.a y.r.n y.r.cap ∧ int i64 ((↑(nS x.c) : Int) - (1 : Int) - (↑x_2.k : Int) - (1 : Int)) = int i64 ((↑(nS x.c) : Int) - (1 : Int) - (↑y.k : Int)) ∧ True) ∧
 Ent [(0, Atom.cells x_2.b (chS x.c x.w) 28), (1, x_2.r.A), (2, F)] [(0, Atom.cells y.b (chS x.c x.w) 28), (1, y.r.A), (2, F)] ∧ nS x.c - y.k < nS x.c - x_1.k)))
 (Done xrC x F (Ending.returned (slice x_1.r.a x_1.r.n x_1.r.cap)) [(0, Atom.cells x_1.b (chS x.c x.w) 28), (1, x_1.r.A), (2, F)]) := by
  obtain ⟨c, w, ⟨ga, gn, gc⟩, cf, ⟨ma, mn, mc⟩, mem, ⟨sa, sn, sc⟩, ts⟩ := x
  obtain ⟨hnew, ⟨hg, hgn⟩, hs, hsn⟩ := hc
  obtain ⟨hr, hcf, hm, hts⟩ := hr
  dsimp only at hnew hg hgn hs hsn hr hcf hm hts ⊢
  have hpl := (newB_spec.1 hnew).1
  have hn128 := hpl.n128
  have hn2 := hpl.n2
  have hwn := hr.num.1
  have hsl : ts.length = sn := by have := hs.len; rw [ints_length] at this; omega
  have hxl : ∀ k, (exRL c mem cf ts k).length ≤ k := fun k => by
    induction k with
    | zero => exact Nat.le_refl _
    | succ k ih =>
      rw [exRL, List.length_append]
      cases (lft c mem ts ((nS c : Int) - 1 - k) && memB cf ((nS c : Int) - 1 - k)) with
      | true => simp; omega
      | false => simp; omega
  intro b0
  refine ⟨⟨rfl, rfl⟩, ⟨by omega, by omega⟩, ⟨⟨0, b0, nilRow, 0⟩, ⟨Nat.zero_le _, .nil rfl⟩, ⟨rfl, rfl, rfl, rfl, rfl, by dsimp only; rw [hwn]; simp, trivial⟩, Ent.pick [1000, 77, 0] rfl rfl⟩, ?_⟩
  clear b0
  rintro ⟨k, b, r, i0⟩ js ⟨hk, hrow⟩
  dsimp only at hk hrow ⊢
  refine br_decide (fun hlt => ?_) (fun hge => ⟨r, ?_, rfl, Ent.pick [1, 2] rfl rfl⟩)
  · refine ⟨k, ⟨⟨k, b, r, 0⟩, ⟨⟨by dsimp only; omega, hrow, Nat.zero_le _⟩, rfl⟩, ⟨rfl, rfl, rfl, rfl, rfl, rfl, rfl, rfl, trivial⟩, Ent.pick [0, 1, 2] rfl rfl⟩, ?_⟩
    clear hrow r b
    rintro ⟨k', b, r, i⟩ js ⟨⟨h1, hrow, hi⟩, ej⟩
    dsimp only at h1 hrow hi ej ⊢
    subst ej
    have hrl : r.n = (exRL c mem cf ts k').length := by have := hrow.len; rw [ints_length] at this; omega
    have hxk := hxl k'
    refine br_decide (fun hlt2 => ⟨rfl, ?_⟩) (fun hge2 => ?_)
    · obtain ⟨t, ht⟩ : ∃ t, ts[i]? = some t := ⟨_, List.getElem?_eq_getElem (by omega)⟩
      obtain ⟨b2, o2, rfl⟩ := hs.some (by omega)
      have e2 : o2 + (i : Int).toNat * 1 = o2 + i := by omega
      have htk : lft c mem (ts.take (i + 1)) ((nS c : Int) - 1 - k') = (lft c mem (ts.take i) ((nS c : Int) - 1 - k') || ((domP c mem t).2 && inB c ((nS c : Int) - 1 - k') (domP c mem t).1)) := by
        unfold lft
        rw [List.take_add_one, ht, List.any_append]; simp
      iterate 8 refine ⟨⟨rfl, rfl⟩, ?_⟩
      refine ⟨ixq_ok 1 rfl rfl rfl rfl, ⟨b2, o2, sn, sc, i⟩, rfl, by dsimp only; omega, t, by dsimp only; rw [e2]; exact hts.look (ints_get ht), dr_ok, rfl, ⟨c, w, ⟨ma, mn, mc⟩, mem, t, fun _ => ⟨none, 0, 0⟩⟩, rfl, rfl, hnew, ⟨hr.sub (sub_rest 2 (by simp) rfl), hm.sub (sub_rest 2 (by simp) rfl)⟩, fun _ _ => br_intro (fun h5 => ?_) (fun h5 => br_decide (fun h6 => ?_) (fun h6 => ?_))⟩
      · refine ⟨⟨by omega, by omega⟩, ⟨k', b, r, i + 1⟩, ⟨⟨h1, hrow, by dsimp only; omega⟩, rfl⟩, ⟨rfl, rfl, rfl, rfl, rfl, rfl, ?_, rfl, trivial⟩, Ent.pick [0, 1, 2] rfl rfl, by dsimp only; omega⟩
        dsimp only
        rw [htk, h5]; rfl
      · dsimp only at h6
        have hd2 : (domP c mem t).2 = true := by
          cases hh : (domP c mem t).2 with
          | true => rfl
          | false => unfold domR at h6; rw [hh] at h6; simp at h6
        have edr : domR c mem t = (domP c mem t).1 := by unfold domR; rw [hd2]; rfl
        iterate 8 refine ⟨⟨rfl, rfl⟩, ?_⟩
        refine ⟨rin_ok, rfl, ⟨c, w, (nS c : Int) - 1 - k', domR c mem t⟩, rfl, rfl, hpl, hr.sub (sub_rest 2 (by simp) rfl), fun _ _ => ⟨⟨by omega, by omega⟩, ⟨k', b, r, i + 1⟩, ⟨⟨h1, hrow, by dsimp only; omega⟩, rfl⟩, ⟨rfl, rfl, rfl, rfl, rfl, rfl, ?_, rfl, trivial⟩, Ent.pick [0, 1, 2] rfl rfl, by dsimp only; omega⟩⟩
        dsimp only
        rw [htk, h5, hd2, edr]; rfl
      · dsimp only at h6
        have hd2 : (domP c mem t).2 = false := by
          cases hh : (domP c mem t).2 with
          | false => rfl
          | true =>
            have := domP_nn hnew hh
            unfold domR at h6; rw [hh] at h6; simp at h6; omega
        refine ⟨⟨by omega, by omega⟩, ⟨k', b, r, i + 1⟩, ⟨⟨h1, hrow, by dsimp only; omega⟩, rfl⟩, ⟨rfl, rfl, rfl, rfl, rfl, rfl, ?_, rfl, trivial⟩, Ent.pick [0, 1, 2] rfl rfl, by dsimp only; omega⟩
        dsimp only
        rw [htk, h5, hd2]; rfl
    · have ei : ts.take i = ts := List.take_of_length_le (by omega)
      have e1 : (nS c : Int) - 1 - k' - 1 = (nS c : Int) - 1 - ((k' + 1 : Nat) : Int) := by omega
      rw [ei]
      refine br_intro (fun h5 => ⟨am_ok, rfl, ⟨ga, gn, gc, cf, (nS c : Int) - 1 - k'⟩, rfl, rfl, ⟨hg, hgn⟩, Srcd.sub (A := F) (sub_rest 2 (by simp) rfl) hcf, fun _ _ => br_intro (fun h6 b7 => ?_) (fun h6 => ?_)⟩) (fun h5 => ?_)
      · dsimp only at h6
        refine ⟨append_ok (P := Try.prog) 1 8 rfl rfl rfl rfl rfl rfl rfl (by decide), rfl, ⟨r, _, some ⟨b7, 0, none⟩, 1, 1, [.int .i64 ((nS c : Int) - 1 - k')]⟩, rfl, rfl, ⟨hrow, rfl, by simp [Value.oneCell'], by dsimp only; omega, by dsimp only; omega, by simp⟩, ?_, fun z hz => ⟨⟨by omega, by omega⟩, ⟨k' + 1, b, z, 0⟩, ⟨by dsimp only; omega, ?_⟩, ⟨rfl, rfl, rfl, rfl, rfl, by dsimp only; rw [e1], trivial⟩, Ent.pick [0, 1, 2] rfl rfl, by dsimp only; omega⟩⟩
        · intro ad e
          cases e
          exact Seg.rest (j := 13020) (by simp) (Seg.cells fun j u h => by rw [Nat.zero_add]; exact h)
        · dsimp only
          rw [exRL, h5, h6]
          show IsRow 3 1 (ints (exRL c mem cf ts k' ++ [(nS c : Int) - 1 - k'])) z
          rw [ints_append]
          exact hz.1
      · dsimp only at h6
        refine ⟨⟨by omega, by omega⟩, ⟨k' + 1, b, r, 0⟩, ⟨by dsimp only; omega, ?_⟩, ⟨rfl, rfl, rfl, rfl, rfl, by dsimp only; rw [e1], trivial⟩, Ent.pick [0, 1, 2] rfl rfl, by dsimp only; omega⟩
        dsimp only
        rw [exRL, h5, h6]
        simpa using hrow
      · refine ⟨⟨by omega, by omega⟩, ⟨k' + 1, b, r, 0⟩, ⟨by dsimp only; omega, ?_⟩, ⟨rfl, rfl, rfl, rfl, rfl, by dsimp only; rw [e1], trivial⟩, Ent.pick [0, 1, 2] rfl rfl, by dsimp only; omega⟩
        dsimp only
        rw [exRL, h5]
        simpa using hrow
  · have ek : k = nS c - 1 := by omega
    subst ek
    exact hrow
set_option maxRecDepth 100000 in
theorem xr_ok : FnOk Try.prog 83 xrC :=
  fnOk (N := 57) (by kernel_rfl) Try.func83 rfl (by kernel_rfl) (fun _ => Nat.le_of_ble_eq_true rfl) xr_H [] fun x F hc hr => Eq.mpr (by kernel_rfl) (xr_vc x F hc hr)
theorem mem_addV {u : Int} : ∀ (xs o : List Int), u ∈ addV o xs ↔ u ∈ o ∨ u ∈ xs
  | [], o => by unfold addV; simp
  | x :: xs, o => by
    have ih := mem_addV (u := u) xs (add1 o x)
    show u ∈ addV (add1 o x) xs ↔ _
    rw [ih]
    unfold add1
    cases hm : memB o x with
    | true =>
      rw [cond_true, List.mem_cons]
      have := memB_iff.1 hm
      constructor
      · rintro (h | h)
        · exact .inl h
        · exact .inr (.inr h)
      · rintro (h | rfl | h)
        · exact .inl h
        · exact .inl this
        · exact .inr h
    | false =>
      rw [cond_false, List.mem_append, List.mem_singleton, List.mem_cons, or_assoc]
theorem mem_exF {c : ChD} {mem : List (List Int)} {cf : List Int} {u : Int} : ∀ (ts o : List Int), u ∈ ts.foldl (ex1 c mem cf) o ↔ u ∈ o ∨ (u ∈ cf ∧ lft c mem ts u = true)
  | [], o => by simp [lft]
  | t :: ts, o => by
    rw [List.foldl_cons, mem_exF ts]
    unfold ex1 lft
    rw [List.any_cons]
    cases hd : (domP c mem t).2 with
    | false =>
      rw [cond_false, Bool.false_and, Bool.false_or]
    | true =>
      rw [cond_true, Bool.true_and]
      unfold exAdd
      rw [mem_addV, List.mem_filter, Bool.or_eq_true, or_assoc]
      constructor
      · rintro (h | h | h)
        · exact .inl h
        · exact .inr ⟨h.1, .inl h.2⟩
        · exact .inr ⟨h.1, .inr h.2⟩
      · rintro (h | ⟨h1, h | h⟩)
        · exact .inl h
        · exact .inr (.inl ⟨h1, h⟩)
        · exact .inr (.inr ⟨h1, h⟩)
theorem mem_exV {c : ChD} {mem : List (List Int)} {cf ts : List Int} {u : Int} : u ∈ exV c mem cf ts ↔ u ∈ cf ∧ lft c mem ts u = true := by
  unfold exV
  rw [mem_exF]; simp
theorem lft_rng {c : ChD} (hp : Placed c) {mem : List (List Int)} {ts : List Int} {u : Int} (h : lft c mem ts u = true) : 1 ≤ u ∧ u < nS c := by
  unfold lft at h
  obtain ⟨t, _, h⟩ := List.any_eq_true.1 h
  rw [Bool.and_eq_true] at h
  obtain ⟨i, j, rfl, -, hi, hj, hij⟩ := inB_spec h.2
  have := ins_lt hp hi hj hij
  omega
theorem mem_exRL {c : ChD} {mem : List (List Int)} {cf ts : List Int} {u : Int} : ∀ k : Nat, u ∈ exRL c mem cf ts k ↔ ((nS c : Int) - k ≤ u ∧ u < nS c) ∧ u ∈ cf ∧ lft c mem ts u = true
  | 0 => by simp [exRL]; omega
  | k + 1 => by
    rw [exRL, List.mem_append, mem_exRL k]
    cases hb : (lft c mem ts ((nS c : Int) - 1 - k) && memB cf ((nS c : Int) - 1 - k)) with
    | true =>
      rw [Bool.and_eq_true] at hb
      rw [cond_true, List.mem_singleton]
      constructor
      · rintro (⟨h1, h2⟩ | rfl)
        · exact ⟨⟨by omega, h1.2⟩, h2⟩
        · exact ⟨⟨by omega, by omega⟩, memB_iff.1 hb.2, hb.1⟩
      · rintro ⟨h1, h2⟩
        by_cases e : u = (nS c : Int) - 1 - k
        · exact .inr e
        · exact .inl ⟨⟨by omega, h1.2⟩, h2⟩
    | false =>
      rw [cond_false]
      constructor
      · rintro (⟨h1, h2⟩ | h)
        · exact ⟨⟨by omega, h1.2⟩, h2⟩
        · cases h
      · rintro ⟨h1, h2, h3⟩
        refine .inl ⟨⟨?_, h1.2⟩, h2, h3⟩
        rcases Int.lt_or_le u ((nS c : Int) - k) with h | h
        · have e : u = (nS c : Int) - 1 - k := by omega
          rw [← e, h3, memB_iff.2 h2] at hb
          cases hb
        · exact h
theorem exR_mem {c : ChD} (hp : Placed c) {mem : List (List Int)} {cf ts : List Int} {u : Int} : u ∈ exRL c mem cf ts (nS c - 1) ↔ u ∈ exV c mem cf ts := by
  rw [mem_exRL, mem_exV]
  have hn := hp.n2
  constructor
  · rintro ⟨_, h⟩; exact h
  · intro h
    have := lft_rng hp h.2
    exact ⟨⟨by omega, this.2⟩, h⟩
theorem cfl_ref {c : ChD} (hp : Placed c) (mem : List (List Int)) (cf : List Int) (a b : Int) : ((exRL c mem cf [a] (nS c - 1)).any fun s => memB (exRL c mem cf [b] (nS c - 1)) s) = cfl c mem cf a b := by
  unfold cfl
  rw [Bool.eq_iff_iff, List.any_eq_true, List.any_eq_true]
  constructor
  · rintro ⟨u, h1, h2⟩
    exact ⟨u, (exR_mem hp).1 h1, memB_iff.2 ((exR_mem hp).1 (memB_iff.1 h2))⟩
  · rintro ⟨u, h1, h2⟩
    exact ⟨u, (exR_mem hp).2 h1, memB_iff.2 ((exR_mem hp).2 (memB_iff.1 h2))⟩
structure CoX where
  c : ChD
  w : ChS
  g : Sl
  cf : List Int
  m : Sl
  mem : List (List Int)
  p : Int
  q : Int
def cnC : Con where
  X := CoX
  Y := Unit
  args x := [chAgg x.c x.w, .slice x.g.a x.g.n x.g.cap, .slice x.m.a x.m.n x.m.cap, .int .i64 x.p, .int .i64 x.q]
  pre _ := []
  cond x := newB x.c = true ∧ IsSrc 1 (ints x.cf) x.g.a x.g.n ∧ x.g.n * 8 ≤ 140737488351232
  rdc x F := ChIn F x.w.v x.c ∧ Srcd F x.g.a (ints x.cf) ∧ MemIn F (.slice x.m.a x.m.n x.m.cap) x.mem
  rel _ _ := True
  val x _ := .returned (.bool (cfl x.c x.mem x.cf x.p x.q))
  post _ _ := []
  rmono _ _ _ h hk := ⟨hk.1.sub h, hk.2.1.sub h, hk.2.2.sub h⟩
structure CnI where
  i : Nat
  r : Row
  z : Row
def cnInv (x : CoX) (F : Atom) : Nat → Option Inv := fun
  | 0 => some { X := CnI, P := fun i => i.i ≤ (exRL x.c x.mem x.cf [x.p] (nS x.c - 1)).length ∧ IsRow 3 1 (ints (exRL x.c x.mem x.cf [x.p] (nS x.c - 1))) i.r ∧ IsRow 3 1 (ints (exRL x.c x.mem x.cf [x.q] (nS x.c - 1))) i.z ∧ ((exRL x.c x.mem x.cf [x.p] (nS x.c - 1)).take i.i).any (fun s => memB (exRL x.c x.mem x.cf [x.q] (nS x.c - 1)) s) = false, mu := fun i => (exRL x.c x.mem x.cf [x.p] (nS x.c - 1)).length - i.i, lv := fun i => [(11, .slice i.r.a i.r.n i.r.cap), (12, .slice i.z.a i.z.n i.z.cap), (13, .int .i64 i.i)], st := fun i => [i.r.A, i.z.A, F] }
  | _ => none
def cnOv (_x : CoX) (_F : Atom) : List (Nat × Nat × OH) := [(0, 0, .n 1000), (1, 0, .q (at8 1000)), (1, 4, .n 2040), (1, 5, .c xrC [] [2050]), (2, 0, .q (at8 1000)), (2, 4, .n 3040), (2, 5, .c xrC [] [3050]), (6, 2, .qo (ixQ 1)), (6, 3, .q [.ex 0 (.int .i64)]), (6, 5, .c amC [] [])]
noncomputable def cn_H (x : Con.X cnC) (F : Atom) : Hints where
  op := hk ((cnOv x F) ++ [])
  inv := cnInv x F
  cut := (fun _ _ _ => none) x F
  ord := (fun _ => [])
open Go.Value (int slice string bool pointer agg tuple func) in
open Go.IntKind (i64) in
set_option maxRecDepth 100000 in
theorem cn_vc (x : CoX) (F : Atom) (hc : Con.cond cnC x) (hr : Con.rdc cnC x F) :
  ∀ (b : Nat),
 Same ⟨b, 0, none⟩ b ∧
 Same ⟨b, 1, none⟩ b ∧
 Same ⟨b, 2, none⟩ b ∧
 Same ⟨b, 3, none⟩ b ∧
 Same ⟨b, 4, none⟩ b ∧
 Same ⟨b, 5, none⟩ b ∧
 Same ⟨b, 6, none⟩ b ∧
 Same ⟨b, 7, none⟩ b ∧
 ∀ (b_1 : Nat),
 FnOk Try.prog 83 xrC ∧
 true = true ∧
 ∃ (x_1 : XrX),
 [agg { toList := (chS x.c x.w) }, slice x.g.a x.g.n x.g.cap, slice x.m.a x.m.n x.m.cap, slice (some ⟨b_1, 0, none⟩) 1 1] = [agg { toList := (chS x_1.c x_1.w) }, slice x_1.g.a x_1.g.n x_1.g.cap, slice x_1.m.a x_1.m.n x_1.m.cap, slice x_1.s.a x_1.s.n x_1.s.cap] ∧
 ([] : List Atom) = [] ∧
 (newB x_1.c = true ∧ (IsSrc 1 (ints x_1.cf) x_1.g.a x_1.g.n ∧ x_1.g.n * 8 ≤ 140737488351232) ∧ IsSrc 1 (ints x_1.ts) x_1.s.a x_1.s.n ∧ x_1.s.n * 8 ≤ 140737488351232) ∧
 (ChIn (Atom.pred (rest [(0, F), (1000, Atom.cells b (chS x.c x.w) 28), (2040, Atom.cells b_1 [int i64 x.p] 3)] [])) x_1.w.v x_1.c ∧
 Srcd (Atom.pred (rest [(0, F), (1000, Atom.cells b (chS x.c x.w) 28), (2040, Atom.cells b_1 [int i64 x.p] 3)] [])) x_1.g.a (ints x_1.cf) ∧
 MemIn (Atom.pred (rest [(0, F), (1000, Atom.cells b (chS x.c x.w) 28), (2040, Atom.cells b_1 [int i64 x.p] 3)] [])) (slice x_1.m.a x_1.m.n x_1.m.cap) x_1.mem ∧
 Srcd (Atom.pred (rest [(0, F), (1000, Atom.cells b (chS x.c x.w) 28), (2040, Atom.cells b_1 [int i64 x.p] 3)] [])) x_1.s.a (ints x_1.ts)) ∧
 ∀ (y : Row),
 IsRow 3 1 (ints (exRL x_1.c x_1.mem x_1.cf x_1.ts (nS x_1.c - 1))) y →
 Same ⟨b, 0, none⟩ b ∧
 Same ⟨b, 1, none⟩ b ∧
 Same ⟨b, 2, none⟩ b ∧
 Same ⟨b, 3, none⟩ b ∧
 Same ⟨b, 4, none⟩ b ∧
 Same ⟨b, 5, none⟩ b ∧
 Same ⟨b, 6, none⟩ b ∧
 Same ⟨b, 7, none⟩ b ∧
 ∀ (b_2 : Nat),
 FnOk Try.prog 83 xrC ∧
 true = true ∧
 ∃ (x_2 : XrX),
 [agg { toList := (chS x.c x.w) }, slice x.g.a x.g.n x.g.cap, slice x.m.a x.m.n x.m.cap, slice (some ⟨b_2, 0, none⟩) 1 1] = [agg { toList := (chS x_2.c x_2.w) }, slice x_2.g.a x_2.g.n x_2.g.cap, slice x_2.m.a x_2.m.n x_2.m.cap, slice x_2.s.a x_2.s.n x_2.s.cap] ∧
 ([] : List Atom) = [] ∧
 (newB x_2.c = true ∧ (IsSrc 1 (ints x_2.cf) x_2.g.a x_2.g.n ∧ x_2.g.n * 8 ≤ 140737488351232) ∧ IsSrc 1 (ints x_2.ts) x_2.s.a x_2.s.n ∧ x_2.s.n * 8 ≤ 140737488351232) ∧
 (ChIn (Atom.pred (rest [(0, F), (1000, Atom.cells b (chS x.c x.w) 28), (2040, Atom.cells b_1 [int i64 x.p] 3), (2050, y.A), (3040, Atom.cells b_2 [int i64 x.q] 3)] [])) x_2.w.v x_2.c ∧
 Srcd (Atom.pred (rest [(0, F), (1000, Atom.cells b (chS x.c x.w) 28), (2040, Atom.cells b_1 [int i64 x.p] 3), (2050, y.A), (3040, Atom.cells b_2 [int i64 x.q] 3)] [])) x_2.g.a (ints x_2.cf) ∧
 MemIn (Atom.pred (rest [(0, F), (1000, Atom.cells b (chS x.c x.w) 28), (2040, Atom.cells b_1 [int i64 x.p] 3), (2050, y.A), (3040, Atom.cells b_2 [int i64 x.q] 3)] [])) (slice x_2.m.a x_2.m.n x_2.m.cap) x_2.mem ∧
 Srcd (Atom.pred (rest [(0, F), (1000, Atom.cells b (chS x.c x.w) 28), (2040, Atom.cells b_1 [int i64 x.p] 3), (2050, y.A), (3040, Atom.cells b_2 [int i64 x.q] 3)] [])) x_2.s.a (ints x_2.ts)) ∧
 ∀ (y_1 : Row),
 IsRow 3 1 (ints (exRL x_2.c x_2.mem x_2.cf x_2.ts (nS x_2.c - 1))) y_1 →
 (∃ (x_3 : CnI),
 (x_3.i ≤ (exRL x.c x.mem x.cf [x.p] (nS x.c - 1)).length ∧ IsRow 3 1 (ints (exRL x.c x.mem x.cf [x.p] (nS x.c - 1))) x_3.r ∧ IsRow 3 1 (ints (exRL x.c x.mem x.cf [x.q] (nS x.c - 1))) x_3.z ∧ ((List.take x_3.i (exRL x.c x.mem x.cf [x.p] (nS x.c - 1))).any fun (s : Int) => memB (exRL x.c x.mem x.cf [x.q] (nS x.c - 1)) s) = false) ∧
 (slice y.a y.n y.cap = slice x_3.r.a x_3.r.n x_3.r.cap ∧ slice y_1.a y_1.n y_1.cap = slice x_3.z.a x_3.z.n x_3.z.cap ∧ int i64 (0 : Int) = int i64 (↑x_3.i : Int) ∧ True) ∧ Ent [(0, F), (1000, Atom.cells b (chS x.c x.w) 28), (2040, Atom.cells b_1 [int i64 x.p] 3), (2050, y.A), (3040, Atom.cells b_2 [int i64 x.q] 3), (3050, y_1.A)] [(0, x_3.r.A), (1, x_3.z.A), (2, F)]) ∧
 ∀ (x_3 : CnI) (js : Nat → Value),
 x_3.i ≤ (exRL x.c x.mem x.cf [x.p] (nS x.c - 1)).length ∧ IsRow 3 1 (ints (exRL x.c x.mem x.cf [x.p] (nS x.c - 1))) x_3.r ∧ IsRow 3 1 (ints (exRL x.c x.mem x.cf [x.q] (nS x.c - 1))) x_3.z ∧ ((List.take x_3.i (exRL x.c x.mem x.cf [x.p] (nS x.c - 1))).any fun (s : Int) => memB (exRL x.c x.mem x.cf [x.q] (nS x.c - 1)) s) = false →
 Br (decide ((↑x_3.i : Int) < (↑x_3.r.n : Int)))
 (QOpOk Try.prog (opIn Try.f43 6 2) (ixQ 1) ∧
 ∃ (x_4 : IxQX),
 [slice x_3.r.a x_3.r.n x_3.r.cap, int i64 (↑x_3.i : Int)] = [slice (some ⟨x_4.b, x_4.o, none⟩) x_4.len x_4.cap, int i64 x_4.n] ∧
 ((0 : Int) ≤ x_4.n ∧ x_4.n < (↑x_4.len : Int)) ∧
 ∃ (n : Int),
 Look x_3.r.A ⟨x_4.b, x_4.o + x_4.n.toNat * 1, none⟩ (int i64 n) ∧
 FnOk Try.prog 35 amC ∧
 true = true ∧
 ∃ (x_5 : InX),
 [int i64 n, slice x_3.z.a x_3.z.n x_3.z.cap] = [int i64 x_5.v, slice x_5.a x_5.n x_5.cap] ∧
 ([] : List Atom) = [] ∧
 (IsSrc 1 (ints x_5.xs) x_5.a x_5.n ∧ x_5.n * 8 ≤ 140737488351232) ∧
 Srcd (Atom.pred (rest [(0, x_3.r.A), (1, x_3.z.A), (2, F)] [])) x_5.a (ints x_5.xs) ∧
 ∀ (y : Unit),
 True →
 Br (memB x_5.xs x_5.v) (Done cnC x F (Ending.returned (bool true)) [(0, x_3.r.A), (1, x_3.z.A), (2, F)])
 (((-9223372036854775808 : Int) ≤ (↑x_3.i : Int) + (1 : Int) ∧ (↑x_3.i : Int) + (1 : Int) ≤ (9223372036854775807 : Int)) ∧
 ∃ (y : CnI),
 (y.i ≤ (exRL x.c x.mem x.cf [x.p] (nS x.c - 1)).length ∧ IsRow 3 1 (ints (exRL x.c x.mem x.cf [x.p] (nS x.c - 1))) y.r ∧ IsRow 3 1 (ints (exRL x.c x.mem x.cf [x.q] (nS x.c - 1))) y.z ∧ ((List.take y.i (exRL x.c x.mem x.cf [x.p] (nS x.c - 1))).any fun (s : Int) => memB (exRL x.c x.mem x.cf [x.q] (nS x.c - 1)) s) = false) ∧
 (slice x_3.r.a x_3.r.n x_3.r.cap = slice y.r.a y.r.n y.r.cap ∧ slice x_3.z.a x_3.z.n x_3.z.cap = slice y.z.a y.z.n y.z.cap ∧ int i64 ((↑x_3.i : Int) + (1 : Int)) = int i64 (↑y.i : Int) ∧ True) ∧ Ent [(0, x_3.r.A), (1, x_3.z.A), (2, F)] [(0, y.r.A), (1, y.z.A), (2, F)] ∧ (exRL x.c x.mem x.cf [x.p] (nS x.c - 1)).length - y.i < (exRL x.c x.mem x.cf [x.p] (nS x.c - 1)).length - x_3.i))
 (Done cnC x F (Ending.returned (bool false)) [(0, x_3.r.A), (1, x_3.z.A), (2, F)]) := by
  obtain ⟨c, w, ⟨ga, gn, gc⟩, cf, ⟨ma, mn, mc⟩, mem, p, q⟩ := x
  obtain ⟨hnew, hg, hgn⟩ := hc
  obtain ⟨hr, hcf, hm⟩ := hr
  dsimp only at hnew hg hgn hr hcf hm ⊢
  have hpl := (newB_spec.1 hnew).1
  have hn128 := hpl.n128
  have href := cfl_ref hpl mem cf p q
  intro b
  iterate 8 refine ⟨⟨rfl, rfl⟩, ?_⟩
  refine fun b1 => ⟨xr_ok, rfl, ⟨c, w, ⟨ga, gn, gc⟩, cf, ⟨ma, mn, mc⟩, mem, ⟨some ⟨b1, 0, none⟩, 1, 1⟩, [p]⟩, rfl, rfl, ⟨hnew, ⟨hg, hgn⟩, .blk b1 0 1 rfl, by dsimp only; omega⟩, ⟨hr.sub (sub_rest 0 (by simp) rfl), Srcd.sub (A := F) (sub_rest 0 (by simp) rfl) hcf, hm.sub (sub_rest 0 (by simp) rfl), lit_srcd 2040 (by simp) rfl⟩, fun y hy => ?_⟩
  replace hy : IsRow 3 1 (ints (exRL c mem cf [p] (nS c - 1))) y := hy
  iterate 8 refine ⟨⟨rfl, rfl⟩, ?_⟩
  refine fun b2 => ⟨xr_ok, rfl, ⟨c, w, ⟨ga, gn, gc⟩, cf, ⟨ma, mn, mc⟩, mem, ⟨some ⟨b2, 0, none⟩, 1, 1⟩, [q]⟩, rfl, rfl, ⟨hnew, ⟨hg, hgn⟩, .blk b2 0 1 rfl, by dsimp only; omega⟩, ⟨hr.sub (sub_rest 0 (by simp) rfl), Srcd.sub (A := F) (sub_rest 0 (by simp) rfl) hcf, hm.sub (sub_rest 0 (by simp) rfl), lit_srcd 3040 (by simp) rfl⟩, fun z hz => ?_⟩
  replace hz : IsRow 3 1 (ints (exRL c mem cf [q] (nS c - 1))) z := hz
  refine ⟨⟨⟨0, y, z⟩, ⟨Nat.zero_le _, hy, hz, rfl⟩, ⟨rfl, rfl, rfl, trivial⟩, Ent.pick [2050, 3050, 0] rfl rfl⟩, ?_⟩
  clear hy hz y z b1 b2 b
  rintro ⟨i, y, z⟩ js ⟨hi, hy, hz, hno⟩
  dsimp only at hi hy hz hno ⊢
  have hyl : y.n = (exRL c mem cf [p] (nS c - 1)).length := by have := hy.len; rw [ints_length] at this; omega
  have hzl : z.n = (exRL c mem cf [q] (nS c - 1)).length := by have := hz.len; rw [ints_length] at this; omega
  have hxl : ∀ ts k, (exRL c mem cf ts k).length ≤ k := fun ts k => by
    induction k with
    | zero => exact Nat.le_refl _
    | succ k ih =>
      rw [exRL, List.length_append]
      cases (lft c mem ts ((nS c : Int) - 1 - k) && memB cf ((nS c : Int) - 1 - k)) with
      | true => simp; omega
      | false => simp; omega
  have l1 := hxl [p] (nS c - 1)
  have l2 := hxl [q] (nS c - 1)
  refine br_decide (fun hlt => ?_) (fun hge => ⟨(), trivial, retB ?_, Ent.pick [2] rfl rfl⟩)
  · obtain ⟨u, hu⟩ : ∃ u, (exRL c mem cf [p] (nS c - 1))[i]? = some u := ⟨_, List.getElem?_eq_getElem (by omega)⟩
    obtain ⟨b5, hb5⟩ := hy.at0 (by omega)
    have elook : Look y.A ⟨b5, 0 + (i : Int).toNat * 1, none⟩ (.int .i64 u) := by
      have hsr := hy.srcd
      rw [hb5] at hsr
      rw [show 0 + (i : Int).toNat * 1 = 0 + i by omega]
      exact hsr.look (ints_get hu)
    refine ⟨ixq_ok 1 rfl rfl rfl rfl, ⟨b5, 0, y.n, y.cap, i⟩, by rw [hb5], by dsimp only; omega, u, elook, am_ok, rfl, ⟨z.a, z.n, z.cap, _, u⟩, rfl, rfl, ⟨hz.src, by dsimp only; omega⟩, Srcd.sub (A := z.A) (sub_rest 1 (by simp) rfl) hz.srcd, fun _ _ => br_intro (fun h5 => ⟨(), trivial, retB ?_, Ent.pick [2] rfl rfl⟩) (fun h5 => ⟨⟨by omega, by omega⟩, ⟨i + 1, y, z⟩, ⟨by dsimp only; omega, hy, hz, ?_⟩, ⟨rfl, rfl, rfl, trivial⟩, Ent.pick [0, 1, 2] rfl rfl, by dsimp only; omega⟩)⟩
    · dsimp only at h5 ⊢
      rw [← href]
      exact (List.any_eq_true.2 ⟨u, List.mem_of_getElem? hu, h5⟩).symm
    · dsimp only at h5 ⊢
      rw [List.take_add_one, hu, List.any_append, hno]
      simp [h5]
  · dsimp only
    rw [List.take_of_length_le (by omega)] at hno
    rw [← href, hno]
set_option maxRecDepth 100000 in
theorem cn_ok : FnOk Try.prog 43 cnC :=
  fnOk (N := 38) (by kernel_rfl) Try.func43 rfl (by kernel_rfl) (fun _ => Nat.le_of_ble_eq_true rfl) cn_H [] fun x F hc hr => Eq.mpr (by kernel_rfl) (cn_vc x F hc hr)
end Go.Proofs.Ytkmdgnbfojkcnaa
