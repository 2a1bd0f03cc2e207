/- The memory behind leaving states, where there is neither a memory nor a history: Record. -/
import Derived.Test.YtkmdgnbfojkcnaaSetD
set_option linter.all false
namespace Go.Proofs.Ytkmdgnbfojkcnaa
open Go
set_option maxHeartbeats 1000000
structure RcX where
  b : Nat
  c : ChD
  g : Sl
  h : Sl
def recC : Con where
  X := RcX
  Y := Option Addr × Nat
  args x := [.pointer (some ⟨x.b, 0, none⟩), .slice x.g.a x.g.n x.g.cap, .slice x.h.a x.h.n x.h.cap, .slice none 0 0]
  pre _ := []
  cond x := ∀ i : Nat, i < nS x.c → kd x.c i < 4
  rdc x F := LatIn F x.b x.c
  rel _ _ := True
  val x y := .returned (.slice y.1 (nS x.c) y.2)
  post _ _ := []
  rmono _ _ _ h hk := hk.sub h
structure RcI where
  j : Nat
  rb : Nat
  w : ChS
  a : Option Addr
  cap : Nat
structure RcP (x : RcX) (F : Atom) (i : RcI) : Prop where
  j : i.j ≤ nS x.c
  w : ChIn F i.w.v x.c
def recInv (x : RcX) (F : Atom) : Nat → Option Inv := fun
  | 0 => some { X := RcI, P := fun i => RcP x F i, mu := fun i => nS x.c - i.j, lv := fun i => [(2, .slice x.h.a x.h.n x.h.cap), (3, .slice none 0 0), (9, .pointer (some ⟨i.rb, 0, none⟩)), (10, .slice i.a (nS x.c) i.cap), (23, .int .i64 (nS x.c)), (24, .int .i64 i.j)], st := fun i => [.cells i.rb (chS x.c i.w) 28, F] }
  | 2 => some { X := RcI, P := fun i => RcP x F i, mu := fun i => nS x.c - i.j, lv := fun i => [(2, .slice x.h.a x.h.n x.h.cap), (9, .pointer (some ⟨i.rb, 0, none⟩)), (10, .slice i.a (nS x.c) i.cap), (41, .slice i.w.vs.a i.w.vs.n i.w.vs.cap), (42, .int .i64 i.w.vs.n), (43, .int .i64 i.j)], st := fun i => [.cells i.rb (chS x.c i.w) 28, F] }
  | _ => none
def recOv (_x : RcX) (_F : Atom) : List (Nat × Nat × OH) := [(1, 1, .c chtC [] []), (1, 2, .n 2020), (1, 3, .w (at8 2020)), (2, 1, .q [.atj 2020]), (2, 3, .o (mkC 29 [.slice none 0 0] 24) [] [3030]), (7, 4, .o offC [] []), (7, 5, .q []),
  (9, 1, .q [.atj 0]), (11, 1, .qo (ixQ 13)), (11, 2, .q (sh13k 1)), (11, 3, .n 12030), (11, 5, .w (at13 12030)), (12, 1, .q [.atj 12030]), (12, 6, .q [.atj 12030]), (12, 7, .c offC [] [])]
noncomputable def rec_H (x : Con.X recC) (F : Atom) : Hints where
  op := hk ((recOv x F) ++ [])
  inv := recInv x F
  cut := (fun _ _ _ => none) x F
  ord := (fun _ => [])
open Go.Value (int slice string bool pointer agg tuple func) in
open Go.IntKind (i64) in
set_option maxRecDepth 100000 in
theorem rec_vc (x : RcX) (F : Atom) (hc : Con.cond recC x) (hr : Con.rdc recC x F) :
  FnOk Try.prog 17 chtC ∧
 true = true ∧
 ∃ (x_1 : ChtX),
 [pointer (some ⟨x.b, 0, none⟩)] = [pointer (some ⟨x_1.b, 0, none⟩)] ∧
 ([] : List Atom) = [] ∧
 True ∧
 (∀ (j : Nat) (u : Value), (chS x_1.c x_1.w)[j]? = some u → Look (Atom.pred (rest [(0, F)] [])) ⟨x_1.b, j, none⟩ u) ∧
 ∀ (y : Unit),
 True →
 ∀ (b : Nat),
 Same ⟨b, 0, none⟩ b ∧
 Same ⟨b, 1, none⟩ b ∧
 Same ⟨b, 2, none⟩ b ∧
 Same ⟨b, 3, none⟩ b ∧
 Same ⟨b, 4, none⟩ b ∧
 Same ⟨b, 5, none⟩ b ∧
 Same ⟨b, 6, none⟩ b ∧
 Same ⟨b, 7, none⟩ b ∧
 Same ⟨b, 3, none⟩ b ∧
 OpOk Try.prog (opIn Try.f87 2 3) (mkC (29 : TypeId) [slice none 0 0] 24) ∧
 true = true ∧
 ∃ (x_2 : MkX),
 [int i64 (↑x_1.w.vs.n : Int), int i64 (↑x_1.w.vs.n : Int)] = [int i64 x_2.n, int i64 x_2.c] ∧
 ([] : List Atom) = [] ∧
 ((0 : Int) ≤ x_2.n ∧ x_2.n ≤ x_2.c ∧ x_2.c * (↑(24 : Nat) : Int) ≤ (281474976710656 : Int) ∧ x_2.c ≤ (9223372036854775807 : Int)) ∧
 True ∧
 ∀ (y : Nat),
 True →
 (∃ (x_3 : RcI),
 RcP x F x_3 ∧
 (slice x.h.a x.h.n x.h.cap = slice x.h.a x.h.n x.h.cap ∧ slice none 0 0 = slice none 0 0 ∧ pointer (some ⟨b, 0, none⟩) = pointer (some ⟨x_3.rb, 0, none⟩) ∧ slice (some ⟨y, 0, none⟩) x_2.n.toNat x_2.c.toNat = slice x_3.a (nS x.c) x_3.cap ∧ int i64 (↑x_2.n.toNat : Int) = int i64 (↑(nS x.c) : Int) ∧ int i64 (0 : Int) = int i64 (↑x_3.j : Int) ∧ True) ∧
 Ent [(0, F), (2020, Atom.cells b (chS x_1.c x_1.w) 28), (3030, Atom.cells y (zeros [slice none 0 0] x_2.c.toNat) 29)] [(0, Atom.cells x_3.rb (chS x.c x_3.w) 28), (1, F)]) ∧
 ∀ (x_3 : RcI) (js : Nat → Value),
 RcP x F x_3 →
 Br (decide ((↑x_3.j : Int) < (↑(nS x.c) : Int)))
 (((-9223372036854775808 : Int) ≤ (↑x_3.j : Int) + (1 : Int) ∧ (↑x_3.j : Int) + (1 : Int) ≤ (9223372036854775807 : Int)) ∧
 ∃ (y : RcI),
 RcP x F y ∧
 (slice x.h.a x.h.n x.h.cap = slice x.h.a x.h.n x.h.cap ∧ slice none 0 0 = slice none 0 0 ∧ pointer (some ⟨x_3.rb, 0, none⟩) = pointer (some ⟨y.rb, 0, none⟩) ∧ slice x_3.a (nS x.c) x_3.cap = slice y.a (nS x.c) y.cap ∧ int i64 (↑(nS x.c) : Int) = int i64 (↑(nS x.c) : Int) ∧ int i64 ((↑x_3.j : Int) + (1 : Int)) = int i64 (↑y.j : Int) ∧ True) ∧
 Ent [(0, Atom.cells x_3.rb (chS x.c x_3.w) 28), (1, F)] [(0, Atom.cells y.rb (chS x.c y.w) 28), (1, F)] ∧ nS x.c - y.j < nS x.c - x_3.j)
 (Same ⟨x_3.rb, 3, none⟩ x_3.rb ∧
 (∃ (x_4 : RcI),
 RcP x F x_4 ∧
 (slice x.h.a x.h.n x.h.cap = slice x.h.a x.h.n x.h.cap ∧ pointer (some ⟨x_3.rb, 0, none⟩) = pointer (some ⟨x_4.rb, 0, none⟩) ∧ slice x_3.a (nS x.c) x_3.cap = slice x_4.a (nS x.c) x_4.cap ∧ slice x_3.w.vs.a x_3.w.vs.n x_3.w.vs.cap = slice x_4.w.vs.a x_4.w.vs.n x_4.w.vs.cap ∧ int i64 (↑x_3.w.vs.n : Int) = int i64 (↑x_4.w.vs.n : Int) ∧ int i64 (0 : Int) = int i64 (↑x_4.j : Int) ∧ True) ∧
 Ent [(0, Atom.cells x_3.rb (chS x.c x_3.w) 28), (1, F)] [(0, Atom.cells x_4.rb (chS x.c x_4.w) 28), (1, F)]) ∧
 ∀ (x_4 : RcI) (js : Nat → Value),
 RcP x F x_4 →
 Br (decide ((↑x_4.j : Int) < (↑x_4.w.vs.n : Int)))
 (QOpOk Try.prog (opIn Try.f87 11 1) (ixQ 13) ∧
 ∃ (x_5 : IxQX),
 [slice x_4.w.vs.a x_4.w.vs.n x_4.w.vs.cap, int i64 (↑x_4.j : Int)] = [slice (some ⟨x_5.b, x_5.o, none⟩) x_5.len x_5.cap, int i64 x_5.n] ∧
 ((0 : Int) ≤ x_5.n ∧ x_5.n < (↑x_5.len : Int)) ∧
 ∃ (s : ByteArray),
 Look F ⟨x_5.b, x_5.o + x_5.n.toNat * 13, none⟩ (string s) ∧
 ∃ (n : Int),
 Look F ⟨x_5.b, x_5.o + x_5.n.toNat * 13 + 1, none⟩ (int i64 n) ∧
 ∃ (n_1 : Int),
 Look F ⟨x_5.b, x_5.o + x_5.n.toNat * 13 + 2, none⟩ (int i64 n_1) ∧
 ∃ (a : Option Addr),
 ∃ (l : Nat),
 ∃ (c : Nat),
 Look F ⟨x_5.b, x_5.o + x_5.n.toNat * 13 + 3, none⟩ (slice a l c) ∧
 ∃ (n_2 : Int),
 Look F ⟨x_5.b, x_5.o + x_5.n.toNat * 13 + 4, none⟩ (int i64 n_2) ∧
 ∃ (a_1 : Option Addr),
 ∃ (l_1 : Nat),
 ∃ (c_1 : Nat),
 Look F ⟨x_5.b, x_5.o + x_5.n.toNat * 13 + 5, none⟩ (slice a_1 l_1 c_1) ∧
 ∃ (a_2 : Option Addr),
 ∃ (l_2 : Nat),
 ∃ (c_2 : Nat),
 Look F ⟨x_5.b, x_5.o + x_5.n.toNat * 13 + 6, none⟩ (slice a_2 l_2 c_2) ∧
 ∃ (a_3 : Option Addr),
 ∃ (l_3 : Nat),
 ∃ (c_3 : Nat),
 Look F ⟨x_5.b, x_5.o + x_5.n.toNat * 13 + 7, none⟩ (slice a_3 l_3 c_3) ∧
 ∃ (a_4 : Option Addr),
 ∃ (l_4 : Nat),
 ∃ (c_4 : Nat),
 Look F ⟨x_5.b, x_5.o + x_5.n.toNat * 13 + 8, none⟩ (slice a_4 l_4 c_4) ∧
 ∃ (a_5 : Option Addr),
 ∃ (l_5 : Nat),
 ∃ (c_5 : Nat),
 Look F ⟨x_5.b, x_5.o + x_5.n.toNat * 13 + 9, none⟩ (slice a_5 l_5 c_5) ∧
 ∃ (n_3 : Int),
 Look F ⟨x_5.b, x_5.o + x_5.n.toNat * 13 + 10, none⟩ (int i64 n_3) ∧
 ∃ (a_6 : Option Addr),
 ∃ (l_6 : Nat),
 ∃ (c_6 : Nat),
 Look F ⟨x_5.b, x_5.o + x_5.n.toNat * 13 + 11, none⟩ (slice a_6 l_6 c_6) ∧
 ∃ (s_1 : ByteArray),
 Look F ⟨x_5.b, x_5.o + x_5.n.toNat * 13 + 12, none⟩ (string s_1) ∧
 ∀ (b : Nat),
 Same ⟨b, 0, none⟩ b ∧
 Same ⟨b, 1, none⟩ b ∧
 Same ⟨b, 2, none⟩ b ∧
 Same ⟨b, 3, none⟩ b ∧
 Same ⟨b, 4, none⟩ b ∧
 Same ⟨b, 5, none⟩ b ∧
 Same ⟨b, 6, none⟩ b ∧
 Same ⟨b, 7, none⟩ b ∧
 Same ⟨b, 8, none⟩ b ∧
 Same ⟨b, 9, none⟩ b ∧
 Same ⟨b, 10, none⟩ b ∧
 Same ⟨b, 11, none⟩ b ∧
 Same ⟨b, 12, none⟩ b ∧
 Same ⟨b, 1, none⟩ b ∧
 Br (decide (n < (4 : Int)))
 (((-9223372036854775808 : Int) ≤ (↑x_4.j : Int) + (1 : Int) ∧ (↑x_4.j : Int) + (1 : Int) ≤ (9223372036854775807 : Int)) ∧
 ∃ (y : RcI),
 RcP x F y ∧
 (slice x.h.a x.h.n x.h.cap = slice x.h.a x.h.n x.h.cap ∧ pointer (some ⟨x_4.rb, 0, none⟩) = pointer (some ⟨y.rb, 0, none⟩) ∧ slice x_4.a (nS x.c) x_4.cap = slice y.a (nS x.c) y.cap ∧ slice x_4.w.vs.a x_4.w.vs.n x_4.w.vs.cap = slice y.w.vs.a y.w.vs.n y.w.vs.cap ∧ int i64 (↑x_4.w.vs.n : Int) = int i64 (↑y.w.vs.n : Int) ∧ int i64 ((↑x_4.j : Int) + (1 : Int)) = int i64 (↑y.j : Int) ∧ True) ∧
 Ent [(0, Atom.cells x_4.rb (chS x.c x_4.w) 28), (1, F), (12030, Atom.cells b [string s, int i64 n, int i64 n_1, slice a l c, int i64 n_2, slice a_1 l_1 c_1, slice a_2 l_2 c_2, slice a_3 l_3 c_3, slice a_4 l_4 c_4, slice a_5 l_5 c_5, int i64 n_3, slice a_6 l_6 c_6, string s_1] 61)]
 [(0, Atom.cells y.rb (chS x.c y.w) 28), (1, F)] ∧
 nS x.c - y.j < nS x.c - x_4.j)
 (Same ⟨b, 2, none⟩ b ∧ FnOk Try.prog 66 offC ∧ true = true ∧ ∃ (x_6 : List Value), [slice x.h.a x.h.n x.h.cap, int i64 n_1] = x_6 ∧ ([] : List Atom) = [] ∧ False ∧ True ∧ ∀ (y : Unit), True → False))
 (Done recC x F (Ending.returned (slice x_4.a (nS x.c) x_4.cap)) [(0, Atom.cells x_4.rb (chS x.c x_4.w) 28), (1, F)])) := by
  obtain ⟨b, c, g, h⟩ := x
  replace hr : LatIn F b c := hr
  have hk : ∀ i : Nat, i < nS c → kd c i < 4 := hc
  obtain ⟨w, hw, hch⟩ := hr.chs
  have hnum : w.vs.n = nS c := (show SlIn F (StIn F) 13 232 (.slice w.vs.a w.vs.n w.vs.cap) c.sts from hch.sts).num.1
  have hn : nS c * 232 ≤ 140737488351232 := by
    obtain ⟨_, _, _, _, hn, _⟩ := lat_w hr
    exact hn
  dsimp only
  refine ⟨cht_ok, rfl, ⟨b, c, w⟩, rfl, rfl, trivial, fun j u hj => Look.sub (A := F) (sub_rest 0 (by simp) rfl) (hw j u hj), fun _ _ r0 => ?_⟩
  iterate 9 refine ⟨⟨rfl, rfl⟩, ?_⟩
  refine ⟨make_ok (P := Try.prog) [.slice none 0 0] 24 rfl rfl rfl rfl rfl rfl (by simp) rfl, rfl, ⟨w.vs.n, w.vs.n⟩, rfl, rfl, ⟨by dsimp only; omega, by dsimp only; omega, by dsimp only; omega, by dsimp only; omega⟩, trivial, fun y _ => ⟨⟨⟨0, r0, w, some ⟨y, 0, none⟩, w.vs.n⟩, ⟨Nat.zero_le _, hch⟩, ⟨rfl, rfl, rfl, congrArg (fun n : Nat => Value.slice (some ⟨y, 0, none⟩) n w.vs.n) hnum, congrArg (fun n : Nat => Value.int .i64 n) hnum, rfl, trivial⟩, Ent.pick [2020, 0] rfl rfl⟩, ?_⟩⟩
  clear y r0 hnum hch hw w
  rintro ⟨j, rb, w, a, cap⟩ js ⟨hj, hch⟩
  dsimp only at hj hch ⊢
  have hnum : w.vs.n = nS c := (show SlIn F (StIn F) 13 232 (.slice w.vs.a w.vs.n w.vs.cap) c.sts from hch.sts).num.1
  refine br_decide (fun hlt => ⟨⟨by omega, by omega⟩, ⟨j + 1, rb, w, a, cap⟩, ⟨by dsimp only; omega, hch⟩, ⟨rfl, rfl, rfl, rfl, rfl, rfl, trivial⟩, Ent.pick [0, 1] rfl rfl, by dsimp only; omega⟩) (fun hge => ⟨⟨rfl, rfl⟩, ⟨⟨0, rb, w, a, cap⟩, ⟨Nat.zero_le _, hch⟩, ⟨rfl, rfl, rfl, rfl, rfl, rfl, trivial⟩, Ent.pick [0, 1] rfl rfl⟩, ?_⟩)
  clear hge hnum hch w rb a cap hj j
  rintro ⟨j, rb, w, a, cap⟩ js ⟨hj, hch⟩
  dsimp only at hj hch ⊢
  have h1 : SlIn F (StIn F) 13 232 (.slice w.vs.a w.vs.n w.vs.cap) c.sts := hch.sts
  have hnum : w.vs.n = nS c := h1.num.1
  refine br_decide (fun hlt => ?_) (fun hge => ⟨(a, cap), trivial, rfl, Ent.pick [1] rfl rfl⟩)
  have hi : j < nS c := by omega
  obtain ⟨st, hst⟩ := get_st hi
  obtain ⟨⟨va, vn, vcap⟩, vt, wb, wd, wi⟩ := w
  dsimp only at h1 hnum
  obtain ⟨b0, o0, r, rfl, ⟨vk, ve, vx, vtt, vd, vi, vp, rfl, p1, p2, p3, p4, p5, p6, p7⟩, hL⟩ := h1.at' hst
  obtain ⟨ka, kc, rfl, -⟩ := SlIn.open p1
  obtain ⟨ea2, ec, rfl, -⟩ := SlIn.open p2
  obtain ⟨xa, xc, rfl, -⟩ := SlIn.open p3
  obtain ⟨ta, tc, rfl, -⟩ := SlIn.open p4
  obtain ⟨da, dc, rfl, -⟩ := SlIn.open p5
  obtain ⟨ia, ic, rfl, -⟩ := SlIn.open p6
  obtain ⟨pa, pc, rfl, -⟩ := SlIn.open p7
  have hkj := hk j hi
  rw [kd_get hst] at hkj
  refine ⟨ixq_ok 13 rfl rfl rfl rfl, ⟨b0, o0, vn, vcap, j⟩, rfl, by dsimp only; omega, st.id, hL 0 _ rfl, st.kind, hL 1 _ rfl, st.parent, hL 2 _ rfl, _, _, _, hL 3 _ rfl, st.init, hL 4 _ rfl, _, _, _, hL 5 _ rfl, _, _, _, hL 6 _ rfl, _, _, _, hL 7 _ rfl, _, _, _, hL 8 _ rfl, _, _, _, hL 9 _ rfl, st.done.kind, hL 10 _ rfl, _, _, _, hL 11 _ rfl, st.done.body, hL 12 _ rfl, fun bs => ?_⟩
  iterate 14 refine ⟨⟨rfl, rfl⟩, ?_⟩
  exact br_decide (fun _ => ⟨⟨by omega, by omega⟩, ⟨j + 1, rb, ⟨_, vt, wb, wd, wi⟩, a, cap⟩, ⟨by dsimp only; omega, hch⟩, ⟨rfl, rfl, rfl, rfl, rfl, rfl, trivial⟩, Ent.pick [0, 1] rfl rfl, by dsimp only; omega⟩) (fun h => absurd hkj h)
set_option maxRecDepth 100000 in
theorem rec_ok : FnOk Try.prog 87 recC :=
  fnOk (N := 117) (by kernel_rfl) Try.func87 rfl (by kernel_rfl) (fun _ => Nat.le_of_ble_eq_true rfl) rec_H [] fun x F hc hr => Eq.mpr (by kernel_rfl) (rec_vc x F hc hr)
end Go.Proofs.Ytkmdgnbfojkcnaa
