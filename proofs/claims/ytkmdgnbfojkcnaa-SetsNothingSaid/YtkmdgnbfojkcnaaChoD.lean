/- What a memory holds of a history: history, known, remembered. -/
import Derived.Test.YtkmdgnbfojkcnaaChoC
import Derived.Test.YtkmdgnbfojkcnaaLatQO
set_option linter.all false
namespace Go.Proofs.Ytkmdgnbfojkcnaa
open Go
set_option maxHeartbeats 1000000
theorem lat_w {F : Atom} {b : Nat} {c : ChD} (h : LatIn F b c) : ∃ w : ChS, (∀ j u, (chS c w)[j]? = some u → Look F ⟨b, j, none⟩ u) ∧ w.vs.n = nS c ∧ w.vt.n = c.trs.length ∧ nS c * 232 ≤ 140737488351232 ∧ ∀ i, i < nS c → ∃ b0 o0, w.vs.a = some ⟨b0, o0, none⟩ ∧ Look F ⟨b0, o0 + i * 13 + 1, none⟩ (.int .i64 (kd c i)) ∧ Look F ⟨b0, o0 + i * 13 + 2, none⟩ (.int .i64 (pr c i)) := by
  obtain ⟨w, hw, hch⟩ := h.chs
  obtain ⟨⟨va, vn, vcap⟩, ⟨ta, tn, tc⟩, wb, wd, wi⟩ := w
  have h1 := hch.sts
  have h2 := hch.trs
  dsimp only [ChS.v] at h1 h2
  obtain ⟨n1, n2, n3⟩ := h1.num
  obtain ⟨m1, -, -⟩ := h2.num
  have e1 : vn = nS c := n1
  refine ⟨⟨⟨va, vn, vcap⟩, ⟨ta, tn, tc⟩, wb, wd, wi⟩, hw, n1, m1, by omega, fun i hi => ?_⟩
  obtain ⟨s, hs⟩ := get_st hi
  obtain ⟨b0, o0, r, rfl, ⟨vk, ve, vx, vt, vd, vi, vp, rfl, -⟩, hL⟩ := h1.at' hs
  exact ⟨b0, o0, rfl, by rw [kd_get hs]; exact hL 1 _ rfl, by rw [pr_get hs]; exact hL 2 _ rfl⟩
def isT (c : ChD) (t : Int) : Bool := decide (t ≥ 0) && decide (t < c.trs.length)
def hisB (c : ChD) (a : Int) : Bool := decide (kd c a.toNat ≥ 4)
def hisC : Con where
  X := LqX
  Y := Unit
  args x := [.pointer (some ⟨x.b, 0, none⟩), .int .i64 x.a]
  pre _ := []
  cond x := isS x.c x.a = true
  rdc x F := LatIn F x.b x.c
  rel _ _ := True
  val x _ := .returned (.bool (hisB x.c x.a))
  post _ _ := []
  rmono _ _ _ h hk := hk.sub h
def hisOv (_x : LqX) (_F : Atom) : List (Nat × Nat × OH) := [(1, 1, .c chtC [] []), (1, 4, .qo (ixQ 13)), (1, 6, .q [.ex 0 (.int .i64)])]
noncomputable def his_H (x : Con.X hisC) (F : Atom) : Hints where
  op := hk ((hisOv x F) ++ [])
  inv := (fun _ _ _ => none) x F
  cut := (fun _ _ _ => none) x F
  ord := (fun _ => [])
open Go.Value (int slice string bool pointer agg tuple func) in
open Go.IntKind (i64) in
set_option maxRecDepth 100000 in
theorem his_vc (x : LqX) (F : Atom) (hc : Con.cond hisC x) (hr : Con.rdc hisC x F) :
  FnOk Try.prog 17 chtC ∧ true = true ∧ ∃ (x_1 : ChtX), [pointer (some ⟨x.b, 0, none⟩)] = [pointer (some ⟨x_1.b, 0, none⟩)] ∧ ([] : List Atom) = [] ∧ True ∧ (∀ (j : Nat) (u : Value), (chS x_1.c x_1.w)[j]? = some u → Look (Atom.pred (rest [(0, F)] [])) ⟨x_1.b, j, none⟩ u) ∧ ∀ (y : Unit), True → QOpOk Try.prog (opIn Try.f109 1 4) (ixQ 13) ∧ ∃ (x_2 : IxQX), [slice x_1.w.vs.a x_1.w.vs.n x_1.w.vs.cap, int i64 x.a] = [slice (some ⟨x_2.b, x_2.o, none⟩) x_2.len x_2.cap, int i64 x_2.n] ∧ ((0 : Int) ≤ x_2.n ∧ x_2.n < (↑x_2.len : Int)) ∧ ∃ (n : Int), Look F ⟨x_2.b, x_2.o + x_2.n.toNat * 13 + 1, none⟩ (int i64 n) ∧ Done hisC x F (Ending.returned (bool (decide (n ≥ (4 : Int))))) [(0, F)] := by
  obtain ⟨b, c, a⟩ := x
  replace hr : LatIn F b c := hr
  obtain ⟨i, rfl, hi⟩ := isS_spec (show isS c a = true from hc)
  obtain ⟨w, hw, e1, -, -, hst⟩ := lat_w hr
  obtain ⟨b0, o0, ea, k1, -⟩ := hst i hi
  refine ⟨cht_ok, rfl, ⟨b, c, w⟩, rfl, rfl, trivial, fun j u hj => Look.sub (A := F) (sub_rest 0 (by simp) rfl) (hw j u hj), fun _ _ => ⟨ixq_ok 13 rfl rfl rfl rfl, ⟨b0, o0, w.vs.n, w.vs.cap, i⟩, by dsimp only; rw [ea], by dsimp only; rw [e1]; omega, kd c i, k1, (), trivial, retB rfl, Ent.pick [0] rfl rfl⟩⟩
set_option maxRecDepth 100000 in
theorem his_ok : FnOk Try.prog 109 hisC :=
  fnOk (N := 13) (by kernel_rfl) Try.func109 rfl (by kernel_rfl) (fun _ => Nat.le_of_ble_eq_true rfl) his_H [] fun x F hc hr => Eq.mpr (by kernel_rfl) (his_vc x F hc hr)
def knoC : Con where
  X := LqX
  Y := Unit
  args x := [.pointer (some ⟨x.b, 0, none⟩), .int .i64 x.a]
  pre _ := []
  cond _ := True
  rdc x F := LatIn F x.b x.c
  rel _ _ := True
  val x _ := .returned (.bool (isT x.c x.a))
  post _ _ := []
  rmono _ _ _ h hk := hk.sub h
def knoOv (_x : LqX) (_F : Atom) : List (Nat × Nat × OH) := [(1, 5, .c chtC [] [])]
noncomputable def kno_H (x : Con.X knoC) (F : Atom) : Hints where
  op := hk ((knoOv x F) ++ [])
  inv := (fun _ _ _ => none) x F
  cut := (fun _ _ _ => none) x F
  ord := (fun _ => [])
open Go.Value (int slice string bool pointer agg tuple func) in
open Go.IntKind (i64) in
set_option maxRecDepth 100000 in
theorem kno_vc (x : LqX) (F : Atom) (hc : Con.cond knoC x) (hr : Con.rdc knoC x F) :
  Br (decide (x.a ≥ (0 : Int))) (FnOk Try.prog 17 chtC ∧ true = true ∧ ∃ (x_1 : ChtX), [pointer (some ⟨x.b, 0, none⟩)] = [pointer (some ⟨x_1.b, 0, none⟩)] ∧ ([] : List Atom) = [] ∧ True ∧ (∀ (j : Nat) (u : Value), (chS x_1.c x_1.w)[j]? = some u → Look (Atom.pred (rest [(0, F)] [])) ⟨x_1.b, j, none⟩ u) ∧ ∀ (y : Unit), True → Done knoC x F (Ending.returned (bool (decide (x.a < (↑x_1.w.vt.n : Int))))) [(0, F)]) (Done knoC x F (Ending.returned (bool false)) [(0, F)]) := by
  obtain ⟨b, c, a⟩ := x
  replace hr : LatIn F b c := hr
  obtain ⟨w, hw, -, e2, -⟩ := lat_w hr
  refine br_intro (fun h => ⟨cht_ok, rfl, ⟨b, c, w⟩, rfl, rfl, trivial, fun j u hj => Look.sub (A := F) (sub_rest 0 (by simp) rfl) (hw j u hj), fun _ _ => ⟨(), trivial, retB ?_, Ent.pick [0] rfl rfl⟩⟩) (fun h => ⟨(), trivial, retB ?_, Ent.pick [0] rfl rfl⟩)
  · dsimp only at h ⊢
    unfold isT
    rw [h, e2]; rfl
  · dsimp only at h ⊢
    unfold isT
    rw [h]; rfl
set_option maxRecDepth 100000 in
theorem kno_ok : FnOk Try.prog 110 knoC :=
  fnOk (N := 15) (by kernel_rfl) Try.func110 rfl (by kernel_rfl) (fun _ => Nat.le_of_ble_eq_true rfl) kno_H [] fun x F hc hr => Eq.mpr (by kernel_rfl) (kno_vc x F hc hr)
/-- Which of what is remembered is none of a history's. -/
def remG (c : ChD) (h : Int) (s : Int) : Bool := decide (s < 1) || (decide (s ≥ nS c) || (hisB c s || !inB c s (pr c h.toNat)))
structure Rm1X where
  c1 : Nat
  c2 : Nat
  b : Nat
  c : ChD
  h : Int
  s : Int
def rm1C : Con where
  X := Rm1X
  Y := Unit
  args x := [.int .i64 x.s, .pointer (some ⟨x.c1, 0, none⟩), .pointer (some ⟨x.c2, 0, none⟩)]
  pre _ := []
  cond x := isS x.c x.h = true
  rdc x F := Look F ⟨x.c1, 0, none⟩ (.pointer (some ⟨x.b, 0, none⟩)) ∧ Look F ⟨x.c2, 0, none⟩ (.int .i64 x.h) ∧ LatIn F x.b x.c
  rel _ _ := True
  val x _ := .returned (.bool (remG x.c x.h x.s))
  post _ _ := []
  rmono _ _ _ h hk := ⟨hk.1.sub h, hk.2.1.sub h, hk.2.2.sub h⟩
def rm1Ov (x : Rm1X) (_F : Atom) : List (Nat × Nat × OH) := [(1, 4, .q [.ex 0 (.is (.pointer (some ⟨x.b, 0, none⟩)))]), (1, 5, .c chtC [] []), (1, 11, .q [.ex 0 (.is (.pointer (some ⟨x.b, 0, none⟩)))]), (1, 12, .c chtC [] []), (1, 15, .qo (ixQ 13)), (1, 17, .q [.ex 0 (.int .i64)]), (1, 21, .q [.ex 0 (.is (.pointer (some ⟨x.b, 0, none⟩)))]), (1, 23, .q [.ex 0 (.is (.pointer (some ⟨x.b, 0, none⟩)))]), (1, 24, .c chtC [] []), (1, 26, .q [.ex 0 (.is (.int .i64 x.h))]), (1, 27, .qo (ixQ 13)), (1, 29, .q [.ex 0 (.int .i64)]), (1, 30, .c insideC [] [])]
noncomputable def rm1_H (x : Con.X rm1C) (F : Atom) : Hints where
  op := hk ((rm1Ov x F) ++ [])
  inv := (fun _ _ _ => none) x F
  cut := (fun _ _ _ => none) x F
  ord := (fun _ => [])
open Go.Value (int slice string bool pointer agg tuple func) in
open Go.IntKind (i64) in
set_option maxRecDepth 100000 in
theorem rm1_vc (x : Rm1X) (F : Atom) (hc : Con.cond rm1C x) (hr : Con.rdc rm1C x F) :
  true = true ∧
 Br (decide (x.s < (1 : Int))) (Done rm1C x F (Ending.returned (bool true)) [(0, F)])
 (Look F ⟨x.c1, 0, none⟩ (pointer (some ⟨x.b, 0, none⟩)) ∧
 FnOk Try.prog 17 chtC ∧
 true = true ∧
 ∃ (x_1 : ChtX),
 [pointer (some ⟨x.b, 0, none⟩)] = [pointer (some ⟨x_1.b, 0, none⟩)] ∧
 ([] : List Atom) = [] ∧
 True ∧
 (∀ (j : Nat) (u : Value), (chS x_1.c x_1.w)[j]? = some u → Look (Atom.pred (rest [(0, F)] [])) ⟨x_1.b, j, none⟩ u) ∧
 ∀ (y : Unit),
 True →
 Br (decide (x.s ≥ (↑x_1.w.vs.n : Int))) (Done rm1C x F (Ending.returned (bool true)) [(0, F)])
 (Look F ⟨x.c1, 0, none⟩ (pointer (some ⟨x.b, 0, none⟩)) ∧
 FnOk Try.prog 17 chtC ∧
 true = true ∧
 ∃ (x_2 : ChtX),
 [pointer (some ⟨x.b, 0, none⟩)] = [pointer (some ⟨x_2.b, 0, none⟩)] ∧
 ([] : List Atom) = [] ∧
 True ∧
 (∀ (j : Nat) (u : Value), (chS x_2.c x_2.w)[j]? = some u → Look (Atom.pred (rest [(0, F)] [])) ⟨x_2.b, j, none⟩ u) ∧
 ∀ (y : Unit),
 True →
 QOpOk Try.prog (opIn Try.f123 1 15) (ixQ 13) ∧
 ∃ (x_3 : IxQX),
 [slice x_2.w.vs.a x_2.w.vs.n x_2.w.vs.cap, int i64 x.s] = [slice (some ⟨x_3.b, x_3.o, none⟩) x_3.len x_3.cap, int i64 x_3.n] ∧
 ((0 : Int) ≤ x_3.n ∧ x_3.n < (↑x_3.len : Int)) ∧
 ∃ (n : Int),
 Look F ⟨x_3.b, x_3.o + x_3.n.toNat * 13 + 1, none⟩ (int i64 n) ∧
 Br (decide (n ≥ (4 : Int))) (Done rm1C x F (Ending.returned (bool true)) [(0, F)])
 (Look F ⟨x.c1, 0, none⟩ (pointer (some ⟨x.b, 0, none⟩)) ∧
 Look F ⟨x.c1, 0, none⟩ (pointer (some ⟨x.b, 0, none⟩)) ∧
 FnOk Try.prog 17 chtC ∧
 true = true ∧
 ∃ (x_4 : ChtX),
 [pointer (some ⟨x.b, 0, none⟩)] = [pointer (some ⟨x_4.b, 0, none⟩)] ∧
 ([] : List Atom) = [] ∧
 True ∧
 (∀ (j : Nat) (u : Value), (chS x_4.c x_4.w)[j]? = some u → Look (Atom.pred (rest [(0, F)] [])) ⟨x_4.b, j, none⟩ u) ∧
 ∀ (y : Unit),
 True →
 Look F ⟨x.c2, 0, none⟩ (int i64 x.h) ∧
 QOpOk Try.prog (opIn Try.f123 1 27) (ixQ 13) ∧ ∃ (x_5 : IxQX), [slice x_4.w.vs.a x_4.w.vs.n x_4.w.vs.cap, int i64 x.h] = [slice (some ⟨x_5.b, x_5.o, none⟩) x_5.len x_5.cap, int i64 x_5.n] ∧ ((0 : Int) ≤ x_5.n ∧ x_5.n < (↑x_5.len : Int)) ∧ ∃ (n : Int), Look F ⟨x_5.b, x_5.o + x_5.n.toNat * 13 + 2, none⟩ (int i64 n) ∧ FnOk Try.prog 18 insideC ∧ true = true ∧ ∃ (x_6 : L2X), [pointer (some ⟨x.b, 0, none⟩), int i64 x.s, int i64 n] = [pointer (some ⟨x_6.b, 0, none⟩), int i64 x_6.a, int i64 x_6.d] ∧ ([] : List Atom) = [] ∧ True ∧ LatIn (Atom.pred (rest [(0, F)] [])) x_6.b x_6.c ∧ ∀ (y : Unit), True → Done rm1C x F (Ending.returned (bool !inB x_6.c x_6.a x_6.d)) [(0, F)]))) := by
  obtain ⟨c1, c2, b, c, h, s⟩ := x
  obtain ⟨r1, r2, hr⟩ := hr
  dsimp only at r1 r2 hr
  obtain ⟨i, rfl, hi⟩ := isS_spec (show isS c h = true from hc)
  obtain ⟨w, hw, e1, -, -, hst⟩ := lat_w hr
  obtain ⟨b0, o0, ea, -, k2⟩ := hst i hi
  refine ⟨rfl, br_intro (fun h1 => ⟨(), trivial, retB ?_, Ent.pick [0] rfl rfl⟩) (fun h1 => ⟨r1, cht_ok, rfl, ⟨b, c, w⟩, rfl, rfl, trivial, fun j u hj => Look.sub (A := F) (sub_rest 0 (by simp) rfl) (hw j u hj), fun _ _ => br_intro (fun h2 => ⟨(), trivial, retB ?_, Ent.pick [0] rfl rfl⟩) (fun h2 => ?_)⟩)⟩
  · dsimp only at h1
    unfold remG
    rw [h1]; rfl
  · dsimp only at h1 h2
    rw [e1] at h2
    unfold remG
    rw [h1, h2]; rfl
  dsimp only at h1 h2
  rw [e1] at h2
  have hs1 : ¬ s < 1 := of_decide_eq_false h1
  have hs2 : ¬ s ≥ nS c := of_decide_eq_false h2
  obtain ⟨q, rfl⟩ : ∃ q : Nat, s = q := ⟨s.toNat, by omega⟩
  obtain ⟨b0', o0', ea', k1, -⟩ := hst q (by omega)
  refine ⟨r1, cht_ok, rfl, ⟨b, c, w⟩, rfl, rfl, trivial, fun j u hj => Look.sub (A := F) (sub_rest 0 (by simp) rfl) (hw j u hj), fun _ _ => ⟨ixq_ok 13 rfl rfl rfl rfl, ⟨b0', o0', w.vs.n, w.vs.cap, q⟩, by dsimp only; rw [ea'], by dsimp only; rw [e1]; omega, kd c q, k1, br_intro (fun h3 => ⟨(), trivial, retB ?_, Ent.pick [0] rfl rfl⟩) (fun h3 => ⟨r1, r1, cht_ok, rfl, ⟨b, c, w⟩, rfl, rfl, trivial, fun j u hj => Look.sub (A := F) (sub_rest 0 (by simp) rfl) (hw j u hj), fun _ _ => ⟨r2, ixq_ok 13 rfl rfl rfl rfl, ⟨b0, o0, w.vs.n, w.vs.cap, i⟩, by dsimp only; rw [ea], by dsimp only; rw [e1]; omega, pr c i, k2, inside_ok, rfl, ⟨b, c, q, pr c i⟩, rfl, rfl, trivial, hr.sub (sub_rest 0 (by simp) rfl), fun _ _ => ⟨(), trivial, retB ?_, Ent.pick [0] rfl rfl⟩⟩⟩)⟩⟩
  · unfold remG hisB
    rw [h1, h2, Int.toNat_natCast, h3]; rfl
  · unfold remG hisB
    rw [h1, h2, Int.toNat_natCast, Int.toNat_natCast, h3]; rfl
set_option maxRecDepth 100000 in
theorem rm1_ok : FnOk Try.prog 123 rm1C :=
  fnOk (N := 38) (by kernel_rfl) Try.func123 rfl (by kernel_rfl) (fun _ => Nat.le_of_ble_eq_true rfl) rm1_H [] fun x F hc hr => Eq.mpr (by kernel_rfl) (rm1_vc x F hc hr)
def MemIn (F : Atom) (v : Value) (mem : List (List Int)) : Prop := SlIn F (fun r m => ∃ u, r = [u] ∧ IntsIn F u m) 1 24 v mem
theorem MemIn.sub {A B : Atom} {v : Value} {mem : List (List Int)} (hs : Sub A B) (h : MemIn A v mem) : MemIn B v mem := SlIn.sub hs (fun _ _ ⟨u, e, h⟩ => ⟨u, e, h.sub hs⟩) h
theorem rm1_clo (c1 c2 b : Nat) (c : ChD) (h : Int) (hh : isS c h = true) : FnOk Try.prog 123 (goC (capsM 2 c1 c2 0 0) (remG c h) (fun _ => True) (fun F => Look F ⟨c1, 0, none⟩ (.pointer (some ⟨b, 0, none⟩)) ∧ Look F ⟨c2, 0, none⟩ (.int .i64 h) ∧ LatIn F b c) (fun _ _ h hk => ⟨hk.1.sub h, hk.2.1.sub h, hk.2.2.sub h⟩)) :=
  ⟨fun s F I w _ hr hs => rm1_ok.h ⟨c1, c2, b, c, h, s⟩ F I w hh hr hs⟩
structure RmX where
  b : Nat
  c : ChD
  m : Sl
  mem : List (List Int)
  h : Int
def remV (c : ChD) (mem : List (List Int)) (h : Int) : List Int := rest0 (remG c h) (mem.getD h.toNat [])
def rmC : Con where
  X := RmX
  Y := Row
  args x := [.pointer (some ⟨x.b, 0, none⟩), .slice x.m.a x.m.n x.m.cap, .int .i64 x.h]
  pre _ := []
  cond x := isS x.c x.h = true
  rdc x F := LatIn F x.b x.c ∧ MemIn F (.slice x.m.a x.m.n x.m.cap) x.mem
  rel x y := IsRow 3 1 (ints (remV x.c x.mem x.h)) y ∧ y.n * 8 ≤ 140737488351232
  val _ y := .returned (.slice y.a y.n y.cap)
  post _ y := [y.A]
  rmono _ _ _ h hk := ⟨hk.1.sub h, hk.2.sub h⟩
def rmOv (_x : RmX) (_F : Atom) : List (Nat × Nat × OH) := [(0, 0, .n 1000), (0, 1, .n 1010), (1, 0, .q [.atj 1010]), (3, 1, .q [.atj 1010]), (3, 2, .qo (ixQ 1)), (3, 3, .q [.ex 0 .slice]), (3, 4, .c (clnRC 3 1 8) [] [4040]), (3, 6, .c (delC 123 2) [4040] [4060])]
noncomputable def rm_H (x : Con.X rmC) (F : Atom) : Hints where
  op := hk ((rmOv x F) ++ [])
  inv := (fun _ _ _ => none) x F
  cut := (fun _ _ _ => none) x F
  ord := (fun _ => [])
open Go.Value (int slice string bool pointer agg tuple func) in
open Go.IntKind (i64) in
set_option maxRecDepth 100000 in
theorem rm_vc (x : RmX) (F : Atom) (hc : Con.cond rmC x) (hr : Con.rdc rmC x F) :
  ∀ (b b_1 : Nat),
 Same ⟨b_1, 0, none⟩ b_1 ∧
 Br (decide (x.h ≥ (↑x.m.n : Int))) (Done rmC x F (Ending.returned (slice none 0 0)) [(0, F), (1000, Atom.cells b [pointer (some ⟨x.b, 0, none⟩)] 34), (1010, Atom.cells b_1 [int i64 x.h] 3)])
 (Same ⟨b_1, 0, none⟩ b_1 ∧
 QOpOk Try.prog (opIn Try.f112 3 2) (ixQ 1) ∧
 ∃ (x_1 : IxQX),
 [slice x.m.a x.m.n x.m.cap, int i64 x.h] = [slice (some ⟨x_1.b, x_1.o, none⟩) x_1.len x_1.cap, int i64 x_1.n] ∧
 ((0 : Int) ≤ x_1.n ∧ x_1.n < (↑x_1.len : Int)) ∧
 ∃ (a : Option Addr),
 ∃ (l : Nat),
 ∃ (c : Nat),
 Look F ⟨x_1.b, x_1.o + x_1.n.toNat * 1, none⟩ (slice a l c) ∧
 FnOk Try.prog 68 (clnRC 3 1 8) ∧
 true = true ∧
 ∃ (x_2 : ClrX),
 [slice a l c] = [slice x_2.a x_2.n x_2.cap] ∧
 ([] : List Atom) = [] ∧
 (IsSrc 1 x_2.ys x_2.a x_2.n ∧ (∀ (u : Value), u ∈ x_2.ys → u.oneCell' = true) ∧ x_2.n * 8 ≤ 140737488351232 ∧ (x_2.a = none → x_2.cap = 0)) ∧
 Srcd (Atom.pred (rest [(0, F), (1000, Atom.cells b [pointer (some ⟨x.b, 0, none⟩)] 34), (1010, Atom.cells b_1 [int i64 x.h] 3)] [])) x_2.a x_2.ys ∧
 ∀ (y : Row),
 IsRow 3 1 x_2.ys y ∧ y.n = x_2.n →
 FnOk Try.prog 81 (delC (123 : FuncId) 2) ∧
 true = true ∧
 ∃ (x_3 : DelX (123 : FuncId) 2),
 [slice y.a y.n y.cap, func (Fn.func 123) { toList := [] } { toList := [pointer (some ⟨b, 0, none⟩), pointer (some ⟨b_1, 0, none⟩)] }] = [slice x_3.r.a x_3.r.n x_3.r.cap, func (Fn.func 123) { toList := [] } { toList := [pointer (some ⟨x_3.L.c1, 0, none⟩), pointer (some ⟨x_3.L.c2, 0, none⟩)] }] ∧
 [y.A] = [x_3.r.A] ∧ (IsRow 3 1 (ints x_3.xs) x_3.r ∧ x_3.r.n * 8 ≤ 140737488351232 ∧ ∀ (u : Int), u ∈ x_3.xs → x_3.L.ok u) ∧ x_3.L.7 (Atom.pred (rest [(0, F), (1000, Atom.cells b [pointer (some ⟨x.b, 0, none⟩)] 34), (1010, Atom.cells b_1 [int i64 x.h] 3), (4040, y.A)] [4040])) ∧ ∀ (y : Row), IsRow 3 1 (ints (rest0 x_3.L.g x_3.xs)) y → Done rmC x F (Ending.returned (slice y.a y.n y.cap)) [(0, F), (1000, Atom.cells b [pointer (some ⟨x.b, 0, none⟩)] 34), (1010, Atom.cells b_1 [int i64 x.h] 3), (4040, Atom.emp), (4060, y.A)]) := by
  obtain ⟨b, c, ⟨ma, mn, mc⟩, mem, h⟩ := x
  obtain ⟨hr, hm⟩ := hr
  replace hr : LatIn F b c := hr
  dsimp only at hm
  have hh : isS c h = true := hc
  obtain ⟨i, rfl, hi⟩ := isS_spec hh
  obtain ⟨n1, n2, n3⟩ := SlIn.num hm
  intro b1 b2
  refine ⟨⟨rfl, rfl⟩, br_intro (fun h1 => ⟨nilRow, ?_, rfl, Ent.pick [77, 0] rfl rfl⟩) (fun h1 => ?_)⟩
  · have hge := of_decide_eq_true h1
    dsimp only at hge
    refine ⟨?_, Nat.zero_le _⟩
    show IsRow 3 1 (ints (remV c mem (i : Int))) nilRow
    have e : mem[i]? = none := List.getElem?_eq_none (by omega)
    unfold remV
    rw [Int.toNat_natCast, List.getD_eq_getElem?_getD, e]
    exact .nil rfl
  · have hlt := of_decide_eq_false h1
    dsimp only at hlt
    obtain ⟨m, hmi⟩ : ∃ m, mem[i]? = some m := ⟨_, List.getElem?_eq_getElem (by omega)⟩
    obtain ⟨b0, o0, r, rfl, ⟨u, rfl, hI⟩, hL⟩ := SlIn.at' hm hmi
    obtain ⟨ka, kcap, rfl, -⟩ := SlIn.open hI
    obtain ⟨g1, g2, g3, g4, g5⟩ := hI.srcd
    have eo : o0 + (i : Int).toNat * 1 = o0 + i * 1 + 0 := by omega
    refine ⟨⟨rfl, rfl⟩, ixq_ok 1 rfl rfl rfl rfl, ⟨b0, o0, mn, mc, i⟩, rfl, by dsimp only; omega, _, _, _, by dsimp only; rw [eo]; exact hL 0 _ rfl, clnI_ok, rfl, ⟨ka, _, kcap, ints m⟩, rfl, rfl, ⟨g1, fun _ h => ints_one h, g3, g4⟩, Srcd.sub (A := F) (sub_rest 0 (by simp) rfl) g2, fun y hy => ?_⟩
    obtain ⟨y1, y2⟩ := hy
    dsimp only at y1 y2
    refine ⟨delu_ok, rfl, ⟨⟨b1, b2, 0, 0, remG c i, fun _ => True, fun F => Look F ⟨b1, 0, none⟩ (.pointer (some ⟨b, 0, none⟩)) ∧ Look F ⟨b2, 0, none⟩ (.int .i64 i) ∧ LatIn F b c, fun _ _ h hk => ⟨hk.1.sub h, hk.2.1.sub h, hk.2.2.sub h⟩, rm1_clo b1 b2 b c i hh⟩, m, y⟩, rfl, rfl, ⟨y1, by dsimp only; omega, fun _ _ => trivial⟩, ⟨Look.rest (j := 1000) (by simp) (Look.cells rfl), Look.rest (j := 1010) (by simp) (Look.cells rfl), hr.sub (sub_rest 0 (by simp) rfl)⟩, fun z hz => ⟨z, ?_, rfl, Ent.pick [4060, 0] rfl rfl⟩⟩
    replace hz : IsRow 3 1 (ints (rest0 (remG c i) m)) z := hz
    refine ⟨?_, by
      have h1 := hz.len
      rw [ints_length] at h1
      have h2 : (rest0 (remG c i) m).length ≤ m.length := List.length_filter_le _ _
      omega⟩
    show IsRow 3 1 (ints (remV c mem (i : Int))) z
    unfold remV
    rw [Int.toNat_natCast, List.getD_eq_getElem?_getD, hmi]
    exact hz
set_option maxRecDepth 100000 in
theorem rm_ok : FnOk Try.prog 112 rmC :=
  fnOk (N := 18) (by kernel_rfl) Try.func112 rfl (by kernel_rfl) (fun _ => Nat.le_of_ble_eq_true rfl) rm_H [] fun x F hc hr => Eq.mpr (by kernel_rfl) (rm_vc x F hc hr)
end Go.Proofs.Ytkmdgnbfojkcnaa
