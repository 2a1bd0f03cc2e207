/- A state's Initial. -/
import Derived.Test.YtkmdgnbfojkcnaaLatG
set_option linter.all false
namespace Go.Proofs.Ytkmdgnbfojkcnaa
open Go
set_option maxHeartbeats 1000000
theorem LatIn.trs {F : Atom} {b : Nat} {c : ChD} (h : LatIn F b c) : ∃ a cap, Look F ⟨b, 4, none⟩ (.slice a c.trs.length cap) ∧ c.trs.length * 88 ≤ 140737488351232 ∧ ∀ i t, c.trs[i]? = some t → ∃ b1 o1 r, a = some ⟨b1, o1, none⟩ ∧ TrIn F r t ∧ ∀ j u, r[j]? = some u → Look F ⟨b1, o1 + i * 6 + j, none⟩ u := by
  obtain ⟨v, h1, h2⟩ := h.ch
  obtain ⟨a, cap, e, h3, h4, h5, h6⟩ := h2.trs.open
  refine ⟨a, cap, by have := h1 4 v.vt rfl; rw [e] at this; exact this, h5, fun i t ht => ?_⟩
  obtain ⟨b', o', r', ea', -, hR, hL⟩ := h6 i t ht
  exact ⟨b', o', r', ea', hR, hL⟩
def badT (c : ChD) (i : Int) (s : StD) (hist : Bool) (a : Int) : Bool := bif !hist then !insB c a.toNat i.toNat else bif s.kind == 4 then !memB (kidsP c s.parent.toNat) a else bif !insB c a.toNat s.parent.toNat then true else decide (kd c a.toNat ≥ 4)
structure I1X where
  c1 : Nat
  c2 : Nat
  c3 : Nat
  c4 : Nat
  b : Nat
  c : ChD
  hist : Bool
  i : Int
  s : StD
  a : Int
def i1R (c1 c2 c3 c4 b : Nat) (c : ChD) (hist : Bool) (i : Int) (s : StD) (F : Atom) : Prop := Look F ⟨c1, 0, none⟩ (.bool hist) ∧ Look F ⟨c2, 0, none⟩ (.pointer (some ⟨b, 0, none⟩)) ∧ Look F ⟨c3, 0, none⟩ (.int .i64 i) ∧ Look F ⟨c4, 1, none⟩ (.int .i64 s.kind) ∧ Look F ⟨c4, 2, none⟩ (.int .i64 s.parent) ∧ LatIn F b c
theorem i1R_mono {c1 c2 c3 c4 b : Nat} {c : ChD} {hist : Bool} {i : Int} {s : StD} (A B : Atom) (h : Sub A B) (hk : i1R c1 c2 c3 c4 b c hist i s A) : i1R c1 c2 c3 c4 b c hist i s B :=
  ⟨hk.1.sub h, hk.2.1.sub h, hk.2.2.1.sub h, hk.2.2.2.1.sub h, hk.2.2.2.2.1.sub h, hk.2.2.2.2.2.sub h⟩
def i1C : Con where
  X := I1X
  Y := Unit
  args x := [.int .i64 x.a, .pointer (some ⟨x.c1, 0, none⟩), .pointer (some ⟨x.c2, 0, none⟩), .pointer (some ⟨x.c3, 0, none⟩), .pointer (some ⟨x.c4, 0, none⟩)]
  pre _ := []
  cond x := isS x.c x.a = true ∧ isS x.c x.i = true ∧ (x.hist = true → isS x.c x.s.parent = true)
  rdc x F := i1R x.c1 x.c2 x.c3 x.c4 x.b x.c x.hist x.i x.s F
  rel _ _ := True
  val x _ := .returned (.bool (badT x.c x.i x.s x.hist x.a))
  post _ _ := []
  rmono _ _ _ h hk := i1R_mono _ _ h hk
def i1Ov (x : I1X) (_F : Atom) : List (Nat × Nat × OH) := [(1, 0, .q [.ex 0 (.is (.bool x.hist))]), (2, 0, .q [.ex 0 (.is (.pointer (some ⟨x.b, 0, none⟩)))]), (2, 3, .q [.ex 0 .slice]), (2, 5, .qo (ixQ 1)), (2, 6, .q [.ex 0 .slice]), (2, 7, .q [.ex 0 (.is (.int .i64 x.i))]), (2, 8, .qo (ixQ 1)), (2, 9, .q [.ex 0 .bool]),
  (3, 1, .q [.ex 0 (.is (.int .i64 x.s.kind))]), (4, 0, .q [.ex 0 (.is (.pointer (some ⟨x.b, 0, none⟩)))]), (4, 3, .q [.ex 0 .slice]), (4, 5, .q [.ex 0 (.is (.int .i64 x.s.parent))]), (4, 6, .qo (ixQ 1)), (4, 7, .q [.ex 0 .slice]), (4, 9, .c coC' [] []),
  (5, 0, .q [.ex 0 (.is (.pointer (some ⟨x.b, 0, none⟩)))]), (5, 3, .q [.ex 0 .slice]), (5, 5, .qo (ixQ 1)), (5, 6, .q [.ex 0 .slice]), (5, 8, .q [.ex 0 (.is (.int .i64 x.s.parent))]), (5, 9, .qo (ixQ 1)), (5, 10, .q [.ex 0 .bool]), (5, 13, .q [.ex 0 (.is (.pointer (some ⟨x.b, 0, none⟩)))]), (5, 17, .q [.ex 0 .slice]), (5, 19, .qo (ixQ 13)), (5, 21, .q [.ex 0 (.int .i64)])]
noncomputable def i1_H (x : Con.X i1C) (F : Atom) : Hints where
  op := hk ((i1Ov x F) ++ [])
  inv := (fun _ _ _ => none) x F
  cut := (fun _ _ _ => none) x F
  ord := (fun _ => [])
open Go.Value (int slice string bool pointer agg tuple func) in
open Go.IntKind (i64) in
set_option maxRecDepth 100000 in
theorem i1_vc (x : I1X) (F : Atom) (hc : Con.cond i1C x) (hr : Con.rdc i1C x F) :
  Look F ⟨x.c1, 0, none⟩ (bool x.hist) ∧
 Br (!x.hist)
 (true = true ∧
 Look F ⟨x.c2, 0, none⟩ (pointer (some ⟨x.b, 0, none⟩)) ∧
 ∃ (a : Option Addr),
 ∃ (l : Nat),
 ∃ (c : Nat),
 Look F ⟨x.b, 8, none⟩ (slice a l c) ∧
 QOpOk Try.prog (opIn Try.f120 2 5) (ixQ 1) ∧ ∃ (x_1 : IxQX), [slice a l c, int i64 x.a] = [slice (some ⟨x_1.b, x_1.o, none⟩) x_1.len x_1.cap, int i64 x_1.n] ∧ ((0 : Int) ≤ x_1.n ∧ x_1.n < (↑x_1.len : Int)) ∧ ∃ (a : Option Addr), ∃ (l : Nat), ∃ (c : Nat), Look F ⟨x_1.b, x_1.o + x_1.n.toNat * 1, none⟩ (slice a l c) ∧ Look F ⟨x.c3, 0, none⟩ (int i64 x.i) ∧ QOpOk Try.prog (opIn Try.f120 2 8) (ixQ 1) ∧ ∃ (x_2 : IxQX), [slice a l c, int i64 x.i] = [slice (some ⟨x_2.b, x_2.o, none⟩) x_2.len x_2.cap, int i64 x_2.n] ∧ ((0 : Int) ≤ x_2.n ∧ x_2.n < (↑x_2.len : Int)) ∧ ∃ (b : Bool), Look F ⟨x_2.b, x_2.o + x_2.n.toNat * 1, none⟩ (bool b) ∧ Done i1C x F (Ending.returned (bool !b)) [(0, F)])
 (Look F ⟨x.c4, 1, none⟩ (int i64 x.s.kind) ∧
 Br (x.s.kind == (4 : Int))
 (true = true ∧
 Look F ⟨x.c2, 0, none⟩ (pointer (some ⟨x.b, 0, none⟩)) ∧
 ∃ (a : Option Addr),
 ∃ (l : Nat),
 ∃ (c : Nat),
 Look F ⟨x.b, 9, none⟩ (slice a l c) ∧
 Look F ⟨x.c4, 2, none⟩ (int i64 x.s.parent) ∧ QOpOk Try.prog (opIn Try.f120 4 6) (ixQ 1) ∧ ∃ (x_1 : IxQX), [slice a l c, int i64 x.s.parent] = [slice (some ⟨x_1.b, x_1.o, none⟩) x_1.len x_1.cap, int i64 x_1.n] ∧ ((0 : Int) ≤ x_1.n ∧ x_1.n < (↑x_1.len : Int)) ∧ ∃ (a : Option Addr), ∃ (l : Nat), ∃ (c : Nat), Look F ⟨x_1.b, x_1.o + x_1.n.toNat * 1, none⟩ (slice a l c) ∧ FnOk Try.prog 66 coC' ∧ true = true ∧ ∃ (x_2 : InX), [slice a l c, int i64 x.a] = [slice x_2.a x_2.n x_2.cap, int i64 x_2.v] ∧ ([] : List Atom) = [] ∧ (IsSrc 1 (ints x_2.xs) x_2.a x_2.n ∧ x_2.n * 8 ≤ 140737488351232) ∧ Srcd (Atom.pred (rest [(0, F)] [])) x_2.a (ints x_2.xs) ∧ ∀ (y : Unit), True → Done i1C x F (Ending.returned (bool !memB x_2.xs x_2.v)) [(0, F)])
 (true = true ∧
 Look F ⟨x.c2, 0, none⟩ (pointer (some ⟨x.b, 0, none⟩)) ∧
 ∃ (a : Option Addr),
 ∃ (l : Nat),
 ∃ (c : Nat),
 Look F ⟨x.b, 8, none⟩ (slice a l c) ∧
 QOpOk Try.prog (opIn Try.f120 5 5) (ixQ 1) ∧
 ∃ (x_1 : IxQX),
 [slice a l c, int i64 x.a] = [slice (some ⟨x_1.b, x_1.o, none⟩) x_1.len x_1.cap, int i64 x_1.n] ∧
 ((0 : Int) ≤ x_1.n ∧ x_1.n < (↑x_1.len : Int)) ∧
 ∃ (a : Option Addr),
 ∃ (l : Nat),
 ∃ (c : Nat),
 Look F ⟨x_1.b, x_1.o + x_1.n.toNat * 1, none⟩ (slice a l c) ∧
 Look F ⟨x.c4, 2, none⟩ (int i64 x.s.parent) ∧
 QOpOk Try.prog (opIn Try.f120 5 9) (ixQ 1) ∧
 ∃ (x_2 : IxQX),
 [slice a l c, int i64 x.s.parent] = [slice (some ⟨x_2.b, x_2.o, none⟩) x_2.len x_2.cap, int i64 x_2.n] ∧
 ((0 : Int) ≤ x_2.n ∧ x_2.n < (↑x_2.len : Int)) ∧ ∃ (b : Bool), Look F ⟨x_2.b, x_2.o + x_2.n.toNat * 1, none⟩ (bool b) ∧ Br (!b) (Done i1C x F (Ending.returned (bool true)) [(0, F)]) (Look F ⟨x.c2, 0, none⟩ (pointer (some ⟨x.b, 0, none⟩)) ∧ ∃ (a : Option Addr), ∃ (l : Nat), ∃ (c : Nat), Look F ⟨x.b, 3, none⟩ (slice a l c) ∧ QOpOk Try.prog (opIn Try.f120 5 19) (ixQ 13) ∧ ∃ (x_3 : IxQX), [slice a l c, int i64 x.a] = [slice (some ⟨x_3.b, x_3.o, none⟩) x_3.len x_3.cap, int i64 x_3.n] ∧ ((0 : Int) ≤ x_3.n ∧ x_3.n < (↑x_3.len : Int)) ∧ ∃ (n : Int), Look F ⟨x_3.b, x_3.o + x_3.n.toNat * 13 + 1, none⟩ (int i64 n) ∧ Done i1C x F (Ending.returned (bool (decide (n ≥ (4 : Int))))) [(0, F)]))) := by
  obtain ⟨c1, c2, c3, c4, b, c, hist, i, s, a⟩ := x
  obtain ⟨ka, ki, kp⟩ := hc
  obtain ⟨r1, r2, r3, r4, r5, hl⟩ := hr
  dsimp only at ka ki kp r1 r2 r3 r4 r5 hl
  obtain ⟨j, rfl, hj⟩ := isS_spec ka
  obtain ⟨i', rfl, hi⟩ := isS_spec ki
  obtain ⟨b2, o2, cap, h8, hab⟩ := hl.ab
  obtain ⟨b3, o3, cap3, hrow, hcell⟩ := hab j hj
  have e1 : ∀ o k : Nat, o + (k : Int).toNat * 1 = o + k := fun o k => by omega
  have hs : Sub F (.pred (rest [(0, F)] [])) := sub_rest 0 (by simp) rfl
  refine ⟨r1, br_intro (fun h1 => ?_) (fun h1 => ?_)⟩
  · refine ⟨rfl, r2, _, _, _, h8, ixq_ok 1 rfl rfl rfl rfl, ⟨b2, o2, nS c, cap, j⟩, rfl, by dsimp only; omega, _, _, _, by dsimp only; rw [e1]; exact hrow, r3, ixq_ok 1 rfl rfl rfl rfl, ⟨b3, o3, nS c, cap3, i'⟩, rfl, by dsimp only; omega, _, by dsimp only; rw [e1]; exact hcell i' hi, (), trivial, retB ?_, Ent.pick [0] rfl rfl⟩
    dsimp only at h1 ⊢
    unfold badT; rw [h1]; rfl
  · have hh : hist = true := by simpa using h1
    subst hh
    obtain ⟨p, ep, hp⟩ := isS_spec (kp rfl)
    have epn : s.parent.toNat = p := by omega
    refine ⟨r4, br_intro (fun h2 => ?_) (fun h2 => ?_)⟩
    · obtain ⟨b4, o4, cap4, h9, hkd⟩ := hl.kd
      obtain ⟨w, hw, hI⟩ := hkd p hp
      obtain ⟨kaa, kcap, rfl, -⟩ := SlIn.open hI
      obtain ⟨g1, g2, g3, g4, g5⟩ := hI.srcd
      refine ⟨rfl, r2, _, _, _, h9, r5, ixq_ok 1 rfl rfl rfl rfl, ⟨b4, o4, nS c, cap4, p⟩, by rw [ep], by dsimp only; omega, _, _, _, by dsimp only; rw [e1]; exact hw, con_ok, rfl, ⟨kaa, _, kcap, kidsP c p, j⟩, rfl, rfl, ⟨g1, g3⟩, Srcd.sub hs g2, fun _ _ => ⟨(), trivial, retB ?_, Ent.pick [0] rfl rfl⟩⟩
      dsimp only at h2 ⊢
      unfold badT; rw [h2, epn]; rfl
    · obtain ⟨b1, o1, cap1, h3, hst⟩ := hl.sts
      obtain ⟨s2, hs2⟩ := get_st hj
      obtain ⟨rr, ⟨vk, ve, vx, vt, vd, vi, vp, rfl, -⟩, hL⟩ := hst j s2 hs2
      have ek : kd c j = s2.kind := kd_get hs2
      have hbd : badT c i' s true j = bif !insB c j p then true else decide (kd c j ≥ 4) := by
        dsimp only at h2
        unfold badT; rw [h2, epn]; rfl
      refine ⟨rfl, r2, _, _, _, h8, ixq_ok 1 rfl rfl rfl rfl, ⟨b2, o2, nS c, cap, j⟩, rfl, by dsimp only; omega, _, _, _, by dsimp only; rw [e1]; exact hrow, r5, ixq_ok 1 rfl rfl rfl rfl, ⟨b3, o3, nS c, cap3, p⟩, by rw [ep], by dsimp only; omega, _, by dsimp only; rw [e1]; exact hcell p hp, br_intro (fun h4 => ⟨(), trivial, retB ?_, Ent.pick [0] rfl rfl⟩) (fun h4 => ⟨r2, _, _, _, h3, ixq_ok 13 rfl rfl rfl rfl, ⟨b1, o1, nS c, cap1, j⟩, rfl, by dsimp only; omega, s2.kind, hL 1 _ rfl, (), trivial, retB ?_, Ent.pick [0] rfl rfl⟩)⟩
      · dsimp only; rw [hbd, h4]; rfl
      · dsimp only; rw [hbd, h4, ek]; rfl
set_option maxRecDepth 100000 in
theorem i1_ok : FnOk Try.prog 120 i1C :=
  fnOk (N := 60) (by kernel_rfl) Try.func120 rfl (by kernel_rfl) (fun _ => Nat.le_of_ble_eq_true rfl) i1_H [] fun x F hc hr => Eq.mpr (by kernel_rfl) (i1_vc x F hc hr)
theorem i1_good (c1 c2 c3 c4 b : Nat) (c : ChD) (hist : Bool) (i : Int) (s : StD) (hi : isS c i = true) (hs : hist = true → isS c s.parent = true) : FnOk Try.prog 120 (goC (capsM 4 c1 c2 c3 c4) (badT c i s hist) (fun a => isS c a = true) (i1R c1 c2 c3 c4 b c hist i s) i1R_mono) :=
  i1_ok.conseq fun a F I w hc hr hsat => ⟨⟨c1, c2, c3, c4, b, c, hist, i, s, a⟩, I, Imm.le_refl I, ⟨hc, hi, hs⟩, hr, rfl, hsat, fun _ _ => ⟨(), trivial, rfl, Ent.refl _⟩⟩
def cloI (c1 c2 c3 c4 b : Nat) (c : ChD) (hist : Bool) (i : Int) (s : StD) (hi : isS c i = true) (hs : hist = true → isS c s.parent = true) : Clo 120 4 := ⟨c1, c2, c3, c4, _, _, _, _, i1_good c1 c2 c3 c4 b c hist i s hi hs⟩
structure Sl where
  a : Option Addr
  n : Nat
  cap : Nat
structure InitX where
  b : Nat
  c : ChD
  i : Nat
  s : StD
  vk : Sl
  ve : Sl
  vx : Sl
  vt : Sl
  vd : Sl
  vi : Sl
  vp : Sl
def TgtOk (c : ChD) : Prop := ∀ (i : Nat) (t : TrD), c.trs[i]? = some t → ∀ a ∈ t.targets, isS c a = true
def initB (c : ChD) (i : Int) (s : StD) : Bool :=
  bif !decide (s.kind ≥ 4) && !coB c i then s.init == -1 else bif decide (s.init < 0) then false else match c.trs[s.init.toNat]? with
    | none => false
    | some t => bif t.source != i then false else bif (t.targets.length : Int) == 0 then false else !(t.targets.any (badT c i s (decide (s.kind ≥ 4))))
def initC : Con where
  X := InitX
  Y := Unit
  args x := [.pointer (some ⟨x.b, 0, none⟩), .int .i64 x.i, .agg #[.string x.s.id, .int .i64 x.s.kind, .int .i64 x.s.parent, .slice x.vk.a x.vk.n x.vk.cap, .int .i64 x.s.init, .slice x.ve.a x.ve.n x.ve.cap, .slice x.vx.a x.vx.n x.vx.cap, .slice x.vt.a x.vt.n x.vt.cap, .slice x.vd.a x.vd.n x.vd.cap, .slice x.vi.a x.vi.n x.vi.cap, .int .i64 x.s.done.kind, .slice x.vp.a x.vp.n x.vp.cap, .string x.s.done.body]]
  pre _ := []
  cond x := x.c.sts[x.i]? = some x.s ∧ TgtOk x.c
  rdc x F := LatIn F x.b x.c
  rel _ _ := True
  val x _ := .returned (.bool (initB x.c x.i x.s))
  post _ _ := []
  rmono _ _ _ h hk := hk.sub h
def initOv (_x : InitX) (_F : Atom) : List (Nat × Nat × OH) := [(2, 5, .c coC [] []), (4, 10, .q [.ex 0 .slice]), (6, 4, .q [.ex 0 .slice]), (6, 7, .qo (ixQ 6)), (6, 8, .q [.ex 0 (.int .i64), .ex 0 .slice, .ex 0 .str, .ex 0 .slice, .ex 0 .bool, .ex 0 (.int .i64)]), (9, 3, .c (cfC 120 4) [] [])]
structure IcX where
  b1 : Nat
  b2 : Nat
  b3 : Nat
  b4 : Nat
def InitX.vals (x : InitX) : List Value := [.string x.s.id, .int .i64 x.s.kind, .int .i64 x.s.parent, .slice x.vk.a x.vk.n x.vk.cap, .int .i64 x.s.init, .slice x.ve.a x.ve.n x.ve.cap, .slice x.vx.a x.vx.n x.vx.cap, .slice x.vt.a x.vt.n x.vt.cap, .slice x.vd.a x.vd.n x.vd.cap, .slice x.vi.a x.vi.n x.vi.cap, .int .i64 x.s.done.kind, .slice x.vp.a x.vp.n x.vp.cap, .string x.s.done.body]
def initCut (x : InitX) (F : Atom) : Nat → Option Inv := fun
  | 4 => some { X := IcX, P := fun _ => (!decide (x.s.kind ≥ 4) && !coB x.c x.i) = false, mu := fun _ => 0, lv := fun i => [(3, .pointer (some ⟨i.b1, 0, none⟩)), (4, .pointer (some ⟨i.b2, 0, none⟩)), (5, .pointer (some ⟨i.b3, 0, none⟩)), (7, .pointer (some ⟨i.b4, 0, none⟩))], st := fun i => [F, .cells i.b1 [.pointer (some ⟨x.b, 0, none⟩)] 34, .cells i.b2 [.int .i64 x.i] 3, .cells i.b3 x.vals 61, .cells i.b4 [.bool (decide (x.s.kind ≥ 4))] 4] }
  | _ => none
noncomputable def init_H (x : Con.X initC) (F : Atom) : Hints where
  op := hk ((initOv x F) ++ [(0, 0, OH.n (1000 : Nat)),   (0, 1, OH.n (1010 : Nat)),   (0, 2, OH.n (1020 : Nat)),   (1, 1, OH.q [LH.atj (1020 : Nat)]),   (1, 3, OH.n (2030 : Nat)),   (1, 4, OH.w [LH.atj (2030 : Nat)]),   (2, 0, OH.q [LH.atj (2030 : Nat)]),   (4, 1, OH.q [LH.atj (3 : Nat)]),   (2, 3, OH.q [LH.atj (1000 : Nat)]),   (4, 5, OH.q [LH.atj (3 : Nat)]),   (2, 4, OH.q [LH.atj (1010 : Nat)]),   (4, 6, OH.q [LH.atj (1 : Nat)]),   (3, 1, OH.q [LH.atj (1020 : Nat)]),   (6, 0, OH.q [LH.atj (1 : Nat)]),   (6, 6, OH.q [LH.atj (3 : Nat)]),   (6, 9, OH.n (7090 : Nat)),   (6, 10, OH.w [LH.atj (7090 : Nat), LH.atj (7090 : Nat), LH.atj (7090 : Nat), LH.atj (7090 : Nat), LH.atj (7090 : Nat), LH.atj (7090 : Nat)]),   (7, 1, OH.q [LH.atj (7090 : Nat)]),   (7, 2, OH.q [LH.atj (2 : Nat)]),   (7, 6, OH.q [LH.atj (7090 : Nat)]),   (9, 1, OH.q [LH.atj (7090 : Nat)])])
  inv := (fun _ _ _ => none) x F
  cut := initCut x F
  ord := (fun _ => [])
open Go.Value (int slice string bool pointer agg tuple func) in
open Go.IntKind (i64) in
set_option maxRecDepth 100000 in
theorem init_vc (x : InitX) (F : Atom) (hc : Con.cond initC x) (hr : Con.rdc initC x F) :
  ∀ (b b_1 b_2 : Nat),
 Same ⟨b_2, 1, none⟩ b_2 ∧
 ∀ (b_3 : Nat),
 Same ⟨b_3, 0, none⟩ b_3 ∧
 (Same ⟨b_3, 0, none⟩ b_3 ∧
 Br (!decide (x.s.kind ≥ (4 : Int)))
 (Same ⟨b, 0, none⟩ b ∧
 Same ⟨b_1, 0, none⟩ b_1 ∧
 FnOk Try.prog 22 coC ∧
 true = true ∧
 ∃ (x_1 : LqX),
 [pointer (some ⟨x.b, 0, none⟩), int i64 (↑x.i : Int)] = [pointer (some ⟨x_1.b, 0, none⟩), int i64 x_1.a] ∧
 ([] : List Atom) = [] ∧
 True ∧
 LatIn (Atom.pred (rest [(0, F), (1000, Atom.cells b [pointer (some ⟨x.b, 0, none⟩)] 34), (1010, Atom.cells b_1 [int i64 (↑x.i : Int)] 3), (1020, Atom.cells b_2 [string x.s.id, int i64 x.s.kind, int i64 x.s.parent, slice x.vk.a x.vk.n x.vk.cap, int i64 x.s.init, slice x.ve.a x.ve.n x.ve.cap, slice x.vx.a x.vx.n x.vx.cap, slice x.vt.a x.vt.n x.vt.cap, slice x.vd.a x.vd.n x.vd.cap, slice x.vi.a x.vi.n x.vi.cap, int i64 x.s.done.kind, slice x.vp.a x.vp.n x.vp.cap, string x.s.done.body] 61), (2030, Atom.cells b_3 [bool (decide (x.s.kind ≥ (4 : Int)))] 4)] [])) x_1.b x_1.c ∧
 ∀ (y : Unit),
 True →
 Br (!coB x_1.c x_1.a) (Same ⟨b_2, 4, none⟩ b_2 ∧ Done initC x F (Ending.returned (bool (x.s.init == (-1 : Int)))) [(0, F), (1000, Atom.cells b [pointer (some ⟨x.b, 0, none⟩)] 34), (1010, Atom.cells b_1 [int i64 (↑x.i : Int)] 3), (1020, Atom.cells b_2 [string x.s.id, int i64 x.s.kind, int i64 x.s.parent, slice x.vk.a x.vk.n x.vk.cap, int i64 x.s.init, slice x.ve.a x.ve.n x.ve.cap, slice x.vx.a x.vx.n x.vx.cap, slice x.vt.a x.vt.n x.vt.cap, slice x.vd.a x.vd.n x.vd.cap, slice x.vi.a x.vi.n x.vi.cap, int i64 x.s.done.kind, slice x.vp.a x.vp.n x.vp.cap, string x.s.done.body] 61), (2030, Atom.cells b_3 [bool (decide (x.s.kind ≥ (4 : Int)))] 4)])
 (∃ (x_2 : IcX),
 (!decide (x.s.kind ≥ (4 : Int)) && !coB x.c (↑x.i : Int)) = false ∧
 (pointer (some ⟨b, 0, none⟩) = pointer (some ⟨x_2.b1, 0, none⟩) ∧ pointer (some ⟨b_1, 0, none⟩) = pointer (some ⟨x_2.b2, 0, none⟩) ∧ pointer (some ⟨b_2, 0, none⟩) = pointer (some ⟨x_2.b3, 0, none⟩) ∧ pointer (some ⟨b_3, 0, none⟩) = pointer (some ⟨x_2.b4, 0, none⟩) ∧ True) ∧
 Ent [(0, F), (1000, Atom.cells b [pointer (some ⟨x.b, 0, none⟩)] 34), (1010, Atom.cells b_1 [int i64 (↑x.i : Int)] 3), (1020, Atom.cells b_2 [string x.s.id, int i64 x.s.kind, int i64 x.s.parent, slice x.vk.a x.vk.n x.vk.cap, int i64 x.s.init, slice x.ve.a x.ve.n x.ve.cap, slice x.vx.a x.vx.n x.vx.cap, slice x.vt.a x.vt.n x.vt.cap, slice x.vd.a x.vd.n x.vd.cap, slice x.vi.a x.vi.n x.vi.cap, int i64 x.s.done.kind, slice x.vp.a x.vp.n x.vp.cap, string x.s.done.body] 61), (2030, Atom.cells b_3 [bool (decide (x.s.kind ≥ (4 : Int)))] 4)]
 [(0, F), (1, Atom.cells x_2.b1 [pointer (some ⟨x.b, 0, none⟩)] 34), (2, Atom.cells x_2.b2 [int i64 (↑x.i : Int)] 3), (3, Atom.cells x_2.b3 [string x.s.id, int i64 x.s.kind, int i64 x.s.parent, slice x.vk.a x.vk.n x.vk.cap, int i64 x.s.init, slice x.ve.a x.ve.n x.ve.cap, slice x.vx.a x.vx.n x.vx.cap, slice x.vt.a x.vt.n x.vt.cap, slice x.vd.a x.vd.n x.vd.cap, slice x.vi.a x.vi.n x.vi.cap, int i64 x.s.done.kind, slice x.vp.a x.vp.n x.vp.cap, string x.s.done.body] 61), (4, Atom.cells x_2.b4 [bool (decide (x.s.kind ≥ (4 : Int)))] 4)]))
 (∃ (x_1 : IcX),
 (!decide (x.s.kind ≥ (4 : Int)) && !coB x.c (↑x.i : Int)) = false ∧
 (pointer (some ⟨b, 0, none⟩) = pointer (some ⟨x_1.b1, 0, none⟩) ∧ pointer (some ⟨b_1, 0, none⟩) = pointer (some ⟨x_1.b2, 0, none⟩) ∧ pointer (some ⟨b_2, 0, none⟩) = pointer (some ⟨x_1.b3, 0, none⟩) ∧ pointer (some ⟨b_3, 0, none⟩) = pointer (some ⟨x_1.b4, 0, none⟩) ∧ True) ∧
 Ent [(0, F), (1000, Atom.cells b [pointer (some ⟨x.b, 0, none⟩)] 34), (1010, Atom.cells b_1 [int i64 (↑x.i : Int)] 3), (1020, Atom.cells b_2 [string x.s.id, int i64 x.s.kind, int i64 x.s.parent, slice x.vk.a x.vk.n x.vk.cap, int i64 x.s.init, slice x.ve.a x.ve.n x.ve.cap, slice x.vx.a x.vx.n x.vx.cap, slice x.vt.a x.vt.n x.vt.cap, slice x.vd.a x.vd.n x.vd.cap, slice x.vi.a x.vi.n x.vi.cap, int i64 x.s.done.kind, slice x.vp.a x.vp.n x.vp.cap, string x.s.done.body] 61), (2030, Atom.cells b_3 [bool (decide (x.s.kind ≥ (4 : Int)))] 4)]
 [(0, F), (1, Atom.cells x_1.b1 [pointer (some ⟨x.b, 0, none⟩)] 34), (2, Atom.cells x_1.b2 [int i64 (↑x.i : Int)] 3), (3, Atom.cells x_1.b3 [string x.s.id, int i64 x.s.kind, int i64 x.s.parent, slice x.vk.a x.vk.n x.vk.cap, int i64 x.s.init, slice x.ve.a x.ve.n x.ve.cap, slice x.vx.a x.vx.n x.vx.cap, slice x.vt.a x.vt.n x.vt.cap, slice x.vd.a x.vd.n x.vd.cap, slice x.vi.a x.vi.n x.vi.cap, int i64 x.s.done.kind, slice x.vp.a x.vp.n x.vp.cap, string x.s.done.body] 61), (4, Atom.cells x_1.b4 [bool (decide (x.s.kind ≥ (4 : Int)))] 4)])) ∧
 ∀ (x_1 : IcX) (js : Nat → Value),
 (!decide (x.s.kind ≥ (4 : Int)) && !coB x.c (↑x.i : Int)) = false →
 true = true ∧
 Same ⟨x_1.b3, 4, none⟩ x_1.b3 ∧
 Br (decide (x.s.init < (0 : Int))) (Done initC x F (Ending.returned (bool false)) [(0, F), (1, Atom.cells x_1.b1 [pointer (some ⟨x.b, 0, none⟩)] 34), (2, Atom.cells x_1.b2 [int i64 (↑x.i : Int)] 3), (3, Atom.cells x_1.b3 [string x.s.id, int i64 x.s.kind, int i64 x.s.parent, slice x.vk.a x.vk.n x.vk.cap, int i64 x.s.init, slice x.ve.a x.ve.n x.ve.cap, slice x.vx.a x.vx.n x.vx.cap, slice x.vt.a x.vt.n x.vt.cap, slice x.vd.a x.vd.n x.vd.cap, slice x.vi.a x.vi.n x.vi.cap, int i64 x.s.done.kind, slice x.vp.a x.vp.n x.vp.cap, string x.s.done.body] 61), (4, Atom.cells x_1.b4 [bool (decide (x.s.kind ≥ (4 : Int)))] 4)])
 (Same ⟨x_1.b3, 4, none⟩ x_1.b3 ∧
 Same ⟨x_1.b1, 0, none⟩ x_1.b1 ∧
 ∃ (a : Option Addr),
 ∃ (l : Nat),
 ∃ (c : Nat),
 Look F ⟨x.b, 4, none⟩ (slice a l c) ∧
 Br (decide (x.s.init ≥ (↑l : Int))) (Done initC x F (Ending.returned (bool false)) [(0, F), (1, Atom.cells x_1.b1 [pointer (some ⟨x.b, 0, none⟩)] 34), (2, Atom.cells x_1.b2 [int i64 (↑x.i : Int)] 3), (3, Atom.cells x_1.b3 [string x.s.id, int i64 x.s.kind, int i64 x.s.parent, slice x.vk.a x.vk.n x.vk.cap, int i64 x.s.init, slice x.ve.a x.ve.n x.ve.cap, slice x.vx.a x.vx.n x.vx.cap, slice x.vt.a x.vt.n x.vt.cap, slice x.vd.a x.vd.n x.vd.cap, slice x.vi.a x.vi.n x.vi.cap, int i64 x.s.done.kind, slice x.vp.a x.vp.n x.vp.cap, string x.s.done.body] 61), (4, Atom.cells x_1.b4 [bool (decide (x.s.kind ≥ (4 : Int)))] 4)])
 (true = true ∧
 Same ⟨x_1.b1, 0, none⟩ x_1.b1 ∧
 ∃ (a : Option Addr),
 ∃ (l : Nat),
 ∃ (c : Nat),
 Look F ⟨x.b, 4, none⟩ (slice a l c) ∧
 Same ⟨x_1.b3, 4, none⟩ x_1.b3 ∧
 QOpOk Try.prog (opIn Try.f97 6 7) (ixQ 6) ∧
 ∃ (x_2 : IxQX),
 [slice a l c, int i64 x.s.init] = [slice (some ⟨x_2.b, x_2.o, none⟩) x_2.len x_2.cap, int i64 x_2.n] ∧
 ((0 : Int) ≤ x_2.n ∧ x_2.n < (↑x_2.len : Int)) ∧
 ∃ (n : Int),
 Look F ⟨x_2.b, x_2.o + x_2.n.toNat * 6, none⟩ (int i64 n) ∧
 ∃ (a : Option Addr),
 ∃ (l : Nat),
 ∃ (c : Nat),
 Look F ⟨x_2.b, x_2.o + x_2.n.toNat * 6 + 1, none⟩ (slice a l c) ∧
 ∃ (s : ByteArray),
 Look F ⟨x_2.b, x_2.o + x_2.n.toNat * 6 + 2, none⟩ (string s) ∧
 ∃ (a_1 : Option Addr),
 ∃ (l_1 : Nat),
 ∃ (c_1 : Nat),
 Look F ⟨x_2.b, x_2.o + x_2.n.toNat * 6 + 3, none⟩ (slice a_1 l_1 c_1) ∧
 ∃ (b : Bool),
 Look F ⟨x_2.b, x_2.o + x_2.n.toNat * 6 + 4, none⟩ (bool b) ∧
 ∃ (n_1 : Int),
 Look F ⟨x_2.b, x_2.o + x_2.n.toNat * 6 + 5, none⟩ (int i64 n_1) ∧
 ∀ (b_4 : Nat),
 Same ⟨b_4, 0, none⟩ b_4 ∧
 Same ⟨b_4, 1, none⟩ b_4 ∧
 Same ⟨b_4, 2, none⟩ b_4 ∧
 Same ⟨b_4, 3, none⟩ b_4 ∧
 Same ⟨b_4, 4, none⟩ b_4 ∧
 Same ⟨b_4, 5, none⟩ b_4 ∧
 Same ⟨b_4, 0, none⟩ b_4 ∧
 Same ⟨x_1.b2, 0, none⟩ x_1.b2 ∧
 Br (n != (↑x.i : Int))
 (Done initC x F (Ending.returned (bool false))
 [(0, F), (1, Atom.cells x_1.b1 [pointer (some ⟨x.b, 0, none⟩)] 34), (2, Atom.cells x_1.b2 [int i64 (↑x.i : Int)] 3), (3, Atom.cells x_1.b3 [string x.s.id, int i64 x.s.kind, int i64 x.s.parent, slice x.vk.a x.vk.n x.vk.cap, int i64 x.s.init, slice x.ve.a x.ve.n x.ve.cap, slice x.vx.a x.vx.n x.vx.cap, slice x.vt.a x.vt.n x.vt.cap, slice x.vd.a x.vd.n x.vd.cap, slice x.vi.a x.vi.n x.vi.cap, int i64 x.s.done.kind, slice x.vp.a x.vp.n x.vp.cap, string x.s.done.body] 61), (4, Atom.cells x_1.b4 [bool (decide (x.s.kind ≥ (4 : Int)))] 4),
 (7090, Atom.cells b_4 [int i64 n, slice a l c, string s, slice a_1 l_1 c_1, bool b, int i64 n_1] 76)])
 (Same ⟨b_4, 3, none⟩ b_4 ∧
 Br ((↑l_1 : Int) == (0 : Int))
 (Done initC x F (Ending.returned (bool false))
 [(0, F), (1, Atom.cells x_1.b1 [pointer (some ⟨x.b, 0, none⟩)] 34), (2, Atom.cells x_1.b2 [int i64 (↑x.i : Int)] 3), (3, Atom.cells x_1.b3 [string x.s.id, int i64 x.s.kind, int i64 x.s.parent, slice x.vk.a x.vk.n x.vk.cap, int i64 x.s.init, slice x.ve.a x.ve.n x.ve.cap, slice x.vx.a x.vx.n x.vx.cap, slice x.vt.a x.vt.n x.vt.cap, slice x.vd.a x.vd.n x.vd.cap, slice x.vi.a x.vi.n x.vi.cap, int i64 x.s.done.kind, slice x.vp.a x.vp.n x.vp.cap, string x.s.done.body] 61), (4, Atom.cells x_1.b4 [bool (decide (x.s.kind ≥ (4 : Int)))] 4),
 (7090, Atom.cells b_4 [int i64 n, slice a l c, string s, slice a_1 l_1 c_1, bool b, int i64 n_1] 76)])
 (Same ⟨b_4, 3, none⟩ b_4 ∧
 FnOk Try.prog 62 (cfC (120 : FuncId) 4) ∧
 true = true ∧
 ∃ (x_3 : IxX (120 : FuncId) 4),
 [slice a_1 l_1 c_1, func (Fn.func 120) { toList := [] } { toList := [pointer (some ⟨x_1.b4, 0, none⟩), pointer (some ⟨x_1.b1, 0, none⟩), pointer (some ⟨x_1.b2, 0, none⟩), pointer (some ⟨x_1.b3, 0, none⟩)] }] = [slice x_3.a x_3.n x_3.cap, func (Fn.func 120) { toList := [] } { toList := [pointer (some ⟨x_3.L.c1, 0, none⟩), pointer (some ⟨x_3.L.c2, 0, none⟩), pointer (some ⟨x_3.L.c3, 0, none⟩), pointer (some ⟨x_3.L.c4, 0, none⟩)] }] ∧
 ([] : List Atom) = [] ∧
 (IsSrc 1 (ints x_3.xs) x_3.a x_3.n ∧ x_3.n * 8 ≤ 140737488351232 ∧ ∀ (u : Int), u ∈ x_3.xs → x_3.L.ok u) ∧
 (Srcd
 (Atom.pred
 (rest
 [(0, F), (1, Atom.cells x_1.b1 [pointer (some ⟨x.b, 0, none⟩)] 34), (2, Atom.cells x_1.b2 [int i64 (↑x.i : Int)] 3), (3, Atom.cells x_1.b3 [string x.s.id, int i64 x.s.kind, int i64 x.s.parent, slice x.vk.a x.vk.n x.vk.cap, int i64 x.s.init, slice x.ve.a x.ve.n x.ve.cap, slice x.vx.a x.vx.n x.vx.cap, slice x.vt.a x.vt.n x.vt.cap, slice x.vd.a x.vd.n x.vd.cap, slice x.vi.a x.vi.n x.vi.cap, int i64 x.s.done.kind, slice x.vp.a x.vp.n x.vp.cap, string x.s.done.body] 61), (4, Atom.cells x_1.b4 [bool (decide (x.s.kind ≥ (4 : Int)))] 4),
 (7090, Atom.cells b_4 [int i64 n, slice a l c, string s, slice a_1 l_1 c_1, bool b, int i64 n_1] 76)]
 []))
 x_3.a (ints x_3.xs) ∧
 x_3.L.7
 (Atom.pred
 (rest
 [(0, F), (1, Atom.cells x_1.b1 [pointer (some ⟨x.b, 0, none⟩)] 34), (2, Atom.cells x_1.b2 [int i64 (↑x.i : Int)] 3), (3, Atom.cells x_1.b3 [string x.s.id, int i64 x.s.kind, int i64 x.s.parent, slice x.vk.a x.vk.n x.vk.cap, int i64 x.s.init, slice x.ve.a x.ve.n x.ve.cap, slice x.vx.a x.vx.n x.vx.cap, slice x.vt.a x.vt.n x.vt.cap, slice x.vd.a x.vd.n x.vd.cap, slice x.vi.a x.vi.n x.vi.cap, int i64 x.s.done.kind, slice x.vp.a x.vp.n x.vp.cap, string x.s.done.body] 61), (4, Atom.cells x_1.b4 [bool (decide (x.s.kind ≥ (4 : Int)))] 4),
 (7090, Atom.cells b_4 [int i64 n, slice a l c, string s, slice a_1 l_1 c_1, bool b, int i64 n_1] 76)]
 []))) ∧
 ∀ (y : Unit),
 True →
 Done initC x F (Ending.returned (bool !x_3.xs.any x_3.L.g))
 [(0, F), (1, Atom.cells x_1.b1 [pointer (some ⟨x.b, 0, none⟩)] 34), (2, Atom.cells x_1.b2 [int i64 (↑x.i : Int)] 3), (3, Atom.cells x_1.b3 [string x.s.id, int i64 x.s.kind, int i64 x.s.parent, slice x.vk.a x.vk.n x.vk.cap, int i64 x.s.init, slice x.ve.a x.ve.n x.ve.cap, slice x.vx.a x.vx.n x.vx.cap, slice x.vt.a x.vt.n x.vt.cap, slice x.vd.a x.vd.n x.vd.cap, slice x.vi.a x.vi.n x.vi.cap, int i64 x.s.done.kind, slice x.vp.a x.vp.n x.vp.cap, string x.s.done.body] 61), (4, Atom.cells x_1.b4 [bool (decide (x.s.kind ≥ (4 : Int)))] 4),
 (7090, Atom.cells b_4 [int i64 n, slice a l c, string s, slice a_1 l_1 c_1, bool b, int i64 n_1] 76)])))) := by
  obtain ⟨b, c, i, s, vk, ve, vx, vt, vd, vi, vp⟩ := x
  obtain ⟨hsi, htg⟩ := hc
  replace hr : LatIn F b c := hr
  dsimp only at hsi htg
  have hi : i < nS c := (List.getElem?_eq_some_iff.1 hsi).1
  have hp := hr.pl
  have ek : kd c i = s.kind := kd_get hsi
  have ep : pr c i = s.parent := pr_get hsi
  have hpar : decide (s.kind ≥ 4) = true → isS c s.parent = true := by
    intro h
    have h := of_decide_eq_true h
    have h0 : 0 < i := by
      rcases Nat.eq_zero_or_pos i with e | e
      · subst e; rw [hp.k0] at ek; omega
      · exact e
    obtain ⟨_, _, h3, h4, _⟩ := hp.st i h0 hi
    have : s.parent = ((pr c i).toNat : Int) := by omega
    rw [this]
    exact isS_nat (by omega)
  simp only [same_refl, true_and]
  refine fun b1 b2 b3 b4 => ⟨br_intro (fun h0 => ⟨co_ok, ⟨b, c, i⟩, rfl, hr.sub (sub_rest 0 (by simp) rfl), fun _ _ => br_intro (fun h1 => ⟨(), trivial, retB ?_, Ent.pick [0] rfl rfl⟩) (fun h1 => ⟨⟨b1, b2, b3, b4⟩, ?_, ⟨rfl, rfl, rfl, rfl, trivial⟩, Ent.pick [0, 1000, 1010, 1020, 2030] rfl rfl⟩)⟩) (fun h0 => ⟨⟨b1, b2, b3, b4⟩, ?_, ⟨rfl, rfl, rfl, rfl, trivial⟩, Ent.pick [0, 1000, 1010, 1020, 2030] rfl rfl⟩), ?_⟩
  · dsimp only at h0 h1 ⊢
    unfold initB; rw [h0, h1]; rfl
  · dsimp only at h0 h1 ⊢
    rw [h0, h1]; rfl
  · try dsimp only at h0 ⊢
    rw [h0]; rfl
  rintro ⟨b1, b2, b3, b4⟩ js h
  dsimp only at h ⊢
  have hB : initB c i s = bif decide (s.init < 0) then false else match c.trs[s.init.toNat]? with
    | none => false
    | some t => bif t.source != i then false else bif (t.targets.length : Int) == 0 then false else !(t.targets.any (badT c i s (decide (s.kind ≥ 4)))) := by
    unfold initB; rw [h]; rfl
  obtain ⟨ta, tcap, h4, htl, htr⟩ := hr.trs
  refine br_decide (fun hneg => ⟨(), trivial, retB ?_, Ent.pick [0] rfl rfl⟩) (fun hneg => ⟨_, _, _, h4, br_decide (fun hge => ⟨(), trivial, retB ?_, Ent.pick [0] rfl rfl⟩) (fun hge => ⟨_, _, _, h4, ?_⟩)⟩)
  · try dsimp only
    rw [hB, decide_eq_true hneg]; rfl
  · try dsimp only
    rw [hB, decide_eq_false hneg, List.getElem?_eq_none (by omega)]; rfl
  obtain ⟨k, hk⟩ : ∃ k : Nat, s.init = k := ⟨s.init.toNat, by omega⟩
  obtain ⟨t, ht⟩ : ∃ t, c.trs[k]? = some t := ⟨_, List.getElem?_eq_getElem (by omega)⟩
  rw [decide_eq_false hneg, hk, Int.toNat_natCast, ht] at hB
  replace hB : initB c i s = bif t.source != i then false else bif (t.targets.length : Int) == 0 then false else !(t.targets.any (badT c i s (decide (s.kind ≥ 4)))) := hB
  obtain ⟨tb, to, r, rfl, ⟨we, wt, rfl, hev, hgt⟩, hL⟩ := htr k t ht
  obtain ⟨ea, ecap, rfl, -⟩ := SlIn.open hev
  obtain ⟨ga, gcap, rfl, -⟩ := SlIn.open hgt
  obtain ⟨g1, g2, g3, g4, g5⟩ := hgt.srcd
  rw [hk]
  refine ⟨ixq_ok 6 rfl rfl rfl rfl, ⟨tb, to, c.trs.length, tcap, k⟩, rfl, by dsimp only; omega, t.source, hL 0 _ rfl, _, _, _, hL 1 _ rfl, t.cond, hL 2 _ rfl, _, _, _, hL 3 _ rfl, t.internal, hL 4 _ rfl, t.block, hL 5 _ rfl, fun b5 => br_intro (fun h5 => ⟨(), trivial, retB ?_, Ent.pick [0] rfl rfl⟩) (fun h5 => br_intro (fun h6 => ⟨(), trivial, retB ?_, Ent.pick [0] rfl rfl⟩) (fun h6 => ⟨cfe_ok, ⟨cloI b4 b1 b2 b3 b c (decide (s.kind ≥ 4)) i s (isS_nat hi) hpar, _, _, _, t.targets⟩, rfl, ⟨g1, g3, fun u hu => htg k t ht u hu⟩, ⟨g2.sub (sub_rest 0 (by simp) rfl), Look.rest (j := 4) (by simp) (Look.cells rfl), Look.rest (j := 1) (by simp) (Look.cells rfl), Look.rest (j := 2) (by simp) (Look.cells rfl), Look.rest (j := 3) (by simp) (Look.cells rfl), Look.rest (j := 3) (by simp) (Look.cells rfl), hr.sub (sub_rest 0 (by simp) rfl)⟩, fun _ _ => ⟨(), trivial, retB ?_, Ent.pick [0] rfl rfl⟩⟩))⟩
  · try dsimp only
    rw [hB, h5]; rfl
  · try dsimp only
    rw [hB, h5, h6]; rfl
  · try dsimp only
    rw [hB, h5, h6]; rfl
set_option maxRecDepth 100000 in
theorem init_ok : FnOk Try.prog 97 initC :=
  fnOk (N := 61) (by kernel_rfl) Try.func97 rfl (by kernel_rfl) (fun _ => Nat.le_of_ble_eq_true rfl) init_H [] fun x F hc hr => Eq.mpr (by kernel_rfl) (init_vc x F hc hr)
end Go.Proofs.Ytkmdgnbfojkcnaa
