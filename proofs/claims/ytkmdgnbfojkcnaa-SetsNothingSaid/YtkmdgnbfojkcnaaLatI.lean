/- transitions: are the transitions, and what the states say of them, right? -/
import Derived.Test.YtkmdgnbfojkcnaaLatH
import Derived.Test.YtkmdgnbfojkcnaaEngO
set_option linter.all false
namespace Go.Proofs.Ytkmdgnbfojkcnaa
open Go
set_option maxHeartbeats 1000000
def aimT (c : ChD) : List Int → List Int → Bool
  | _, [] => true
  | dn, a :: r => bif !isS c a then false else bif a == 0 then false else dn.all (fun b => tgB c a b) && aimT c (dn ++ [a]) r
def aimB (c : ChD) (t : TrD) : Bool := isS c t.source && aimT c [] t.targets
def okTr (c : ChD) (i : Int) (s : StD) (u : Int) : Bool := bif s.kind != 1 && s.kind != 2 then false else bif decide (u < 0) then false else bif decide (u ≥ c.trs.length) then false else bif u == s.init then false else match c.trs[u.toNat]? with
  | none => false
  | some t => !(t.source != i)
def stsB (c : ChD) : Nat → List StD → Bool
  | _, [] => true
  | i, s :: r => initB c i s && (s.trans.all (okTr c i s) && stsB c (i + 1) r)
def transB (c : ChD) : Bool := c.trs.all (aimB c) && stsB c 0 c.sts
structure TransX where
  b : Nat
  c : ChD
def transC : Con where
  X := TransX
  Y := Unit
  args x := [.pointer (some ⟨x.b, 0, none⟩)]
  pre _ := []
  cond _ := True
  rdc x F := LatIn F x.b x.c
  rel _ _ := True
  val x _ := .returned (.bool (transB x.c))
  post _ _ := []
  rmono _ _ _ h hk := hk.sub h
structure ChS where
  vs : Sl
  vt : Sl
  vb : Sl
  vd : Sl
  vi : Sl
def Sl.v (s : Sl) : Value := .slice s.a s.n s.cap
def chS (c : ChD) (w : ChS) : List Value := [.string c.name, .bool c.late, .int .i64 c.script, .slice w.vs.a w.vs.n w.vs.cap, .slice w.vt.a w.vt.n w.vt.cap, .slice w.vb.a w.vb.n w.vb.cap, .slice w.vd.a w.vd.n w.vd.cap, .slice w.vi.a w.vi.n w.vi.cap]
structure TrI where
  k : Nat
  b3 : Nat
  w : ChS
structure TrJ where
  k : Nat
  b3 : Nat
  w : ChS
  b5 : Nat
  t : TrD
  we : Sl
  wt : Sl
  k2 : Nat
  a : Int
  k3 : Nat
structure TrK where
  i : Nat
  b3 : Nat
  w : ChS
  b11 : Nat
  s : StD
  vk : Sl
  ve : Sl
  vx : Sl
  vt : Sl
  vd : Sl
  vi : Sl
  vp : Sl
  k : Nat
def trA (t : TrD) (we wt : Sl) : List Value := [.int .i64 t.source, .slice we.a we.n we.cap, .string t.cond, .slice wt.a wt.n wt.cap, .bool t.internal, .int .i64 t.block]
def stA (s : StD) (vk ve vx vt vd vi vp : Sl) : List Value := [.string s.id, .int .i64 s.kind, .int .i64 s.parent, .slice vk.a vk.n vk.cap, .int .i64 s.init, .slice ve.a ve.n ve.cap, .slice vx.a vx.n vx.cap, .slice vt.a vt.n vt.cap, .slice vd.a vd.n vd.cap, .slice vi.a vi.n vi.cap, .int .i64 s.done.kind, .slice vp.a vp.n vp.cap, .string s.done.body]
/-- What is kept all along. -/
def TrP (x : TransX) (F : Atom) (w : ChS) : Prop := SlIn F (TrIn F) 6 88 (.slice w.vt.a w.vt.n w.vt.cap) x.c.trs ∧ SlIn F (StIn F) 13 232 (.slice w.vs.a w.vs.n w.vs.cap) x.c.sts
def Tr1 (x : TransX) (k : Nat) : Prop := k ≤ x.c.trs.length ∧ transB x.c = ((x.c.trs.drop k).all (aimB x.c) && stsB x.c 0 x.c.sts) ∧ ∀ j t, j < k → x.c.trs[j]? = some t → aimB x.c t = true
def Tr2 (x : TransX) (F : Atom) (k : Nat) (t : TrD) (wt : Sl) (k2 : Nat) : Prop := Tr1 x k ∧ x.c.trs[k]? = some t ∧ isS x.c t.source = true ∧ IntsIn F (.slice wt.a wt.n wt.cap) t.targets ∧ k2 ≤ t.targets.length ∧ aimT x.c [] t.targets = aimT x.c (t.targets.take k2) (t.targets.drop k2) ∧ ∀ (i : Nat) (u : Int), i < k2 → t.targets[i]? = some u → isS x.c u = true
def transInv (x : TransX) (F : Atom) : Nat → Option Inv := fun
  | 0 => some { X := TrI, P := fun i => TrP x F i.w ∧ Tr1 x i.k, mu := fun i => x.c.trs.length - i.k, lv := fun i => [(0, .pointer (some ⟨x.b, 0, none⟩)), (3, .pointer (some ⟨i.b3, 0, none⟩)), (19, .slice i.w.vt.a i.w.vt.n i.w.vt.cap), (20, .int .i64 i.w.vt.n), (21, .int .i64 i.k)], st := fun i => [F, .cells i.b3 (chS x.c i.w) 28] }
  | 2 => some { X := TrJ, P := fun i => TrP x F i.w ∧ Tr2 x F i.k i.t i.wt i.k2, gh := some ⟨Nat, fun i => i.k⟩, mu := fun i => i.t.targets.length - i.k2, lv := fun i => [(0, .pointer (some ⟨x.b, 0, none⟩)), (3, .pointer (some ⟨i.b3, 0, none⟩)), (5, .pointer (some ⟨i.b5, 0, none⟩)), (19, .slice i.w.vt.a i.w.vt.n i.w.vt.cap), (20, .int .i64 i.w.vt.n), (21, .int .i64 i.k), (31, .slice i.wt.a i.wt.n i.wt.cap), (32, .int .i64 i.wt.n), (33, .int .i64 i.k2)], st := fun i => [F, .cells i.b3 (chS x.c i.w) 28, .cells i.b5 (trA i.t i.we i.wt) 76] }
  | 4 => some { X := TrJ, P := fun i => TrP x F i.w ∧ Tr2 x F i.k i.t i.wt i.k2 ∧ i.t.targets[i.k2]? = some i.a ∧ isS x.c i.a = true ∧ i.a ≠ 0 ∧ i.k3 ≤ i.k2 ∧ ((i.t.targets.take i.k2).all fun b => tgB x.c i.a b) = (((i.t.targets.take i.k2).drop i.k3).all fun b => tgB x.c i.a b), gh := some ⟨Nat × Nat, fun i => (i.k, i.k2)⟩, mu := fun i => i.k2 - i.k3, lv := fun i => [(0, .pointer (some ⟨x.b, 0, none⟩)), (3, .pointer (some ⟨i.b3, 0, none⟩)), (5, .pointer (some ⟨i.b5, 0, none⟩)), (7, .int .i64 i.a), (19, .slice i.w.vt.a i.w.vt.n i.w.vt.cap), (20, .int .i64 i.w.vt.n), (21, .int .i64 i.k), (31, .slice i.wt.a i.wt.n i.wt.cap), (32, .int .i64 i.wt.n), (33, .int .i64 i.k2), (49, .slice i.wt.a i.k2 i.wt.cap), (50, .int .i64 i.k2), (51, .int .i64 i.k3)], st := fun i => [F, .cells i.b3 (chS x.c i.w) 28, .cells i.b5 (trA i.t i.we i.wt) 76] }
  | 6 => some { X := TrI, P := fun i => TrP x F i.w ∧ TgtOk x.c ∧ i.k ≤ x.c.sts.length ∧ transB x.c = stsB x.c i.k (x.c.sts.drop i.k), mu := fun i => x.c.sts.length - i.k, lv := fun i => [(0, .pointer (some ⟨x.b, 0, none⟩)), (3, .pointer (some ⟨i.b3, 0, none⟩)), (64, .slice i.w.vs.a i.w.vs.n i.w.vs.cap), (65, .int .i64 i.w.vs.n), (66, .int .i64 i.k)], st := fun i => [F, .cells i.b3 (chS x.c i.w) 28] }
  | 8 => some { X := TrK, P := fun i => TrP x F i.w ∧ TgtOk x.c ∧ x.c.sts[i.i]? = some i.s ∧ IntsIn F (.slice i.vt.a i.vt.n i.vt.cap) i.s.trans ∧ i.k ≤ i.s.trans.length ∧ transB x.c = ((i.s.trans.drop i.k).all (okTr x.c i.i i.s) && stsB x.c (i.i + 1) (x.c.sts.drop (i.i + 1))), gh := some ⟨Nat, fun i => i.i⟩, mu := fun i => i.s.trans.length - i.k, lv := fun i => [(0, .pointer (some ⟨x.b, 0, none⟩)), (3, .pointer (some ⟨i.b3, 0, none⟩)), (10, .int .i64 i.i), (11, .pointer (some ⟨i.b11, 0, none⟩)), (64, .slice i.w.vs.a i.w.vs.n i.w.vs.cap), (65, .int .i64 i.w.vs.n), (66, .int .i64 i.i), (77, .slice i.vt.a i.vt.n i.vt.cap), (78, .int .i64 i.vt.n), (79, .int .i64 i.k)], st := fun i => [F, .cells i.b3 (chS x.c i.w) 28, .cells i.b11 (stA i.s i.vk i.ve i.vx i.vt i.vd i.vi i.vp) 61] }
  | _ => none
def sh13 : List LH := [.ex 0 .str, .ex 0 (.int .i64), .ex 0 (.int .i64), .ex 0 .slice, .ex 0 (.int .i64), .ex 0 .slice, .ex 0 .slice, .ex 0 .slice, .ex 0 .slice, .ex 0 .slice, .ex 0 (.int .i64), .ex 0 .slice, .ex 0 .str]
def at6 (j : Nat) : List LH := [.atj j, .atj j, .atj j, .atj j, .atj j, .atj j]
def at8 (j : Nat) : List LH := [.atj j, .atj j, .atj j, .atj j, .atj j, .atj j, .atj j, .atj j]
def at13 (j : Nat) : List LH := [.atj j, .atj j, .atj j, .atj j, .atj j, .atj j, .atj j, .atj j, .atj j, .atj j, .atj j, .atj j, .atj j]
def transOv (_x : TransX) (_F : Atom) : List (Nat × Nat × OH) := [(1, 3, .q [.ex 0 .str, .ex 0 .bool, .ex 0 (.int .i64), .ex 0 .slice, .ex 0 .slice, .ex 0 .slice, .ex 0 .slice, .ex 0 .slice]), (4, 0, .qo (ixQ 6)), (4, 1, .q [.ex 0 (.int .i64), .ex 0 .slice, .ex 0 .str, .ex 0 .slice, .ex 0 .bool, .ex 0 (.int .i64)]), (5, 3, .c stateC [] []),
  (9, 1, .qo (ixQ 1)), (9, 2, .q [.ex 0 (.int .i64)]), (10, 2, .c stateC [] []), (12, 3, .qo slQ), (14, 0, .qo (ixQ 1)), (14, 1, .q [.ex 0 (.int .i64)]), (15, 3, .c tgC [] []),
  (22, 1, .qo (ixQ 13)), (22, 2, .q sh13), (23, 3, .c initC [] []), (27, 0, .qo (ixQ 1)), (27, 1, .q [.ex 0 (.int .i64)]), (28, 29, .qo (ixQ 6)), (28, 31, .q [.ex 0 (.int .i64)]),
  (1, 4, .n 2040), (1, 5, .w (at8 2040)), (2, 1, .q [.atj 2040]), (4, 2, .n 5020), (4, 3, .w (at6 5020)), (5, 2, .q [.atj 5020]), (7, 1, .q [.atj 5020]), (12, 1, .q [.atj 2]), (20, 1, .q [.atj 1]), (22, 3, .n 23030), (22, 5, .w (at13 23030)), (23, 2, .q (at13 23030)), (25, 1, .q [.atj 23030]), (28, 1, .q [.atj 2]), (28, 5, .q [.atj 2]), (28, 15, .q [.atj 1]), (28, 22, .q [.atj 2]), (28, 27, .q [.atj 1])]
theorem SlIn.num {α : Type} {F : Atom} {R : List Value → α → Prop} {k Bw : Nat} {a : Option Addr} {n cap : Nat} {xs : List α} (h : SlIn F R k Bw (.slice a n cap) xs) : n = xs.length ∧ n ≤ cap ∧ n * Bw ≤ 140737488351232 := by
  obtain ⟨a', n', cap', raw, e, h2, h3, h4, h5, h6, h7, h8, h9⟩ := h
  simp only [Value.slice.injEq] at e
  obtain ⟨rfl, rfl, rfl⟩ := e
  have := h9.len
  omega
theorem SlIn.at' {α : Type} {F : Atom} {R : List Value → α → Prop} {k Bw : Nat} {a : Option Addr} {n cap : Nat} {xs : List α} (h : SlIn F R k Bw (.slice a n cap) xs) {i : Nat} {x : α} (hx : xs[i]? = some x) : ∃ b o r, a = some ⟨b, o, none⟩ ∧ R r x ∧ ∀ j u, r[j]? = some u → Look F ⟨b, o + i * k + j, none⟩ u := by
  obtain ⟨a', cap', e, h3, h4, h5, h6⟩ := h.open
  simp only [Value.slice.injEq] at e
  obtain ⟨rfl, rfl, rfl⟩ := e
  obtain ⟨b, o, r, ea, -, hR, hL⟩ := h6 i x hx
  exact ⟨b, o, r, ea, hR, hL⟩
theorem drop_g {α : Type} {xs : List α} {k : Nat} {u : α} (h : xs[k]? = some u) : xs.drop k = u :: xs.drop (k + 1) := by
  obtain ⟨hk, rfl⟩ := List.getElem?_eq_some_iff.1 h
  exact List.drop_eq_getElem_cons hk
theorem take_g {α : Type} {xs : List α} {k : Nat} {u : α} (h : xs[k]? = some u) : xs.take (k + 1) = xs.take k ++ [u] := by rw [List.take_add_one, h]; rfl
theorem trb_false {x : TransX} {k : Nat} {t : TrD} (h : Tr1 x k) (ht : x.c.trs[k]? = some t) (ha : aimB x.c t = false) : transB x.c = false := by
  rw [h.2.1, drop_g ht, List.all_cons, ha]; rfl
theorem trb_next {x : TransX} {k : Nat} {t : TrD} (h : Tr1 x k) (ht : x.c.trs[k]? = some t) (ha : aimB x.c t = true) : Tr1 x (k + 1) := by
  refine ⟨(List.getElem?_eq_some_iff.1 ht).1, ?_, fun j u hj hu => ?_⟩
  · rw [h.2.1, drop_g ht, List.all_cons, ha, Bool.true_and]
  · by_cases e : j = k
    · subst e; rw [ht] at hu; cases hu; exact ha
    · exact h.2.2 j u (by omega) hu
theorem aimT_step {c : ChD} {ts : List Int} {k : Nat} {a : Int} (h : ts[k]? = some a) : aimT c (ts.take k) (ts.drop k) = bif !isS c a then false else bif a == 0 then false else (ts.take k).all (fun b => tgB c a b) && aimT c (ts.take (k + 1)) (ts.drop (k + 1)) := by
  rw [drop_g h, aimT, take_g h]
theorem take_drop_g {xs : List Int} {k j : Nat} {u : Int} (hj : j < k) (h : xs[j]? = some u) : (xs.take k).drop j = u :: (xs.take k).drop (j + 1) := drop_g (by rw [List.getElem?_take_of_lt hj]; exact h)
theorem aimT_mem {c : ChD} : ∀ (r dn : List Int), aimT c dn r = true → ∀ a ∈ r, isS c a = true := by
  intro r
  induction r with
  | nil => intro dn _ a h; simp at h
  | cons x r ih =>
    intro dn h a ha
    rw [aimT] at h
    cases hx : isS c x with
    | false => rw [hx] at h; simp at h
    | true =>
      rw [hx] at h
      cases h0 : x == 0 with
      | true => rw [h0] at h; simp at h
      | false =>
        rw [h0] at h
        simp only [Bool.not_true, cond_false, Bool.and_eq_true] at h
        rcases List.mem_cons.1 ha with rfl | ha
        · exact hx
        · exact ih _ h.2 a ha
noncomputable def trans_H (x : Con.X transC) (F : Atom) : Hints where
  op := hk ((transOv x F) ++ [])
  inv := transInv x F
  cut := (fun _ _ _ => none) x F
  ord := (fun _ => [])
open Go.Value (int slice string bool pointer agg tuple func) in
open Go.IntKind (i64) in
set_option maxRecDepth 100000 in
theorem trans_vc (x : TransX) (F : Atom) (hc : Con.cond transC x) (hr : Con.rdc transC x F) :
  ∃ (s : ByteArray),
 Look F ⟨x.b, 0, none⟩ (string s) ∧
 ∃ (b : Bool),
 Look F ⟨x.b, 1, none⟩ (bool b) ∧
 ∃ (n : Int),
 Look F ⟨x.b, 2, none⟩ (int i64 n) ∧
 ∃ (a : Option Addr),
 ∃ (l : Nat),
 ∃ (c : Nat),
 Look F ⟨x.b, 3, none⟩ (slice a l c) ∧
 ∃ (a_1 : Option Addr),
 ∃ (l_1 : Nat),
 ∃ (c_1 : Nat),
 Look F ⟨x.b, 4, none⟩ (slice a_1 l_1 c_1) ∧
 ∃ (a_2 : Option Addr),
 ∃ (l_2 : Nat),
 ∃ (c_2 : Nat),
 Look F ⟨x.b, 5, none⟩ (slice a_2 l_2 c_2) ∧
 ∃ (a_3 : Option Addr),
 ∃ (l_3 : Nat),
 ∃ (c_3 : Nat),
 Look F ⟨x.b, 6, none⟩ (slice a_3 l_3 c_3) ∧
 ∃ (a_4 : Option Addr),
 ∃ (l_4 : Nat),
 ∃ (c_4 : Nat),
 Look F ⟨x.b, 7, none⟩ (slice a_4 l_4 c_4) ∧
 ∀ (b_1 : Nat),
 Same ⟨b_1, 0, none⟩ b_1 ∧
 Same ⟨b_1, 1, none⟩ b_1 ∧
 Same ⟨b_1, 2, none⟩ b_1 ∧
 Same ⟨b_1, 3, none⟩ b_1 ∧
 Same ⟨b_1, 4, none⟩ b_1 ∧
 Same ⟨b_1, 5, none⟩ b_1 ∧
 Same ⟨b_1, 6, none⟩ b_1 ∧
 Same ⟨b_1, 7, none⟩ b_1 ∧
 Same ⟨b_1, 4, none⟩ b_1 ∧
 (∃ (x_1 : TrI),
 (TrP x F x_1.w ∧ Tr1 x x_1.k) ∧
 (pointer (some ⟨x.b, 0, none⟩) = pointer (some ⟨x.b, 0, none⟩) ∧ pointer (some ⟨b_1, 0, none⟩) = pointer (some ⟨x_1.b3, 0, none⟩) ∧ slice a_1 l_1 c_1 = slice x_1.w.vt.a x_1.w.vt.n x_1.w.vt.cap ∧ int i64 (↑l_1 : Int) = int i64 (↑x_1.w.vt.n : Int) ∧ int i64 (0 : Int) = int i64 (↑x_1.k : Int) ∧ True) ∧
 Ent [(0, F), (2040, Atom.cells b_1 [string s, bool b, int i64 n, slice a l c, slice a_1 l_1 c_1, slice a_2 l_2 c_2, slice a_3 l_3 c_3, slice a_4 l_4 c_4] 28)] [(0, F), (1, Atom.cells x_1.b3 [string x.c.name, bool x.c.late, int i64 x.c.script, slice x_1.w.vs.a x_1.w.vs.n x_1.w.vs.cap, slice x_1.w.vt.a x_1.w.vt.n x_1.w.vt.cap, slice x_1.w.vb.a x_1.w.vb.n x_1.w.vb.cap, slice x_1.w.vd.a x_1.w.vd.n x_1.w.vd.cap, slice x_1.w.vi.a x_1.w.vi.n x_1.w.vi.cap] 28)]) ∧
 ∀ (x_1 : TrI) (js : Nat → Value),
 TrP x F x_1.w ∧ Tr1 x x_1.k →
 Br (decide ((↑x_1.k : Int) < (↑x_1.w.vt.n : Int)))
 (QOpOk Try.prog (opIn Try.f52 4 0) (ixQ 6) ∧
 ∃ (x_2 : IxQX),
 [slice x_1.w.vt.a x_1.w.vt.n x_1.w.vt.cap, int i64 (↑x_1.k : Int)] = [slice (some ⟨x_2.b, x_2.o, none⟩) x_2.len x_2.cap, int i64 x_2.n] ∧
 ((0 : Int) ≤ x_2.n ∧ x_2.n < (↑x_2.len : Int)) ∧
 ∃ (n : Int),
 Look F ⟨x_2.b, x_2.o + x_2.n.toNat * 6, none⟩ (int i64 n) ∧
 ∃ (a : Option Addr),
 ∃ (l : Nat),
 ∃ (c : Nat),
 Look F ⟨x_2.b, x_2.o + x_2.n.toNat * 6 + 1, none⟩ (slice a l c) ∧
 ∃ (s : ByteArray),
 Look F ⟨x_2.b, x_2.o + x_2.n.toNat * 6 + 2, none⟩ (string s) ∧
 ∃ (a_5 : Option Addr),
 ∃ (l_5 : Nat),
 ∃ (c_5 : Nat),
 Look F ⟨x_2.b, x_2.o + x_2.n.toNat * 6 + 3, none⟩ (slice a_5 l_5 c_5) ∧
 ∃ (b : Bool),
 Look F ⟨x_2.b, x_2.o + x_2.n.toNat * 6 + 4, none⟩ (bool b) ∧
 ∃ (n_1 : Int),
 Look F ⟨x_2.b, x_2.o + x_2.n.toNat * 6 + 5, none⟩ (int i64 n_1) ∧
 ∀ (b_2 : Nat),
 Same ⟨b_2, 0, none⟩ b_2 ∧
 Same ⟨b_2, 1, none⟩ b_2 ∧
 Same ⟨b_2, 2, none⟩ b_2 ∧
 Same ⟨b_2, 3, none⟩ b_2 ∧
 Same ⟨b_2, 4, none⟩ b_2 ∧
 Same ⟨b_2, 5, none⟩ b_2 ∧
 Same ⟨b_2, 0, none⟩ b_2 ∧
 FnOk Try.prog 60 stateC ∧
 true = true ∧
 ∃ (x_3 : LqX),
 [pointer (some ⟨x.b, 0, none⟩), int i64 n] = [pointer (some ⟨x_3.b, 0, none⟩), int i64 x_3.a] ∧
 ([] : List Atom) = [] ∧
 True ∧
 LatIn (Atom.pred (rest [(0, F), (1, Atom.cells x_1.b3 [string x.c.name, bool x.c.late, int i64 x.c.script, slice x_1.w.vs.a x_1.w.vs.n x_1.w.vs.cap, slice x_1.w.vt.a x_1.w.vt.n x_1.w.vt.cap, slice x_1.w.vb.a x_1.w.vb.n x_1.w.vb.cap, slice x_1.w.vd.a x_1.w.vd.n x_1.w.vd.cap, slice x_1.w.vi.a x_1.w.vi.n x_1.w.vi.cap] 28), (5020, Atom.cells b_2 [int i64 n, slice a l c, string s, slice a_5 l_5 c_5, bool b, int i64 n_1] 76)] [])) x_3.b x_3.c ∧
 ∀ (y : Unit),
 True →
 Br (!isS x_3.c x_3.a) (Done transC x F (Ending.returned (bool false)) [(0, F), (1, Atom.cells x_1.b3 [string x.c.name, bool x.c.late, int i64 x.c.script, slice x_1.w.vs.a x_1.w.vs.n x_1.w.vs.cap, slice x_1.w.vt.a x_1.w.vt.n x_1.w.vt.cap, slice x_1.w.vb.a x_1.w.vb.n x_1.w.vb.cap, slice x_1.w.vd.a x_1.w.vd.n x_1.w.vd.cap, slice x_1.w.vi.a x_1.w.vi.n x_1.w.vi.cap] 28), (5020, Atom.cells b_2 [int i64 n, slice a l c, string s, slice a_5 l_5 c_5, bool b, int i64 n_1] 76)])
 (Same ⟨b_2, 3, none⟩ b_2 ∧
 ∃ (n_2 : Nat),
 (∃ (x_4 : TrJ),
 ((TrP x F x_4.w ∧ Tr2 x F x_4.k x_4.t x_4.wt x_4.k2) ∧ x_4.k = n_2) ∧
 (pointer (some ⟨x.b, 0, none⟩) = pointer (some ⟨x.b, 0, none⟩) ∧
 pointer (some ⟨x_1.b3, 0, none⟩) = pointer (some ⟨x_4.b3, 0, none⟩) ∧ pointer (some ⟨b_2, 0, none⟩) = pointer (some ⟨x_4.b5, 0, none⟩) ∧ slice x_1.w.vt.a x_1.w.vt.n x_1.w.vt.cap = slice x_4.w.vt.a x_4.w.vt.n x_4.w.vt.cap ∧ int i64 (↑x_1.w.vt.n : Int) = int i64 (↑x_4.w.vt.n : Int) ∧ int i64 (↑x_1.k : Int) = int i64 (↑x_4.k : Int) ∧ slice a_5 l_5 c_5 = slice x_4.wt.a x_4.wt.n x_4.wt.cap ∧ int i64 (↑l_5 : Int) = int i64 (↑x_4.wt.n : Int) ∧ int i64 (0 : Int) = int i64 (↑x_4.k2 : Int) ∧ True) ∧
 Ent [(0, F), (1, Atom.cells x_1.b3 [string x.c.name, bool x.c.late, int i64 x.c.script, slice x_1.w.vs.a x_1.w.vs.n x_1.w.vs.cap, slice x_1.w.vt.a x_1.w.vt.n x_1.w.vt.cap, slice x_1.w.vb.a x_1.w.vb.n x_1.w.vb.cap, slice x_1.w.vd.a x_1.w.vd.n x_1.w.vd.cap, slice x_1.w.vi.a x_1.w.vi.n x_1.w.vi.cap] 28), (5020, Atom.cells b_2 [int i64 n, slice a l c, string s, slice a_5 l_5 c_5, bool b, int i64 n_1] 76)]
 [(0, F), (1, Atom.cells x_4.b3 [string x.c.name, bool x.c.late, int i64 x.c.script, slice x_4.w.vs.a x_4.w.vs.n x_4.w.vs.cap, slice x_4.w.vt.a x_4.w.vt.n x_4.w.vt.cap, slice x_4.w.vb.a x_4.w.vb.n x_4.w.vb.cap, slice x_4.w.vd.a x_4.w.vd.n x_4.w.vd.cap, slice x_4.w.vi.a x_4.w.vi.n x_4.w.vi.cap] 28), (2, Atom.cells x_4.b5 [int i64 x_4.t.source, slice x_4.we.a x_4.we.n x_4.we.cap, string x_4.t.cond, slice x_4.wt.a x_4.wt.n x_4.wt.cap, bool x_4.t.internal, int i64 x_4.t.block] 76)]) ∧
 ∀ (x_4 : TrJ) (js : Nat → Value),
 (TrP x F x_4.w ∧ Tr2 x F x_4.k x_4.t x_4.wt x_4.k2) ∧ x_4.k = n_2 →
 Br (decide ((↑x_4.k2 : Int) < (↑x_4.wt.n : Int)))
 (QOpOk Try.prog (opIn Try.f52 9 1) (ixQ 1) ∧
 ∃ (x_5 : IxQX),
 [slice x_4.wt.a x_4.wt.n x_4.wt.cap, int i64 (↑x_4.k2 : Int)] = [slice (some ⟨x_5.b, x_5.o, none⟩) x_5.len x_5.cap, int i64 x_5.n] ∧
 ((0 : Int) ≤ x_5.n ∧ x_5.n < (↑x_5.len : Int)) ∧
 ∃ (n : Int),
 Look F ⟨x_5.b, x_5.o + x_5.n.toNat * 1, none⟩ (int i64 n) ∧
 FnOk Try.prog 60 stateC ∧
 true = true ∧
 ∃ (x_6 : LqX),
 [pointer (some ⟨x.b, 0, none⟩), int i64 n] = [pointer (some ⟨x_6.b, 0, none⟩), int i64 x_6.a] ∧
 ([] : List Atom) = [] ∧
 True ∧
 LatIn (Atom.pred (rest [(0, F), (1, Atom.cells x_4.b3 [string x.c.name, bool x.c.late, int i64 x.c.script, slice x_4.w.vs.a x_4.w.vs.n x_4.w.vs.cap, slice x_4.w.vt.a x_4.w.vt.n x_4.w.vt.cap, slice x_4.w.vb.a x_4.w.vb.n x_4.w.vb.cap, slice x_4.w.vd.a x_4.w.vd.n x_4.w.vd.cap, slice x_4.w.vi.a x_4.w.vi.n x_4.w.vi.cap] 28), (2, Atom.cells x_4.b5 [int i64 x_4.t.source, slice x_4.we.a x_4.we.n x_4.we.cap, string x_4.t.cond, slice x_4.wt.a x_4.wt.n x_4.wt.cap, bool x_4.t.internal, int i64 x_4.t.block] 76)] [])) x_6.b x_6.c ∧
 ∀ (y : Unit),
 True →
 Br (!isS x_6.c x_6.a) (Done transC x F (Ending.returned (bool false)) [(0, F), (1, Atom.cells x_4.b3 [string x.c.name, bool x.c.late, int i64 x.c.script, slice x_4.w.vs.a x_4.w.vs.n x_4.w.vs.cap, slice x_4.w.vt.a x_4.w.vt.n x_4.w.vt.cap, slice x_4.w.vb.a x_4.w.vb.n x_4.w.vb.cap, slice x_4.w.vd.a x_4.w.vd.n x_4.w.vd.cap, slice x_4.w.vi.a x_4.w.vi.n x_4.w.vi.cap] 28), (2, Atom.cells x_4.b5 [int i64 x_4.t.source, slice x_4.we.a x_4.we.n x_4.we.cap, string x_4.t.cond, slice x_4.wt.a x_4.wt.n x_4.wt.cap, bool x_4.t.internal, int i64 x_4.t.block] 76)])
 (Br (n == (0 : Int)) (Done transC x F (Ending.returned (bool false)) [(0, F), (1, Atom.cells x_4.b3 [string x.c.name, bool x.c.late, int i64 x.c.script, slice x_4.w.vs.a x_4.w.vs.n x_4.w.vs.cap, slice x_4.w.vt.a x_4.w.vt.n x_4.w.vt.cap, slice x_4.w.vb.a x_4.w.vb.n x_4.w.vb.cap, slice x_4.w.vd.a x_4.w.vd.n x_4.w.vd.cap, slice x_4.w.vi.a x_4.w.vi.n x_4.w.vi.cap] 28), (2, Atom.cells x_4.b5 [int i64 x_4.t.source, slice x_4.we.a x_4.we.n x_4.we.cap, string x_4.t.cond, slice x_4.wt.a x_4.wt.n x_4.wt.cap, bool x_4.t.internal, int i64 x_4.t.block] 76)])
 (Same ⟨x_4.b5, 3, none⟩ x_4.b5 ∧
 QOpOk Try.prog (opIn Try.f52 12 3) slQ ∧
 ∃ (x_7 : SlQX),
 [slice x_4.wt.a x_4.wt.n x_4.wt.cap, int i64 (↑x_4.k2 : Int)] = [slice x_7.a x_7.n x_7.cap, int i64 x_7.h] ∧
 ((0 : Int) ≤ x_7.h ∧ x_7.h ≤ (↑x_7.cap : Int)) ∧
 ∃ (n_3 : Nat × Nat),
 (∃ (x_8 : TrJ),
 ((TrP x F x_8.w ∧ Tr2 x F x_8.k x_8.t x_8.wt x_8.k2 ∧ x_8.t.targets[x_8.k2]? = some x_8.a ∧ isS x.c x_8.a = true ∧ x_8.a ≠ (0 : Int) ∧ x_8.k3 ≤ x_8.k2 ∧ ((List.take x_8.k2 x_8.t.targets).all fun (b : Int) => tgB x.c x_8.a b) = (List.drop x_8.k3 (List.take x_8.k2 x_8.t.targets)).all fun (b : Int) => tgB x.c x_8.a b) ∧ (x_8.k, x_8.k2) = n_3) ∧
 (pointer (some ⟨x.b, 0, none⟩) = pointer (some ⟨x.b, 0, none⟩) ∧
 pointer (some ⟨x_4.b3, 0, none⟩) = pointer (some ⟨x_8.b3, 0, none⟩) ∧
 pointer (some ⟨x_4.b5, 0, none⟩) = pointer (some ⟨x_8.b5, 0, none⟩) ∧
 int i64 n = int i64 x_8.a ∧
 slice x_4.w.vt.a x_4.w.vt.n x_4.w.vt.cap = slice x_8.w.vt.a x_8.w.vt.n x_8.w.vt.cap ∧ int i64 (↑x_4.w.vt.n : Int) = int i64 (↑x_8.w.vt.n : Int) ∧ int i64 (↑x_4.k : Int) = int i64 (↑x_8.k : Int) ∧ slice x_4.wt.a x_4.wt.n x_4.wt.cap = slice x_8.wt.a x_8.wt.n x_8.wt.cap ∧ int i64 (↑x_4.wt.n : Int) = int i64 (↑x_8.wt.n : Int) ∧ int i64 (↑x_4.k2 : Int) = int i64 (↑x_8.k2 : Int) ∧ slice x_7.a x_7.h.toNat x_7.cap = slice x_8.wt.a x_8.k2 x_8.wt.cap ∧ int i64 (↑x_7.h.toNat : Int) = int i64 (↑x_8.k2 : Int) ∧ int i64 (0 : Int) = int i64 (↑x_8.k3 : Int) ∧ True) ∧
 Ent [(0, F), (1, Atom.cells x_4.b3 [string x.c.name, bool x.c.late, int i64 x.c.script, slice x_4.w.vs.a x_4.w.vs.n x_4.w.vs.cap, slice x_4.w.vt.a x_4.w.vt.n x_4.w.vt.cap, slice x_4.w.vb.a x_4.w.vb.n x_4.w.vb.cap, slice x_4.w.vd.a x_4.w.vd.n x_4.w.vd.cap, slice x_4.w.vi.a x_4.w.vi.n x_4.w.vi.cap] 28), (2, Atom.cells x_4.b5 [int i64 x_4.t.source, slice x_4.we.a x_4.we.n x_4.we.cap, string x_4.t.cond, slice x_4.wt.a x_4.wt.n x_4.wt.cap, bool x_4.t.internal, int i64 x_4.t.block] 76)]
 [(0, F), (1, Atom.cells x_8.b3 [string x.c.name, bool x.c.late, int i64 x.c.script, slice x_8.w.vs.a x_8.w.vs.n x_8.w.vs.cap, slice x_8.w.vt.a x_8.w.vt.n x_8.w.vt.cap, slice x_8.w.vb.a x_8.w.vb.n x_8.w.vb.cap, slice x_8.w.vd.a x_8.w.vd.n x_8.w.vd.cap, slice x_8.w.vi.a x_8.w.vi.n x_8.w.vi.cap] 28), (2, Atom.cells x_8.b5 [int i64 x_8.t.source, slice x_8.we.a x_8.we.n x_8.we.cap, string x_8.t.cond, slice x_8.wt.a x_8.wt.n x_8.wt.cap, bool x_8.t.internal, int i64 x_8.t.block] 76)]) ∧
 ∀ (x_8 : TrJ) (js : Nat → Value),
 (TrP x F x_8.w ∧ Tr2 x F x_8.k x_8.t x_8.wt x_8.k2 ∧ x_8.t.targets[x_8.k2]? = some x_8.a ∧ isS x.c x_8.a = true ∧ x_8.a ≠ (0 : Int) ∧ x_8.k3 ≤ x_8.k2 ∧ ((List.take x_8.k2 x_8.t.targets).all fun (b : Int) => tgB x.c x_8.a b) = (List.drop x_8.k3 (List.take x_8.k2 x_8.t.targets)).all fun (b : Int) => tgB x.c x_8.a b) ∧ (x_8.k, x_8.k2) = n_3 →
 Br (decide ((↑x_8.k3 : Int) < (↑x_8.k2 : Int)))
 (QOpOk Try.prog (opIn Try.f52 14 0) (ixQ 1) ∧
 ∃ (x_9 : IxQX),
 [slice x_8.wt.a x_8.k2 x_8.wt.cap, int i64 (↑x_8.k3 : Int)] = [slice (some ⟨x_9.b, x_9.o, none⟩) x_9.len x_9.cap, int i64 x_9.n] ∧
 ((0 : Int) ≤ x_9.n ∧ x_9.n < (↑x_9.len : Int)) ∧
 ∃ (n : Int),
 Look F ⟨x_9.b, x_9.o + x_9.n.toNat * 1, none⟩ (int i64 n) ∧
 FnOk Try.prog 96 tgC ∧
 true = true ∧
 ∃ (x_10 : L2X),
 [pointer (some ⟨x.b, 0, none⟩), int i64 x_8.a, int i64 n] = [pointer (some ⟨x_10.b, 0, none⟩), int i64 x_10.a, int i64 x_10.d] ∧
 ([] : List Atom) = [] ∧
 (isS x_10.c x_10.a = true ∧ isS x_10.c x_10.d = true) ∧
 LatIn (Atom.pred (rest [(0, F), (1, Atom.cells x_8.b3 [string x.c.name, bool x.c.late, int i64 x.c.script, slice x_8.w.vs.a x_8.w.vs.n x_8.w.vs.cap, slice x_8.w.vt.a x_8.w.vt.n x_8.w.vt.cap, slice x_8.w.vb.a x_8.w.vb.n x_8.w.vb.cap, slice x_8.w.vd.a x_8.w.vd.n x_8.w.vd.cap, slice x_8.w.vi.a x_8.w.vi.n x_8.w.vi.cap] 28), (2, Atom.cells x_8.b5 [int i64 x_8.t.source, slice x_8.we.a x_8.we.n x_8.we.cap, string x_8.t.cond, slice x_8.wt.a x_8.wt.n x_8.wt.cap, bool x_8.t.internal, int i64 x_8.t.block] 76)] [])) x_10.b x_10.c ∧
 ∀ (y : Unit),
 True →
 Br (!tgB x_10.c x_10.a x_10.d) (Done transC x F (Ending.returned (bool false)) [(0, F), (1, Atom.cells x_8.b3 [string x.c.name, bool x.c.late, int i64 x.c.script, slice x_8.w.vs.a x_8.w.vs.n x_8.w.vs.cap, slice x_8.w.vt.a x_8.w.vt.n x_8.w.vt.cap, slice x_8.w.vb.a x_8.w.vb.n x_8.w.vb.cap, slice x_8.w.vd.a x_8.w.vd.n x_8.w.vd.cap, slice x_8.w.vi.a x_8.w.vi.n x_8.w.vi.cap] 28), (2, Atom.cells x_8.b5 [int i64 x_8.t.source, slice x_8.we.a x_8.we.n x_8.we.cap, string x_8.t.cond, slice x_8.wt.a x_8.wt.n x_8.wt.cap, bool x_8.t.internal, int i64 x_8.t.block] 76)])
 (((-9223372036854775808 : Int) ≤ (↑x_8.k3 : Int) + (1 : Int) ∧ (↑x_8.k3 : Int) + (1 : Int) ≤ (9223372036854775807 : Int)) ∧
 ∃ (y : TrJ),
 ((TrP x F y.w ∧ Tr2 x F y.k y.t y.wt y.k2 ∧ y.t.targets[y.k2]? = some y.a ∧ isS x.c y.a = true ∧ y.a ≠ (0 : Int) ∧ y.k3 ≤ y.k2 ∧ ((List.take y.k2 y.t.targets).all fun (b : Int) => tgB x.c y.a b) = (List.drop y.k3 (List.take y.k2 y.t.targets)).all fun (b : Int) => tgB x.c y.a b) ∧ (y.k, y.k2) = n_3) ∧
 (pointer (some ⟨x.b, 0, none⟩) = pointer (some ⟨x.b, 0, none⟩) ∧
 pointer (some ⟨x_8.b3, 0, none⟩) = pointer (some ⟨y.b3, 0, none⟩) ∧
 pointer (some ⟨x_8.b5, 0, none⟩) = pointer (some ⟨y.b5, 0, none⟩) ∧
 int i64 x_8.a = int i64 y.a ∧
 slice x_8.w.vt.a x_8.w.vt.n x_8.w.vt.cap = slice y.w.vt.a y.w.vt.n y.w.vt.cap ∧
 int i64 (↑x_8.w.vt.n : Int) = int i64 (↑y.w.vt.n : Int) ∧ int i64 (↑x_8.k : Int) = int i64 (↑y.k : Int) ∧ slice x_8.wt.a x_8.wt.n x_8.wt.cap = slice y.wt.a y.wt.n y.wt.cap ∧ int i64 (↑x_8.wt.n : Int) = int i64 (↑y.wt.n : Int) ∧ int i64 (↑x_8.k2 : Int) = int i64 (↑y.k2 : Int) ∧ slice x_8.wt.a x_8.k2 x_8.wt.cap = slice y.wt.a y.k2 y.wt.cap ∧ int i64 (↑x_8.k2 : Int) = int i64 (↑y.k2 : Int) ∧ int i64 ((↑x_8.k3 : Int) + (1 : Int)) = int i64 (↑y.k3 : Int) ∧ True) ∧
 Ent [(0, F), (1, Atom.cells x_8.b3 [string x.c.name, bool x.c.late, int i64 x.c.script, slice x_8.w.vs.a x_8.w.vs.n x_8.w.vs.cap, slice x_8.w.vt.a x_8.w.vt.n x_8.w.vt.cap, slice x_8.w.vb.a x_8.w.vb.n x_8.w.vb.cap, slice x_8.w.vd.a x_8.w.vd.n x_8.w.vd.cap, slice x_8.w.vi.a x_8.w.vi.n x_8.w.vi.cap] 28), (2, Atom.cells x_8.b5 [int i64 x_8.t.source, slice x_8.we.a x_8.we.n x_8.we.cap, string x_8.t.cond, slice x_8.wt.a x_8.wt.n x_8.wt.cap, bool x_8.t.internal, int i64 x_8.t.block] 76)]
 [(0, F), (1, Atom.cells y.b3 [string x.c.name, bool x.c.late, int i64 x.c.script, slice y.w.vs.a y.w.vs.n y.w.vs.cap, slice y.w.vt.a y.w.vt.n y.w.vt.cap, slice y.w.vb.a y.w.vb.n y.w.vb.cap, slice y.w.vd.a y.w.vd.n y.w.vd.cap, slice y.w.vi.a y.w.vi.n y.w.vi.cap] 28), (2, Atom.cells y.b5 [int i64 y.t.source, slice y.we.a y.we.n y.we.cap, string y.t.cond, slice y.wt.a y.wt.n y.wt.cap, bool y.t.internal, int i64 y.t.block] 76)] ∧
 y.k2 - y.k3 < x_8.k2 - x_8.k3))
 (((-9223372036854775808 : Int) ≤ (↑x_8.k2 : Int) + (1 : Int) ∧ (↑x_8.k2 : Int) + (1 : Int) ≤ (9223372036854775807 : Int)) ∧
 ∃ (y : TrJ),
 ((TrP x F y.w ∧ Tr2 x F y.k y.t y.wt y.k2) ∧ y.k = n_2) ∧
 (pointer (some ⟨x.b, 0, none⟩) = pointer (some ⟨x.b, 0, none⟩) ∧
 pointer (some ⟨x_8.b3, 0, none⟩) = pointer (some ⟨y.b3, 0, none⟩) ∧ pointer (some ⟨x_8.b5, 0, none⟩) = pointer (some ⟨y.b5, 0, none⟩) ∧ slice x_8.w.vt.a x_8.w.vt.n x_8.w.vt.cap = slice y.w.vt.a y.w.vt.n y.w.vt.cap ∧ int i64 (↑x_8.w.vt.n : Int) = int i64 (↑y.w.vt.n : Int) ∧ int i64 (↑x_8.k : Int) = int i64 (↑y.k : Int) ∧ slice x_8.wt.a x_8.wt.n x_8.wt.cap = slice y.wt.a y.wt.n y.wt.cap ∧ int i64 (↑x_8.wt.n : Int) = int i64 (↑y.wt.n : Int) ∧ int i64 ((↑x_8.k2 : Int) + (1 : Int)) = int i64 (↑y.k2 : Int) ∧ True) ∧
 Ent [(0, F), (1, Atom.cells x_8.b3 [string x.c.name, bool x.c.late, int i64 x.c.script, slice x_8.w.vs.a x_8.w.vs.n x_8.w.vs.cap, slice x_8.w.vt.a x_8.w.vt.n x_8.w.vt.cap, slice x_8.w.vb.a x_8.w.vb.n x_8.w.vb.cap, slice x_8.w.vd.a x_8.w.vd.n x_8.w.vd.cap, slice x_8.w.vi.a x_8.w.vi.n x_8.w.vi.cap] 28), (2, Atom.cells x_8.b5 [int i64 x_8.t.source, slice x_8.we.a x_8.we.n x_8.we.cap, string x_8.t.cond, slice x_8.wt.a x_8.wt.n x_8.wt.cap, bool x_8.t.internal, int i64 x_8.t.block] 76)]
 [(0, F), (1, Atom.cells y.b3 [string x.c.name, bool x.c.late, int i64 x.c.script, slice y.w.vs.a y.w.vs.n y.w.vs.cap, slice y.w.vt.a y.w.vt.n y.w.vt.cap, slice y.w.vb.a y.w.vb.n y.w.vb.cap, slice y.w.vd.a y.w.vd.n y.w.vd.cap, slice y.w.vi.a y.w.vi.n y.w.vi.cap] 28), (2, Atom.cells y.b5 [int i64 y.t.source, slice y.we.a y.we.n y.we.cap, string y.t.cond, slice y.wt.a y.wt.n y.wt.cap, bool y.t.internal, int i64 y.t.block] 76)] ∧
 y.t.targets.length - y.k2 < x_4.t.targets.length - x_4.k2))))
 (((-9223372036854775808 : Int) ≤ (↑x_4.k : Int) + (1 : Int) ∧ (↑x_4.k : Int) + (1 : Int) ≤ (9223372036854775807 : Int)) ∧
 ∃ (y : TrI),
 (TrP x F y.w ∧ Tr1 x y.k) ∧
 (pointer (some ⟨x.b, 0, none⟩) = pointer (some ⟨x.b, 0, none⟩) ∧ pointer (some ⟨x_4.b3, 0, none⟩) = pointer (some ⟨y.b3, 0, none⟩) ∧ slice x_4.w.vt.a x_4.w.vt.n x_4.w.vt.cap = slice y.w.vt.a y.w.vt.n y.w.vt.cap ∧ int i64 (↑x_4.w.vt.n : Int) = int i64 (↑y.w.vt.n : Int) ∧ int i64 ((↑x_4.k : Int) + (1 : Int)) = int i64 (↑y.k : Int) ∧ True) ∧
 Ent [(0, F), (1, Atom.cells x_4.b3 [string x.c.name, bool x.c.late, int i64 x.c.script, slice x_4.w.vs.a x_4.w.vs.n x_4.w.vs.cap, slice x_4.w.vt.a x_4.w.vt.n x_4.w.vt.cap, slice x_4.w.vb.a x_4.w.vb.n x_4.w.vb.cap, slice x_4.w.vd.a x_4.w.vd.n x_4.w.vd.cap, slice x_4.w.vi.a x_4.w.vi.n x_4.w.vi.cap] 28), (2, Atom.cells x_4.b5 [int i64 x_4.t.source, slice x_4.we.a x_4.we.n x_4.we.cap, string x_4.t.cond, slice x_4.wt.a x_4.wt.n x_4.wt.cap, bool x_4.t.internal, int i64 x_4.t.block] 76)]
 [(0, F), (1, Atom.cells y.b3 [string x.c.name, bool x.c.late, int i64 x.c.script, slice y.w.vs.a y.w.vs.n y.w.vs.cap, slice y.w.vt.a y.w.vt.n y.w.vt.cap, slice y.w.vb.a y.w.vb.n y.w.vb.cap, slice y.w.vd.a y.w.vd.n y.w.vd.cap, slice y.w.vi.a y.w.vi.n y.w.vi.cap] 28)] ∧
 x.c.trs.length - y.k < x.c.trs.length - x_1.k)))
 (Same ⟨x_1.b3, 3, none⟩ x_1.b3 ∧
 (∃ (x_2 : TrI),
 (TrP x F x_2.w ∧ TgtOk x.c ∧ x_2.k ≤ x.c.sts.length ∧ transB x.c = stsB x.c x_2.k (List.drop x_2.k x.c.sts)) ∧
 (pointer (some ⟨x.b, 0, none⟩) = pointer (some ⟨x.b, 0, none⟩) ∧ pointer (some ⟨x_1.b3, 0, none⟩) = pointer (some ⟨x_2.b3, 0, none⟩) ∧ slice x_1.w.vs.a x_1.w.vs.n x_1.w.vs.cap = slice x_2.w.vs.a x_2.w.vs.n x_2.w.vs.cap ∧ int i64 (↑x_1.w.vs.n : Int) = int i64 (↑x_2.w.vs.n : Int) ∧ int i64 (0 : Int) = int i64 (↑x_2.k : Int) ∧ True) ∧
 Ent [(0, F), (1, Atom.cells x_1.b3 [string x.c.name, bool x.c.late, int i64 x.c.script, slice x_1.w.vs.a x_1.w.vs.n x_1.w.vs.cap, slice x_1.w.vt.a x_1.w.vt.n x_1.w.vt.cap, slice x_1.w.vb.a x_1.w.vb.n x_1.w.vb.cap, slice x_1.w.vd.a x_1.w.vd.n x_1.w.vd.cap, slice x_1.w.vi.a x_1.w.vi.n x_1.w.vi.cap] 28)] [(0, F), (1, Atom.cells x_2.b3 [string x.c.name, bool x.c.late, int i64 x.c.script, slice x_2.w.vs.a x_2.w.vs.n x_2.w.vs.cap, slice x_2.w.vt.a x_2.w.vt.n x_2.w.vt.cap, slice x_2.w.vb.a x_2.w.vb.n x_2.w.vb.cap, slice x_2.w.vd.a x_2.w.vd.n x_2.w.vd.cap, slice x_2.w.vi.a x_2.w.vi.n x_2.w.vi.cap] 28)]) ∧
 ∀ (x_2 : TrI) (js : Nat → Value),
 TrP x F x_2.w ∧ TgtOk x.c ∧ x_2.k ≤ x.c.sts.length ∧ transB x.c = stsB x.c x_2.k (List.drop x_2.k x.c.sts) →
 Br (decide ((↑x_2.k : Int) < (↑x_2.w.vs.n : Int)))
 (QOpOk Try.prog (opIn Try.f52 22 1) (ixQ 13) ∧
 ∃ (x_3 : IxQX),
 [slice x_2.w.vs.a x_2.w.vs.n x_2.w.vs.cap, int i64 (↑x_2.k : Int)] = [slice (some ⟨x_3.b, x_3.o, none⟩) x_3.len x_3.cap, int i64 x_3.n] ∧
 ((0 : Int) ≤ x_3.n ∧ x_3.n < (↑x_3.len : Int)) ∧
 ∃ (s : ByteArray),
 Look F ⟨x_3.b, x_3.o + x_3.n.toNat * 13, none⟩ (string s) ∧
 ∃ (n : Int),
 Look F ⟨x_3.b, x_3.o + x_3.n.toNat * 13 + 1, none⟩ (int i64 n) ∧
 ∃ (n_1 : Int),
 Look F ⟨x_3.b, x_3.o + x_3.n.toNat * 13 + 2, none⟩ (int i64 n_1) ∧
 ∃ (a : Option Addr),
 ∃ (l : Nat),
 ∃ (c : Nat),
 Look F ⟨x_3.b, x_3.o + x_3.n.toNat * 13 + 3, none⟩ (slice a l c) ∧
 ∃ (n_2 : Int),
 Look F ⟨x_3.b, x_3.o + x_3.n.toNat * 13 + 4, none⟩ (int i64 n_2) ∧
 ∃ (a_5 : Option Addr),
 ∃ (l_5 : Nat),
 ∃ (c_5 : Nat),
 Look F ⟨x_3.b, x_3.o + x_3.n.toNat * 13 + 5, none⟩ (slice a_5 l_5 c_5) ∧
 ∃ (a_6 : Option Addr),
 ∃ (l_6 : Nat),
 ∃ (c_6 : Nat),
 Look F ⟨x_3.b, x_3.o + x_3.n.toNat * 13 + 6, none⟩ (slice a_6 l_6 c_6) ∧
 ∃ (a_7 : Option Addr),
 ∃ (l_7 : Nat),
 ∃ (c_7 : Nat),
 Look F ⟨x_3.b, x_3.o + x_3.n.toNat * 13 + 7, none⟩ (slice a_7 l_7 c_7) ∧
 ∃ (a_8 : Option Addr),
 ∃ (l_8 : Nat),
 ∃ (c_8 : Nat),
 Look F ⟨x_3.b, x_3.o + x_3.n.toNat * 13 + 8, none⟩ (slice a_8 l_8 c_8) ∧
 ∃ (a_9 : Option Addr),
 ∃ (l_9 : Nat),
 ∃ (c_9 : Nat),
 Look F ⟨x_3.b, x_3.o + x_3.n.toNat * 13 + 9, none⟩ (slice a_9 l_9 c_9) ∧
 ∃ (n_3 : Int),
 Look F ⟨x_3.b, x_3.o + x_3.n.toNat * 13 + 10, none⟩ (int i64 n_3) ∧
 ∃ (a_10 : Option Addr),
 ∃ (l_10 : Nat),
 ∃ (c_10 : Nat),
 Look F ⟨x_3.b, x_3.o + x_3.n.toNat * 13 + 11, none⟩ (slice a_10 l_10 c_10) ∧
 ∃ (s_1 : ByteArray),
 Look F ⟨x_3.b, x_3.o + x_3.n.toNat * 13 + 12, none⟩ (string s_1) ∧
 ∀ (b : Nat),
 Same ⟨b, 0, none⟩ b ∧
 Same ⟨b, 1, none⟩ b ∧
 Same ⟨b, 2, none⟩ b ∧
 Same ⟨b, 3, none⟩ b ∧
 Same ⟨b, 4, none⟩ b ∧
 Same ⟨b, 5, none⟩ b ∧
 Same ⟨b, 6, none⟩ b ∧
 Same ⟨b, 7, none⟩ b ∧
 Same ⟨b, 8, none⟩ b ∧
 Same ⟨b, 9, none⟩ b ∧
 Same ⟨b, 10, none⟩ b ∧
 Same ⟨b, 11, none⟩ b ∧
 Same ⟨b, 12, none⟩ b ∧
 Same ⟨b, 0, none⟩ b ∧
 Same ⟨b, 1, none⟩ b ∧
 Same ⟨b, 2, none⟩ b ∧
 Same ⟨b, 3, none⟩ b ∧
 Same ⟨b, 4, none⟩ b ∧
 Same ⟨b, 5, none⟩ b ∧
 Same ⟨b, 6, none⟩ b ∧
 Same ⟨b, 7, none⟩ b ∧
 Same ⟨b, 8, none⟩ b ∧
 Same ⟨b, 9, none⟩ b ∧
 Same ⟨b, 10, none⟩ b ∧
 Same ⟨b, 11, none⟩ b ∧
 Same ⟨b, 12, none⟩ b ∧
 FnOk Try.prog 97 initC ∧
 true = true ∧
 ∃ (x_4 : InitX),
 [pointer (some ⟨x.b, 0, none⟩), int i64 (↑x_2.k : Int), agg { toList := [string s, int i64 n, int i64 n_1, slice a l c, int i64 n_2, slice a_5 l_5 c_5, slice a_6 l_6 c_6, slice a_7 l_7 c_7, slice a_8 l_8 c_8, slice a_9 l_9 c_9, int i64 n_3, slice a_10 l_10 c_10, string s_1] }] =
 [pointer (some ⟨x_4.b, 0, none⟩), int i64 (↑x_4.i : Int), agg { toList := [string x_4.s.id, int i64 x_4.s.kind, int i64 x_4.s.parent, slice x_4.vk.a x_4.vk.n x_4.vk.cap, int i64 x_4.s.init, slice x_4.ve.a x_4.ve.n x_4.ve.cap, slice x_4.vx.a x_4.vx.n x_4.vx.cap, slice x_4.vt.a x_4.vt.n x_4.vt.cap, slice x_4.vd.a x_4.vd.n x_4.vd.cap, slice x_4.vi.a x_4.vi.n x_4.vi.cap, int i64 x_4.s.done.kind, slice x_4.vp.a x_4.vp.n x_4.vp.cap, string x_4.s.done.body] }] ∧
 ([] : List Atom) = [] ∧
 (x_4.c.sts[x_4.i]? = some x_4.s ∧ TgtOk x_4.c) ∧
 LatIn
 (Atom.pred
 (rest [(0, F), (1, Atom.cells x_2.b3 [string x.c.name, bool x.c.late, int i64 x.c.script, slice x_2.w.vs.a x_2.w.vs.n x_2.w.vs.cap, slice x_2.w.vt.a x_2.w.vt.n x_2.w.vt.cap, slice x_2.w.vb.a x_2.w.vb.n x_2.w.vb.cap, slice x_2.w.vd.a x_2.w.vd.n x_2.w.vd.cap, slice x_2.w.vi.a x_2.w.vi.n x_2.w.vi.cap] 28), (23030, Atom.cells b [string s, int i64 n, int i64 n_1, slice a l c, int i64 n_2, slice a_5 l_5 c_5, slice a_6 l_6 c_6, slice a_7 l_7 c_7, slice a_8 l_8 c_8, slice a_9 l_9 c_9, int i64 n_3, slice a_10 l_10 c_10, string s_1] 61)] []))
 x_4.b x_4.c ∧
 ∀ (y : Unit),
 True →
 Br (!initB x_4.c (↑x_4.i : Int) x_4.s)
 (Done transC x F (Ending.returned (bool false))
 [(0, F), (1, Atom.cells x_2.b3 [string x.c.name, bool x.c.late, int i64 x.c.script, slice x_2.w.vs.a x_2.w.vs.n x_2.w.vs.cap, slice x_2.w.vt.a x_2.w.vt.n x_2.w.vt.cap, slice x_2.w.vb.a x_2.w.vb.n x_2.w.vb.cap, slice x_2.w.vd.a x_2.w.vd.n x_2.w.vd.cap, slice x_2.w.vi.a x_2.w.vi.n x_2.w.vi.cap] 28), (23030, Atom.cells b [string s, int i64 n, int i64 n_1, slice a l c, int i64 n_2, slice a_5 l_5 c_5, slice a_6 l_6 c_6, slice a_7 l_7 c_7, slice a_8 l_8 c_8, slice a_9 l_9 c_9, int i64 n_3, slice a_10 l_10 c_10, string s_1] 61)])
 (Same ⟨b, 7, none⟩ b ∧
 ∃ (n_4 : Nat),
 (∃ (x_5 : TrK),
 ((TrP x F x_5.w ∧ TgtOk x.c ∧ x.c.sts[x_5.i]? = some x_5.s ∧ IntsIn F (slice x_5.vt.a x_5.vt.n x_5.vt.cap) x_5.s.trans ∧ x_5.k ≤ x_5.s.trans.length ∧ transB x.c = ((List.drop x_5.k x_5.s.trans).all (okTr x.c (↑x_5.i : Int) x_5.s) && stsB x.c (x_5.i + 1) (List.drop (x_5.i + 1) x.c.sts))) ∧ x_5.i = n_4) ∧
 (pointer (some ⟨x.b, 0, none⟩) = pointer (some ⟨x.b, 0, none⟩) ∧
 pointer (some ⟨x_2.b3, 0, none⟩) = pointer (some ⟨x_5.b3, 0, none⟩) ∧
 int i64 (↑x_2.k : Int) = int i64 (↑x_5.i : Int) ∧ pointer (some ⟨b, 0, none⟩) = pointer (some ⟨x_5.b11, 0, none⟩) ∧ slice x_2.w.vs.a x_2.w.vs.n x_2.w.vs.cap = slice x_5.w.vs.a x_5.w.vs.n x_5.w.vs.cap ∧ int i64 (↑x_2.w.vs.n : Int) = int i64 (↑x_5.w.vs.n : Int) ∧ int i64 (↑x_2.k : Int) = int i64 (↑x_5.i : Int) ∧ slice a_7 l_7 c_7 = slice x_5.vt.a x_5.vt.n x_5.vt.cap ∧ int i64 (↑l_7 : Int) = int i64 (↑x_5.vt.n : Int) ∧ int i64 (0 : Int) = int i64 (↑x_5.k : Int) ∧ True) ∧
 Ent
 [(0, F), (1, Atom.cells x_2.b3 [string x.c.name, bool x.c.late, int i64 x.c.script, slice x_2.w.vs.a x_2.w.vs.n x_2.w.vs.cap, slice x_2.w.vt.a x_2.w.vt.n x_2.w.vt.cap, slice x_2.w.vb.a x_2.w.vb.n x_2.w.vb.cap, slice x_2.w.vd.a x_2.w.vd.n x_2.w.vd.cap, slice x_2.w.vi.a x_2.w.vi.n x_2.w.vi.cap] 28), (23030, Atom.cells b [string s, int i64 n, int i64 n_1, slice a l c, int i64 n_2, slice a_5 l_5 c_5, slice a_6 l_6 c_6, slice a_7 l_7 c_7, slice a_8 l_8 c_8, slice a_9 l_9 c_9, int i64 n_3, slice a_10 l_10 c_10, string s_1] 61)]
 [(0, F), (1, Atom.cells x_5.b3 [string x.c.name, bool x.c.late, int i64 x.c.script, slice x_5.w.vs.a x_5.w.vs.n x_5.w.vs.cap, slice x_5.w.vt.a x_5.w.vt.n x_5.w.vt.cap, slice x_5.w.vb.a x_5.w.vb.n x_5.w.vb.cap, slice x_5.w.vd.a x_5.w.vd.n x_5.w.vd.cap, slice x_5.w.vi.a x_5.w.vi.n x_5.w.vi.cap] 28),
 (2, Atom.cells x_5.b11 [string x_5.s.id, int i64 x_5.s.kind, int i64 x_5.s.parent, slice x_5.vk.a x_5.vk.n x_5.vk.cap, int i64 x_5.s.init, slice x_5.ve.a x_5.ve.n x_5.ve.cap, slice x_5.vx.a x_5.vx.n x_5.vx.cap, slice x_5.vt.a x_5.vt.n x_5.vt.cap, slice x_5.vd.a x_5.vd.n x_5.vd.cap, slice x_5.vi.a x_5.vi.n x_5.vi.cap, int i64 x_5.s.done.kind, slice x_5.vp.a x_5.vp.n x_5.vp.cap, string x_5.s.done.body] 61)]) ∧
 ∀ (x_5 : TrK) (js : Nat → Value),
 (TrP x F x_5.w ∧ TgtOk x.c ∧ x.c.sts[x_5.i]? = some x_5.s ∧ IntsIn F (slice x_5.vt.a x_5.vt.n x_5.vt.cap) x_5.s.trans ∧ x_5.k ≤ x_5.s.trans.length ∧ transB x.c = ((List.drop x_5.k x_5.s.trans).all (okTr x.c (↑x_5.i : Int) x_5.s) && stsB x.c (x_5.i + 1) (List.drop (x_5.i + 1) x.c.sts))) ∧ x_5.i = n_4 →
 Br (decide ((↑x_5.k : Int) < (↑x_5.vt.n : Int)))
 (QOpOk Try.prog (opIn Try.f52 27 0) (ixQ 1) ∧
 ∃ (x_6 : IxQX),
 [slice x_5.vt.a x_5.vt.n x_5.vt.cap, int i64 (↑x_5.k : Int)] = [slice (some ⟨x_6.b, x_6.o, none⟩) x_6.len x_6.cap, int i64 x_6.n] ∧
 ((0 : Int) ≤ x_6.n ∧ x_6.n < (↑x_6.len : Int)) ∧
 ∃ (n : Int),
 Look F ⟨x_6.b, x_6.o + x_6.n.toNat * 1, none⟩ (int i64 n) ∧
 Same ⟨x_5.b11, 1, none⟩ x_5.b11 ∧
 Br (x_5.s.kind != (1 : Int))
 (Same ⟨x_5.b11, 1, none⟩ x_5.b11 ∧
 Br (x_5.s.kind != (2 : Int))
 (Done transC x F (Ending.returned (bool false))
 [(0, F), (1, Atom.cells x_5.b3 [string x.c.name, bool x.c.late, int i64 x.c.script, slice x_5.w.vs.a x_5.w.vs.n x_5.w.vs.cap, slice x_5.w.vt.a x_5.w.vt.n x_5.w.vt.cap, slice x_5.w.vb.a x_5.w.vb.n x_5.w.vb.cap, slice x_5.w.vd.a x_5.w.vd.n x_5.w.vd.cap, slice x_5.w.vi.a x_5.w.vi.n x_5.w.vi.cap] 28),
 (2, Atom.cells x_5.b11 [string x_5.s.id, int i64 x_5.s.kind, int i64 x_5.s.parent, slice x_5.vk.a x_5.vk.n x_5.vk.cap, int i64 x_5.s.init, slice x_5.ve.a x_5.ve.n x_5.ve.cap, slice x_5.vx.a x_5.vx.n x_5.vx.cap, slice x_5.vt.a x_5.vt.n x_5.vt.cap, slice x_5.vd.a x_5.vd.n x_5.vd.cap, slice x_5.vi.a x_5.vi.n x_5.vi.cap, int i64 x_5.s.done.kind, slice x_5.vp.a x_5.vp.n x_5.vp.cap, string x_5.s.done.body] 61)])
 (Br (decide (n < (0 : Int)))
 (Done transC x F (Ending.returned (bool false))
 [(0, F), (1, Atom.cells x_5.b3 [string x.c.name, bool x.c.late, int i64 x.c.script, slice x_5.w.vs.a x_5.w.vs.n x_5.w.vs.cap, slice x_5.w.vt.a x_5.w.vt.n x_5.w.vt.cap, slice x_5.w.vb.a x_5.w.vb.n x_5.w.vb.cap, slice x_5.w.vd.a x_5.w.vd.n x_5.w.vd.cap, slice x_5.w.vi.a x_5.w.vi.n x_5.w.vi.cap] 28),
 (2, Atom.cells x_5.b11 [string x_5.s.id, int i64 x_5.s.kind, int i64 x_5.s.parent, slice x_5.vk.a x_5.vk.n x_5.vk.cap, int i64 x_5.s.init, slice x_5.ve.a x_5.ve.n x_5.ve.cap, slice x_5.vx.a x_5.vx.n x_5.vx.cap, slice x_5.vt.a x_5.vt.n x_5.vt.cap, slice x_5.vd.a x_5.vd.n x_5.vd.cap, slice x_5.vi.a x_5.vi.n x_5.vi.cap, int i64 x_5.s.done.kind, slice x_5.vp.a x_5.vp.n x_5.vp.cap, string x_5.s.done.body] 61)])
 (Same ⟨x_5.b3, 4, none⟩ x_5.b3 ∧
 Br (decide (n ≥ (↑x_5.w.vt.n : Int)))
 (Done transC x F (Ending.returned (bool false))
 [(0, F), (1, Atom.cells x_5.b3 [string x.c.name, bool x.c.late, int i64 x.c.script, slice x_5.w.vs.a x_5.w.vs.n x_5.w.vs.cap, slice x_5.w.vt.a x_5.w.vt.n x_5.w.vt.cap, slice x_5.w.vb.a x_5.w.vb.n x_5.w.vb.cap, slice x_5.w.vd.a x_5.w.vd.n x_5.w.vd.cap, slice x_5.w.vi.a x_5.w.vi.n x_5.w.vi.cap] 28),
 (2, Atom.cells x_5.b11 [string x_5.s.id, int i64 x_5.s.kind, int i64 x_5.s.parent, slice x_5.vk.a x_5.vk.n x_5.vk.cap, int i64 x_5.s.init, slice x_5.ve.a x_5.ve.n x_5.ve.cap, slice x_5.vx.a x_5.vx.n x_5.vx.cap, slice x_5.vt.a x_5.vt.n x_5.vt.cap, slice x_5.vd.a x_5.vd.n x_5.vd.cap, slice x_5.vi.a x_5.vi.n x_5.vi.cap, int i64 x_5.s.done.kind, slice x_5.vp.a x_5.vp.n x_5.vp.cap, string x_5.s.done.body] 61)])
 (Same ⟨x_5.b11, 4, none⟩ x_5.b11 ∧
 Br (n == x_5.s.init)
 (Done transC x F (Ending.returned (bool false))
 [(0, F), (1, Atom.cells x_5.b3 [string x.c.name, bool x.c.late, int i64 x.c.script, slice x_5.w.vs.a x_5.w.vs.n x_5.w.vs.cap, slice x_5.w.vt.a x_5.w.vt.n x_5.w.vt.cap, slice x_5.w.vb.a x_5.w.vb.n x_5.w.vb.cap, slice x_5.w.vd.a x_5.w.vd.n x_5.w.vd.cap, slice x_5.w.vi.a x_5.w.vi.n x_5.w.vi.cap] 28),
 (2, Atom.cells x_5.b11 [string x_5.s.id, int i64 x_5.s.kind, int i64 x_5.s.parent, slice x_5.vk.a x_5.vk.n x_5.vk.cap, int i64 x_5.s.init, slice x_5.ve.a x_5.ve.n x_5.ve.cap, slice x_5.vx.a x_5.vx.n x_5.vx.cap, slice x_5.vt.a x_5.vt.n x_5.vt.cap, slice x_5.vd.a x_5.vd.n x_5.vd.cap, slice x_5.vi.a x_5.vi.n x_5.vi.cap, int i64 x_5.s.done.kind, slice x_5.vp.a x_5.vp.n x_5.vp.cap, string x_5.s.done.body] 61)])
 (Same ⟨x_5.b3, 4, none⟩ x_5.b3 ∧
 QOpOk Try.prog (opIn Try.f52 28 29) (ixQ 6) ∧
 ∃ (x_7 : IxQX),
 [slice x_5.w.vt.a x_5.w.vt.n x_5.w.vt.cap, int i64 n] = [slice (some ⟨x_7.b, x_7.o, none⟩) x_7.len x_7.cap, int i64 x_7.n] ∧
 ((0 : Int) ≤ x_7.n ∧ x_7.n < (↑x_7.len : Int)) ∧
 ∃ (n : Int),
 Look F ⟨x_7.b, x_7.o + x_7.n.toNat * 6, none⟩ (int i64 n) ∧
 Br (n != (↑x_5.i : Int))
 (Done transC x F (Ending.returned (bool false))
 [(0, F), (1, Atom.cells x_5.b3 [string x.c.name, bool x.c.late, int i64 x.c.script, slice x_5.w.vs.a x_5.w.vs.n x_5.w.vs.cap, slice x_5.w.vt.a x_5.w.vt.n x_5.w.vt.cap, slice x_5.w.vb.a x_5.w.vb.n x_5.w.vb.cap, slice x_5.w.vd.a x_5.w.vd.n x_5.w.vd.cap, slice x_5.w.vi.a x_5.w.vi.n x_5.w.vi.cap] 28),
 (2, Atom.cells x_5.b11 [string x_5.s.id, int i64 x_5.s.kind, int i64 x_5.s.parent, slice x_5.vk.a x_5.vk.n x_5.vk.cap, int i64 x_5.s.init, slice x_5.ve.a x_5.ve.n x_5.ve.cap, slice x_5.vx.a x_5.vx.n x_5.vx.cap, slice x_5.vt.a x_5.vt.n x_5.vt.cap, slice x_5.vd.a x_5.vd.n x_5.vd.cap, slice x_5.vi.a x_5.vi.n x_5.vi.cap, int i64 x_5.s.done.kind, slice x_5.vp.a x_5.vp.n x_5.vp.cap, string x_5.s.done.body] 61)])
 (((-9223372036854775808 : Int) ≤ (↑x_5.k : Int) + (1 : Int) ∧ (↑x_5.k : Int) + (1 : Int) ≤ (9223372036854775807 : Int)) ∧
 ∃ (y : TrK),
 ((TrP x F y.w ∧ TgtOk x.c ∧ x.c.sts[y.i]? = some y.s ∧ IntsIn F (slice y.vt.a y.vt.n y.vt.cap) y.s.trans ∧ y.k ≤ y.s.trans.length ∧ transB x.c = ((List.drop y.k y.s.trans).all (okTr x.c (↑y.i : Int) y.s) && stsB x.c (y.i + 1) (List.drop (y.i + 1) x.c.sts))) ∧ y.i = n_4) ∧
 (pointer (some ⟨x.b, 0, none⟩) = pointer (some ⟨x.b, 0, none⟩) ∧
 pointer (some ⟨x_5.b3, 0, none⟩) = pointer (some ⟨y.b3, 0, none⟩) ∧
 int i64 (↑x_5.i : Int) = int i64 (↑y.i : Int) ∧
 pointer (some ⟨x_5.b11, 0, none⟩) = pointer (some ⟨y.b11, 0, none⟩) ∧ slice x_5.w.vs.a x_5.w.vs.n x_5.w.vs.cap = slice y.w.vs.a y.w.vs.n y.w.vs.cap ∧ int i64 (↑x_5.w.vs.n : Int) = int i64 (↑y.w.vs.n : Int) ∧ int i64 (↑x_5.i : Int) = int i64 (↑y.i : Int) ∧ slice x_5.vt.a x_5.vt.n x_5.vt.cap = slice y.vt.a y.vt.n y.vt.cap ∧ int i64 (↑x_5.vt.n : Int) = int i64 (↑y.vt.n : Int) ∧ int i64 ((↑x_5.k : Int) + (1 : Int)) = int i64 (↑y.k : Int) ∧ True) ∧
 Ent
 [(0, F), (1, Atom.cells x_5.b3 [string x.c.name, bool x.c.late, int i64 x.c.script, slice x_5.w.vs.a x_5.w.vs.n x_5.w.vs.cap, slice x_5.w.vt.a x_5.w.vt.n x_5.w.vt.cap, slice x_5.w.vb.a x_5.w.vb.n x_5.w.vb.cap, slice x_5.w.vd.a x_5.w.vd.n x_5.w.vd.cap, slice x_5.w.vi.a x_5.w.vi.n x_5.w.vi.cap] 28),
 (2, Atom.cells x_5.b11 [string x_5.s.id, int i64 x_5.s.kind, int i64 x_5.s.parent, slice x_5.vk.a x_5.vk.n x_5.vk.cap, int i64 x_5.s.init, slice x_5.ve.a x_5.ve.n x_5.ve.cap, slice x_5.vx.a x_5.vx.n x_5.vx.cap, slice x_5.vt.a x_5.vt.n x_5.vt.cap, slice x_5.vd.a x_5.vd.n x_5.vd.cap, slice x_5.vi.a x_5.vi.n x_5.vi.cap, int i64 x_5.s.done.kind, slice x_5.vp.a x_5.vp.n x_5.vp.cap, string x_5.s.done.body] 61)]
 [(0, F), (1, Atom.cells y.b3 [string x.c.name, bool x.c.late, int i64 x.c.script, slice y.w.vs.a y.w.vs.n y.w.vs.cap, slice y.w.vt.a y.w.vt.n y.w.vt.cap, slice y.w.vb.a y.w.vb.n y.w.vb.cap, slice y.w.vd.a y.w.vd.n y.w.vd.cap, slice y.w.vi.a y.w.vi.n y.w.vi.cap] 28),
 (2, Atom.cells y.b11 [string y.s.id, int i64 y.s.kind, int i64 y.s.parent, slice y.vk.a y.vk.n y.vk.cap, int i64 y.s.init, slice y.ve.a y.ve.n y.ve.cap, slice y.vx.a y.vx.n y.vx.cap, slice y.vt.a y.vt.n y.vt.cap, slice y.vd.a y.vd.n y.vd.cap, slice y.vi.a y.vi.n y.vi.cap, int i64 y.s.done.kind, slice y.vp.a y.vp.n y.vp.cap, string y.s.done.body] 61)] ∧
 y.s.trans.length - y.k < x_5.s.trans.length - x_5.k))))))
 (Br (decide (n < (0 : Int)))
 (Done transC x F (Ending.returned (bool false))
 [(0, F), (1, Atom.cells x_5.b3 [string x.c.name, bool x.c.late, int i64 x.c.script, slice x_5.w.vs.a x_5.w.vs.n x_5.w.vs.cap, slice x_5.w.vt.a x_5.w.vt.n x_5.w.vt.cap, slice x_5.w.vb.a x_5.w.vb.n x_5.w.vb.cap, slice x_5.w.vd.a x_5.w.vd.n x_5.w.vd.cap, slice x_5.w.vi.a x_5.w.vi.n x_5.w.vi.cap] 28),
 (2, Atom.cells x_5.b11 [string x_5.s.id, int i64 x_5.s.kind, int i64 x_5.s.parent, slice x_5.vk.a x_5.vk.n x_5.vk.cap, int i64 x_5.s.init, slice x_5.ve.a x_5.ve.n x_5.ve.cap, slice x_5.vx.a x_5.vx.n x_5.vx.cap, slice x_5.vt.a x_5.vt.n x_5.vt.cap, slice x_5.vd.a x_5.vd.n x_5.vd.cap, slice x_5.vi.a x_5.vi.n x_5.vi.cap, int i64 x_5.s.done.kind, slice x_5.vp.a x_5.vp.n x_5.vp.cap, string x_5.s.done.body] 61)])
 (Same ⟨x_5.b3, 4, none⟩ x_5.b3 ∧
 Br (decide (n ≥ (↑x_5.w.vt.n : Int)))
 (Done transC x F (Ending.returned (bool false))
 [(0, F), (1, Atom.cells x_5.b3 [string x.c.name, bool x.c.late, int i64 x.c.script, slice x_5.w.vs.a x_5.w.vs.n x_5.w.vs.cap, slice x_5.w.vt.a x_5.w.vt.n x_5.w.vt.cap, slice x_5.w.vb.a x_5.w.vb.n x_5.w.vb.cap, slice x_5.w.vd.a x_5.w.vd.n x_5.w.vd.cap, slice x_5.w.vi.a x_5.w.vi.n x_5.w.vi.cap] 28),
 (2, Atom.cells x_5.b11 [string x_5.s.id, int i64 x_5.s.kind, int i64 x_5.s.parent, slice x_5.vk.a x_5.vk.n x_5.vk.cap, int i64 x_5.s.init, slice x_5.ve.a x_5.ve.n x_5.ve.cap, slice x_5.vx.a x_5.vx.n x_5.vx.cap, slice x_5.vt.a x_5.vt.n x_5.vt.cap, slice x_5.vd.a x_5.vd.n x_5.vd.cap, slice x_5.vi.a x_5.vi.n x_5.vi.cap, int i64 x_5.s.done.kind, slice x_5.vp.a x_5.vp.n x_5.vp.cap, string x_5.s.done.body] 61)])
 (Same ⟨x_5.b11, 4, none⟩ x_5.b11 ∧
 Br (n == x_5.s.init)
 (Done transC x F (Ending.returned (bool false))
 [(0, F), (1, Atom.cells x_5.b3 [string x.c.name, bool x.c.late, int i64 x.c.script, slice x_5.w.vs.a x_5.w.vs.n x_5.w.vs.cap, slice x_5.w.vt.a x_5.w.vt.n x_5.w.vt.cap, slice x_5.w.vb.a x_5.w.vb.n x_5.w.vb.cap, slice x_5.w.vd.a x_5.w.vd.n x_5.w.vd.cap, slice x_5.w.vi.a x_5.w.vi.n x_5.w.vi.cap] 28),
 (2, Atom.cells x_5.b11 [string x_5.s.id, int i64 x_5.s.kind, int i64 x_5.s.parent, slice x_5.vk.a x_5.vk.n x_5.vk.cap, int i64 x_5.s.init, slice x_5.ve.a x_5.ve.n x_5.ve.cap, slice x_5.vx.a x_5.vx.n x_5.vx.cap, slice x_5.vt.a x_5.vt.n x_5.vt.cap, slice x_5.vd.a x_5.vd.n x_5.vd.cap, slice x_5.vi.a x_5.vi.n x_5.vi.cap, int i64 x_5.s.done.kind, slice x_5.vp.a x_5.vp.n x_5.vp.cap, string x_5.s.done.body] 61)])
 (Same ⟨x_5.b3, 4, none⟩ x_5.b3 ∧
 QOpOk Try.prog (opIn Try.f52 28 29) (ixQ 6) ∧
 ∃ (x_7 : IxQX),
 [slice x_5.w.vt.a x_5.w.vt.n x_5.w.vt.cap, int i64 n] = [slice (some ⟨x_7.b, x_7.o, none⟩) x_7.len x_7.cap, int i64 x_7.n] ∧
 ((0 : Int) ≤ x_7.n ∧ x_7.n < (↑x_7.len : Int)) ∧
 ∃ (n : Int),
 Look F ⟨x_7.b, x_7.o + x_7.n.toNat * 6, none⟩ (int i64 n) ∧
 Br (n != (↑x_5.i : Int))
 (Done transC x F (Ending.returned (bool false))
 [(0, F), (1, Atom.cells x_5.b3 [string x.c.name, bool x.c.late, int i64 x.c.script, slice x_5.w.vs.a x_5.w.vs.n x_5.w.vs.cap, slice x_5.w.vt.a x_5.w.vt.n x_5.w.vt.cap, slice x_5.w.vb.a x_5.w.vb.n x_5.w.vb.cap, slice x_5.w.vd.a x_5.w.vd.n x_5.w.vd.cap, slice x_5.w.vi.a x_5.w.vi.n x_5.w.vi.cap] 28),
 (2, Atom.cells x_5.b11 [string x_5.s.id, int i64 x_5.s.kind, int i64 x_5.s.parent, slice x_5.vk.a x_5.vk.n x_5.vk.cap, int i64 x_5.s.init, slice x_5.ve.a x_5.ve.n x_5.ve.cap, slice x_5.vx.a x_5.vx.n x_5.vx.cap, slice x_5.vt.a x_5.vt.n x_5.vt.cap, slice x_5.vd.a x_5.vd.n x_5.vd.cap, slice x_5.vi.a x_5.vi.n x_5.vi.cap, int i64 x_5.s.done.kind, slice x_5.vp.a x_5.vp.n x_5.vp.cap, string x_5.s.done.body] 61)])
 (((-9223372036854775808 : Int) ≤ (↑x_5.k : Int) + (1 : Int) ∧ (↑x_5.k : Int) + (1 : Int) ≤ (9223372036854775807 : Int)) ∧
 ∃ (y : TrK),
 ((TrP x F y.w ∧ TgtOk x.c ∧ x.c.sts[y.i]? = some y.s ∧ IntsIn F (slice y.vt.a y.vt.n y.vt.cap) y.s.trans ∧ y.k ≤ y.s.trans.length ∧ transB x.c = ((List.drop y.k y.s.trans).all (okTr x.c (↑y.i : Int) y.s) && stsB x.c (y.i + 1) (List.drop (y.i + 1) x.c.sts))) ∧ y.i = n_4) ∧
 (pointer (some ⟨x.b, 0, none⟩) = pointer (some ⟨x.b, 0, none⟩) ∧
 pointer (some ⟨x_5.b3, 0, none⟩) = pointer (some ⟨y.b3, 0, none⟩) ∧
 int i64 (↑x_5.i : Int) = int i64 (↑y.i : Int) ∧
 pointer (some ⟨x_5.b11, 0, none⟩) = pointer (some ⟨y.b11, 0, none⟩) ∧ slice x_5.w.vs.a x_5.w.vs.n x_5.w.vs.cap = slice y.w.vs.a y.w.vs.n y.w.vs.cap ∧ int i64 (↑x_5.w.vs.n : Int) = int i64 (↑y.w.vs.n : Int) ∧ int i64 (↑x_5.i : Int) = int i64 (↑y.i : Int) ∧ slice x_5.vt.a x_5.vt.n x_5.vt.cap = slice y.vt.a y.vt.n y.vt.cap ∧ int i64 (↑x_5.vt.n : Int) = int i64 (↑y.vt.n : Int) ∧ int i64 ((↑x_5.k : Int) + (1 : Int)) = int i64 (↑y.k : Int) ∧ True) ∧
 Ent
 [(0, F), (1, Atom.cells x_5.b3 [string x.c.name, bool x.c.late, int i64 x.c.script, slice x_5.w.vs.a x_5.w.vs.n x_5.w.vs.cap, slice x_5.w.vt.a x_5.w.vt.n x_5.w.vt.cap, slice x_5.w.vb.a x_5.w.vb.n x_5.w.vb.cap, slice x_5.w.vd.a x_5.w.vd.n x_5.w.vd.cap, slice x_5.w.vi.a x_5.w.vi.n x_5.w.vi.cap] 28),
 (2, Atom.cells x_5.b11 [string x_5.s.id, int i64 x_5.s.kind, int i64 x_5.s.parent, slice x_5.vk.a x_5.vk.n x_5.vk.cap, int i64 x_5.s.init, slice x_5.ve.a x_5.ve.n x_5.ve.cap, slice x_5.vx.a x_5.vx.n x_5.vx.cap, slice x_5.vt.a x_5.vt.n x_5.vt.cap, slice x_5.vd.a x_5.vd.n x_5.vd.cap, slice x_5.vi.a x_5.vi.n x_5.vi.cap, int i64 x_5.s.done.kind, slice x_5.vp.a x_5.vp.n x_5.vp.cap, string x_5.s.done.body] 61)]
 [(0, F), (1, Atom.cells y.b3 [string x.c.name, bool x.c.late, int i64 x.c.script, slice y.w.vs.a y.w.vs.n y.w.vs.cap, slice y.w.vt.a y.w.vt.n y.w.vt.cap, slice y.w.vb.a y.w.vb.n y.w.vb.cap, slice y.w.vd.a y.w.vd.n y.w.vd.cap, slice y.w.vi.a y.w.vi.n y.w.vi.cap] 28),
 (2, Atom.cells y.b11 [string y.s.id, int i64 y.s.kind, int i64 y.s.parent, slice y.vk.a y.vk.n y.vk.cap, int i64 y.s.init, slice y.ve.a y.ve.n y.ve.cap, slice y.vx.a y.vx.n y.vx.cap, slice y.vt.a y.vt.n y.vt.cap, slice y.vd.a y.vd.n y.vd.cap, slice y.vi.a y.vi.n y.vi.cap, int i64 y.s.done.kind, slice y.vp.a y.vp.n y.vp.cap, string y.s.done.body] 61)] ∧
 y.s.trans.length - y.k < x_5.s.trans.length - x_5.k))))))
 (((-9223372036854775808 : Int) ≤ (↑x_5.i : Int) + (1 : Int) ∧ (↑x_5.i : Int) + (1 : Int) ≤ (9223372036854775807 : Int)) ∧
 ∃ (y : TrI),
 (TrP x F y.w ∧ TgtOk x.c ∧ y.k ≤ x.c.sts.length ∧ transB x.c = stsB x.c y.k (List.drop y.k x.c.sts)) ∧
 (pointer (some ⟨x.b, 0, none⟩) = pointer (some ⟨x.b, 0, none⟩) ∧ pointer (some ⟨x_5.b3, 0, none⟩) = pointer (some ⟨y.b3, 0, none⟩) ∧ slice x_5.w.vs.a x_5.w.vs.n x_5.w.vs.cap = slice y.w.vs.a y.w.vs.n y.w.vs.cap ∧ int i64 (↑x_5.w.vs.n : Int) = int i64 (↑y.w.vs.n : Int) ∧ int i64 ((↑x_5.i : Int) + (1 : Int)) = int i64 (↑y.k : Int) ∧ True) ∧
 Ent
 [(0, F), (1, Atom.cells x_5.b3 [string x.c.name, bool x.c.late, int i64 x.c.script, slice x_5.w.vs.a x_5.w.vs.n x_5.w.vs.cap, slice x_5.w.vt.a x_5.w.vt.n x_5.w.vt.cap, slice x_5.w.vb.a x_5.w.vb.n x_5.w.vb.cap, slice x_5.w.vd.a x_5.w.vd.n x_5.w.vd.cap, slice x_5.w.vi.a x_5.w.vi.n x_5.w.vi.cap] 28),
 (2, Atom.cells x_5.b11 [string x_5.s.id, int i64 x_5.s.kind, int i64 x_5.s.parent, slice x_5.vk.a x_5.vk.n x_5.vk.cap, int i64 x_5.s.init, slice x_5.ve.a x_5.ve.n x_5.ve.cap, slice x_5.vx.a x_5.vx.n x_5.vx.cap, slice x_5.vt.a x_5.vt.n x_5.vt.cap, slice x_5.vd.a x_5.vd.n x_5.vd.cap, slice x_5.vi.a x_5.vi.n x_5.vi.cap, int i64 x_5.s.done.kind, slice x_5.vp.a x_5.vp.n x_5.vp.cap, string x_5.s.done.body] 61)]
 [(0, F), (1, Atom.cells y.b3 [string x.c.name, bool x.c.late, int i64 x.c.script, slice y.w.vs.a y.w.vs.n y.w.vs.cap, slice y.w.vt.a y.w.vt.n y.w.vt.cap, slice y.w.vb.a y.w.vb.n y.w.vb.cap, slice y.w.vd.a y.w.vd.n y.w.vd.cap, slice y.w.vi.a y.w.vi.n y.w.vi.cap] 28)] ∧
 x.c.sts.length - y.k < x.c.sts.length - x_2.k)))
 (Done transC x F (Ending.returned (bool true)) [(0, F), (1, Atom.cells x_2.b3 [string x.c.name, bool x.c.late, int i64 x.c.script, slice x_2.w.vs.a x_2.w.vs.n x_2.w.vs.cap, slice x_2.w.vt.a x_2.w.vt.n x_2.w.vt.cap, slice x_2.w.vb.a x_2.w.vb.n x_2.w.vb.cap, slice x_2.w.vd.a x_2.w.vd.n x_2.w.vd.cap, slice x_2.w.vi.a x_2.w.vi.n x_2.w.vi.cap] 28)])) := by
  obtain ⟨b, c⟩ := x
  replace hr : LatIn F b c := hr
  obtain ⟨⟨vs, vt, vb, vd, vi⟩, hv, ⟨h1, h2, h3, h4, h5⟩⟩ := hr.ch
  dsimp only at h1 h2 h3 h4 h5
  obtain ⟨a1, c1, rfl, -⟩ := SlIn.open h1
  obtain ⟨a2, c2, rfl, -⟩ := SlIn.open h2
  obtain ⟨a3, c3, rfl, -⟩ := SlIn.open h3
  obtain ⟨a4, c4, rfl, -⟩ := SlIn.open h4
  obtain ⟨a5, c5, rfl, -⟩ := SlIn.open h5
  have e1 : ∀ o k : Nat, o + (k : Int).toNat * 1 = o + k := fun o k => by omega
  refine ⟨_, hv 0 _ rfl, _, hv 1 _ rfl, _, hv 2 _ rfl, _, _, _, hv 3 _ rfl, _, _, _, hv 4 _ rfl, _, _, _, hv 5 _ rfl, _, _, _, hv 6 _ rfl, _, _, _, hv 7 _ rfl, fun b3 => ?_⟩
  simp only [same_refl, true_and]
  refine ⟨⟨⟨0, b3, ⟨⟨a1, _, c1⟩, ⟨a2, _, c2⟩, ⟨a3, _, c3⟩, ⟨a4, _, c4⟩, ⟨a5, _, c5⟩⟩⟩, ⟨⟨h2, h1⟩, Nat.zero_le _, rfl, fun j t hj => absurd hj (Nat.not_lt_zero j)⟩, ⟨rfl, rfl, rfl, rfl, trivial⟩, Ent.pick [0, 2040] rfl rfl⟩, ?_⟩
  rintro ⟨k, b3, w⟩ js ⟨⟨p1, p2⟩, q⟩
  dsimp only at p1 p2 q ⊢
  have hn1 := p1.num
  have hn2 := p2.num
  refine br_decide (fun hlt => ?_) (fun hge => ?_)
  · obtain ⟨t, ht⟩ : ∃ t, c.trs[k]? = some t := ⟨_, List.getElem?_eq_getElem (by omega)⟩
    obtain ⟨tb, to, r, ea, ⟨we, wt, rfl, hev, hgt⟩, hL⟩ := p1.at' ht
    obtain ⟨ga, gc, rfl, -⟩ := SlIn.open hev
    obtain ⟨gb, gd, rfl, -⟩ := SlIn.open hgt
    refine ⟨ixq_ok 6 rfl rfl rfl rfl, ⟨tb, to, w.vt.n, w.vt.cap, k⟩, by rw [ea], by dsimp only; omega, t.source, hL 0 _ rfl, _, _, _, hL 1 _ rfl, t.cond, hL 2 _ rfl, _, _, _, hL 3 _ rfl, t.internal, hL 4 _ rfl, t.block, hL 5 _ rfl, fun b5 => ⟨state_ok, ⟨b, c, t.source⟩, rfl, hr.sub (sub_rest 0 (by simp) rfl), fun _ _ => br_intro (fun h6 => ⟨(), trivial, retB ?_, Ent.pick [0] rfl rfl⟩) (fun h6 => ?_)⟩⟩
    · have h6' : isS c t.source = false := by simpa using h6
      exact (trb_false q ht (by show aimB c t = false; unfold aimB; rw [h6']; rfl)).symm
    have h6' : isS c t.source = true := by simpa using h6
    refine ⟨k, ⟨⟨k, b3, w, b5, t, ⟨ga, _, gc⟩, ⟨gb, _, gd⟩, 0, 0, 0⟩, ⟨⟨⟨p1, p2⟩, q, ht, h6', hgt, Nat.zero_le _, rfl, fun i u hi => absurd hi (Nat.not_lt_zero i)⟩, rfl⟩, ⟨rfl, rfl, rfl, rfl, rfl, rfl, rfl, rfl, trivial⟩, Ent.pick [0, 1, 5020] rfl rfl⟩, ?_⟩
    rintro ⟨k', b3, w, b5, t, we, wt, k2, ax, kx⟩ js2 ⟨⟨⟨p1, p2⟩, q, ht, hsrc, hg, hk2, hA, hV⟩, hkk⟩
    dsimp only at p1 p2 q ht hsrc hg hk2 hA hkk ⊢
    have hgn := SlIn.num hg
    have hq1 := q.1
    refine br_decide (fun hlt2 => ?_) (fun hge2 => ?_)
    · obtain ⟨a, ha⟩ : ∃ a, t.targets[k2]? = some a := ⟨_, List.getElem?_eq_getElem (by omega)⟩
      obtain ⟨gb1, go1, rr, ea2, hra, hLa⟩ := SlIn.at' hg ha
      have hra : rr = [.int .i64 a] := hra
      subst hra
      have hst := aimT_step (c := c) ha
      have bad : aimT c (t.targets.take k2) (t.targets.drop k2) = false → false = transB c := by
        intro hf
        refine (trb_false q ht ?_).symm
        show aimB c t = false
        unfold aimB
        rw [hA, hf, Bool.and_false]
      have hlk : ∀ i : Nat, i = k2 → Look F ⟨gb1, go1 + (i : Int).toNat * 1, none⟩ (.int .i64 a) := by
        intro i hi
        subst hi
        exact hLa 0 _ rfl
      refine ⟨ixq_ok 1 rfl rfl rfl rfl, ⟨gb1, go1, wt.n, wt.cap, k2⟩, by rw [ea2], by dsimp only; omega, a, hlk k2 rfl, state_ok, ⟨b, c, a⟩, rfl, hr.sub (sub_rest 0 (by simp) rfl), fun _ _ => br_intro (fun h7 => ⟨(), trivial, retB (bad ?_), Ent.pick [0] rfl rfl⟩) (fun h7 => br_intro (fun h8 => ⟨(), trivial, retB (bad ?_), Ent.pick [0] rfl rfl⟩) (fun h8 => ?_))⟩
      · rw [hst]; dsimp only at h7; rw [h7]; rfl
      · rw [hst]; dsimp only at h7; rw [h7, h8]; rfl
      have h7' : isS c a = true := by simpa using h7
      have h8' : a ≠ 0 := by simpa using h8
      dsimp only at h7
      rw [h7, h8, cond_false, cond_false] at hst
      refine ⟨slq_ok rfl rfl rfl, ⟨wt.a, wt.n, wt.cap, k2⟩, rfl, by dsimp only; omega, (k', k2), ⟨⟨k', b3, w, b5, t, we, wt, k2, a, 0⟩, ⟨⟨⟨p1, p2⟩, ⟨q, ht, hsrc, hg, hk2, hA, hV⟩, ha, h7', h8', Nat.zero_le _, rfl⟩, rfl⟩, ⟨rfl, rfl, rfl, rfl, rfl, rfl, rfl, rfl, rfl, rfl, rfl, rfl, trivial⟩, Ent.pick [0, 1, 2] rfl rfl⟩, ?_⟩
      rintro ⟨k4, b34, w4, b54, t4, we4, wt4, m2, a4, m3⟩ js3 ⟨⟨⟨p14, p24⟩, ⟨q4, ht4, hsrc4, hg4, hk24, hA4, hV4⟩, ha4, h74, h84, hk34, hall⟩, hkk4⟩
      dsimp only at p14 p24 q4 ht4 hsrc4 hg4 hk24 hA4 hV4 ha4 h74 h84 hk34 hall hkk4 ⊢
      simp only [Prod.mk.injEq] at hkk4
      obtain ⟨hka, hkb⟩ := hkk4
      subst hka hkb
      have htt : t4 = t := by rw [ht] at ht4; cases ht4; rfl
      subst htt
      have hgn4 := SlIn.num hg4
      have hst4 := aimT_step (c := c) ha4
      have hz : (a4 == 0) = false := by simpa using h84
      rw [h74, hz] at hst4
      replace hst4 : aimT c (t4.targets.take m2) (t4.targets.drop m2) = ((t4.targets.take m2).all (fun b => tgB c a4 b) && aimT c (t4.targets.take (m2 + 1)) (t4.targets.drop (m2 + 1))) := hst4
      refine br_decide (fun hlt3 => ?_) (fun hge3 => ?_)
      · obtain ⟨d, hd⟩ : ∃ d, t4.targets[m3]? = some d := ⟨_, List.getElem?_eq_getElem (by omega)⟩
        obtain ⟨gb2, go2, rr2, ea3, hra2, hLb⟩ := SlIn.at' hg4 hd
        have hra2 : rr2 = [.int .i64 d] := hra2
        subst hra2
        have hdv := hV4 m3 d (by omega) hd
        rw [take_drop_g (by omega) hd, List.all_cons] at hall
        refine ⟨ixq_ok 1 rfl rfl rfl rfl, ⟨gb2, go2, m2, wt4.cap, m3⟩, by rw [ea3], by dsimp only; omega, d, hLb 0 _ rfl, tg_ok, ⟨b, c, a4, d⟩, rfl, ⟨h74, hdv⟩, hr.sub (sub_rest 0 (by simp) rfl), fun _ _ => br_intro (fun h9 => ⟨(), trivial, retB ?_, Ent.pick [0] rfl rfl⟩) (fun h9 => ⟨by omega, ⟨k4, b34, w4, b54, t4, we4, wt4, m2, a4, m3 + 1⟩, ⟨⟨⟨p14, p24⟩, ⟨q4, ht4, hsrc4, hg4, hk24, hA4, hV4⟩, ha4, h74, h84, by dsimp only; omega, ?_⟩, rfl⟩, ⟨rfl, rfl, rfl, rfl, rfl, rfl, rfl, rfl, rfl, rfl, rfl, rfl, trivial⟩, Ent.pick [0, 1, 2] rfl rfl, by dsimp only; omega⟩)⟩
        · have h9' : tgB c a4 d = false := by simpa using h9
          refine (trb_false q4 ht4 ?_).symm
          show aimB c t4 = false
          unfold aimB
          rw [hA4, hst4, hall, h9']; simp
        · have h9' : tgB c a4 d = true := by simpa using h9
          dsimp only
          rw [hall, h9', Bool.true_and]
      · have hm : m3 = m2 := by omega
        subst hm
        rw [List.drop_eq_nil_of_le (by rw [List.length_take]; omega)] at hall
        refine ⟨by omega, ⟨k4, b34, w4, b54, t4, we4, wt4, m3 + 1, 0, 0⟩, ⟨⟨⟨p14, p24⟩, q4, ht4, hsrc4, hg4, by dsimp only; omega, ?_, fun i u hi hu => ?_⟩, hkk⟩, ⟨rfl, rfl, rfl, rfl, rfl, rfl, rfl, rfl, trivial⟩, Ent.pick [0, 1, 2] rfl rfl, by dsimp only; omega⟩
        · dsimp only
          rw [hA4, hst4, hall]; rfl
        · by_cases e : i = m3
          · subst e; rw [ha4] at hu; cases hu; exact h74
          · exact hV4 i u (by dsimp only at hi; omega) hu
    · have hkt : k2 = t.targets.length := by omega
      subst hkt
      rw [List.drop_eq_nil_of_le (Nat.le_refl _)] at hA
      have haim : aimB c t = true := by
        unfold aimB
        rw [hsrc, hA]; rfl
      exact ⟨by omega, ⟨k' + 1, b3, w⟩, ⟨⟨p1, p2⟩, trb_next q ht haim⟩, ⟨rfl, rfl, rfl, rfl, trivial⟩, Ent.pick [0, 1] rfl rfl, by dsimp only; omega⟩
  · have hk : k = c.trs.length := by have := q.1; dsimp only at this; omega
    have htg : TgtOk c := by
      intro i t ht a ha
      have hA := q.2.2 i t (by have := (List.getElem?_eq_some_iff.1 ht).1; omega) ht
      dsimp only at hA
      unfold aimB at hA
      simp only [Bool.and_eq_true] at hA
      exact aimT_mem _ _ hA.2 a ha
    have hT : transB c = stsB c 0 c.sts := by
      have h := q.2.1
      dsimp only at h
      rw [hk, List.drop_eq_nil_of_le (Nat.le_refl _)] at h
      exact h
    refine ⟨⟨⟨0, b3, w⟩, ⟨⟨p1, p2⟩, htg, Nat.zero_le _, hT⟩, ⟨rfl, rfl, rfl, rfl, trivial⟩, Ent.pick [0, 1] rfl rfl⟩, ?_⟩
    clear hT hn1 hn2 p1 p2 q hge hk htg
    rintro ⟨i, b3, w⟩ js6 ⟨⟨p1, p2⟩, htg, hi, hT⟩
    dsimp only at p1 p2 htg hi hT ⊢
    have hn1 := p1.num
    have hn2 := p2.num
    refine br_decide (fun hlt => ?_) (fun hge => ⟨(), trivial, retB ?_, Ent.pick [0] rfl rfl⟩)
    · obtain ⟨s, hs⟩ : ∃ s, c.sts[i]? = some s := ⟨_, List.getElem?_eq_getElem (by omega)⟩
      obtain ⟨tb, to, r, ea, ⟨vk, ve, vx, vt, vd, vi, vp, rfl, k1, k2, k3, k4, k5, k6, k7⟩, hL⟩ := p2.at' hs
      obtain ⟨ga1, gc1, rfl, -⟩ := SlIn.open k1
      obtain ⟨ga2, gc2, rfl, -⟩ := SlIn.open k2
      obtain ⟨ga3, gc3, rfl, -⟩ := SlIn.open k3
      obtain ⟨ga4, gc4, rfl, -⟩ := SlIn.open k4
      obtain ⟨ga5, gc5, rfl, -⟩ := SlIn.open k5
      obtain ⟨ga6, gc6, rfl, -⟩ := SlIn.open k6
      obtain ⟨ga7, gc7, rfl, -⟩ := SlIn.open k7
      rw [drop_g hs, stsB] at hT
      refine ⟨ixq_ok 13 rfl rfl rfl rfl, ⟨tb, to, w.vs.n, w.vs.cap, i⟩, by rw [ea], by dsimp only; omega, _, hL 0 _ rfl, _, hL 1 _ rfl, _, hL 2 _ rfl, _, _, _, hL 3 _ rfl, _, hL 4 _ rfl, _, _, _, hL 5 _ rfl, _, _, _, hL 6 _ rfl, _, _, _, hL 7 _ rfl, _, _, _, hL 8 _ rfl, _, _, _, hL 9 _ rfl, _, hL 10 _ rfl, _, _, _, hL 11 _ rfl, _, hL 12 _ rfl, fun b11 => ⟨init_ok, ⟨b, c, i, s, ⟨ga1, _, gc1⟩, ⟨ga2, _, gc2⟩, ⟨ga3, _, gc3⟩, ⟨ga4, _, gc4⟩, ⟨ga5, _, gc5⟩, ⟨ga6, _, gc6⟩, ⟨ga7, _, gc7⟩⟩, rfl, ⟨hs, htg⟩, hr.sub (sub_rest 0 (by simp) rfl), fun _ _ => br_intro (fun h6 => ⟨(), trivial, retB ?_, Ent.pick [0] rfl rfl⟩) (fun h6 => ?_)⟩⟩
      · have h6' : initB c i s = false := by simpa using h6
        dsimp only
        rw [hT, h6']; rfl
      have h6' : initB c i s = true := by simpa using h6
      rw [h6', Bool.true_and] at hT
      refine ⟨i, ⟨⟨i, b3, w, b11, s, ⟨ga1, _, gc1⟩, ⟨ga2, _, gc2⟩, ⟨ga3, _, gc3⟩, ⟨ga4, _, gc4⟩, ⟨ga5, _, gc5⟩, ⟨ga6, _, gc6⟩, ⟨ga7, _, gc7⟩, 0⟩, ⟨⟨⟨p1, p2⟩, htg, hs, k4, Nat.zero_le _, hT⟩, rfl⟩, ⟨rfl, rfl, rfl, rfl, rfl, rfl, rfl, rfl, rfl, trivial⟩, Ent.pick [0, 1, 23030] rfl rfl⟩, ?_⟩
      rintro ⟨i8, b38, w8, b118, s8, vk8, ve8, vx8, vt8, vd8, vi8, vp8, k8⟩ js8 ⟨⟨⟨r1, r2⟩, r3, r4, r5, r6, r7⟩, r8⟩
      dsimp only at r1 r2 r3 r4 r5 r6 r7 r8 ⊢
      have hn5 := SlIn.num r5
      have hnt := r1.num
      have hi8 : i8 < c.sts.length := (List.getElem?_eq_some_iff.1 r4).1
      refine br_decide (fun hlt8 => ?_) (fun hge8 => ?_)
      · obtain ⟨u, hu⟩ : ∃ u, s8.trans[k8]? = some u := ⟨_, List.getElem?_eq_getElem (by omega)⟩
        obtain ⟨ub, uo, ur, ea8, hur, hLu⟩ := SlIn.at' r5 hu
        have hur : ur = [.int .i64 u] := hur
        subst hur
        rw [drop_g hu, List.all_cons] at r7
        have bad : okTr c i8 s8 u = false → false = transB c := by
          intro h; rw [r7, h]; rfl
        have next : okTr c i8 s8 u = true → transB c = ((s8.trans.drop (k8 + 1)).all (okTr c i8 s8) && stsB c (i8 + 1) (c.sts.drop (i8 + 1))) := by
          intro h; rw [r7, h, Bool.true_and]
        refine ⟨ixq_ok 1 rfl rfl rfl rfl, ⟨ub, uo, vt8.n, vt8.cap, k8⟩, by rw [ea8], by dsimp only; omega, u, hLu 0 _ rfl, br_intro (fun hk1 => br_intro (fun hk2 => ⟨(), trivial, retB (bad ?_), Ent.pick [0] rfl rfl⟩) (fun hk2 => ?_)) (fun hk1 => ?_)⟩
        · unfold okTr; rw [hk1, hk2]; rfl
        all_goals
          have hkk : (s8.kind != 1 && s8.kind != 2) = false := by
            rw [hk1]
            first | rfl | (rw [hk2]; rfl)
          refine br_decide (fun hneg => ⟨(), trivial, retB (bad ?_), Ent.pick [0] rfl rfl⟩) (fun hneg => br_decide (fun hge => ⟨(), trivial, retB (bad ?_), Ent.pick [0] rfl rfl⟩) (fun hge => br_intro (fun hin => ⟨(), trivial, retB (bad ?_), Ent.pick [0] rfl rfl⟩) (fun hin => ?_)))
          · unfold okTr; rw [hkk, decide_eq_true hneg]; rfl
          · unfold okTr; rw [hkk, decide_eq_false hneg, decide_eq_true (by omega)]; rfl
          · unfold okTr; rw [hkk, decide_eq_false hneg, decide_eq_false (by omega), hin]; rfl
          obtain ⟨m, hm⟩ : ∃ m : Nat, u = m := ⟨u.toNat, by omega⟩
          subst hm
          obtain ⟨t, ht⟩ : ∃ t, c.trs[m]? = some t := ⟨_, List.getElem?_eq_getElem (by omega)⟩
          obtain ⟨tb8, to8, rt, ea9, ⟨we8, wt8, rfl, -, -⟩, hLt⟩ := r1.at' ht
          have hok : okTr c i8 s8 m = !(t.source != (i8 : Int)) := by
            unfold okTr
            rw [hkk, decide_eq_false hneg, decide_eq_false (by omega), hin, Int.toNat_natCast, ht]; rfl
          refine ⟨ixq_ok 6 rfl rfl rfl rfl, ⟨tb8, to8, w8.vt.n, w8.vt.cap, m⟩, by rw [ea9], by dsimp only; omega, t.source, hLt 0 _ rfl, br_intro (fun hsr => ⟨(), trivial, retB (bad ?_), Ent.pick [0] rfl rfl⟩) (fun hsr => ⟨by omega, ⟨i8, b38, w8, b118, s8, vk8, ve8, vx8, vt8, vd8, vi8, vp8, k8 + 1⟩, ⟨⟨⟨r1, r2⟩, r3, r4, r5, by dsimp only; omega, next ?_⟩, r8⟩, ⟨rfl, rfl, rfl, rfl, rfl, rfl, rfl, rfl, rfl, trivial⟩, Ent.pick [0, 1, 2] rfl rfl, by dsimp only; omega⟩)⟩
          · rw [hok, hsr]; rfl
          · rw [hok, hsr]; rfl
      · rw [List.drop_eq_nil_of_le (by omega)] at r7
        exact ⟨by omega, ⟨i8 + 1, b38, w8⟩, ⟨⟨r1, r2⟩, r3, by dsimp only; omega, r7⟩, ⟨rfl, rfl, rfl, rfl, trivial⟩, Ent.pick [0, 1] rfl rfl, by dsimp only; omega⟩
    · rw [List.drop_eq_nil_of_le (by omega)] at hT
      exact hT.symm
set_option maxRecDepth 100000 in
theorem trans_ok : FnOk Try.prog 52 transC :=
  fnOk (N := 120) (by kernel_rfl) Try.func52 rfl (by kernel_rfl) (fun _ => Nat.le_of_ble_eq_true rfl) trans_H [] fun x F hc hr => Eq.mpr (by kernel_rfl) (trans_vc x F hc hr)
def bls (bs : List Bool) : List Value := bs.map fun b => .bool b
theorem bls_length (bs : List Bool) : (bls bs).length = bs.length := by simp [bls]
theorem bls_get {bs : List Bool} {i : Nat} {b : Bool} (h : bs[i]? = some b) : (bls bs)[i]? = some (.bool b) := by unfold bls; rw [List.getElem?_map, h]; rfl
theorem bls_set (l : List Bool) (i : Nat) (v : Bool) : (bls l).set i (.bool v) = bls (l.set i v) := by unfold bls; rw [List.map_set]
theorem zeros_bls (n : Nat) : zeros [.bool false] n = bls (List.replicate n false) := by
  unfold zeros bls
  induction n with
  | zero => rfl
  | succ n ih => rw [List.replicate_succ, List.flatten_cons, ih]; rfl
end Go.Proofs.Ytkmdgnbfojkcnaa
