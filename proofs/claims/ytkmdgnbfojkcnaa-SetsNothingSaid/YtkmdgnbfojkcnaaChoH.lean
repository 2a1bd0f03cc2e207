/- What a transition leaves all states in: Domain. -/
import Derived.Test.YtkmdgnbfojkcnaaChoG
import Derived.Laws.Small
set_option linter.all false
namespace Go.Proofs.Ytkmdgnbfojkcnaa
open Go
set_option maxHeartbeats 1000000
def maxQ : QCon where
  X := Int × Int
  args x := [.int .i64 x.1, .int .i64 x.2]
  cond _ := True
  val x := .int .i64 (if x.2 > x.1 then x.2 else x.1)
theorem maxq_ok {P : Program} {o : Oper} {x y : Operand} {ts : Array TypeId} (ho : o.op = .call { callee := .builtin .max, args := #[x, y], argTypes := ts }) : QOpOk P o maxQ := by
  refine ⟨fun q w ρ ha hc => ?_⟩
  obtain ⟨a, b⟩ := q
  simp only [ho, Op.operands, Call.operands, maxQ] at ha
  have ha2 : ρ x = .int .i64 a ∧ ρ y = .int .i64 b := by simpa using ha
  obtain ⟨hx, hy⟩ := ha2
  simp [execOp, ho, resolve, invoke, builtin, hx, hy, run_max_int2, maxQ]
structure Dm1X where
  c1 : Nat
  c2 : Nat
  b : Nat
  c : ChD
  src : Int
  s : Int
def dm1C : Con where
  X := Dm1X
  Y := Unit
  args x := [.int .i64 x.s, .pointer (some ⟨x.c1, 0, none⟩), .pointer (some ⟨x.c2, 0, none⟩)]
  pre _ := []
  cond _ := True
  rdc x F := Look F ⟨x.c1, 0, none⟩ (.pointer (some ⟨x.b, 0, none⟩)) ∧ Look F ⟨x.c2, 0, none⟩ (.int .i64 x.src) ∧ LatIn F x.b x.c
  rel _ _ := True
  val x _ := .returned (.bool (!inB x.c x.s x.src))
  post _ _ := []
  rmono _ _ _ h hk := ⟨hk.1.sub h, hk.2.1.sub h, hk.2.2.sub h⟩
def dm1Ov (x : Dm1X) (_F : Atom) : List (Nat × Nat × OH) := [(1, 0, .q [.ex 0 (.is (.pointer (some ⟨x.b, 0, none⟩)))]), (1, 3, .q [.ex 0 (.is (.int .i64 x.src))]), (1, 4, .c insideC [] [])]
noncomputable def dm1_H (x : Con.X dm1C) (F : Atom) : Hints where
  op := hk ((dm1Ov x F) ++ [])
  inv := (fun _ _ _ => none) x F
  cut := (fun _ _ _ => none) x F
  ord := (fun _ => [])
open Go.Value (int slice string bool pointer agg tuple func) in
open Go.IntKind (i64) in
set_option maxRecDepth 100000 in
theorem dm1_vc (x : Dm1X) (F : Atom) (hc : Con.cond dm1C x) (hr : Con.rdc dm1C x F) :
  Look F ⟨x.c1, 0, none⟩ (pointer (some ⟨x.b, 0, none⟩)) ∧ Look F ⟨x.c2, 0, none⟩ (int i64 x.src) ∧ FnOk Try.prog 18 insideC ∧ true = true ∧ ∃ (x_1 : L2X), [pointer (some ⟨x.b, 0, none⟩), int i64 x.s, int i64 x.src] = [pointer (some ⟨x_1.b, 0, none⟩), int i64 x_1.a, int i64 x_1.d] ∧ ([] : List Atom) = [] ∧ True ∧ LatIn (Atom.pred (rest [(0, F)] [])) x_1.b x_1.c ∧ ∀ (y : Unit), True → Done dm1C x F (Ending.returned (bool !inB x_1.c x_1.a x_1.d)) [(0, F)] := by
  obtain ⟨c1, c2, b, c, src, s⟩ := x
  obtain ⟨r1, r2, hr⟩ := hr
  replace hr : LatIn F b c := hr
  exact ⟨r1, r2, inside_ok, rfl, ⟨b, c, s, src⟩, rfl, rfl, trivial, hr.sub (sub_rest 0 (by simp) rfl), fun _ _ => ⟨(), trivial, rfl, Ent.pick [0] rfl rfl⟩⟩
set_option maxRecDepth 100000 in
theorem dm1_ok : FnOk Try.prog 89 dm1C :=
  fnOk (N := 11) (by kernel_rfl) Try.func89 rfl (by kernel_rfl) (fun _ => Nat.le_of_ble_eq_true rfl) dm1_H [] fun x F hc hr => Eq.mpr (by kernel_rfl) (dm1_vc x F hc hr)
noncomputable def ixw_H (x : Con.X (ixC 89 2)) (F : Atom) : Hints where
  op := hk (((@ixOv 89 2) x F) ++ [])
  inv := (@ixInv 89 2) x F
  cut := (fun _ _ _ => none) x F
  ord := (fun _ => [])
open Go.Value (int slice string bool pointer agg tuple func) in
open Go.IntKind (i64) in
set_option maxRecDepth 100000 in
theorem ixw_vc (x : IxX (89 : FuncId) (2 : Nat)) (F : Atom) (hc : Con.cond (ixC 89 2) x) (hr : Con.rdc (ixC 89 2) x F) :
  (∃ (x_1 : Nat), (x_1 ≤ x.n ∧ fixV x.L.g x.xs 0 = fixV x.L.g (List.drop x_1 x.xs) x_1) ∧ (slice x.a x.n x.cap = slice x.a x.n x.cap ∧ func (Fn.func 89) { toList := [] } { toList := [pointer (some ⟨x.L.c1, 0, none⟩), pointer (some ⟨x.L.c2, 0, none⟩)] } = func (Fn.func 89) { toList := [] } { toList := [pointer (some ⟨x.L.c1, 0, none⟩), pointer (some ⟨x.L.c2, 0, none⟩)] } ∧ int i64 (↑x.n : Int) = int i64 (↑x.n : Int) ∧ int i64 (0 : Int) = int i64 (↑x_1 : Int) ∧ True) ∧ Ent [(0, F)] [(0, F)]) ∧
 ∀ (x_1 : Nat) (js : Nat → Value),
 x_1 ≤ x.n ∧ fixV x.L.g x.xs 0 = fixV x.L.g (List.drop x_1 x.xs) x_1 →
 Br (decide ((↑x_1 : Int) < (↑x.n : Int)))
 (QOpOk Try.prog (opIn Try.f102 4 3) (ixQ 1) ∧
 ∃ (x_2 : IxQX),
 [slice x.a x.n x.cap, int i64 (↑x_1 : Int)] = [slice (some ⟨x_2.b, x_2.o, none⟩) x_2.len x_2.cap, int i64 x_2.n] ∧
 ((0 : Int) ≤ x_2.n ∧ x_2.n < (↑x_2.len : Int)) ∧
 ∃ (n : Int),
 Look F ⟨x_2.b, x_2.o + x_2.n.toNat * 1, none⟩ (int i64 n) ∧
 FnOk Try.prog 89 x.L.con ∧
 true = true ∧
 ∃ (x_3 : Int),
 [int i64 n, pointer (some ⟨x.L.c1, 0, none⟩), pointer (some ⟨x.L.c2, 0, none⟩)] = [int i64 x_3, pointer (some ⟨x.L.c1, 0, none⟩), pointer (some ⟨x.L.c2, 0, none⟩)] ∧
 ([] : List Atom) = [] ∧
 x.L.ok x_3 ∧
 x.L.7 (Atom.pred (rest [(0, F)] [])) ∧
 ∀ (y : Unit),
 True →
 Br (x.L.g x_3) (Done (ixC (89 : FuncId) 2) x F (Ending.returned (int i64 (↑x_1 : Int))) [(0, F)])
 (((-9223372036854775808 : Int) ≤ (↑x_1 : Int) + (1 : Int) ∧ (↑x_1 : Int) + (1 : Int) ≤ (9223372036854775807 : Int)) ∧ ∃ (y : Nat), (y ≤ x.n ∧ fixV x.L.g x.xs 0 = fixV x.L.g (List.drop y x.xs) y) ∧ (slice x.a x.n x.cap = slice x.a x.n x.cap ∧ func (Fn.func 89) { toList := [] } { toList := [pointer (some ⟨x.L.c1, 0, none⟩), pointer (some ⟨x.L.c2, 0, none⟩)] } = func (Fn.func 89) { toList := [] } { toList := [pointer (some ⟨x.L.c1, 0, none⟩), pointer (some ⟨x.L.c2, 0, none⟩)] } ∧ int i64 (↑x.n : Int) = int i64 (↑x.n : Int) ∧ int i64 ((↑x_1 : Int) + (1 : Int)) = int i64 (↑y : Int) ∧ True) ∧ Ent [(0, F)] [(0, F)] ∧ x.n - y < x.n - x_1))
 (Done (ixC (89 : FuncId) 2) x F (Ending.returned (int i64 (-1 : Int))) [(0, F)]) := by
  obtain ⟨L, a, n, cap, xs⟩ := x
  obtain ⟨hsrc, hle, hok⟩ := hc
  obtain ⟨hr1, hr2⟩ := hr
  dsimp only at hsrc hle hok hr1 hr2
  have hlen : xs.length = n := by have := hsrc.len; rw [ints_length] at this; omega
  refine ⟨⟨0, ⟨Nat.zero_le _, rfl⟩, ⟨rfl, rfl, rfl, rfl, trivial⟩, Ent.pick [0] rfl rfl⟩, ?_⟩
  rintro k js ⟨h1, h2⟩
  dsimp only at h1 h2 ⊢
  refine br_decide (fun hlt => ?_) (fun hge => ?_)
  · obtain ⟨b1, o1, rfl⟩ := hsrc.some (by omega)
    obtain ⟨u, hu⟩ : ∃ u, xs[k]? = some u := ⟨_, List.getElem?_eq_getElem (by omega)⟩
    have e1 : o1 + (k : Int).toNat * 1 = o1 + k := by omega
    rw [drop_get hu, fixV] at h2
    refine ⟨ixq_ok 1 rfl rfl rfl rfl, ⟨b1, o1, n, cap, k⟩, rfl, by dsimp only; omega, u, by dsimp only; rw [e1]; exact hr1.look (ints_get hu), L.good, rfl, u, rfl, rfl, hok u (List.mem_of_getElem? hu), L.mono _ _ (sub_rest 0 (by simp) rfl) hr2, fun _ _ => br_intro (fun hg => ⟨(), trivial, retI ?_, Ent.pick [0] rfl rfl⟩) (fun hg => ⟨by omega, k + 1, ⟨by omega, ?_⟩, ⟨rfl, rfl, rfl, rfl, trivial⟩, Ent.pick [0] rfl rfl, by omega⟩)⟩
    · rw [h2, hg]; rfl
    · rw [h2, hg]; rfl
  · rw [List.drop_eq_nil_of_le (by omega)] at h2
    exact ⟨(), trivial, retI h2.symm, Ent.pick [0] rfl rfl⟩
set_option maxRecDepth 100000 in
theorem ixw_ok : FnOk Try.prog 102 (ixC 89 2) :=
  fnOk (N := 19) (by kernel_rfl) Try.func102 rfl (by kernel_rfl) (fun _ => Nat.le_of_ble_eq_true rfl) ixw_H [] fun x F hc hr => Eq.mpr (by kernel_rfl) (ixw_vc x F hc hr)
noncomputable def cfw_H (x : Con.X (cfC 89 2)) (F : Atom) : Hints where
  op := hk (((@cfOv 89 2) x F) ++ [])
  inv := (fun _ _ _ => none) x F
  cut := (fun _ _ _ => none) x F
  ord := (fun _ => [])
open Go.Value (int slice string bool pointer agg tuple func) in
open Go.IntKind (i64) in
set_option maxRecDepth 100000 in
theorem cfw_vc (x : IxX (89 : FuncId) (2 : Nat)) (F : Atom) (hc : Con.cond (cfC 89 2) x) (hr : Con.rdc (cfC 89 2) x F) :
  FnOk Try.prog 102 (ixC (89 : FuncId) 2) ∧ true = true ∧ ∃ (x_1 : IxX (89 : FuncId) 2), [slice x.a x.n x.cap, func (Fn.func 89) { toList := [] } { toList := [pointer (some ⟨x.L.c1, 0, none⟩), pointer (some ⟨x.L.c2, 0, none⟩)] }] = [slice x_1.a x_1.n x_1.cap, func (Fn.func 89) { toList := [] } { toList := [pointer (some ⟨x_1.L.c1, 0, none⟩), pointer (some ⟨x_1.L.c2, 0, none⟩)] }] ∧ ([] : List Atom) = [] ∧ (IsSrc 1 (ints x_1.xs) x_1.a x_1.n ∧ x_1.n * 8 ≤ 140737488351232 ∧ ∀ (u : Int), u ∈ x_1.xs → x_1.L.ok u) ∧ (Srcd (Atom.pred (rest [(0, F)] [])) x_1.a (ints x_1.xs) ∧ x_1.L.7 (Atom.pred (rest [(0, F)] []))) ∧ ∀ (y : Unit), True → Done (cfC (89 : FuncId) 2) x F (Ending.returned (bool (decide (fixV x_1.L.g x_1.xs 0 ≥ (0 : Int))))) [(0, F)] := by
  have s : Sub F (.pred (rest [(0, F)] [])) := sub_rest 0 (by simp) rfl
  exact ⟨ixw_ok, rfl, ⟨x.L, x.a, x.n, x.cap, x.xs⟩, rfl, rfl, hc, ⟨hr.1.sub s, x.L.mono _ _ s hr.2⟩, fun _ _ => ⟨(), trivial, retB (fixV_any _ _ 0), Ent.pick [0] rfl rfl⟩⟩
set_option maxRecDepth 100000 in
theorem cfw_ok : FnOk Try.prog 62 (cfC 89 2) :=
  fnOk (N := 9) (by kernel_rfl) Try.func62 rfl (by kernel_rfl) (fun _ => Nat.le_of_ble_eq_true rfl) cfw_H [] fun x F hc hr => Eq.mpr (by kernel_rfl) (cfw_vc x F hc hr)
def srcT (c : ChD) (t : Int) : Int := ((c.trs[t.toNat]?).map (·.source)).getD 0
def intT (c : ChD) (t : Int) : Bool := ((c.trs[t.toNat]?).map (·.internal)).getD false
def domP (c : ChD) (mem : List (List Int)) (t : Int) : Int × Bool :=
  bif (goalsV c mem t).isEmpty then (0, false) else bif (intT c t && coB c (srcT c t)) && !((goalsV c mem t).any fun s => !inB c s (srcT c t)) then (srcT c t, true) else (if comV c (srcT c t :: goalsV c mem t) > 0 then comV c (srcT c t :: goalsV c mem t) else 0, true)
theorem goalsV_good {c : ChD} (h : newB c = true) (mem : List (List Int)) (t : Int) : Good (nS c) (goalsV c mem t) := by
  unfold goalsV
  cases isT c t with
  | true => exact goalsF_good h mem _ [] ⟨List.nodup_nil, fun u hu => by simp at hu⟩ (tgts_ok h t)
  | false => exact ⟨List.nodup_nil, fun u hu => by simp at hu⟩
def domC : Con where
  X := RmX
  Y := Unit
  args x := [.pointer (some ⟨x.b, 0, none⟩), .slice x.m.a x.m.n x.m.cap, .int .i64 x.h]
  pre _ := []
  cond x := newB x.c = true
  rdc x F := LatIn F x.b x.c ∧ MemIn F (.slice x.m.a x.m.n x.m.cap) x.mem
  rel _ _ := True
  val x _ := .returned (.tuple #[.int .i64 (domP x.c x.mem x.h).1, .bool (domP x.c x.mem x.h).2])
  post _ _ := []
  rmono _ _ _ h hk := ⟨hk.1.sub h, hk.2.sub h⟩
def sh6d : List LH := [.ex 0 (.int .i64), .ex 0 .slice, .ex 0 .str, .ex 0 .slice, .ex 0 .bool, .ex 0 (.int .i64)]
def domOv (_x : RmX) (_F : Atom) : List (Nat × Nat × OH) := [(0, 0, .n 1000), (1, 0, .q [.atj 1000]), (1, 3, .c gosC [] [2030]), (4, 0, .q [.atj 1000]), (4, 1, .c chtC [] []), (4, 4, .qo (ixQ 6)), (4, 5, .q sh6d), (4, 6, .n 5060), (4, 7, .w (at6 5060)), (5, 1, .q [.atj 5060]), (5, 3, .q [.atj 1000]), (5, 5, .q [.atj 5060]), (5, 6, .c coC [] []), (5, 11, .c (cfC 89 2) [] []), (6, 1, .q [.atj 5060]), (7, 0, .q [.atj 1000]), (7, 2, .q [.atj 5060]), (7, 3, .n 8030), (7, 5, .o (apC 3 1 8) [8030] [8050]), (7, 6, .c comC [] []), (7, 7, .qo maxQ)]
noncomputable def dom_H (x : Con.X domC) (F : Atom) : Hints where
  op := hk ((domOv x F) ++ [])
  inv := (fun _ _ _ => none) x F
  cut := (fun _ _ _ => none) x F
  ord := (fun _ => [])
open Go.Value (int slice string bool pointer agg tuple func) in
open Go.IntKind (i64) in
set_option maxRecDepth 100000 in
theorem dom_vc (x : RmX) (F : Atom) (hc : Con.cond domC x) (hr : Con.rdc domC x F) :
  ∀ (b : Nat),
 Same ⟨b, 0, none⟩ b ∧
 FnOk Try.prog 88 gosC ∧
 true = true ∧
 ∃ (x_1 : RmX),
 [pointer (some ⟨x.b, 0, none⟩), slice x.m.a x.m.n x.m.cap, int i64 x.h] = [pointer (some ⟨x_1.b, 0, none⟩), slice x_1.m.a x_1.m.n x_1.m.cap, int i64 x_1.h] ∧
 ([] : List Atom) = [] ∧
 newB x_1.c = true ∧
 (LatIn (Atom.pred (rest [(0, F), (1000, Atom.cells b [pointer (some ⟨x.b, 0, none⟩)] 34)] [])) x_1.b x_1.c ∧ MemIn (Atom.pred (rest [(0, F), (1000, Atom.cells b [pointer (some ⟨x.b, 0, none⟩)] 34)] [])) (slice x_1.m.a x_1.m.n x_1.m.cap) x_1.mem) ∧
 ∀ (y : Row),
 IsRow 3 1 (ints (goalsV x_1.c x_1.mem x_1.h)) y →
 Br ((↑y.n : Int) == (0 : Int)) (Done domC x F (Ending.returned (tuple { toList := [int i64 (0 : Int), bool false] })) [(0, F), (1000, Atom.cells b [pointer (some ⟨x.b, 0, none⟩)] 34), (2030, y.A)])
 (Same ⟨b, 0, none⟩ b ∧
 FnOk Try.prog 17 chtC ∧
 true = true ∧
 ∃ (x_2 : ChtX),
 [pointer (some ⟨x.b, 0, none⟩)] = [pointer (some ⟨x_2.b, 0, none⟩)] ∧
 ([] : List Atom) = [] ∧
 True ∧
 (∀ (j : Nat) (u : Value), (chS x_2.c x_2.w)[j]? = some u → Look (Atom.pred (rest [(0, F), (1000, Atom.cells b [pointer (some ⟨x.b, 0, none⟩)] 34), (2030, y.A)] [])) ⟨x_2.b, j, none⟩ u) ∧
 ∀ (y_1 : Unit),
 True →
 QOpOk Try.prog (opIn Try.f47 4 4) (ixQ 6) ∧
 ∃ (x_3 : IxQX),
 [slice x_2.w.vt.a x_2.w.vt.n x_2.w.vt.cap, int i64 x.h] = [slice (some ⟨x_3.b, x_3.o, none⟩) x_3.len x_3.cap, int i64 x_3.n] ∧
 ((0 : Int) ≤ x_3.n ∧ x_3.n < (↑x_3.len : Int)) ∧
 ∃ (n : Int),
 Look F ⟨x_3.b, x_3.o + x_3.n.toNat * 6, none⟩ (int i64 n) ∧
 ∃ (a : Option Addr),
 ∃ (l : Nat),
 ∃ (c : Nat),
 Look F ⟨x_3.b, x_3.o + x_3.n.toNat * 6 + 1, none⟩ (slice a l c) ∧
 ∃ (s : ByteArray),
 Look F ⟨x_3.b, x_3.o + x_3.n.toNat * 6 + 2, none⟩ (string s) ∧
 ∃ (a_1 : Option Addr),
 ∃ (l_1 : Nat),
 ∃ (c_1 : Nat),
 Look F ⟨x_3.b, x_3.o + x_3.n.toNat * 6 + 3, none⟩ (slice a_1 l_1 c_1) ∧
 ∃ (b_1 : Bool),
 Look F ⟨x_3.b, x_3.o + x_3.n.toNat * 6 + 4, none⟩ (bool b_1) ∧
 ∃ (n_1 : Int),
 Look F ⟨x_3.b, x_3.o + x_3.n.toNat * 6 + 5, none⟩ (int i64 n_1) ∧
 ∀ (b_2 : Nat),
 Same ⟨b_2, 0, none⟩ b_2 ∧
 Same ⟨b_2, 1, none⟩ b_2 ∧
 Same ⟨b_2, 2, none⟩ b_2 ∧
 Same ⟨b_2, 3, none⟩ b_2 ∧
 Same ⟨b_2, 4, none⟩ b_2 ∧
 Same ⟨b_2, 5, none⟩ b_2 ∧
 Same ⟨b_2, 4, none⟩ b_2 ∧
 Br b_1
 (Same ⟨b, 0, none⟩ b ∧
 Same ⟨b_2, 0, none⟩ b_2 ∧
 FnOk Try.prog 22 coC ∧
 true = true ∧
 ∃ (x_4 : LqX),
 [pointer (some ⟨x.b, 0, none⟩), int i64 n] = [pointer (some ⟨x_4.b, 0, none⟩), int i64 x_4.a] ∧
 ([] : List Atom) = [] ∧
 True ∧
 LatIn (Atom.pred (rest [(0, F), (1000, Atom.cells b [pointer (some ⟨x.b, 0, none⟩)] 34), (2030, y.A), (5060, Atom.cells b_2 [int i64 n, slice a l c, string s, slice a_1 l_1 c_1, bool b_1, int i64 n_1] 76)] [])) x_4.b x_4.c ∧
 ∀ (y_2 : Unit),
 True →
 Br (coB x_4.c x_4.a)
 (FnOk Try.prog 62 (cfC (89 : FuncId) 2) ∧
 true = true ∧
 ∃ (x_5 : IxX (89 : FuncId) 2),
 [slice y.a y.n y.cap, func (Fn.func 89) { toList := [] } { toList := [pointer (some ⟨b, 0, none⟩), pointer (some ⟨b_2, 0, none⟩)] }] = [slice x_5.a x_5.n x_5.cap, func (Fn.func 89) { toList := [] } { toList := [pointer (some ⟨x_5.L.c1, 0, none⟩), pointer (some ⟨x_5.L.c2, 0, none⟩)] }] ∧
 ([] : List Atom) = [] ∧
 (IsSrc 1 (ints x_5.xs) x_5.a x_5.n ∧ x_5.n * 8 ≤ 140737488351232 ∧ ∀ (u : Int), u ∈ x_5.xs → x_5.L.ok u) ∧
 (Srcd (Atom.pred (rest [(0, F), (1000, Atom.cells b [pointer (some ⟨x.b, 0, none⟩)] 34), (2030, y.A), (5060, Atom.cells b_2 [int i64 n, slice a l c, string s, slice a_1 l_1 c_1, bool b_1, int i64 n_1] 76)] [])) x_5.a (ints x_5.xs) ∧ x_5.L.7 (Atom.pred (rest [(0, F), (1000, Atom.cells b [pointer (some ⟨x.b, 0, none⟩)] 34), (2030, y.A), (5060, Atom.cells b_2 [int i64 n, slice a l c, string s, slice a_1 l_1 c_1, bool b_1, int i64 n_1] 76)] []))) ∧
 ∀ (y_3 : Unit),
 True →
 Br (!x_5.xs.any x_5.L.g) (Same ⟨b_2, 0, none⟩ b_2 ∧ Done domC x F (Ending.returned (tuple { toList := [int i64 n, bool true] })) [(0, F), (1000, Atom.cells b [pointer (some ⟨x.b, 0, none⟩)] 34), (2030, y.A), (5060, Atom.cells b_2 [int i64 n, slice a l c, string s, slice a_1 l_1 c_1, bool b_1, int i64 n_1] 76)])
 (true = true ∧
 Same ⟨b, 0, none⟩ b ∧
 Same ⟨b_2, 0, none⟩ b_2 ∧
 ∀ (b_3 : Nat),
 OpOk Try.prog (opIn Try.f47 7 5) (apC (3 : TypeId) 1 8) ∧
 true = true ∧
 ∃ (x_6 : ApX),
 [slice (some ⟨b_3, 0, none⟩) 1 1, slice y.a y.n y.cap] = [slice x_6.r.a x_6.r.n x_6.r.cap, slice x_6.a x_6.m x_6.c] ∧
 [Atom.cells b_3 [int i64 n] 3] = [x_6.r.A] ∧
 (IsRow 3 1 x_6.cs x_6.r ∧ x_6.ys.length = x_6.m * 1 ∧ (∀ (u : Value), u ∈ x_6.ys → u.oneCell' = true) ∧ (x_6.r.n + x_6.m) * 8 ≤ 140737488355328 ∧ x_6.r.n + x_6.m ≤ 9223372036854775807 ∧ (x_6.a = none → x_6.m = 0 ∧ x_6.c = 0)) ∧
 (∀ (a_4 : Addr), x_6.a = some a_4 → Seg (Atom.pred (rest [(0, F), (1000, Atom.cells b [pointer (some ⟨x.b, 0, none⟩)] 34), (2030, y.A), (5060, Atom.cells b_2 [int i64 n, slice a l c, string s, slice a_1 l_1 c_1, bool b_1, int i64 n_1] 76), (8030, Atom.cells b_3 [int i64 n] 3)] [8030])) a_4 x_6.ys) ∧
 ∀ (y_4 : Row),
 IsRow 3 1 (x_6.cs ++ x_6.ys) y_4 ∧ y_4.n = x_6.r.n + x_6.m ∧ (x_6.m = 0 → y_4 = x_6.r) →
 FnOk Try.prog 24 comC ∧
 true = true ∧
 ∃ (x_7 : CmX),
 [pointer (some ⟨x.b, 0, none⟩), slice y_4.a y_4.n y_4.cap] = [pointer (some ⟨x_7.b, 0, none⟩), slice x_7.a x_7.n x_7.cap] ∧
 ([] : List Atom) = [] ∧
 (IsSrc 1 (ints x_7.xs) x_7.a x_7.n ∧ x_7.n * 8 ≤ 140737488351232) ∧
 (LatIn (Atom.pred (rest [(0, F), (1000, Atom.cells b [pointer (some ⟨x.b, 0, none⟩)] 34), (2030, y.A), (5060, Atom.cells b_2 [int i64 n, slice a l c, string s, slice a_1 l_1 c_1, bool b_1, int i64 n_1] 76), (8030, Atom.emp), (8050, y_4.A)] [])) x_7.b x_7.c ∧ Srcd (Atom.pred (rest [(0, F), (1000, Atom.cells b [pointer (some ⟨x.b, 0, none⟩)] 34), (2030, y.A), (5060, Atom.cells b_2 [int i64 n, slice a l c, string s, slice a_1 l_1 c_1, bool b_1, int i64 n_1] 76), (8030, Atom.emp), (8050, y_4.A)] [])) x_7.a (ints x_7.xs)) ∧
 ∀ (y_5 : Unit), True → QOpOk Try.prog (opIn Try.f47 7 7) maxQ ∧ ∃ (x_8 : Int × Int), [int i64 (0 : Int), int i64 (comV x_7.c x_7.xs)] = [int i64 x_8.fst, int i64 x_8.snd] ∧ True ∧ Done domC x F (Ending.returned (tuple { toList := [int i64 (if x_8.snd > x_8.fst then x_8.snd else x_8.fst), bool true] })) [(0, F), (1000, Atom.cells b [pointer (some ⟨x.b, 0, none⟩)] 34), (2030, y.A), (5060, Atom.cells b_2 [int i64 n, slice a l c, string s, slice a_1 l_1 c_1, bool b_1, int i64 n_1] 76), (8030, Atom.emp), (8050, y_4.A)]))
 (true = true ∧
 Same ⟨b, 0, none⟩ b ∧
 Same ⟨b_2, 0, none⟩ b_2 ∧
 ∀ (b_3 : Nat),
 OpOk Try.prog (opIn Try.f47 7 5) (apC (3 : TypeId) 1 8) ∧
 true = true ∧
 ∃ (x_5 : ApX),
 [slice (some ⟨b_3, 0, none⟩) 1 1, slice y.a y.n y.cap] = [slice x_5.r.a x_5.r.n x_5.r.cap, slice x_5.a x_5.m x_5.c] ∧
 [Atom.cells b_3 [int i64 n] 3] = [x_5.r.A] ∧
 (IsRow 3 1 x_5.cs x_5.r ∧ x_5.ys.length = x_5.m * 1 ∧ (∀ (u : Value), u ∈ x_5.ys → u.oneCell' = true) ∧ (x_5.r.n + x_5.m) * 8 ≤ 140737488355328 ∧ x_5.r.n + x_5.m ≤ 9223372036854775807 ∧ (x_5.a = none → x_5.m = 0 ∧ x_5.c = 0)) ∧
 (∀ (a_3 : Addr), x_5.a = some a_3 → Seg (Atom.pred (rest [(0, F), (1000, Atom.cells b [pointer (some ⟨x.b, 0, none⟩)] 34), (2030, y.A), (5060, Atom.cells b_2 [int i64 n, slice a l c, string s, slice a_1 l_1 c_1, bool b_1, int i64 n_1] 76), (8030, Atom.cells b_3 [int i64 n] 3)] [8030])) a_3 x_5.ys) ∧
 ∀ (y_3 : Row),
 IsRow 3 1 (x_5.cs ++ x_5.ys) y_3 ∧ y_3.n = x_5.r.n + x_5.m ∧ (x_5.m = 0 → y_3 = x_5.r) →
 FnOk Try.prog 24 comC ∧
 true = true ∧
 ∃ (x_6 : CmX),
 [pointer (some ⟨x.b, 0, none⟩), slice y_3.a y_3.n y_3.cap] = [pointer (some ⟨x_6.b, 0, none⟩), slice x_6.a x_6.n x_6.cap] ∧
 ([] : List Atom) = [] ∧
 (IsSrc 1 (ints x_6.xs) x_6.a x_6.n ∧ x_6.n * 8 ≤ 140737488351232) ∧
 (LatIn (Atom.pred (rest [(0, F), (1000, Atom.cells b [pointer (some ⟨x.b, 0, none⟩)] 34), (2030, y.A), (5060, Atom.cells b_2 [int i64 n, slice a l c, string s, slice a_1 l_1 c_1, bool b_1, int i64 n_1] 76), (8030, Atom.emp), (8050, y_3.A)] [])) x_6.b x_6.c ∧ Srcd (Atom.pred (rest [(0, F), (1000, Atom.cells b [pointer (some ⟨x.b, 0, none⟩)] 34), (2030, y.A), (5060, Atom.cells b_2 [int i64 n, slice a l c, string s, slice a_1 l_1 c_1, bool b_1, int i64 n_1] 76), (8030, Atom.emp), (8050, y_3.A)] [])) x_6.a (ints x_6.xs)) ∧
 ∀ (y_4 : Unit), True → QOpOk Try.prog (opIn Try.f47 7 7) maxQ ∧ ∃ (x_7 : Int × Int), [int i64 (0 : Int), int i64 (comV x_6.c x_6.xs)] = [int i64 x_7.fst, int i64 x_7.snd] ∧ True ∧ Done domC x F (Ending.returned (tuple { toList := [int i64 (if x_7.snd > x_7.fst then x_7.snd else x_7.fst), bool true] })) [(0, F), (1000, Atom.cells b [pointer (some ⟨x.b, 0, none⟩)] 34), (2030, y.A), (5060, Atom.cells b_2 [int i64 n, slice a l c, string s, slice a_1 l_1 c_1, bool b_1, int i64 n_1] 76), (8030, Atom.emp), (8050, y_3.A)]))
 (true = true ∧
 Same ⟨b, 0, none⟩ b ∧
 Same ⟨b_2, 0, none⟩ b_2 ∧
 ∀ (b_3 : Nat),
 OpOk Try.prog (opIn Try.f47 7 5) (apC (3 : TypeId) 1 8) ∧
 true = true ∧
 ∃ (x_4 : ApX),
 [slice (some ⟨b_3, 0, none⟩) 1 1, slice y.a y.n y.cap] = [slice x_4.r.a x_4.r.n x_4.r.cap, slice x_4.a x_4.m x_4.c] ∧
 [Atom.cells b_3 [int i64 n] 3] = [x_4.r.A] ∧
 (IsRow 3 1 x_4.cs x_4.r ∧ x_4.ys.length = x_4.m * 1 ∧ (∀ (u : Value), u ∈ x_4.ys → u.oneCell' = true) ∧ (x_4.r.n + x_4.m) * 8 ≤ 140737488355328 ∧ x_4.r.n + x_4.m ≤ 9223372036854775807 ∧ (x_4.a = none → x_4.m = 0 ∧ x_4.c = 0)) ∧
 (∀ (a_2 : Addr), x_4.a = some a_2 → Seg (Atom.pred (rest [(0, F), (1000, Atom.cells b [pointer (some ⟨x.b, 0, none⟩)] 34), (2030, y.A), (5060, Atom.cells b_2 [int i64 n, slice a l c, string s, slice a_1 l_1 c_1, bool b_1, int i64 n_1] 76), (8030, Atom.cells b_3 [int i64 n] 3)] [8030])) a_2 x_4.ys) ∧
 ∀ (y_2 : Row),
 IsRow 3 1 (x_4.cs ++ x_4.ys) y_2 ∧ y_2.n = x_4.r.n + x_4.m ∧ (x_4.m = 0 → y_2 = x_4.r) →
 FnOk Try.prog 24 comC ∧
 true = true ∧
 ∃ (x_5 : CmX),
 [pointer (some ⟨x.b, 0, none⟩), slice y_2.a y_2.n y_2.cap] = [pointer (some ⟨x_5.b, 0, none⟩), slice x_5.a x_5.n x_5.cap] ∧
 ([] : List Atom) = [] ∧
 (IsSrc 1 (ints x_5.xs) x_5.a x_5.n ∧ x_5.n * 8 ≤ 140737488351232) ∧
 (LatIn (Atom.pred (rest [(0, F), (1000, Atom.cells b [pointer (some ⟨x.b, 0, none⟩)] 34), (2030, y.A), (5060, Atom.cells b_2 [int i64 n, slice a l c, string s, slice a_1 l_1 c_1, bool b_1, int i64 n_1] 76), (8030, Atom.emp), (8050, y_2.A)] [])) x_5.b x_5.c ∧ Srcd (Atom.pred (rest [(0, F), (1000, Atom.cells b [pointer (some ⟨x.b, 0, none⟩)] 34), (2030, y.A), (5060, Atom.cells b_2 [int i64 n, slice a l c, string s, slice a_1 l_1 c_1, bool b_1, int i64 n_1] 76), (8030, Atom.emp), (8050, y_2.A)] [])) x_5.a (ints x_5.xs)) ∧
 ∀ (y_3 : Unit), True → QOpOk Try.prog (opIn Try.f47 7 7) maxQ ∧ ∃ (x_6 : Int × Int), [int i64 (0 : Int), int i64 (comV x_5.c x_5.xs)] = [int i64 x_6.fst, int i64 x_6.snd] ∧ True ∧ Done domC x F (Ending.returned (tuple { toList := [int i64 (if x_6.snd > x_6.fst then x_6.snd else x_6.fst), bool true] })) [(0, F), (1000, Atom.cells b [pointer (some ⟨x.b, 0, none⟩)] 34), (2030, y.A), (5060, Atom.cells b_2 [int i64 n, slice a l c, string s, slice a_1 l_1 c_1, bool b_1, int i64 n_1] 76), (8030, Atom.emp), (8050, y_2.A)])) := by
  obtain ⟨b, c, ⟨ma, mn, mc⟩, mem, t⟩ := x
  obtain ⟨hr, hm⟩ := hr
  replace hr : LatIn F b c := hr
  have hnew : newB c = true := hc
  dsimp only at hm
  have hn128 := (newB_spec.1 hnew).1.n128
  intro bl
  repeat (first | refine ⟨⟨rfl, rfl⟩, ?_⟩ | refine ⟨rfl, ?_⟩)
  refine ⟨gos_ok, rfl, ⟨b, c, ⟨ma, mn, mc⟩, mem, t⟩, rfl, rfl, hnew, ⟨hr.sub (sub_rest 0 (by simp) rfl), hm.sub (sub_rest 0 (by simp) rfl)⟩, fun y hy => ?_⟩
  replace hy : IsRow 3 1 (ints (goalsV c mem t)) y := hy
  have hyn : y.n = (goalsV c mem t).length := by have := hy.len; rw [ints_length] at this; omega
  have hgl := (goalsV_good hnew mem t).len
  refine br_intro (fun h => ⟨(), trivial, ?_, Ent.pick [0] rfl rfl⟩) (fun h => ?_)
  · have h0 : goalsV c mem t = [] := List.eq_nil_of_length_eq_zero (by have : (y.n : Int) = 0 := by simpa using h
                                                                       omega)
    show Ending.returned (.tuple #[.int .i64 0, .bool false]) = .returned (.tuple #[.int .i64 (domP c mem t).1, .bool (domP c mem t).2])
    unfold domP
    rw [h0]
    rfl
  have hne : (goalsV c mem t).isEmpty = false := by
    cases hg : goalsV c mem t with
    | nil => rw [hg] at hyn; simp at hyn; rw [hyn] at h; simp at h
    | cons u r => rfl
  have hT : isT c t = true := by
    cases h1 : isT c t with
    | true => rfl
    | false => unfold goalsV at hne; rw [h1] at hne; simp at hne
  obtain ⟨q, rfl, hq⟩ : ∃ q : Nat, t = q ∧ q < c.trs.length := by
    unfold isT at hT
    simp only [Bool.and_eq_true, decide_eq_true_eq] at hT
    exact ⟨t.toNat, by omega, by omega⟩
  obtain ⟨tt, ht⟩ : ∃ tt, c.trs[q]? = some tt := ⟨_, List.getElem?_eq_getElem hq⟩
  have hsrc : srcT c q = tt.source := by unfold srcT; rw [Int.toNat_natCast, ht]; rfl
  have hint : intT c q = tt.internal := by unfold intT; rw [Int.toNat_natCast, ht]; rfl
  obtain ⟨w, hw, hch⟩ := hr.chs
  obtain ⟨vs, ⟨ta, tn, tc⟩, wb, wd, wi⟩ := w
  have h2 := hch.trs
  dsimp only [ChS.v] at h2
  obtain ⟨m1, -, -⟩ := h2.num
  obtain ⟨b0, o0, r, rfl, ⟨ve, vt, rfl, p1, p2⟩, hL⟩ := h2.at' ht
  obtain ⟨ka, kc, rfl, -⟩ := SlIn.open p2
  obtain ⟨la, lc, rfl, -⟩ := SlIn.open p1
  repeat (first | refine ⟨⟨rfl, rfl⟩, ?_⟩ | refine ⟨rfl, ?_⟩)
  refine ⟨cht_ok, rfl, ⟨b, c, _⟩, rfl, rfl, trivial, fun j u hj => Look.sub (A := F) (sub_rest 0 (by simp) rfl) (hw j u hj), fun _ _ => ⟨ixq_ok 6 rfl rfl rfl rfl, ⟨b0, o0, tn, tc, q⟩, rfl, by dsimp only; omega, tt.source, hL 0 _ rfl, _, _, _, hL 1 _ rfl, tt.cond, hL 2 _ rfl, _, _, _, hL 3 _ rfl, tt.internal, hL 4 _ rfl, tt.block, hL 5 _ rfl, fun b2 => ?_⟩⟩
  repeat (first | refine ⟨⟨rfl, rfl⟩, ?_⟩ | refine ⟨rfl, ?_⟩)
  refine br_intro (fun hi => ?_) (fun hi => ?_)
  · repeat (first | refine ⟨⟨rfl, rfl⟩, ?_⟩ | refine ⟨rfl, ?_⟩)
    refine ⟨co_ok, rfl, ⟨b, c, tt.source⟩, rfl, rfl, trivial, hr.sub (sub_rest 0 (by simp) rfl), fun _ _ => br_intro (fun hco => ?_) (fun hco => ?_)⟩
    · dsimp only at hco
      refine ⟨cfw_ok, rfl, ⟨⟨bl, b2, 0, 0, fun s => !inB c s tt.source, fun _ => True, fun F => Look F ⟨bl, 0, none⟩ (.pointer (some ⟨b, 0, none⟩)) ∧ Look F ⟨b2, 0, none⟩ (.int .i64 tt.source) ∧ LatIn F b c, fun _ _ h hk => ⟨hk.1.sub h, hk.2.1.sub h, hk.2.2.sub h⟩, ⟨fun s F I w _ hr hs => dm1_ok.h ⟨bl, b2, b, c, tt.source, s⟩ F I w trivial hr hs⟩⟩, y.a, y.n, y.cap, goalsV c mem q⟩, rfl, rfl, ⟨hy.src, by dsimp only; omega, fun _ _ => trivial⟩, ⟨Srcd.sub (A := y.A) (sub_rest 2030 (by simp) rfl) hy.srcd, Look.rest (j := 1000) (by simp) (Look.cells rfl), Look.rest (j := 5060) (by simp) (Look.cells rfl), hr.sub (sub_rest 0 (by simp) rfl)⟩, fun _ _ => br_intro (fun ha => ?_) (fun ha => ?_)⟩
      · dsimp only at ha
        repeat (first | refine ⟨⟨rfl, rfl⟩, ?_⟩ | refine ⟨rfl, ?_⟩)
        refine ⟨(), trivial, ?_, Ent.pick [0] rfl rfl⟩
        show Ending.returned (.tuple #[.int .i64 tt.source, .bool true]) = .returned (.tuple #[.int .i64 (domP c mem q).1, .bool (domP c mem q).2])
        unfold domP
        rw [hne, hsrc, hint, hi, hco, ha]
        rfl
      · dsimp only at ha
        repeat (first | refine ⟨⟨rfl, rfl⟩, ?_⟩ | refine ⟨rfl, ?_⟩)
        refine fun b3 => ⟨append_ok (P := Try.prog) 1 8 rfl rfl rfl rfl rfl rfl rfl (by decide), rfl, ⟨⟨some ⟨b3, 0, none⟩, 1, 1, .cells b3 [.int .i64 tt.source] 3⟩, [.int .i64 tt.source], y.a, y.n, y.cap, ints (goalsV c mem q)⟩, rfl, rfl, ⟨.blk b3 1 1 [] rfl rfl (Nat.le_refl _), by dsimp only; rw [ints_length]; omega, fun _ h => ints_one h, by dsimp only; omega, by dsimp only; omega, hy.none0⟩, fun ad e => Seg.rest (j := 2030) (by simp) (hy.srcd ad e), fun z hz => ?_⟩
        obtain ⟨hz1, hz2, -⟩ := hz
        replace hz1 : IsRow 3 1 (ints (tt.source :: goalsV c mem q)) z := hz1
        dsimp only at hz2
        refine ⟨com_ok, rfl, ⟨b, c, z.a, z.n, z.cap, tt.source :: goalsV c mem q⟩, rfl, rfl, ⟨hz1.src, by dsimp only; omega⟩, ⟨hr.sub (sub_rest 0 (by simp) rfl), Srcd.sub (A := z.A) (sub_rest 8050 (by simp) rfl) hz1.srcd⟩, fun _ _ => ⟨maxq_ok rfl, (0, comV c (tt.source :: goalsV c mem q)), rfl, trivial, (), trivial, ?_, Ent.pick [0] rfl rfl⟩⟩
        show Ending.returned (.tuple #[.int .i64 (if comV c (tt.source :: goalsV c mem q) > 0 then comV c (tt.source :: goalsV c mem q) else 0), .bool true]) = .returned (.tuple #[.int .i64 (domP c mem q).1, .bool (domP c mem q).2])
        unfold domP
        rw [hne, hsrc, hint]
        rw [hi, hco, ha]; rfl
    · dsimp only at hco
      repeat (first | refine ⟨⟨rfl, rfl⟩, ?_⟩ | refine ⟨rfl, ?_⟩)
      refine fun b3 => ⟨append_ok (P := Try.prog) 1 8 rfl rfl rfl rfl rfl rfl rfl (by decide), rfl, ⟨⟨some ⟨b3, 0, none⟩, 1, 1, .cells b3 [.int .i64 tt.source] 3⟩, [.int .i64 tt.source], y.a, y.n, y.cap, ints (goalsV c mem q)⟩, rfl, rfl, ⟨.blk b3 1 1 [] rfl rfl (Nat.le_refl _), by dsimp only; rw [ints_length]; omega, fun _ h => ints_one h, by dsimp only; omega, by dsimp only; omega, hy.none0⟩, fun ad e => Seg.rest (j := 2030) (by simp) (hy.srcd ad e), fun z hz => ?_⟩
      obtain ⟨hz1, hz2, -⟩ := hz
      replace hz1 : IsRow 3 1 (ints (tt.source :: goalsV c mem q)) z := hz1
      dsimp only at hz2
      refine ⟨com_ok, rfl, ⟨b, c, z.a, z.n, z.cap, tt.source :: goalsV c mem q⟩, rfl, rfl, ⟨hz1.src, by dsimp only; omega⟩, ⟨hr.sub (sub_rest 0 (by simp) rfl), Srcd.sub (A := z.A) (sub_rest 8050 (by simp) rfl) hz1.srcd⟩, fun _ _ => ⟨maxq_ok rfl, (0, comV c (tt.source :: goalsV c mem q)), rfl, trivial, (), trivial, ?_, Ent.pick [0] rfl rfl⟩⟩
      show Ending.returned (.tuple #[.int .i64 (if comV c (tt.source :: goalsV c mem q) > 0 then comV c (tt.source :: goalsV c mem q) else 0), .bool true]) = .returned (.tuple #[.int .i64 (domP c mem q).1, .bool (domP c mem q).2])
      unfold domP
      rw [hne, hsrc, hint]
      rw [hi, hco]; rfl
  · skip
    repeat (first | refine ⟨⟨rfl, rfl⟩, ?_⟩ | refine ⟨rfl, ?_⟩)
    refine fun b3 => ⟨append_ok (P := Try.prog) 1 8 rfl rfl rfl rfl rfl rfl rfl (by decide), rfl, ⟨⟨some ⟨b3, 0, none⟩, 1, 1, .cells b3 [.int .i64 tt.source] 3⟩, [.int .i64 tt.source], y.a, y.n, y.cap, ints (goalsV c mem q)⟩, rfl, rfl, ⟨.blk b3 1 1 [] rfl rfl (Nat.le_refl _), by dsimp only; rw [ints_length]; omega, fun _ h => ints_one h, by dsimp only; omega, by dsimp only; omega, hy.none0⟩, fun ad e => Seg.rest (j := 2030) (by simp) (hy.srcd ad e), fun z hz => ?_⟩
    obtain ⟨hz1, hz2, -⟩ := hz
    replace hz1 : IsRow 3 1 (ints (tt.source :: goalsV c mem q)) z := hz1
    dsimp only at hz2
    refine ⟨com_ok, rfl, ⟨b, c, z.a, z.n, z.cap, tt.source :: goalsV c mem q⟩, rfl, rfl, ⟨hz1.src, by dsimp only; omega⟩, ⟨hr.sub (sub_rest 0 (by simp) rfl), Srcd.sub (A := z.A) (sub_rest 8050 (by simp) rfl) hz1.srcd⟩, fun _ _ => ⟨maxq_ok rfl, (0, comV c (tt.source :: goalsV c mem q)), rfl, trivial, (), trivial, ?_, Ent.pick [0] rfl rfl⟩⟩
    show Ending.returned (.tuple #[.int .i64 (if comV c (tt.source :: goalsV c mem q) > 0 then comV c (tt.source :: goalsV c mem q) else 0), .bool true]) = .returned (.tuple #[.int .i64 (domP c mem q).1, .bool (domP c mem q).2])
    unfold domP
    rw [hne, hsrc, hint]
    rw [hi]; rfl
set_option maxRecDepth 100000 in
theorem dom_ok : FnOk Try.prog 47 domC :=
  fnOk (N := 47) (by kernel_rfl) Try.func47 rfl (by kernel_rfl) (fun _ => Nat.le_of_ble_eq_true rfl) dom_H [] fun x F hc hr => Eq.mpr (by kernel_rfl) (dom_vc x F hc hr)
end Go.Proofs.Ytkmdgnbfojkcnaa
