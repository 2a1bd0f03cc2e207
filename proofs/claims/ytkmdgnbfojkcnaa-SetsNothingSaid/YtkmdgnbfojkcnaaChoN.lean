/- What transitions leave: Exit. -/
import Derived.Test.YtkmdgnbfojkcnaaChoJ
import Derived.Test.YtkmdgnbfojkcnaaChoM
set_option linter.all false
namespace Go.Proofs.Ytkmdgnbfojkcnaa
open Go
set_option maxHeartbeats 1000000
theorem memB_keys {α : Type} {kv : List (Int × α)} {k : Int} (h : ∀ p ∈ kv, p.1 ≠ k) : memB (keysOf kv) k = false := by
  cases hm : memB (keysOf kv) k with
  | false => rfl
  | true =>
    obtain ⟨p, hp, e⟩ := List.mem_map.1 (memB_iff.1 hm)
    exact absurd e (h p hp)
theorem keys_put {α : Type} (kv : List (Int × α)) (k : Int) (v : α) : keysOf (putK kv k v) = add1 (keysOf kv) k := by
  unfold putK add1
  rcases fk_spec k kv 0 with ⟨h1, h2⟩ | ⟨j, u, h1, h2, h3⟩
  · rw [h1, memB_keys h2]
    unfold keysOf
    rw [List.map_append]; rfl
  · rw [h1]
    have hj : (keysOf kv)[j]? = some k := by unfold keysOf; rw [List.getElem?_map, h2]; rfl
    rw [memB_iff.2 (List.mem_of_getElem? hj)]
    dsimp only
    rw [Nat.zero_add]
    unfold keysOf at hj ⊢
    rw [List.map_set, cond_true]
    refine List.ext_getElem? fun i => ?_
    rw [List.getElem?_set]
    have hjl := (List.getElem?_eq_some_iff.1 hj).1
    by_cases e : j = i
    · subst e
      rw [hj, if_pos rfl, if_pos hjl]
    · simp [e]
def exAdd (c : ChD) (d : Int) (cf : List Int) (o : List Int) : List Int := addV o (cf.filter fun s => inB c s d)
def ex1 (c : ChD) (mem : List (List Int)) (cf : List Int) (o : List Int) (t : Int) : List Int := bif (domP c mem t).2 then exAdd c (domP c mem t).1 cf o else o
def exV (c : ChD) (mem : List (List Int)) (cf : List Int) (ts : List Int) : List Int := ts.foldl (ex1 c mem cf) []
theorem exV_take {c : ChD} {mem : List (List Int)} {cf ts : List Int} {j : Nat} {t : Int} (h : ts[j]? = some t) : exV c mem cf (ts.take (j + 1)) = ex1 c mem cf (exV c mem cf (ts.take j)) t := by
  unfold exV
  rw [List.take_add_one, h, List.foldl_append]; rfl
theorem exAdd_take {c : ChD} {d : Int} {cf o : List Int} {i : Nat} {s : Int} (h : cf[i]? = some s) : exAdd c d (cf.take (i + 1)) o = bif inB c s d then add1 (exAdd c d (cf.take i) o) s else exAdd c d (cf.take i) o := by
  unfold exAdd
  rw [List.take_add_one, h, List.filter_append]
  cases hs : inB c s d with
  | true =>
    rw [show (some s).toList.filter (fun s => inB c s d) = [s] by simp [hs]]
    unfold addV
    rw [List.foldl_append]; rfl
  | false => rw [show (some s).toList.filter (fun s => inB c s d) = [] by simp [hs], List.append_nil]; rfl
theorem Good.exAdd {c : ChD} {d : Int} {o : List Int} (h : Good (nS c) o) (cf : List Int) : Good (nS c) (exAdd c d cf o) :=
  Good.addV _ h fun u hu => by
    have h2 := (List.mem_filter.1 hu).2
    unfold inB at h2
    simp only [Bool.and_eq_true] at h2
    exact isS_rng h2.1.1
theorem exF_good (c : ChD) (mem : List (List Int)) (cf : List Int) : ∀ (ts o : List Int), Good (nS c) o → Good (nS c) (ts.foldl (ex1 c mem cf) o)
  | [], _, h => h
  | t :: ts, o, h => exF_good c mem cf ts _ (by
      unfold ex1
      cases (domP c mem t).2 with
      | true => exact h.exAdd cf
      | false => exact h)
theorem exV_good (c : ChD) (mem : List (List Int)) (cf ts : List Int) : Good (nS c) (exV c mem cf ts) := exF_good c mem cf ts [] ⟨List.nodup_nil, fun u hu => by simp at hu⟩
structure ExX where
  b : Nat
  c : ChD
  g : Sl
  cf : List Int
  m : Sl
  mem : List (List Int)
  s : Sl
  ts : List Int
def exC : Con where
  X := ExX
  Y := Row × List Int
  args x := [.pointer (some ⟨x.b, 0, none⟩), .slice x.g.a x.g.n x.g.cap, .slice x.m.a x.m.n x.m.cap, .slice x.s.a x.s.n x.s.cap]
  pre _ := []
  cond x := newB x.c = true ∧ (IsSrc 1 (ints x.cf) x.g.a x.g.n ∧ x.g.n * 8 ≤ 140737488351232) ∧ IsSrc 1 (ints x.ts) x.s.a x.s.n ∧ x.s.n * 8 ≤ 140737488351232
  rdc x F := LatIn F x.b x.c ∧ Srcd F x.g.a (ints x.cf) ∧ MemIn F (.slice x.m.a x.m.n x.m.cap) x.mem ∧ Srcd F x.s.a (ints x.ts)
  rel x y := y.2.Perm (exV x.c x.mem x.cf x.ts) ∧ IsRow 3 1 (ints y.2) y.1
  val _ y := .returned (.slice y.1.a y.1.n y.1.cap)
  post _ y := [y.1.A]
  rmono _ _ _ h hk := ⟨hk.1.sub h, hk.2.1.sub h, hk.2.2.1.sub h, hk.2.2.2.sub h⟩
structure ExI where
  j : Nat
  bm : Nat
  kv : List (Int × Value)
  i : Nat
  t : Int
def exInv (x : ExX) (F : Atom) : Nat → Option Inv := fun
  | 0 => some { X := ExI, P := fun i => i.j ≤ x.ts.length ∧ keysOf i.kv = exV x.c x.mem x.cf (x.ts.take i.j), mu := fun i => x.ts.length - i.j, lv := fun i => [(0, .pointer (some ⟨x.b, 0, none⟩)), (1, .slice x.g.a x.g.n x.g.cap), (2, .slice x.m.a x.m.n x.m.cap), (9, .map (some i.bm)), (18, .slice x.s.a x.s.n x.s.cap), (19, .int .i64 x.s.n), (20, .int .i64 i.j)], st := fun i => [mpA i.bm i.kv, F] }
  | 2 => some { X := ExI, P := fun i => i.j < x.ts.length ∧ x.ts[i.j]? = some i.t ∧ (domP x.c x.mem i.t).2 = true ∧ i.i ≤ x.cf.length ∧ keysOf i.kv = exAdd x.c (domP x.c x.mem i.t).1 (x.cf.take i.i) (exV x.c x.mem x.cf (x.ts.take i.j)), gh := some ⟨Nat, fun i => i.j⟩, mu := fun i => x.cf.length - i.i, lv := fun i => [(0, .pointer (some ⟨x.b, 0, none⟩)), (1, .slice x.g.a x.g.n x.g.cap), (2, .slice x.m.a x.m.n x.m.cap), (9, .map (some i.bm)), (12, .int .i64 (domP x.c x.mem i.t).1), (18, .slice x.s.a x.s.n x.s.cap), (19, .int .i64 x.s.n), (20, .int .i64 i.j), (32, .slice x.g.a x.g.n x.g.cap), (33, .int .i64 x.g.n), (34, .int .i64 i.i)], st := fun i => [mpA i.bm i.kv, F] }
  | _ => none
def exOv (_x : ExX) (_F : Atom) : List (Nat × Nat × OH) := [(1, 0, .n 2000), (4, 0, .qo (ixQ 1)), (4, 1, .q [.ex 1 (.int .i64)]), (5, 3, .c domC [] []), (9, 0, .qo (ixQ 1)), (9, 1, .q [.ex 1 (.int .i64)]), (10, 3, .c insideC [] []), (11, 2, .o muC [0] [0]), (14, 1, .c (keyC 118 125) [] [15010]), (14, 2, .c (soC 118) [] [15020]), (15, 1, .c revC [15020] [15020])]
noncomputable def ext_H (x : Con.X exC) (F : Atom) : Hints where
  op := hk ((exOv x F) ++ [])
  inv := exInv x F
  cut := (fun _ _ _ => none) x F
  ord := (fun _ => [])
open Go.Value (int slice string bool pointer agg tuple func) in
open Go.IntKind (i64) in
set_option maxRecDepth 100000 in
theorem ext_vc (x : ExX) (F : Atom) (hc : Con.cond exC x) (hr : Con.rdc exC x F) :
  ∀ (b : Nat),
 (∃ (x_1 : ExI), (x_1.j ≤ x.ts.length ∧ keysOf x_1.kv = exV x.c x.mem x.cf (List.take x_1.j x.ts)) ∧ (pointer (some ⟨x.b, 0, none⟩) = pointer (some ⟨x.b, 0, none⟩) ∧ slice x.g.a x.g.n x.g.cap = slice x.g.a x.g.n x.g.cap ∧ slice x.m.a x.m.n x.m.cap = slice x.m.a x.m.n x.m.cap ∧ Value.map (some b) = Value.map (some x_1.bm) ∧ slice x.s.a x.s.n x.s.cap = slice x.s.a x.s.n x.s.cap ∧ int i64 (↑x.s.n : Int) = int i64 (↑x.s.n : Int) ∧ int i64 (0 : Int) = int i64 (↑x_1.j : Int) ∧ True) ∧ Ent [(0, F), (2000, Atom.obj b (Obj.map { toList := [] } 0))] [(0, Atom.obj x_1.bm (Obj.map { toList := mEl 0 x_1.kv } x_1.kv.length)), (1, F)]) ∧
 ∀ (x_1 : ExI) (js : Nat → Value),
 x_1.j ≤ x.ts.length ∧ keysOf x_1.kv = exV x.c x.mem x.cf (List.take x_1.j x.ts) →
 Br (decide ((↑x_1.j : Int) < (↑x.s.n : Int)))
 (QOpOk Try.prog (opIn Try.f49 4 0) (ixQ 1) ∧
 ∃ (x_2 : IxQX),
 [slice x.s.a x.s.n x.s.cap, int i64 (↑x_1.j : Int)] = [slice (some ⟨x_2.b, x_2.o, none⟩) x_2.len x_2.cap, int i64 x_2.n] ∧
 ((0 : Int) ≤ x_2.n ∧ x_2.n < (↑x_2.len : Int)) ∧
 ∃ (n : Int),
 Look F ⟨x_2.b, x_2.o + x_2.n.toNat * 1, none⟩ (int i64 n) ∧
 FnOk Try.prog 47 domC ∧
 true = true ∧
 ∃ (x_3 : RmX),
 [pointer (some ⟨x.b, 0, none⟩), slice x.m.a x.m.n x.m.cap, int i64 n] = [pointer (some ⟨x_3.b, 0, none⟩), slice x_3.m.a x_3.m.n x_3.m.cap, int i64 x_3.h] ∧
 ([] : List Atom) = [] ∧
 newB x_3.c = true ∧
 (LatIn (Atom.pred (rest [(0, Atom.obj x_1.bm (Obj.map { toList := mEl 0 x_1.kv } x_1.kv.length)), (1, F)] [])) x_3.b x_3.c ∧ MemIn (Atom.pred (rest [(0, Atom.obj x_1.bm (Obj.map { toList := mEl 0 x_1.kv } x_1.kv.length)), (1, F)] [])) (slice x_3.m.a x_3.m.n x_3.m.cap) x_3.mem) ∧
 ∀ (y : Unit),
 True →
 Br (domP x_3.c x_3.mem x_3.h).snd
 (∃ (n : Nat),
 (∃ (x_4 : ExI),
 ((x_4.j < x.ts.length ∧ x.ts[x_4.j]? = some x_4.t ∧ (domP x.c x.mem x_4.t).snd = true ∧ x_4.i ≤ x.cf.length ∧ keysOf x_4.kv = exAdd x.c (domP x.c x.mem x_4.t).fst (List.take x_4.i x.cf) (exV x.c x.mem x.cf (List.take x_4.j x.ts))) ∧ x_4.j = n) ∧
 (pointer (some ⟨x.b, 0, none⟩) = pointer (some ⟨x.b, 0, none⟩) ∧ slice x.g.a x.g.n x.g.cap = slice x.g.a x.g.n x.g.cap ∧ slice x.m.a x.m.n x.m.cap = slice x.m.a x.m.n x.m.cap ∧ Value.map (some x_1.bm) = Value.map (some x_4.bm) ∧ int i64 (domP x_3.c x_3.mem x_3.h).fst = int i64 (domP x.c x.mem x_4.t).fst ∧ slice x.s.a x.s.n x.s.cap = slice x.s.a x.s.n x.s.cap ∧ int i64 (↑x.s.n : Int) = int i64 (↑x.s.n : Int) ∧ int i64 (↑x_1.j : Int) = int i64 (↑x_4.j : Int) ∧ slice x.g.a x.g.n x.g.cap = slice x.g.a x.g.n x.g.cap ∧ int i64 (↑x.g.n : Int) = int i64 (↑x.g.n : Int) ∧ int i64 (0 : Int) = int i64 (↑x_4.i : Int) ∧ True) ∧
 Ent [(0, Atom.obj x_1.bm (Obj.map { toList := mEl 0 x_1.kv } x_1.kv.length)), (1, F)] [(0, Atom.obj x_4.bm (Obj.map { toList := mEl 0 x_4.kv } x_4.kv.length)), (1, F)]) ∧
 ∀ (x_4 : ExI) (js : Nat → Value),
 (x_4.j < x.ts.length ∧ x.ts[x_4.j]? = some x_4.t ∧ (domP x.c x.mem x_4.t).snd = true ∧ x_4.i ≤ x.cf.length ∧ keysOf x_4.kv = exAdd x.c (domP x.c x.mem x_4.t).fst (List.take x_4.i x.cf) (exV x.c x.mem x.cf (List.take x_4.j x.ts))) ∧ x_4.j = n →
 Br (decide ((↑x_4.i : Int) < (↑x.g.n : Int)))
 (QOpOk Try.prog (opIn Try.f49 9 0) (ixQ 1) ∧
 ∃ (x_5 : IxQX),
 [slice x.g.a x.g.n x.g.cap, int i64 (↑x_4.i : Int)] = [slice (some ⟨x_5.b, x_5.o, none⟩) x_5.len x_5.cap, int i64 x_5.n] ∧
 ((0 : Int) ≤ x_5.n ∧ x_5.n < (↑x_5.len : Int)) ∧
 ∃ (n_1 : Int),
 Look F ⟨x_5.b, x_5.o + x_5.n.toNat * 1, none⟩ (int i64 n_1) ∧
 FnOk Try.prog 18 insideC ∧
 true = true ∧
 ∃ (x_6 : L2X),
 [pointer (some ⟨x.b, 0, none⟩), int i64 n_1, int i64 (domP x.c x.mem x_4.t).fst] = [pointer (some ⟨x_6.b, 0, none⟩), int i64 x_6.a, int i64 x_6.d] ∧
 ([] : List Atom) = [] ∧
 True ∧
 LatIn (Atom.pred (rest [(0, Atom.obj x_4.bm (Obj.map { toList := mEl 0 x_4.kv } x_4.kv.length)), (1, F)] [])) x_6.b x_6.c ∧
 ∀ (y : Unit),
 True →
 Br (inB x_6.c x_6.a x_6.d)
 (OpOk Try.prog { dst := none, op := Op.mapUpdate 125 (Operand.tmp 42) (Operand.tmp 43) (Operand.const (bool true)), type := 0, pos := "sets.go:79", after := { toList := [{ on := 0, ground := Ground.data }, { on := 1, ground := Ground.data }, { on := 0, ground := Ground.phase }, { on := 1, ground := Ground.phase }] }, guard := none } muC ∧
 true = true ∧
 ∃ (x_7 : MuX),
 [Value.map (some x_4.bm), int i64 n_1, bool true] = [Value.map (some x_7.b), int i64 x_7.k, x_7.v] ∧
 [Atom.obj x_4.bm (Obj.map { toList := mEl 0 x_4.kv } x_4.kv.length)] = [Atom.obj x_7.b (Obj.map { toList := mEl 0 x_7.kv } x_7.kv.length)] ∧
 True ∧
 True ∧
 ∀ (y : Unit),
 True →
 ((-9223372036854775808 : Int) ≤ (↑x_4.i : Int) + (1 : Int) ∧ (↑x_4.i : Int) + (1 : Int) ≤ (9223372036854775807 : Int)) ∧
 ∃ (y : ExI),
 ((y.j < x.ts.length ∧ x.ts[y.j]? = some y.t ∧ (domP x.c x.mem y.t).snd = true ∧ y.i ≤ x.cf.length ∧ keysOf y.kv = exAdd x.c (domP x.c x.mem y.t).fst (List.take y.i x.cf) (exV x.c x.mem x.cf (List.take y.j x.ts))) ∧ y.j = n) ∧
 (pointer (some ⟨x.b, 0, none⟩) = pointer (some ⟨x.b, 0, none⟩) ∧ slice x.g.a x.g.n x.g.cap = slice x.g.a x.g.n x.g.cap ∧ slice x.m.a x.m.n x.m.cap = slice x.m.a x.m.n x.m.cap ∧ Value.map (some x_4.bm) = Value.map (some y.bm) ∧ int i64 (domP x.c x.mem x_4.t).fst = int i64 (domP x.c x.mem y.t).fst ∧ slice x.s.a x.s.n x.s.cap = slice x.s.a x.s.n x.s.cap ∧ int i64 (↑x.s.n : Int) = int i64 (↑x.s.n : Int) ∧ int i64 (↑x_4.j : Int) = int i64 (↑y.j : Int) ∧ slice x.g.a x.g.n x.g.cap = slice x.g.a x.g.n x.g.cap ∧ int i64 (↑x.g.n : Int) = int i64 (↑x.g.n : Int) ∧ int i64 ((↑x_4.i : Int) + (1 : Int)) = int i64 (↑y.i : Int) ∧ True) ∧
 Ent [(0, Atom.obj x_7.b (Obj.map { toList := mEl 0 (putK x_7.kv x_7.k x_7.v) } (putK x_7.kv x_7.k x_7.v).length)), (1, F)] [(0, Atom.obj y.bm (Obj.map { toList := mEl 0 y.kv } y.kv.length)), (1, F)] ∧ x.cf.length - y.i < x.cf.length - x_4.i)
 (((-9223372036854775808 : Int) ≤ (↑x_4.i : Int) + (1 : Int) ∧ (↑x_4.i : Int) + (1 : Int) ≤ (9223372036854775807 : Int)) ∧
 ∃ (y : ExI),
 ((y.j < x.ts.length ∧ x.ts[y.j]? = some y.t ∧ (domP x.c x.mem y.t).snd = true ∧ y.i ≤ x.cf.length ∧ keysOf y.kv = exAdd x.c (domP x.c x.mem y.t).fst (List.take y.i x.cf) (exV x.c x.mem x.cf (List.take y.j x.ts))) ∧ y.j = n) ∧
 (pointer (some ⟨x.b, 0, none⟩) = pointer (some ⟨x.b, 0, none⟩) ∧ slice x.g.a x.g.n x.g.cap = slice x.g.a x.g.n x.g.cap ∧ slice x.m.a x.m.n x.m.cap = slice x.m.a x.m.n x.m.cap ∧ Value.map (some x_4.bm) = Value.map (some y.bm) ∧ int i64 (domP x.c x.mem x_4.t).fst = int i64 (domP x.c x.mem y.t).fst ∧ slice x.s.a x.s.n x.s.cap = slice x.s.a x.s.n x.s.cap ∧ int i64 (↑x.s.n : Int) = int i64 (↑x.s.n : Int) ∧ int i64 (↑x_4.j : Int) = int i64 (↑y.j : Int) ∧ slice x.g.a x.g.n x.g.cap = slice x.g.a x.g.n x.g.cap ∧ int i64 (↑x.g.n : Int) = int i64 (↑x.g.n : Int) ∧ int i64 ((↑x_4.i : Int) + (1 : Int)) = int i64 (↑y.i : Int) ∧ True) ∧
 Ent [(0, Atom.obj x_4.bm (Obj.map { toList := mEl 0 x_4.kv } x_4.kv.length)), (1, F)] [(0, Atom.obj y.bm (Obj.map { toList := mEl 0 y.kv } y.kv.length)), (1, F)] ∧ x.cf.length - y.i < x.cf.length - x_4.i))
 (((-9223372036854775808 : Int) ≤ (↑x_4.j : Int) + (1 : Int) ∧ (↑x_4.j : Int) + (1 : Int) ≤ (9223372036854775807 : Int)) ∧
 ∃ (y : ExI), (y.j ≤ x.ts.length ∧ keysOf y.kv = exV x.c x.mem x.cf (List.take y.j x.ts)) ∧ (pointer (some ⟨x.b, 0, none⟩) = pointer (some ⟨x.b, 0, none⟩) ∧ slice x.g.a x.g.n x.g.cap = slice x.g.a x.g.n x.g.cap ∧ slice x.m.a x.m.n x.m.cap = slice x.m.a x.m.n x.m.cap ∧ Value.map (some x_4.bm) = Value.map (some y.bm) ∧ slice x.s.a x.s.n x.s.cap = slice x.s.a x.s.n x.s.cap ∧ int i64 (↑x.s.n : Int) = int i64 (↑x.s.n : Int) ∧ int i64 ((↑x_4.j : Int) + (1 : Int)) = int i64 (↑y.j : Int) ∧ True) ∧ Ent [(0, Atom.obj x_4.bm (Obj.map { toList := mEl 0 x_4.kv } x_4.kv.length)), (1, F)] [(0, Atom.obj y.bm (Obj.map { toList := mEl 0 y.kv } y.kv.length)), (1, F)] ∧ x.ts.length - y.j < x.ts.length - x_1.j))
 (((-9223372036854775808 : Int) ≤ (↑x_1.j : Int) + (1 : Int) ∧ (↑x_1.j : Int) + (1 : Int) ≤ (9223372036854775807 : Int)) ∧
 ∃ (y : ExI), (y.j ≤ x.ts.length ∧ keysOf y.kv = exV x.c x.mem x.cf (List.take y.j x.ts)) ∧ (pointer (some ⟨x.b, 0, none⟩) = pointer (some ⟨x.b, 0, none⟩) ∧ slice x.g.a x.g.n x.g.cap = slice x.g.a x.g.n x.g.cap ∧ slice x.m.a x.m.n x.m.cap = slice x.m.a x.m.n x.m.cap ∧ Value.map (some x_1.bm) = Value.map (some y.bm) ∧ slice x.s.a x.s.n x.s.cap = slice x.s.a x.s.n x.s.cap ∧ int i64 (↑x.s.n : Int) = int i64 (↑x.s.n : Int) ∧ int i64 ((↑x_1.j : Int) + (1 : Int)) = int i64 (↑y.j : Int) ∧ True) ∧ Ent [(0, Atom.obj x_1.bm (Obj.map { toList := mEl 0 x_1.kv } x_1.kv.length)), (1, F)] [(0, Atom.obj y.bm (Obj.map { toList := mEl 0 y.kv } y.kv.length)), (1, F)] ∧ x.ts.length - y.j < x.ts.length - x_1.j))
 (FnOk Try.prog 94 (keyC (118 : FuncId) (125 : TypeId)) ∧
 true = true ∧
 ∃ (x_2 : Nat),
 [Value.map (some x_1.bm)] = [Value.map (some x_2)] ∧
 ([] : List Atom) = [] ∧
 True ∧
 True ∧
 ∀ (y : Nat),
 True →
 FnOk Try.prog 92 (soC (118 : FuncId)) ∧
 true = true ∧
 ∃ (x_3 : SoX),
 [func (Fn.func 118) { toList := [] } { toList := [pointer (some ⟨y, 0, none⟩)] }] = [func (Fn.func 118) { toList := [] } { toList := [pointer (some ⟨x_3.bx, 0, none⟩)] }] ∧
 ([] : List Atom) = [] ∧
 ((keysOf x_3.kv).Nodup ∧ (∀ (p : Int × Value), p ∈ x_3.kv → (Lit.int IntKind.i64 p.fst).wf = true) ∧ x_3.kv.length * 8 ≤ 140737488351232) ∧
 (Look (Atom.pred (rest [(0, Atom.obj x_1.bm (Obj.map { toList := mEl 0 x_1.kv } x_1.kv.length)), (1, F), (15010, Atom.cells y [Value.map (some x_2)] 125)] [])) ⟨x_3.bx, 0, none⟩ (Value.map (some x_3.b)) ∧ MapIn (Atom.pred (rest [(0, Atom.obj x_1.bm (Obj.map { toList := mEl 0 x_1.kv } x_1.kv.length)), (1, F), (15010, Atom.cells y [Value.map (some x_2)] 125)] [])) x_3.b x_3.kv) ∧
 ∀ (y_1 : Row), IsRow 3 1 (ints (sortI (keysOf x_3.kv))) y_1 → FnOk Try.prog 95 revC ∧ true = true ∧ ∃ (x_4 : RevX), [slice y_1.a y_1.n y_1.cap] = [slice x_4.r.a x_4.r.n x_4.r.cap] ∧ [y_1.A] = [x_4.r.A] ∧ (IsRow 3 1 (ints x_4.xs) x_4.r ∧ x_4.r.n * 8 ≤ 140737488351232) ∧ True ∧ ∀ (y_2 : Row × List Int), y_2.snd.Perm x_4.xs ∧ IsRow 3 1 (ints y_2.snd) y_2.fst ∧ y_2.fst.a = x_4.r.a ∧ y_2.fst.n = x_4.r.n ∧ y_2.fst.cap = x_4.r.cap → Done exC x F (Ending.returned (slice y_1.a y_1.n y_1.cap)) [(0, Atom.obj x_1.bm (Obj.map { toList := mEl 0 x_1.kv } x_1.kv.length)), (1, F), (15010, Atom.cells y [Value.map (some x_2)] 125), (15020, y_2.fst.A)]) := by
  obtain ⟨b, c, ⟨ga, gn, gc⟩, cf, ⟨ma, mn, mc⟩, mem, ⟨sa, sn, sc⟩, ts⟩ := x
  obtain ⟨hnew, ⟨hg, hgn⟩, hs, hsn⟩ := hc
  obtain ⟨hr, hcf, hm, hts⟩ := hr
  dsimp only at hnew hg hgn hs hsn hr hcf hm hts ⊢
  have hn128 := (newB_spec.1 hnew).1.n128
  have hgl : cf.length = gn := by have := hg.len; rw [ints_length] at this; omega
  have hsl : ts.length = sn := by have := hs.len; rw [ints_length] at this; omega
  intro bm0
  refine ⟨⟨⟨0, bm0, [], 0, 0⟩, ⟨Nat.zero_le _, rfl⟩, ⟨rfl, rfl, rfl, rfl, rfl, rfl, rfl, trivial⟩, Ent.pick [2000, 0] rfl rfl⟩, ?_⟩
  clear bm0
  rintro ⟨j, bm, kv, i0, t0⟩ js ⟨hj, hkv⟩
  dsimp only at hj hkv ⊢
  refine br_decide (fun hlt => ?_) (fun hge => ?_)
  · obtain ⟨b1, o1, rfl⟩ := hs.some (by omega)
    obtain ⟨t, ht⟩ : ∃ t, ts[j]? = some t := ⟨_, List.getElem?_eq_getElem (by omega)⟩
    have e1 : o1 + (j : Int).toNat * 1 = o1 + j := by omega
    have hstep := exV_take (c := c) (mem := mem) (cf := cf) ht
    refine ⟨ixq_ok 1 rfl rfl rfl rfl, ⟨b1, o1, sn, sc, j⟩, rfl, by dsimp only; omega, t, by dsimp only; rw [e1]; exact hts.look (ints_get ht), dom_ok, rfl, ⟨b, c, ⟨ma, mn, mc⟩, mem, t⟩, rfl, rfl, hnew, ⟨hr.sub (sub_rest 1 (by simp) rfl), hm.sub (sub_rest 1 (by simp) rfl)⟩, fun _ _ => br_intro (fun hd => ?_) (fun hd => ?_)⟩
    · dsimp only at hd
      have hst : exV c mem cf (ts.take (j + 1)) = exAdd c (domP c mem t).1 cf (exV c mem cf (ts.take j)) := by rw [hstep]; unfold ex1; rw [hd]; rfl
      refine ⟨j, ⟨⟨j, bm, kv, 0, t⟩, ⟨⟨by dsimp only; omega, ht, hd, Nat.zero_le _, hkv⟩, rfl⟩, ⟨rfl, rfl, rfl, rfl, rfl, rfl, rfl, rfl, rfl, rfl, rfl, trivial⟩, Ent.pick [0, 1] rfl rfl⟩, ?_⟩
      clear hkv bm kv
      rintro ⟨j', bm, kv, i, t'⟩ js ⟨⟨h1, h2, h3, hi, hkv⟩, ej⟩
      dsimp only at h1 h2 h3 hi hkv ej ⊢
      subst ej
      obtain rfl : t = t' := by rw [ht] at h2; exact Option.some.inj h2
      refine br_decide (fun hlt2 => ?_) (fun hge2 => ⟨⟨by omega, by omega⟩, ⟨j' + 1, bm, kv, 0, 0⟩, ⟨by dsimp only; omega, ?_⟩, ⟨rfl, rfl, rfl, rfl, rfl, rfl, rfl, trivial⟩, Ent.pick [0, 1] rfl rfl, by dsimp only; omega⟩)
      · obtain ⟨b2, o2, rfl⟩ := hg.some (by omega)
        obtain ⟨u, hu⟩ : ∃ u, cf[i]? = some u := ⟨_, List.getElem?_eq_getElem (by omega)⟩
        have e2 : o2 + (i : Int).toNat * 1 = o2 + i := by omega
        have hin := exAdd_take (c := c) (d := (domP c mem t).1) (o := exV c mem cf (ts.take j')) hu
        refine ⟨ixq_ok 1 rfl rfl rfl rfl, ⟨b2, o2, gn, gc, i⟩, rfl, by dsimp only; omega, u, by dsimp only; rw [e2]; exact hcf.look (ints_get hu), inside_ok, rfl, ⟨b, c, u, (domP c mem t).1⟩, rfl, rfl, trivial, hr.sub (sub_rest 1 (by simp) rfl), fun _ _ => br_intro (fun hb => ?_) (fun hb => ⟨⟨by omega, by omega⟩, ⟨j', bm, kv, i + 1, t⟩, ⟨⟨h1, h2, h3, by dsimp only; omega, ?_⟩, rfl⟩, ⟨rfl, rfl, rfl, rfl, rfl, rfl, rfl, rfl, rfl, rfl, rfl, trivial⟩, Ent.pick [0, 1] rfl rfl, by dsimp only; omega⟩)⟩
        · refine ⟨mu_ok rfl Try.underlying125 Try.underlying3, rfl, ⟨bm, kv, u, .bool true⟩, rfl, rfl, trivial, trivial, fun _ _ => ⟨⟨by omega, by omega⟩, ⟨j', bm, putK kv u (.bool true), i + 1, t⟩, ⟨⟨h1, h2, h3, by dsimp only; omega, ?_⟩, rfl⟩, ⟨rfl, rfl, rfl, rfl, rfl, rfl, rfl, rfl, rfl, rfl, rfl, trivial⟩, Ent.pick [0, 1] rfl rfl, by dsimp only; omega⟩⟩
          dsimp only at hb ⊢
          rw [keys_put, hkv, hin, hb]; rfl
        · dsimp only at hb ⊢
          rw [hkv, hin, hb]; rfl
      · dsimp only
        rw [hst, hkv, List.take_of_length_le (by omega)]
    · dsimp only at hd
      have hst : exV c mem cf (ts.take (j + 1)) = exV c mem cf (ts.take j) := by rw [hstep]; unfold ex1; rw [hd]; rfl
      exact ⟨⟨by omega, by omega⟩, ⟨j + 1, bm, kv, 0, 0⟩, ⟨by dsimp only; omega, by dsimp only; rw [hst]; exact hkv⟩, ⟨rfl, rfl, rfl, rfl, rfl, rfl, rfl, trivial⟩, Ent.pick [0, 1] rfl rfl, by dsimp only; omega⟩
  · have ej : ts.take j = ts := List.take_of_length_le (by omega)
    rw [ej] at hkv
    have hgd := exV_good c mem cf ts
    rw [← hkv] at hgd
    have hkl : kv.length ≤ 128 := by have := hgd.len; unfold keysOf at this; rw [List.length_map] at this; omega
    refine ⟨keyB_ok, rfl, bm, rfl, rfl, trivial, trivial, fun bx _ => ⟨soB_ok, rfl, ⟨bx, bm, kv⟩, rfl, rfl, ⟨hgd.nd, fun p hp => ?_, by dsimp only; omega⟩, ⟨Look.rest (j := 15010) (by simp) (Look.cells rfl), MapIn.sub (A := mpA bm kv) (sub_rest 0 (by simp) rfl) MapIn.own⟩, fun y hy => ?_⟩⟩
    · obtain ⟨h1, h2⟩ := hgd.st p.1 (List.mem_map.2 ⟨p, hp, rfl⟩)
      have e1 : IntKind.min .i64 = -9223372036854775808 := by decide
      have e2 : IntKind.max .i64 = 9223372036854775807 := by decide
      simp only [Lit.wf, Bool.and_eq_true, decide_eq_true_eq, e1, e2]
      omega
    · have hsp : (sortI (keysOf kv)).Perm (keysOf kv) := List.mergeSort_perm _ _
      have hyl : y.n = kv.length := by
        have h1 := hy.len
        rw [ints_length, hsp.length_eq] at h1
        unfold keysOf at h1
        rw [List.length_map] at h1
        omega
      refine ⟨rev_ok, rfl, ⟨y, sortI (keysOf kv)⟩, rfl, rfl, ⟨hy, by dsimp only; omega⟩, trivial, fun z hz => ⟨(z.1, z.2), ⟨?_, hz.2.1⟩, ?_, Ent.pick [15020, 1] rfl rfl⟩⟩
      · dsimp only
        rw [← hkv]
        exact hz.1.trans hsp
      · obtain ⟨z1, z2, z3, z4, z5⟩ := hz
        dsimp only at z3 z4 z5
        show Ending.returned (.slice y.a y.n y.cap) = .returned (.slice z.1.a z.1.n z.1.cap)
        rw [z3, z4, z5]
set_option maxRecDepth 100000 in
theorem ext_ok : FnOk Try.prog 49 exC :=
  fnOk (N := 52) (by kernel_rfl) Try.func49 rfl (by kernel_rfl) (fun _ => Nat.le_of_ble_eq_true rfl) ext_H [] fun x F hc hr => Eq.mpr (by kernel_rfl) (ext_vc x F hc hr)
end Go.Proofs.Ytkmdgnbfojkcnaa
