/- What transitions enter, where targets are atomic: Enter. -/
import Derived.Test.YtkmdgnbfojkcnaaSetC
import Derived.Test.YtkmdgnbfojkcnaaChoN
set_option linter.all false
namespace Go.Proofs.Ytkmdgnbfojkcnaa
open Go
set_option maxHeartbeats 1000000
theorem good_s {c : ChD} {o : List Int} (h : Good (nS c) o) {s : Int} (hs : isS c s = true) : Good (nS c) (add1 o s) := h.add1 (isS_rng hs)
theorem good_dn {c : ChD} {o gl : List Int} (h : Good (nS c) o) {s : Int} (hs : isS c s = true) : Good (nS c) (dnEl o gl s) := by
  unfold dnEl
  cases memB gl s with
  | true => exact h
  | false => exact good_s h hs
theorem atB_s {c : ChD} {s : Int} (h : atB c s = true) : isS c s = true := by
  unfold atB at h
  simp only [Bool.and_eq_true] at h
  exact h.1.1
theorem rgF_good {c : ChD} : ∀ (l : List Int) (st : List Int × List Int), (∀ k ∈ l, isS c k = true) → Good (nS c) st.1 → Good (nS c) (l.foldl (rgS c) st).1
  | [], _, _, h => h
  | k :: l, st, hl, h => rgF_good l _ (fun u hu => hl u (List.mem_cons_of_mem _ hu)) (by
      unfold rgS
      cases frB c st.1 k with
      | true => exact good_dn h (hl k List.mem_cons_self)
      | false => exact h)
theorem regV_good {c : ChD} (hf : Flat c) {st : List Int × List Int} {s : Int} (hs : isS c s = true) (h : Good (nS c) st.1) : Good (nS c) (regV c st s).1 := by
  obtain ⟨i, rfl, hi⟩ := isS_spec hs
  unfold regV
  rw [Int.toNat_natCast]
  cases hk : (kd c i == 2) with
  | true => exact rgF_good _ _ (fun k hk2 => atB_s (hf i hi (by simpa using hk) k hk2).1) h
  | false => exact h
theorem upV_good {c : ChD} (hf : Flat c) : ∀ (l : List Int) (st : List Int × List Int), (∀ k ∈ l, isS c k = true) → Good (nS c) st.1 → Good (nS c) (upV c st l).1
  | [], _, _, h => h
  | k :: l, st, hl, h => upV_good hf l _ (fun u hu => hl u (List.mem_cons_of_mem _ hu)) (by
      unfold upS
      cases decide (k > 0) with
      | true => exact regV_good hf (hl k List.mem_cons_self) (good_s h (hl k List.mem_cons_self))
      | false => exact h)
def dnS (st : List Int × List Int) (u : Int) : List Int × List Int := (dnEl st.1 st.2 u, add1 st.2 u)
def dnA (st : List Int × List Int) (l : List Int) : List Int × List Int := l.foldl dnS st
def upG (c : ChD) (d : Int) (st : List Int × List Int) (l : List Int) : List Int × List Int := l.foldl (fun st s => upV c st (abvV c s d)) st
def entT (c : ChD) (mem : List (List Int)) (el : List Int) (t : Int) : List Int := bif (domP c mem t).2 then (upG c (domP c mem t).1 (dnA (el, []) (tgts c t)) (goalsV c mem t)).1 else el
def entV (c : ChD) (mem : List (List Int)) (ts : List Int) : List Int := ts.foldl (entT c mem) []
theorem entV_take {c : ChD} {mem : List (List Int)} {ts : List Int} {j : Nat} {t : Int} (h : ts[j]? = some t) : entV c mem (ts.take (j + 1)) = entT c mem (entV c mem (ts.take j)) t := by
  unfold entV
  rw [List.take_add_one, h, List.foldl_append]; rfl
theorem dnA_take {st : List Int × List Int} {l : List Int} {j : Nat} {t : Int} (h : l[j]? = some t) : dnA st (l.take (j + 1)) = dnS (dnA st (l.take j)) t := by
  unfold dnA
  rw [List.take_add_one, h, List.foldl_append]; rfl
theorem upG_take {c : ChD} {d : Int} {st : List Int × List Int} {l : List Int} {j : Nat} {t : Int} (h : l[j]? = some t) : upG c d st (l.take (j + 1)) = upV c (upG c d st (l.take j)) (abvV c t d) := by
  unfold upG
  rw [List.take_add_one, h, List.foldl_append]; rfl
theorem isT_at {c : ChD} {t : Int} (h : isT c t = true) : ∃ q : Nat, t = q ∧ q < c.trs.length := by
  unfold isT at h
  simp only [Bool.and_eq_true, decide_eq_true_eq] at h
  exact ⟨t.toNat, by omega, by omega⟩
theorem row0 {y : Row} (h : IsRow 3 1 (ints (sortI (keysOf ([] : List (Int × Value))))) y) : y.n = 0 := by
  have h1 := h.len
  have h2 : (sortI (keysOf ([] : List (Int × Value)))).length = 0 := (List.mergeSort_perm [] leI).length_eq
  rw [ints_length, h2] at h1
  omega
theorem domP_T {c : ChD} {mem : List (List Int)} {t : Int} (h : (domP c mem t).2 = true) : isT c t = true := by
  cases hT : isT c t with
  | true => rfl
  | false =>
    have h0 : goalsV c mem t = [] := by unfold goalsV; rw [hT]; rfl
    unfold domP at h
    rw [h0] at h
    cases h
theorem keys_eK (l : List Int) : keysOf (eK l) = l := by
  unfold keysOf eK
  rw [List.map_map]
  exact List.map_id' l
structure EtX where
  b : Nat
  c : ChD
  m : Sl
  mem : List (List Int)
  s : Sl
  ts : List Int
def sl3 (y : Row) : Value := .slice y.a y.n y.cap
def entC : Con where
  X := EtX
  Y := Row × Row × Row
  args x := [.pointer (some ⟨x.b, 0, none⟩), .slice x.m.a x.m.n x.m.cap, .slice x.s.a x.s.n x.s.cap]
  pre _ := []
  cond x := newB x.c = true ∧ (IsSrc 1 (ints x.ts) x.s.a x.s.n ∧ x.s.n * 8 ≤ 140737488351232) ∧ ∀ t ∈ x.ts, (domP x.c x.mem t).2 = true → Flat x.c ∧ ∀ u ∈ tgts x.c t, atB x.c u = true ∧ kd x.c u.toNat ≠ 2
  rdc x F := LatIn F x.b x.c ∧ MemIn F (.slice x.m.a x.m.n x.m.cap) x.mem ∧ Srcd F x.s.a (ints x.ts)
  rel x y := IsRow 3 1 (ints (sortI (entV x.c x.mem x.ts))) y.1 ∧ y.1.n = (entV x.c x.mem x.ts).length ∧ y.2.1.n = 0 ∧ y.2.2.n = 0
  val _ y := .returned (.agg #[.slice y.1.a y.1.n y.1.cap, .slice y.2.1.a y.2.1.n y.2.1.cap, .slice y.2.2.a y.2.2.n y.2.2.cap, .slice none 0 0])
  post _ y := [y.1.A]
  rmono _ _ _ h hk := ⟨hk.1.sub h, hk.2.1.sub h, hk.2.2.sub h⟩
structure EtI where
  rb : Nat
  wb : Nat
  eb : Nat
  ib : Nat
  tb : Nat
  d : Int
  gv : Value
  j : Nat
  el : List Int
structure EtP (x : EtX) (i : EtI) : Prop where
  j : i.j ≤ x.ts.length
  el : i.el = entV x.c x.mem (x.ts.take i.j)
  gd : Good (nS x.c) i.el
structure EtJ where
  i : EtI
  gb : Nat
  t : Int
  k : Nat
  st : List Int × List Int
  ka : Option Addr
  kc : Nat
  r : Row
structure EtQ (x : EtX) (y : EtJ) : Prop where
  j : y.i.j < x.ts.length
  t : x.ts[y.i.j]? = some y.t
  on : (domP x.c x.mem y.t).2 = true
  gv : y.i.gv = .map (some y.gb)
  d : y.i.d = (domP x.c x.mem y.t).1
  gd : Good (nS x.c) y.st.1
structure EtQ2 (x : EtX) (F : Atom) (y : EtJ) : Prop extends EtQ x y where
  k : y.k ≤ (tgts x.c y.t).length
  src : IntsIn F (.slice y.ka (tgts x.c y.t).length y.kc) (tgts x.c y.t)
  st : y.st = dnA (entV x.c x.mem (x.ts.take y.i.j), []) ((tgts x.c y.t).take y.k)
structure EtQ4 (x : EtX) (y : EtJ) : Prop extends EtQ x y where
  k : y.k ≤ (goalsV x.c x.mem y.t).length
  row : IsRow 3 1 (ints (goalsV x.c x.mem y.t)) y.r
  n : y.r.n = (goalsV x.c x.mem y.t).length
  st : y.st = upG x.c (domP x.c x.mem y.t).1 (dnA (entV x.c x.mem (x.ts.take y.i.j), []) (tgts x.c y.t)) ((goalsV x.c x.mem y.t).take y.k)
structure EtO where
  rb : Nat
  ob : Nat
  r1 : Row
  r2 : Row
  r3 : Row
structure EtR (x : EtX) (y : EtO) : Prop where
  r1 : IsRow 3 1 (ints (sortI (entV x.c x.mem x.ts))) y.r1
  n1 : y.r1.n = (entV x.c x.mem x.ts).length
  n2 : y.r2.n = 0
  n3 : y.r3.n = 0
def nil4 (rb : Nat) : Atom := .cells rb [.slice none 0 0, .slice none 0 0, .slice none 0 0, .slice none 0 0] 83
def entInv (x : EtX) (F : Atom) : Nat → Option Inv := fun
  | 0 => some { X := EtI, P := fun i => EtP x i, mu := fun i => x.ts.length - i.j, lv := fun i => [(0, .pointer (some ⟨x.b, 0, none⟩)), (1, .slice x.m.a x.m.n x.m.cap), (6, .pointer (some ⟨i.rb, 0, none⟩)), (7, .pointer (some ⟨i.wb, 0, none⟩)), (26, .slice x.s.a x.s.n x.s.cap), (27, .int .i64 x.s.n), (28, .int .i64 i.j)], st := fun i => [nil4 i.rb, .cells i.wb [.pointer (some ⟨x.b, 0, none⟩), .slice x.m.a x.m.n x.m.cap, .map (some i.eb), .map (some i.ib), .map (some i.tb), .int .i64 i.d, i.gv] 127, mpA i.eb (eK i.el), mpA i.ib [], mpA i.tb [], F] }
  | 2 => some { X := EtJ, P := fun y => EtQ2 x F y, gh := some ⟨Nat, fun y => y.i.j⟩, mu := fun y => (tgts x.c y.t).length - y.k, lv := fun y => [(0, .pointer (some ⟨x.b, 0, none⟩)), (1, .slice x.m.a x.m.n x.m.cap), (6, .pointer (some ⟨y.i.rb, 0, none⟩)), (7, .pointer (some ⟨y.i.wb, 0, none⟩)), (26, .slice x.s.a x.s.n x.s.cap), (27, .int .i64 x.s.n), (28, .int .i64 y.i.j), (9, .int .i64 y.t), (10, .int .i64 y.i.d), (55, .slice y.ka (tgts x.c y.t).length y.kc), (56, .int .i64 (tgts x.c y.t).length), (57, .int .i64 y.k)], st := fun y => [nil4 y.i.rb, .cells y.i.wb [.pointer (some ⟨x.b, 0, none⟩), .slice x.m.a x.m.n x.m.cap, .map (some y.i.eb), .map (some y.i.ib), .map (some y.i.tb), .int .i64 y.i.d, y.i.gv] 127, mpA y.i.eb (eK y.st.1), mpA y.i.ib [], mpA y.i.tb [], mpA y.gb (gK y.st.2), F] }
  | 4 => some { X := EtJ, P := fun y => EtQ4 x y, gh := some ⟨Nat, fun y => y.i.j⟩, mu := fun y => (goalsV x.c x.mem y.t).length - y.k, lv := fun y => [(0, .pointer (some ⟨x.b, 0, none⟩)), (1, .slice x.m.a x.m.n x.m.cap), (6, .pointer (some ⟨y.i.rb, 0, none⟩)), (7, .pointer (some ⟨y.i.wb, 0, none⟩)), (26, .slice x.s.a x.s.n x.s.cap), (27, .int .i64 x.s.n), (28, .int .i64 y.i.j), (10, .int .i64 y.i.d), (68, .slice y.r.a y.r.n y.r.cap), (69, .int .i64 y.r.n), (70, .int .i64 y.k)], st := fun y => [nil4 y.i.rb, .cells y.i.wb [.pointer (some ⟨x.b, 0, none⟩), .slice x.m.a x.m.n x.m.cap, .map (some y.i.eb), .map (some y.i.ib), .map (some y.i.tb), .int .i64 y.i.d, y.i.gv] 127, mpA y.i.eb (eK y.st.1), mpA y.i.ib [], mpA y.i.tb [], mpA y.gb (gK y.st.2), y.r.A, F] }
  | 6 => some { X := EtO, P := fun y => EtR x y, mu := fun _ => 0, lv := fun y => [(6, .pointer (some ⟨y.rb, 0, none⟩)), (16, .pointer (some ⟨y.ob, 0, none⟩)), (100, .slice y.r3.a y.r3.n y.r3.cap), (101, .int .i64 y.r3.n), (102, .int .i64 0)], st := fun y => [nil4 y.rb, .cells y.ob [.slice y.r1.a y.r1.n y.r1.cap, .slice y.r2.a y.r2.n y.r2.cap, .slice y.r3.a y.r3.n y.r3.cap, .slice none 0 0] 83, y.r1.A, F] }
  | _ => none
def at4 (j : Nat) : List LH := [.atj j, .atj j, .atj j, .atj j]
def entOv (_x : EtX) (_F : Atom) : List (Nat × Nat × OH) := [(0, 0, .n 1000), (1, 2, .n 2020), (1, 3, .n 2030), (1, 4, .n 2040), (1, 6, .n 2060), (4, 0, .qo (ixQ 1)), (4, 1, .q [.ex 5 (.int .i64)]), (5, 3, .c domC [] []), (7, 3, .n 8030), (7, 6, .w [.atj 1]), (7, 9, .w [.atj 1]),
  (8, 1, .c chtC [] []), (8, 4, .qo (ixQ 6)), (8, 6, .q [.ex 5 .slice]), (10, 0, .qo (ixQ 1)), (10, 1, .q [.ex 6 (.int .i64)]), (11, 2, .c dwC [2, 5] [2, 5]), (13, 3, .c gosC [] [14030]), (15, 0, .qo (ixQ 1)), (15, 1, .q [.ex 6 (.int .i64)]), (16, 3, .c upC [2, 5] [2, 5]),
  (19, 3, .q [.atj 1]), (19, 4, .c (keyC 117 124) [] [20040]), (19, 5, .c (soC 117) [] [20050]), (19, 9, .q [.atj 1]), (19, 10, .c (keyC 117 124) [] [20100]), (19, 11, .c (soC 117) [] [20110]), (19, 15, .q [.atj 1]), (19, 16, .c (keyC 117 124) [] [20160]), (19, 17, .c (soC 117) [] [20170]), (19, 19, .n 20190), (19, 20, .w (at4 20190)),
  (20, 1, .q [.atj 20190]), (22, 0, .o offC [] []), (22, 1, .q []), (25, 0, .q (at4 1)), (25, 1, .w (at4 0))]
noncomputable def ent_H (x : Con.X entC) (F : Atom) : Hints where
  op := hk ((entOv x F) ++ [])
  inv := entInv x F
  cut := (fun _ _ _ => none) x F
  ord := (fun _ => [])
open Go.Value (int slice string bool pointer agg tuple func) in
open Go.IntKind (i64) in
set_option maxRecDepth 100000 in
theorem ent_vc (x : EtX) (F : Atom) (hc : Con.cond entC x) (hr : Con.rdc entC x F) :
  ∀ (b b_1 b_2 b_3 b_4 : Nat),
 (∃ (x_1 : EtI),
 EtP x x_1 ∧
 (pointer (some ⟨x.b, 0, none⟩) = pointer (some ⟨x.b, 0, none⟩) ∧ slice x.m.a x.m.n x.m.cap = slice x.m.a x.m.n x.m.cap ∧ pointer (some ⟨b, 0, none⟩) = pointer (some ⟨x_1.rb, 0, none⟩) ∧ pointer (some ⟨b_4, 0, none⟩) = pointer (some ⟨x_1.wb, 0, none⟩) ∧ slice x.s.a x.s.n x.s.cap = slice x.s.a x.s.n x.s.cap ∧ int i64 (↑x.s.n : Int) = int i64 (↑x.s.n : Int) ∧ int i64 (0 : Int) = int i64 (↑x_1.j : Int) ∧ True) ∧
 Ent [(0, F), (1000, Atom.cells b [slice none 0 0, slice none 0 0, slice none 0 0, slice none 0 0] 83), (2020, Atom.obj b_1 (Obj.map { toList := [] } 0)), (2030, Atom.obj b_2 (Obj.map { toList := [] } 0)), (2040, Atom.obj b_3 (Obj.map { toList := [] } 0)), (2060, Atom.cells b_4 [pointer (some ⟨x.b, 0, none⟩), slice x.m.a x.m.n x.m.cap, Value.map (some b_1), Value.map (some b_2), Value.map (some b_3), int i64 (0 : Int), Value.map none] 127)]
 [(0, Atom.cells x_1.rb [slice none 0 0, slice none 0 0, slice none 0 0, slice none 0 0] 83), (1, Atom.cells x_1.wb [pointer (some ⟨x.b, 0, none⟩), slice x.m.a x.m.n x.m.cap, Value.map (some x_1.eb), Value.map (some x_1.ib), Value.map (some x_1.tb), int i64 x_1.d, x_1.gv] 127), (2, Atom.obj x_1.eb (Obj.map { toList := mEl 0 (eK x_1.el) } (eK x_1.el).length)), (3, Atom.obj x_1.ib (Obj.map { toList := [] } 0)), (4, Atom.obj x_1.tb (Obj.map { toList := [] } 0)), (5, F)]) ∧
 ∀ (x_1 : EtI) (js : Nat → Value),
 EtP x x_1 →
 Br (decide ((↑x_1.j : Int) < (↑x.s.n : Int)))
 (QOpOk Try.prog (opIn Try.f48 4 0) (ixQ 1) ∧
 ∃ (x_2 : IxQX),
 [slice x.s.a x.s.n x.s.cap, int i64 (↑x_1.j : Int)] = [slice (some ⟨x_2.b, x_2.o, none⟩) x_2.len x_2.cap, int i64 x_2.n] ∧
 ((0 : Int) ≤ x_2.n ∧ x_2.n < (↑x_2.len : Int)) ∧
 ∃ (n : Int),
 Look F ⟨x_2.b, x_2.o + x_2.n.toNat * 1, none⟩ (int i64 n) ∧
 FnOk Try.prog 47 domC ∧
 true = true ∧
 ∃ (x_3 : RmX),
 [pointer (some ⟨x.b, 0, none⟩), slice x.m.a x.m.n x.m.cap, int i64 n] = [pointer (some ⟨x_3.b, 0, none⟩), slice x_3.m.a x_3.m.n x_3.m.cap, int i64 x_3.h] ∧
 ([] : List Atom) = [] ∧
 newB x_3.c = true ∧
 (LatIn (Atom.pred (rest [(0, Atom.cells x_1.rb [slice none 0 0, slice none 0 0, slice none 0 0, slice none 0 0] 83), (1, Atom.cells x_1.wb [pointer (some ⟨x.b, 0, none⟩), slice x.m.a x.m.n x.m.cap, Value.map (some x_1.eb), Value.map (some x_1.ib), Value.map (some x_1.tb), int i64 x_1.d, x_1.gv] 127), (2, Atom.obj x_1.eb (Obj.map { toList := mEl 0 (eK x_1.el) } (eK x_1.el).length)), (3, Atom.obj x_1.ib (Obj.map { toList := [] } 0)), (4, Atom.obj x_1.tb (Obj.map { toList := [] } 0)), (5, F)] [])) x_3.b x_3.c ∧
 MemIn (Atom.pred (rest [(0, Atom.cells x_1.rb [slice none 0 0, slice none 0 0, slice none 0 0, slice none 0 0] 83), (1, Atom.cells x_1.wb [pointer (some ⟨x.b, 0, none⟩), slice x.m.a x.m.n x.m.cap, Value.map (some x_1.eb), Value.map (some x_1.ib), Value.map (some x_1.tb), int i64 x_1.d, x_1.gv] 127), (2, Atom.obj x_1.eb (Obj.map { toList := mEl 0 (eK x_1.el) } (eK x_1.el).length)), (3, Atom.obj x_1.ib (Obj.map { toList := [] } 0)), (4, Atom.obj x_1.tb (Obj.map { toList := [] } 0)), (5, F)] [])) (slice x_3.m.a x_3.m.n x_3.m.cap) x_3.mem) ∧
 ∀ (y : Unit),
 True →
 Br (!(domP x_3.c x_3.mem x_3.h).snd)
 (((-9223372036854775808 : Int) ≤ (↑x_1.j : Int) + (1 : Int) ∧ (↑x_1.j : Int) + (1 : Int) ≤ (9223372036854775807 : Int)) ∧
 ∃ (y : EtI),
 EtP x y ∧
 (pointer (some ⟨x.b, 0, none⟩) = pointer (some ⟨x.b, 0, none⟩) ∧ slice x.m.a x.m.n x.m.cap = slice x.m.a x.m.n x.m.cap ∧ pointer (some ⟨x_1.rb, 0, none⟩) = pointer (some ⟨y.rb, 0, none⟩) ∧ pointer (some ⟨x_1.wb, 0, none⟩) = pointer (some ⟨y.wb, 0, none⟩) ∧ slice x.s.a x.s.n x.s.cap = slice x.s.a x.s.n x.s.cap ∧ int i64 (↑x.s.n : Int) = int i64 (↑x.s.n : Int) ∧ int i64 ((↑x_1.j : Int) + (1 : Int)) = int i64 (↑y.j : Int) ∧ True) ∧
 Ent [(0, Atom.cells x_1.rb [slice none 0 0, slice none 0 0, slice none 0 0, slice none 0 0] 83), (1, Atom.cells x_1.wb [pointer (some ⟨x.b, 0, none⟩), slice x.m.a x.m.n x.m.cap, Value.map (some x_1.eb), Value.map (some x_1.ib), Value.map (some x_1.tb), int i64 x_1.d, x_1.gv] 127), (2, Atom.obj x_1.eb (Obj.map { toList := mEl 0 (eK x_1.el) } (eK x_1.el).length)), (3, Atom.obj x_1.ib (Obj.map { toList := [] } 0)), (4, Atom.obj x_1.tb (Obj.map { toList := [] } 0)), (5, F)]
 [(0, Atom.cells y.rb [slice none 0 0, slice none 0 0, slice none 0 0, slice none 0 0] 83), (1, Atom.cells y.wb [pointer (some ⟨x.b, 0, none⟩), slice x.m.a x.m.n x.m.cap, Value.map (some y.eb), Value.map (some y.ib), Value.map (some y.tb), int i64 y.d, y.gv] 127), (2, Atom.obj y.eb (Obj.map { toList := mEl 0 (eK y.el) } (eK y.el).length)), (3, Atom.obj y.ib (Obj.map { toList := [] } 0)), (4, Atom.obj y.tb (Obj.map { toList := [] } 0)), (5, F)] ∧
 x.ts.length - y.j < x.ts.length - x_1.j)
 (∀ (b : Nat),
 Same ⟨x_1.wb, 5, none⟩ x_1.wb ∧
 Same ⟨x_1.wb, 6, none⟩ x_1.wb ∧
 FnOk Try.prog 17 chtC ∧
 true = true ∧
 ∃ (x_4 : ChtX),
 [pointer (some ⟨x.b, 0, none⟩)] = [pointer (some ⟨x_4.b, 0, none⟩)] ∧
 ([] : List Atom) = [] ∧
 True ∧
 (∀ (j : Nat) (u : Value), (chS x_4.c x_4.w)[j]? = some u → Look (Atom.pred (rest [(0, Atom.cells x_1.rb [slice none 0 0, slice none 0 0, slice none 0 0, slice none 0 0] 83), (1, Atom.cells x_1.wb [pointer (some ⟨x.b, 0, none⟩), slice x.m.a x.m.n x.m.cap, Value.map (some x_1.eb), Value.map (some x_1.ib), Value.map (some x_1.tb), int i64 (domP x_3.c x_3.mem x_3.h).fst, Value.map (some b)] 127), (2, Atom.obj x_1.eb (Obj.map { toList := mEl 0 (eK x_1.el) } (eK x_1.el).length)), (3, Atom.obj x_1.ib (Obj.map { toList := [] } 0)), (4, Atom.obj x_1.tb (Obj.map { toList := [] } 0)), (5, F), (8030, Atom.obj b (Obj.map { toList := [] } 0))] [])) ⟨x_4.b, j, none⟩ u) ∧
 ∀ (y : Unit),
 True →
 QOpOk Try.prog (opIn Try.f48 8 4) (ixQ 6) ∧
 ∃ (x_5 : IxQX),
 [slice x_4.w.vt.a x_4.w.vt.n x_4.w.vt.cap, int i64 n] = [slice (some ⟨x_5.b, x_5.o, none⟩) x_5.len x_5.cap, int i64 x_5.n] ∧
 ((0 : Int) ≤ x_5.n ∧ x_5.n < (↑x_5.len : Int)) ∧
 ∃ (a : Option Addr),
 ∃ (l : Nat),
 ∃ (c : Nat),
 Look F ⟨x_5.b, x_5.o + x_5.n.toNat * 6 + 3, none⟩ (slice a l c) ∧
 ∃ (n_1 : Nat),
 (∃ (x_6 : EtJ),
 (EtQ2 x F x_6 ∧ x_6.i.j = n_1) ∧
 (pointer (some ⟨x.b, 0, none⟩) = pointer (some ⟨x.b, 0, none⟩) ∧
 slice x.m.a x.m.n x.m.cap = slice x.m.a x.m.n x.m.cap ∧
 pointer (some ⟨x_1.rb, 0, none⟩) = pointer (some ⟨x_6.i.rb, 0, none⟩) ∧ pointer (some ⟨x_1.wb, 0, none⟩) = pointer (some ⟨x_6.i.wb, 0, none⟩) ∧ slice x.s.a x.s.n x.s.cap = slice x.s.a x.s.n x.s.cap ∧ int i64 (↑x.s.n : Int) = int i64 (↑x.s.n : Int) ∧ int i64 (↑x_1.j : Int) = int i64 (↑x_6.i.j : Int) ∧ int i64 n = int i64 x_6.t ∧ int i64 (domP x_3.c x_3.mem x_3.h).fst = int i64 x_6.i.d ∧ slice a l c = slice x_6.ka (tgts x.c x_6.t).length x_6.kc ∧ int i64 (↑l : Int) = int i64 (↑(tgts x.c x_6.t).length : Int) ∧ int i64 (0 : Int) = int i64 (↑x_6.k : Int) ∧ True) ∧
 Ent [(0, Atom.cells x_1.rb [slice none 0 0, slice none 0 0, slice none 0 0, slice none 0 0] 83), (1, Atom.cells x_1.wb [pointer (some ⟨x.b, 0, none⟩), slice x.m.a x.m.n x.m.cap, Value.map (some x_1.eb), Value.map (some x_1.ib), Value.map (some x_1.tb), int i64 (domP x_3.c x_3.mem x_3.h).fst, Value.map (some b)] 127), (2, Atom.obj x_1.eb (Obj.map { toList := mEl 0 (eK x_1.el) } (eK x_1.el).length)), (3, Atom.obj x_1.ib (Obj.map { toList := [] } 0)), (4, Atom.obj x_1.tb (Obj.map { toList := [] } 0)), (5, F), (8030, Atom.obj b (Obj.map { toList := [] } 0))]
 [(0, Atom.cells x_6.i.rb [slice none 0 0, slice none 0 0, slice none 0 0, slice none 0 0] 83), (1, Atom.cells x_6.i.wb [pointer (some ⟨x.b, 0, none⟩), slice x.m.a x.m.n x.m.cap, Value.map (some x_6.i.eb), Value.map (some x_6.i.ib), Value.map (some x_6.i.tb), int i64 x_6.i.d, x_6.i.gv] 127), (2, Atom.obj x_6.i.eb (Obj.map { toList := mEl 0 (eK x_6.st.fst) } (eK x_6.st.fst).length)), (3, Atom.obj x_6.i.ib (Obj.map { toList := [] } 0)), (4, Atom.obj x_6.i.tb (Obj.map { toList := [] } 0)), (5, Atom.obj x_6.gb (Obj.map { toList := mEl 0 (gK x_6.st.snd) } (gK x_6.st.snd).length)), (6, F)]) ∧
 ∀ (x_6 : EtJ) (js : Nat → Value),
 EtQ2 x F x_6 ∧ x_6.i.j = n_1 →
 Br (decide ((↑x_6.k : Int) < (↑(tgts x.c x_6.t).length : Int)))
 (QOpOk Try.prog (opIn Try.f48 10 0) (ixQ 1) ∧
 ∃ (x_7 : IxQX),
 [slice x_6.ka (tgts x.c x_6.t).length x_6.kc, int i64 (↑x_6.k : Int)] = [slice (some ⟨x_7.b, x_7.o, none⟩) x_7.len x_7.cap, int i64 x_7.n] ∧
 ((0 : Int) ≤ x_7.n ∧ x_7.n < (↑x_7.len : Int)) ∧
 ∃ (n : Int),
 Look F ⟨x_7.b, x_7.o + x_7.n.toNat * 1, none⟩ (int i64 n) ∧
 FnOk Try.prog 90 dwC ∧
 true = true ∧
 ∃ (x_8 : WkX),
 [pointer (some ⟨x_6.i.wb, 0, none⟩), int i64 n] = [pointer (some ⟨x_8.wb, 0, none⟩), int i64 x_8.s] ∧
 [Atom.obj x_6.i.eb (Obj.map { toList := mEl 0 (eK x_6.st.fst) } (eK x_6.st.fst).length), Atom.obj x_6.gb (Obj.map { toList := mEl 0 (gK x_6.st.snd) } (gK x_6.st.snd).length)] = [Atom.obj x_8.eb (Obj.map { toList := mEl 0 (eK x_8.el) } (eK x_8.el).length), Atom.obj x_8.gb (Obj.map { toList := mEl 0 (gK x_8.gl) } (gK x_8.gl).length)] ∧
 (atB x_8.c x_8.s = true ∧ kd x_8.c x_8.s.toNat ≠ (2 : Int)) ∧
 WkIn (Atom.pred (rest [(0, Atom.cells x_6.i.rb [slice none 0 0, slice none 0 0, slice none 0 0, slice none 0 0] 83), (1, Atom.cells x_6.i.wb [pointer (some ⟨x.b, 0, none⟩), slice x.m.a x.m.n x.m.cap, Value.map (some x_6.i.eb), Value.map (some x_6.i.ib), Value.map (some x_6.i.tb), int i64 x_6.i.d, x_6.i.gv] 127), (2, Atom.obj x_6.i.eb (Obj.map { toList := mEl 0 (eK x_6.st.fst) } (eK x_6.st.fst).length)), (3, Atom.obj x_6.i.ib (Obj.map { toList := [] } 0)), (4, Atom.obj x_6.i.tb (Obj.map { toList := [] } 0)), (5, Atom.obj x_6.gb (Obj.map { toList := mEl 0 (gK x_6.st.snd) } (gK x_6.st.snd).length)), (6, F)] [2, 5])) x_8.wb
 x_8.b x_8.c x_8.eb x_8.gb ∧
 ∀ (y : Unit),
 True →
 ((-9223372036854775808 : Int) ≤ (↑x_6.k : Int) + (1 : Int) ∧ (↑x_6.k : Int) + (1 : Int) ≤ (9223372036854775807 : Int)) ∧
 ∃ (y : EtJ),
 (EtQ2 x F y ∧ y.i.j = n_1) ∧
 (pointer (some ⟨x.b, 0, none⟩) = pointer (some ⟨x.b, 0, none⟩) ∧
 slice x.m.a x.m.n x.m.cap = slice x.m.a x.m.n x.m.cap ∧
 pointer (some ⟨x_6.i.rb, 0, none⟩) = pointer (some ⟨y.i.rb, 0, none⟩) ∧
 pointer (some ⟨x_6.i.wb, 0, none⟩) = pointer (some ⟨y.i.wb, 0, none⟩) ∧ slice x.s.a x.s.n x.s.cap = slice x.s.a x.s.n x.s.cap ∧ int i64 (↑x.s.n : Int) = int i64 (↑x.s.n : Int) ∧ int i64 (↑x_6.i.j : Int) = int i64 (↑y.i.j : Int) ∧ int i64 x_6.t = int i64 y.t ∧ int i64 x_6.i.d = int i64 y.i.d ∧ slice x_6.ka (tgts x.c x_6.t).length x_6.kc = slice y.ka (tgts x.c y.t).length y.kc ∧ int i64 (↑(tgts x.c x_6.t).length : Int) = int i64 (↑(tgts x.c y.t).length : Int) ∧ int i64 ((↑x_6.k : Int) + (1 : Int)) = int i64 (↑y.k : Int) ∧ True) ∧
 Ent
 [(0, Atom.cells x_6.i.rb [slice none 0 0, slice none 0 0, slice none 0 0, slice none 0 0] 83), (1, Atom.cells x_6.i.wb [pointer (some ⟨x.b, 0, none⟩), slice x.m.a x.m.n x.m.cap, Value.map (some x_6.i.eb), Value.map (some x_6.i.ib), Value.map (some x_6.i.tb), int i64 x_6.i.d, x_6.i.gv] 127), (2, Atom.obj x_8.eb (Obj.map { toList := mEl 0 (eK (dnEl x_8.el x_8.gl x_8.s)) } (eK (dnEl x_8.el x_8.gl x_8.s)).length)), (3, Atom.obj x_6.i.ib (Obj.map { toList := [] } 0)), (4, Atom.obj x_6.i.tb (Obj.map { toList := [] } 0)), (5, Atom.obj x_8.gb (Obj.map { toList := mEl 0 (gK (add1 x_8.gl x_8.s)) } (gK (add1 x_8.gl x_8.s)).length)),
 (6, F)]
 [(0, Atom.cells y.i.rb [slice none 0 0, slice none 0 0, slice none 0 0, slice none 0 0] 83), (1, Atom.cells y.i.wb [pointer (some ⟨x.b, 0, none⟩), slice x.m.a x.m.n x.m.cap, Value.map (some y.i.eb), Value.map (some y.i.ib), Value.map (some y.i.tb), int i64 y.i.d, y.i.gv] 127), (2, Atom.obj y.i.eb (Obj.map { toList := mEl 0 (eK y.st.fst) } (eK y.st.fst).length)), (3, Atom.obj y.i.ib (Obj.map { toList := [] } 0)), (4, Atom.obj y.i.tb (Obj.map { toList := [] } 0)), (5, Atom.obj y.gb (Obj.map { toList := mEl 0 (gK y.st.snd) } (gK y.st.snd).length)), (6, F)] ∧
 (tgts x.c y.t).length - y.k < (tgts x.c x_6.t).length - x_6.k)
 (FnOk Try.prog 88 gosC ∧
 true = true ∧
 ∃ (x_7 : RmX),
 [pointer (some ⟨x.b, 0, none⟩), slice x.m.a x.m.n x.m.cap, int i64 x_6.t] = [pointer (some ⟨x_7.b, 0, none⟩), slice x_7.m.a x_7.m.n x_7.m.cap, int i64 x_7.h] ∧
 ([] : List Atom) = [] ∧
 newB x_7.c = true ∧
 (LatIn (Atom.pred (rest [(0, Atom.cells x_6.i.rb [slice none 0 0, slice none 0 0, slice none 0 0, slice none 0 0] 83), (1, Atom.cells x_6.i.wb [pointer (some ⟨x.b, 0, none⟩), slice x.m.a x.m.n x.m.cap, Value.map (some x_6.i.eb), Value.map (some x_6.i.ib), Value.map (some x_6.i.tb), int i64 x_6.i.d, x_6.i.gv] 127), (2, Atom.obj x_6.i.eb (Obj.map { toList := mEl 0 (eK x_6.st.fst) } (eK x_6.st.fst).length)), (3, Atom.obj x_6.i.ib (Obj.map { toList := [] } 0)), (4, Atom.obj x_6.i.tb (Obj.map { toList := [] } 0)), (5, Atom.obj x_6.gb (Obj.map { toList := mEl 0 (gK x_6.st.snd) } (gK x_6.st.snd).length)), (6, F)] [])) x_7.b x_7.c ∧
 MemIn (Atom.pred (rest [(0, Atom.cells x_6.i.rb [slice none 0 0, slice none 0 0, slice none 0 0, slice none 0 0] 83), (1, Atom.cells x_6.i.wb [pointer (some ⟨x.b, 0, none⟩), slice x.m.a x.m.n x.m.cap, Value.map (some x_6.i.eb), Value.map (some x_6.i.ib), Value.map (some x_6.i.tb), int i64 x_6.i.d, x_6.i.gv] 127), (2, Atom.obj x_6.i.eb (Obj.map { toList := mEl 0 (eK x_6.st.fst) } (eK x_6.st.fst).length)), (3, Atom.obj x_6.i.ib (Obj.map { toList := [] } 0)), (4, Atom.obj x_6.i.tb (Obj.map { toList := [] } 0)), (5, Atom.obj x_6.gb (Obj.map { toList := mEl 0 (gK x_6.st.snd) } (gK x_6.st.snd).length)), (6, F)] []))
 (slice x_7.m.a x_7.m.n x_7.m.cap) x_7.mem) ∧
 ∀ (y : Row),
 IsRow 3 1 (ints (goalsV x_7.c x_7.mem x_7.h)) y →
 ∃ (n : Nat),
 (∃ (x_8 : EtJ),
 (EtQ4 x x_8 ∧ x_8.i.j = n) ∧
 (pointer (some ⟨x.b, 0, none⟩) = pointer (some ⟨x.b, 0, none⟩) ∧
 slice x.m.a x.m.n x.m.cap = slice x.m.a x.m.n x.m.cap ∧ pointer (some ⟨x_6.i.rb, 0, none⟩) = pointer (some ⟨x_8.i.rb, 0, none⟩) ∧ pointer (some ⟨x_6.i.wb, 0, none⟩) = pointer (some ⟨x_8.i.wb, 0, none⟩) ∧ slice x.s.a x.s.n x.s.cap = slice x.s.a x.s.n x.s.cap ∧ int i64 (↑x.s.n : Int) = int i64 (↑x.s.n : Int) ∧ int i64 (↑x_6.i.j : Int) = int i64 (↑x_8.i.j : Int) ∧ int i64 x_6.i.d = int i64 x_8.i.d ∧ slice y.a y.n y.cap = slice x_8.r.a x_8.r.n x_8.r.cap ∧ int i64 (↑y.n : Int) = int i64 (↑x_8.r.n : Int) ∧ int i64 (0 : Int) = int i64 (↑x_8.k : Int) ∧ True) ∧
 Ent [(0, Atom.cells x_6.i.rb [slice none 0 0, slice none 0 0, slice none 0 0, slice none 0 0] 83), (1, Atom.cells x_6.i.wb [pointer (some ⟨x.b, 0, none⟩), slice x.m.a x.m.n x.m.cap, Value.map (some x_6.i.eb), Value.map (some x_6.i.ib), Value.map (some x_6.i.tb), int i64 x_6.i.d, x_6.i.gv] 127), (2, Atom.obj x_6.i.eb (Obj.map { toList := mEl 0 (eK x_6.st.fst) } (eK x_6.st.fst).length)), (3, Atom.obj x_6.i.ib (Obj.map { toList := [] } 0)), (4, Atom.obj x_6.i.tb (Obj.map { toList := [] } 0)), (5, Atom.obj x_6.gb (Obj.map { toList := mEl 0 (gK x_6.st.snd) } (gK x_6.st.snd).length)), (6, F), (14030, y.A)]
 [(0, Atom.cells x_8.i.rb [slice none 0 0, slice none 0 0, slice none 0 0, slice none 0 0] 83), (1, Atom.cells x_8.i.wb [pointer (some ⟨x.b, 0, none⟩), slice x.m.a x.m.n x.m.cap, Value.map (some x_8.i.eb), Value.map (some x_8.i.ib), Value.map (some x_8.i.tb), int i64 x_8.i.d, x_8.i.gv] 127), (2, Atom.obj x_8.i.eb (Obj.map { toList := mEl 0 (eK x_8.st.fst) } (eK x_8.st.fst).length)), (3, Atom.obj x_8.i.ib (Obj.map { toList := [] } 0)), (4, Atom.obj x_8.i.tb (Obj.map { toList := [] } 0)), (5, Atom.obj x_8.gb (Obj.map { toList := mEl 0 (gK x_8.st.snd) } (gK x_8.st.snd).length)), (6, x_8.r.A), (7, F)]) ∧
 ∀ (x_8 : EtJ) (js : Nat → Value),
 EtQ4 x x_8 ∧ x_8.i.j = n →
 Br (decide ((↑x_8.k : Int) < (↑x_8.r.n : Int)))
 (QOpOk Try.prog (opIn Try.f48 15 0) (ixQ 1) ∧
 ∃ (x_9 : IxQX),
 [slice x_8.r.a x_8.r.n x_8.r.cap, int i64 (↑x_8.k : Int)] = [slice (some ⟨x_9.b, x_9.o, none⟩) x_9.len x_9.cap, int i64 x_9.n] ∧
 ((0 : Int) ≤ x_9.n ∧ x_9.n < (↑x_9.len : Int)) ∧
 ∃ (n_2 : Int),
 Look x_8.r.A ⟨x_9.b, x_9.o + x_9.n.toNat * 1, none⟩ (int i64 n_2) ∧
 FnOk Try.prog 91 upC ∧
 true = true ∧
 ∃ (x_10 : UpX),
 [pointer (some ⟨x_8.i.wb, 0, none⟩), int i64 n_2, int i64 x_8.i.d] = [pointer (some ⟨x_10.wb, 0, none⟩), int i64 x_10.s, int i64 x_10.top] ∧
 [Atom.obj x_8.i.eb (Obj.map { toList := mEl 0 (eK x_8.st.fst) } (eK x_8.st.fst).length), Atom.obj x_8.gb (Obj.map { toList := mEl 0 (gK x_8.st.snd) } (gK x_8.st.snd).length)] = [Atom.obj x_10.eb (Obj.map { toList := mEl 0 (eK x_10.el) } (eK x_10.el).length), Atom.obj x_10.gb (Obj.map { toList := mEl 0 (gK x_10.gl) } (gK x_10.gl).length)] ∧
 Flat x_10.c ∧
 WkIn
 (Atom.pred
 (rest
 [(0, Atom.cells x_8.i.rb [slice none 0 0, slice none 0 0, slice none 0 0, slice none 0 0] 83), (1, Atom.cells x_8.i.wb [pointer (some ⟨x.b, 0, none⟩), slice x.m.a x.m.n x.m.cap, Value.map (some x_8.i.eb), Value.map (some x_8.i.ib), Value.map (some x_8.i.tb), int i64 x_8.i.d, x_8.i.gv] 127), (2, Atom.obj x_8.i.eb (Obj.map { toList := mEl 0 (eK x_8.st.fst) } (eK x_8.st.fst).length)), (3, Atom.obj x_8.i.ib (Obj.map { toList := [] } 0)), (4, Atom.obj x_8.i.tb (Obj.map { toList := [] } 0)), (5, Atom.obj x_8.gb (Obj.map { toList := mEl 0 (gK x_8.st.snd) } (gK x_8.st.snd).length)), (6, x_8.r.A),
 (7, F)]
 [2, 5]))
 x_10.wb x_10.b x_10.c x_10.eb x_10.gb ∧
 ∀ (y : Unit),
 True →
 ((-9223372036854775808 : Int) ≤ (↑x_8.k : Int) + (1 : Int) ∧ (↑x_8.k : Int) + (1 : Int) ≤ (9223372036854775807 : Int)) ∧
 ∃ (y : EtJ),
 (EtQ4 x y ∧ y.i.j = n) ∧
 (pointer (some ⟨x.b, 0, none⟩) = pointer (some ⟨x.b, 0, none⟩) ∧
 slice x.m.a x.m.n x.m.cap = slice x.m.a x.m.n x.m.cap ∧
 pointer (some ⟨x_8.i.rb, 0, none⟩) = pointer (some ⟨y.i.rb, 0, none⟩) ∧ pointer (some ⟨x_8.i.wb, 0, none⟩) = pointer (some ⟨y.i.wb, 0, none⟩) ∧ slice x.s.a x.s.n x.s.cap = slice x.s.a x.s.n x.s.cap ∧ int i64 (↑x.s.n : Int) = int i64 (↑x.s.n : Int) ∧ int i64 (↑x_8.i.j : Int) = int i64 (↑y.i.j : Int) ∧ int i64 x_8.i.d = int i64 y.i.d ∧ slice x_8.r.a x_8.r.n x_8.r.cap = slice y.r.a y.r.n y.r.cap ∧ int i64 (↑x_8.r.n : Int) = int i64 (↑y.r.n : Int) ∧ int i64 ((↑x_8.k : Int) + (1 : Int)) = int i64 (↑y.k : Int) ∧ True) ∧
 Ent
 [(0, Atom.cells x_8.i.rb [slice none 0 0, slice none 0 0, slice none 0 0, slice none 0 0] 83), (1, Atom.cells x_8.i.wb [pointer (some ⟨x.b, 0, none⟩), slice x.m.a x.m.n x.m.cap, Value.map (some x_8.i.eb), Value.map (some x_8.i.ib), Value.map (some x_8.i.tb), int i64 x_8.i.d, x_8.i.gv] 127), (2, Atom.obj x_10.eb (Obj.map { toList := mEl 0 (eK (upV x_10.c (x_10.el, x_10.gl) (abvV x_10.c x_10.s x_10.top)).fst) } (eK (upV x_10.c (x_10.el, x_10.gl) (abvV x_10.c x_10.s x_10.top)).fst).length)), (3, Atom.obj x_8.i.ib (Obj.map { toList := [] } 0)), (4, Atom.obj x_8.i.tb (Obj.map { toList := [] } 0)),
 (5, Atom.obj x_10.gb (Obj.map { toList := mEl 0 (gK (upV x_10.c (x_10.el, x_10.gl) (abvV x_10.c x_10.s x_10.top)).snd) } (gK (upV x_10.c (x_10.el, x_10.gl) (abvV x_10.c x_10.s x_10.top)).snd).length)), (6, x_8.r.A), (7, F)]
 [(0, Atom.cells y.i.rb [slice none 0 0, slice none 0 0, slice none 0 0, slice none 0 0] 83), (1, Atom.cells y.i.wb [pointer (some ⟨x.b, 0, none⟩), slice x.m.a x.m.n x.m.cap, Value.map (some y.i.eb), Value.map (some y.i.ib), Value.map (some y.i.tb), int i64 y.i.d, y.i.gv] 127), (2, Atom.obj y.i.eb (Obj.map { toList := mEl 0 (eK y.st.fst) } (eK y.st.fst).length)), (3, Atom.obj y.i.ib (Obj.map { toList := [] } 0)), (4, Atom.obj y.i.tb (Obj.map { toList := [] } 0)), (5, Atom.obj y.gb (Obj.map { toList := mEl 0 (gK y.st.snd) } (gK y.st.snd).length)), (6, y.r.A), (7, F)] ∧
 (goalsV x.c x.mem y.t).length - y.k < (goalsV x.c x.mem x_8.t).length - x_8.k)
 (((-9223372036854775808 : Int) ≤ (↑x_8.i.j : Int) + (1 : Int) ∧ (↑x_8.i.j : Int) + (1 : Int) ≤ (9223372036854775807 : Int)) ∧
 ∃ (y : EtI),
 EtP x y ∧
 (pointer (some ⟨x.b, 0, none⟩) = pointer (some ⟨x.b, 0, none⟩) ∧ slice x.m.a x.m.n x.m.cap = slice x.m.a x.m.n x.m.cap ∧ pointer (some ⟨x_8.i.rb, 0, none⟩) = pointer (some ⟨y.rb, 0, none⟩) ∧ pointer (some ⟨x_8.i.wb, 0, none⟩) = pointer (some ⟨y.wb, 0, none⟩) ∧ slice x.s.a x.s.n x.s.cap = slice x.s.a x.s.n x.s.cap ∧ int i64 (↑x.s.n : Int) = int i64 (↑x.s.n : Int) ∧ int i64 ((↑x_8.i.j : Int) + (1 : Int)) = int i64 (↑y.j : Int) ∧ True) ∧
 Ent [(0, Atom.cells x_8.i.rb [slice none 0 0, slice none 0 0, slice none 0 0, slice none 0 0] 83), (1, Atom.cells x_8.i.wb [pointer (some ⟨x.b, 0, none⟩), slice x.m.a x.m.n x.m.cap, Value.map (some x_8.i.eb), Value.map (some x_8.i.ib), Value.map (some x_8.i.tb), int i64 x_8.i.d, x_8.i.gv] 127), (2, Atom.obj x_8.i.eb (Obj.map { toList := mEl 0 (eK x_8.st.fst) } (eK x_8.st.fst).length)), (3, Atom.obj x_8.i.ib (Obj.map { toList := [] } 0)), (4, Atom.obj x_8.i.tb (Obj.map { toList := [] } 0)), (5, Atom.obj x_8.gb (Obj.map { toList := mEl 0 (gK x_8.st.snd) } (gK x_8.st.snd).length)), (6, x_8.r.A), (7, F)]
 [(0, Atom.cells y.rb [slice none 0 0, slice none 0 0, slice none 0 0, slice none 0 0] 83), (1, Atom.cells y.wb [pointer (some ⟨x.b, 0, none⟩), slice x.m.a x.m.n x.m.cap, Value.map (some y.eb), Value.map (some y.ib), Value.map (some y.tb), int i64 y.d, y.gv] 127), (2, Atom.obj y.eb (Obj.map { toList := mEl 0 (eK y.el) } (eK y.el).length)), (3, Atom.obj y.ib (Obj.map { toList := [] } 0)), (4, Atom.obj y.tb (Obj.map { toList := [] } 0)), (5, F)] ∧
 x.ts.length - y.j < x.ts.length - x_1.j))))
 (true = true ∧
 Same ⟨x_1.wb, 2, none⟩ x_1.wb ∧
 FnOk Try.prog 93 (keyC (117 : FuncId) (124 : TypeId)) ∧
 true = true ∧
 ∃ (x_2 : Nat),
 [Value.map (some x_1.eb)] = [Value.map (some x_2)] ∧
 ([] : List Atom) = [] ∧
 True ∧
 True ∧
 ∀ (y : Nat),
 True →
 FnOk Try.prog 92 (soC (117 : FuncId)) ∧
 true = true ∧
 ∃ (x_3 : SoX),
 [func (Fn.func 117) { toList := [] } { toList := [pointer (some ⟨y, 0, none⟩)] }] = [func (Fn.func 117) { toList := [] } { toList := [pointer (some ⟨x_3.bx, 0, none⟩)] }] ∧
 ([] : List Atom) = [] ∧
 ((keysOf x_3.kv).Nodup ∧ (∀ (p : Int × Value), p ∈ x_3.kv → (Lit.int IntKind.i64 p.fst).wf = true) ∧ x_3.kv.length * 8 ≤ 140737488351232) ∧
 (Look (Atom.pred (rest [(0, Atom.cells x_1.rb [slice none 0 0, slice none 0 0, slice none 0 0, slice none 0 0] 83), (1, Atom.cells x_1.wb [pointer (some ⟨x.b, 0, none⟩), slice x.m.a x.m.n x.m.cap, Value.map (some x_1.eb), Value.map (some x_1.ib), Value.map (some x_1.tb), int i64 x_1.d, x_1.gv] 127), (2, Atom.obj x_1.eb (Obj.map { toList := mEl 0 (eK x_1.el) } (eK x_1.el).length)), (3, Atom.obj x_1.ib (Obj.map { toList := [] } 0)), (4, Atom.obj x_1.tb (Obj.map { toList := [] } 0)), (5, F), (20040, Atom.cells y [Value.map (some x_2)] 124)] [])) ⟨x_3.bx, 0, none⟩ (Value.map (some x_3.b)) ∧
 MapIn (Atom.pred (rest [(0, Atom.cells x_1.rb [slice none 0 0, slice none 0 0, slice none 0 0, slice none 0 0] 83), (1, Atom.cells x_1.wb [pointer (some ⟨x.b, 0, none⟩), slice x.m.a x.m.n x.m.cap, Value.map (some x_1.eb), Value.map (some x_1.ib), Value.map (some x_1.tb), int i64 x_1.d, x_1.gv] 127), (2, Atom.obj x_1.eb (Obj.map { toList := mEl 0 (eK x_1.el) } (eK x_1.el).length)), (3, Atom.obj x_1.ib (Obj.map { toList := [] } 0)), (4, Atom.obj x_1.tb (Obj.map { toList := [] } 0)), (5, F), (20040, Atom.cells y [Value.map (some x_2)] 124)] [])) x_3.b x_3.kv) ∧
 ∀ (y_1 : Row),
 IsRow 3 1 (ints (sortI (keysOf x_3.kv))) y_1 →
 Same ⟨x_1.wb, 3, none⟩ x_1.wb ∧
 FnOk Try.prog 93 (keyC (117 : FuncId) (124 : TypeId)) ∧
 true = true ∧
 ∃ (x_4 : Nat),
 [Value.map (some x_1.ib)] = [Value.map (some x_4)] ∧
 ([] : List Atom) = [] ∧
 True ∧
 True ∧
 ∀ (y_2 : Nat),
 True →
 FnOk Try.prog 92 (soC (117 : FuncId)) ∧
 true = true ∧
 ∃ (x_5 : SoX),
 [func (Fn.func 117) { toList := [] } { toList := [pointer (some ⟨y_2, 0, none⟩)] }] = [func (Fn.func 117) { toList := [] } { toList := [pointer (some ⟨x_5.bx, 0, none⟩)] }] ∧
 ([] : List Atom) = [] ∧
 ((keysOf x_5.kv).Nodup ∧ (∀ (p : Int × Value), p ∈ x_5.kv → (Lit.int IntKind.i64 p.fst).wf = true) ∧ x_5.kv.length * 8 ≤ 140737488351232) ∧
 (Look (Atom.pred (rest [(0, Atom.cells x_1.rb [slice none 0 0, slice none 0 0, slice none 0 0, slice none 0 0] 83), (1, Atom.cells x_1.wb [pointer (some ⟨x.b, 0, none⟩), slice x.m.a x.m.n x.m.cap, Value.map (some x_1.eb), Value.map (some x_1.ib), Value.map (some x_1.tb), int i64 x_1.d, x_1.gv] 127), (2, Atom.obj x_1.eb (Obj.map { toList := mEl 0 (eK x_1.el) } (eK x_1.el).length)), (3, Atom.obj x_1.ib (Obj.map { toList := [] } 0)), (4, Atom.obj x_1.tb (Obj.map { toList := [] } 0)), (5, F), (20040, Atom.cells y [Value.map (some x_2)] 124), (20050, y_1.A), (20100, Atom.cells y_2 [Value.map (some x_4)] 124)] [])) ⟨x_5.bx, 0, none⟩
 (Value.map (some x_5.b)) ∧
 MapIn (Atom.pred (rest [(0, Atom.cells x_1.rb [slice none 0 0, slice none 0 0, slice none 0 0, slice none 0 0] 83), (1, Atom.cells x_1.wb [pointer (some ⟨x.b, 0, none⟩), slice x.m.a x.m.n x.m.cap, Value.map (some x_1.eb), Value.map (some x_1.ib), Value.map (some x_1.tb), int i64 x_1.d, x_1.gv] 127), (2, Atom.obj x_1.eb (Obj.map { toList := mEl 0 (eK x_1.el) } (eK x_1.el).length)), (3, Atom.obj x_1.ib (Obj.map { toList := [] } 0)), (4, Atom.obj x_1.tb (Obj.map { toList := [] } 0)), (5, F), (20040, Atom.cells y [Value.map (some x_2)] 124), (20050, y_1.A), (20100, Atom.cells y_2 [Value.map (some x_4)] 124)] [])) x_5.b x_5.kv) ∧
 ∀ (y_3 : Row),
 IsRow 3 1 (ints (sortI (keysOf x_5.kv))) y_3 →
 Same ⟨x_1.wb, 4, none⟩ x_1.wb ∧
 FnOk Try.prog 93 (keyC (117 : FuncId) (124 : TypeId)) ∧
 true = true ∧
 ∃ (x_6 : Nat),
 [Value.map (some x_1.tb)] = [Value.map (some x_6)] ∧
 ([] : List Atom) = [] ∧
 True ∧
 True ∧
 ∀ (y_4 : Nat),
 True →
 FnOk Try.prog 92 (soC (117 : FuncId)) ∧
 true = true ∧
 ∃ (x_7 : SoX),
 [func (Fn.func 117) { toList := [] } { toList := [pointer (some ⟨y_4, 0, none⟩)] }] = [func (Fn.func 117) { toList := [] } { toList := [pointer (some ⟨x_7.bx, 0, none⟩)] }] ∧
 ([] : List Atom) = [] ∧
 ((keysOf x_7.kv).Nodup ∧ (∀ (p : Int × Value), p ∈ x_7.kv → (Lit.int IntKind.i64 p.fst).wf = true) ∧ x_7.kv.length * 8 ≤ 140737488351232) ∧
 (Look
 (Atom.pred
 (rest
 [(0, Atom.cells x_1.rb [slice none 0 0, slice none 0 0, slice none 0 0, slice none 0 0] 83), (1, Atom.cells x_1.wb [pointer (some ⟨x.b, 0, none⟩), slice x.m.a x.m.n x.m.cap, Value.map (some x_1.eb), Value.map (some x_1.ib), Value.map (some x_1.tb), int i64 x_1.d, x_1.gv] 127), (2, Atom.obj x_1.eb (Obj.map { toList := mEl 0 (eK x_1.el) } (eK x_1.el).length)), (3, Atom.obj x_1.ib (Obj.map { toList := [] } 0)), (4, Atom.obj x_1.tb (Obj.map { toList := [] } 0)), (5, F), (20040, Atom.cells y [Value.map (some x_2)] 124), (20050, y_1.A), (20100, Atom.cells y_2 [Value.map (some x_4)] 124),
 (20110, y_3.A), (20160, Atom.cells y_4 [Value.map (some x_6)] 124)]
 []))
 ⟨x_7.bx, 0, none⟩ (Value.map (some x_7.b)) ∧
 MapIn
 (Atom.pred
 (rest
 [(0, Atom.cells x_1.rb [slice none 0 0, slice none 0 0, slice none 0 0, slice none 0 0] 83), (1, Atom.cells x_1.wb [pointer (some ⟨x.b, 0, none⟩), slice x.m.a x.m.n x.m.cap, Value.map (some x_1.eb), Value.map (some x_1.ib), Value.map (some x_1.tb), int i64 x_1.d, x_1.gv] 127), (2, Atom.obj x_1.eb (Obj.map { toList := mEl 0 (eK x_1.el) } (eK x_1.el).length)), (3, Atom.obj x_1.ib (Obj.map { toList := [] } 0)), (4, Atom.obj x_1.tb (Obj.map { toList := [] } 0)), (5, F), (20040, Atom.cells y [Value.map (some x_2)] 124), (20050, y_1.A), (20100, Atom.cells y_2 [Value.map (some x_4)] 124),
 (20110, y_3.A), (20160, Atom.cells y_4 [Value.map (some x_6)] 124)]
 []))
 x_7.b x_7.kv) ∧
 ∀ (y_5 : Row),
 IsRow 3 1 (ints (sortI (keysOf x_7.kv))) y_5 →
 ∀ (b : Nat),
 Same ⟨b, 0, none⟩ b ∧
 Same ⟨b, 1, none⟩ b ∧
 Same ⟨b, 2, none⟩ b ∧
 Same ⟨b, 3, none⟩ b ∧
 Same ⟨b, 2, none⟩ b ∧
 (∃ (x_8 : EtO),
 EtR x x_8 ∧
 (pointer (some ⟨x_1.rb, 0, none⟩) = pointer (some ⟨x_8.rb, 0, none⟩) ∧ pointer (some ⟨b, 0, none⟩) = pointer (some ⟨x_8.ob, 0, none⟩) ∧ slice y_5.a y_5.n y_5.cap = slice x_8.r3.a x_8.r3.n x_8.r3.cap ∧ int i64 (↑y_5.n : Int) = int i64 (↑x_8.r3.n : Int) ∧ int i64 (0 : Int) = int i64 (0 : Int) ∧ True) ∧
 Ent
 [(0, Atom.cells x_1.rb [slice none 0 0, slice none 0 0, slice none 0 0, slice none 0 0] 83), (1, Atom.cells x_1.wb [pointer (some ⟨x.b, 0, none⟩), slice x.m.a x.m.n x.m.cap, Value.map (some x_1.eb), Value.map (some x_1.ib), Value.map (some x_1.tb), int i64 x_1.d, x_1.gv] 127), (2, Atom.obj x_1.eb (Obj.map { toList := mEl 0 (eK x_1.el) } (eK x_1.el).length)), (3, Atom.obj x_1.ib (Obj.map { toList := [] } 0)), (4, Atom.obj x_1.tb (Obj.map { toList := [] } 0)), (5, F), (20040, Atom.cells y [Value.map (some x_2)] 124), (20050, y_1.A), (20100, Atom.cells y_2 [Value.map (some x_4)] 124),
 (20110, y_3.A), (20160, Atom.cells y_4 [Value.map (some x_6)] 124), (20170, y_5.A), (20190, Atom.cells b [slice y_1.a y_1.n y_1.cap, slice y_3.a y_3.n y_3.cap, slice y_5.a y_5.n y_5.cap, slice none 0 0] 83)]
 [(0, Atom.cells x_8.rb [slice none 0 0, slice none 0 0, slice none 0 0, slice none 0 0] 83), (1, Atom.cells x_8.ob [slice x_8.r1.a x_8.r1.n x_8.r1.cap, slice x_8.r2.a x_8.r2.n x_8.r2.cap, slice x_8.r3.a x_8.r3.n x_8.r3.cap, slice none 0 0] 83), (2, x_8.r1.A), (3, F)]) ∧
 ∀ (x_8 : EtO) (js : Nat → Value),
 EtR x x_8 →
 Br (decide ((0 : Int) < (↑x_8.r3.n : Int))) (OpOk Try.prog (opIn Try.f48 22 0) offC ∧ true = true ∧ ∃ (x : List Value), [slice x_8.r3.a x_8.r3.n x_8.r3.cap, int i64 (0 : Int)] = x ∧ ([] : List Atom) = [] ∧ False ∧ True ∧ ∀ (y : Unit), True → False)
 (Same ⟨x_8.ob, 0, none⟩ x_8.ob ∧
 Same ⟨x_8.ob, 1, none⟩ x_8.ob ∧
 Same ⟨x_8.ob, 2, none⟩ x_8.ob ∧
 Same ⟨x_8.ob, 3, none⟩ x_8.ob ∧
 Same ⟨x_8.rb, 0, none⟩ x_8.rb ∧
 Same ⟨x_8.rb, 1, none⟩ x_8.rb ∧
 Same ⟨x_8.rb, 2, none⟩ x_8.rb ∧
 Same ⟨x_8.rb, 3, none⟩ x_8.rb ∧
 Same ⟨x_8.rb, 0, none⟩ x_8.rb ∧
 Same ⟨x_8.rb, 1, none⟩ x_8.rb ∧ Same ⟨x_8.rb, 2, none⟩ x_8.rb ∧ Same ⟨x_8.rb, 3, none⟩ x_8.rb ∧ Done entC x F (Ending.returned (agg { toList := [slice x_8.r1.a x_8.r1.n x_8.r1.cap, slice x_8.r2.a x_8.r2.n x_8.r2.cap, slice x_8.r3.a x_8.r3.n x_8.r3.cap, slice none 0 0] })) [(0, Atom.cells x_8.rb [slice x_8.r1.a x_8.r1.n x_8.r1.cap, slice x_8.r2.a x_8.r2.n x_8.r2.cap, slice x_8.r3.a x_8.r3.n x_8.r3.cap, slice none 0 0] 83), (1, Atom.cells x_8.ob [slice x_8.r1.a x_8.r1.n x_8.r1.cap, slice x_8.r2.a x_8.r2.n x_8.r2.cap, slice x_8.r3.a x_8.r3.n x_8.r3.cap, slice none 0 0] 83), (2, x_8.r1.A), (3, F)])) := by
  obtain ⟨b, c, ⟨ma, mn, mc⟩, mem, ⟨sa, sn, sc⟩, ts⟩ := x
  obtain ⟨hnew, ⟨hs, hsn⟩, hfl⟩ := hc
  obtain ⟨hr, hm, hts⟩ := hr
  dsimp only at hnew hs hsn hfl hr hm hts ⊢
  have hn128 := (newB_spec.1 hnew).1.n128
  have hsl : ts.length = sn := by have := hs.len; rw [ints_length] at this; omega
  intro rb0 eb0 ib0 tb0 wb0
  refine ⟨⟨⟨rb0, wb0, eb0, ib0, tb0, 0, .map none, 0, []⟩, ⟨Nat.zero_le _, rfl, ⟨List.nodup_nil, fun u hu => by simp at hu⟩⟩, ⟨rfl, rfl, rfl, rfl, rfl, rfl, rfl, trivial⟩, Ent.pick [1000, 2060, 2020, 2030, 2040, 0] rfl rfl⟩, ?_⟩
  clear rb0 eb0 ib0 tb0 wb0
  rintro ⟨rb, wb, eb, ib, tb, d0, gv, j, el⟩ js ⟨hj, hel, hgd⟩
  dsimp only at hj hel hgd ⊢
  refine br_decide (fun hlt => ?_) (fun hge => ?_)
  · obtain ⟨b1, o1, rfl⟩ := hs.some (by omega)
    have hlt' : j < ts.length := by omega
    obtain ⟨t, ht⟩ : ∃ t, ts[j]? = some t := ⟨_, List.getElem?_eq_getElem hlt'⟩
    have e1 : o1 + (j : Int).toNat * 1 = o1 + j := by omega
    have hstep := entV_take (c := c) (mem := mem) ht
    refine ⟨ixq_ok 1 rfl rfl rfl rfl, ⟨b1, o1, sn, sc, j⟩, rfl, by dsimp only; omega, t, by dsimp only; rw [e1]; exact hts.look (ints_get ht), dom_ok, rfl, ⟨b, c, ⟨ma, mn, mc⟩, mem, t⟩, rfl, rfl, hnew, ⟨hr.sub (sub_rest 5 (by simp) rfl), hm.sub (sub_rest 5 (by simp) rfl)⟩, fun _ _ => br_intro (fun hd => ?_) (fun hd => ?_)⟩
    · have hd' : (domP c mem t).2 = false := by simpa using hd
      refine ⟨⟨by omega, by omega⟩, ⟨rb, wb, eb, ib, tb, d0, gv, j + 1, el⟩, ⟨hlt', ?_, hgd⟩, ⟨rfl, rfl, rfl, rfl, rfl, rfl, rfl, trivial⟩, Ent.pick [0, 1, 2, 3, 4, 5] rfl rfl, by dsimp only; omega⟩
      dsimp only
      rw [hstep]
      unfold entT
      rw [hd']; exact hel
    · have hd' : (domP c mem t).2 = true := by simpa using hd
      obtain ⟨hF, htg⟩ := hfl t (List.mem_of_getElem? ht) hd'
      obtain ⟨q, rfl, hq⟩ := isT_at (domP_T hd')
      obtain ⟨w, hw, e2, e3, hst, htr⟩ := lat_x hr
      obtain ⟨b0, o0, ka, kc, ea, hk, hI0⟩ := htr q hq
      intro gb0
      refine ⟨⟨rfl, rfl⟩, ⟨rfl, rfl⟩, cht_ok, rfl, ⟨b, c, w⟩, rfl, rfl, trivial, fun j u hj => Look.sub (A := F) (sub_rest 5 (by simp) rfl) (hw j u hj), fun _ _ => ⟨ixq_ok 6 rfl rfl rfl rfl, ⟨b0, o0, w.vt.n, w.vt.cap, q⟩, by dsimp only; rw [ea], by dsimp only; rw [e3]; omega, _, _, _, hk, j, ⟨⟨⟨rb, wb, eb, ib, tb, (domP c mem q).1, .map (some gb0), j, []⟩, gb0, q, 0, (el, []), ka, kc, nilRow⟩, ⟨⟨⟨hlt', ht, hd', rfl, rfl, hgd⟩, Nat.zero_le _, hI0, ?_⟩, rfl⟩, ⟨rfl, rfl, rfl, rfl, rfl, rfl, rfl, rfl, rfl, rfl, rfl, rfl, trivial⟩, Ent.pick [0, 1, 2, 3, 4, 8030, 5] rfl rfl⟩, ?_⟩⟩
      · dsimp only
        rw [hel]; rfl
      clear hI0 hk ea b0 o0 ka kc gb0 hgd hel el gv d0 tb ib eb wb rb
      rintro ⟨⟨rb, wb, eb, ib, tb, d, gv, j', el⟩, gb, t', k, st, ka, kc, rr⟩ js ⟨⟨⟨h1, h2, h3, h4, h5, h6⟩, hk, hI, hstt⟩, ej⟩
      dsimp only at h1 h2 h3 h4 h5 h6 hk hI hstt ej ⊢
      subst ej
      obtain rfl : (q : Int) = t' := by rw [ht] at h2; exact Option.some.inj h2
      subst h4 h5
      obtain ⟨g1, g2, g3, g4, g5⟩ := hI.srcd
      refine br_decide (fun hlt2 => ?_) (fun hge2 => ?_)
      · obtain ⟨b2, o2, rfl⟩ := g1.some (by omega)
        obtain ⟨u, hu⟩ : ∃ u, (tgts c q)[k]? = some u := ⟨_, List.getElem?_eq_getElem (by omega)⟩
        have e5 : o2 + (k : Int).toNat * 1 = o2 + k := by omega
        obtain ⟨hua, huk⟩ := htg u (List.mem_of_getElem? hu)
        refine ⟨ixq_ok 1 rfl rfl rfl rfl, ⟨b2, o2, _, kc, k⟩, rfl, by dsimp only; omega, u, by dsimp only; rw [e5]; exact g2.look (ints_get hu), dw_ok, rfl, ⟨wb, b, c, eb, st.1, gb, st.2, u⟩, rfl, rfl, ⟨hua, huk⟩, ⟨Look.rest (j := 1) (by simp) (Look.cells rfl), Look.rest (j := 1) (by simp) (Look.cells rfl), Look.rest (j := 1) (by simp) (Look.cells rfl), hr.sub (sub_rest 6 (by simp) rfl)⟩, fun _ _ => ⟨⟨by omega, by omega⟩, ⟨⟨rb, wb, eb, ib, tb, _, _, j', el⟩, gb, q, k + 1, dnS st u, _, kc, rr⟩, ⟨⟨⟨h1, h2, h3, rfl, rfl, good_dn h6 (atB_s hua)⟩, by dsimp only; omega, hI, ?_⟩, rfl⟩, ⟨rfl, rfl, rfl, rfl, rfl, rfl, rfl, rfl, rfl, rfl, rfl, rfl, trivial⟩, Ent.pick [0, 1, 2, 3, 4, 5, 6] rfl rfl, by dsimp only; omega⟩⟩
        dsimp only
        rw [dnA_take hu, ← hstt]
      · rw [show (tgts c q).take k = tgts c q from List.take_of_length_le (by omega)] at hstt
        refine ⟨gos_ok, rfl, ⟨b, c, ⟨ma, mn, mc⟩, mem, q⟩, rfl, rfl, hnew, ⟨hr.sub (sub_rest 6 (by simp) rfl), hm.sub (sub_rest 6 (by simp) rfl)⟩, fun y hy => ?_⟩
        replace hy : IsRow 3 1 (ints (goalsV c mem q)) y := hy
        have hyn : y.n = (goalsV c mem q).length := by have := hy.len; rw [ints_length] at this; omega
        have hgl := (goalsV_good hnew mem q).len
        refine ⟨j', ⟨⟨⟨rb, wb, eb, ib, tb, _, _, j', el⟩, gb, q, 0, st, none, 0, y⟩, ⟨⟨⟨h1, h2, h3, rfl, rfl, h6⟩, Nat.zero_le _, hy, hyn, by dsimp only; rw [hstt]; rfl⟩, rfl⟩, ⟨rfl, rfl, rfl, rfl, rfl, rfl, rfl, rfl, rfl, rfl, rfl, trivial⟩, Ent.pick [0, 1, 2, 3, 4, 5, 14030, 6] rfl rfl⟩, ?_⟩
        clear hge2 hy hyn y hstt h6 g1 g2 g3 g4 g5 hI ka kc hk k gb st el eb ib tb wb rb h3 h2
        rintro ⟨⟨rb, wb, eb, ib, tb, d, gv, j'', el⟩, gb, t', k, st, ka, kc, y⟩ js ⟨⟨⟨-, h2, h3, h4, h5, h6⟩, hk, hy, hyn, hstt⟩, ej⟩
        dsimp only at h2 h3 h4 h5 h6 hk hy hyn hstt ej ⊢
        subst ej
        obtain rfl : (q : Int) = t' := by rw [ht] at h2; exact Option.some.inj h2
        subst h4 h5
        refine br_decide (fun hlt3 => ?_) (fun hge3 => ?_)
        · obtain ⟨b2, o2, e6⟩ := hy.src.some (by omega)
          obtain ⟨u, hu⟩ : ∃ u, (goalsV c mem q)[k]? = some u := ⟨_, List.getElem?_eq_getElem (by omega)⟩
          have e5 : o2 + (k : Int).toNat * 1 = o2 + k := by omega
          have hg := hy.srcd
          rw [e6] at hg
          refine ⟨ixq_ok 1 rfl rfl rfl rfl, ⟨b2, o2, y.n, y.cap, k⟩, by dsimp only; rw [e6], by dsimp only; omega, u, by dsimp only; rw [e5]; exact hg.look (ints_get hu), up_ok, rfl, ⟨wb, b, c, eb, st.1, gb, st.2, u, (domP c mem q).1⟩, rfl, rfl, hF, ⟨Look.rest (j := 1) (by simp) (Look.cells rfl), Look.rest (j := 1) (by simp) (Look.cells rfl), Look.rest (j := 1) (by simp) (Look.cells rfl), hr.sub (sub_rest 7 (by simp) rfl)⟩, fun _ _ => ⟨⟨by omega, by omega⟩, ⟨⟨rb, wb, eb, ib, tb, _, _, j'', el⟩, gb, q, k + 1, upV c st (abvV c u (domP c mem q).1), none, 0, y⟩, ⟨⟨⟨h1, h2, h3, rfl, rfl, upV_good hF _ _ (fun v hv => abvV_mem hr.pl hv) h6⟩, by dsimp only; omega, hy, hyn, ?_⟩, rfl⟩, ⟨rfl, rfl, rfl, rfl, rfl, rfl, rfl, rfl, rfl, rfl, rfl, trivial⟩, Ent.pick [0, 1, 2, 3, 4, 5, 6, 7] rfl rfl, by dsimp only; omega⟩⟩
          dsimp only
          rw [upG_take hu, ← hstt]
        · rw [show (goalsV c mem q).take k = goalsV c mem q from List.take_of_length_le (by omega)] at hstt
          refine ⟨⟨by omega, by omega⟩, ⟨rb, wb, eb, ib, tb, _, _, j'' + 1, st.1⟩, ⟨by dsimp only; omega, ?_, h6⟩, ⟨rfl, rfl, rfl, rfl, rfl, rfl, rfl, trivial⟩, Ent.pick [0, 1, 2, 3, 4, 7] rfl rfl, by dsimp only; omega⟩
          dsimp only
          rw [hstep]
          unfold entT
          rw [hd', cond_true, hstt]
  · have hel' : el = entV c mem ts := by rw [List.take_of_length_le (by omega)] at hel; exact hel
    have hgl := hgd.len
    have hyk := keys_eK el
    refine ⟨rfl, ⟨rfl, rfl⟩, keyI_ok, rfl, eb, rfl, rfl, trivial, trivial, fun bx _ => ⟨soI_ok, rfl, ⟨bx, eb, eK el⟩, rfl, rfl, ⟨by dsimp only; rw [hyk]; exact hgd.nd, fun p hp => ?_, by dsimp only; rw [eK_len]; omega⟩, ⟨Look.rest (j := 20040) (by simp) (Look.cells rfl), MapIn.sub (A := mpA eb (eK el)) (sub_rest 2 (by simp) rfl) MapIn.own⟩, fun y1 hy1 => ⟨⟨rfl, rfl⟩, keyI_ok, rfl, ib, rfl, rfl, trivial, trivial, fun bx2 _ => ⟨soI_ok, rfl, ⟨bx2, ib, []⟩, rfl, rfl, ⟨List.nodup_nil, fun p hp => by simp at hp, Nat.zero_le _⟩, ⟨Look.rest (j := 20100) (by simp) (Look.cells rfl), MapIn.sub (A := mpA ib []) (sub_rest 3 (by simp) rfl) MapIn.own⟩, fun y2 hy2 => ⟨⟨rfl, rfl⟩, keyI_ok, rfl, tb, rfl, rfl, trivial, trivial, fun bx3 _ => ⟨soI_ok, rfl, ⟨bx3, tb, []⟩, rfl, rfl, ⟨List.nodup_nil, fun p hp => by simp at hp, Nat.zero_le _⟩, ⟨Look.rest (j := 20160) (by simp) (Look.cells rfl), MapIn.sub (A := mpA tb []) (sub_rest 4 (by simp) rfl) MapIn.own⟩, fun y3 hy3 => ?_⟩⟩⟩⟩⟩⟩
    · obtain ⟨h1, h2⟩ := hgd.st p.1 (by rw [← hyk]; exact List.mem_map.2 ⟨p, hp, rfl⟩)
      have e1 : IntKind.min .i64 = -9223372036854775808 := by decide
      have e2 : IntKind.max .i64 = 9223372036854775807 := by decide
      simp only [Lit.wf, Bool.and_eq_true, decide_eq_true_eq, e1, e2]
      omega
    · dsimp only at hy1
      rw [hyk] at hy1
      have z2 := row0 hy2
      have z3 := row0 hy3
      have hsp : (sortI el).Perm el := List.mergeSort_perm _ _
      have z1 : y1.n = el.length := by have := hy1.len; rw [ints_length, hsp.length_eq] at this; omega
      rw [hel'] at hy1 z1
      intro ob
      iterate 5 refine ⟨⟨rfl, rfl⟩, ?_⟩
      refine ⟨⟨⟨rb, ob, y1, y2, y3⟩, ⟨hy1, z1, z2, z3⟩, ⟨rfl, rfl, rfl, rfl, rfl, trivial⟩, Ent.pick [0, 20190, 20050, 5] rfl rfl⟩, ?_⟩
      clear hsp hy1 z1 z2 z3 hy2 hy3 y1 y2 y3 ob bx bx2 bx3 hyk hgl hel' hge hel hgd hj el j gv d0 tb ib eb wb rb
      rintro ⟨rb, ob, y1, y2, y3⟩ js ⟨q1, q2, q3, q4⟩
      dsimp only at q1 q2 q3 q4 ⊢
      refine br_decide (fun h => absurd h (by rw [q4]; decide)) (fun _ => ?_)
      iterate 12 refine ⟨⟨rfl, rfl⟩, ?_⟩
      exact ⟨(y1, y2, y3), ⟨q1, q2, q3, q4⟩, rfl, Ent.pick [2, 3] rfl rfl⟩
set_option maxRecDepth 100000 in
theorem ent_ok : FnOk Try.prog 48 entC :=
  fnOk (N := 119) (by kernel_rfl) Try.func48 rfl (by kernel_rfl) (fun _ => Nat.le_of_ble_eq_true rfl) ent_H (at4 0) fun x F hc hr => Eq.mpr (by kernel_rfl) (ent_vc x F hc hr)
end Go.Proofs.Ytkmdgnbfojkcnaa
