/- A transition's goals. What a right chart's transitions hold, in plain Lean. -/
import Derived.Test.YtkmdgnbfojkcnaaChoD
import Derived.Test.YtkmdgnbfojkcnaaLatL
set_option linter.all false
namespace Go.Proofs.Ytkmdgnbfojkcnaa
open Go
set_option maxHeartbeats 1000000
def add1 (o : List Int) (s : Int) : List Int := bif memB o s then o else o ++ [s]
def addV (o xs : List Int) : List Int := xs.foldl add1 o
theorem memB_iff {o : List Int} {s : Int} : memB o s = true ↔ s ∈ o := by
  unfold memB
  rw [List.any_eq_true]
  constructor
  · rintro ⟨u, hu, e⟩
    have : s = u := by simpa using e
    rw [this]; exact hu
  · intro h; exact ⟨s, h, by simp⟩
theorem nodup_len : ∀ (l m : List Int), l.Nodup → (∀ u ∈ l, u ∈ m) → l.length ≤ m.length
  | [], m, _, _ => Nat.zero_le _
  | x :: l, m, h, hs => by
    obtain ⟨h1, h2⟩ := List.nodup_cons.1 h
    have hx : x ∈ m := hs x (by simp)
    have ih := nodup_len l (m.erase x) h2 fun u hu => (List.mem_erase_of_ne (fun e => h1 (by rw [← e]; exact hu))).2 (hs u (by simp [hu]))
    have hl := List.length_erase_of_mem hx
    have hp := List.length_pos_of_mem hx
    simp only [List.length_cons]
    omega
/-- States, each once. -/
structure Good (N : Nat) (o : List Int) : Prop where
  nd : o.Nodup
  st : ∀ u ∈ o, 0 ≤ u ∧ u < N
theorem Good.len {N : Nat} {o : List Int} (h : Good N o) : o.length ≤ N := by
  have := nodup_len o ((List.range N).map Int.ofNat) h.nd fun u hu => by
    obtain ⟨h1, h2⟩ := h.st u hu
    exact List.mem_map.2 ⟨u.toNat, List.mem_range.2 (by omega), by show ((u.toNat : Nat) : Int) = u; omega⟩
  simpa using this
theorem Good.add1 {N : Nat} {o : List Int} (h : Good N o) {s : Int} (hs : 0 ≤ s ∧ s < N) : Good N (add1 o s) := by
  unfold Go.Proofs.Ytkmdgnbfojkcnaa.add1
  cases hm : memB o s with
  | true => exact h
  | false =>
    rw [cond_false]
    have hn : s ∉ o := fun hh => by rw [memB_iff.2 hh] at hm; cases hm
    refine ⟨?_, fun u hu => ?_⟩
    · rw [List.nodup_append]
      refine ⟨h.nd, by simp, fun a ha b hb e => ?_⟩
      rw [List.mem_singleton] at hb
      exact hn (by rw [← hb, ← e]; exact ha)
    · rcases List.mem_append.1 hu with hu | hu
      · exact h.st u hu
      · rw [List.mem_singleton] at hu
        rw [hu]; exact hs
theorem Good.addV {N : Nat} : ∀ (xs : List Int) {o : List Int}, Good N o → (∀ u ∈ xs, 0 ≤ u ∧ u < N) → Good N (addV o xs)
  | [], _, h, _ => h
  | x :: xs, o, h, hx => Good.addV xs (h.add1 (hx x (by simp))) fun u hu => hx u (by simp [hu])
theorem addV_take {o xs : List Int} {j : Nat} {u : Int} (h : xs[j]? = some u) : addV o (xs.take (j + 1)) = add1 (addV o (xs.take j)) u := by
  rw [List.take_add_one, h]
  unfold addV
  rw [List.foldl_append]; rfl
structure AddX where
  N : Nat
  bo : Nat
  r : Row
  out : List Int
  a : Option Addr
  n : Nat
  cap : Nat
  xs : List Int
def addC : Con where
  X := AddX
  Y := Row
  args x := [.slice x.a x.n x.cap, .pointer (some ⟨x.bo, 0, none⟩)]
  pre x := [.cells x.bo [.slice x.r.a x.r.n x.r.cap] 29, x.r.A]
  cond x := IsRow 3 1 (ints x.out) x.r ∧ IsSrc 1 (ints x.xs) x.a x.n ∧ x.n * 8 ≤ 140737488351232 ∧ x.N * 8 ≤ 140737488351232 ∧ Good x.N x.out ∧ ∀ u ∈ x.xs, 0 ≤ u ∧ u < x.N
  rdc x F := Srcd F x.a (ints x.xs)
  rel x y := IsRow 3 1 (ints (addV x.out x.xs)) y
  val _ _ := .returned (.tuple #[])
  post x y := [.cells x.bo [.slice y.a y.n y.cap] 29, y.A]
  rmono _ _ _ h hk := hk.sub h
structure AddI where
  j : Nat
  r : Row
def addInv (x : AddX) (F : Atom) : Nat → Option Inv := fun
  | 0 => some { X := AddI, P := fun i => i.j ≤ x.n ∧ IsRow 3 1 (ints (addV x.out (x.xs.take i.j))) i.r, mu := fun i => x.n - i.j, lv := fun i => [(1, .pointer (some ⟨x.bo, 0, none⟩)), (5, .slice x.a x.n x.cap), (6, .int .i64 x.n), (7, .int .i64 i.j)], st := fun i => [.cells x.bo [.slice i.r.a i.r.n i.r.cap] 29, i.r.A, F] }
  | _ => none
def addOv (_x : AddX) (_F : Atom) : List (Nat × Nat × OH) := [(2, 0, .qo (ixQ 1)), (2, 1, .q [.ex 2 (.int .i64)]), (3, 0, .q [.atj 0]), (3, 2, .c coC' [] []), (4, 0, .q [.atj 0]), (4, 2, .n 5020), (4, 3, .o (apC 3 1 8) [1] [1]), (4, 4, .w [.atj 0])]
noncomputable def add_H (x : Con.X addC) (F : Atom) : Hints where
  op := hk ((addOv x F) ++ [])
  inv := addInv x F
  cut := (fun _ _ _ => none) x F
  ord := (fun _ => [])
open Go.Value (int slice string bool pointer agg tuple func) in
open Go.IntKind (i64) in
set_option maxRecDepth 100000 in
theorem add_vc (x : AddX) (F : Atom) (hc : Con.cond addC x) (hr : Con.rdc addC x F) :
  (∃ (x_1 : AddI), (x_1.j ≤ x.n ∧ IsRow 3 1 (ints (addV x.out (List.take x_1.j x.xs))) x_1.r) ∧ (pointer (some ⟨x.bo, 0, none⟩) = pointer (some ⟨x.bo, 0, none⟩) ∧ slice x.a x.n x.cap = slice x.a x.n x.cap ∧ int i64 (↑x.n : Int) = int i64 (↑x.n : Int) ∧ int i64 (0 : Int) = int i64 (↑x_1.j : Int) ∧ True) ∧ Ent [(0, Atom.cells x.bo [slice x.r.a x.r.n x.r.cap] 29), (1, x.r.A), (2, F)] [(0, Atom.cells x.bo [slice x_1.r.a x_1.r.n x_1.r.cap] 29), (1, x_1.r.A), (2, F)]) ∧
 ∀ (x_1 : AddI) (js : Nat → Value),
 x_1.j ≤ x.n ∧ IsRow 3 1 (ints (addV x.out (List.take x_1.j x.xs))) x_1.r →
 Br (decide ((↑x_1.j : Int) < (↑x.n : Int)))
 (QOpOk Try.prog (opIn Try.f111 2 0) (ixQ 1) ∧
 ∃ (x_2 : IxQX),
 [slice x.a x.n x.cap, int i64 (↑x_1.j : Int)] = [slice (some ⟨x_2.b, x_2.o, none⟩) x_2.len x_2.cap, int i64 x_2.n] ∧
 ((0 : Int) ≤ x_2.n ∧ x_2.n < (↑x_2.len : Int)) ∧
 ∃ (n : Int),
 Look F ⟨x_2.b, x_2.o + x_2.n.toNat * 1, none⟩ (int i64 n) ∧
 Same ⟨x.bo, 0, none⟩ x.bo ∧
 FnOk Try.prog 66 coC' ∧
 true = true ∧
 ∃ (x_3 : InX),
 [slice x_1.r.a x_1.r.n x_1.r.cap, int i64 n] = [slice x_3.a x_3.n x_3.cap, int i64 x_3.v] ∧
 ([] : List Atom) = [] ∧
 (IsSrc 1 (ints x_3.xs) x_3.a x_3.n ∧ x_3.n * 8 ≤ 140737488351232) ∧
 Srcd (Atom.pred (rest [(0, Atom.cells x.bo [slice x_1.r.a x_1.r.n x_1.r.cap] 29), (1, x_1.r.A), (2, F)] [])) x_3.a (ints x_3.xs) ∧
 ∀ (y : Unit),
 True →
 Br (!memB x_3.xs x_3.v)
 (Same ⟨x.bo, 0, none⟩ x.bo ∧
 ∀ (b : Nat),
 OpOk Try.prog (opIn Try.f111 4 3) (apC (3 : TypeId) 1 8) ∧
 true = true ∧
 ∃ (x_4 : ApX),
 [slice x_1.r.a x_1.r.n x_1.r.cap, slice (some ⟨b, 0, none⟩) 1 1] = [slice x_4.r.a x_4.r.n x_4.r.cap, slice x_4.a x_4.m x_4.c] ∧
 [x_1.r.A] = [x_4.r.A] ∧
 (IsRow 3 1 x_4.cs x_4.r ∧ x_4.ys.length = x_4.m * 1 ∧ (∀ (u : Value), u ∈ x_4.ys → u.oneCell' = true) ∧ (x_4.r.n + x_4.m) * 8 ≤ 140737488355328 ∧ x_4.r.n + x_4.m ≤ 9223372036854775807 ∧ (x_4.a = none → x_4.m = 0 ∧ x_4.c = 0)) ∧
 (∀ (a : Addr), x_4.a = some a → Seg (Atom.pred (rest [(0, Atom.cells x.bo [slice x_1.r.a x_1.r.n x_1.r.cap] 29), (1, x_1.r.A), (2, F), (5020, Atom.cells b [int i64 n] 3)] [1])) a x_4.ys) ∧
 ∀ (y : Row),
 IsRow 3 1 (x_4.cs ++ x_4.ys) y ∧ y.n = x_4.r.n + x_4.m ∧ (x_4.m = 0 → y = x_4.r) →
 Same ⟨x.bo, 0, none⟩ x.bo ∧
 ((-9223372036854775808 : Int) ≤ (↑x_1.j : Int) + (1 : Int) ∧ (↑x_1.j : Int) + (1 : Int) ≤ (9223372036854775807 : Int)) ∧ ∃ (y_1 : AddI), (y_1.j ≤ x.n ∧ IsRow 3 1 (ints (addV x.out (List.take y_1.j x.xs))) y_1.r) ∧ (pointer (some ⟨x.bo, 0, none⟩) = pointer (some ⟨x.bo, 0, none⟩) ∧ slice x.a x.n x.cap = slice x.a x.n x.cap ∧ int i64 (↑x.n : Int) = int i64 (↑x.n : Int) ∧ int i64 ((↑x_1.j : Int) + (1 : Int)) = int i64 (↑y_1.j : Int) ∧ True) ∧ Ent [(0, Atom.cells x.bo [slice y.a y.n y.cap] 29), (1, y.A), (2, F), (5020, Atom.cells b [int i64 n] 3)] [(0, Atom.cells x.bo [slice y_1.r.a y_1.r.n y_1.r.cap] 29), (1, y_1.r.A), (2, F)] ∧ x.n - y_1.j < x.n - x_1.j)
 (((-9223372036854775808 : Int) ≤ (↑x_1.j : Int) + (1 : Int) ∧ (↑x_1.j : Int) + (1 : Int) ≤ (9223372036854775807 : Int)) ∧ ∃ (y : AddI), (y.j ≤ x.n ∧ IsRow 3 1 (ints (addV x.out (List.take y.j x.xs))) y.r) ∧ (pointer (some ⟨x.bo, 0, none⟩) = pointer (some ⟨x.bo, 0, none⟩) ∧ slice x.a x.n x.cap = slice x.a x.n x.cap ∧ int i64 (↑x.n : Int) = int i64 (↑x.n : Int) ∧ int i64 ((↑x_1.j : Int) + (1 : Int)) = int i64 (↑y.j : Int) ∧ True) ∧ Ent [(0, Atom.cells x.bo [slice x_1.r.a x_1.r.n x_1.r.cap] 29), (1, x_1.r.A), (2, F)] [(0, Atom.cells x.bo [slice y.r.a y.r.n y.r.cap] 29), (1, y.r.A), (2, F)] ∧ x.n - y.j < x.n - x_1.j))
 (Done addC x F (Ending.returned (tuple { toList := [] })) [(0, Atom.cells x.bo [slice x_1.r.a x_1.r.n x_1.r.cap] 29), (1, x_1.r.A), (2, F)]) := by
  obtain ⟨N, bo, r, out, a, n, cap, xs⟩ := x
  obtain ⟨hrow, hsrc, hle, hN, hg, hxs⟩ := hc
  replace hr : Srcd F a (ints xs) := hr
  dsimp only at hrow hsrc hle hN hg hxs
  have hlen : xs.length = n := by have := hsrc.len; rw [ints_length] at this; omega
  refine ⟨⟨⟨0, r⟩, ⟨Nat.zero_le _, hrow⟩, ⟨rfl, rfl, rfl, rfl, trivial⟩, Ent.pick [0, 1, 2] rfl rfl⟩, ?_⟩
  rintro ⟨j, r1⟩ js ⟨hj, hrow1⟩
  dsimp only at hj hrow1 ⊢
  refine br_decide (fun hlt => ?_) (fun hge => ⟨r1, ?_, rfl, Ent.pick [0, 1, 2] rfl rfl⟩)
  · obtain ⟨b2, o2, rfl⟩ := hsrc.some (by omega)
    obtain ⟨u, hu⟩ : ∃ u, xs[j]? = some u := ⟨_, List.getElem?_eq_getElem (by omega)⟩
    have e1 : o2 + (j : Int).toNat * 1 = o2 + j := by omega
    have hgj : Good N (addV out (xs.take j)) := Good.addV _ hg fun v hv => hxs v (List.mem_of_mem_take hv)
    have hlj := hgj.len
    have hrl : r1.n = (addV out (xs.take j)).length := by have := hrow1.len; rw [ints_length] at this; omega
    have hst := addV_take (o := out) hu
    refine ⟨ixq_ok 1 rfl rfl rfl rfl, ⟨b2, o2, n, cap, j⟩, rfl, by dsimp only; omega, u, by dsimp only; rw [e1]; exact hr.look (ints_get hu), ⟨rfl, rfl⟩, con_ok, rfl, ⟨r1.a, r1.n, r1.cap, addV out (xs.take j), u⟩, rfl, rfl, ⟨hrow1.src, by dsimp only; omega⟩, Srcd.sub (A := r1.A) (sub_rest 1 (by simp) rfl) hrow1.srcd, fun _ _ => br_intro (fun hm => ?_) (fun hm => ?_)⟩
    · have hm' : memB (addV out (xs.take j)) u = false := by simpa using hm
      have e2 : addV out (xs.take (j + 1)) = addV out (xs.take j) ++ [u] := by rw [hst]; unfold add1; rw [hm']; rfl
      refine ⟨⟨rfl, rfl⟩, fun b3 => ⟨append_ok (P := Try.prog) 1 8 rfl rfl rfl rfl rfl rfl rfl (by decide), rfl, ⟨r1, _, some ⟨b3, 0, none⟩, 1, 1, [.int .i64 u]⟩, rfl, rfl, ⟨hrow1, rfl, by simp [Value.oneCell'], by dsimp only; omega, by dsimp only; omega, by simp⟩, ?_, fun z hz => ⟨⟨rfl, rfl⟩, ⟨by omega, by omega⟩, ⟨j + 1, z⟩, ⟨by dsimp only; omega, ?_⟩, ⟨rfl, rfl, rfl, rfl, trivial⟩, Ent.pick [0, 1, 2] rfl rfl, by dsimp only; omega⟩⟩⟩
      · intro ad e
        cases e
        exact Seg.rest (j := 5020) (by simp) (Seg.cells fun j u h => by rw [Nat.zero_add]; exact h)
      · dsimp only
        rw [e2, ints_append]
        exact hz.1
    · have hm' : memB (addV out (xs.take j)) u = true := by simpa using hm
      have e2 : addV out (xs.take (j + 1)) = addV out (xs.take j) := by rw [hst]; unfold add1; rw [hm']; rfl
      exact ⟨⟨by omega, by omega⟩, ⟨j + 1, r1⟩, ⟨by dsimp only; omega, by dsimp only; rw [e2]; exact hrow1⟩, ⟨rfl, rfl, rfl, rfl, trivial⟩, Ent.pick [0, 1, 2] rfl rfl, by dsimp only; omega⟩
  · have ej : j = xs.length := by omega
    rw [ej, List.take_of_length_le (Nat.le_refl _)] at hrow1
    exact hrow1
set_option maxRecDepth 100000 in
theorem add_ok : FnOk Try.prog 111 addC :=
  fnOk (N := 20) (by kernel_rfl) Try.func111 rfl (by kernel_rfl) (fun _ => Nat.le_of_ble_eq_true rfl) add_H [] fun x F hc hr => Eq.mpr (by kernel_rfl) (add_vc x F hc hr)
end Go.Proofs.Ytkmdgnbfojkcnaa
namespace Go.Proofs.Ytkmdgnbfojkcnaa
open Go
theorem stsB_get (c : ChD) : ∀ (l : List StD) (i k : Nat) (s : StD), stsB c i l = true → l[k]? = some s → initB c (i + k : Nat) s = true
  | [], _, _, _, _, h => by simp at h
  | x :: l, i, 0, s, h1, h2 => by
    rw [stsB, Bool.and_eq_true] at h1
    simp at h2
    rw [← h2]; exact h1.1
  | x :: l, i, k + 1, s, h1, h2 => by
    rw [stsB, Bool.and_eq_true, Bool.and_eq_true] at h1
    have := stsB_get c l (i + 1) k s h1.2.2 (by simpa using h2)
    rw [show i + (k + 1) = i + 1 + k by omega]
    exact this
theorem aimT_all (c : ChD) : ∀ (l dn : List Int), aimT c dn l = true → ∀ a ∈ l, isS c a = true
  | [], _, _, a, h => by simp at h
  | x :: l, dn, h, a, ha => by
    rw [aimT] at h
    cases hx : isS c x with
    | false => rw [hx] at h; simp at h
    | true =>
      rw [hx] at h
      cases h0 : (x == 0) with
      | true => rw [h0] at h; simp at h
      | false =>
        rw [h0] at h
        simp only [Bool.not_true, cond_false, Bool.and_eq_true] at h
        rcases List.mem_cons.1 ha with rfl | ha
        · exact hx
        · exact aimT_all c l _ h.2 a ha
theorem right_trans {c : ChD} (h : newB c = true) : (∀ t ∈ c.trs, aimB c t = true) ∧ stsB c 0 c.sts = true := by
  have h3 := (newB_spec.1 h).2.2
  unfold transB at h3
  rw [Bool.and_eq_true, List.all_eq_true] at h3
  exact h3
theorem right_tgt {c : ChD} (h : newB c = true) : TgtOk c := fun i t ht a ha => by
  have h1 := (right_trans h).1 t (List.mem_of_getElem? ht)
  unfold aimB at h1
  rw [Bool.and_eq_true] at h1
  exact aimT_all c _ _ h1.2 a ha
theorem right_src {c : ChD} (h : newB c = true) {i : Nat} {t : TrD} (ht : c.trs[i]? = some t) : isS c t.source = true := by
  have h1 := (right_trans h).1 t (List.mem_of_getElem? ht)
  unfold aimB at h1
  rw [Bool.and_eq_true] at h1
  exact h1.1
theorem right_init {c : ChD} (h : newB c = true) {i : Nat} {s : StD} (hs : c.sts[i]? = some s) (hk : s.kind ≥ 4) : ∃ t, 0 ≤ s.init ∧ c.trs[s.init.toNat]? = some t := by
  have h1 := stsB_get c c.sts 0 i s (right_trans h).2 hs
  unfold initB at h1
  rw [decide_eq_true hk] at h1
  simp only [Bool.not_true, Bool.false_and, cond_false] at h1
  by_cases h0 : s.init < 0
  · rw [decide_eq_true h0] at h1; simp at h1
  · rw [decide_eq_false h0] at h1
    cases ht : c.trs[s.init.toNat]? with
    | none => rw [ht] at h1; simp at h1
    | some t => exact ⟨t, by omega, rfl⟩
end Go.Proofs.Ytkmdgnbfojkcnaa
