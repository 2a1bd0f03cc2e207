/- The reference's SameInts at two readings of one list. The sets laws' small chart, and their first question. -/
import Derived.Test.YtkmdgnbfojkcnaaSetE
set_option linter.all false
namespace Go.Proofs.Ytkmdgnbfojkcnaa
open Go
set_option maxHeartbeats 1000000
theorem br_no {t : Bool} {A B : Prop} (h : t = false) (b : B) : Br t A B := br_intro (fun e => by rw [h] at e; cases e) (fun _ => b)
theorem int_get {F : Atom} {a : Option Addr} {n cap : Nat} {xs : List Int} (h : IntsIn F (.slice a n cap) xs) {i : Nat} {u : Int} (hu : xs[i]? = some u) : ∃ b o, a = some ⟨b, o, none⟩ ∧ Look F ⟨b, o + (i : Int).toNat * 1, none⟩ (.int .i64 u) := by
  obtain ⟨h1, h2, -, -, h5⟩ := IntsIn.srcd h
  have hi := (List.getElem?_eq_some_iff.1 hu).1
  obtain ⟨b, o, rfl⟩ := h1.some (by omega)
  refine ⟨b, o, rfl, ?_⟩
  have : o + (i : Int).toNat * 1 = o + i := by omega
  rw [this]
  exact h2.look (ints_get hu)
structure SiX where
  s1 : Sl
  s2 : Sl
  xs : List Int
def siC : Con where
  X := SiX
  Y := Unit
  args x := [.slice x.s1.a x.s1.n x.s1.cap, .slice x.s2.a x.s2.n x.s2.cap]
  pre _ := []
  cond _ := True
  rdc x F := IntsIn F (.slice x.s1.a x.s1.n x.s1.cap) x.xs ∧ IntsIn F (.slice x.s2.a x.s2.n x.s2.cap) x.xs
  rel _ _ := True
  val _ _ := .returned (.bool true)
  post _ _ := []
  rmono _ _ _ h hk := ⟨hk.1.sub h, hk.2.sub h⟩
def siInv (x : SiX) (F : Atom) : Nat → Option Inv := fun
  | 0 => some { X := Nat, P := fun k => k ≤ x.xs.length, mu := fun k => x.xs.length - k, lv := fun k => [(0, .slice x.s1.a x.s1.n x.s1.cap), (1, .slice x.s2.a x.s2.n x.s2.cap), (5, .int .i64 k)], st := fun _ => [F] }
  | _ => none
def siOv (_x : SiX) (_F : Atom) : List (Nat × Nat × OH) := [(6, 2, .qo (ixQ 1)), (6, 3, .q [.ex 0 (.int .i64)]), (6, 6, .qo (ixQ 1)), (6, 7, .q [.ex 0 (.int .i64)])]
noncomputable def si_H (x : Con.X siC) (F : Atom) : Hints where
  op := hk ((siOv x F) ++ [])
  inv := siInv x F
  cut := (fun _ _ _ => none) x F
  ord := (fun _ => [])
open Go.Value (int slice string bool pointer agg tuple func) in
open Go.IntKind (i64) in
set_option maxRecDepth 100000 in
theorem si_vc (x : SiX) (F : Atom) (hc : Con.cond siC x) (hr : Con.rdc siC x F) :
  Br ((↑x.s1.n : Int) != (↑x.s2.n : Int)) (Done siC x F (Ending.returned (bool false)) [(0, F)])
 ((∃ (x_1 : Nat), x_1 ≤ x.xs.length ∧ (slice x.s1.a x.s1.n x.s1.cap = slice x.s1.a x.s1.n x.s1.cap ∧ slice x.s2.a x.s2.n x.s2.cap = slice x.s2.a x.s2.n x.s2.cap ∧ int i64 (0 : Int) = int i64 (↑x_1 : Int) ∧ True) ∧ Ent [(0, F)] [(0, F)]) ∧
 ∀ (x_1 : Nat) (js : Nat → Value),
 x_1 ≤ x.xs.length →
 Br (decide ((↑x_1 : Int) < (↑x.s1.n : Int)))
 (true = true ∧
 QOpOk Try.prog (opIn Try.f30 6 2) (ixQ 1) ∧
 ∃ (x_2 : IxQX),
 [slice x.s1.a x.s1.n x.s1.cap, int i64 (↑x_1 : Int)] = [slice (some ⟨x_2.b, x_2.o, none⟩) x_2.len x_2.cap, int i64 x_2.n] ∧
 ((0 : Int) ≤ x_2.n ∧ x_2.n < (↑x_2.len : Int)) ∧
 ∃ (n : Int),
 Look F ⟨x_2.b, x_2.o + x_2.n.toNat * 1, none⟩ (int i64 n) ∧
 QOpOk Try.prog (opIn Try.f30 6 6) (ixQ 1) ∧ ∃ (x_3 : IxQX), [slice x.s2.a x.s2.n x.s2.cap, int i64 (↑x_1 : Int)] = [slice (some ⟨x_3.b, x_3.o, none⟩) x_3.len x_3.cap, int i64 x_3.n] ∧ ((0 : Int) ≤ x_3.n ∧ x_3.n < (↑x_3.len : Int)) ∧ ∃ (n_1 : Int), Look F ⟨x_3.b, x_3.o + x_3.n.toNat * 1, none⟩ (int i64 n_1) ∧ Br (n != n_1) (Done siC x F (Ending.returned (bool false)) [(0, F)]) (((-9223372036854775808 : Int) ≤ (↑x_1 : Int) + (1 : Int) ∧ (↑x_1 : Int) + (1 : Int) ≤ (9223372036854775807 : Int)) ∧ ∃ (y : Nat), y ≤ x.xs.length ∧ (slice x.s1.a x.s1.n x.s1.cap = slice x.s1.a x.s1.n x.s1.cap ∧ slice x.s2.a x.s2.n x.s2.cap = slice x.s2.a x.s2.n x.s2.cap ∧ int i64 ((↑x_1 : Int) + (1 : Int)) = int i64 (↑y : Int) ∧ True) ∧ Ent [(0, F)] [(0, F)] ∧ x.xs.length - y < x.xs.length - x_1))
 (Done siC x F (Ending.returned (bool true)) [(0, F)])) := by
  obtain ⟨⟨a1, n1, c1⟩, ⟨a2, n2, c2⟩, xs⟩ := x
  obtain ⟨h1, h2⟩ := hr
  dsimp only at h1 h2
  obtain ⟨e1, -, l1⟩ := SlIn.num h1
  obtain ⟨e2, -, l2⟩ := SlIn.num h2
  refine br_no (by simp; omega) ⟨⟨0, Nat.zero_le _, ⟨rfl, rfl, rfl, trivial⟩, Ent.pick [0] rfl rfl⟩, ?_⟩
  rintro k js hk
  dsimp only at hk ⊢
  refine br_decide (fun hlt => ?_) (fun hge => ⟨(), trivial, rfl, Ent.pick [0] rfl rfl⟩)
  obtain ⟨u, hu⟩ : ∃ u, xs[k]? = some u := ⟨_, List.getElem?_eq_getElem (by omega)⟩
  obtain ⟨b1, o1, rfl, k1⟩ := int_get h1 hu
  obtain ⟨b2, o2, rfl, k2⟩ := int_get h2 hu
  exact ⟨rfl, ixq_ok 1 rfl rfl rfl rfl, ⟨b1, o1, n1, c1, k⟩, rfl, by dsimp only; omega, u, k1, ixq_ok 1 rfl rfl rfl rfl, ⟨b2, o2, n2, c2, k⟩, rfl, by dsimp only; omega, u, k2, br_no (by simp) ⟨by omega, k + 1, by omega, ⟨rfl, rfl, rfl, trivial⟩, Ent.pick [0] rfl rfl, by omega⟩⟩
set_option maxRecDepth 100000 in
theorem si_ok : FnOk Try.prog 30 siC :=
  fnOk (N := 26) (by kernel_rfl) Try.func30 rfl (by kernel_rfl) (fun _ => Nat.le_of_ble_eq_true rfl) si_H [] fun x F hc hr => Eq.mpr (by kernel_rfl) (si_vc x F hc hr)
end Go.Proofs.Ytkmdgnbfojkcnaa
namespace Go.Proofs.Ytkmdgnbfojkcnaa
open Go
def sm14 : ChD := ⟨.empty, false, -1, [⟨.empty, 0, -1, [1, 4], 0, [], [], [], [], [], ld0⟩, ⟨.empty, 2, 0, [2, 3], -1, [], [], [], [], [], ld0⟩, ⟨.empty, 1, 1, [], -1, [], [], [], [], [], ld0⟩, ⟨.empty, 1, 1, [], -1, [], [], [], [], [], ld0⟩, ⟨.empty, 1, 0, [], -1, [], [], [1], [], [], ld0⟩], [⟨0, [], .empty, [1], false, -1⟩, ⟨4, [], .empty, [2], false, -1⟩], [], [], []⟩
theorem sm14_new : newB sm14 = true := by kernel_rfl
def sm14Ov (_x : Unit) (_F : Atom) : List (Nat × Nat × OH) := [(0, 0, .n 1000), (1, 0, .n 2000), (1, 2, .n 2020), (1, 6, .n 2060), (1, 8, .n 2080), (2, 1, .n 3010), (2, 3, .n 3030), (2, 5, .n 3050), (2, 7, .w (at8 1000))]
noncomputable def sm14_H (x : Con.X (smallC sm14)) (F : Atom) : Hints where
  op := hk ((sm14Ov x F) ++ [])
  inv := (fun _ _ _ => none) x F
  cut := (fun _ _ _ => none) x F
  ord := (fun _ => [])
open Go.Value (int slice string bool pointer agg tuple func) in
open Go.IntKind (i64) in
set_option maxRecDepth 100000 in
theorem sm14_vc (x : PUnit) (F : Atom) (hc : Con.cond (smallC sm14) x) (hr : Con.rdc (smallC sm14) x F) :
  ∀ (b b_1 b_2 b_3 b_4 b_5 b_6 b_7 : Nat),
 Same ⟨b, 0, none⟩ b ∧
 Same ⟨b, 1, none⟩ b ∧
 Same ⟨b, 2, none⟩ b ∧
 Same ⟨b, 3, none⟩ b ∧
 Same ⟨b, 4, none⟩ b ∧
 Same ⟨b, 5, none⟩ b ∧
 Same ⟨b, 6, none⟩ b ∧
 Same ⟨b, 7, none⟩ b ∧
 Same ⟨b, 0, none⟩ b ∧
 Same ⟨b, 1, none⟩ b ∧
 Same ⟨b, 2, none⟩ b ∧
 Same ⟨b, 3, none⟩ b ∧
 Same ⟨b, 4, none⟩ b ∧
 Same ⟨b, 5, none⟩ b ∧
 Same ⟨b, 6, none⟩ b ∧
 Same ⟨b, 7, none⟩ b ∧
 Done (smallC sm14) x F (Ending.returned (agg { toList := [string (ByteArray.mk #[]), bool false, int i64 (-1 : Int), slice (some ⟨b_4, 0, none⟩) 5 5, slice (some ⟨b_7, 0, none⟩) 2 2, slice none 0 0, slice none 0 0, slice none 0 0] }))
 [(0, F), (1000, Atom.cells b [string (ByteArray.mk #[]), bool false, int i64 (-1 : Int), slice (some ⟨b_4, 0, none⟩) 5 5, slice (some ⟨b_7, 0, none⟩) 2 2, slice none 0 0, slice none 0 0, slice none 0 0] 28), (2000, Atom.cells b_1 [int i64 (1 : Int), int i64 (4 : Int)] 3), (2020, Atom.cells b_2 [int i64 (2 : Int), int i64 (3 : Int)] 3), (2060, Atom.cells b_3 [int i64 (1 : Int)] 3),
 (2080,
 Atom.cells b_4
 [string (ByteArray.mk #[]), int i64 (0 : Int), int i64 (-1 : Int), slice (some ⟨b_1, 0, none⟩) 2 2, int i64 (0 : Int), slice none 0 0, slice none 0 0, slice none 0 0, slice none 0 0, slice none 0 0, int i64 (0 : Int), slice none 0 0, string (ByteArray.mk #[]), string (ByteArray.mk #[]), int i64 (2 : Int), int i64 (0 : Int), slice (some ⟨b_2, 0, none⟩) 2 2, int i64 (-1 : Int), slice none 0 0, slice none 0 0, slice none 0 0, slice none 0 0, slice none 0 0, int i64 (0 : Int),
 slice none 0 0, string (ByteArray.mk #[]), string (ByteArray.mk #[]), int i64 (1 : Int), int i64 (1 : Int), slice none 0 0, int i64 (-1 : Int), slice none 0 0, slice none 0 0, slice none 0 0, slice none 0 0, slice none 0 0, int i64 (0 : Int), slice none 0 0, string (ByteArray.mk #[]), string (ByteArray.mk #[]), int i64 (1 : Int), int i64 (1 : Int), slice none 0 0, int i64 (-1 : Int), slice none 0 0, slice none 0 0, slice none 0 0, slice none 0 0, slice none 0 0, int i64 (0 : Int), slice none 0 0,
 string (ByteArray.mk #[]), string (ByteArray.mk #[]), int i64 (1 : Int), int i64 (0 : Int), slice none 0 0, int i64 (-1 : Int), slice none 0 0, slice none 0 0, slice (some ⟨b_3, 0, none⟩) 1 1, slice none 0 0, slice none 0 0, int i64 (0 : Int), slice none 0 0, string (ByteArray.mk #[])]
 61),
 (3010, Atom.cells b_5 [int i64 (1 : Int)] 3), (3030, Atom.cells b_6 [int i64 (2 : Int)] 3), (3050, Atom.cells b_7 [int i64 (0 : Int), slice none 0 0, string (ByteArray.mk #[]), slice (some ⟨b_5, 0, none⟩) 1 1, bool false, int i64 (-1 : Int), int i64 (4 : Int), slice none 0 0, string (ByteArray.mk #[]), slice (some ⟨b_6, 0, none⟩) 1 1, bool false, int i64 (-1 : Int)] 76)] := by
  intro b b1 b2 b3 b4 b5 b6 b7
  iterate 16 refine ⟨⟨rfl, rfl⟩, ?_⟩
  have i0 : ∀ G, IntsIn G (.slice none 0 0) [] := fun G => SlIn.nil G IntIn 1 8
  have s0 : ∀ G, StrsIn G (.slice none 0 0) [] := fun G => SlIn.nil G StrIn 1 16
  have p0 : ∀ G, ParsIn G (.slice none 0 0) [] := fun G => SlIn.nil G ParIn 2 32
  let rs : List (List Value) := [[.string .empty, .int .i64 0, .int .i64 (-1), .slice (some ⟨b1, 0, none⟩) 2 2, .int .i64 0, .slice none 0 0, .slice none 0 0, .slice none 0 0, .slice none 0 0, .slice none 0 0, .int .i64 0, .slice none 0 0, .string .empty],
    [.string .empty, .int .i64 2, .int .i64 0, .slice (some ⟨b2, 0, none⟩) 2 2, .int .i64 (-1), .slice none 0 0, .slice none 0 0, .slice none 0 0, .slice none 0 0, .slice none 0 0, .int .i64 0, .slice none 0 0, .string .empty],
    [.string .empty, .int .i64 1, .int .i64 1, .slice none 0 0, .int .i64 (-1), .slice none 0 0, .slice none 0 0, .slice none 0 0, .slice none 0 0, .slice none 0 0, .int .i64 0, .slice none 0 0, .string .empty],
    [.string .empty, .int .i64 1, .int .i64 1, .slice none 0 0, .int .i64 (-1), .slice none 0 0, .slice none 0 0, .slice none 0 0, .slice none 0 0, .slice none 0 0, .int .i64 0, .slice none 0 0, .string .empty],
    [.string .empty, .int .i64 1, .int .i64 0, .slice none 0 0, .int .i64 (-1), .slice none 0 0, .slice none 0 0, .slice (some ⟨b3, 0, none⟩) 1 1, .slice none 0 0, .slice none 0 0, .int .i64 0, .slice none 0 0, .string .empty]]
  let rt : List (List Value) := [[.int .i64 0, .slice none 0 0, .string .empty, .slice (some ⟨b5, 0, none⟩) 1 1, .bool false, .int .i64 (-1)], [.int .i64 4, .slice none 0 0, .string .empty, .slice (some ⟨b6, 0, none⟩) 1 1, .bool false, .int .i64 (-1)]]
  let G : Atom := bagA [.cells b1 [.int .i64 1, .int .i64 4] 3, .cells b2 [.int .i64 2, .int .i64 3] 3, .cells b3 [.int .i64 1] 3, .cells b4 rs.flatten 61, .cells b5 [.int .i64 1] 3, .cells b6 [.int .i64 2] 3, .cells b7 rt.flatten 76]
  have g1 : IntsIn G (.slice (some ⟨b1, 0, none⟩) 2 2) [1, 4] := lit_in (raw := [[.int .i64 1], [.int .i64 4]]) (by simp) (sub_bag 0 rfl) (Nat.le_of_ble_eq_true rfl) ⟨rfl, rfl, trivial⟩
  have g2 : IntsIn G (.slice (some ⟨b2, 0, none⟩) 2 2) [2, 3] := lit_in (raw := [[.int .i64 2], [.int .i64 3]]) (by simp) (sub_bag 1 rfl) (Nat.le_of_ble_eq_true rfl) ⟨rfl, rfl, trivial⟩
  have g3 : IntsIn G (.slice (some ⟨b3, 0, none⟩) 1 1) [1] := lit_in (raw := [[.int .i64 1]]) (by simp) (sub_bag 2 rfl) (Nat.le_of_ble_eq_true rfl) ⟨rfl, trivial⟩
  have g5 : IntsIn G (.slice (some ⟨b5, 0, none⟩) 1 1) [1] := lit_in (raw := [[.int .i64 1]]) (by simp) (sub_bag 4 rfl) (Nat.le_of_ble_eq_true rfl) ⟨rfl, trivial⟩
  have g6 : IntsIn G (.slice (some ⟨b6, 0, none⟩) 1 1) [2] := lit_in (raw := [[.int .i64 2]]) (by simp) (sub_bag 5 rfl) (Nat.le_of_ble_eq_true rfl) ⟨rfl, trivial⟩
  have hst : SlIn G (StIn G) 13 232 (.slice (some ⟨b4, 0, none⟩) 5 5) sm14.sts := by
    refine lit_in (raw := rs) (by simp [rs]) (sub_bag 3 rfl) (Nat.le_of_ble_eq_true rfl) ⟨?_, ?_, ?_, ?_, ?_, trivial⟩
    · exact ⟨_, _, _, _, _, _, _, rfl, g1, i0 G, i0 G, i0 G, i0 G, i0 G, p0 G⟩
    · exact ⟨_, _, _, _, _, _, _, rfl, g2, i0 G, i0 G, i0 G, i0 G, i0 G, p0 G⟩
    · exact ⟨_, _, _, _, _, _, _, rfl, i0 G, i0 G, i0 G, i0 G, i0 G, i0 G, p0 G⟩
    · exact ⟨_, _, _, _, _, _, _, rfl, i0 G, i0 G, i0 G, i0 G, i0 G, i0 G, p0 G⟩
    · exact ⟨_, _, _, _, _, _, _, rfl, i0 G, i0 G, i0 G, g3, i0 G, i0 G, p0 G⟩
  have htr : SlIn G (TrIn G) 6 88 (.slice (some ⟨b7, 0, none⟩) 2 2) sm14.trs :=
    lit_in (raw := rt) (by simp [rt]) (sub_bag 6 rfl) (Nat.le_of_ble_eq_true rfl) ⟨⟨_, _, rfl, s0 G, g5⟩, ⟨_, _, rfl, s0 G, g6⟩, trivial⟩
  exact ⟨⟨G, ⟨⟨some ⟨b4, 0, none⟩, 5, 5⟩, ⟨some ⟨b7, 0, none⟩, 2, 2⟩, sl0, sl0, sl0⟩⟩, ⟨hst, htr, SlIn.nil _ _ _ _, SlIn.nil _ _ _ _, SlIn.nil _ _ _ _⟩, rfl, (Ent.bag (S' := ofL [F, G]) [0] [2000, 2020, 2060, 2080, 3010, 3030, 3050] rfl rfl).trans (Ent.pick [1, 0] rfl rfl)⟩
set_option maxRecDepth 100000 in
theorem sm14_ok : FnOk Try.prog 86 (smallC sm14) :=
  fnOk (N := 18) (by kernel_rfl) Try.func86 rfl (by kernel_rfl) (fun _ => Nat.le_of_ble_eq_true rfl) sm14_H (at8 1000) fun x F hc hr => Eq.mpr (by kernel_rfl) (sm14_vc x F hc hr)
theorem sm14_dom : domP sm14 [] 1 = (0, true) := by kernel_rfl
theorem sm14_goals : goalsV sm14 [] 1 = [2] := by kernel_rfl
theorem sm14_exit : exV sm14 [] [4] [1] = [4] := by kernel_rfl
theorem sm14_ent : entV sm14 [] [1] = [2, 1, 3] := by kernel_rfl
theorem sm14_sort : sortI [2, 1, 3] = [1, 2, 3] := by
  unfold sortI
  simp [List.mergeSort, List.MergeSort.Internal.splitInTwo, List.merge, leI]
theorem sm14_kd : ∀ i : Nat, i < nS sm14 → kd sm14 i < 4 := by
  have h : ((List.range (nS sm14)).all fun i => decide (kd sm14 i < 4)) = true := by kernel_rfl
  intro i hi
  exact of_decide_eq_true (List.all_eq_true.1 h i (List.mem_range.2 hi))
theorem sm14_flat : Flat sm14 := by
  have h : ((List.range (nS sm14)).all fun s => bif kd sm14 s == 2 then (kidsP sm14 s).all fun k => atB sm14 k && !(kd sm14 k.toNat == 2) else true) = true := by kernel_rfl
  intro s hs hk k hkk
  have := List.all_eq_true.1 h s (List.mem_range.2 hs)
  rw [hk] at this
  have := List.all_eq_true.1 this k hkk
  simpa using this
theorem lit1_in {S : St} {touch : List Nat} (j : Nat) (hj : j ∉ touch) {b : Nat} {x : Int} {t : TypeId} (e : gt S j = .cells b [.int .i64 x] t) : IntsIn (.pred (rest S touch)) (.slice (some ⟨b, 0, none⟩) 1 1) [x] := lit_in (raw := [[.int .i64 x]]) (by simp) (sub_rest j hj e) (Nat.le_of_ble_eq_true rfl) ⟨rfl, trivial⟩
def aw14Ov (_x : Unit) (_F : Atom) : List (Nat × Nat × OH) := [(1, 0, .c (smallC sm14) [] [2000]), (1, 1, .c newYC [] [2010]), (4, 1, .n 5010), (4, 2, .c entC [] [5020]), (4, 3, .n 5030), (4, 4, .w (at4 5030)), (5, 1, .c domC [] []), (6, 1, .n 7010), (6, 2, .n 7020), (6, 3, .c recC [] []), (7, 12, .q [.atj 5030]), (7, 13, .n 8130), (7, 14, .c siC [] []), (7, 18, .n 8180), (7, 19, .n 8190), (7, 20, .c exC [] [8200]), (7, 21, .n 8210), (7, 22, .c siC [] []), (7, 26, .c gosC [] [8260]), (7, 27, .n 8270), (7, 28, .c siC [] [])]
noncomputable def aw14_H (x : Con.X awC) (F : Atom) : Hints where
  op := hk ((aw14Ov x F) ++ [])
  inv := (fun _ _ _ => none) x F
  cut := (fun _ _ _ => none) x F
  ord := (fun _ => [])
open Go.Value (int slice string bool pointer agg tuple func) in
open Go.IntKind (i64) in
set_option maxRecDepth 100000 in
theorem aw14_vc (x : PUnit) (F : Atom) (hc : Con.cond awC x) (hr : Con.rdc awC x F) :
  FnOk Try.prog 86 (smallC sm14) ∧
 true = true ∧
 ∃ (x_1 : Unit),
 ([] : List Value) = [] ∧
 ([] : List Atom) = [] ∧
 True ∧
 True ∧
 ∀ (y : ClnCY),
 ChIn y.G y.w.v sm14 →
 FnOk Try.prog 14 newYC ∧
 true = true ∧
 ∃ (x_2 : ClnCX),
 [agg { toList := [string sm14.name, bool sm14.late, int i64 sm14.script, slice y.w.vs.a y.w.vs.n y.w.vs.cap, slice y.w.vt.a y.w.vt.n y.w.vt.cap, slice y.w.vb.a y.w.vb.n y.w.vb.cap, slice y.w.vd.a y.w.vd.n y.w.vd.cap, slice y.w.vi.a y.w.vi.n y.w.vi.cap] }] = [agg { toList := (chS x_2.c x_2.w) }] ∧
 ([] : List Atom) = [] ∧
 newB x_2.c = true ∧
 ChIn (Atom.pred (rest [(0, F), (2000, y.G)] [])) x_2.w.v x_2.c ∧
 ∀ (y_1 : NewY),
 LatIn y_1.G y_1.b x_2.c →
 ∀ (b : Nat),
 FnOk Try.prog 48 entC ∧
 true = true ∧
 ∃ (x_3 : EtX),
 [pointer (some ⟨y_1.b, 0, none⟩), slice none 0 0, slice (some ⟨b, 0, none⟩) 1 1] = [pointer (some ⟨x_3.b, 0, none⟩), slice x_3.m.a x_3.m.n x_3.m.cap, slice x_3.s.a x_3.s.n x_3.s.cap] ∧
 ([] : List Atom) = [] ∧
 (newB x_3.c = true ∧ (IsSrc 1 (ints x_3.ts) x_3.s.a x_3.s.n ∧ x_3.s.n * 8 ≤ 140737488351232) ∧ ∀ (t : Int), t ∈ x_3.ts → (domP x_3.c x_3.mem t).snd = true → Flat x_3.c ∧ ∀ (u : Int), u ∈ tgts x_3.c t → atB x_3.c u = true ∧ kd x_3.c u.toNat ≠ (2 : Int)) ∧
 (LatIn (Atom.pred (rest [(0, F), (2000, y.G), (2010, y_1.G), (5010, Atom.cells b [int i64 (1 : Int)] 3)] [])) x_3.b x_3.c ∧ MemIn (Atom.pred (rest [(0, F), (2000, y.G), (2010, y_1.G), (5010, Atom.cells b [int i64 (1 : Int)] 3)] [])) (slice x_3.m.a x_3.m.n x_3.m.cap) x_3.mem ∧ Srcd (Atom.pred (rest [(0, F), (2000, y.G), (2010, y_1.G), (5010, Atom.cells b [int i64 (1 : Int)] 3)] [])) x_3.s.a (ints x_3.ts)) ∧
 ∀ (y_2 : Row × Row × Row),
 IsRow 3 1 (ints (sortI (entV x_3.c x_3.mem x_3.ts))) y_2.fst ∧ y_2.fst.n = (entV x_3.c x_3.mem x_3.ts).length ∧ y_2.snd.fst.n = 0 ∧ y_2.snd.snd.n = 0 →
 ∀ (b_1 : Nat),
 Same ⟨b_1, 0, none⟩ b_1 ∧
 Same ⟨b_1, 1, none⟩ b_1 ∧
 Same ⟨b_1, 2, none⟩ b_1 ∧
 Same ⟨b_1, 3, none⟩ b_1 ∧
 FnOk Try.prog 47 domC ∧
 true = true ∧
 ∃ (x_4 : RmX),
 [pointer (some ⟨y_1.b, 0, none⟩), slice none 0 0, int i64 (1 : Int)] = [pointer (some ⟨x_4.b, 0, none⟩), slice x_4.m.a x_4.m.n x_4.m.cap, int i64 x_4.h] ∧
 ([] : List Atom) = [] ∧
 newB x_4.c = true ∧
 (LatIn (Atom.pred (rest [(0, F), (2000, y.G), (2010, y_1.G), (5010, Atom.cells b [int i64 (1 : Int)] 3), (5020, y_2.fst.A), (5030, Atom.cells b_1 [slice y_2.fst.a y_2.fst.n y_2.fst.cap, slice y_2.snd.fst.a y_2.snd.fst.n y_2.snd.fst.cap, slice y_2.snd.snd.a y_2.snd.snd.n y_2.snd.snd.cap, slice none 0 0] 83)] [])) x_4.b x_4.c ∧
 MemIn (Atom.pred (rest [(0, F), (2000, y.G), (2010, y_1.G), (5010, Atom.cells b [int i64 (1 : Int)] 3), (5020, y_2.fst.A), (5030, Atom.cells b_1 [slice y_2.fst.a y_2.fst.n y_2.fst.cap, slice y_2.snd.fst.a y_2.snd.fst.n y_2.snd.fst.cap, slice y_2.snd.snd.a y_2.snd.snd.n y_2.snd.snd.cap, slice none 0 0] 83)] [])) (slice x_4.m.a x_4.m.n x_4.m.cap) x_4.mem) ∧
 ∀ (y_3 : Unit),
 True →
 ∀ (b_2 b_3 : Nat),
 FnOk Try.prog 87 recC ∧
 true = true ∧
 ∃ (x_5 : RcX),
 [pointer (some ⟨y_1.b, 0, none⟩), slice (some ⟨b_2, 0, none⟩) 1 1, slice (some ⟨b_3, 0, none⟩) 1 1, slice none 0 0] = [pointer (some ⟨x_5.b, 0, none⟩), slice x_5.g.a x_5.g.n x_5.g.cap, slice x_5.h.a x_5.h.n x_5.h.cap, slice none 0 0] ∧
 ([] : List Atom) = [] ∧
 (∀ (i : Nat), i < nS x_5.c → kd x_5.c i < (4 : Int)) ∧
 LatIn (Atom.pred (rest [(0, F), (2000, y.G), (2010, y_1.G), (5010, Atom.cells b [int i64 (1 : Int)] 3), (5020, y_2.fst.A), (5030, Atom.cells b_1 [slice y_2.fst.a y_2.fst.n y_2.fst.cap, slice y_2.snd.fst.a y_2.snd.fst.n y_2.snd.fst.cap, slice y_2.snd.snd.a y_2.snd.snd.n y_2.snd.snd.cap, slice none 0 0] 83), (7010, Atom.cells b_2 [int i64 (4 : Int)] 3), (7020, Atom.cells b_3 [int i64 (4 : Int)] 3)] [])) x_5.b x_5.c ∧
 ∀ (y_4 : Option Addr × Nat),
 True →
 Br (domP x_4.c x_4.mem x_4.h).snd
 (Br ((domP x_4.c x_4.mem x_4.h).fst == (0 : Int))
 (Br ((↑(nS x_5.c) : Int) == (5 : Int))
 (Same ⟨b_1, 0, none⟩ b_1 ∧
 ∀ (b_4 : Nat),
 FnOk Try.prog 30 siC ∧
 true = true ∧
 ∃ (x_6 : SiX),
 [slice y_2.fst.a y_2.fst.n y_2.fst.cap, slice (some ⟨b_4, 0, none⟩) 3 3] = [slice x_6.s1.a x_6.s1.n x_6.s1.cap, slice x_6.s2.a x_6.s2.n x_6.s2.cap] ∧
 ([] : List Atom) = [] ∧
 True ∧
 (IntsIn (Atom.pred (rest [(0, F), (2000, y.G), (2010, y_1.G), (5010, Atom.cells b [int i64 (1 : Int)] 3), (5020, y_2.fst.A), (5030, Atom.cells b_1 [slice y_2.fst.a y_2.fst.n y_2.fst.cap, slice y_2.snd.fst.a y_2.snd.fst.n y_2.snd.fst.cap, slice y_2.snd.snd.a y_2.snd.snd.n y_2.snd.snd.cap, slice none 0 0] 83), (7010, Atom.cells b_2 [int i64 (4 : Int)] 3), (7020, Atom.cells b_3 [int i64 (4 : Int)] 3), (8130, Atom.cells b_4 [int i64 (1 : Int), int i64 (2 : Int), int i64 (3 : Int)] 3)] [])) (slice x_6.s1.a x_6.s1.n x_6.s1.cap) x_6.xs ∧
 IntsIn (Atom.pred (rest [(0, F), (2000, y.G), (2010, y_1.G), (5010, Atom.cells b [int i64 (1 : Int)] 3), (5020, y_2.fst.A), (5030, Atom.cells b_1 [slice y_2.fst.a y_2.fst.n y_2.fst.cap, slice y_2.snd.fst.a y_2.snd.fst.n y_2.snd.fst.cap, slice y_2.snd.snd.a y_2.snd.snd.n y_2.snd.snd.cap, slice none 0 0] 83), (7010, Atom.cells b_2 [int i64 (4 : Int)] 3), (7020, Atom.cells b_3 [int i64 (4 : Int)] 3), (8130, Atom.cells b_4 [int i64 (1 : Int), int i64 (2 : Int), int i64 (3 : Int)] 3)] [])) (slice x_6.s2.a x_6.s2.n x_6.s2.cap) x_6.xs) ∧
 ∀ (y_5 : Unit),
 True →
 ∀ (b_5 b_6 : Nat),
 FnOk Try.prog 49 exC ∧
 true = true ∧
 ∃ (x_7 : ExX),
 [pointer (some ⟨y_1.b, 0, none⟩), slice (some ⟨b_5, 0, none⟩) 1 1, slice none 0 0, slice (some ⟨b_6, 0, none⟩) 1 1] = [pointer (some ⟨x_7.b, 0, none⟩), slice x_7.g.a x_7.g.n x_7.g.cap, slice x_7.m.a x_7.m.n x_7.m.cap, slice x_7.s.a x_7.s.n x_7.s.cap] ∧
 ([] : List Atom) = [] ∧
 (newB x_7.c = true ∧ (IsSrc 1 (ints x_7.cf) x_7.g.a x_7.g.n ∧ x_7.g.n * 8 ≤ 140737488351232) ∧ IsSrc 1 (ints x_7.ts) x_7.s.a x_7.s.n ∧ x_7.s.n * 8 ≤ 140737488351232) ∧
 (LatIn
 (Atom.pred
 (rest
 [(0, F), (2000, y.G), (2010, y_1.G), (5010, Atom.cells b [int i64 (1 : Int)] 3), (5020, y_2.fst.A), (5030, Atom.cells b_1 [slice y_2.fst.a y_2.fst.n y_2.fst.cap, slice y_2.snd.fst.a y_2.snd.fst.n y_2.snd.fst.cap, slice y_2.snd.snd.a y_2.snd.snd.n y_2.snd.snd.cap, slice none 0 0] 83), (7010, Atom.cells b_2 [int i64 (4 : Int)] 3), (7020, Atom.cells b_3 [int i64 (4 : Int)] 3), (8130, Atom.cells b_4 [int i64 (1 : Int), int i64 (2 : Int), int i64 (3 : Int)] 3), (8180, Atom.cells b_5 [int i64 (4 : Int)] 3),
 (8190, Atom.cells b_6 [int i64 (1 : Int)] 3)]
 []))
 x_7.b x_7.c ∧
 Srcd
 (Atom.pred
 (rest
 [(0, F), (2000, y.G), (2010, y_1.G), (5010, Atom.cells b [int i64 (1 : Int)] 3), (5020, y_2.fst.A), (5030, Atom.cells b_1 [slice y_2.fst.a y_2.fst.n y_2.fst.cap, slice y_2.snd.fst.a y_2.snd.fst.n y_2.snd.fst.cap, slice y_2.snd.snd.a y_2.snd.snd.n y_2.snd.snd.cap, slice none 0 0] 83), (7010, Atom.cells b_2 [int i64 (4 : Int)] 3), (7020, Atom.cells b_3 [int i64 (4 : Int)] 3), (8130, Atom.cells b_4 [int i64 (1 : Int), int i64 (2 : Int), int i64 (3 : Int)] 3), (8180, Atom.cells b_5 [int i64 (4 : Int)] 3),
 (8190, Atom.cells b_6 [int i64 (1 : Int)] 3)]
 []))
 x_7.g.a (ints x_7.cf) ∧
 MemIn
 (Atom.pred
 (rest
 [(0, F), (2000, y.G), (2010, y_1.G), (5010, Atom.cells b [int i64 (1 : Int)] 3), (5020, y_2.fst.A), (5030, Atom.cells b_1 [slice y_2.fst.a y_2.fst.n y_2.fst.cap, slice y_2.snd.fst.a y_2.snd.fst.n y_2.snd.fst.cap, slice y_2.snd.snd.a y_2.snd.snd.n y_2.snd.snd.cap, slice none 0 0] 83), (7010, Atom.cells b_2 [int i64 (4 : Int)] 3), (7020, Atom.cells b_3 [int i64 (4 : Int)] 3), (8130, Atom.cells b_4 [int i64 (1 : Int), int i64 (2 : Int), int i64 (3 : Int)] 3), (8180, Atom.cells b_5 [int i64 (4 : Int)] 3),
 (8190, Atom.cells b_6 [int i64 (1 : Int)] 3)]
 []))
 (slice x_7.m.a x_7.m.n x_7.m.cap) x_7.mem ∧
 Srcd
 (Atom.pred
 (rest
 [(0, F), (2000, y.G), (2010, y_1.G), (5010, Atom.cells b [int i64 (1 : Int)] 3), (5020, y_2.fst.A), (5030, Atom.cells b_1 [slice y_2.fst.a y_2.fst.n y_2.fst.cap, slice y_2.snd.fst.a y_2.snd.fst.n y_2.snd.fst.cap, slice y_2.snd.snd.a y_2.snd.snd.n y_2.snd.snd.cap, slice none 0 0] 83), (7010, Atom.cells b_2 [int i64 (4 : Int)] 3), (7020, Atom.cells b_3 [int i64 (4 : Int)] 3), (8130, Atom.cells b_4 [int i64 (1 : Int), int i64 (2 : Int), int i64 (3 : Int)] 3), (8180, Atom.cells b_5 [int i64 (4 : Int)] 3),
 (8190, Atom.cells b_6 [int i64 (1 : Int)] 3)]
 []))
 x_7.s.a (ints x_7.ts)) ∧
 ∀ (y_6 : Row × List Int),
 y_6.snd.Perm (exV x_7.c x_7.mem x_7.cf x_7.ts) ∧ IsRow 3 1 (ints y_6.snd) y_6.fst →
 ∀ (b_7 : Nat),
 FnOk Try.prog 30 siC ∧
 true = true ∧
 ∃ (x_8 : SiX),
 [slice y_6.fst.a y_6.fst.n y_6.fst.cap, slice (some ⟨b_7, 0, none⟩) 1 1] = [slice x_8.s1.a x_8.s1.n x_8.s1.cap, slice x_8.s2.a x_8.s2.n x_8.s2.cap] ∧
 ([] : List Atom) = [] ∧
 True ∧
 (IntsIn
 (Atom.pred
 (rest
 [(0, F), (2000, y.G), (2010, y_1.G), (5010, Atom.cells b [int i64 (1 : Int)] 3), (5020, y_2.fst.A), (5030, Atom.cells b_1 [slice y_2.fst.a y_2.fst.n y_2.fst.cap, slice y_2.snd.fst.a y_2.snd.fst.n y_2.snd.fst.cap, slice y_2.snd.snd.a y_2.snd.snd.n y_2.snd.snd.cap, slice none 0 0] 83), (7010, Atom.cells b_2 [int i64 (4 : Int)] 3), (7020, Atom.cells b_3 [int i64 (4 : Int)] 3), (8130, Atom.cells b_4 [int i64 (1 : Int), int i64 (2 : Int), int i64 (3 : Int)] 3), (8180, Atom.cells b_5 [int i64 (4 : Int)] 3),
 (8190, Atom.cells b_6 [int i64 (1 : Int)] 3), (8200, y_6.fst.A), (8210, Atom.cells b_7 [int i64 (4 : Int)] 3)]
 []))
 (slice x_8.s1.a x_8.s1.n x_8.s1.cap) x_8.xs ∧
 IntsIn
 (Atom.pred
 (rest
 [(0, F), (2000, y.G), (2010, y_1.G), (5010, Atom.cells b [int i64 (1 : Int)] 3), (5020, y_2.fst.A), (5030, Atom.cells b_1 [slice y_2.fst.a y_2.fst.n y_2.fst.cap, slice y_2.snd.fst.a y_2.snd.fst.n y_2.snd.fst.cap, slice y_2.snd.snd.a y_2.snd.snd.n y_2.snd.snd.cap, slice none 0 0] 83), (7010, Atom.cells b_2 [int i64 (4 : Int)] 3), (7020, Atom.cells b_3 [int i64 (4 : Int)] 3), (8130, Atom.cells b_4 [int i64 (1 : Int), int i64 (2 : Int), int i64 (3 : Int)] 3), (8180, Atom.cells b_5 [int i64 (4 : Int)] 3),
 (8190, Atom.cells b_6 [int i64 (1 : Int)] 3), (8200, y_6.fst.A), (8210, Atom.cells b_7 [int i64 (4 : Int)] 3)]
 []))
 (slice x_8.s2.a x_8.s2.n x_8.s2.cap) x_8.xs) ∧
 ∀ (y_7 : Unit),
 True →
 FnOk Try.prog 88 gosC ∧
 true = true ∧
 ∃ (x_9 : RmX),
 [pointer (some ⟨y_1.b, 0, none⟩), slice none 0 0, int i64 (1 : Int)] = [pointer (some ⟨x_9.b, 0, none⟩), slice x_9.m.a x_9.m.n x_9.m.cap, int i64 x_9.h] ∧
 ([] : List Atom) = [] ∧
 newB x_9.c = true ∧
 (LatIn
 (Atom.pred
 (rest
 [(0, F), (2000, y.G), (2010, y_1.G), (5010, Atom.cells b [int i64 (1 : Int)] 3), (5020, y_2.fst.A), (5030, Atom.cells b_1 [slice y_2.fst.a y_2.fst.n y_2.fst.cap, slice y_2.snd.fst.a y_2.snd.fst.n y_2.snd.fst.cap, slice y_2.snd.snd.a y_2.snd.snd.n y_2.snd.snd.cap, slice none 0 0] 83), (7010, Atom.cells b_2 [int i64 (4 : Int)] 3), (7020, Atom.cells b_3 [int i64 (4 : Int)] 3), (8130, Atom.cells b_4 [int i64 (1 : Int), int i64 (2 : Int), int i64 (3 : Int)] 3), (8180, Atom.cells b_5 [int i64 (4 : Int)] 3),
 (8190, Atom.cells b_6 [int i64 (1 : Int)] 3), (8200, y_6.fst.A), (8210, Atom.cells b_7 [int i64 (4 : Int)] 3)]
 []))
 x_9.b x_9.c ∧
 MemIn
 (Atom.pred
 (rest
 [(0, F), (2000, y.G), (2010, y_1.G), (5010, Atom.cells b [int i64 (1 : Int)] 3), (5020, y_2.fst.A), (5030, Atom.cells b_1 [slice y_2.fst.a y_2.fst.n y_2.fst.cap, slice y_2.snd.fst.a y_2.snd.fst.n y_2.snd.fst.cap, slice y_2.snd.snd.a y_2.snd.snd.n y_2.snd.snd.cap, slice none 0 0] 83), (7010, Atom.cells b_2 [int i64 (4 : Int)] 3), (7020, Atom.cells b_3 [int i64 (4 : Int)] 3), (8130, Atom.cells b_4 [int i64 (1 : Int), int i64 (2 : Int), int i64 (3 : Int)] 3), (8180, Atom.cells b_5 [int i64 (4 : Int)] 3),
 (8190, Atom.cells b_6 [int i64 (1 : Int)] 3), (8200, y_6.fst.A), (8210, Atom.cells b_7 [int i64 (4 : Int)] 3)]
 []))
 (slice x_9.m.a x_9.m.n x_9.m.cap) x_9.mem) ∧
 ∀ (y_8 : Row),
 IsRow 3 1 (ints (goalsV x_9.c x_9.mem x_9.h)) y_8 →
 ∀ (b_8 : Nat),
 FnOk Try.prog 30 siC ∧
 true = true ∧
 ∃ (x_10 : SiX),
 [slice y_8.a y_8.n y_8.cap, slice (some ⟨b_8, 0, none⟩) 1 1] = [slice x_10.s1.a x_10.s1.n x_10.s1.cap, slice x_10.s2.a x_10.s2.n x_10.s2.cap] ∧
 ([] : List Atom) = [] ∧
 True ∧
 (IntsIn
 (Atom.pred
 (rest
 [(0, F), (2000, y.G), (2010, y_1.G), (5010, Atom.cells b [int i64 (1 : Int)] 3), (5020, y_2.fst.A), (5030, Atom.cells b_1 [slice y_2.fst.a y_2.fst.n y_2.fst.cap, slice y_2.snd.fst.a y_2.snd.fst.n y_2.snd.fst.cap, slice y_2.snd.snd.a y_2.snd.snd.n y_2.snd.snd.cap, slice none 0 0] 83), (7010, Atom.cells b_2 [int i64 (4 : Int)] 3), (7020, Atom.cells b_3 [int i64 (4 : Int)] 3), (8130, Atom.cells b_4 [int i64 (1 : Int), int i64 (2 : Int), int i64 (3 : Int)] 3), (8180, Atom.cells b_5 [int i64 (4 : Int)] 3),
 (8190, Atom.cells b_6 [int i64 (1 : Int)] 3), (8200, y_6.fst.A), (8210, Atom.cells b_7 [int i64 (4 : Int)] 3), (8260, y_8.A), (8270, Atom.cells b_8 [int i64 (2 : Int)] 3)]
 []))
 (slice x_10.s1.a x_10.s1.n x_10.s1.cap) x_10.xs ∧
 IntsIn
 (Atom.pred
 (rest
 [(0, F), (2000, y.G), (2010, y_1.G), (5010, Atom.cells b [int i64 (1 : Int)] 3), (5020, y_2.fst.A), (5030, Atom.cells b_1 [slice y_2.fst.a y_2.fst.n y_2.fst.cap, slice y_2.snd.fst.a y_2.snd.fst.n y_2.snd.fst.cap, slice y_2.snd.snd.a y_2.snd.snd.n y_2.snd.snd.cap, slice none 0 0] 83), (7010, Atom.cells b_2 [int i64 (4 : Int)] 3), (7020, Atom.cells b_3 [int i64 (4 : Int)] 3), (8130, Atom.cells b_4 [int i64 (1 : Int), int i64 (2 : Int), int i64 (3 : Int)] 3), (8180, Atom.cells b_5 [int i64 (4 : Int)] 3),
 (8190, Atom.cells b_6 [int i64 (1 : Int)] 3), (8200, y_6.fst.A), (8210, Atom.cells b_7 [int i64 (4 : Int)] 3), (8260, y_8.A), (8270, Atom.cells b_8 [int i64 (2 : Int)] 3)]
 []))
 (slice x_10.s2.a x_10.s2.n x_10.s2.cap) x_10.xs) ∧
 ∀ (y_9 : Unit),
 True →
 Done awC x F (Ending.returned (bool true))
 [(0, F), (2000, y.G), (2010, y_1.G), (5010, Atom.cells b [int i64 (1 : Int)] 3), (5020, y_2.fst.A), (5030, Atom.cells b_1 [slice y_2.fst.a y_2.fst.n y_2.fst.cap, slice y_2.snd.fst.a y_2.snd.fst.n y_2.snd.fst.cap, slice y_2.snd.snd.a y_2.snd.snd.n y_2.snd.snd.cap, slice none 0 0] 83), (7010, Atom.cells b_2 [int i64 (4 : Int)] 3), (7020, Atom.cells b_3 [int i64 (4 : Int)] 3), (8130, Atom.cells b_4 [int i64 (1 : Int), int i64 (2 : Int), int i64 (3 : Int)] 3), (8180, Atom.cells b_5 [int i64 (4 : Int)] 3),
 (8190, Atom.cells b_6 [int i64 (1 : Int)] 3), (8200, y_6.fst.A), (8210, Atom.cells b_7 [int i64 (4 : Int)] 3), (8260, y_8.A), (8270, Atom.cells b_8 [int i64 (2 : Int)] 3)])
 (Done awC x F (Ending.returned (bool false)) [(0, F), (2000, y.G), (2010, y_1.G), (5010, Atom.cells b [int i64 (1 : Int)] 3), (5020, y_2.fst.A), (5030, Atom.cells b_1 [slice y_2.fst.a y_2.fst.n y_2.fst.cap, slice y_2.snd.fst.a y_2.snd.fst.n y_2.snd.fst.cap, slice y_2.snd.snd.a y_2.snd.snd.n y_2.snd.snd.cap, slice none 0 0] 83), (7010, Atom.cells b_2 [int i64 (4 : Int)] 3), (7020, Atom.cells b_3 [int i64 (4 : Int)] 3)]))
 (Done awC x F (Ending.returned (bool false)) [(0, F), (2000, y.G), (2010, y_1.G), (5010, Atom.cells b [int i64 (1 : Int)] 3), (5020, y_2.fst.A), (5030, Atom.cells b_1 [slice y_2.fst.a y_2.fst.n y_2.fst.cap, slice y_2.snd.fst.a y_2.snd.fst.n y_2.snd.fst.cap, slice y_2.snd.snd.a y_2.snd.snd.n y_2.snd.snd.cap, slice none 0 0] 83), (7010, Atom.cells b_2 [int i64 (4 : Int)] 3), (7020, Atom.cells b_3 [int i64 (4 : Int)] 3)]))
 (Done awC x F (Ending.returned (bool false)) [(0, F), (2000, y.G), (2010, y_1.G), (5010, Atom.cells b [int i64 (1 : Int)] 3), (5020, y_2.fst.A), (5030, Atom.cells b_1 [slice y_2.fst.a y_2.fst.n y_2.fst.cap, slice y_2.snd.fst.a y_2.snd.fst.n y_2.snd.fst.cap, slice y_2.snd.snd.a y_2.snd.snd.n y_2.snd.snd.cap, slice none 0 0] 83), (7010, Atom.cells b_2 [int i64 (4 : Int)] 3), (7020, Atom.cells b_3 [int i64 (4 : Int)] 3)]) := by
  refine ⟨sm14_ok, rfl, (), rfl, rfl, trivial, trivial, fun y hy => ⟨newY_ok, rfl, ⟨sm14, y.w⟩, rfl, rfl, sm14_new, hy.sub (sub_rest 2000 (by simp) rfl), fun z hz b1 => ?_⟩⟩
  replace hz : LatIn z.G z.b sm14 := hz
  refine ⟨ent_ok, rfl, ⟨z.b, sm14, ⟨none, 0, 0⟩, [], ⟨some ⟨b1, 0, none⟩, 1, 1⟩, [1]⟩, rfl, rfl, ⟨sm14_new, ⟨.blk b1 0 1 rfl, Nat.le_of_ble_eq_true rfl⟩, fun t ht _ => ⟨sm14_flat, fun u hu => ?_⟩⟩, ⟨hz.sub (sub_rest 2010 (by simp) rfl), SlIn.nil _ _ _ _, lit_srcd 5010 (by simp) rfl⟩, fun r1 h1 b2 => ?_⟩
  · rw [List.mem_singleton.1 ht] at hu
    rw [show tgts sm14 1 = [2] from by kernel_rfl, List.mem_singleton] at hu
    rw [hu]
    exact ⟨by kernel_rfl, show kd sm14 2 ≠ 2 by decide +kernel⟩
  obtain ⟨h1, h1n, -, -⟩ := h1
  dsimp only at h1 h1n
  rw [sm14_ent] at h1 h1n
  rw [sm14_sort] at h1
  have h1l : r1.1.n * 8 ≤ 140737488351232 := by rw [h1n]; exact Nat.le_of_ble_eq_true rfl
  iterate 4 refine ⟨⟨rfl, rfl⟩, ?_⟩
  refine ⟨dom_ok, rfl, ⟨z.b, sm14, ⟨none, 0, 0⟩, [], 1⟩, rfl, rfl, sm14_new, ⟨hz.sub (sub_rest 2010 (by simp) rfl), SlIn.nil _ _ _ _⟩, fun _ _ b3 b4 => ⟨rec_ok, rfl, ⟨z.b, sm14, ⟨some ⟨b3, 0, none⟩, 1, 1⟩, ⟨some ⟨b4, 0, none⟩, 1, 1⟩⟩, rfl, rfl, sm14_kd, hz.sub (sub_rest 2010 (by simp) rfl), fun _ _ => br_t (by dsimp only; rw [sm14_dom]) (br_t (by dsimp only; rw [sm14_dom]; rfl) (br_t rfl ⟨⟨rfl, rfl⟩, fun b5 => ?_⟩))⟩⟩
  refine ⟨si_ok, rfl, ⟨⟨r1.1.a, r1.1.n, r1.1.cap⟩, ⟨some ⟨b5, 0, none⟩, 3, 3⟩, [1, 2, 3]⟩, rfl, rfl, trivial, ⟨h1.intsIn (sub_rest 5020 (by simp) rfl) h1l, lit_in (raw := [[.int .i64 1], [.int .i64 2], [.int .i64 3]]) (by simp) (sub_rest 8130 (by simp) rfl) (Nat.le_of_ble_eq_true rfl) ⟨rfl, rfl, rfl, trivial⟩⟩, fun _ _ b6 b7 => ?_⟩
  refine ⟨ext_ok, rfl, ⟨z.b, sm14, ⟨some ⟨b6, 0, none⟩, 1, 1⟩, [4], ⟨none, 0, 0⟩, [], ⟨some ⟨b7, 0, none⟩, 1, 1⟩, [1]⟩, rfl, rfl, ⟨sm14_new, ⟨.blk b6 0 1 rfl, Nat.le_of_ble_eq_true rfl⟩, .blk b7 0 1 rfl, Nat.le_of_ble_eq_true rfl⟩, ⟨hz.sub (sub_rest 2010 (by simp) rfl), lit_srcd 8180 (by simp) rfl, SlIn.nil _ _ _ _, lit_srcd 8190 (by simp) rfl⟩, fun r2 h2 b8 => ?_⟩
  obtain ⟨h2p, h2⟩ := h2
  dsimp only at h2p
  rw [sm14_exit] at h2p
  rw [List.perm_singleton.1 h2p] at h2
  have h2l : r2.1.n * 8 ≤ 140737488351232 := by have := h2.len; rw [ints_length] at this; simp at this; omega
  refine ⟨si_ok, rfl, ⟨⟨r2.1.a, r2.1.n, r2.1.cap⟩, ⟨some ⟨b8, 0, none⟩, 1, 1⟩, [4]⟩, rfl, rfl, trivial, ⟨h2.intsIn (sub_rest 8200 (by simp) rfl) h2l, lit1_in 8210 (by simp) rfl⟩, fun _ _ => ?_⟩
  refine ⟨gos_ok, rfl, ⟨z.b, sm14, ⟨none, 0, 0⟩, [], 1⟩, rfl, rfl, sm14_new, ⟨hz.sub (sub_rest 2010 (by simp) rfl), SlIn.nil _ _ _ _⟩, fun r3 h3 b9 => ?_⟩
  replace h3 : IsRow 3 1 (ints (goalsV sm14 [] 1)) r3 := h3
  rw [sm14_goals] at h3
  have h3l : r3.n * 8 ≤ 140737488351232 := by have := h3.len; rw [ints_length] at this; simp at this; omega
  exact ⟨si_ok, rfl, ⟨⟨r3.a, r3.n, r3.cap⟩, ⟨some ⟨b9, 0, none⟩, 1, 1⟩, [2]⟩, rfl, rfl, trivial, ⟨h3.intsIn (sub_rest 8260 (by simp) rfl) h3l, lit1_in 8270 (by simp) rfl⟩, fun _ _ => ⟨(), trivial, rfl, Ent.pick [0] rfl rfl⟩⟩
set_option maxRecDepth 100000 in
theorem aw14_ok : FnOk Try.prog 45 awC :=
  fnOk (N := 60) (by kernel_rfl) Try.func45 rfl (by kernel_rfl) (fun _ => Nat.le_of_ble_eq_true rfl) aw14_H [] fun x F hc hr => Eq.mpr (by kernel_rfl) (aw14_vc x F hc hr)
end Go.Proofs.Ytkmdgnbfojkcnaa
