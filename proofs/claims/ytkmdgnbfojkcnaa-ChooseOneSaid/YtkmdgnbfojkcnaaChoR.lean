/- The reference's SameInts at two readings of one list. The choice laws' small chart, and their first question. -/
import Derived.Test.YtkmdgnbfojkcnaaLatQO
import Derived.Test.YtkmdgnbfojkcnaaChoQ
import Derived.Test.YtkmdgnbfojkcnaaChoA
set_option linter.all false
namespace Go.Proofs.Ytkmdgnbfojkcnaa
open Go
set_option maxHeartbeats 1000000
theorem br_no {t : Bool} {A B : Prop} (h : t = false) (b : B) : Br t A B := br_intro (fun e => by rw [h] at e; cases e) (fun _ => b)
theorem int_get {F : Atom} {a : Option Addr} {n cap : Nat} {xs : List Int} (h : IntsIn F (.slice a n cap) xs) {i : Nat} {u : Int} (hu : xs[i]? = some u) : ∃ b o, a = some ⟨b, o, none⟩ ∧ Look F ⟨b, o + (i : Int).toNat * 1, none⟩ (.int .i64 u) := by
  obtain ⟨h1, h2, -, -, h5⟩ := IntsIn.srcd h
  have hi := (List.getElem?_eq_some_iff.1 hu).1
  obtain ⟨b, o, rfl⟩ := h1.some (by omega)
  refine ⟨b, o, rfl, ?_⟩
  have : o + (i : Int).toNat * 1 = o + i := by omega
  rw [this]
  exact h2.look (ints_get hu)
def neqP : QCon where
  X := ByteArray × ByteArray
  args x := [.agg #[.string x.1, .string x.2], .agg #[.string x.1, .string x.2]]
  cond _ := True
  val _ := .bool false
structure SiX where
  s1 : Sl
  s2 : Sl
  xs : List Int
def siC : Con where
  X := SiX
  Y := Unit
  args x := [.slice x.s1.a x.s1.n x.s1.cap, .slice x.s2.a x.s2.n x.s2.cap]
  pre _ := []
  cond _ := True
  rdc x F := IntsIn F (.slice x.s1.a x.s1.n x.s1.cap) x.xs ∧ IntsIn F (.slice x.s2.a x.s2.n x.s2.cap) x.xs
  rel _ _ := True
  val _ _ := .returned (.bool true)
  post _ _ := []
  rmono _ _ _ h hk := ⟨hk.1.sub h, hk.2.sub h⟩
def siInv (x : SiX) (F : Atom) : Nat → Option Inv := fun
  | 0 => some { X := Nat, P := fun k => k ≤ x.xs.length, mu := fun k => x.xs.length - k, lv := fun k => [(0, .slice x.s1.a x.s1.n x.s1.cap), (1, .slice x.s2.a x.s2.n x.s2.cap), (5, .int .i64 k)], st := fun _ => [F] }
  | _ => none
def siOv (_x : SiX) (_F : Atom) : List (Nat × Nat × OH) := [(6, 2, .qo (ixQ 1)), (6, 3, .q [.ex 0 (.int .i64)]), (6, 6, .qo (ixQ 1)), (6, 7, .q [.ex 0 (.int .i64)])]
noncomputable def si_H (x : Con.X siC) (F : Atom) : Hints where
  op := hk ((siOv x F) ++ [])
  inv := siInv x F
  cut := (fun _ _ _ => none) x F
  ord := (fun _ => [])
open Go.Value (int slice string bool pointer agg tuple func) in
open Go.IntKind (i64) in
set_option maxRecDepth 100000 in
theorem si_vc (x : SiX) (F : Atom) (hc : Con.cond siC x) (hr : Con.rdc siC x F) :
  Br ((↑x.s1.n : Int) != (↑x.s2.n : Int)) (Done siC x F (Ending.returned (bool false)) [(0, F)])
 ((∃ (x_1 : Nat), x_1 ≤ x.xs.length ∧ (slice x.s1.a x.s1.n x.s1.cap = slice x.s1.a x.s1.n x.s1.cap ∧ slice x.s2.a x.s2.n x.s2.cap = slice x.s2.a x.s2.n x.s2.cap ∧ int i64 (0 : Int) = int i64 (↑x_1 : Int) ∧ True) ∧ Ent [(0, F)] [(0, F)]) ∧
 ∀ (x_1 : Nat) (js : Nat → Value),
 x_1 ≤ x.xs.length →
 Br (decide ((↑x_1 : Int) < (↑x.s1.n : Int)))
 (true = true ∧
 QOpOk Try.prog (opIn Try.f30 6 2) (ixQ 1) ∧
 ∃ (x_2 : IxQX),
 [slice x.s1.a x.s1.n x.s1.cap, int i64 (↑x_1 : Int)] = [slice (some ⟨x_2.b, x_2.o, none⟩) x_2.len x_2.cap, int i64 x_2.n] ∧
 ((0 : Int) ≤ x_2.n ∧ x_2.n < (↑x_2.len : Int)) ∧
 ∃ (n : Int),
 Look F ⟨x_2.b, x_2.o + x_2.n.toNat * 1, none⟩ (int i64 n) ∧
 QOpOk Try.prog (opIn Try.f30 6 6) (ixQ 1) ∧ ∃ (x_3 : IxQX), [slice x.s2.a x.s2.n x.s2.cap, int i64 (↑x_1 : Int)] = [slice (some ⟨x_3.b, x_3.o, none⟩) x_3.len x_3.cap, int i64 x_3.n] ∧ ((0 : Int) ≤ x_3.n ∧ x_3.n < (↑x_3.len : Int)) ∧ ∃ (n_1 : Int), Look F ⟨x_3.b, x_3.o + x_3.n.toNat * 1, none⟩ (int i64 n_1) ∧ Br (n != n_1) (Done siC x F (Ending.returned (bool false)) [(0, F)]) (((-9223372036854775808 : Int) ≤ (↑x_1 : Int) + (1 : Int) ∧ (↑x_1 : Int) + (1 : Int) ≤ (9223372036854775807 : Int)) ∧ ∃ (y : Nat), y ≤ x.xs.length ∧ (slice x.s1.a x.s1.n x.s1.cap = slice x.s1.a x.s1.n x.s1.cap ∧ slice x.s2.a x.s2.n x.s2.cap = slice x.s2.a x.s2.n x.s2.cap ∧ int i64 ((↑x_1 : Int) + (1 : Int)) = int i64 (↑y : Int) ∧ True) ∧ Ent [(0, F)] [(0, F)] ∧ x.xs.length - y < x.xs.length - x_1))
 (Done siC x F (Ending.returned (bool true)) [(0, F)])) := by
  obtain ⟨⟨a1, n1, c1⟩, ⟨a2, n2, c2⟩, xs⟩ := x
  obtain ⟨h1, h2⟩ := hr
  dsimp only at h1 h2
  obtain ⟨e1, -, l1⟩ := SlIn.num h1
  obtain ⟨e2, -, l2⟩ := SlIn.num h2
  refine br_no (by simp; omega) ⟨⟨0, Nat.zero_le _, ⟨rfl, rfl, rfl, trivial⟩, Ent.pick [0] rfl rfl⟩, ?_⟩
  rintro k js hk
  dsimp only at hk ⊢
  refine br_decide (fun hlt => ?_) (fun hge => ⟨(), trivial, rfl, Ent.pick [0] rfl rfl⟩)
  obtain ⟨u, hu⟩ : ∃ u, xs[k]? = some u := ⟨_, List.getElem?_eq_getElem (by omega)⟩
  obtain ⟨b1, o1, rfl, k1⟩ := int_get h1 hu
  obtain ⟨b2, o2, rfl, k2⟩ := int_get h2 hu
  exact ⟨rfl, ixq_ok 1 rfl rfl rfl rfl, ⟨b1, o1, n1, c1, k⟩, rfl, by dsimp only; omega, u, k1, ixq_ok 1 rfl rfl rfl rfl, ⟨b2, o2, n2, c2, k⟩, rfl, by dsimp only; omega, u, k2, br_no (by simp) ⟨by omega, k + 1, by omega, ⟨rfl, rfl, rfl, trivial⟩, Ent.pick [0] rfl rfl, by omega⟩⟩
set_option maxRecDepth 100000 in
theorem si_ok : FnOk Try.prog 30 siC :=
  fnOk (N := 26) (by kernel_rfl) Try.func30 rfl (by kernel_rfl) (fun _ => Nat.le_of_ble_eq_true rfl) si_H [] fun x F hc hr => Eq.mpr (by kernel_rfl) (si_vc x F hc hr)
end Go.Proofs.Ytkmdgnbfojkcnaa
namespace Go.Proofs.Ytkmdgnbfojkcnaa
open Go
def eTx : ByteArray := ⟨#[101]⟩
def sm15 : ChD := ⟨.empty, false, -1, [⟨.empty, 0, -1, [1, 4], 0, [], [], [], [], [], ld0⟩, ⟨.empty, 2, 0, [2, 3], -1, [], [], [2], [], [], ld0⟩, ⟨.empty, 1, 1, [], -1, [], [], [1], [], [], ld0⟩, ⟨.empty, 1, 1, [], -1, [], [], [], [], [], ld0⟩, ⟨.empty, 1, 0, [], -1, [], [], [], [], [], ld0⟩], [⟨0, [], .empty, [1], false, -1⟩, ⟨2, [eTx], .empty, [4], false, -1⟩, ⟨1, [star], .empty, [4], false, -1⟩], [], [], []⟩
theorem sm15_new : newB sm15 = true := by kernel_rfl
def sm15Ov (_x : Unit) (_F : Atom) : List (Nat × Nat × OH) := [(0, 0, .n 1000), (1, 0, .n 2000), (1, 2, .n 2020), (1, 3, .n 2030), (1, 5, .n 2050), (1, 9, .n 2090), (2, 1, .n 3010), (2, 3, .n 3030), (2, 4, .n 3040), (2, 6, .n 3060), (2, 7, .n 3070), (2, 9, .n 3090), (2, 11, .w (at8 1000))]
noncomputable def sm15_H (x : Con.X (smallC sm15)) (F : Atom) : Hints where
  op := hk ((sm15Ov x F) ++ [])
  inv := (fun _ _ _ => none) x F
  cut := (fun _ _ _ => none) x F
  ord := (fun _ => [])
open Go.Value (int slice string bool pointer agg tuple func) in
open Go.IntKind (i64) in
set_option maxRecDepth 100000 in
theorem sm15_vc (x : PUnit) (F : Atom) (hc : Con.cond (smallC sm15) x) (hr : Con.rdc (smallC sm15) x F) :
  ∀ (b b_1 b_2 b_3 b_4 b_5 b_6 b_7 b_8 b_9 b_10 b_11 : Nat),
 Same ⟨b, 0, none⟩ b ∧
 Same ⟨b, 1, none⟩ b ∧
 Same ⟨b, 2, none⟩ b ∧
 Same ⟨b, 3, none⟩ b ∧
 Same ⟨b, 4, none⟩ b ∧
 Same ⟨b, 5, none⟩ b ∧
 Same ⟨b, 6, none⟩ b ∧
 Same ⟨b, 7, none⟩ b ∧
 Same ⟨b, 0, none⟩ b ∧
 Same ⟨b, 1, none⟩ b ∧
 Same ⟨b, 2, none⟩ b ∧
 Same ⟨b, 3, none⟩ b ∧
 Same ⟨b, 4, none⟩ b ∧
 Same ⟨b, 5, none⟩ b ∧
 Same ⟨b, 6, none⟩ b ∧
 Same ⟨b, 7, none⟩ b ∧
 Done (smallC sm15) x F (Ending.returned (agg { toList := [string (ByteArray.mk #[]), bool false, int i64 (-1 : Int), slice (some ⟨b_5, 0, none⟩) 5 5, slice (some ⟨b_11, 0, none⟩) 3 3, slice none 0 0, slice none 0 0, slice none 0 0] }))
 [(0, F), (1000, Atom.cells b [string (ByteArray.mk #[]), bool false, int i64 (-1 : Int), slice (some ⟨b_5, 0, none⟩) 5 5, slice (some ⟨b_11, 0, none⟩) 3 3, slice none 0 0, slice none 0 0, slice none 0 0] 28), (2000, Atom.cells b_1 [int i64 (1 : Int), int i64 (4 : Int)] 3), (2020, Atom.cells b_2 [int i64 (2 : Int), int i64 (3 : Int)] 3), (2030, Atom.cells b_3 [int i64 (2 : Int)] 3), (2050, Atom.cells b_4 [int i64 (1 : Int)] 3),
 (2090,
 Atom.cells b_5
 [string (ByteArray.mk #[]), int i64 (0 : Int), int i64 (-1 : Int), slice (some ⟨b_1, 0, none⟩) 2 2, int i64 (0 : Int), slice none 0 0, slice none 0 0, slice none 0 0, slice none 0 0, slice none 0 0, int i64 (0 : Int), slice none 0 0, string (ByteArray.mk #[]), string (ByteArray.mk #[]), int i64 (2 : Int), int i64 (0 : Int), slice (some ⟨b_2, 0, none⟩) 2 2, int i64 (-1 : Int), slice none 0 0, slice none 0 0, slice (some ⟨b_3, 0, none⟩) 1 1, slice none 0 0, slice none 0 0,
 int i64 (0 : Int), slice none 0 0, string (ByteArray.mk #[]), string (ByteArray.mk #[]), int i64 (1 : Int), int i64 (1 : Int), slice none 0 0, int i64 (-1 : Int), slice none 0 0, slice none 0 0, slice (some ⟨b_4, 0, none⟩) 1 1, slice none 0 0, slice none 0 0, int i64 (0 : Int), slice none 0 0, string (ByteArray.mk #[]), string (ByteArray.mk #[]), int i64 (1 : Int), int i64 (1 : Int), slice none 0 0, int i64 (-1 : Int), slice none 0 0, slice none 0 0, slice none 0 0, slice none 0 0, slice none 0 0,
 int i64 (0 : Int), slice none 0 0, string (ByteArray.mk #[]), string (ByteArray.mk #[]), int i64 (1 : Int), int i64 (0 : Int), slice none 0 0, int i64 (-1 : Int), slice none 0 0, slice none 0 0, slice none 0 0, slice none 0 0, slice none 0 0, int i64 (0 : Int), slice none 0 0, string (ByteArray.mk #[])]
 61),
 (3010, Atom.cells b_6 [int i64 (1 : Int)] 3), (3030, Atom.cells b_7 [string (ByteArray.mk #[(101 : UInt8)])] 9), (3040, Atom.cells b_8 [int i64 (4 : Int)] 3), (3060, Atom.cells b_9 [string (ByteArray.mk #[(42 : UInt8)])] 9), (3070, Atom.cells b_10 [int i64 (4 : Int)] 3),
 (3090, Atom.cells b_11 [int i64 (0 : Int), slice none 0 0, string (ByteArray.mk #[]), slice (some ⟨b_6, 0, none⟩) 1 1, bool false, int i64 (-1 : Int), int i64 (2 : Int), slice (some ⟨b_7, 0, none⟩) 1 1, string (ByteArray.mk #[]), slice (some ⟨b_8, 0, none⟩) 1 1, bool false, int i64 (-1 : Int), int i64 (1 : Int), slice (some ⟨b_9, 0, none⟩) 1 1, string (ByteArray.mk #[]), slice (some ⟨b_10, 0, none⟩) 1 1, bool false, int i64 (-1 : Int)] 76)] := by
  intro b b1 b2 b3 b4 b5 b6 b7 b8 b9 b10 b11
  iterate 16 refine ⟨⟨rfl, rfl⟩, ?_⟩
  have i0 : ∀ G, IntsIn G (.slice none 0 0) [] := fun G => SlIn.nil G IntIn 1 8
  have s0 : ∀ G, StrsIn G (.slice none 0 0) [] := fun G => SlIn.nil G StrIn 1 16
  have p0 : ∀ G, ParsIn G (.slice none 0 0) [] := fun G => SlIn.nil G ParIn 2 32
  let rs : List (List Value) := [[.string .empty, .int .i64 0, .int .i64 (-1), .slice (some ⟨b1, 0, none⟩) 2 2, .int .i64 0, .slice none 0 0, .slice none 0 0, .slice none 0 0, .slice none 0 0, .slice none 0 0, .int .i64 0, .slice none 0 0, .string .empty],
    [.string .empty, .int .i64 2, .int .i64 0, .slice (some ⟨b2, 0, none⟩) 2 2, .int .i64 (-1), .slice none 0 0, .slice none 0 0, .slice (some ⟨b3, 0, none⟩) 1 1, .slice none 0 0, .slice none 0 0, .int .i64 0, .slice none 0 0, .string .empty],
    [.string .empty, .int .i64 1, .int .i64 1, .slice none 0 0, .int .i64 (-1), .slice none 0 0, .slice none 0 0, .slice (some ⟨b4, 0, none⟩) 1 1, .slice none 0 0, .slice none 0 0, .int .i64 0, .slice none 0 0, .string .empty],
    [.string .empty, .int .i64 1, .int .i64 1, .slice none 0 0, .int .i64 (-1), .slice none 0 0, .slice none 0 0, .slice none 0 0, .slice none 0 0, .slice none 0 0, .int .i64 0, .slice none 0 0, .string .empty],
    [.string .empty, .int .i64 1, .int .i64 0, .slice none 0 0, .int .i64 (-1), .slice none 0 0, .slice none 0 0, .slice none 0 0, .slice none 0 0, .slice none 0 0, .int .i64 0, .slice none 0 0, .string .empty]]
  let rt : List (List Value) := [[.int .i64 0, .slice none 0 0, .string .empty, .slice (some ⟨b6, 0, none⟩) 1 1, .bool false, .int .i64 (-1)], [.int .i64 2, .slice (some ⟨b7, 0, none⟩) 1 1, .string .empty, .slice (some ⟨b8, 0, none⟩) 1 1, .bool false, .int .i64 (-1)], [.int .i64 1, .slice (some ⟨b9, 0, none⟩) 1 1, .string .empty, .slice (some ⟨b10, 0, none⟩) 1 1, .bool false, .int .i64 (-1)]]
  let G : Atom := bagA [.cells b1 [.int .i64 1, .int .i64 4] 3, .cells b2 [.int .i64 2, .int .i64 3] 3, .cells b3 [.int .i64 2] 3, .cells b4 [.int .i64 1] 3, .cells b5 rs.flatten 61, .cells b6 [.int .i64 1] 3, .cells b7 [.string eTx] 9, .cells b8 [.int .i64 4] 3, .cells b9 [.string star] 9, .cells b10 [.int .i64 4] 3, .cells b11 rt.flatten 76]
  have g1 : IntsIn G (.slice (some ⟨b1, 0, none⟩) 2 2) [1, 4] := lit_in (raw := [[.int .i64 1], [.int .i64 4]]) (by simp) (sub_bag 0 rfl) (Nat.le_of_ble_eq_true rfl) ⟨rfl, rfl, trivial⟩
  have g2 : IntsIn G (.slice (some ⟨b2, 0, none⟩) 2 2) [2, 3] := lit_in (raw := [[.int .i64 2], [.int .i64 3]]) (by simp) (sub_bag 1 rfl) (Nat.le_of_ble_eq_true rfl) ⟨rfl, rfl, trivial⟩
  have g3 : IntsIn G (.slice (some ⟨b3, 0, none⟩) 1 1) [2] := lit_in (raw := [[.int .i64 2]]) (by simp) (sub_bag 2 rfl) (Nat.le_of_ble_eq_true rfl) ⟨rfl, trivial⟩
  have g4 : IntsIn G (.slice (some ⟨b4, 0, none⟩) 1 1) [1] := lit_in (raw := [[.int .i64 1]]) (by simp) (sub_bag 3 rfl) (Nat.le_of_ble_eq_true rfl) ⟨rfl, trivial⟩
  have g6 : IntsIn G (.slice (some ⟨b6, 0, none⟩) 1 1) [1] := lit_in (raw := [[.int .i64 1]]) (by simp) (sub_bag 5 rfl) (Nat.le_of_ble_eq_true rfl) ⟨rfl, trivial⟩
  have g7 : StrsIn G (.slice (some ⟨b7, 0, none⟩) 1 1) [eTx] := lit_in (raw := [[.string eTx]]) (by simp) (sub_bag 6 rfl) (Nat.le_of_ble_eq_true rfl) ⟨rfl, trivial⟩
  have g8 : IntsIn G (.slice (some ⟨b8, 0, none⟩) 1 1) [4] := lit_in (raw := [[.int .i64 4]]) (by simp) (sub_bag 7 rfl) (Nat.le_of_ble_eq_true rfl) ⟨rfl, trivial⟩
  have g9 : StrsIn G (.slice (some ⟨b9, 0, none⟩) 1 1) [star] := lit_in (raw := [[.string star]]) (by simp) (sub_bag 8 rfl) (Nat.le_of_ble_eq_true rfl) ⟨rfl, trivial⟩
  have g10 : IntsIn G (.slice (some ⟨b10, 0, none⟩) 1 1) [4] := lit_in (raw := [[.int .i64 4]]) (by simp) (sub_bag 9 rfl) (Nat.le_of_ble_eq_true rfl) ⟨rfl, trivial⟩
  have hst : SlIn G (StIn G) 13 232 (.slice (some ⟨b5, 0, none⟩) 5 5) sm15.sts := by
    refine lit_in (raw := rs) (by simp [rs]) (sub_bag 4 rfl) (Nat.le_of_ble_eq_true rfl) ⟨?_, ?_, ?_, ?_, ?_, trivial⟩
    · exact ⟨_, _, _, _, _, _, _, rfl, g1, i0 G, i0 G, i0 G, i0 G, i0 G, p0 G⟩
    · exact ⟨_, _, _, _, _, _, _, rfl, g2, i0 G, i0 G, g3, i0 G, i0 G, p0 G⟩
    · exact ⟨_, _, _, _, _, _, _, rfl, i0 G, i0 G, i0 G, g4, i0 G, i0 G, p0 G⟩
    · exact ⟨_, _, _, _, _, _, _, rfl, i0 G, i0 G, i0 G, i0 G, i0 G, i0 G, p0 G⟩
    · exact ⟨_, _, _, _, _, _, _, rfl, i0 G, i0 G, i0 G, i0 G, i0 G, i0 G, p0 G⟩
  have htr : SlIn G (TrIn G) 6 88 (.slice (some ⟨b11, 0, none⟩) 3 3) sm15.trs :=
    lit_in (raw := rt) (by simp [rt]) (sub_bag 10 rfl) (Nat.le_of_ble_eq_true rfl) ⟨⟨_, _, rfl, s0 G, g6⟩, ⟨_, _, rfl, g7, g8⟩, ⟨_, _, rfl, g9, g10⟩, trivial⟩
  exact ⟨⟨G, ⟨⟨some ⟨b5, 0, none⟩, 5, 5⟩, ⟨some ⟨b11, 0, none⟩, 3, 3⟩, sl0, sl0, sl0⟩⟩, ⟨hst, htr, SlIn.nil _ _ _ _, SlIn.nil _ _ _ _, SlIn.nil _ _ _ _⟩, rfl, (Ent.bag (S' := ofL [F, G]) [0] [2000, 2020, 2030, 2050, 2090, 3010, 3030, 3040, 3060, 3070, 3090] rfl rfl).trans (Ent.pick [1, 0] rfl rfl)⟩
set_option maxRecDepth 100000 in
theorem sm15_ok : FnOk Try.prog 78 (smallC sm15) :=
  fnOk (N := 23) (by kernel_rfl) Try.func78 rfl (by kernel_rfl) (fun _ => Nat.le_of_ble_eq_true rfl) sm15_H (at8 1000) fun x F hc hr => Eq.mpr (by kernel_rfl) (sm15_vc x F hc hr)
theorem sel15a : selV sm15 [] [1, 2, 3] ⟨#[101, 46, 49]⟩ true = [1] := by kernel_rfl
theorem sel15b : selV sm15 [] [1, 2, 3] ⟨#[120]⟩ true = [2] := by kernel_rfl
theorem res15 : resV sm15 [] [1, 2, 3] [2, 1] = [1] := by kernel_rfl
theorem ev15 : EvOk sm15 := by
  intro t ht e he
  simp only [sm15, List.mem_cons, List.not_mem_nil, or_false] at ht
  rcases ht with rfl | rfl | rfl
  · simp at he
  · simp only [List.mem_cons, List.not_mem_nil, or_false] at he; subst he; exact Nat.le_of_ble_eq_true rfl
  · simp only [List.mem_cons, List.not_mem_nil, or_false] at he; subst he; exact Nat.le_of_ble_eq_true rfl
theorem lit1_in {S : St} {touch : List Nat} (j : Nat) (hj : j ∉ touch) {b : Nat} {x : Int} {t : TypeId} (e : gt S j = .cells b [.int .i64 x] t) : IntsIn (.pred (rest S touch)) (.slice (some ⟨b, 0, none⟩) 1 1) [x] := lit_in (raw := [[.int .i64 x]]) (by simp) (sub_rest j hj e) (Nat.le_of_ble_eq_true rfl) ⟨rfl, trivial⟩
def aw15Ov (_x : Unit) (_F : Atom) : List (Nat × Nat × OH) := [(1, 0, .c (smallC sm15) [] [2000]), (1, 1, .c newYC [] [2010]), (4, 1, .n 5010), (4, 2, .c slcC [] [5020]), (5, 1, .n 6010), (5, 2, .c slcC [] [6020]), (6, 1, .n 7010), (6, 2, .n 7020), (6, 3, .c resC [] [7030]), (7, 0, .c mtC [] []), (7, 2, .c mtC [] []), (7, 7, .n 8070), (7, 8, .c siC [] []), (7, 12, .n 8120), (7, 13, .c siC [] []), (7, 17, .n 8170), (7, 18, .c siC [] [])]
noncomputable def aw15_H (x : Con.X awC) (F : Atom) : Hints where
  op := hk ((aw15Ov x F) ++ [])
  inv := (fun _ _ _ => none) x F
  cut := (fun _ _ _ => none) x F
  ord := (fun _ => [])
open Go.Value (int slice string bool pointer agg tuple func) in
open Go.IntKind (i64) in
set_option maxRecDepth 100000 in
theorem aw15_vc (x : PUnit) (F : Atom) (hc : Con.cond awC x) (hr : Con.rdc awC x F) :
  FnOk Try.prog 78 (smallC sm15) ∧
 true = true ∧
 ∃ (x_1 : Unit),
 ([] : List Value) = [] ∧
 ([] : List Atom) = [] ∧
 True ∧
 True ∧
 ∀ (y : ClnCY),
 ChIn y.G y.w.v sm15 →
 FnOk Try.prog 14 newYC ∧
 true = true ∧
 ∃ (x_2 : ClnCX),
 [agg { toList := [string sm15.name, bool sm15.late, int i64 sm15.script, slice y.w.vs.a y.w.vs.n y.w.vs.cap, slice y.w.vt.a y.w.vt.n y.w.vt.cap, slice y.w.vb.a y.w.vb.n y.w.vb.cap, slice y.w.vd.a y.w.vd.n y.w.vd.cap, slice y.w.vi.a y.w.vi.n y.w.vi.cap] }] = [agg { toList := (chS x_2.c x_2.w) }] ∧
 ([] : List Atom) = [] ∧
 newB x_2.c = true ∧
 ChIn (Atom.pred (rest [(0, F), (2000, y.G)] [])) x_2.w.v x_2.c ∧
 ∀ (y_1 : NewY),
 LatIn y_1.G y_1.b x_2.c →
 ∀ (b : Nat),
 FnOk Try.prog 44 slcC ∧
 true = true ∧
 ∃ (x_3 : SlcX),
 [pointer (some ⟨y_1.b, 0, none⟩), slice (some ⟨b, 0, none⟩) 3 3, slice none 0 0, string (ByteArray.mk #[(101 : UInt8), (46 : UInt8), (49 : UInt8)]), bool true, Value.nilFunc] = [pointer (some ⟨x_3.b, 0, none⟩), slice x_3.g.a x_3.g.n x_3.g.cap, slice x_3.m.a x_3.m.n x_3.m.cap, string x_3.name, bool x_3.ev, Value.nilFunc] ∧
 ([] : List Atom) = [] ∧
 (newB x_3.c = true ∧ EvOk x_3.c ∧ IsSrc 1 (ints x_3.cf) x_3.g.a x_3.g.n ∧ x_3.g.n * 8 ≤ 140737488351232) ∧
 (LatIn (Atom.pred (rest [(0, F), (2000, y.G), (2010, y_1.G), (5010, Atom.cells b [int i64 (1 : Int), int i64 (2 : Int), int i64 (3 : Int)] 3)] [])) x_3.b x_3.c ∧ Srcd (Atom.pred (rest [(0, F), (2000, y.G), (2010, y_1.G), (5010, Atom.cells b [int i64 (1 : Int), int i64 (2 : Int), int i64 (3 : Int)] 3)] [])) x_3.g.a (ints x_3.cf) ∧ MemIn (Atom.pred (rest [(0, F), (2000, y.G), (2010, y_1.G), (5010, Atom.cells b [int i64 (1 : Int), int i64 (2 : Int), int i64 (3 : Int)] 3)] [])) (slice x_3.m.a x_3.m.n x_3.m.cap) x_3.mem) ∧
 ∀ (y_2 : Row),
 IsRow 3 1 (ints (selV x_3.c x_3.mem x_3.cf x_3.name x_3.ev)) y_2 →
 ∀ (b_1 : Nat),
 FnOk Try.prog 44 slcC ∧
 true = true ∧
 ∃ (x_4 : SlcX),
 [pointer (some ⟨y_1.b, 0, none⟩), slice (some ⟨b_1, 0, none⟩) 3 3, slice none 0 0, string (ByteArray.mk #[(120 : UInt8)]), bool true, Value.nilFunc] = [pointer (some ⟨x_4.b, 0, none⟩), slice x_4.g.a x_4.g.n x_4.g.cap, slice x_4.m.a x_4.m.n x_4.m.cap, string x_4.name, bool x_4.ev, Value.nilFunc] ∧
 ([] : List Atom) = [] ∧
 (newB x_4.c = true ∧ EvOk x_4.c ∧ IsSrc 1 (ints x_4.cf) x_4.g.a x_4.g.n ∧ x_4.g.n * 8 ≤ 140737488351232) ∧
 (LatIn (Atom.pred (rest [(0, F), (2000, y.G), (2010, y_1.G), (5010, Atom.cells b [int i64 (1 : Int), int i64 (2 : Int), int i64 (3 : Int)] 3), (5020, y_2.A), (6010, Atom.cells b_1 [int i64 (1 : Int), int i64 (2 : Int), int i64 (3 : Int)] 3)] [])) x_4.b x_4.c ∧
 Srcd (Atom.pred (rest [(0, F), (2000, y.G), (2010, y_1.G), (5010, Atom.cells b [int i64 (1 : Int), int i64 (2 : Int), int i64 (3 : Int)] 3), (5020, y_2.A), (6010, Atom.cells b_1 [int i64 (1 : Int), int i64 (2 : Int), int i64 (3 : Int)] 3)] [])) x_4.g.a (ints x_4.cf) ∧ MemIn (Atom.pred (rest [(0, F), (2000, y.G), (2010, y_1.G), (5010, Atom.cells b [int i64 (1 : Int), int i64 (2 : Int), int i64 (3 : Int)] 3), (5020, y_2.A), (6010, Atom.cells b_1 [int i64 (1 : Int), int i64 (2 : Int), int i64 (3 : Int)] 3)] [])) (slice x_4.m.a x_4.m.n x_4.m.cap) x_4.mem) ∧
 ∀ (y_3 : Row),
 IsRow 3 1 (ints (selV x_4.c x_4.mem x_4.cf x_4.name x_4.ev)) y_3 →
 ∀ (b_2 b_3 : Nat),
 FnOk Try.prog 42 resC ∧
 true = true ∧
 ∃ (x_5 : ExX),
 [pointer (some ⟨y_1.b, 0, none⟩), slice (some ⟨b_2, 0, none⟩) 3 3, slice none 0 0, slice (some ⟨b_3, 0, none⟩) 2 2] = [pointer (some ⟨x_5.b, 0, none⟩), slice x_5.g.a x_5.g.n x_5.g.cap, slice x_5.m.a x_5.m.n x_5.m.cap, slice x_5.s.a x_5.s.n x_5.s.cap] ∧
 ([] : List Atom) = [] ∧
 (newB x_5.c = true ∧ (IsSrc 1 (ints x_5.cf) x_5.g.a x_5.g.n ∧ x_5.g.n * 8 ≤ 140737488351232) ∧ IsSrc 1 (ints x_5.ts) x_5.s.a x_5.s.n ∧ x_5.s.n * 8 ≤ 140737488351232) ∧
 (LatIn (Atom.pred (rest [(0, F), (2000, y.G), (2010, y_1.G), (5010, Atom.cells b [int i64 (1 : Int), int i64 (2 : Int), int i64 (3 : Int)] 3), (5020, y_2.A), (6010, Atom.cells b_1 [int i64 (1 : Int), int i64 (2 : Int), int i64 (3 : Int)] 3), (6020, y_3.A), (7010, Atom.cells b_2 [int i64 (1 : Int), int i64 (2 : Int), int i64 (3 : Int)] 3), (7020, Atom.cells b_3 [int i64 (2 : Int), int i64 (1 : Int)] 3)] [])) x_5.b x_5.c ∧
 Srcd (Atom.pred (rest [(0, F), (2000, y.G), (2010, y_1.G), (5010, Atom.cells b [int i64 (1 : Int), int i64 (2 : Int), int i64 (3 : Int)] 3), (5020, y_2.A), (6010, Atom.cells b_1 [int i64 (1 : Int), int i64 (2 : Int), int i64 (3 : Int)] 3), (6020, y_3.A), (7010, Atom.cells b_2 [int i64 (1 : Int), int i64 (2 : Int), int i64 (3 : Int)] 3), (7020, Atom.cells b_3 [int i64 (2 : Int), int i64 (1 : Int)] 3)] [])) x_5.g.a (ints x_5.cf) ∧
 MemIn (Atom.pred (rest [(0, F), (2000, y.G), (2010, y_1.G), (5010, Atom.cells b [int i64 (1 : Int), int i64 (2 : Int), int i64 (3 : Int)] 3), (5020, y_2.A), (6010, Atom.cells b_1 [int i64 (1 : Int), int i64 (2 : Int), int i64 (3 : Int)] 3), (6020, y_3.A), (7010, Atom.cells b_2 [int i64 (1 : Int), int i64 (2 : Int), int i64 (3 : Int)] 3), (7020, Atom.cells b_3 [int i64 (2 : Int), int i64 (1 : Int)] 3)] [])) (slice x_5.m.a x_5.m.n x_5.m.cap) x_5.mem ∧
 Srcd (Atom.pred (rest [(0, F), (2000, y.G), (2010, y_1.G), (5010, Atom.cells b [int i64 (1 : Int), int i64 (2 : Int), int i64 (3 : Int)] 3), (5020, y_2.A), (6010, Atom.cells b_1 [int i64 (1 : Int), int i64 (2 : Int), int i64 (3 : Int)] 3), (6020, y_3.A), (7010, Atom.cells b_2 [int i64 (1 : Int), int i64 (2 : Int), int i64 (3 : Int)] 3), (7020, Atom.cells b_3 [int i64 (2 : Int), int i64 (1 : Int)] 3)] [])) x_5.s.a (ints x_5.ts)) ∧
 ∀ (y_4 : Row),
 IsRow 3 1 (ints (resV x_5.c x_5.mem x_5.cf x_5.ts)) y_4 →
 FnOk Try.prog 39 mtC ∧
 true = true ∧
 ∃ (x_6 : StrX),
 [string (ByteArray.mk #[(101 : UInt8)]), string (ByteArray.mk #[(101 : UInt8), (46 : UInt8), (49 : UInt8)])] = [string x_6.a, string x_6.b] ∧
 ([] : List Atom) = [] ∧
 x_6.a.size ≤ 4611686018427387904 ∧
 True ∧
 ∀ (y_5 : Unit),
 True →
 Br (matchB x_6.a x_6.b)
 (FnOk Try.prog 39 mtC ∧
 true = true ∧
 ∃ (x_7 : StrX),
 [string (ByteArray.mk #[(101 : UInt8)]), string (ByteArray.mk #[(101 : UInt8), (120 : UInt8)])] = [string x_7.a, string x_7.b] ∧
 ([] : List Atom) = [] ∧
 x_7.a.size ≤ 4611686018427387904 ∧
 True ∧
 ∀ (y_6 : Unit),
 True →
 Br (!matchB x_7.a x_7.b)
 (∀ (b_4 : Nat),
 FnOk Try.prog 30 siC ∧
 true = true ∧
 ∃ (x_8 : SiX),
 [slice y_2.a y_2.n y_2.cap, slice (some ⟨b_4, 0, none⟩) 1 1] = [slice x_8.s1.a x_8.s1.n x_8.s1.cap, slice x_8.s2.a x_8.s2.n x_8.s2.cap] ∧
 ([] : List Atom) = [] ∧
 True ∧
 (IntsIn (Atom.pred (rest [(0, F), (2000, y.G), (2010, y_1.G), (5010, Atom.cells b [int i64 (1 : Int), int i64 (2 : Int), int i64 (3 : Int)] 3), (5020, y_2.A), (6010, Atom.cells b_1 [int i64 (1 : Int), int i64 (2 : Int), int i64 (3 : Int)] 3), (6020, y_3.A), (7010, Atom.cells b_2 [int i64 (1 : Int), int i64 (2 : Int), int i64 (3 : Int)] 3), (7020, Atom.cells b_3 [int i64 (2 : Int), int i64 (1 : Int)] 3), (7030, y_4.A), (8070, Atom.cells b_4 [int i64 (1 : Int)] 3)] [])) (slice x_8.s1.a x_8.s1.n x_8.s1.cap) x_8.xs ∧
 IntsIn (Atom.pred (rest [(0, F), (2000, y.G), (2010, y_1.G), (5010, Atom.cells b [int i64 (1 : Int), int i64 (2 : Int), int i64 (3 : Int)] 3), (5020, y_2.A), (6010, Atom.cells b_1 [int i64 (1 : Int), int i64 (2 : Int), int i64 (3 : Int)] 3), (6020, y_3.A), (7010, Atom.cells b_2 [int i64 (1 : Int), int i64 (2 : Int), int i64 (3 : Int)] 3), (7020, Atom.cells b_3 [int i64 (2 : Int), int i64 (1 : Int)] 3), (7030, y_4.A), (8070, Atom.cells b_4 [int i64 (1 : Int)] 3)] [])) (slice x_8.s2.a x_8.s2.n x_8.s2.cap) x_8.xs) ∧
 ∀ (y_7 : Unit),
 True →
 ∀ (b_5 : Nat),
 FnOk Try.prog 30 siC ∧
 true = true ∧
 ∃ (x_9 : SiX),
 [slice y_3.a y_3.n y_3.cap, slice (some ⟨b_5, 0, none⟩) 1 1] = [slice x_9.s1.a x_9.s1.n x_9.s1.cap, slice x_9.s2.a x_9.s2.n x_9.s2.cap] ∧
 ([] : List Atom) = [] ∧
 True ∧
 (IntsIn
 (Atom.pred
 (rest [(0, F), (2000, y.G), (2010, y_1.G), (5010, Atom.cells b [int i64 (1 : Int), int i64 (2 : Int), int i64 (3 : Int)] 3), (5020, y_2.A), (6010, Atom.cells b_1 [int i64 (1 : Int), int i64 (2 : Int), int i64 (3 : Int)] 3), (6020, y_3.A), (7010, Atom.cells b_2 [int i64 (1 : Int), int i64 (2 : Int), int i64 (3 : Int)] 3), (7020, Atom.cells b_3 [int i64 (2 : Int), int i64 (1 : Int)] 3), (7030, y_4.A), (8070, Atom.cells b_4 [int i64 (1 : Int)] 3), (8120, Atom.cells b_5 [int i64 (2 : Int)] 3)]
 []))
 (slice x_9.s1.a x_9.s1.n x_9.s1.cap) x_9.xs ∧
 IntsIn
 (Atom.pred
 (rest [(0, F), (2000, y.G), (2010, y_1.G), (5010, Atom.cells b [int i64 (1 : Int), int i64 (2 : Int), int i64 (3 : Int)] 3), (5020, y_2.A), (6010, Atom.cells b_1 [int i64 (1 : Int), int i64 (2 : Int), int i64 (3 : Int)] 3), (6020, y_3.A), (7010, Atom.cells b_2 [int i64 (1 : Int), int i64 (2 : Int), int i64 (3 : Int)] 3), (7020, Atom.cells b_3 [int i64 (2 : Int), int i64 (1 : Int)] 3), (7030, y_4.A), (8070, Atom.cells b_4 [int i64 (1 : Int)] 3), (8120, Atom.cells b_5 [int i64 (2 : Int)] 3)]
 []))
 (slice x_9.s2.a x_9.s2.n x_9.s2.cap) x_9.xs) ∧
 ∀ (y_8 : Unit),
 True →
 ∀ (b_6 : Nat),
 FnOk Try.prog 30 siC ∧
 true = true ∧
 ∃ (x_10 : SiX),
 [slice y_4.a y_4.n y_4.cap, slice (some ⟨b_6, 0, none⟩) 1 1] = [slice x_10.s1.a x_10.s1.n x_10.s1.cap, slice x_10.s2.a x_10.s2.n x_10.s2.cap] ∧
 ([] : List Atom) = [] ∧
 True ∧
 (IntsIn
 (Atom.pred
 (rest
 [(0, F), (2000, y.G), (2010, y_1.G), (5010, Atom.cells b [int i64 (1 : Int), int i64 (2 : Int), int i64 (3 : Int)] 3), (5020, y_2.A), (6010, Atom.cells b_1 [int i64 (1 : Int), int i64 (2 : Int), int i64 (3 : Int)] 3), (6020, y_3.A), (7010, Atom.cells b_2 [int i64 (1 : Int), int i64 (2 : Int), int i64 (3 : Int)] 3), (7020, Atom.cells b_3 [int i64 (2 : Int), int i64 (1 : Int)] 3), (7030, y_4.A), (8070, Atom.cells b_4 [int i64 (1 : Int)] 3),
 (8120, Atom.cells b_5 [int i64 (2 : Int)] 3), (8170, Atom.cells b_6 [int i64 (1 : Int)] 3)]
 []))
 (slice x_10.s1.a x_10.s1.n x_10.s1.cap) x_10.xs ∧
 IntsIn
 (Atom.pred
 (rest
 [(0, F), (2000, y.G), (2010, y_1.G), (5010, Atom.cells b [int i64 (1 : Int), int i64 (2 : Int), int i64 (3 : Int)] 3), (5020, y_2.A), (6010, Atom.cells b_1 [int i64 (1 : Int), int i64 (2 : Int), int i64 (3 : Int)] 3), (6020, y_3.A), (7010, Atom.cells b_2 [int i64 (1 : Int), int i64 (2 : Int), int i64 (3 : Int)] 3), (7020, Atom.cells b_3 [int i64 (2 : Int), int i64 (1 : Int)] 3), (7030, y_4.A), (8070, Atom.cells b_4 [int i64 (1 : Int)] 3),
 (8120, Atom.cells b_5 [int i64 (2 : Int)] 3), (8170, Atom.cells b_6 [int i64 (1 : Int)] 3)]
 []))
 (slice x_10.s2.a x_10.s2.n x_10.s2.cap) x_10.xs) ∧
 ∀ (y_9 : Unit),
 True →
 Done awC x F (Ending.returned (bool true))
 [(0, F), (2000, y.G), (2010, y_1.G), (5010, Atom.cells b [int i64 (1 : Int), int i64 (2 : Int), int i64 (3 : Int)] 3), (5020, y_2.A), (6010, Atom.cells b_1 [int i64 (1 : Int), int i64 (2 : Int), int i64 (3 : Int)] 3), (6020, y_3.A), (7010, Atom.cells b_2 [int i64 (1 : Int), int i64 (2 : Int), int i64 (3 : Int)] 3), (7020, Atom.cells b_3 [int i64 (2 : Int), int i64 (1 : Int)] 3), (7030, y_4.A), (8070, Atom.cells b_4 [int i64 (1 : Int)] 3),
 (8120, Atom.cells b_5 [int i64 (2 : Int)] 3), (8170, Atom.cells b_6 [int i64 (1 : Int)] 3)])
 (Done awC x F (Ending.returned (bool false)) [(0, F), (2000, y.G), (2010, y_1.G), (5010, Atom.cells b [int i64 (1 : Int), int i64 (2 : Int), int i64 (3 : Int)] 3), (5020, y_2.A), (6010, Atom.cells b_1 [int i64 (1 : Int), int i64 (2 : Int), int i64 (3 : Int)] 3), (6020, y_3.A), (7010, Atom.cells b_2 [int i64 (1 : Int), int i64 (2 : Int), int i64 (3 : Int)] 3), (7020, Atom.cells b_3 [int i64 (2 : Int), int i64 (1 : Int)] 3), (7030, y_4.A)]))
 (Done awC x F (Ending.returned (bool false)) [(0, F), (2000, y.G), (2010, y_1.G), (5010, Atom.cells b [int i64 (1 : Int), int i64 (2 : Int), int i64 (3 : Int)] 3), (5020, y_2.A), (6010, Atom.cells b_1 [int i64 (1 : Int), int i64 (2 : Int), int i64 (3 : Int)] 3), (6020, y_3.A), (7010, Atom.cells b_2 [int i64 (1 : Int), int i64 (2 : Int), int i64 (3 : Int)] 3), (7020, Atom.cells b_3 [int i64 (2 : Int), int i64 (1 : Int)] 3), (7030, y_4.A)]) := by
  refine ⟨sm15_ok, rfl, (), rfl, rfl, trivial, trivial, fun y hy => ⟨newY_ok, rfl, ⟨sm15, y.w⟩, rfl, rfl, sm15_new, hy.sub (sub_rest 2000 (by simp) rfl), fun z hz b1 => ?_⟩⟩
  replace hz : LatIn z.G z.b sm15 := hz
  refine ⟨slc_ok, rfl, ⟨z.b, sm15, ⟨some ⟨b1, 0, none⟩, 3, 3⟩, [1, 2, 3], ⟨none, 0, 0⟩, [], ⟨#[101, 46, 49]⟩, true⟩, rfl, rfl, ⟨sm15_new, ev15, .blk b1 0 3 rfl, Nat.le_of_ble_eq_true rfl⟩, ⟨hz.sub (sub_rest 2010 (by simp) rfl), lit_srcd 5010 (by simp) rfl, SlIn.nil _ _ _ _⟩, fun r1 h1 b2 => ?_⟩
  replace h1 : IsRow 3 1 (ints (selV sm15 [] [1, 2, 3] ⟨#[101, 46, 49]⟩ true)) r1 := h1
  rw [sel15a] at h1
  refine ⟨slc_ok, rfl, ⟨z.b, sm15, ⟨some ⟨b2, 0, none⟩, 3, 3⟩, [1, 2, 3], ⟨none, 0, 0⟩, [], ⟨#[120]⟩, true⟩, rfl, rfl, ⟨sm15_new, ev15, .blk b2 0 3 rfl, Nat.le_of_ble_eq_true rfl⟩, ⟨hz.sub (sub_rest 2010 (by simp) rfl), lit_srcd 6010 (by simp) rfl, SlIn.nil _ _ _ _⟩, fun r2 h2 b3 b4 => ?_⟩
  replace h2 : IsRow 3 1 (ints (selV sm15 [] [1, 2, 3] ⟨#[120]⟩ true)) r2 := h2
  rw [sel15b] at h2
  refine ⟨rs_ok, rfl, ⟨z.b, sm15, ⟨some ⟨b3, 0, none⟩, 3, 3⟩, [1, 2, 3], ⟨none, 0, 0⟩, [], ⟨some ⟨b4, 0, none⟩, 2, 2⟩, [2, 1]⟩, rfl, rfl, ⟨sm15_new, ⟨.blk b3 0 3 rfl, Nat.le_of_ble_eq_true rfl⟩, .blk b4 0 2 rfl, Nat.le_of_ble_eq_true rfl⟩, ⟨hz.sub (sub_rest 2010 (by simp) rfl), lit_srcd 7010 (by simp) rfl, SlIn.nil _ _ _ _, lit_srcd 7020 (by simp) rfl⟩, fun r3 h3 => ?_⟩
  replace h3 : IsRow 3 1 (ints (resV sm15 [] [1, 2, 3] [2, 1])) r3 := h3
  rw [res15] at h3
  have l1 : r1.n * 8 ≤ 140737488351232 := by have := h1.len; rw [ints_length] at this; simp at this; omega
  have l2 : r2.n * 8 ≤ 140737488351232 := by have := h2.len; rw [ints_length] at this; simp at this; omega
  have l3 : r3.n * 8 ≤ 140737488351232 := by have := h3.len; rw [ints_length] at this; simp at this; omega
  refine ⟨mt_ok, rfl, ⟨eTx, ⟨#[101, 46, 49]⟩⟩, rfl, rfl, Nat.le_of_ble_eq_true rfl, trivial, fun _ _ => br_t (by kernel_rfl) ⟨mt_ok, rfl, ⟨eTx, ⟨#[101, 120]⟩⟩, rfl, rfl, Nat.le_of_ble_eq_true rfl, trivial, fun _ _ => br_t (by kernel_rfl) fun b5 => ?_⟩⟩
  refine ⟨si_ok, rfl, ⟨⟨r1.a, r1.n, r1.cap⟩, ⟨some ⟨b5, 0, none⟩, 1, 1⟩, [1]⟩, rfl, rfl, trivial, ⟨h1.intsIn (sub_rest 5020 (by simp) rfl) l1, lit1_in 8070 (by simp) rfl⟩, fun _ _ b6 => ?_⟩
  refine ⟨si_ok, rfl, ⟨⟨r2.a, r2.n, r2.cap⟩, ⟨some ⟨b6, 0, none⟩, 1, 1⟩, [2]⟩, rfl, rfl, trivial, ⟨h2.intsIn (sub_rest 6020 (by simp) rfl) l2, lit1_in 8120 (by simp) rfl⟩, fun _ _ b7 => ?_⟩
  exact ⟨si_ok, rfl, ⟨⟨r3.a, r3.n, r3.cap⟩, ⟨some ⟨b7, 0, none⟩, 1, 1⟩, [1]⟩, rfl, rfl, trivial, ⟨h3.intsIn (sub_rest 7030 (by simp) rfl) l3, lit1_in 8170 (by simp) rfl⟩, fun _ _ => ⟨(), trivial, rfl, Ent.pick [0] rfl rfl⟩⟩
set_option maxRecDepth 100000 in
theorem aw15_ok : FnOk Try.prog 38 awC :=
  fnOk (N := 47) (by kernel_rfl) Try.func38 rfl (by kernel_rfl) (fun _ => Nat.le_of_ble_eq_true rfl) aw15_H [] fun x F hc hr => Eq.mpr (by kernel_rfl) (aw15_vc x F hc hr)
end Go.Proofs.Ytkmdgnbfojkcnaa
