/- What Resolve keeps, in plain Lean; the choice laws' second argument; large. -/
import Derived.Test.YtkmdgnbfojkcnaaChoP
set_option linter.all false
namespace Go.Proofs.Ytkmdgnbfojkcnaa
open Go
set_option maxHeartbeats 1000000
theorem cfl_comm (c : ChD) (mem : List (List Int)) (cf : List Int) (a b : Int) : cfl c mem cf a b = cfl c mem cf b a := by
  have h : ∀ a b, cfl c mem cf a b = true → cfl c mem cf b a = true := fun a b h => by
    unfold cfl at h ⊢
    obtain ⟨u, h1, h2⟩ := List.any_eq_true.1 h
    exact List.any_eq_true.2 ⟨u, memB_iff.1 h2, memB_iff.2 h1⟩
  rw [Bool.eq_iff_iff]
  exact ⟨h a b, h b a⟩
/-- What holds between two rounds of Resolve. -/
structure Peace (c : ChD) (mem : List (List Int)) (cf : List Int) (done : List Int) (st : List Int × List Int) : Prop where
  kept : ∀ k ∈ st.2, k ∈ st.1
  val : ∀ k ∈ st.1, isT c k = true
  from_ : ∀ k ∈ st.1, k ∈ done
  all : ∀ t ∈ done, isT c t = true → t ∈ st.1
  pw : st.2.Pairwise fun a b => b ≠ a ∧ cfl c mem cf b a = false
  rej : ∀ t ∈ st.1, t ∉ st.2 → ∃ o ∈ st.1, o ≠ t ∧ cfl c mem cf t o = true
theorem Peace.step {c : ChD} {mem : List (List Int)} {cf done : List Int} {st : List Int × List Int} (h : Peace c mem cf done st) (t : Int) : Peace c mem cf (done ++ [t]) (rsS c mem cf st t) := by
  unfold rsS
  cases hb : (memB st.1 t || !isT c t) with
  | true =>
    rw [cond_true]
    refine ⟨h.kept, h.val, fun k hk => List.mem_append_left _ (h.from_ k hk), fun u hu hT => ?_, h.pw, h.rej⟩
    rcases List.mem_append.1 hu with hu | hu
    · exact h.all u hu hT
    · rw [List.mem_singleton] at hu
      subst hu
      rw [hT] at hb
      exact memB_iff.1 (by simpa using hb)
  | false =>
    rw [cond_false]
    simp only [Bool.or_eq_false_iff, Bool.not_eq_false'] at hb
    obtain ⟨hns, hT⟩ := hb
    have hns' : t ∉ st.1 := fun hm => by rw [memB_iff.2 hm] at hns; cases hns
    have hsub : ∀ k ∈ rsK c mem cf st.2 t, k ∈ st.2 ∨ k = t := fun k hk => by
      unfold rsK at hk
      cases hb : st.2.any (bad c mem cf t) with
      | true => rw [hb] at hk; exact .inl hk
      | false =>
        rw [hb, cond_false] at hk
        rcases List.mem_append.1 hk with hk | hk
        · exact .inl (List.mem_filter.1 hk).1
        · exact .inr (List.mem_singleton.1 hk)
    refine ⟨fun k hk => ?_, fun k hk => ?_, fun k hk => ?_, fun u hu hu2 => ?_, ?_, fun u hu hu2 => ?_⟩
    · rcases hsub k hk with hk | rfl
      · exact List.mem_append_left _ (h.kept k hk)
      · exact List.mem_append_right _ (by simp)
    · rcases List.mem_append.1 hk with hk | hk
      · exact h.val k hk
      · rw [List.mem_singleton] at hk; rw [hk]; exact hT
    · rcases List.mem_append.1 hk with hk | hk
      · exact List.mem_append_left _ (h.from_ k hk)
      · exact List.mem_append_right _ hk
    · rcases List.mem_append.1 hu with hu | hu
      · exact List.mem_append_left _ (h.all u hu hu2)
      · exact List.mem_append_right _ hu
    · dsimp only
      unfold rsK
      cases hb : st.2.any (bad c mem cf t) with
      | true => exact h.pw
      | false =>
        rw [cond_false, List.pairwise_append]
        refine ⟨h.pw.filter _, by simp, fun a ha b hb2 => ?_⟩
        rw [List.mem_singleton] at hb2
        subst hb2
        obtain ⟨h1, h2⟩ := List.mem_filter.1 ha
        exact ⟨fun e => hns' (by rw [e]; exact h.kept a h1), by simpa using h2⟩
    · dsimp only at hu hu2 ⊢
      rcases List.mem_append.1 hu with hu | hu
      · by_cases hk : u ∈ st.2
        · unfold rsK at hu2
          cases hb : st.2.any (bad c mem cf t) with
          | true => rw [hb] at hu2; exact absurd hk hu2
          | false =>
            rw [hb, cond_false] at hu2
            have hcf : cfl c mem cf t u = true := by
              cases hh : cfl c mem cf t u with
              | true => rfl
              | false => exact absurd (List.mem_append_left _ (List.mem_filter.2 ⟨hk, by rw [hh]; rfl⟩)) hu2
            exact ⟨t, List.mem_append_right _ (by simp), fun e => hns' (by rw [e]; exact hu), by rw [cfl_comm]; exact hcf⟩
        · obtain ⟨o, h1, h2, h3⟩ := h.rej u hu hk
          exact ⟨o, List.mem_append_left _ h1, h2, h3⟩
      · rw [List.mem_singleton] at hu
        subst hu
        unfold rsK at hu2
        cases hb : st.2.any (bad c mem cf u) with
        | false =>
          rw [hb, cond_false] at hu2
          exact absurd (List.mem_append_right _ (by simp)) hu2
        | true =>
          obtain ⟨k, hk, hbk⟩ := List.any_eq_true.1 hb
          unfold bad at hbk
          rw [Bool.and_eq_true] at hbk
          have hks := h.kept k hk
          exact ⟨k, List.mem_append_left _ hks, fun e => hns' (by rw [← e]; exact hks), hbk.1⟩
theorem peace_all (c : ChD) (mem : List (List Int)) (cf : List Int) : ∀ (ts done : List Int) (st : List Int × List Int), Peace c mem cf done st → Peace c mem cf (done ++ ts) (ts.foldl (rsS c mem cf) st)
  | [], done, st, h => by rw [List.append_nil]; exact h
  | t :: ts, done, st, h => by
    have := peace_all c mem cf ts (done ++ [t]) _ (h.step t)
    rw [List.append_assoc] at this
    exact this
theorem peace (c : ChD) (mem : List (List Int)) (cf ts : List Int) : Peace c mem cf ts (resS c mem cf ts) := by
  have := peace_all c mem cf ts [] ([], []) ⟨fun k hk => by simp at hk, fun k hk => by simp at hk, fun k hk => by simp at hk, fun k hk => by simp at hk, List.Pairwise.nil, fun k hk => by simp at hk⟩
  rw [List.nil_append] at this
  exact this
structure MvX where
  c : ChD
  w : ChS
  g : Sl
  cf : List Int
  s : Sl
  ts : List Int
  m : Sl
  mem : List (List Int)
  name : ByteArray
  ev : Bool
  hs : Sl
def moS (x : MvX) : List Value := [.slice x.g.a x.g.n x.g.cap, .slice x.s.a x.s.n x.s.cap, .slice x.m.a x.m.n x.m.cap, .string x.name, .bool x.ev, .slice x.hs.a x.hs.n x.hs.cap]
def moAgg (x : MvX) : Value := .agg #[.slice x.g.a x.g.n x.g.cap, .slice x.s.a x.s.n x.s.cap, .slice x.m.a x.m.n x.m.cap, .string x.name, .bool x.ev, .slice x.hs.a x.hs.n x.hs.cap]
structure MvOk (x : MvX) : Prop where
  g : IsSrc 1 (ints x.cf) x.g.a x.g.n
  gn : x.g.n * 8 ≤ 140737488351232
  s : IsSrc 1 (ints x.ts) x.s.a x.s.n
  sn : x.s.n * 8 ≤ 140737488351232
structure MvIn (F : Atom) (x : MvX) : Prop where
  ch : ChIn F x.w.v x.c
  g : Srcd F x.g.a (ints x.cf)
  s : Srcd F x.s.a (ints x.ts)
  m : MemIn F (.slice x.m.a x.m.n x.m.cap) x.mem
theorem MvIn.sub {A B : Atom} {x : MvX} (hs : Sub A B) (h : MvIn A x) : MvIn B x := ⟨h.ch.sub hs, Srcd.sub hs h.g, Srcd.sub hs h.s, h.m.sub hs⟩
def lgeC : Con where
  X := MvX
  Y := Bool
  args x := [chAgg x.c x.w, moAgg x]
  pre _ := []
  cond _ := True
  rdc x F := MvIn F x
  rel _ _ := True
  val _ y := .returned (.bool y)
  post _ _ := []
  rmono _ _ _ h hk := hk.sub h
structure LgeI where
  i : Nat
  b : Nat
  b3 : Nat
def lgeInv (x : MvX) (F : Atom) : Nat → Option Inv := fun
  | 0 => some { X := LgeI, P := fun i => i.i ≤ x.w.vt.n, mu := fun i => x.w.vt.n - i.i, lv := fun i => [(2, .pointer (some ⟨i.b, 0, none⟩)), (3, .pointer (some ⟨i.b3, 0, none⟩)), (50, .slice x.w.vt.a x.w.vt.n x.w.vt.cap), (51, .int .i64 x.w.vt.n), (52, .int .i64 i.i)], st := fun i => [.cells i.b (chS x.c x.w) 28, .cells i.b3 (moS x) 68, F] }
  | 2 => some { X := LgeI, P := fun i => i.i ≤ x.m.n, mu := fun i => x.m.n - i.i, lv := fun i => [(2, .pointer (some ⟨i.b, 0, none⟩)), (3, .pointer (some ⟨i.b3, 0, none⟩)), (62, .slice x.m.a x.m.n x.m.cap), (63, .int .i64 x.m.n), (64, .int .i64 i.i)], st := fun i => [.cells i.b (chS x.c x.w) 28, .cells i.b3 (moS x) 68, F] }
  | _ => none
def sh6e : List LH := [.ex 2 (.int .i64), .ex 2 .slice, .ex 2 .str, .ex 2 .slice, .ex 2 .bool, .ex 2 (.int .i64)]
def lgeOv (_x : MvX) (_F : Atom) : List (Nat × Nat × OH) := [(0, 0, .n 1000), (0, 1, .n 1010), (1, 1, .q [.atj 1000]), (1, 6, .q [.atj 1000]), (1, 12, .q [.atj 1010]), (1, 18, .q [.atj 1010]), (1, 24, .q [.atj 1010]), (1, 30, .q [.atj 1010]), (1, 36, .q [.atj 1010]), (3, 1, .q [.atj 1000]), (5, 0, .qo (ixQ 6)), (5, 1, .q sh6e), (5, 2, .n 6020), (5, 3, .w (at6 6020)), (6, 1, .q [.atj 6020]), (9, 1, .q [.atj 1]), (11, 0, .qo (ixQ 1)), (11, 1, .q [.ex 2 .slice])]
noncomputable def lge_H (x : Con.X lgeC) (F : Atom) : Hints where
  op := hk ((lgeOv x F) ++ [])
  inv := lgeInv x F
  cut := (fun _ _ _ => none) x F
  ord := (fun _ => [])
open Go.Value (int slice string bool pointer agg tuple func) in
open Go.IntKind (i64) in
set_option maxRecDepth 100000 in
theorem lge_vc (x : MvX) (F : Atom) (hc : Con.cond lgeC x) (hr : Con.rdc lgeC x F) :
  ∀ (b b_1 : Nat),
 Same ⟨b, 3, none⟩ b ∧
 Br (decide ((↑x.w.vs.n : Int) > (60 : Int))) (Done lgeC x F (Ending.returned (bool true)) [(0, F), (1000, Atom.cells b (chS x.c x.w) 28), (1010, Atom.cells b_1 [slice x.g.a x.g.n x.g.cap, slice x.s.a x.s.n x.s.cap, slice x.m.a x.m.n x.m.cap, string x.name, bool x.ev, slice x.hs.a x.hs.n x.hs.cap] 68)])
 (Same ⟨b, 4, none⟩ b ∧
 Br (decide ((↑x.w.vt.n : Int) > (120 : Int))) (Done lgeC x F (Ending.returned (bool true)) [(0, F), (1000, Atom.cells b (chS x.c x.w) 28), (1010, Atom.cells b_1 [slice x.g.a x.g.n x.g.cap, slice x.s.a x.s.n x.s.cap, slice x.m.a x.m.n x.m.cap, string x.name, bool x.ev, slice x.hs.a x.hs.n x.hs.cap] 68)])
 (Same ⟨b_1, 0, none⟩ b_1 ∧
 Br (decide ((↑x.g.n : Int) > (80 : Int))) (Done lgeC x F (Ending.returned (bool true)) [(0, F), (1000, Atom.cells b (chS x.c x.w) 28), (1010, Atom.cells b_1 [slice x.g.a x.g.n x.g.cap, slice x.s.a x.s.n x.s.cap, slice x.m.a x.m.n x.m.cap, string x.name, bool x.ev, slice x.hs.a x.hs.n x.hs.cap] 68)])
 (Same ⟨b_1, 2, none⟩ b_1 ∧
 Br (decide ((↑x.m.n : Int) > (80 : Int))) (Done lgeC x F (Ending.returned (bool true)) [(0, F), (1000, Atom.cells b (chS x.c x.w) 28), (1010, Atom.cells b_1 [slice x.g.a x.g.n x.g.cap, slice x.s.a x.s.n x.s.cap, slice x.m.a x.m.n x.m.cap, string x.name, bool x.ev, slice x.hs.a x.hs.n x.hs.cap] 68)])
 (Same ⟨b_1, 1, none⟩ b_1 ∧
 Br (decide ((↑x.s.n : Int) > (20 : Int))) (Done lgeC x F (Ending.returned (bool true)) [(0, F), (1000, Atom.cells b (chS x.c x.w) 28), (1010, Atom.cells b_1 [slice x.g.a x.g.n x.g.cap, slice x.s.a x.s.n x.s.cap, slice x.m.a x.m.n x.m.cap, string x.name, bool x.ev, slice x.hs.a x.hs.n x.hs.cap] 68)])
 (Same ⟨b_1, 3, none⟩ b_1 ∧
 Br (decide ((↑x.name.size : Int) > (200 : Int))) (Done lgeC x F (Ending.returned (bool true)) [(0, F), (1000, Atom.cells b (chS x.c x.w) 28), (1010, Atom.cells b_1 [slice x.g.a x.g.n x.g.cap, slice x.s.a x.s.n x.s.cap, slice x.m.a x.m.n x.m.cap, string x.name, bool x.ev, slice x.hs.a x.hs.n x.hs.cap] 68)])
 (Same ⟨b_1, 5, none⟩ b_1 ∧
 Br (decide ((↑x.hs.n : Int) > (300 : Int))) (Done lgeC x F (Ending.returned (bool true)) [(0, F), (1000, Atom.cells b (chS x.c x.w) 28), (1010, Atom.cells b_1 [slice x.g.a x.g.n x.g.cap, slice x.s.a x.s.n x.s.cap, slice x.m.a x.m.n x.m.cap, string x.name, bool x.ev, slice x.hs.a x.hs.n x.hs.cap] 68)])
 (Same ⟨b, 4, none⟩ b ∧
 (∃ (x_1 : LgeI),
 x_1.i ≤ x.w.vt.n ∧
 (pointer (some ⟨b, 0, none⟩) = pointer (some ⟨x_1.b, 0, none⟩) ∧ pointer (some ⟨b_1, 0, none⟩) = pointer (some ⟨x_1.b3, 0, none⟩) ∧ slice x.w.vt.a x.w.vt.n x.w.vt.cap = slice x.w.vt.a x.w.vt.n x.w.vt.cap ∧ int i64 (↑x.w.vt.n : Int) = int i64 (↑x.w.vt.n : Int) ∧ int i64 (0 : Int) = int i64 (↑x_1.i : Int) ∧ True) ∧
 Ent [(0, F), (1000, Atom.cells b (chS x.c x.w) 28), (1010, Atom.cells b_1 [slice x.g.a x.g.n x.g.cap, slice x.s.a x.s.n x.s.cap, slice x.m.a x.m.n x.m.cap, string x.name, bool x.ev, slice x.hs.a x.hs.n x.hs.cap] 68)]
 [(0, Atom.cells x_1.b (chS x.c x.w) 28), (1, Atom.cells x_1.b3 [slice x.g.a x.g.n x.g.cap, slice x.s.a x.s.n x.s.cap, slice x.m.a x.m.n x.m.cap, string x.name, bool x.ev, slice x.hs.a x.hs.n x.hs.cap] 68), (2, F)]) ∧
 ∀ (x_1 : LgeI) (js : Nat → Value),
 x_1.i ≤ x.w.vt.n →
 Br (decide ((↑x_1.i : Int) < (↑x.w.vt.n : Int)))
 (QOpOk Try.prog (opIn Try.f41 5 0) (ixQ 6) ∧
 ∃ (x_2 : IxQX),
 [slice x.w.vt.a x.w.vt.n x.w.vt.cap, int i64 (↑x_1.i : Int)] = [slice (some ⟨x_2.b, x_2.o, none⟩) x_2.len x_2.cap, int i64 x_2.n] ∧
 ((0 : Int) ≤ x_2.n ∧ x_2.n < (↑x_2.len : Int)) ∧
 ∃ (n : Int),
 Look F ⟨x_2.b, x_2.o + x_2.n.toNat * 6, none⟩ (int i64 n) ∧
 ∃ (a : Option Addr),
 ∃ (l : Nat),
 ∃ (c : Nat),
 Look F ⟨x_2.b, x_2.o + x_2.n.toNat * 6 + 1, none⟩ (slice a l c) ∧
 ∃ (s : ByteArray),
 Look F ⟨x_2.b, x_2.o + x_2.n.toNat * 6 + 2, none⟩ (string s) ∧
 ∃ (a_1 : Option Addr),
 ∃ (l_1 : Nat),
 ∃ (c_1 : Nat),
 Look F ⟨x_2.b, x_2.o + x_2.n.toNat * 6 + 3, none⟩ (slice a_1 l_1 c_1) ∧
 ∃ (b : Bool),
 Look F ⟨x_2.b, x_2.o + x_2.n.toNat * 6 + 4, none⟩ (bool b) ∧
 ∃ (n_1 : Int),
 Look F ⟨x_2.b, x_2.o + x_2.n.toNat * 6 + 5, none⟩ (int i64 n_1) ∧
 ∀ (b_2 : Nat),
 Same ⟨b_2, 0, none⟩ b_2 ∧
 Same ⟨b_2, 1, none⟩ b_2 ∧
 Same ⟨b_2, 2, none⟩ b_2 ∧
 Same ⟨b_2, 3, none⟩ b_2 ∧
 Same ⟨b_2, 4, none⟩ b_2 ∧
 Same ⟨b_2, 5, none⟩ b_2 ∧
 Same ⟨b_2, 1, none⟩ b_2 ∧
 Br (decide ((↑l : Int) > (20 : Int))) (Done lgeC x F (Ending.returned (bool true)) [(0, Atom.cells x_1.b (chS x.c x.w) 28), (1, Atom.cells x_1.b3 [slice x.g.a x.g.n x.g.cap, slice x.s.a x.s.n x.s.cap, slice x.m.a x.m.n x.m.cap, string x.name, bool x.ev, slice x.hs.a x.hs.n x.hs.cap] 68), (2, F), (6020, Atom.cells b_2 [int i64 n, slice a l c, string s, slice a_1 l_1 c_1, bool b, int i64 n_1] 76)])
 (((-9223372036854775808 : Int) ≤ (↑x_1.i : Int) + (1 : Int) ∧ (↑x_1.i : Int) + (1 : Int) ≤ (9223372036854775807 : Int)) ∧
 ∃ (y : LgeI),
 y.i ≤ x.w.vt.n ∧
 (pointer (some ⟨x_1.b, 0, none⟩) = pointer (some ⟨y.b, 0, none⟩) ∧ pointer (some ⟨x_1.b3, 0, none⟩) = pointer (some ⟨y.b3, 0, none⟩) ∧ slice x.w.vt.a x.w.vt.n x.w.vt.cap = slice x.w.vt.a x.w.vt.n x.w.vt.cap ∧ int i64 (↑x.w.vt.n : Int) = int i64 (↑x.w.vt.n : Int) ∧ int i64 ((↑x_1.i : Int) + (1 : Int)) = int i64 (↑y.i : Int) ∧ True) ∧
 Ent [(0, Atom.cells x_1.b (chS x.c x.w) 28), (1, Atom.cells x_1.b3 [slice x.g.a x.g.n x.g.cap, slice x.s.a x.s.n x.s.cap, slice x.m.a x.m.n x.m.cap, string x.name, bool x.ev, slice x.hs.a x.hs.n x.hs.cap] 68), (2, F), (6020, Atom.cells b_2 [int i64 n, slice a l c, string s, slice a_1 l_1 c_1, bool b, int i64 n_1] 76)]
 [(0, Atom.cells y.b (chS x.c x.w) 28), (1, Atom.cells y.b3 [slice x.g.a x.g.n x.g.cap, slice x.s.a x.s.n x.s.cap, slice x.m.a x.m.n x.m.cap, string x.name, bool x.ev, slice x.hs.a x.hs.n x.hs.cap] 68), (2, F)] ∧
 x.w.vt.n - y.i < x.w.vt.n - x_1.i))
 (Same ⟨x_1.b3, 2, none⟩ x_1.b3 ∧
 (∃ (x_2 : LgeI),
 x_2.i ≤ x.m.n ∧
 (pointer (some ⟨x_1.b, 0, none⟩) = pointer (some ⟨x_2.b, 0, none⟩) ∧ pointer (some ⟨x_1.b3, 0, none⟩) = pointer (some ⟨x_2.b3, 0, none⟩) ∧ slice x.m.a x.m.n x.m.cap = slice x.m.a x.m.n x.m.cap ∧ int i64 (↑x.m.n : Int) = int i64 (↑x.m.n : Int) ∧ int i64 (0 : Int) = int i64 (↑x_2.i : Int) ∧ True) ∧
 Ent [(0, Atom.cells x_1.b (chS x.c x.w) 28), (1, Atom.cells x_1.b3 [slice x.g.a x.g.n x.g.cap, slice x.s.a x.s.n x.s.cap, slice x.m.a x.m.n x.m.cap, string x.name, bool x.ev, slice x.hs.a x.hs.n x.hs.cap] 68), (2, F)]
 [(0, Atom.cells x_2.b (chS x.c x.w) 28), (1, Atom.cells x_2.b3 [slice x.g.a x.g.n x.g.cap, slice x.s.a x.s.n x.s.cap, slice x.m.a x.m.n x.m.cap, string x.name, bool x.ev, slice x.hs.a x.hs.n x.hs.cap] 68), (2, F)]) ∧
 ∀ (x_2 : LgeI) (js : Nat → Value),
 x_2.i ≤ x.m.n →
 Br (decide ((↑x_2.i : Int) < (↑x.m.n : Int)))
 (QOpOk Try.prog (opIn Try.f41 11 0) (ixQ 1) ∧
 ∃ (x_3 : IxQX),
 [slice x.m.a x.m.n x.m.cap, int i64 (↑x_2.i : Int)] = [slice (some ⟨x_3.b, x_3.o, none⟩) x_3.len x_3.cap, int i64 x_3.n] ∧
 ((0 : Int) ≤ x_3.n ∧ x_3.n < (↑x_3.len : Int)) ∧
 ∃ (a : Option Addr),
 ∃ (l : Nat),
 ∃ (c : Nat),
 Look F ⟨x_3.b, x_3.o + x_3.n.toNat * 1, none⟩ (slice a l c) ∧
 Br (decide ((↑l : Int) > (40 : Int))) (Done lgeC x F (Ending.returned (bool true)) [(0, Atom.cells x_2.b (chS x.c x.w) 28), (1, Atom.cells x_2.b3 [slice x.g.a x.g.n x.g.cap, slice x.s.a x.s.n x.s.cap, slice x.m.a x.m.n x.m.cap, string x.name, bool x.ev, slice x.hs.a x.hs.n x.hs.cap] 68), (2, F)])
 (((-9223372036854775808 : Int) ≤ (↑x_2.i : Int) + (1 : Int) ∧ (↑x_2.i : Int) + (1 : Int) ≤ (9223372036854775807 : Int)) ∧
 ∃ (y : LgeI),
 y.i ≤ x.m.n ∧
 (pointer (some ⟨x_2.b, 0, none⟩) = pointer (some ⟨y.b, 0, none⟩) ∧ pointer (some ⟨x_2.b3, 0, none⟩) = pointer (some ⟨y.b3, 0, none⟩) ∧ slice x.m.a x.m.n x.m.cap = slice x.m.a x.m.n x.m.cap ∧ int i64 (↑x.m.n : Int) = int i64 (↑x.m.n : Int) ∧ int i64 ((↑x_2.i : Int) + (1 : Int)) = int i64 (↑y.i : Int) ∧ True) ∧
 Ent [(0, Atom.cells x_2.b (chS x.c x.w) 28), (1, Atom.cells x_2.b3 [slice x.g.a x.g.n x.g.cap, slice x.s.a x.s.n x.s.cap, slice x.m.a x.m.n x.m.cap, string x.name, bool x.ev, slice x.hs.a x.hs.n x.hs.cap] 68), (2, F)]
 [(0, Atom.cells y.b (chS x.c x.w) 28), (1, Atom.cells y.b3 [slice x.g.a x.g.n x.g.cap, slice x.s.a x.s.n x.s.cap, slice x.m.a x.m.n x.m.cap, string x.name, bool x.ev, slice x.hs.a x.hs.n x.hs.cap] 68), (2, F)] ∧
 x.m.n - y.i < x.m.n - x_2.i))
 (Done lgeC x F (Ending.returned (bool false)) [(0, Atom.cells x_2.b (chS x.c x.w) 28), (1, Atom.cells x_2.b3 [slice x.g.a x.g.n x.g.cap, slice x.s.a x.s.n x.s.cap, slice x.m.a x.m.n x.m.cap, string x.name, bool x.ev, slice x.hs.a x.hs.n x.hs.cap] 68), (2, F)]))))))))) := by
  obtain ⟨c, ⟨⟨va, vn, vcap⟩, ⟨ta, tn, tc⟩, wb, wd, wi⟩, ⟨ga, gn, gc⟩, cf, ⟨sa, sn, sc⟩, ts, ⟨ma, mn, mc⟩, mem, name, ev, hs⟩ := x
  obtain ⟨hch, hg, hs', hm⟩ := hr
  dsimp only at hch hg hs' hm ⊢
  have h2 := hch.trs
  dsimp only [ChS.v] at h2
  obtain ⟨m1, -, m3⟩ := h2.num
  obtain ⟨n1, -, n3⟩ := SlIn.num hm
  have yes : ∀ {S : St}, Ent S (ofL [F]) → Done lgeC ⟨c, ⟨⟨va, vn, vcap⟩, ⟨ta, tn, tc⟩, wb, wd, wi⟩, ⟨ga, gn, gc⟩, cf, ⟨sa, sn, sc⟩, ts, ⟨ma, mn, mc⟩, mem, name, ev, hs⟩ F (.returned (.bool true)) S := fun h => ⟨true, trivial, rfl, h⟩
  intro b b3
  refine ⟨⟨rfl, rfl⟩, br_intro (fun _ => yes (Ent.pick [0] rfl rfl)) (fun _ => ⟨⟨rfl, rfl⟩, br_intro (fun _ => yes (Ent.pick [0] rfl rfl)) (fun _ => ⟨⟨rfl, rfl⟩, br_intro (fun _ => yes (Ent.pick [0] rfl rfl)) (fun _ => ⟨⟨rfl, rfl⟩, br_intro (fun _ => yes (Ent.pick [0] rfl rfl)) (fun _ => ⟨⟨rfl, rfl⟩, br_intro (fun _ => yes (Ent.pick [0] rfl rfl)) (fun _ => ⟨⟨rfl, rfl⟩, br_intro (fun _ => yes (Ent.pick [0] rfl rfl)) (fun _ => ⟨⟨rfl, rfl⟩, br_intro (fun _ => yes (Ent.pick [0] rfl rfl)) (fun _ => ⟨⟨rfl, rfl⟩, ⟨⟨0, b, b3⟩, Nat.zero_le _, ⟨rfl, rfl, rfl, rfl, rfl, trivial⟩, Ent.pick [1000, 1010, 0] rfl rfl⟩, ?_⟩)⟩)⟩)⟩)⟩)⟩)⟩)⟩
  clear b b3
  rintro ⟨i, b, b3⟩ js hi
  dsimp only at hi ⊢
  refine br_decide (fun hlt => ?_) (fun hge => ⟨⟨rfl, rfl⟩, ⟨⟨0, b, b3⟩, Nat.zero_le _, ⟨rfl, rfl, rfl, rfl, rfl, trivial⟩, Ent.pick [0, 1, 2] rfl rfl⟩, ?_⟩)
  · obtain ⟨tt, ht⟩ : ∃ tt, c.trs[i]? = some tt := ⟨_, List.getElem?_eq_getElem (by omega)⟩
    obtain ⟨b0, o0, r, rfl, ⟨ve, vt, rfl, p1, p2⟩, hL⟩ := h2.at' ht
    obtain ⟨ka, kc, rfl, -⟩ := SlIn.open p2
    obtain ⟨la, lc, rfl, -⟩ := SlIn.open p1
    refine ⟨ixq_ok 6 rfl rfl rfl rfl, ⟨b0, o0, tn, tc, i⟩, rfl, by dsimp only; omega, tt.source, hL 0 _ rfl, _, _, _, hL 1 _ rfl, tt.cond, hL 2 _ rfl, _, _, _, hL 3 _ rfl, tt.internal, hL 4 _ rfl, tt.block, hL 5 _ rfl, fun b2 => ?_⟩
    iterate 7 refine ⟨⟨rfl, rfl⟩, ?_⟩
    exact br_intro (fun _ => yes (Ent.pick [2] rfl rfl)) (fun _ => ⟨⟨by omega, by omega⟩, ⟨i + 1, b, b3⟩, by dsimp only; omega, ⟨rfl, rfl, rfl, rfl, rfl, trivial⟩, Ent.pick [0, 1, 2] rfl rfl, by dsimp only; omega⟩)
  · clear hge hi
    clear b b3 i
    rintro ⟨i, b, b3⟩ js hi
    dsimp only at hi ⊢
    refine br_decide (fun hlt => ?_) (fun hge => ⟨false, trivial, rfl, Ent.pick [2] rfl rfl⟩)
    obtain ⟨m, hmi⟩ : ∃ m, mem[i]? = some m := ⟨_, List.getElem?_eq_getElem (by omega)⟩
    obtain ⟨b0, o0, r, rfl, ⟨u, rfl, hI⟩, hL⟩ := SlIn.at' hm hmi
    obtain ⟨ka, kcap, rfl, -⟩ := SlIn.open hI
    have eo : o0 + (i : Int).toNat * 1 = o0 + i * 1 + 0 := by omega
    exact ⟨ixq_ok 1 rfl rfl rfl rfl, ⟨b0, o0, mn, mc, i⟩, rfl, by dsimp only; omega, _, _, _, by dsimp only; rw [eo]; exact hL 0 _ rfl, br_intro (fun _ => yes (Ent.pick [2] rfl rfl)) (fun _ => ⟨⟨by omega, by omega⟩, ⟨i + 1, b, b3⟩, by dsimp only; omega, ⟨rfl, rfl, rfl, rfl, rfl, trivial⟩, Ent.pick [0, 1, 2] rfl rfl, by dsimp only; omega⟩)⟩
set_option maxRecDepth 100000 in
theorem lge_ok : FnOk Try.prog 41 lgeC :=
  fnOk (N := 72) (by kernel_rfl) Try.func41 rfl (by kernel_rfl) (fun _ => Nat.le_of_ble_eq_true rfl) lge_H [] fun x F hc hr => Eq.mpr (by kernel_rfl) (lge_vc x F hc hr)
/-- A law of a chart and a Move. -/
def mvC (Q : ChD → Prop) : Con where
  X := MvX
  Y := Unit
  args x := [chAgg x.c x.w, moAgg x]
  pre _ := []
  cond x := Q x.c ∧ MvOk x
  rdc x F := MvIn F x
  rel _ _ := True
  val _ _ := .returned (.bool true)
  post _ _ := []
  rmono _ _ _ h hk := hk.sub h
def noInv (_x : MvX) (_F : Atom) : Nat → Option Inv := fun
  | _ => some { X := Unit, P := fun _ => True, mu := fun _ => 0, lv := fun _ => [], st := fun _ => [] }
end Go.Proofs.Ytkmdgnbfojkcnaa
