/- ClockSplits: its walk. -/
import Derived.Test.YtmknmibmnidnoaaClkO
set_option linter.all false
namespace Go.Proofs.Ytmknmibmnidnoaa
open Go
def encC (cs : List CallD) : List Value := cs.flatMap CallD.enc
theorem encC_length (cs : List CallD) : (encC cs).length = cs.length * 6 := by
  induction cs with
  | nil => rfl
  | cons t r ih => simp only [encC, List.flatMap_cons, List.length_append] at *; rw [ih]; simp [CallD.enc]; omega
theorem encC_cons (a : CallD) (b : List CallD) : encC (a :: b) = a.enc ++ encC b := rfl
theorem encC_get (cs : List CallD) : ∀ (i j : Nat) (t : CallD), cs[i]? = some t → j < 6 → (encC cs)[i * 6 + j]? = t.enc[j]? := by
  induction cs with
  | nil => intro i j t h; simp at h
  | cons x r ih =>
    intro i j t h hj
    rw [encC_cons]
    cases i with
    | zero =>
      simp only [List.getElem?_cons_zero, Option.some.injEq] at h
      subst h
      rw [List.getElem?_append_left (by simp [CallD.enc]; omega)]
      simp
    | succ i =>
      simp only [List.getElem?_cons_succ] at h
      rw [List.getElem?_append_right (by simp [CallD.enc]; omega)]
      have : (i + 1) * 6 + j - x.enc.length = i * 6 + j := by simp [CallD.enc]; omega
      rw [this]
      exact ih i j t h hj
def stepC (s : Clk) (c : CallD) : Clk := ⟨stepN s c, stepT s c⟩
def run (cs : List CallD) : Clk := cs.foldl stepC ⟨0, []⟩
theorem run_snoc (cs : List CallD) (c : CallD) : run (cs ++ [c]) = stepC (run cs) c := by simp [run]
theorem run_take {cs : List CallD} {k : Nat} {c : CallD} (h : cs[k]? = some c) : run (cs.take (k + 1)) = stepC (run (cs.take k)) c := by
  rw [List.take_add_one, h]; exact run_snoc _ _
theorem tickNow_bnd {now by' : Int} (h0 : 0 ≤ now) (h1 : now ≤ 9007199254740992) : 0 ≤ tickNow now by' ∧ tickNow now by' ≤ 9007199254740992 := by
  by_cases h : by' < 0 ∨ by' > 9007199254740992 - now
  · have := tickE_bad h
    unfold tickNow; rw [this]; exact ⟨h0, h1⟩
  · have := tickE_ok (now := now) (by' := by') (by omega) (by omega)
    unfold tickNow; rw [this]; show 0 ≤ now + by' ∧ now + by' ≤ 9007199254740992; omega
theorem stepN_bnd {s : Clk} (c : CallD) (h : 0 ≤ s.now ∧ s.now ≤ 9007199254740992) : 0 ≤ stepN s c ∧ stepN s c ≤ 9007199254740992 := by
  unfold stepN
  cases k5 c == 3
  · exact h
  · exact tickNow_bnd h.1 h.2
theorem run_bnd (cs : List CallD) : 0 ≤ (run cs).now ∧ (run cs).now ≤ 9007199254740992 := by
  have : ∀ (cs : List CallD) (s : Clk), (0 ≤ s.now ∧ s.now ≤ 9007199254740992) → 0 ≤ (cs.foldl stepC s).now ∧ (cs.foldl stepC s).now ≤ 9007199254740992 := by
    intro cs
    induction cs with
    | nil => intro s h; exact h
    | cons c r ih => intro s h; exact ih _ (stepN_bnd c h)
  exact this cs ⟨0, []⟩ ⟨by decide, by decide⟩
theorem filter_split {A B : Int} (hAB : A ≤ B) {ts : List Tmr} (h : Srt ts) :
    (ts.filter fun t => decide (t.due ≤ A)) ++ ((ts.filter fun t => !decide (t.due ≤ A)).filter fun t => decide (t.due ≤ B)) = ts.filter fun t => decide (t.due ≤ B) := by
  induction ts with
  | nil => rfl
  | cons x r ih =>
    have hx := List.pairwise_cons.1 h
    by_cases hd : x.due ≤ A
    · rw [List.filter_cons_of_pos (by simpa using hd), List.filter_cons_of_neg (by simpa using hd), List.filter_cons_of_pos (p := fun t : Tmr => decide (t.due ≤ B)) (by simp; omega), List.cons_append, ih hx.2]
    · have h1 : (x :: r).filter (fun t => decide (t.due ≤ A)) = [] := by
        rw [List.filter_eq_nil_iff]
        intro u hu
        rcases List.mem_cons.1 hu with rfl | hu
        · simpa using hd
        · have := hx.1 u hu
          simp; omega
      have h2 : (x :: r).filter (fun t => !decide (t.due ≤ A)) = x :: r := by
        rw [List.filter_eq_self]
        intro u hu
        rcases List.mem_cons.1 hu with rfl | hu
        · simpa using hd
        · have := hx.1 u hu
          simp; omega
      rw [h1, h2]; rfl
theorem stay_split {A B : Int} (hAB : A ≤ B) (ts : List Tmr) :
    ((ts.filter fun t => !decide (t.due ≤ A)).filter fun t => !decide (t.due ≤ B)) = ts.filter fun t => !decide (t.due ≤ B) := by
  rw [List.filter_filter]
  refine List.filter_congr fun u _ => ?_
  by_cases h : u.due ≤ A
  · simp [h]; omega
  · simp [h]
theorem spl_cases {now u v : Int} (hu : 0 ≤ u) (hv : 0 ≤ v) :
    (tickE now u = 1 ∧ tickE now (u + v) = 1) ∨ (tickE now u = 0 ∧ tickNow now u = now + u ∧ tickE (now + u) v = 1 ∧ tickE now (u + v) = 1) ∨
    (tickE now u = 0 ∧ tickNow now u = now + u ∧ tickE (now + u) v = 0 ∧ tickE now (u + v) = 0) := by
  have hn : tickE now u = 0 → tickNow now u = now + u := fun h => by unfold tickNow; rw [h]; rfl
  by_cases h1 : u > 9007199254740992 - now
  · exact .inl ⟨tickE_bad (.inr h1), tickE_bad (.inr (by omega))⟩
  · have e1 := tickE_ok (now := now) (by' := u) (by omega) h1
    by_cases h2 : v > 9007199254740992 - (now + u)
    · exact .inr (.inl ⟨e1, hn e1, tickE_bad (.inr h2), tickE_bad (.inr (by omega))⟩)
    · exact .inr (.inr ⟨e1, hn e1, tickE_ok (by omega) h2, tickE_ok (by omega) (by omega)⟩)
theorem tickG_ok {now by' : Int} (h : tickE now by' = 0) : tickG now by' = fun t => decide (t.due ≤ now + by') := by funext t; unfold tickG; rw [h]; rfl
theorem IsRow.none0 {e : TypeId} {k : Nat} {cs : List Value} {r : Row} (h : IsRow e k cs r) : r.a = none → r.n = 0 ∧ r.cap = 0 := by
  cases h with
  | nil _ => intro _; exact ⟨rfl, rfl⟩
  | blk b n cap sp hl hs hn => intro h; cases h
theorem ints_append (a b : List Int) : ints (a ++ b) = ints a ++ ints b := by simp [ints]
theorem nts_le (g : Tmr → Bool) (ts : List Tmr) : (nts g ts).length ≤ ts.length := by unfold nts; rw [List.length_map]; exact List.length_filter_le _ _
structure SplX where
  a : Option Addr
  n : Nat
  cap : Nat
  cs : List CallD
  u : Int
  v : Int
def splC : Con where
  X := SplX
  Y := Unit
  args x := [.slice x.a x.n x.cap, .int .u32 x.u, .int .u32 x.v]
  pre _ := []
  cond x := IsSrc 6 (encC x.cs) x.a x.n ∧ 0 ≤ x.u ∧ x.u ≤ 4294967295 ∧ 0 ≤ x.v ∧ x.v ≤ 4294967295
  rdc x F := Srcd F x.a (encC x.cs)
  rel _ _ := True
  val _ _ := .returned (.bool true)
  post _ _ := []
  rmono _ _ _ h hk := hk.sub h
structure SplI where
  k : Nat
  b : Nat
  c : Nat
  row : Row
  row2 : Row
def splInv (x : SplX) (F : Atom) : Nat → Option Inv := fun
  | 0 => some { X := SplI, P := fun i => x.n ≤ 400 ∧ i.k ≤ x.n ∧ isTs (run (x.cs.take i.k)).ts i.row ∧ isTs (run (x.cs.take i.k)).ts i.row2, mu := fun i => x.n - i.k, lv := fun i => [(0, .slice x.a x.n x.cap), (1, .int .u32 x.u), (2, .int .u32 x.v), (7, .pointer (some ⟨i.b, 0, none⟩)), (8, .pointer (some ⟨i.c, 0, none⟩)), (30, .slice x.a x.n x.cap), (31, .int .i64 x.n), (32, .int .i64 i.k)], st := fun i => [F, clkA i.b (run (x.cs.take i.k)).now i.row, i.row.A, clkA i.c (run (x.cs.take i.k)).now i.row2, i.row2.A] }
  | _ => none
def splOv (_x : SplX) (_F : Atom) : List (Nat × Nat × OH) := [(1, 0, .c awakeC [] []), (5, 0, .c newC [] [100]), (5, 1, .c newC [] [101]), (10, 0, .qo (ixQ 6)), (10, 1, .q [.ex 0 (.int .u8), .ex 0 (.int .i64), .ex 0 .str, .ex 0 (.int .i64), .ex 0 (.int .i64), .ex 0 (.int .i64)]), (11, 2, .c playC [1, 2] [1, 2, 71]), (12, 2, .c playC [3, 4] [3, 4, 72]),
  (14, 3, .c tickC [1, 2] [1, 2, 81]), (15, 3, .c tickC [1, 2] [1, 2, 82]), (16, 6, .c tickC [3, 4] [3, 4, 83]), (19, 2, .o (apC 3 1 8) [20000] [84]), (19, 4, .o (apC 3 1 8) [84] [85]), (19, 6, .c sameC [] []), (19, 9, .c timersC [1, 2] [1, 2, 91]), (19, 11, .c timersC [3, 4] [3, 4, 92]), (19, 12, .c tmsC [] []), (19, 16, .c nowC [1] [1]), (19, 18, .c nowC [3] [3])]
noncomputable def spl_H (x : Con.X splC) (F : Atom) : Hints where
  op := hk ((splOv x F) ++ [(10, 2, OH.n (11020 : Nat)),   (19, 0, OH.n (20000 : Nat)),   (10, 3, OH.w [LH.atj (11020 : Nat), LH.atj (11020 : Nat), LH.atj (11020 : Nat), LH.atj (11020 : Nat), LH.atj (11020 : Nat), LH.atj (11020 : Nat)]),   (11, 1, OH.q [LH.atj (11020 : Nat), LH.atj (11020 : Nat), LH.atj (11020 : Nat), LH.atj (11020 : Nat), LH.atj (11020 : Nat), LH.atj (11020 : Nat)]),   (12, 1, OH.q [LH.atj (11020 : Nat), LH.atj (11020 : Nat), LH.atj (11020 : Nat), LH.atj (11020 : Nat), LH.atj (11020 : Nat), LH.atj (11020 : Nat)])])
  inv := splInv x F
  cut := (fun _ _ _ => none) x F
  ord := (fun _ => [])
set_option maxRecDepth 100000 in
theorem spl_vc (x : SplX) (F : Atom) (hc : Con.cond splC x) (hr : Con.rdc splC x F) :
  FnOk Try.prog (7 : Nat) awakeC ∧
    true = true ∧
      ∃ (x_1 : Unit),
        ([] : List Value) = [] ∧
          ([] : List Atom) = [] ∧
            True ∧
              True ∧
                ∀ (y : Unit),
                  True →
                    Br (decide ((↑x.n : Int) > (400 : Int))) (Done splC x F (Ending.returned (Value.bool true)) [((0 : Nat), F)])
                      (FnOk Try.prog (8 : Nat) newC ∧
                        true = true ∧
                          ∃ (x_2 : Unit),
                            ([] : List Value) = [] ∧
                              ([] : List Atom) = [] ∧
                                True ∧
                                  True ∧
                                    ∀ (y : Nat),
                                      True →
                                        FnOk Try.prog (8 : Nat) newC ∧
                                          true = true ∧
                                            ∃ (x_3 : Unit),
                                              ([] : List Value) = [] ∧
                                                ([] : List Atom) = [] ∧
                                                  True ∧
                                                    True ∧
                                                      ∀ (y_1 : Nat),
                                                        True →
                                                          (∃ (x_4 : SplI),
                                                              (x.n ≤ (400 : Nat) ∧ x_4.k ≤ x.n ∧ isTs (run (List.take x_4.k x.cs)).ts x_4.row ∧ isTs (run (List.take x_4.k x.cs)).ts x_4.row2) ∧
                                                                (Value.slice x.a x.n x.cap = Value.slice x.a x.n x.cap ∧ Value.int IntKind.u32 x.u = Value.int IntKind.u32 x.u ∧ Value.int IntKind.u32 x.v = Value.int IntKind.u32 x.v ∧ Value.pointer (some { block := y, off := (0 : Nat) }) = Value.pointer (some { block := x_4.b, off := (0 : Nat) }) ∧ Value.pointer (some { block := y_1, off := (0 : Nat) }) = Value.pointer (some { block := x_4.c, off := (0 : Nat) }) ∧ Value.slice x.a x.n x.cap = Value.slice x.a x.n x.cap ∧ Value.int IntKind.i64 (↑x.n : Int) = Value.int IntKind.i64 (↑x.n : Int) ∧ Value.int IntKind.i64 (0 : Int) = Value.int IntKind.i64 (↑x_4.k : Int) ∧ True) ∧
                                                                  Ent [((0 : Nat), F), ((100 : Nat), Atom.cells y [Value.int IntKind.i64 (0 : Int), Value.slice none (0 : Nat) (0 : Nat)] (59 : Nat)), ((101 : Nat), Atom.cells y_1 [Value.int IntKind.i64 (0 : Int), Value.slice none (0 : Nat) (0 : Nat)] (59 : Nat))] [((0 : Nat), F), ((1 : Nat), Atom.cells x_4.b [Value.int IntKind.i64 (run (List.take x_4.k x.cs)).now, Value.slice x_4.row.a x_4.row.n x_4.row.cap] (59 : Nat)), ((2 : Nat), x_4.row.A), ((3 : Nat), Atom.cells x_4.c [Value.int IntKind.i64 (run (List.take x_4.k x.cs)).now, Value.slice x_4.row2.a x_4.row2.n x_4.row2.cap] (59 : Nat)), ((4 : Nat), x_4.row2.A)]) ∧
                                                            ∀ (x_4 : SplI) (js : Nat → Value),
                                                              x.n ≤ (400 : Nat) ∧ x_4.k ≤ x.n ∧ isTs (run (List.take x_4.k x.cs)).ts x_4.row ∧ isTs (run (List.take x_4.k x.cs)).ts x_4.row2 →
                                                                Br (decide ((↑x_4.k : Int) < (↑x.n : Int)))
                                                                  (QOpOk Try.prog (opIn Try.f4 (10 : Nat) (0 : Nat)) (ixQ (6 : Nat)) ∧
                                                                    ∃ (x_5 : IxQX),
                                                                      [Value.slice x.a x.n x.cap, Value.int IntKind.i64 (↑x_4.k : Int)] = [Value.slice (some { block := x_5.b, off := x_5.o }) x_5.len x_5.cap, Value.int IntKind.i64 x_5.n] ∧
                                                                        ((0 : Int) ≤ x_5.n ∧ x_5.n < (↑x_5.len : Int)) ∧
                                                                          ∃ (n : Int),
                                                                            Look F { block := x_5.b, off := x_5.o + x_5.n.toNat * (6 : Nat) } (Value.int IntKind.u8 n) ∧
                                                                              ∃ (n_1 : Int),
                                                                                Look F { block := x_5.b, off := x_5.o + x_5.n.toNat * (6 : Nat) + (1 : Nat) } (Value.int IntKind.i64 n_1) ∧
                                                                                  ∃ (s : ByteArray),
                                                                                    Look F { block := x_5.b, off := x_5.o + x_5.n.toNat * (6 : Nat) + (2 : Nat) } (Value.string s) ∧
                                                                                      ∃ (n_2 : Int),
                                                                                        Look F { block := x_5.b, off := x_5.o + x_5.n.toNat * (6 : Nat) + (3 : Nat) } (Value.int IntKind.i64 n_2) ∧
                                                                                          ∃ (n_3 : Int),
                                                                                            Look F { block := x_5.b, off := x_5.o + x_5.n.toNat * (6 : Nat) + (4 : Nat) } (Value.int IntKind.i64 n_3) ∧
                                                                                              ∃ (n_4 : Int),
                                                                                                Look F { block := x_5.b, off := x_5.o + x_5.n.toNat * (6 : Nat) + (5 : Nat) } (Value.int IntKind.i64 n_4) ∧
                                                                                                  ∀ (b : Nat),
                                                                                                    Same { block := b, off := (0 : Nat) } b ∧
                                                                                                      Same { block := b, off := (1 : Nat) } b ∧
                                                                                                        Same { block := b, off := (2 : Nat) } b ∧
                                                                                                          Same { block := b, off := (3 : Nat) } b ∧
                                                                                                            Same { block := b, off := (4 : Nat) } b ∧
                                                                                                              Same { block := b, off := (5 : Nat) } b ∧
                                                                                                                Same { block := b, off := (0 : Nat) } b ∧
                                                                                                                  Same { block := b, off := (1 : Nat) } b ∧
                                                                                                                    Same { block := b, off := (2 : Nat) } b ∧
                                                                                                                      Same { block := b, off := (3 : Nat) } b ∧
                                                                                                                        Same { block := b, off := (4 : Nat) } b ∧
                                                                                                                          Same { block := b, off := (5 : Nat) } b ∧
                                                                                                                            FnOk Try.prog (9 : Nat) playC ∧
                                                                                                                              true = true ∧
                                                                                                                                ∃ (x_6 : PlayX),
                                                                                                                                  [Value.pointer (some { block := x_4.b, off := (0 : Nat) }), Value.agg { toList := [Value.int IntKind.u8 n, Value.int IntKind.i64 n_1, Value.string s, Value.int IntKind.i64 n_2, Value.int IntKind.i64 n_3, Value.int IntKind.i64 n_4] }] = [Value.pointer (some { block := x_6.b, off := (0 : Nat) }), Value.agg { toList := [Value.int IntKind.u8 x_6.c.kind, Value.int IntKind.i64 x_6.c.ow, Value.string x_6.c.id, Value.int IntKind.i64 x_6.c.dl, Value.int IntKind.i64 x_6.c.n, Value.int IntKind.i64 x_6.c.by'] }] ∧
                                                                                                                                    [Atom.cells x_4.b [Value.int IntKind.i64 (run (List.take x_4.k x.cs)).now, Value.slice x_4.row.a x_4.row.n x_4.row.cap] (59 : Nat), x_4.row.A] = [Atom.cells x_6.b [Value.int IntKind.i64 x_6.s.now, Value.slice x_6.row.a x_6.row.n x_6.row.cap] (59 : Nat), x_6.row.A] ∧
                                                                                                                                      (isTs x_6.s.ts x_6.row ∧ (0 : Int) ≤ x_6.s.now ∧ x_6.s.now ≤ (9007199254740992 : Int)) ∧
                                                                                                                                        True ∧
                                                                                                                                          ∀ (y : DfY),
                                                                                                                                            isTs (stepT x_6.s x_6.c) y.row ∧ isNs (stepO x_6.s x_6.c) y.r →
                                                                                                                                              Same { block := b, off := (0 : Nat) } b ∧
                                                                                                                                                Same { block := b, off := (1 : Nat) } b ∧
                                                                                                                                                  Same { block := b, off := (2 : Nat) } b ∧
                                                                                                                                                    Same { block := b, off := (3 : Nat) } b ∧
                                                                                                                                                      Same { block := b, off := (4 : Nat) } b ∧
                                                                                                                                                        Same { block := b, off := (5 : Nat) } b ∧
                                                                                                                                                          FnOk Try.prog (9 : Nat) playC ∧
                                                                                                                                                            true = true ∧
                                                                                                                                                              ∃ (x_7 : PlayX),
                                                                                                                                                                [Value.pointer (some { block := x_4.c, off := (0 : Nat) }), Value.agg { toList := [Value.int IntKind.u8 n, Value.int IntKind.i64 n_1, Value.string s, Value.int IntKind.i64 n_2, Value.int IntKind.i64 n_3, Value.int IntKind.i64 n_4] }] = [Value.pointer (some { block := x_7.b, off := (0 : Nat) }), Value.agg { toList := [Value.int IntKind.u8 x_7.c.kind, Value.int IntKind.i64 x_7.c.ow, Value.string x_7.c.id, Value.int IntKind.i64 x_7.c.dl, Value.int IntKind.i64 x_7.c.n, Value.int IntKind.i64 x_7.c.by'] }] ∧
                                                                                                                                                                  [Atom.cells x_4.c [Value.int IntKind.i64 (run (List.take x_4.k x.cs)).now, Value.slice x_4.row2.a x_4.row2.n x_4.row2.cap] (59 : Nat), x_4.row2.A] = [Atom.cells x_7.b [Value.int IntKind.i64 x_7.s.now, Value.slice x_7.row.a x_7.row.n x_7.row.cap] (59 : Nat), x_7.row.A] ∧
                                                                                                                                                                    (isTs x_7.s.ts x_7.row ∧ (0 : Int) ≤ x_7.s.now ∧ x_7.s.now ≤ (9007199254740992 : Int)) ∧
                                                                                                                                                                      True ∧
                                                                                                                                                                        ∀ (y_2 : DfY),
                                                                                                                                                                          isTs (stepT x_7.s x_7.c) y_2.row ∧ isNs (stepO x_7.s x_7.c) y_2.r →
                                                                                                                                                                            ((-9223372036854775808 : Int) ≤ (↑x_4.k : Int) + (1 : Int) ∧ (↑x_4.k : Int) + (1 : Int) ≤ (9223372036854775807 : Int)) ∧
                                                                                                                                                                              ∃ (y_3 : SplI),
                                                                                                                                                                                (x.n ≤ (400 : Nat) ∧ y_3.k ≤ x.n ∧ isTs (run (List.take y_3.k x.cs)).ts y_3.row ∧ isTs (run (List.take y_3.k x.cs)).ts y_3.row2) ∧
                                                                                                                                                                                  (Value.slice x.a x.n x.cap = Value.slice x.a x.n x.cap ∧ Value.int IntKind.u32 x.u = Value.int IntKind.u32 x.u ∧ Value.int IntKind.u32 x.v = Value.int IntKind.u32 x.v ∧ Value.pointer (some { block := x_4.b, off := (0 : Nat) }) = Value.pointer (some { block := y_3.b, off := (0 : Nat) }) ∧ Value.pointer (some { block := x_4.c, off := (0 : Nat) }) = Value.pointer (some { block := y_3.c, off := (0 : Nat) }) ∧ Value.slice x.a x.n x.cap = Value.slice x.a x.n x.cap ∧ Value.int IntKind.i64 (↑x.n : Int) = Value.int IntKind.i64 (↑x.n : Int) ∧ Value.int IntKind.i64 ((↑x_4.k : Int) + (1 : Int)) = Value.int IntKind.i64 (↑y_3.k : Int) ∧ True) ∧
                                                                                                                                                                                    Ent [((0 : Nat), F), ((1 : Nat), Atom.cells x_6.b [Value.int IntKind.i64 (stepN x_6.s x_6.c), Value.slice y.row.a y.row.n y.row.cap] (59 : Nat)), ((2 : Nat), y.row.A), ((3 : Nat), Atom.cells x_7.b [Value.int IntKind.i64 (stepN x_7.s x_7.c), Value.slice y_2.row.a y_2.row.n y_2.row.cap] (59 : Nat)), ((4 : Nat), y_2.row.A), ((71 : Nat), y.r.A), ((72 : Nat), y_2.r.A), ((11020 : Nat), Atom.cells b [Value.int IntKind.u8 n, Value.int IntKind.i64 n_1, Value.string s, Value.int IntKind.i64 n_2, Value.int IntKind.i64 n_3, Value.int IntKind.i64 n_4] (31 : Nat))]
                                                                                                                                                                                        [((0 : Nat), F), ((1 : Nat), Atom.cells y_3.b [Value.int IntKind.i64 (run (List.take y_3.k x.cs)).now, Value.slice y_3.row.a y_3.row.n y_3.row.cap] (59 : Nat)), ((2 : Nat), y_3.row.A), ((3 : Nat), Atom.cells y_3.c [Value.int IntKind.i64 (run (List.take y_3.k x.cs)).now, Value.slice y_3.row2.a y_3.row2.n y_3.row2.cap] (59 : Nat)), ((4 : Nat), y_3.row2.A)] ∧
                                                                                                                                                                                      x.n - y_3.k < x.n - x_4.k)
                                                                  (((-9223372036854775808 : Int) ≤ x.u ∧ x.u ≤ (9223372036854775807 : Int)) ∧
                                                                    FnOk Try.prog (18 : Nat) tickC ∧
                                                                      true = true ∧
                                                                        ∃ (x_5 : TickX),
                                                                          [Value.pointer (some { block := x_4.b, off := (0 : Nat) }), Value.int IntKind.i64 x.u] = [Value.pointer (some { block := x_5.b, off := (0 : Nat) }), Value.int IntKind.i64 x_5.by'] ∧
                                                                            [Atom.cells x_4.b [Value.int IntKind.i64 (run (List.take x_4.k x.cs)).now, Value.slice x_4.row.a x_4.row.n x_4.row.cap] (59 : Nat), x_4.row.A] = [Atom.cells x_5.b [Value.int IntKind.i64 x_5.now, Value.slice x_5.row.a x_5.row.n x_5.row.cap] (59 : Nat), x_5.row.A] ∧
                                                                              (isTs x_5.ts x_5.row ∧ (0 : Int) ≤ x_5.now ∧ x_5.now ≤ (9007199254740992 : Int)) ∧
                                                                                True ∧
                                                                                  ∀ (y : DfY),
                                                                                    isTs (stay (tickG x_5.now x_5.by') x_5.ts) y.row ∧ isNs (nts (tickG x_5.now x_5.by') x_5.ts) y.r →
                                                                                      ((-9223372036854775808 : Int) ≤ x.v ∧ x.v ≤ (9223372036854775807 : Int)) ∧
                                                                                        FnOk Try.prog (18 : Nat) tickC ∧
                                                                                          true = true ∧
                                                                                            ∃ (x_6 : TickX),
                                                                                              [Value.pointer (some { block := x_4.b, off := (0 : Nat) }), Value.int IntKind.i64 x.v] = [Value.pointer (some { block := x_6.b, off := (0 : Nat) }), Value.int IntKind.i64 x_6.by'] ∧
                                                                                                [Atom.cells x_5.b [Value.int IntKind.i64 (tickNow x_5.now x_5.by'), Value.slice y.row.a y.row.n y.row.cap] (59 : Nat), y.row.A] = [Atom.cells x_6.b [Value.int IntKind.i64 x_6.now, Value.slice x_6.row.a x_6.row.n x_6.row.cap] (59 : Nat), x_6.row.A] ∧
                                                                                                  (isTs x_6.ts x_6.row ∧ (0 : Int) ≤ x_6.now ∧ x_6.now ≤ (9007199254740992 : Int)) ∧
                                                                                                    True ∧
                                                                                                      ∀ (y_2 : DfY),
                                                                                                        isTs (stay (tickG x_6.now x_6.by') x_6.ts) y_2.row ∧ isNs (nts (tickG x_6.now x_6.by') x_6.ts) y_2.r →
                                                                                                          ((-9223372036854775808 : Int) ≤ x.u ∧ x.u ≤ (9223372036854775807 : Int)) ∧
                                                                                                            ((-9223372036854775808 : Int) ≤ x.v ∧ x.v ≤ (9223372036854775807 : Int)) ∧
                                                                                                              ((-9223372036854775808 : Int) ≤ x.u + x.v ∧ x.u + x.v ≤ (9223372036854775807 : Int)) ∧
                                                                                                                FnOk Try.prog (18 : Nat) tickC ∧
                                                                                                                  true = true ∧
                                                                                                                    ∃ (x_7 : TickX),
                                                                                                                      [Value.pointer (some { block := x_4.c, off := (0 : Nat) }), Value.int IntKind.i64 (x.u + x.v)] = [Value.pointer (some { block := x_7.b, off := (0 : Nat) }), Value.int IntKind.i64 x_7.by'] ∧
                                                                                                                        [Atom.cells x_4.c [Value.int IntKind.i64 (run (List.take x_4.k x.cs)).now, Value.slice x_4.row2.a x_4.row2.n x_4.row2.cap] (59 : Nat), x_4.row2.A] = [Atom.cells x_7.b [Value.int IntKind.i64 x_7.now, Value.slice x_7.row.a x_7.row.n x_7.row.cap] (59 : Nat), x_7.row.A] ∧
                                                                                                                          (isTs x_7.ts x_7.row ∧ (0 : Int) ≤ x_7.now ∧ x_7.now ≤ (9007199254740992 : Int)) ∧
                                                                                                                            True ∧
                                                                                                                              ∀ (y_3 : DfY),
                                                                                                                                isTs (stay (tickG x_7.now x_7.by') x_7.ts) y_3.row ∧ isNs (nts (tickG x_7.now x_7.by') x_7.ts) y_3.r →
                                                                                                                                  Br (tickE x_5.now x_5.by' != (0 : Int))
                                                                                                                                    (Br (tickE x_7.now x_7.by' != (0 : Int))
                                                                                                                                      (Br (tickE x_5.now x_5.by' != (0 : Int)) (Done splC x F (Ending.returned (Value.bool true)) [((0 : Nat), F), ((1 : Nat), Atom.cells x_6.b [Value.int IntKind.i64 (tickNow x_6.now x_6.by'), Value.slice y_2.row.a y_2.row.n y_2.row.cap] (59 : Nat)), ((2 : Nat), y_2.row.A), ((3 : Nat), Atom.cells x_7.b [Value.int IntKind.i64 (tickNow x_7.now x_7.by'), Value.slice y_3.row.a y_3.row.n y_3.row.cap] (59 : Nat)), ((4 : Nat), y_3.row.A), ((81 : Nat), y.r.A), ((82 : Nat), y_2.r.A), ((83 : Nat), y_3.r.A)])
                                                                                                                                        (Done splC x F (Ending.returned (Value.bool (tickE x_6.now x_6.by' != (0 : Int)))) [((0 : Nat), F), ((1 : Nat), Atom.cells x_6.b [Value.int IntKind.i64 (tickNow x_6.now x_6.by'), Value.slice y_2.row.a y_2.row.n y_2.row.cap] (59 : Nat)), ((2 : Nat), y_2.row.A), ((3 : Nat), Atom.cells x_7.b [Value.int IntKind.i64 (tickNow x_7.now x_7.by'), Value.slice y_3.row.a y_3.row.n y_3.row.cap] (59 : Nat)), ((4 : Nat), y_3.row.A), ((81 : Nat), y.r.A), ((82 : Nat), y_2.r.A), ((83 : Nat), y_3.r.A)]))
                                                                                                                                      False)
                                                                                                                                    (Br (tickE x_6.now x_6.by' != (0 : Int))
                                                                                                                                      (Br (tickE x_7.now x_7.by' != (0 : Int))
                                                                                                                                        (Br (tickE x_5.now x_5.by' != (0 : Int)) (Done splC x F (Ending.returned (Value.bool true)) [((0 : Nat), F), ((1 : Nat), Atom.cells x_6.b [Value.int IntKind.i64 (tickNow x_6.now x_6.by'), Value.slice y_2.row.a y_2.row.n y_2.row.cap] (59 : Nat)), ((2 : Nat), y_2.row.A), ((3 : Nat), Atom.cells x_7.b [Value.int IntKind.i64 (tickNow x_7.now x_7.by'), Value.slice y_3.row.a y_3.row.n y_3.row.cap] (59 : Nat)), ((4 : Nat), y_3.row.A), ((81 : Nat), y.r.A), ((82 : Nat), y_2.r.A), ((83 : Nat), y_3.r.A)])
                                                                                                                                          (Done splC x F (Ending.returned (Value.bool (tickE x_6.now x_6.by' != (0 : Int)))) [((0 : Nat), F), ((1 : Nat), Atom.cells x_6.b [Value.int IntKind.i64 (tickNow x_6.now x_6.by'), Value.slice y_2.row.a y_2.row.n y_2.row.cap] (59 : Nat)), ((2 : Nat), y_2.row.A), ((3 : Nat), Atom.cells x_7.b [Value.int IntKind.i64 (tickNow x_7.now x_7.by'), Value.slice y_3.row.a y_3.row.n y_3.row.cap] (59 : Nat)), ((4 : Nat), y_3.row.A), ((81 : Nat), y.r.A), ((82 : Nat), y_2.r.A), ((83 : Nat), y_3.r.A)]))
                                                                                                                                        False)
                                                                                                                                      (Br (tickE x_7.now x_7.by' != (0 : Int))
                                                                                                                                        (Br (tickE x_7.now x_7.by' != (0 : Int))
                                                                                                                                          (Br (tickE x_5.now x_5.by' != (0 : Int)) (Done splC x F (Ending.returned (Value.bool true)) [((0 : Nat), F), ((1 : Nat), Atom.cells x_6.b [Value.int IntKind.i64 (tickNow x_6.now x_6.by'), Value.slice y_2.row.a y_2.row.n y_2.row.cap] (59 : Nat)), ((2 : Nat), y_2.row.A), ((3 : Nat), Atom.cells x_7.b [Value.int IntKind.i64 (tickNow x_7.now x_7.by'), Value.slice y_3.row.a y_3.row.n y_3.row.cap] (59 : Nat)), ((4 : Nat), y_3.row.A), ((81 : Nat), y.r.A), ((82 : Nat), y_2.r.A), ((83 : Nat), y_3.r.A)])
                                                                                                                                            (Done splC x F (Ending.returned (Value.bool (tickE x_6.now x_6.by' != (0 : Int)))) [((0 : Nat), F), ((1 : Nat), Atom.cells x_6.b [Value.int IntKind.i64 (tickNow x_6.now x_6.by'), Value.slice y_2.row.a y_2.row.n y_2.row.cap] (59 : Nat)), ((2 : Nat), y_2.row.A), ((3 : Nat), Atom.cells x_7.b [Value.int IntKind.i64 (tickNow x_7.now x_7.by'), Value.slice y_3.row.a y_3.row.n y_3.row.cap] (59 : Nat)), ((4 : Nat), y_3.row.A), ((81 : Nat), y.r.A), ((82 : Nat), y_2.r.A), ((83 : Nat), y_3.r.A)]))
                                                                                                                                          False)
                                                                                                                                        (∀ (b : Nat),
                                                                                                                                          OpOk Try.prog (opIn Try.f4 (19 : Nat) (2 : Nat)) (apC (3 : TypeId) (1 : Nat) (8 : Nat)) ∧
                                                                                                                                            true = true ∧
                                                                                                                                              ∃ (x_8 : ApX),
                                                                                                                                                [Value.slice (some { block := b, off := (0 : Nat) }) (0 : Nat) (0 : Nat), Value.slice y.r.a y.r.n y.r.cap] = [Value.slice x_8.r.a x_8.r.n x_8.r.cap, Value.slice x_8.a x_8.m x_8.c] ∧
                                                                                                                                                  [Atom.cells b [] (3 : Nat)] = [x_8.r.A] ∧
                                                                                                                                                    (IsRow (3 : Nat) (1 : Nat) x_8.cs x_8.r ∧ x_8.ys.length = x_8.m * (1 : Nat) ∧ (∀ (u : Value), u ∈ x_8.ys → u.oneCell' = true) ∧ (x_8.r.n + x_8.m) * (8 : Nat) ≤ (140737488355328 : Nat) ∧ x_8.r.n + x_8.m ≤ (9223372036854775807 : Nat) ∧ (x_8.a = none → x_8.m = (0 : Nat) ∧ x_8.c = (0 : Nat))) ∧
                                                                                                                                                      (∀ (a : Addr), x_8.a = some a → Seg (Atom.pred (rest [((0 : Nat), F), ((1 : Nat), Atom.cells x_6.b [Value.int IntKind.i64 (tickNow x_6.now x_6.by'), Value.slice y_2.row.a y_2.row.n y_2.row.cap] (59 : Nat)), ((2 : Nat), y_2.row.A), ((3 : Nat), Atom.cells x_7.b [Value.int IntKind.i64 (tickNow x_7.now x_7.by'), Value.slice y_3.row.a y_3.row.n y_3.row.cap] (59 : Nat)), ((4 : Nat), y_3.row.A), ((81 : Nat), y.r.A), ((82 : Nat), y_2.r.A), ((83 : Nat), y_3.r.A), ((20000 : Nat), Atom.cells b [] (3 : Nat))] [(20000 : Nat)])) a x_8.ys) ∧
                                                                                                                                                        ∀ (y_4 : Row),
                                                                                                                                                          IsRow (3 : Nat) (1 : Nat) (x_8.cs ++ x_8.ys) y_4 ∧ y_4.n = x_8.r.n + x_8.m ∧ (x_8.m = (0 : Nat) → y_4 = x_8.r) →
                                                                                                                                                            OpOk Try.prog (opIn Try.f4 (19 : Nat) (4 : Nat)) (apC (3 : TypeId) (1 : Nat) (8 : Nat)) ∧
                                                                                                                                                              true = true ∧
                                                                                                                                                                ∃ (x_9 : ApX),
                                                                                                                                                                  [Value.slice y_4.a y_4.n y_4.cap, Value.slice y_2.r.a y_2.r.n y_2.r.cap] = [Value.slice x_9.r.a x_9.r.n x_9.r.cap, Value.slice x_9.a x_9.m x_9.c] ∧
                                                                                                                                                                    [y_4.A] = [x_9.r.A] ∧
                                                                                                                                                                      (IsRow (3 : Nat) (1 : Nat) x_9.cs x_9.r ∧ x_9.ys.length = x_9.m * (1 : Nat) ∧ (∀ (u : Value), u ∈ x_9.ys → u.oneCell' = true) ∧ (x_9.r.n + x_9.m) * (8 : Nat) ≤ (140737488355328 : Nat) ∧ x_9.r.n + x_9.m ≤ (9223372036854775807 : Nat) ∧ (x_9.a = none → x_9.m = (0 : Nat) ∧ x_9.c = (0 : Nat))) ∧
                                                                                                                                                                        (∀ (a : Addr), x_9.a = some a → Seg (Atom.pred (rest [((0 : Nat), F), ((1 : Nat), Atom.cells x_6.b [Value.int IntKind.i64 (tickNow x_6.now x_6.by'), Value.slice y_2.row.a y_2.row.n y_2.row.cap] (59 : Nat)), ((2 : Nat), y_2.row.A), ((3 : Nat), Atom.cells x_7.b [Value.int IntKind.i64 (tickNow x_7.now x_7.by'), Value.slice y_3.row.a y_3.row.n y_3.row.cap] (59 : Nat)), ((4 : Nat), y_3.row.A), ((81 : Nat), y.r.A), ((82 : Nat), y_2.r.A), ((83 : Nat), y_3.r.A), ((84 : Nat), y_4.A), ((20000 : Nat), Atom.emp)] [(84 : Nat)])) a x_9.ys) ∧
                                                                                                                                                                          ∀ (y_5 : Row),
                                                                                                                                                                            IsRow (3 : Nat) (1 : Nat) (x_9.cs ++ x_9.ys) y_5 ∧ y_5.n = x_9.r.n + x_9.m ∧ (x_9.m = (0 : Nat) → y_5 = x_9.r) →
                                                                                                                                                                              FnOk Try.prog (11 : Nat) sameC ∧
                                                                                                                                                                                true = true ∧
                                                                                                                                                                                  ∃ (x_10 : SameX),
                                                                                                                                                                                    [Value.slice y_5.a y_5.n y_5.cap, Value.slice y_3.r.a y_3.r.n y_3.r.cap] = [Value.slice x_10.a x_10.an x_10.ac, Value.slice x_10.b x_10.bn x_10.bc] ∧
                                                                                                                                                                                      ([] : List Atom) = [] ∧
                                                                                                                                                                                        (IsSrc (1 : Nat) (ints x_10.xs) x_10.a x_10.an ∧ IsSrc (1 : Nat) (ints x_10.ys) x_10.b x_10.bn ∧ x_10.an ≤ (1000000 : Nat)) ∧
                                                                                                                                                                                          (Srcd (Atom.pred (rest [((0 : Nat), F), ((1 : Nat), Atom.cells x_6.b [Value.int IntKind.i64 (tickNow x_6.now x_6.by'), Value.slice y_2.row.a y_2.row.n y_2.row.cap] (59 : Nat)), ((2 : Nat), y_2.row.A), ((3 : Nat), Atom.cells x_7.b [Value.int IntKind.i64 (tickNow x_7.now x_7.by'), Value.slice y_3.row.a y_3.row.n y_3.row.cap] (59 : Nat)), ((4 : Nat), y_3.row.A), ((81 : Nat), y.r.A), ((82 : Nat), y_2.r.A), ((83 : Nat), y_3.r.A), ((84 : Nat), Atom.emp), ((85 : Nat), y_5.A), ((20000 : Nat), Atom.emp)] [])) x_10.a (ints x_10.xs) ∧
                                                                                                                                                                                              Srcd (Atom.pred (rest [((0 : Nat), F), ((1 : Nat), Atom.cells x_6.b [Value.int IntKind.i64 (tickNow x_6.now x_6.by'), Value.slice y_2.row.a y_2.row.n y_2.row.cap] (59 : Nat)), ((2 : Nat), y_2.row.A), ((3 : Nat), Atom.cells x_7.b [Value.int IntKind.i64 (tickNow x_7.now x_7.by'), Value.slice y_3.row.a y_3.row.n y_3.row.cap] (59 : Nat)), ((4 : Nat), y_3.row.A), ((81 : Nat), y.r.A), ((82 : Nat), y_2.r.A), ((83 : Nat), y_3.r.A), ((84 : Nat), Atom.emp), ((85 : Nat), y_5.A), ((20000 : Nat), Atom.emp)] [])) x_10.b (ints x_10.ys)) ∧
                                                                                                                                                                                            ∀ (y_6 : Unit),
                                                                                                                                                                                              True →
                                                                                                                                                                                                Br (decide (x_10.xs = x_10.ys))
                                                                                                                                                                                                  (FnOk Try.prog (14 : Nat) timersC ∧
                                                                                                                                                                                                    true = true ∧
                                                                                                                                                                                                      ∃ (x_11 : ClkX),
                                                                                                                                                                                                        [Value.pointer (some { block := x_4.b, off := (0 : Nat) })] = [Value.pointer (some { block := x_11.b, off := (0 : Nat) })] ∧
                                                                                                                                                                                                          [Atom.cells x_6.b [Value.int IntKind.i64 (tickNow x_6.now x_6.by'), Value.slice y_2.row.a y_2.row.n y_2.row.cap] (59 : Nat), y_2.row.A] = [Atom.cells x_11.b [Value.int IntKind.i64 x_11.now, Value.slice x_11.row.a x_11.row.n x_11.row.cap] (59 : Nat), x_11.row.A] ∧
                                                                                                                                                                                                            isTs x_11.ts x_11.row ∧
                                                                                                                                                                                                              True ∧
                                                                                                                                                                                                                ∀ (y_7 : Row),
                                                                                                                                                                                                                  IsRow (44 : Nat) (4 : Nat) (encT x_11.ts) y_7 ∧ y_7.n = x_11.ts.length →
                                                                                                                                                                                                                    FnOk Try.prog (14 : Nat) timersC ∧
                                                                                                                                                                                                                      true = true ∧
                                                                                                                                                                                                                        ∃ (x_12 : ClkX),
                                                                                                                                                                                                                          [Value.pointer (some { block := x_4.c, off := (0 : Nat) })] = [Value.pointer (some { block := x_12.b, off := (0 : Nat) })] ∧
                                                                                                                                                                                                                            [Atom.cells x_7.b [Value.int IntKind.i64 (tickNow x_7.now x_7.by'), Value.slice y_3.row.a y_3.row.n y_3.row.cap] (59 : Nat), y_3.row.A] = [Atom.cells x_12.b [Value.int IntKind.i64 x_12.now, Value.slice x_12.row.a x_12.row.n x_12.row.cap] (59 : Nat), x_12.row.A] ∧
                                                                                                                                                                                                                              isTs x_12.ts x_12.row ∧
                                                                                                                                                                                                                                True ∧
                                                                                                                                                                                                                                  ∀ (y_8 : Row),
                                                                                                                                                                                                                                    IsRow (44 : Nat) (4 : Nat) (encT x_12.ts) y_8 ∧ y_8.n = x_12.ts.length →
                                                                                                                                                                                                                                      FnOk Try.prog (16 : Nat) tmsC ∧
                                                                                                                                                                                                                                        true = true ∧
                                                                                                                                                                                                                                          ∃ (x_13 : TmsX),
                                                                                                                                                                                                                                            [Value.slice y_7.a y_7.n y_7.cap, Value.slice y_8.a y_8.n y_8.cap] = [Value.slice x_13.a x_13.an x_13.ac, Value.slice x_13.b x_13.bn x_13.bc] ∧
                                                                                                                                                                                                                                              ([] : List Atom) = [] ∧
                                                                                                                                                                                                                                                (IsSrc (4 : Nat) (encT x_13.xs) x_13.a x_13.an ∧ IsSrc (4 : Nat) (encT x_13.ys) x_13.b x_13.bn ∧ x_13.an ≤ (1000000 : Nat) ∧ x_13.xs = x_13.ys) ∧
                                                                                                                                                                                                                                                  (Srcd (Atom.pred (rest [((0 : Nat), F), ((1 : Nat), Atom.cells x_11.b [Value.int IntKind.i64 x_11.now, Value.slice x_11.row.a x_11.row.n x_11.row.cap] (59 : Nat)), ((2 : Nat), x_11.row.A), ((3 : Nat), Atom.cells x_12.b [Value.int IntKind.i64 x_12.now, Value.slice x_12.row.a x_12.row.n x_12.row.cap] (59 : Nat)), ((4 : Nat), x_12.row.A), ((81 : Nat), y.r.A), ((82 : Nat), y_2.r.A), ((83 : Nat), y_3.r.A), ((84 : Nat), Atom.emp), ((85 : Nat), y_5.A), ((91 : Nat), y_7.A), ((92 : Nat), y_8.A), ((20000 : Nat), Atom.emp)] [])) x_13.a (encT x_13.xs) ∧
                                                                                                                                                                                                                                                      Srcd (Atom.pred (rest [((0 : Nat), F), ((1 : Nat), Atom.cells x_11.b [Value.int IntKind.i64 x_11.now, Value.slice x_11.row.a x_11.row.n x_11.row.cap] (59 : Nat)), ((2 : Nat), x_11.row.A), ((3 : Nat), Atom.cells x_12.b [Value.int IntKind.i64 x_12.now, Value.slice x_12.row.a x_12.row.n x_12.row.cap] (59 : Nat)), ((4 : Nat), x_12.row.A), ((81 : Nat), y.r.A), ((82 : Nat), y_2.r.A), ((83 : Nat), y_3.r.A), ((84 : Nat), Atom.emp), ((85 : Nat), y_5.A), ((91 : Nat), y_7.A), ((92 : Nat), y_8.A), ((20000 : Nat), Atom.emp)] [])) x_13.b (encT x_13.ys)) ∧
                                                                                                                                                                                                                                                    ∀ (y_9 : Unit),
                                                                                                                                                                                                                                                      True →
                                                                                                                                                                                                                                                        FnOk Try.prog (15 : Nat) nowC ∧
                                                                                                                                                                                                                                                          true = true ∧
                                                                                                                                                                                                                                                            ∃ (x_14 : ClkX),
                                                                                                                                                                                                                                                              [Value.pointer (some { block := x_4.b, off := (0 : Nat) })] = [Value.pointer (some { block := x_14.b, off := (0 : Nat) })] ∧
                                                                                                                                                                                                                                                                [Atom.cells x_11.b [Value.int IntKind.i64 x_11.now, Value.slice x_11.row.a x_11.row.n x_11.row.cap] (59 : Nat)] = [Atom.cells x_14.b [Value.int IntKind.i64 x_14.now, Value.slice x_14.row.a x_14.row.n x_14.row.cap] (59 : Nat)] ∧
                                                                                                                                                                                                                                                                  True ∧
                                                                                                                                                                                                                                                                    True ∧
                                                                                                                                                                                                                                                                      ∀ (y_10 : Unit),
                                                                                                                                                                                                                                                                        True →
                                                                                                                                                                                                                                                                          FnOk Try.prog (15 : Nat) nowC ∧
                                                                                                                                                                                                                                                                            true = true ∧
                                                                                                                                                                                                                                                                              ∃ (x_15 : ClkX),
                                                                                                                                                                                                                                                                                [Value.pointer (some { block := x_4.c, off := (0 : Nat) })] = [Value.pointer (some { block := x_15.b, off := (0 : Nat) })] ∧
                                                                                                                                                                                                                                                                                  [Atom.cells x_12.b [Value.int IntKind.i64 x_12.now, Value.slice x_12.row.a x_12.row.n x_12.row.cap] (59 : Nat)] = [Atom.cells x_15.b [Value.int IntKind.i64 x_15.now, Value.slice x_15.row.a x_15.row.n x_15.row.cap] (59 : Nat)] ∧
                                                                                                                                                                                                                                                                                    True ∧ True ∧ ∀ (y_11 : Unit), True → Done splC x F (Ending.returned (Value.bool (x_14.now == x_15.now))) [((0 : Nat), F), ((1 : Nat), Atom.cells x_14.b [Value.int IntKind.i64 x_14.now, Value.slice x_14.row.a x_14.row.n x_14.row.cap] (59 : Nat)), ((2 : Nat), x_11.row.A), ((3 : Nat), Atom.cells x_15.b [Value.int IntKind.i64 x_15.now, Value.slice x_15.row.a x_15.row.n x_15.row.cap] (59 : Nat)), ((4 : Nat), x_12.row.A), ((81 : Nat), y.r.A), ((82 : Nat), y_2.r.A), ((83 : Nat), y_3.r.A), ((84 : Nat), Atom.emp), ((85 : Nat), y_5.A), ((91 : Nat), y_7.A), ((92 : Nat), y_8.A), ((20000 : Nat), Atom.emp)])
                                                                                                                                                                                                  (Done splC x F (Ending.returned (Value.bool false)) [((0 : Nat), F), ((1 : Nat), Atom.cells x_6.b [Value.int IntKind.i64 (tickNow x_6.now x_6.by'), Value.slice y_2.row.a y_2.row.n y_2.row.cap] (59 : Nat)), ((2 : Nat), y_2.row.A), ((3 : Nat), Atom.cells x_7.b [Value.int IntKind.i64 (tickNow x_7.now x_7.by'), Value.slice y_3.row.a y_3.row.n y_3.row.cap] (59 : Nat)), ((4 : Nat), y_3.row.A), ((81 : Nat), y.r.A), ((82 : Nat), y_2.r.A), ((83 : Nat), y_3.r.A), ((84 : Nat), Atom.emp), ((85 : Nat), y_5.A), ((20000 : Nat), Atom.emp)])))))) := by
  obtain ⟨a, n, cap, cs, u, v⟩ := x
  obtain ⟨hsrc, hu0, hu1, hv0, hv1⟩ := hc
  dsimp only at hsrc hu0 hu1 hv0 hv1
  replace hr : Srcd F a (encC cs) := hr
  have hlen : cs.length = n := by have := hsrc.len; rw [encC_length] at this; omega
  refine ⟨awake_ok, rfl, (), rfl, rfl, trivial, trivial, fun _ _ => br_decide (fun _ => ⟨(), trivial, rfl, Ent.pick [0] rfl rfl⟩) (fun h400 => ?_)⟩
  dsimp only at h400 ⊢
  refine ⟨new_ok, rfl, (), rfl, rfl, trivial, trivial, fun b _ => ⟨new_ok, rfl, (), rfl, rfl, trivial, trivial, fun b2 _ => ⟨⟨⟨0, b, b2, ⟨none, 0, 0, .emp⟩, ⟨none, 0, 0, .emp⟩⟩, ⟨by omega, Nat.zero_le _, isTs_nil, isTs_nil⟩, ⟨rfl, rfl, rfl, rfl, rfl, rfl, rfl, rfl, trivial⟩, Ent.pick [0, 100, 77, 101, 78] rfl rfl⟩, ?_⟩⟩⟩
  rintro ⟨k, b, c, row, row2⟩ js ⟨h1, h2, hts, hts2⟩
  dsimp only at h1 h2 hts hts2 ⊢
  have hbd := run_bnd (cs.take k)
  refine br_decide (fun hlt => ?_) (fun hge => ?_)
  · obtain ⟨b1, o1, rfl⟩ := hsrc.some (by omega)
    obtain ⟨d, hdk⟩ : ∃ d, cs[k]? = some d := ⟨cs[k], List.getElem?_eq_getElem (by omega)⟩
    have e1 : ∀ o j : Nat, o + (k : Int).toNat * 6 + j = o + (k * 6 + j) := fun o j => by omega
    have look : ∀ j u, d.enc[j]? = some u → Look F ⟨b1, o1 + (k : Int).toNat * 6 + j, none⟩ u := by
      intro j u hj
      have hj6 : j < 6 := (List.getElem?_eq_some_iff.1 hj).1
      rw [e1]
      exact hr.look (by rw [encC_get cs k j d hdk hj6]; exact hj)
    refine ⟨ixq_ok 6 rfl rfl rfl rfl, ⟨b1, o1, n, cap, k⟩, rfl, by dsimp only; omega, d.kind, look 0 _ rfl, d.ow, look 1 _ rfl, d.id, look 2 _ rfl, d.dl, look 3 _ rfl, d.n, look 4 _ rfl, d.by', look 5 _ rfl, fun b2 => ?_⟩
    simp only [same_refl, true_and]
    refine ⟨play_ok, ⟨b, run (cs.take k), row, d⟩, rfl, rfl, ⟨hts, hbd.1, hbd.2⟩, fun y hy => ⟨play_ok, ⟨c, run (cs.take k), row2, d⟩, rfl, rfl, ⟨hts2, hbd.1, hbd.2⟩, fun y2 hy2 => ⟨by omega, ⟨k + 1, b, c, y.row, y2.row⟩, ⟨h1, by dsimp only; omega, ?_, ?_⟩, ⟨rfl, rfl, rfl, trivial⟩, ?_, by dsimp only; omega⟩⟩⟩
    · dsimp only; rw [run_take hdk]; exact hy.1
    · dsimp only; rw [run_take hdk]; exact hy2.1
    · dsimp only; rw [run_take hdk]; exact Ent.pick [0, 1, 2, 3, 4] rfl rfl
  · have hk : k = n := by omega
    subst hk
    rw [List.take_of_length_le (by omega)] at *
    generalize run cs = s at *
    obtain ⟨now, ts⟩ := s
    dsimp only at hts hts2 hbd ⊢
    have hsr : Srt ts := hts.2.2.2
    have hl128 : ts.length ≤ 128 := hts.2.2.1
    refine ⟨by omega, tick_ok, rfl, ⟨b, now, ts, row, u⟩, rfl, rfl, ⟨hts, hbd.1, hbd.2⟩, trivial, fun y hy => ?_⟩
    have hb1 := tickNow_bnd (by' := u) hbd.1 hbd.2
    refine ⟨by omega, tick_ok, rfl, ⟨b, tickNow now u, _, y.row, v⟩, rfl, rfl, ⟨hy.1, hb1.1, hb1.2⟩, trivial, fun y2 hy2 => ?_⟩
    refine ⟨by omega, by omega, by omega, tick_ok, rfl, ⟨c, now, ts, row2, u + v⟩, rfl, rfl, ⟨hts2, hbd.1, hbd.2⟩, trivial, fun y3 hy3 => ?_⟩
    obtain ⟨hy, hyn⟩ := hy
    obtain ⟨hy2, hyn2⟩ := hy2
    obtain ⟨hy3, hyn3⟩ := hy3
    dsimp only at hy hyn hy2 hyn2 hy3 hyn3 ⊢
    rcases spl_cases (now := now) hu0 hv0 with ⟨e1, e3⟩ | ⟨e1, en, e2, e3⟩ | ⟨e1, en, e2, e3⟩
    · rw [e1, e3]
      exact br_t rfl (br_t rfl (br_t rfl ⟨(), trivial, rfl, Ent.pick [0] rfl rfl⟩))
    · rw [e1, e3, en, e2]
      exact ⟨(), trivial, rfl, Ent.pick [0] rfl rfl⟩
    · rw [e1, e3, en, e2]
      rw [en] at hy2 hyn2
      rw [tickG_ok e1] at hy hyn hy2 hyn2
      rw [tickG_ok e2] at hy2 hyn2
      rw [tickG_ok e3] at hy3 hyn3
      have hAB : now + u ≤ now + (u + v) := by omega
      have e4 : now + u + v = now + (u + v) := by omega
      rw [e4] at hy2 hyn2
      have hnl : ∀ g, (nts g ts).length ≤ 128 := fun g => Nat.le_trans (nts_le g ts) hl128
      have hsub : ∀ g g' : Tmr → Bool, (nts g (stay g' ts)).length ≤ 128 := fun g g' => Nat.le_trans (nts_le _ _) (Nat.le_trans (List.length_filter_le _ _) hl128)
      have hl1 : y.r.n ≤ 128 := by rw [hyn.2]; exact hnl _
      have hl2 : y2.r.n ≤ 128 := by rw [hyn2.2]; exact hsub _ _
      have hlen1 := hyn.1.len
      have hlen2 := hyn2.1.len
      have hss : stay (fun t => decide (t.due ≤ now + (u + v))) (stay (fun t => decide (t.due ≤ now + u)) ts) = stay (fun t => decide (t.due ≤ now + (u + v))) ts := stay_split hAB ts
      have hnn : nts (fun t => decide (t.due ≤ now + u)) ts ++ nts (fun t => decide (t.due ≤ now + (u + v))) (stay (fun t => decide (t.due ≤ now + u)) ts) = nts (fun t => decide (t.due ≤ now + (u + v))) ts := by
        have := filter_split hAB hsr
        unfold nts stay
        rw [← List.map_append, this]
      refine fun b2 => ⟨append_ok (P := Try.prog) 1 8 rfl rfl rfl rfl rfl rfl rfl (by decide), rfl, ⟨⟨some ⟨b2, 0, none⟩, 0, 0, .cells b2 [] 3⟩, [], y.r.a, y.r.n, y.r.cap, _⟩, rfl, rfl, ⟨.blk b2 0 0 [] rfl rfl (Nat.le_refl 0), hlen1, fun _ h => ints_one h, by dsimp only; omega, by dsimp only; omega, hyn.1.none0⟩, row_srcd 81 (by simp) rfl hyn.1, fun y4 hy4 => ?_⟩
      obtain ⟨hy4, hy4n, -⟩ := hy4
      dsimp only at hy4 hy4n ⊢
      refine ⟨append_ok (P := Try.prog) 1 8 rfl rfl rfl rfl rfl rfl rfl (by decide), rfl, ⟨y4, _, y2.r.a, y2.r.n, y2.r.cap, _⟩, rfl, rfl, ⟨hy4, hlen2, fun _ h => ints_one h, by dsimp only; omega, by dsimp only; omega, hyn2.1.none0⟩, row_srcd 82 (by simp) rfl hyn2.1, fun y5 hy5 => ?_⟩
      obtain ⟨hy5, hy5n, -⟩ := hy5
      dsimp only at hy5 hy5n ⊢
      replace hy5 : IsRow 3 1 (ints (nts (fun t => decide (t.due ≤ now + u)) ts ++ nts (fun t => decide (t.due ≤ now + (u + v))) (stay (fun t => decide (t.due ≤ now + u)) ts))) y5 := by rw [ints_append]; exact hy5
      rw [hnn] at hy5
      refine ⟨same_ok, rfl, ⟨y5.a, y5.n, y5.cap, _, y3.r.a, y3.r.n, y3.r.cap, _⟩, rfl, rfl, ⟨hy5.src, hyn3.1.src, by dsimp only; omega⟩, ⟨row_srcd 85 (by simp) rfl hy5, row_srcd 83 (by simp) rfl hyn3.1⟩, fun _ _ => br_t (decide_eq_true rfl) ?_⟩
      replace hy2 : isTs (stay (fun t => decide (t.due ≤ now + (u + v))) (stay (fun t => decide (t.due ≤ now + u)) ts)) y2.row := hy2
      rw [hss] at hy2
      refine ⟨timers_ok, rfl, ⟨b, _, _, y2.row⟩, rfl, rfl, hy2, trivial, fun y7 hy7 => ⟨timers_ok, rfl, ⟨c, _, _, y3.row⟩, rfl, rfl, hy3, trivial, fun y8 hy8 => ?_⟩⟩
      obtain ⟨hy7, hy7n⟩ := hy7
      obtain ⟨hy8, hy8n⟩ := hy8
      dsimp only at hy7 hy7n hy8 hy8n ⊢
      have h7l : y7.n ≤ 128 := by rw [hy7n]; exact hy3.2.2.1
      have h8l : y8.n ≤ 128 := by rw [hy8n]; exact hy3.2.2.1
      refine ⟨tms_ok, rfl, ⟨y7.a, y7.n, y7.cap, _, y8.a, y8.n, y8.cap, _⟩, rfl, rfl, ⟨hy7.src, hy8.src, by dsimp only; omega, rfl⟩, ⟨row_srcd 91 (by simp) rfl hy7, row_srcd 92 (by simp) rfl hy8⟩, fun _ _ => ?_⟩
      refine ⟨now_ok, rfl, ⟨b, _, ts, y2.row⟩, rfl, rfl, trivial, trivial, fun _ _ => ⟨now_ok, rfl, ⟨c, _, ts, y3.row⟩, rfl, rfl, trivial, trivial, fun _ _ => ⟨(), trivial, ?_, Ent.pick [0] rfl rfl⟩⟩⟩
      have hn2 : tickNow (now + u) v = now + u + v := by unfold tickNow; rw [e2]; rfl
      have hn3 : tickNow now (u + v) = now + (u + v) := by unfold tickNow; rw [e3]; rfl
      have : (tickNow (now + u) v == tickNow now (u + v)) = true := by rw [hn2, hn3, e4]; exact beq_self_eq_true _
      exact congrArg (fun q => Ending.returned (Value.bool q)) this
set_option maxRecDepth 100000 in
theorem spl_ok : FnOk Try.prog 4 splC :=
  fnOk (N := 108) (by kernel_rfl) Try.func4 rfl (by kernel_rfl) (fun _ => Nat.le_of_ble_eq_true rfl) spl_H [] fun x F hc hr => Eq.mpr (by kernel_rfl) (spl_vc x F hc hr)
end Go.Proofs.Ytmknmibmnidnoaa
