/- One call of a clock. -/
import Derived.Test.YtmknmibmnidnoaaClkM2
set_option linter.all false
namespace Go.Proofs.Ytmknmibmnidnoaa
open Go
structure CallD where
  kind : Int
  ow : Int
  id : ByteArray
  dl : Int
  n : Int
  by' : Int
def CallD.enc (c : CallD) : List Value := [.int .u8 c.kind, .int .i64 c.ow, .string c.id, .int .i64 c.dl, .int .i64 c.n, .int .i64 c.by']
structure Clk where
  now : Int
  ts : List Tmr
def k5 (c : CallD) : Int := c.kind.tmod 5
def kG (s : Clk) (c : CallD) (t : Tmr) : Bool := bif k5 c == 1 then cancelG c.ow c.id t else bif k5 c == 2 then dropG c.ow t else bif k5 c == 3 then tickG s.now c.by' t else false
def stepT (s : Clk) (c : CallD) : List Tmr := bif k5 c == 0 then setTs s.ts ⟨c.ow, c.id, s.now + c.dl, c.n⟩ c.dl else stay (kG s c) s.ts
def stepO (s : Clk) (c : CallD) : List Int := bif k5 c == 0 then [] else nts (kG s c) s.ts
def stepE (s : Clk) (c : CallD) : Int := bif k5 c == 0 then setE s.ts c.dl else bif k5 c == 3 then tickE s.now c.by' else 0
def stepN (s : Clk) (c : CallD) : Int := bif k5 c == 3 then tickNow s.now c.by' else s.now
structure PlayX where
  b : Nat
  s : Clk
  row : Row
  c : CallD
def playC : Con where
  X := PlayX
  Y := DfY
  args x := [.pointer (some ⟨x.b, 0, none⟩), .agg #[.int .u8 x.c.kind, .int .i64 x.c.ow, .string x.c.id, .int .i64 x.c.dl, .int .i64 x.c.n, .int .i64 x.c.by']]
  pre x := [clkA x.b x.s.now x.row, x.row.A]
  cond x := isTs x.s.ts x.row ∧ 0 ≤ x.s.now ∧ x.s.now ≤ 9007199254740992
  rdc _ _ := True
  rel x y := isTs (stepT x.s x.c) y.row ∧ isNs (stepO x.s x.c) y.r
  val x y := .returned (.agg #[.slice y.r.a y.r.n y.r.cap, .int .i64 (stepE x.s x.c)])
  post x y := [clkA x.b (stepN x.s x.c) y.row, y.row.A, y.r.A]
def playOv (_x : PlayX) (_F : Atom) : List (Nat × Nat × OH) := [(5, 9, .c setC [0, 1] [0, 1]), (7, 5, .c cancelC [0, 1] [0, 1, 7777]), (9, 3, .c dropC [0, 1] [0, 1, 7777]), (11, 3, .c tickC [0, 1] [0, 1, 7777])]
noncomputable def play_H (x : Con.X playC) (F : Atom) : Hints where
  op := hk ((playOv x F) ++ [(0, 0, OH.n (1000 : Nat)),   (0, 1, OH.n (1010 : Nat)),   (1, 0, OH.n (2000 : Nat)),   (3, 1, OH.q [LH.atj (1000 : Nat)]),   (5, 2, OH.q [LH.atj (1000 : Nat)]),   (7, 2, OH.q [LH.atj (1000 : Nat)]),   (9, 2, OH.q [LH.atj (1000 : Nat)]),   (11, 2, OH.q [LH.atj (1000 : Nat)]),   (12, 2, OH.w [LH.atj (2000 : Nat)]),   (5, 4, OH.q [LH.atj (1000 : Nat)]),   (7, 4, OH.q [LH.atj (1000 : Nat)]),   (9, 5, OH.w [LH.atj (2000 : Nat)]),   (11, 8, OH.w [LH.atj (2000 : Nat)]),   (13, 0, OH.q [LH.atj (2000 : Nat), LH.atj (2000 : Nat)]),   (5, 6, OH.q [LH.atj (1000 : Nat)]),   (7, 7, OH.w [LH.atj (2000 : Nat)]),   (13, 1, OH.w [LH.atj (1010 : Nat), LH.atj (1010 : Nat)]),   (5, 8, OH.q [LH.atj (1000 : Nat)])])
  inv := (fun _ _ _ => none) x F
  cut := (fun _ _ _ => none) x F
  ord := (fun _ => [])
set_option maxRecDepth 100000 in
theorem play_vc (x : PlayX) (F : Atom) (hc : Con.cond playC x) (hr : Con.rdc playC x F) :
  ∀ (b b_1 b_2 : Nat),
    Same { block := b, off := (0 : Nat) } b ∧
      (5 : Int) ≠ (0 : Int) ∧
        Br (x.c.kind.tmod (5 : Int) == (0 : Int))
          (Same { block := b, off := (1 : Nat) } b ∧
            Same { block := b, off := (2 : Nat) } b ∧
              Same { block := b, off := (3 : Nat) } b ∧
                Same { block := b, off := (4 : Nat) } b ∧
                  FnOk Try.prog (19 : Nat) setC ∧
                    true = true ∧
                      ∃ (x_1 : SetX),
                        [Value.pointer (some { block := x.b, off := (0 : Nat) }), Value.int IntKind.i64 x.c.ow, Value.string x.c.id, Value.int IntKind.i64 x.c.dl, Value.int IntKind.i64 x.c.n] = [Value.pointer (some { block := x_1.b, off := (0 : Nat) }), Value.int IntKind.i64 x_1.ow, Value.string x_1.id, Value.int IntKind.i64 x_1.dl, Value.int IntKind.i64 x_1.n] ∧
                          [Atom.cells x.b [Value.int IntKind.i64 x.s.now, Value.slice x.row.a x.row.n x.row.cap] (59 : Nat), x.row.A] = [Atom.cells x_1.b [Value.int IntKind.i64 x_1.now, Value.slice x_1.row.a x_1.row.n x_1.row.cap] (59 : Nat), x_1.row.A] ∧
                            (isTs x_1.ts x_1.row ∧ (0 : Int) ≤ x_1.now ∧ x_1.now ≤ (9007199254740992 : Int)) ∧
                              True ∧
                                ∀ (y : Row),
                                  isTs (setTs x_1.ts x_1.t x_1.dl) y →
                                    Same { block := b_2, off := (1 : Nat) } b_2 ∧
                                      Same { block := b_2, off := (0 : Nat) } b_2 ∧
                                        Same { block := b_2, off := (1 : Nat) } b_2 ∧
                                          Same { block := b_1, off := (0 : Nat) } b_1 ∧ Same { block := b_1, off := (1 : Nat) } b_1 ∧ Same { block := b_1, off := (0 : Nat) } b_1 ∧ Same { block := b_1, off := (1 : Nat) } b_1 ∧ Done playC x F (Ending.returned (Value.agg { toList := [Value.slice none (0 : Nat) (0 : Nat), Value.int IntKind.i64 (setE x_1.ts x_1.dl)] })) [((0 : Nat), Atom.cells x_1.b [Value.int IntKind.i64 x_1.now, Value.slice y.a y.n y.cap] (59 : Nat)), ((1 : Nat), y.A), ((2 : Nat), F), ((1000 : Nat), Atom.cells b [Value.int IntKind.u8 x.c.kind, Value.int IntKind.i64 x.c.ow, Value.string x.c.id, Value.int IntKind.i64 x.c.dl, Value.int IntKind.i64 x.c.n, Value.int IntKind.i64 x.c.by'] (31 : Nat)), ((1010 : Nat), Atom.cells b_1 [Value.slice none (0 : Nat) (0 : Nat), Value.int IntKind.i64 (setE x_1.ts x_1.dl)] (34 : Nat)), ((2000 : Nat), Atom.cells b_2 [Value.slice none (0 : Nat) (0 : Nat), Value.int IntKind.i64 (setE x_1.ts x_1.dl)] (34 : Nat))])
          (Br (x.c.kind.tmod (5 : Int) == (1 : Int))
            (Same { block := b, off := (1 : Nat) } b ∧
              Same { block := b, off := (2 : Nat) } b ∧
                FnOk Try.prog (20 : Nat) cancelC ∧
                  true = true ∧
                    ∃ (x_1 : CancelX),
                      [Value.pointer (some { block := x.b, off := (0 : Nat) }), Value.int IntKind.i64 x.c.ow, Value.string x.c.id] = [Value.pointer (some { block := x_1.b, off := (0 : Nat) }), Value.int IntKind.i64 x_1.ow, Value.string x_1.id] ∧
                        [Atom.cells x.b [Value.int IntKind.i64 x.s.now, Value.slice x.row.a x.row.n x.row.cap] (59 : Nat), x.row.A] = [Atom.cells x_1.b [Value.int IntKind.i64 x_1.now, Value.slice x_1.row.a x_1.row.n x_1.row.cap] (59 : Nat), x_1.row.A] ∧
                          isTs x_1.ts x_1.row ∧
                            True ∧
                              ∀ (y : DfY),
                                isTs (stay (cancelG x_1.ow x_1.id) x_1.ts) y.row ∧ isNs (nts (cancelG x_1.ow x_1.id) x_1.ts) y.r →
                                  Same { block := b_2, off := (0 : Nat) } b_2 ∧
                                    Same { block := b_2, off := (1 : Nat) } b_2 ∧
                                      Same { block := b_2, off := (0 : Nat) } b_2 ∧
                                        Same { block := b_2, off := (1 : Nat) } b_2 ∧
                                          Same { block := b_1, off := (0 : Nat) } b_1 ∧ Same { block := b_1, off := (1 : Nat) } b_1 ∧ Same { block := b_1, off := (0 : Nat) } b_1 ∧ Same { block := b_1, off := (1 : Nat) } b_1 ∧ Done playC x F (Ending.returned (Value.agg { toList := [Value.slice y.r.a y.r.n y.r.cap, Value.int IntKind.i64 (0 : Int)] })) [((0 : Nat), Atom.cells x_1.b [Value.int IntKind.i64 x_1.now, Value.slice y.row.a y.row.n y.row.cap] (59 : Nat)), ((1 : Nat), y.row.A), ((2 : Nat), F), ((1000 : Nat), Atom.cells b [Value.int IntKind.u8 x.c.kind, Value.int IntKind.i64 x.c.ow, Value.string x.c.id, Value.int IntKind.i64 x.c.dl, Value.int IntKind.i64 x.c.n, Value.int IntKind.i64 x.c.by'] (31 : Nat)), ((1010 : Nat), Atom.cells b_1 [Value.slice y.r.a y.r.n y.r.cap, Value.int IntKind.i64 (0 : Int)] (34 : Nat)), ((2000 : Nat), Atom.cells b_2 [Value.slice y.r.a y.r.n y.r.cap, Value.int IntKind.i64 (0 : Int)] (34 : Nat)), ((7777 : Nat), y.r.A)])
            (Br (x.c.kind.tmod (5 : Int) == (2 : Int))
              (Same { block := b, off := (1 : Nat) } b ∧
                FnOk Try.prog (21 : Nat) dropC ∧
                  true = true ∧
                    ∃ (x_1 : DropX),
                      [Value.pointer (some { block := x.b, off := (0 : Nat) }), Value.int IntKind.i64 x.c.ow] = [Value.pointer (some { block := x_1.b, off := (0 : Nat) }), Value.int IntKind.i64 x_1.ow] ∧
                        [Atom.cells x.b [Value.int IntKind.i64 x.s.now, Value.slice x.row.a x.row.n x.row.cap] (59 : Nat), x.row.A] = [Atom.cells x_1.b [Value.int IntKind.i64 x_1.now, Value.slice x_1.row.a x_1.row.n x_1.row.cap] (59 : Nat), x_1.row.A] ∧
                          isTs x_1.ts x_1.row ∧
                            True ∧
                              ∀ (y : DfY),
                                isTs (stay (dropG x_1.ow) x_1.ts) y.row ∧ isNs (nts (dropG x_1.ow) x_1.ts) y.r →
                                  Same { block := b_2, off := (0 : Nat) } b_2 ∧
                                    Same { block := b_2, off := (1 : Nat) } b_2 ∧
                                      Same { block := b_2, off := (0 : Nat) } b_2 ∧
                                        Same { block := b_2, off := (1 : Nat) } b_2 ∧
                                          Same { block := b_1, off := (0 : Nat) } b_1 ∧ Same { block := b_1, off := (1 : Nat) } b_1 ∧ Same { block := b_1, off := (0 : Nat) } b_1 ∧ Same { block := b_1, off := (1 : Nat) } b_1 ∧ Done playC x F (Ending.returned (Value.agg { toList := [Value.slice y.r.a y.r.n y.r.cap, Value.int IntKind.i64 (0 : Int)] })) [((0 : Nat), Atom.cells x_1.b [Value.int IntKind.i64 x_1.now, Value.slice y.row.a y.row.n y.row.cap] (59 : Nat)), ((1 : Nat), y.row.A), ((2 : Nat), F), ((1000 : Nat), Atom.cells b [Value.int IntKind.u8 x.c.kind, Value.int IntKind.i64 x.c.ow, Value.string x.c.id, Value.int IntKind.i64 x.c.dl, Value.int IntKind.i64 x.c.n, Value.int IntKind.i64 x.c.by'] (31 : Nat)), ((1010 : Nat), Atom.cells b_1 [Value.slice y.r.a y.r.n y.r.cap, Value.int IntKind.i64 (0 : Int)] (34 : Nat)), ((2000 : Nat), Atom.cells b_2 [Value.slice y.r.a y.r.n y.r.cap, Value.int IntKind.i64 (0 : Int)] (34 : Nat)), ((7777 : Nat), y.r.A)])
              (Br (x.c.kind.tmod (5 : Int) == (3 : Int))
                (Same { block := b, off := (5 : Nat) } b ∧
                  FnOk Try.prog (18 : Nat) tickC ∧
                    true = true ∧
                      ∃ (x_1 : TickX),
                        [Value.pointer (some { block := x.b, off := (0 : Nat) }), Value.int IntKind.i64 x.c.by'] = [Value.pointer (some { block := x_1.b, off := (0 : Nat) }), Value.int IntKind.i64 x_1.by'] ∧
                          [Atom.cells x.b [Value.int IntKind.i64 x.s.now, Value.slice x.row.a x.row.n x.row.cap] (59 : Nat), x.row.A] = [Atom.cells x_1.b [Value.int IntKind.i64 x_1.now, Value.slice x_1.row.a x_1.row.n x_1.row.cap] (59 : Nat), x_1.row.A] ∧
                            (isTs x_1.ts x_1.row ∧ (0 : Int) ≤ x_1.now ∧ x_1.now ≤ (9007199254740992 : Int)) ∧
                              True ∧
                                ∀ (y : DfY),
                                  isTs (stay (tickG x_1.now x_1.by') x_1.ts) y.row ∧ isNs (nts (tickG x_1.now x_1.by') x_1.ts) y.r →
                                    Same { block := b_2, off := (0 : Nat) } b_2 ∧
                                      Same { block := b_2, off := (1 : Nat) } b_2 ∧
                                        Same { block := b_2, off := (0 : Nat) } b_2 ∧
                                          Same { block := b_2, off := (1 : Nat) } b_2 ∧
                                            Same { block := b_1, off := (0 : Nat) } b_1 ∧
                                              Same { block := b_1, off := (1 : Nat) } b_1 ∧ Same { block := b_1, off := (0 : Nat) } b_1 ∧ Same { block := b_1, off := (1 : Nat) } b_1 ∧ Done playC x F (Ending.returned (Value.agg { toList := [Value.slice y.r.a y.r.n y.r.cap, Value.int IntKind.i64 (tickE x_1.now x_1.by')] })) [((0 : Nat), Atom.cells x_1.b [Value.int IntKind.i64 (tickNow x_1.now x_1.by'), Value.slice y.row.a y.row.n y.row.cap] (59 : Nat)), ((1 : Nat), y.row.A), ((2 : Nat), F), ((1000 : Nat), Atom.cells b [Value.int IntKind.u8 x.c.kind, Value.int IntKind.i64 x.c.ow, Value.string x.c.id, Value.int IntKind.i64 x.c.dl, Value.int IntKind.i64 x.c.n, Value.int IntKind.i64 x.c.by'] (31 : Nat)), ((1010 : Nat), Atom.cells b_1 [Value.slice y.r.a y.r.n y.r.cap, Value.int IntKind.i64 (tickE x_1.now x_1.by')] (34 : Nat)), ((2000 : Nat), Atom.cells b_2 [Value.slice y.r.a y.r.n y.r.cap, Value.int IntKind.i64 (tickE x_1.now x_1.by')] (34 : Nat)), ((7777 : Nat), y.r.A)])
                (Same { block := b_2, off := (1 : Nat) } b_2 ∧
                  Same { block := b_2, off := (0 : Nat) } b_2 ∧
                    Same { block := b_2, off := (1 : Nat) } b_2 ∧ Same { block := b_1, off := (0 : Nat) } b_1 ∧ Same { block := b_1, off := (1 : Nat) } b_1 ∧ Same { block := b_1, off := (0 : Nat) } b_1 ∧ Same { block := b_1, off := (1 : Nat) } b_1 ∧ Done playC x F (Ending.returned (Value.agg { toList := [Value.slice none (0 : Nat) (0 : Nat), Value.int IntKind.i64 (0 : Int)] })) [((0 : Nat), Atom.cells x.b [Value.int IntKind.i64 x.s.now, Value.slice x.row.a x.row.n x.row.cap] (59 : Nat)), ((1 : Nat), x.row.A), ((2 : Nat), F), ((1000 : Nat), Atom.cells b [Value.int IntKind.u8 x.c.kind, Value.int IntKind.i64 x.c.ow, Value.string x.c.id, Value.int IntKind.i64 x.c.dl, Value.int IntKind.i64 x.c.n, Value.int IntKind.i64 x.c.by'] (31 : Nat)), ((1010 : Nat), Atom.cells b_1 [Value.slice none (0 : Nat) (0 : Nat), Value.int IntKind.i64 (0 : Int)] (34 : Nat)), ((2000 : Nat), Atom.cells b_2 [Value.slice none (0 : Nat) (0 : Nat), Value.int IntKind.i64 (0 : Int)] (34 : Nat))])))) := by
  obtain ⟨cb, ⟨now, ts⟩, row, ⟨kind, ow, id, dl, n, by'⟩⟩ := x
  obtain ⟨hts, hn0, hn1⟩ := hc
  dsimp only at hts hn0 hn1
  intro b b1 b2
  simp only [same_refl, true_and]
  refine ⟨by omega, br_intro (fun h0 => ?_) (fun h0 => br_intro (fun h1 => ?_) (fun h1 => br_intro (fun h2 => ?_) (fun h2 => br_intro (fun h3 => ?_) (fun h3 => ?_))))⟩
  · have e0 : k5 ⟨kind, ow, id, dl, n, by'⟩ == 0 := h0
    have e3 : (k5 ⟨kind, ow, id, dl, n, by'⟩ == 3) = false := by simp only [beq_iff_eq] at e0; simp [e0]
    refine ⟨set_ok, ⟨cb, now, ts, row, ow, id, dl, n⟩, rfl, rfl, ⟨hts, hn0, hn1⟩, fun y hy => ⟨⟨y, ⟨none, 0, 0, .emp⟩⟩, ⟨?_, ?_⟩, ?_, ?_⟩⟩
    · dsimp only; unfold stepT; rw [e0]; exact hy
    · dsimp only; unfold stepO; rw [e0]; exact ⟨.nil rfl, rfl⟩
    · simp only [playC, stepE, e0, cond_true]
    · simp only [playC, stepN, e3, cond_false]; exact Ent.pick [0, 1, 7777, 2] rfl rfl
  · have e0 : (k5 ⟨kind, ow, id, dl, n, by'⟩ == 0) = false := h0
    have e1 : k5 ⟨kind, ow, id, dl, n, by'⟩ == 1 := h1
    have e3 : (k5 ⟨kind, ow, id, dl, n, by'⟩ == 3) = false := by simp only [beq_iff_eq] at e1; simp [e1]
    have eg : kG ⟨now, ts⟩ ⟨kind, ow, id, dl, n, by'⟩ = cancelG ow id := by funext t; unfold kG; rw [e1]; rfl
    refine ⟨cancel_ok, ⟨cb, now, ts, row, ow, id⟩, rfl, rfl, hts, fun y hy => ⟨y, ⟨?_, ?_⟩, ?_, ?_⟩⟩
    · dsimp only; unfold stepT; rw [e0, eg]; exact hy.1
    · dsimp only; unfold stepO; rw [e0, eg]; exact hy.2
    · simp only [playC, stepE, e0, e3, cond_false]
    · simp only [playC, stepN, e3, cond_false]; exact Ent.pick [0, 1, 7777, 2] rfl rfl
  · have e0 : (k5 ⟨kind, ow, id, dl, n, by'⟩ == 0) = false := h0
    have e1 : (k5 ⟨kind, ow, id, dl, n, by'⟩ == 1) = false := h1
    have e2 : k5 ⟨kind, ow, id, dl, n, by'⟩ == 2 := h2
    have e3 : (k5 ⟨kind, ow, id, dl, n, by'⟩ == 3) = false := by simp only [beq_iff_eq] at e2; simp [e2]
    have eg : kG ⟨now, ts⟩ ⟨kind, ow, id, dl, n, by'⟩ = dropG ow := by funext t; unfold kG; rw [e1, e2]; rfl
    refine ⟨drop_ok, ⟨cb, now, ts, row, ow⟩, rfl, rfl, hts, fun y hy => ⟨y, ⟨?_, ?_⟩, ?_, ?_⟩⟩
    · dsimp only; unfold stepT; rw [e0, eg]; exact hy.1
    · dsimp only; unfold stepO; rw [e0, eg]; exact hy.2
    · simp only [playC, stepE, e0, e3, cond_false]
    · simp only [playC, stepN, e3, cond_false]; exact Ent.pick [0, 1, 7777, 2] rfl rfl
  · have e0 : (k5 ⟨kind, ow, id, dl, n, by'⟩ == 0) = false := h0
    have e1 : (k5 ⟨kind, ow, id, dl, n, by'⟩ == 1) = false := h1
    have e2 : (k5 ⟨kind, ow, id, dl, n, by'⟩ == 2) = false := h2
    have e3 : k5 ⟨kind, ow, id, dl, n, by'⟩ == 3 := h3
    have eg : kG ⟨now, ts⟩ ⟨kind, ow, id, dl, n, by'⟩ = tickG now by' := by funext t; unfold kG; rw [e1, e2, e3]; rfl
    refine ⟨tick_ok, ⟨cb, now, ts, row, by'⟩, rfl, rfl, ⟨hts, hn0, hn1⟩, fun y hy => ⟨y, ⟨?_, ?_⟩, ?_, ?_⟩⟩
    · dsimp only; unfold stepT; rw [e0, eg]; exact hy.1
    · dsimp only; unfold stepO; rw [e0, eg]; exact hy.2
    · simp only [playC, stepE, e0, e3, cond_false, cond_true]
    · simp only [playC, stepN, e3, cond_true]; exact Ent.pick [0, 1, 7777, 2] rfl rfl
  · have e0 : (k5 ⟨kind, ow, id, dl, n, by'⟩ == 0) = false := h0
    have e1 : (k5 ⟨kind, ow, id, dl, n, by'⟩ == 1) = false := h1
    have e2 : (k5 ⟨kind, ow, id, dl, n, by'⟩ == 2) = false := h2
    have e3 : (k5 ⟨kind, ow, id, dl, n, by'⟩ == 3) = false := h3
    have eg : ∀ t, kG ⟨now, ts⟩ ⟨kind, ow, id, dl, n, by'⟩ t = false := by intro t; unfold kG; rw [e1, e2, e3]; rfl
    refine ⟨⟨row, ⟨none, 0, 0, .emp⟩⟩, ⟨?_, ?_⟩, ?_, ?_⟩
    · dsimp only; unfold stepT; rw [e0]; dsimp only [cond_false]; rw [stay_false ts eg]; exact hts
    · dsimp only; unfold stepO; rw [e0]; dsimp only [cond_false]; rw [nts_false ts eg]; exact ⟨.nil rfl, rfl⟩
    · simp only [playC, stepE, e0, e3, cond_false]
    · simp only [playC, stepN, e3, cond_false]; exact Ent.pick [0, 1, 7777, 2] rfl rfl
set_option maxRecDepth 100000 in
theorem play_ok : FnOk Try.prog 9 playC :=
  fnOk (N := 51) (by kernel_rfl) Try.func9 rfl (by kernel_rfl) (fun _ => Nat.le_of_ble_eq_true rfl) play_H [LH.atj 1010, LH.atj 1010] fun x F hc hr => Eq.mpr (by kernel_rfl) (play_vc x F hc hr)
end Go.Proofs.Ytmknmibmnidnoaa
