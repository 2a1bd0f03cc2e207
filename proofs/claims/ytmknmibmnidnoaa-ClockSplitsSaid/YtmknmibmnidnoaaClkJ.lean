/- The clock's methods. -/
import Derived.Test.YtmknmibmnidnoaaClkI
set_option linter.all false
namespace Go.Proofs.Ytmknmibmnidnoaa
open Go
structure TickX where
  b : Nat
  now : Int
  ts : List Tmr
  row : Row
  by' : Int
def tickE (now by' : Int) : Int := bif decide (by' < 0) || decide (by' > 9007199254740992 - now) then 1 else 0
def tickNow (now by' : Int) : Int := bif decide (tickE now by' = 0) then now + by' else now
def tickG (now by' : Int) (t : Tmr) : Bool := bif decide (tickE now by' = 0) then decide (t.due ≤ now + by') else false
def tickC : Con where
  X := TickX
  Y := DfY
  args x := [.pointer (some ⟨x.b, 0, none⟩), .int .i64 x.by']
  pre x := [clkA x.b x.now x.row, x.row.A]
  cond x := isTs x.ts x.row ∧ 0 ≤ x.now ∧ x.now ≤ 9007199254740992
  rdc _ _ := True
  rel x y := isTs (stay (tickG x.now x.by') x.ts) y.row ∧ isNs (nts (tickG x.now x.by') x.ts) y.r
  val x y := .returned (.tuple #[.slice y.r.a y.r.n y.r.cap, .int .i64 (tickE x.now x.by')])
  post x y := [clkA x.b (tickNow x.now x.by') y.row, y.row.A, y.r.A]
theorem tickE_bad {now by' : Int} (h : by' < 0 ∨ by' > 9007199254740992 - now) : tickE now by' = 1 := by
  unfold tickE; rcases h with h | h <;> simp [h]
theorem tickE_ok {now by' : Int} (h : ¬ by' < 0) (h2 : ¬ by' > 9007199254740992 - now) : tickE now by' = 0 := by
  unfold tickE; rw [decide_eq_false h, decide_eq_false h2]; rfl
theorem stay_false (ts : List Tmr) {g : Tmr → Bool} (h : ∀ t, g t = false) : stay g ts = ts := stay_all fun _ u _ => h u
theorem nts_false (ts : List Tmr) {g : Tmr → Bool} (h : ∀ t, g t = false) : nts g ts = [] := by
  unfold nts
  rw [List.filter_eq_nil_iff.2 (fun u _ => by rw [h u]; simp)]; rfl
def tickOv (x : TickX) (_F : Atom) : List (Nat × Nat × OH) := [(4, 2, .c tcTC [0, 1] [0, 1, 7777])]
noncomputable def tick_H (x : Con.X tickC) (F : Atom) : Hints where
  op := hk ((tickOv x F) ++ [(0, 0, OH.n (1000 : Nat)),   (1, 4, OH.q [LH.atj (1000 : Nat)]),   (1, 7, OH.q [LH.atj (0 : Nat)]),   (3, 0, OH.q [LH.atj (1000 : Nat)]),   (3, 3, OH.q [LH.atj (0 : Nat)]),   (3, 8, OH.w [LH.atj (0 : Nat)]),   (4, 0, OH.q [LH.atj (1000 : Nat)])])
  inv := (fun _ _ _ => none) x F
  cut := (fun _ _ _ => none) x F
  ord := (fun _ => [])
set_option maxRecDepth 100000 in
theorem tick_vc (x : TickX) (F : Atom) (hc : Con.cond tickC x) (hr : Con.rdc tickC x F) :
  ∀ (b : Nat),
    Br (decide (x.by' < (0 : Int))) (Done tickC x F (Ending.returned (Value.tuple { toList := [Value.slice none (0 : Nat) (0 : Nat), Value.int IntKind.i64 (1 : Int)] })) [((0 : Nat), Atom.cells x.b [Value.int IntKind.i64 x.now, Value.slice x.row.a x.row.n x.row.cap] (59 : Nat)), ((1 : Nat), x.row.A), ((2 : Nat), F), ((1000 : Nat), Atom.cells b [Value.pointer (some { block := x.b, off := (0 : Nat) })] (24 : Nat))])
      (Same { block := b, off := (0 : Nat) } b ∧
        Same { block := x.b, off := (0 : Nat) } x.b ∧
          ((-9223372036854775808 : Int) ≤ (9007199254740992 : Int) - x.now ∧ (9007199254740992 : Int) - x.now ≤ (9223372036854775807 : Int)) ∧
            Br (decide (x.by' > (9007199254740992 : Int) - x.now)) (Done tickC x F (Ending.returned (Value.tuple { toList := [Value.slice none (0 : Nat) (0 : Nat), Value.int IntKind.i64 (1 : Int)] })) [((0 : Nat), Atom.cells x.b [Value.int IntKind.i64 x.now, Value.slice x.row.a x.row.n x.row.cap] (59 : Nat)), ((1 : Nat), x.row.A), ((2 : Nat), F), ((1000 : Nat), Atom.cells b [Value.pointer (some { block := x.b, off := (0 : Nat) })] (24 : Nat))])
              (Same { block := b, off := (0 : Nat) } b ∧
                Same { block := x.b, off := (0 : Nat) } x.b ∧
                  ((-9223372036854775808 : Int) ≤ x.now + x.by' ∧ x.now + x.by' ≤ (9223372036854775807 : Int)) ∧
                    Same { block := x.b, off := (0 : Nat) } x.b ∧
                      Same { block := b, off := (0 : Nat) } b ∧
                        FnOk Try.prog (26 : Nat) tcTC ∧
                          true = true ∧
                            ∃ (x_1 : TCT),
                              [Value.pointer (some { block := x.b, off := (0 : Nat) }), Value.func (Fn.func (27 : Nat)) { toList := [] } { toList := [Value.pointer (some { block := b, off := (0 : Nat) })] }] = [Value.pointer (some { block := x_1.b, off := (0 : Nat) }), Value.func (Fn.func (27 : Nat)) { toList := [] } { toList := [Value.pointer (some { block := x_1.k.cb, off := (0 : Nat) })] }] ∧
                                [Atom.cells x.b [Value.int IntKind.i64 (x.now + x.by'), Value.slice x.row.a x.row.n x.row.cap] (59 : Nat), x.row.A] = [Atom.cells x_1.b [Value.int IntKind.i64 x_1.now, Value.slice x_1.row.a x_1.row.n x_1.row.cap] (59 : Nat), x_1.row.A] ∧
                                  (isTs x_1.ts x_1.row ∧ okT x_1.b x_1.now x_1.k) ∧ rqT x_1.k (Atom.pred (rest [((0 : Nat), Atom.cells x.b [Value.int IntKind.i64 (x.now + x.by'), Value.slice x.row.a x.row.n x.row.cap] (59 : Nat)), ((1 : Nat), x.row.A), ((2 : Nat), F), ((1000 : Nat), Atom.cells b [Value.pointer (some { block := x.b, off := (0 : Nat) })] (24 : Nat))] [(0 : Nat), (1 : Nat)])) ∧ ∀ (y : DfY), isTs (stay (gT x_1.k) x_1.ts) y.row ∧ isNs (nts (gT x_1.k) x_1.ts) y.r → Done tickC x F (Ending.returned (Value.tuple { toList := [Value.slice y.r.a y.r.n y.r.cap, Value.int IntKind.i64 (0 : Int)] })) [((0 : Nat), Atom.cells x_1.b [Value.int IntKind.i64 x_1.now, Value.slice y.row.a y.row.n y.row.cap] (59 : Nat)), ((1 : Nat), y.row.A), ((2 : Nat), F), ((1000 : Nat), Atom.cells b [Value.pointer (some { block := x.b, off := (0 : Nat) })] (24 : Nat)), ((7777 : Nat), y.r.A)])) := by
  obtain ⟨cb, now, ts, row, by'⟩ := x
  obtain ⟨hts, h0, h1⟩ := hc
  dsimp only at hts h0 h1 ⊢
  have bad : ∀ b, (by' < 0 ∨ by' > 9007199254740992 - now) → Done tickC ⟨cb, now, ts, row, by'⟩ F (.returned (.tuple #[.slice none 0 0, .int .i64 1])) [(0, .cells cb [.int .i64 now, .slice row.a row.n row.cap] 59), (1, row.A), (2, F), (1000, .cells b [.pointer (some ⟨cb, 0, none⟩)] 24)] := by
    intro b h
    have he := tickE_bad h
    have hg : ∀ t, tickG now by' t = false := fun t => by unfold tickG; rw [he]; rfl
    refine ⟨⟨row, ⟨none, 0, 0, .emp⟩⟩, ⟨?_, ?_⟩, by simp only [tickC, he], ?_⟩
    · dsimp only; rw [stay_false ts hg]; exact hts
    · dsimp only; rw [nts_false ts hg]; exact ⟨.nil rfl, rfl⟩
    · have : tickNow now by' = now := by unfold tickNow; rw [he]; rfl
      simp only [tickC, this]
      exact Ent.pick [0, 1, 7777, 2] rfl rfl
  refine fun b => br_decide (fun h => bad b (.inl h)) (fun h => ⟨⟨rfl, rfl⟩, ⟨rfl, rfl⟩, by omega, br_decide (fun h2 => bad b (.inr h2)) (fun h2 => ⟨⟨rfl, rfl⟩, ⟨rfl, rfl⟩, by omega, ⟨rfl, rfl⟩, ⟨rfl, rfl⟩, tcT_ok, rfl, ⟨cb, now + by', ts, row, ⟨b, cb, now + by'⟩⟩, rfl, rfl, ⟨hts, rfl, rfl⟩, Look.rest (j := 1000) (by simp) (Look.cells rfl), fun y hy => ?_⟩)⟩)
  have he := tickE_ok h h2
  have hn : tickNow now by' = now + by' := by unfold tickNow; rw [he]; rfl
  have hg : tickG now by' = gT ⟨b, cb, now + by'⟩ := by funext t; unfold tickG gT; rw [he]; rfl
  refine ⟨y, ?_, by simp only [tickC, he], ?_⟩
  · simp only [tickC, hg]; exact hy
  · simp only [tickC, hn]; exact Ent.pick [0, 1, 7777, 2] rfl rfl
set_option maxRecDepth 100000 in
theorem tick_ok : FnOk Try.prog 18 tickC :=
  fnOk (N := 28) (by kernel_rfl) Try.func18 rfl (by kernel_rfl) (fun _ => Nat.le_of_ble_eq_true rfl) tick_H [] fun x F hc hr => Eq.mpr (by kernel_rfl) (tick_vc x F hc hr)
structure CancelX where
  b : Nat
  now : Int
  ts : List Tmr
  row : Row
  ow : Int
  id : ByteArray
def cancelG (ow : Int) (id : ByteArray) (t : Tmr) : Bool := bif t.ow == ow then t.id.toList == id.toList else false
def cancelC : Con where
  X := CancelX
  Y := DfY
  args x := [.pointer (some ⟨x.b, 0, none⟩), .int .i64 x.ow, .string x.id]
  pre x := [clkA x.b x.now x.row, x.row.A]
  cond x := isTs x.ts x.row
  rdc _ _ := True
  rel x y := isTs (stay (cancelG x.ow x.id) x.ts) y.row ∧ isNs (nts (cancelG x.ow x.id) x.ts) y.r
  val _ y := .returned (.slice y.r.a y.r.n y.r.cap)
  post x y := [clkA x.b x.now y.row, y.row.A, y.r.A]
def cancelOv (_x : CancelX) (_F : Atom) : List (Nat × Nat × OH) := [(1, 2, .c tcCC [0, 1] [0, 1, 7777])]
noncomputable def cancel_H (x : Con.X cancelC) (F : Atom) : Hints where
  op := hk ((cancelOv x F) ++ [(0, 0, OH.n (1000 : Nat)),   (0, 1, OH.n (1010 : Nat))])
  inv := (fun _ _ _ => none) x F
  cut := (fun _ _ _ => none) x F
  ord := (fun _ => [])
set_option maxRecDepth 100000 in
theorem cancel_vc (x : CancelX) (F : Atom) (hc : Con.cond cancelC x) (hr : Con.rdc cancelC x F) :
  ∀ (b b_1 : Nat),
    FnOk Try.prog (26 : Nat) tcCC ∧
      true = true ∧
        ∃ (x_1 : TCC),
          [Value.pointer (some { block := x.b, off := (0 : Nat) }), Value.func (Fn.func (29 : Nat)) { toList := [] } { toList := [Value.pointer (some { block := b, off := (0 : Nat) }), Value.pointer (some { block := b_1, off := (0 : Nat) })] }] = [Value.pointer (some { block := x_1.b, off := (0 : Nat) }), Value.func (Fn.func (29 : Nat)) { toList := [] } { toList := [Value.pointer (some { block := x_1.k.c1, off := (0 : Nat) }), Value.pointer (some { block := x_1.k.c2, off := (0 : Nat) })] }] ∧
            [Atom.cells x.b [Value.int IntKind.i64 x.now, Value.slice x.row.a x.row.n x.row.cap] (59 : Nat), x.row.A] = [Atom.cells x_1.b [Value.int IntKind.i64 x_1.now, Value.slice x_1.row.a x_1.row.n x_1.row.cap] (59 : Nat), x_1.row.A] ∧
              (isTs x_1.ts x_1.row ∧ okC x_1.b x_1.now x_1.k) ∧ rqC x_1.k (Atom.pred (rest [((0 : Nat), Atom.cells x.b [Value.int IntKind.i64 x.now, Value.slice x.row.a x.row.n x.row.cap] (59 : Nat)), ((1 : Nat), x.row.A), ((2 : Nat), F), ((1000 : Nat), Atom.cells b [Value.int IntKind.i64 x.ow] (3 : Nat)), ((1010 : Nat), Atom.cells b_1 [Value.string x.id] (9 : Nat))] [(0 : Nat), (1 : Nat)])) ∧ ∀ (y : DfY), isTs (stay (gC x_1.k) x_1.ts) y.row ∧ isNs (nts (gC x_1.k) x_1.ts) y.r → Done cancelC x F (Ending.returned (Value.slice y.r.a y.r.n y.r.cap)) [((0 : Nat), Atom.cells x_1.b [Value.int IntKind.i64 x_1.now, Value.slice y.row.a y.row.n y.row.cap] (59 : Nat)), ((1 : Nat), y.row.A), ((2 : Nat), F), ((1000 : Nat), Atom.cells b [Value.int IntKind.i64 x.ow] (3 : Nat)), ((1010 : Nat), Atom.cells b_1 [Value.string x.id] (9 : Nat)), ((7777 : Nat), y.r.A)] := by
  obtain ⟨cb, now, ts, row, ow, id⟩ := x
  exact fun b b1 => ⟨tcC_ok, rfl, ⟨cb, now, ts, row, ⟨b, b1, ow, id⟩⟩, rfl, rfl, ⟨hc, trivial⟩, ⟨Look.rest (j := 1000) (by simp) (Look.cells rfl), Look.rest (j := 1010) (by simp) (Look.cells rfl)⟩, fun y hy => ⟨y, hy, rfl, Ent.pick [0, 1, 7777, 2] rfl rfl⟩⟩
set_option maxRecDepth 100000 in
theorem cancel_ok : FnOk Try.prog 20 cancelC :=
  fnOk (N := 10) (by kernel_rfl) Try.func20 rfl (by kernel_rfl) (fun _ => Nat.le_of_ble_eq_true rfl) cancel_H [] fun x F hc hr => Eq.mpr (by kernel_rfl) (cancel_vc x F hc hr)
def dropG (ow : Int) (t : Tmr) : Bool := t.ow == ow
structure DropX where
  b : Nat
  now : Int
  ts : List Tmr
  row : Row
  ow : Int
def dropC : Con where
  X := DropX
  Y := DfY
  args x := [.pointer (some ⟨x.b, 0, none⟩), .int .i64 x.ow]
  pre x := [clkA x.b x.now x.row, x.row.A]
  cond x := isTs x.ts x.row
  rdc _ _ := True
  rel x y := isTs (stay (dropG x.ow) x.ts) y.row ∧ isNs (nts (dropG x.ow) x.ts) y.r
  val _ y := .returned (.slice y.r.a y.r.n y.r.cap)
  post x y := [clkA x.b x.now y.row, y.row.A, y.r.A]
def dropOv (_x : DropX) (_F : Atom) : List (Nat × Nat × OH) := [(1, 2, .c tcDC [0, 1] [0, 1, 7777])]
noncomputable def drop_H (x : Con.X dropC) (F : Atom) : Hints where
  op := hk ((dropOv x F) ++ [(0, 0, OH.n (1000 : Nat))])
  inv := (fun _ _ _ => none) x F
  cut := (fun _ _ _ => none) x F
  ord := (fun _ => [])
set_option maxRecDepth 100000 in
theorem drop_vc (x : DropX) (F : Atom) (hc : Con.cond dropC x) (hr : Con.rdc dropC x F) :
  ∀ (b : Nat),
    FnOk Try.prog (26 : Nat) tcDC ∧
      true = true ∧
        ∃ (x_1 : TCD),
          [Value.pointer (some { block := x.b, off := (0 : Nat) }), Value.func (Fn.func (30 : Nat)) { toList := [] } { toList := [Value.pointer (some { block := b, off := (0 : Nat) })] }] = [Value.pointer (some { block := x_1.b, off := (0 : Nat) }), Value.func (Fn.func (30 : Nat)) { toList := [] } { toList := [Value.pointer (some { block := x_1.k.c1, off := (0 : Nat) })] }] ∧
            [Atom.cells x.b [Value.int IntKind.i64 x.now, Value.slice x.row.a x.row.n x.row.cap] (59 : Nat), x.row.A] = [Atom.cells x_1.b [Value.int IntKind.i64 x_1.now, Value.slice x_1.row.a x_1.row.n x_1.row.cap] (59 : Nat), x_1.row.A] ∧ (isTs x_1.ts x_1.row ∧ okD x_1.b x_1.now x_1.k) ∧ rqD x_1.k (Atom.pred (rest [((0 : Nat), Atom.cells x.b [Value.int IntKind.i64 x.now, Value.slice x.row.a x.row.n x.row.cap] (59 : Nat)), ((1 : Nat), x.row.A), ((2 : Nat), F), ((1000 : Nat), Atom.cells b [Value.int IntKind.i64 x.ow] (3 : Nat))] [(0 : Nat), (1 : Nat)])) ∧ ∀ (y : DfY), isTs (stay (gD x_1.k) x_1.ts) y.row ∧ isNs (nts (gD x_1.k) x_1.ts) y.r → Done dropC x F (Ending.returned (Value.slice y.r.a y.r.n y.r.cap)) [((0 : Nat), Atom.cells x_1.b [Value.int IntKind.i64 x_1.now, Value.slice y.row.a y.row.n y.row.cap] (59 : Nat)), ((1 : Nat), y.row.A), ((2 : Nat), F), ((1000 : Nat), Atom.cells b [Value.int IntKind.i64 x.ow] (3 : Nat)), ((7777 : Nat), y.r.A)] := by
  obtain ⟨cb, now, ts, row, ow⟩ := x
  exact fun b => ⟨tcD_ok, rfl, ⟨cb, now, ts, row, ⟨b, ow⟩⟩, rfl, rfl, ⟨hc, trivial⟩, Look.rest (j := 1000) (by simp) (Look.cells rfl), fun y hy => ⟨y, hy, rfl, Ent.pick [0, 1, 7777, 2] rfl rfl⟩⟩
set_option maxRecDepth 100000 in
theorem drop_ok : FnOk Try.prog 21 dropC :=
  fnOk (N := 8) (by kernel_rfl) Try.func21 rfl (by kernel_rfl) (fun _ => Nat.le_of_ble_eq_true rfl) drop_H [] fun x F hc hr => Eq.mpr (by kernel_rfl) (drop_vc x F hc hr)
structure ClkX where
  b : Nat
  now : Int
  ts : List Tmr
  row : Row
def nowC : Con where
  X := ClkX
  Y := Unit
  args x := [.pointer (some ⟨x.b, 0, none⟩)]
  pre x := [clkA x.b x.now x.row]
  cond _ := True
  rdc _ _ := True
  rel _ _ := True
  val x _ := .returned (.int .i64 x.now)
  post x _ := [clkA x.b x.now x.row]
noncomputable def now_H (x : Con.X nowC) (F : Atom) : Hints where
  op := hk (((fun _ _ => []) x F) ++ [(1, 3, OH.q [LH.atj (0 : Nat)])])
  inv := (fun _ _ _ => none) x F
  cut := (fun _ _ _ => none) x F
  ord := (fun _ => [])
set_option maxRecDepth 100000 in
theorem now_vc (x : ClkX) (F : Atom) (hc : Con.cond nowC x) (hr : Con.rdc nowC x F) :
  Same { block := x.b, off := (0 : Nat) } x.b ∧ Done nowC x F (Ending.returned (Value.int IntKind.i64 x.now)) [((0 : Nat), Atom.cells x.b [Value.int IntKind.i64 x.now, Value.slice x.row.a x.row.n x.row.cap] (59 : Nat)), ((1 : Nat), F)] := by
  exact ⟨⟨rfl, rfl⟩, (), trivial, rfl, Ent.pick [0, 1] rfl rfl⟩
set_option maxRecDepth 100000 in
theorem now_ok : FnOk Try.prog 15 nowC :=
  fnOk (N := 7) (by kernel_rfl) Try.func15 rfl (by kernel_rfl) (fun _ => Nat.le_of_ble_eq_true rfl) now_H [] fun x F hc hr => Eq.mpr (by kernel_rfl) (now_vc x F hc hr)
def newC : Con where
  X := Unit
  Y := Nat
  args _ := []
  pre _ := []
  cond _ := True
  rdc _ _ := True
  rel _ _ := True
  val _ b := .returned (.pointer (some ⟨b, 0, none⟩))
  post _ b := [clkA b 0 ⟨none, 0, 0, .emp⟩]
noncomputable def new_H (x : Con.X newC) (F : Atom) : Hints where
  op := hk (((fun _ _ => []) x F) ++ [(1, 1, OH.n (2010 : Nat))])
  inv := (fun _ _ _ => none) x F
  cut := (fun _ _ _ => none) x F
  ord := (fun _ => [])
set_option maxRecDepth 100000 in
theorem new_vc (x : PUnit) (F : Atom) (hc : Con.cond newC x) (hr : Con.rdc newC x F) :
  ∀ (b : Nat), Done newC x F (Ending.returned (Value.pointer (some { block := b, off := (0 : Nat) }))) [((0 : Nat), F), ((2010 : Nat), Atom.cells b [Value.int IntKind.i64 (0 : Int), Value.slice none (0 : Nat) (0 : Nat)] (59 : Nat))] := by
  exact fun b => ⟨b, trivial, rfl, Ent.pick [2010, 0] rfl rfl⟩
set_option maxRecDepth 100000 in
theorem new_ok : FnOk Try.prog 8 newC :=
  fnOk (N := 3) (by kernel_rfl) Try.func8 rfl (by kernel_rfl) (fun _ => Nat.le_of_ble_eq_true rfl) new_H [] fun x F hc hr => Eq.mpr (by kernel_rfl) (new_vc x F hc hr)
end Go.Proofs.Ytmknmibmnidnoaa
