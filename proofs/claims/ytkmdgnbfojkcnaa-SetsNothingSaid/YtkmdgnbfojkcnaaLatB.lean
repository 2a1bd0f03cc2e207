/- A chart, as an argument. -/
import Derived.Test.YtkmdgnbfojkcnaaLatA
import Derived.Test.YtkmdgnbfojkcnaaProg
set_option linter.all false
namespace Go.Proofs.Ytkmdgnbfojkcnaa
open Go Go.ChangeShapes Go.WideShapes Go.ChangeAt Go.RowKit
noncomputable def fsOf (t : TypeId) : Array Field := match Try.prog.underlying t with | some (.struct fs) => fs | _ => #[]
theorem list1 {ys : List Value} (h : ys.length = 1) : ∃ a0, ys = [a0] :=
  match ys, h with
  | [a0], _ => ⟨a0, rfl⟩
theorem list2 {ys : List Value} (h : ys.length = 2) : ∃ a0 a1, ys = [a0, a1] :=
  match ys, h with
  | [a0, a1], _ => ⟨a0, a1, rfl⟩
theorem list3 {ys : List Value} (h : ys.length = 3) : ∃ a0 a1 a2, ys = [a0, a1, a2] :=
  match ys, h with
  | [a0, a1, a2], _ => ⟨a0, a1, a2, rfl⟩
theorem list6 {ys : List Value} (h : ys.length = 6) : ∃ a0 a1 a2 a3 a4 a5, ys = [a0, a1, a2, a3, a4, a5] :=
  match ys, h with
  | [a0, a1, a2, a3, a4, a5], _ => ⟨a0, a1, a2, a3, a4, a5, rfl⟩
theorem list8 {ys : List Value} (h : ys.length = 8) : ∃ a0 a1 a2 a3 a4 a5 a6 a7, ys = [a0, a1, a2, a3, a4, a5, a6, a7] :=
  match ys, h with
  | [a0, a1, a2, a3, a4, a5, a6, a7], _ => ⟨a0, a1, a2, a3, a4, a5, a6, a7, rfl⟩
theorem list13 {ys : List Value} (h : ys.length = 13) : ∃ a0 a1 a2 a3 a4 a5 a6 a7 a8 a9 a10 a11 a12, ys = [a0, a1, a2, a3, a4, a5, a6, a7, a8, a9, a10, a11, a12] :=
  match ys, h with
  | [a0, a1, a2, a3, a4, a5, a6, a7, a8, a9, a10, a11, a12], _ => ⟨a0, a1, a2, a3, a4, a5, a6, a7, a8, a9, a10, a11, a12, rfl⟩
theorem list19 {ys : List Value} (h : ys.length = 19) : ∃ a0 a1 a2 a3 a4 a5 a6 a7 a8 a9 a10 a11 a12 a13 a14 a15 a16 a17 a18, ys = [a0, a1, a2, a3, a4, a5, a6, a7, a8, a9, a10, a11, a12, a13, a14, a15, a16, a17, a18] :=
  match ys, h with
  | [a0, a1, a2, a3, a4, a5, a6, a7, a8, a9, a10, a11, a12, a13, a14, a15, a16, a17, a18], _ => ⟨a0, a1, a2, a3, a4, a5, a6, a7, a8, a9, a10, a11, a12, a13, a14, a15, a16, a17, a18, rfl⟩
section
variable {H : Type} {enc : TypeId × Value → H} {W : World} {base : Nat} {spare : Nat → Bool} {held : Bool}
theorem fieldB {P : Program} {t : TypeId} {fs : Array Field} {n : Nat} {ys : List Value} {y : DataW H × List MemPlace} (ht : P.underlying t = some (.struct fs)) (h : DataW.trod enc P W base spare held n t ys = some y) (i j : Nat) (f : Field)
    (hf : fs[i]? = some f) (ho : f.offset = j) (hc : P.cellsOf f.type = 1) (hk : P.underlying f.type = some .bool) (hj : j < ys.length) : ∃ b : Bool, ys[j] = .bool b := by
  obtain ⟨m, z, hz⟩ := field1 ht h i j f hf ho hc hj
  obtain ⟨q, hq, _⟩ := DataW.trod_bool hk hz
  simp only [List.cons.injEq, and_true] at hq
  exact ⟨q, hq⟩
theorem field1T {P : Program} {t : TypeId} {fs : Array Field} {n : Nat} {ys : List Value} {y : DataW H × List MemPlace} (ht : P.underlying t = some (.struct fs)) (h : DataW.trod enc P W base spare held n t ys = some y) (i j : Nat) (f : Field) (T : TypeId)
    (hf : fs[i]? = some f) (ho : f.offset = j) (hc : P.cellsOf f.type = 1) (hT : f.type = T) (hj : j < ys.length) : ∃ m z, DataW.trod enc P W base spare held m T [ys[j]] = some z ∧ (WtOk P t y.1 → WtOk P T z.1) := by
  obtain ⟨m, z, hz, hb⟩ := fieldN ht h i j 1 f hf ho hc
  have e : (ys.drop j).take 1 = [ys[j]] := by rw [List.drop_eq_getElem_cons hj]; rfl
  rw [e] at hz
  exact ⟨m, z, hT ▸ hz, hT ▸ hb⟩
theorem fieldNT {P : Program} {t : TypeId} {fs : Array Field} {n : Nat} {ys : List Value} {y : DataW H × List MemPlace} (ht : P.underlying t = some (.struct fs)) (h : DataW.trod enc P W base spare held n t ys = some y) (i j k : Nat) (f : Field) (T : TypeId)
    (hf : fs[i]? = some f) (ho : f.offset = j) (hc : P.cellsOf f.type = k) (hT : f.type = T) : ∃ m z, DataW.trod enc P W base spare held m T ((ys.drop j).take k) = some z ∧ (WtOk P t y.1 → WtOk P T z.1) := by
  obtain ⟨m, z, hz, hb⟩ := fieldN ht h i j k f hf ho hc
  exact ⟨m, z, hT ▸ hz, hT ▸ hb⟩
theorem int_el (n : Nat) (ys : List Value) (y : DataW H × List MemPlace) (_ : ys.length = 1) (h : DataW.trod enc Try.prog W base spare held n 3 ys = some y) (_ : WtOk Try.prog 3 y.1) : ∃ x : Int, IntIn ys x := by
  obtain ⟨q, hq, _, _⟩ := DataW.trod_int (k := .i64) (by kernel_rfl) h
  exact ⟨q, hq⟩
theorem str_el (n : Nat) (ys : List Value) (y : DataW H × List MemPlace) (_ : ys.length = 1) (h : DataW.trod enc Try.prog W base spare held n 9 ys = some y) (_ : WtOk Try.prog 9 y.1) : ∃ x : ByteArray, StrIn ys x := by
  obtain ⟨q, hq, _, _⟩ := DataW.trod_string (by kernel_rfl) h
  exact ⟨q, hq⟩
theorem openInts {fuel : Nat} {v : Value} {x : DataW H × List MemPlace} (h : DataW.trod enc Try.prog W base spare held fuel 29 [v] = some x) (hB : WtOk Try.prog 29 x.1) : ∃ xs, IntsIn (oldA W) v xs :=
  open_rel (by decide) (te := 3) (Bw := 8) (by kernel_rfl) (by kernel_rfl) (by kernel_rfl) int_el h hB
theorem openStrs {fuel : Nat} {v : Value} {x : DataW H × List MemPlace} (h : DataW.trod enc Try.prog W base spare held fuel 74 [v] = some x) (hB : WtOk Try.prog 74 x.1) : ∃ xs, StrsIn (oldA W) v xs :=
  open_rel (by decide) (te := 9) (Bw := 16) (by kernel_rfl) (by kernel_rfl) (by kernel_rfl) str_el h hB
theorem par_el (n : Nat) (ys : List Value) (y : DataW H × List MemPlace) (hl : ys.length = 2) (h : DataW.trod enc Try.prog W base spare held n 115 ys = some y) (hB : WtOk Try.prog 115 y.1) : ∃ c : (ByteArray × ByteArray), ParIn ys c := by
  obtain ⟨a0, a1, rfl⟩ := list2 hl
  have ht : Try.prog.underlying 115 = some (.struct (fsOf 115)) := by kernel_rfl
  obtain ⟨x0, e0, -⟩ := fieldS ht h 0 0 _ (by kernel_rfl : (fsOf 115)[0]? = some ((fsOf 115)[0]'(of_decide_eq_true (by kernel_rfl)))) (by kernel_rfl) (by kernel_rfl) (by kernel_rfl) (show 0 < 2 by decide)
  have e0 : a0 = .string x0 := e0
  obtain ⟨x1, e1, -⟩ := fieldS ht h 1 1 _ (by kernel_rfl : (fsOf 115)[1]? = some ((fsOf 115)[1]'(of_decide_eq_true (by kernel_rfl)))) (by kernel_rfl) (by kernel_rfl) (by kernel_rfl) (show 1 < 2 by decide)
  have e1 : a1 = .string x1 := e1
  clear h hl ht hB
  subst e0 e1
  exact ⟨(x0, x1), rfl⟩
theorem openPars {fuel : Nat} {v : Value} {x : DataW H × List MemPlace} (h : DataW.trod enc Try.prog W base spare held fuel 57 [v] = some x) (hB : WtOk Try.prog 57 x.1) : ∃ xs, ParsIn (oldA W) v xs :=
  open_rel (by decide) (te := 115) (Bw := 32) (by kernel_rfl) (by kernel_rfl) (by kernel_rfl) par_el h hB
theorem load_el (n : Nat) (ys : List Value) (y : DataW H × List MemPlace) (hl : ys.length = 3) (h : DataW.trod enc Try.prog W base spare held n 59 ys = some y) (hB : WtOk Try.prog 59 y.1) : ∃ (c : LoadD) (vp : Value), ys = [.int .i64 c.kind, vp, .string c.body] ∧ ParsIn (oldA W) vp c.params := by
  obtain ⟨a0, a1, a2, rfl⟩ := list3 hl
  have ht : Try.prog.underlying 59 = some (.struct (fsOf 59)) := by kernel_rfl
  obtain ⟨x0, e0, -⟩ := fieldI ht h 0 0 _ .i64 (by kernel_rfl : (fsOf 59)[0]? = some ((fsOf 59)[0]'(of_decide_eq_true (by kernel_rfl)))) (by kernel_rfl) (by kernel_rfl) (by kernel_rfl) (show 0 < 3 by decide)
  obtain ⟨m, z, t1, b1⟩ := field1T ht h 1 1 _ 57 (by kernel_rfl : (fsOf 59)[1]? = some ((fsOf 59)[1]'(of_decide_eq_true (by kernel_rfl)))) (by kernel_rfl) (by kernel_rfl) (by kernel_rfl) (show 1 < 3 by decide)
  obtain ⟨x1, h1⟩ := openPars (enc := enc) (W := W) (base := base) (spare := spare) (held := held) (v := a1) (fuel := m) t1 (b1 hB)
  obtain ⟨x2, e2, -⟩ := fieldS ht h 2 2 _ (by kernel_rfl : (fsOf 59)[2]? = some ((fsOf 59)[2]'(of_decide_eq_true (by kernel_rfl)))) (by kernel_rfl) (by kernel_rfl) (by kernel_rfl) (show 2 < 3 by decide)
  have e0 : a0 = .int .i64 x0 := e0
  have e2 : a2 = .string x2 := e2
  exact ⟨⟨x0, x1, x2⟩, a1, by rw [e0, e2], h1⟩
theorem st_el (n : Nat) (ys : List Value) (y : DataW H × List MemPlace) (hl : ys.length = 13) (h : DataW.trod enc Try.prog W base spare held n 61 ys = some y) (hB : WtOk Try.prog 61 y.1) : ∃ c : StD, StIn (oldA W) ys c := by
  obtain ⟨a0, a1, a2, a3, a4, a5, a6, a7, a8, a9, a10, a11, a12, rfl⟩ := list13 hl
  have ht : Try.prog.underlying 61 = some (.struct (fsOf 61)) := by kernel_rfl
  obtain ⟨x0, e0, -⟩ := fieldS ht h 0 0 _ (by kernel_rfl : (fsOf 61)[0]? = some ((fsOf 61)[0]'(of_decide_eq_true (by kernel_rfl)))) (by kernel_rfl) (by kernel_rfl) (by kernel_rfl) (show 0 < 13 by decide)
  have e0 : a0 = .string x0 := e0
  obtain ⟨x1, e1, -⟩ := fieldI ht h 1 1 _ .i64 (by kernel_rfl : (fsOf 61)[1]? = some ((fsOf 61)[1]'(of_decide_eq_true (by kernel_rfl)))) (by kernel_rfl) (by kernel_rfl) (by kernel_rfl) (show 1 < 13 by decide)
  have e1 : a1 = .int .i64 x1 := e1
  obtain ⟨x2, e2, -⟩ := fieldI ht h 2 2 _ .i64 (by kernel_rfl : (fsOf 61)[2]? = some ((fsOf 61)[2]'(of_decide_eq_true (by kernel_rfl)))) (by kernel_rfl) (by kernel_rfl) (by kernel_rfl) (show 2 < 13 by decide)
  have e2 : a2 = .int .i64 x2 := e2
  obtain ⟨m3, z3, t3, b3⟩ := field1T ht h 3 3 _ 29 (by kernel_rfl : (fsOf 61)[3]? = some ((fsOf 61)[3]'(of_decide_eq_true (by kernel_rfl)))) (by kernel_rfl) (by kernel_rfl) (by kernel_rfl) (show 3 < 13 by decide)
  obtain ⟨x3, h3⟩ := openInts (enc := enc) (W := W) (base := base) (spare := spare) (held := held) (v := a3) (fuel := m3) t3 (b3 hB)
  obtain ⟨x4, e4, -⟩ := fieldI ht h 4 4 _ .i64 (by kernel_rfl : (fsOf 61)[4]? = some ((fsOf 61)[4]'(of_decide_eq_true (by kernel_rfl)))) (by kernel_rfl) (by kernel_rfl) (by kernel_rfl) (show 4 < 13 by decide)
  have e4 : a4 = .int .i64 x4 := e4
  obtain ⟨m5, z5, t5, b5⟩ := field1T ht h 5 5 _ 29 (by kernel_rfl : (fsOf 61)[5]? = some ((fsOf 61)[5]'(of_decide_eq_true (by kernel_rfl)))) (by kernel_rfl) (by kernel_rfl) (by kernel_rfl) (show 5 < 13 by decide)
  obtain ⟨x5, h5⟩ := openInts (enc := enc) (W := W) (base := base) (spare := spare) (held := held) (v := a5) (fuel := m5) t5 (b5 hB)
  obtain ⟨m6, z6, t6, b6⟩ := field1T ht h 6 6 _ 29 (by kernel_rfl : (fsOf 61)[6]? = some ((fsOf 61)[6]'(of_decide_eq_true (by kernel_rfl)))) (by kernel_rfl) (by kernel_rfl) (by kernel_rfl) (show 6 < 13 by decide)
  obtain ⟨x6, h6⟩ := openInts (enc := enc) (W := W) (base := base) (spare := spare) (held := held) (v := a6) (fuel := m6) t6 (b6 hB)
  obtain ⟨m7, z7, t7, b7⟩ := field1T ht h 7 7 _ 29 (by kernel_rfl : (fsOf 61)[7]? = some ((fsOf 61)[7]'(of_decide_eq_true (by kernel_rfl)))) (by kernel_rfl) (by kernel_rfl) (by kernel_rfl) (show 7 < 13 by decide)
  obtain ⟨x7, h7⟩ := openInts (enc := enc) (W := W) (base := base) (spare := spare) (held := held) (v := a7) (fuel := m7) t7 (b7 hB)
  obtain ⟨m8, z8, t8, b8⟩ := field1T ht h 8 8 _ 29 (by kernel_rfl : (fsOf 61)[8]? = some ((fsOf 61)[8]'(of_decide_eq_true (by kernel_rfl)))) (by kernel_rfl) (by kernel_rfl) (by kernel_rfl) (show 8 < 13 by decide)
  obtain ⟨x8, h8⟩ := openInts (enc := enc) (W := W) (base := base) (spare := spare) (held := held) (v := a8) (fuel := m8) t8 (b8 hB)
  obtain ⟨m9, z9, t9, b9⟩ := field1T ht h 9 9 _ 29 (by kernel_rfl : (fsOf 61)[9]? = some ((fsOf 61)[9]'(of_decide_eq_true (by kernel_rfl)))) (by kernel_rfl) (by kernel_rfl) (by kernel_rfl) (show 9 < 13 by decide)
  obtain ⟨x9, h9⟩ := openInts (enc := enc) (W := W) (base := base) (spare := spare) (held := held) (v := a9) (fuel := m9) t9 (b9 hB)
  obtain ⟨m10, z10, t10, b10⟩ := fieldNT ht h 10 10 3 _ 59 (by kernel_rfl : (fsOf 61)[10]? = some ((fsOf 61)[10]'(of_decide_eq_true (by kernel_rfl)))) (by kernel_rfl) (by kernel_rfl) (by kernel_rfl)
  obtain ⟨x10, v10, e10, h10⟩ := load_el (enc := enc) (W := W) (base := base) (spare := spare) (held := held) m10 [a10, a11, a12] z10 rfl t10 (b10 hB)
  obtain ⟨e10a, e10b, e10c⟩ : a10 = .int .i64 x10.kind ∧ a11 = v10 ∧ a12 = .string x10.body := by simpa using e10
  clear h hl ht hB
  subst e0 e1 e2 e4 e10a e10b e10c
  exact ⟨⟨x0, x1, x2, x3, x4, x5, x6, x7, x8, x9, x10⟩, a3, a5, a6, a7, a8, a9, a11, rfl, h3, h5, h6, h7, h8, h9, h10⟩
theorem tr_el (n : Nat) (ys : List Value) (y : DataW H × List MemPlace) (hl : ys.length = 6) (h : DataW.trod enc Try.prog W base spare held n 76 ys = some y) (hB : WtOk Try.prog 76 y.1) : ∃ c : TrD, TrIn (oldA W) ys c := by
  obtain ⟨a0, a1, a2, a3, a4, a5, rfl⟩ := list6 hl
  have ht : Try.prog.underlying 76 = some (.struct (fsOf 76)) := by kernel_rfl
  obtain ⟨x0, e0, -⟩ := fieldI ht h 0 0 _ .i64 (by kernel_rfl : (fsOf 76)[0]? = some ((fsOf 76)[0]'(of_decide_eq_true (by kernel_rfl)))) (by kernel_rfl) (by kernel_rfl) (by kernel_rfl) (show 0 < 6 by decide)
  have e0 : a0 = .int .i64 x0 := e0
  obtain ⟨m1, z1, t1, b1⟩ := field1T ht h 1 1 _ 74 (by kernel_rfl : (fsOf 76)[1]? = some ((fsOf 76)[1]'(of_decide_eq_true (by kernel_rfl)))) (by kernel_rfl) (by kernel_rfl) (by kernel_rfl) (show 1 < 6 by decide)
  obtain ⟨x1, h1⟩ := openStrs (enc := enc) (W := W) (base := base) (spare := spare) (held := held) (v := a1) (fuel := m1) t1 (b1 hB)
  obtain ⟨x2, e2, -⟩ := fieldS ht h 2 2 _ (by kernel_rfl : (fsOf 76)[2]? = some ((fsOf 76)[2]'(of_decide_eq_true (by kernel_rfl)))) (by kernel_rfl) (by kernel_rfl) (by kernel_rfl) (show 2 < 6 by decide)
  have e2 : a2 = .string x2 := e2
  obtain ⟨m3, z3, t3, b3⟩ := field1T ht h 3 3 _ 29 (by kernel_rfl : (fsOf 76)[3]? = some ((fsOf 76)[3]'(of_decide_eq_true (by kernel_rfl)))) (by kernel_rfl) (by kernel_rfl) (by kernel_rfl) (show 3 < 6 by decide)
  obtain ⟨x3, h3⟩ := openInts (enc := enc) (W := W) (base := base) (spare := spare) (held := held) (v := a3) (fuel := m3) t3 (b3 hB)
  obtain ⟨x4, e4⟩ := fieldB ht h 4 4 _ (by kernel_rfl : (fsOf 76)[4]? = some ((fsOf 76)[4]'(of_decide_eq_true (by kernel_rfl)))) (by kernel_rfl) (by kernel_rfl) (by kernel_rfl) (show 4 < 6 by decide)
  have e4 : a4 = .bool x4 := e4
  obtain ⟨x5, e5, -⟩ := fieldI ht h 5 5 _ .i64 (by kernel_rfl : (fsOf 76)[5]? = some ((fsOf 76)[5]'(of_decide_eq_true (by kernel_rfl)))) (by kernel_rfl) (by kernel_rfl) (by kernel_rfl) (show 5 < 6 by decide)
  have e5 : a5 = .int .i64 x5 := e5
  clear h hl ht hB
  subst e0 e2 e4 e5
  exact ⟨⟨x0, x1, x2, x3, x4, x5⟩, a1, a3, rfl, h1, h3⟩
theorem act_el (n : Nat) (ys : List Value) (y : DataW H × List MemPlace) (hl : ys.length = 19) (h : DataW.trod enc Try.prog W base spare held n 96 ys = some y) (hB : WtOk Try.prog 96 y.1) : ∃ c : ActD, ActIn (oldA W) ys c := by
  obtain ⟨a0, a1, a2, a3, a4, a5, a6, a7, a8, a9, a10, a11, a12, a13, a14, a15, a16, a17, a18, rfl⟩ := list19 hl
  have ht : Try.prog.underlying 96 = some (.struct (fsOf 96)) := by kernel_rfl
  obtain ⟨x0, e0, -⟩ := fieldI ht h 0 0 _ .i64 (by kernel_rfl : (fsOf 96)[0]? = some ((fsOf 96)[0]'(of_decide_eq_true (by kernel_rfl)))) (by kernel_rfl) (by kernel_rfl) (by kernel_rfl) (show 0 < 19 by decide)
  have e0 : a0 = .int .i64 x0 := e0
  obtain ⟨x1, e1, -⟩ := fieldS ht h 1 1 _ (by kernel_rfl : (fsOf 96)[1]? = some ((fsOf 96)[1]'(of_decide_eq_true (by kernel_rfl)))) (by kernel_rfl) (by kernel_rfl) (by kernel_rfl) (show 1 < 19 by decide)
  have e1 : a1 = .string x1 := e1
  obtain ⟨x2, e2, -⟩ := fieldS ht h 2 2 _ (by kernel_rfl : (fsOf 96)[2]? = some ((fsOf 96)[2]'(of_decide_eq_true (by kernel_rfl)))) (by kernel_rfl) (by kernel_rfl) (by kernel_rfl) (show 2 < 19 by decide)
  have e2 : a2 = .string x2 := e2
  obtain ⟨x3, e3, -⟩ := fieldS ht h 3 3 _ (by kernel_rfl : (fsOf 96)[3]? = some ((fsOf 96)[3]'(of_decide_eq_true (by kernel_rfl)))) (by kernel_rfl) (by kernel_rfl) (by kernel_rfl) (show 3 < 19 by decide)
  have e3 : a3 = .string x3 := e3
  obtain ⟨x4, e4, -⟩ := fieldS ht h 4 4 _ (by kernel_rfl : (fsOf 96)[4]? = some ((fsOf 96)[4]'(of_decide_eq_true (by kernel_rfl)))) (by kernel_rfl) (by kernel_rfl) (by kernel_rfl) (show 4 < 19 by decide)
  have e4 : a4 = .string x4 := e4
  obtain ⟨x5, e5, -⟩ := fieldS ht h 5 5 _ (by kernel_rfl : (fsOf 96)[5]? = some ((fsOf 96)[5]'(of_decide_eq_true (by kernel_rfl)))) (by kernel_rfl) (by kernel_rfl) (by kernel_rfl) (show 5 < 19 by decide)
  have e5 : a5 = .string x5 := e5
  obtain ⟨x6, e6, -⟩ := fieldS ht h 6 6 _ (by kernel_rfl : (fsOf 96)[6]? = some ((fsOf 96)[6]'(of_decide_eq_true (by kernel_rfl)))) (by kernel_rfl) (by kernel_rfl) (by kernel_rfl) (show 6 < 19 by decide)
  have e6 : a6 = .string x6 := e6
  obtain ⟨x7, e7, -⟩ := fieldS ht h 7 7 _ (by kernel_rfl : (fsOf 96)[7]? = some ((fsOf 96)[7]'(of_decide_eq_true (by kernel_rfl)))) (by kernel_rfl) (by kernel_rfl) (by kernel_rfl) (show 7 < 19 by decide)
  have e7 : a7 = .string x7 := e7
  obtain ⟨x8, e8, -⟩ := fieldI ht h 8 8 _ .i64 (by kernel_rfl : (fsOf 96)[8]? = some ((fsOf 96)[8]'(of_decide_eq_true (by kernel_rfl)))) (by kernel_rfl) (by kernel_rfl) (by kernel_rfl) (show 8 < 19 by decide)
  have e8 : a8 = .int .i64 x8 := e8
  obtain ⟨x9, e9, -⟩ := fieldS ht h 9 9 _ (by kernel_rfl : (fsOf 96)[9]? = some ((fsOf 96)[9]'(of_decide_eq_true (by kernel_rfl)))) (by kernel_rfl) (by kernel_rfl) (by kernel_rfl) (show 9 < 19 by decide)
  have e9 : a9 = .string x9 := e9
  obtain ⟨x10, e10, -⟩ := fieldS ht h 10 10 _ (by kernel_rfl : (fsOf 96)[10]? = some ((fsOf 96)[10]'(of_decide_eq_true (by kernel_rfl)))) (by kernel_rfl) (by kernel_rfl) (by kernel_rfl) (show 10 < 19 by decide)
  have e10 : a10 = .string x10 := e10
  obtain ⟨x11, e11, -⟩ := fieldS ht h 11 11 _ (by kernel_rfl : (fsOf 96)[11]? = some ((fsOf 96)[11]'(of_decide_eq_true (by kernel_rfl)))) (by kernel_rfl) (by kernel_rfl) (by kernel_rfl) (show 11 < 19 by decide)
  have e11 : a11 = .string x11 := e11
  obtain ⟨x12, e12, -⟩ := fieldS ht h 12 12 _ (by kernel_rfl : (fsOf 96)[12]? = some ((fsOf 96)[12]'(of_decide_eq_true (by kernel_rfl)))) (by kernel_rfl) (by kernel_rfl) (by kernel_rfl) (show 12 < 19 by decide)
  have e12 : a12 = .string x12 := e12
  obtain ⟨x13, e13, -⟩ := fieldS ht h 13 13 _ (by kernel_rfl : (fsOf 96)[13]? = some ((fsOf 96)[13]'(of_decide_eq_true (by kernel_rfl)))) (by kernel_rfl) (by kernel_rfl) (by kernel_rfl) (show 13 < 19 by decide)
  have e13 : a13 = .string x13 := e13
  obtain ⟨m14, z14, t14, b14⟩ := field1T ht h 14 14 _ 74 (by kernel_rfl : (fsOf 96)[14]? = some ((fsOf 96)[14]'(of_decide_eq_true (by kernel_rfl)))) (by kernel_rfl) (by kernel_rfl) (by kernel_rfl) (show 14 < 19 by decide)
  obtain ⟨x14, h14⟩ := openStrs (enc := enc) (W := W) (base := base) (spare := spare) (held := held) (v := a14) (fuel := m14) t14 (b14 hB)
  obtain ⟨m15, z15, t15, b15⟩ := field1T ht h 15 15 _ 29 (by kernel_rfl : (fsOf 96)[15]? = some ((fsOf 96)[15]'(of_decide_eq_true (by kernel_rfl)))) (by kernel_rfl) (by kernel_rfl) (by kernel_rfl) (show 15 < 19 by decide)
  obtain ⟨x15, h15⟩ := openInts (enc := enc) (W := W) (base := base) (spare := spare) (held := held) (v := a15) (fuel := m15) t15 (b15 hB)
  obtain ⟨m16, z16, t16, b16⟩ := fieldNT ht h 16 16 3 _ 59 (by kernel_rfl : (fsOf 96)[16]? = some ((fsOf 96)[16]'(of_decide_eq_true (by kernel_rfl)))) (by kernel_rfl) (by kernel_rfl) (by kernel_rfl)
  obtain ⟨x16, v16, e16, h16⟩ := load_el (enc := enc) (W := W) (base := base) (spare := spare) (held := held) m16 [a16, a17, a18] z16 rfl t16 (b16 hB)
  obtain ⟨e16a, e16b, e16c⟩ : a16 = .int .i64 x16.kind ∧ a17 = v16 ∧ a18 = .string x16.body := by simpa using e16
  clear h hl ht hB
  subst e0 e1 e2 e3 e4 e5 e6 e7 e8 e9 e10 e11 e12 e13 e16a e16b e16c
  exact ⟨⟨x0, x1, x2, x3, x4, x5, x6, x7, x8, x9, x10, x11, x12, x13, x14, x15, x16⟩, a14, a15, a17, rfl, h14, h15, h16⟩
theorem openActs {fuel : Nat} {v : Value} {x : DataW H × List MemPlace} (h : DataW.trod enc Try.prog W base spare held fuel 91 [v] = some x) (hB : WtOk Try.prog 91 x.1) : ∃ xs, SlIn (oldA W) (ActIn (oldA W)) 19 304 v xs :=
  open_rel (by decide) (te := 96) (Bw := 304) (by kernel_rfl) (by kernel_rfl) (by kernel_rfl) act_el h hB
theorem blk_el (n : Nat) (ys : List Value) (y : DataW H × List MemPlace) (hl : ys.length = 1) (h : DataW.trod enc Try.prog W base spare held n 93 ys = some y) (hB : WtOk Try.prog 93 y.1) : ∃ c : List ActD, BlkIn (oldA W) ys c := by
  obtain ⟨a0, rfl⟩ := list1 hl
  have ht : Try.prog.underlying 93 = some (.struct (fsOf 93)) := by kernel_rfl
  obtain ⟨m0, z0, t0, b0⟩ := field1T ht h 0 0 _ 91 (by kernel_rfl : (fsOf 93)[0]? = some ((fsOf 93)[0]'(of_decide_eq_true (by kernel_rfl)))) (by kernel_rfl) (by kernel_rfl) (by kernel_rfl) (show 0 < 1 by decide)
  obtain ⟨x0, h0⟩ := openActs (enc := enc) (W := W) (base := base) (spare := spare) (held := held) (v := a0) (fuel := m0) t0 (b0 hB)
  clear h hl ht hB
  exact ⟨x0, a0, rfl, h0⟩
theorem dat_el (n : Nat) (ys : List Value) (y : DataW H × List MemPlace) (hl : ys.length = 3) (h : DataW.trod enc Try.prog W base spare held n 98 ys = some y) (hB : WtOk Try.prog 98 y.1) : ∃ c : DatD, DatIn ys c := by
  obtain ⟨a0, a1, a2, rfl⟩ := list3 hl
  have ht : Try.prog.underlying 98 = some (.struct (fsOf 98)) := by kernel_rfl
  obtain ⟨x0, e0, -⟩ := fieldS ht h 0 0 _ (by kernel_rfl : (fsOf 98)[0]? = some ((fsOf 98)[0]'(of_decide_eq_true (by kernel_rfl)))) (by kernel_rfl) (by kernel_rfl) (by kernel_rfl) (show 0 < 3 by decide)
  have e0 : a0 = .string x0 := e0
  obtain ⟨x1, e1, -⟩ := fieldS ht h 1 1 _ (by kernel_rfl : (fsOf 98)[1]? = some ((fsOf 98)[1]'(of_decide_eq_true (by kernel_rfl)))) (by kernel_rfl) (by kernel_rfl) (by kernel_rfl) (show 1 < 3 by decide)
  have e1 : a1 = .string x1 := e1
  obtain ⟨x2, e2, -⟩ := fieldS ht h 2 2 _ (by kernel_rfl : (fsOf 98)[2]? = some ((fsOf 98)[2]'(of_decide_eq_true (by kernel_rfl)))) (by kernel_rfl) (by kernel_rfl) (by kernel_rfl) (show 2 < 3 by decide)
  have e2 : a2 = .string x2 := e2
  clear h hl ht hB
  subst e0 e1 e2
  exact ⟨⟨x0, x1, x2⟩, rfl⟩
theorem inv_el (n : Nat) (ys : List Value) (y : DataW H × List MemPlace) (hl : ys.length = 8) (h : DataW.trod enc Try.prog W base spare held n 101 ys = some y) (hB : WtOk Try.prog 101 y.1) : ∃ c : InvD, InvIn (oldA W) ys c := by
  obtain ⟨a0, a1, a2, a3, a4, a5, a6, a7, rfl⟩ := list8 hl
  have ht : Try.prog.underlying 101 = some (.struct (fsOf 101)) := by kernel_rfl
  obtain ⟨x0, e0, -⟩ := fieldS ht h 0 0 _ (by kernel_rfl : (fsOf 101)[0]? = some ((fsOf 101)[0]'(of_decide_eq_true (by kernel_rfl)))) (by kernel_rfl) (by kernel_rfl) (by kernel_rfl) (show 0 < 8 by decide)
  have e0 : a0 = .string x0 := e0
  obtain ⟨x1, e1, -⟩ := fieldS ht h 1 1 _ (by kernel_rfl : (fsOf 101)[1]? = some ((fsOf 101)[1]'(of_decide_eq_true (by kernel_rfl)))) (by kernel_rfl) (by kernel_rfl) (by kernel_rfl) (show 1 < 8 by decide)
  have e1 : a1 = .string x1 := e1
  obtain ⟨x2, e2, -⟩ := fieldI ht h 2 2 _ .i64 (by kernel_rfl : (fsOf 101)[2]? = some ((fsOf 101)[2]'(of_decide_eq_true (by kernel_rfl)))) (by kernel_rfl) (by kernel_rfl) (by kernel_rfl) (show 2 < 8 by decide)
  have e2 : a2 = .int .i64 x2 := e2
  obtain ⟨x3, e3⟩ := fieldB ht h 3 3 _ (by kernel_rfl : (fsOf 101)[3]? = some ((fsOf 101)[3]'(of_decide_eq_true (by kernel_rfl)))) (by kernel_rfl) (by kernel_rfl) (by kernel_rfl) (show 3 < 8 by decide)
  have e3 : a3 = .bool x3 := e3
  obtain ⟨m4, z4, t4, b4⟩ := fieldNT ht h 4 4 3 _ 59 (by kernel_rfl : (fsOf 101)[4]? = some ((fsOf 101)[4]'(of_decide_eq_true (by kernel_rfl)))) (by kernel_rfl) (by kernel_rfl) (by kernel_rfl)
  obtain ⟨x4, v4, e4, h4⟩ := load_el (enc := enc) (W := W) (base := base) (spare := spare) (held := held) m4 [a4, a5, a6] z4 rfl t4 (b4 hB)
  obtain ⟨e4a, e4b, e4c⟩ : a4 = .int .i64 x4.kind ∧ a5 = v4 ∧ a6 = .string x4.body := by simpa using e4
  obtain ⟨x5, e5, -⟩ := fieldI ht h 5 7 _ .i64 (by kernel_rfl : (fsOf 101)[5]? = some ((fsOf 101)[5]'(of_decide_eq_true (by kernel_rfl)))) (by kernel_rfl) (by kernel_rfl) (by kernel_rfl) (show 7 < 8 by decide)
  have e5 : a7 = .int .i64 x5 := e5
  clear h hl ht hB
  subst e0 e1 e2 e3 e4a e4b e4c e5
  exact ⟨⟨x0, x1, x2, x3, x4, x5⟩, a5, rfl, h4⟩
theorem open_chart {fuel : Nat} {ys : List Value} {y : DataW H × List MemPlace} (hl : ys.length = 8) (h : DataW.trod enc Try.prog W base spare held fuel 28 ys = some y) (hB : WtOk Try.prog 28 y.1) : ∃ (c : ChD) (v : ChV), ys = c.cells v ∧ ChIn (oldA W) v c := by
  obtain ⟨a0, a1, a2, a3, a4, a5, a6, a7, rfl⟩ := list8 hl
  have ht : Try.prog.underlying 28 = some (.struct (fsOf 28)) := by kernel_rfl
  obtain ⟨x0, e0, -⟩ := fieldS ht h 0 0 _ (by kernel_rfl : (fsOf 28)[0]? = some ((fsOf 28)[0]'(of_decide_eq_true (by kernel_rfl)))) (by kernel_rfl) (by kernel_rfl) (by kernel_rfl) (show 0 < 8 by decide)
  obtain ⟨x1, e1⟩ := fieldB ht h 1 1 _ (by kernel_rfl : (fsOf 28)[1]? = some ((fsOf 28)[1]'(of_decide_eq_true (by kernel_rfl)))) (by kernel_rfl) (by kernel_rfl) (by kernel_rfl) (show 1 < 8 by decide)
  obtain ⟨x2, e2, -⟩ := fieldI ht h 2 2 _ .i64 (by kernel_rfl : (fsOf 28)[2]? = some ((fsOf 28)[2]'(of_decide_eq_true (by kernel_rfl)))) (by kernel_rfl) (by kernel_rfl) (by kernel_rfl) (show 2 < 8 by decide)
  obtain ⟨m3, z3, t3, b3⟩ := field1T ht h 3 3 _ 22 (by kernel_rfl : (fsOf 28)[3]? = some ((fsOf 28)[3]'(of_decide_eq_true (by kernel_rfl)))) (by kernel_rfl) (by kernel_rfl) (by kernel_rfl) (show 3 < 8 by decide)
  obtain ⟨x3, h3⟩ := open_rel (enc := enc) (W := W) (base := base) (spare := spare) (held := held) (v := a3) (fuel := m3) (by decide : 0 < 13) (te := 61) (Bw := 232) (by kernel_rfl) (by kernel_rfl) (by kernel_rfl) st_el t3 (b3 hB)
  obtain ⟨m4, z4, t4, b4⟩ := field1T ht h 4 4 _ 23 (by kernel_rfl : (fsOf 28)[4]? = some ((fsOf 28)[4]'(of_decide_eq_true (by kernel_rfl)))) (by kernel_rfl) (by kernel_rfl) (by kernel_rfl) (show 4 < 8 by decide)
  obtain ⟨x4, h4⟩ := open_rel (enc := enc) (W := W) (base := base) (spare := spare) (held := held) (v := a4) (fuel := m4) (by decide : 0 < 6) (te := 76) (Bw := 88) (by kernel_rfl) (by kernel_rfl) (by kernel_rfl) tr_el t4 (b4 hB)
  obtain ⟨m5, z5, t5, b5⟩ := field1T ht h 5 5 _ 24 (by kernel_rfl : (fsOf 28)[5]? = some ((fsOf 28)[5]'(of_decide_eq_true (by kernel_rfl)))) (by kernel_rfl) (by kernel_rfl) (by kernel_rfl) (show 5 < 8 by decide)
  obtain ⟨x5, h5⟩ := open_rel (enc := enc) (W := W) (base := base) (spare := spare) (held := held) (v := a5) (fuel := m5) (by decide : 0 < 1) (te := 93) (Bw := 24) (by kernel_rfl) (by kernel_rfl) (by kernel_rfl) blk_el t5 (b5 hB)
  obtain ⟨m6, z6, t6, b6⟩ := field1T ht h 6 6 _ 25 (by kernel_rfl : (fsOf 28)[6]? = some ((fsOf 28)[6]'(of_decide_eq_true (by kernel_rfl)))) (by kernel_rfl) (by kernel_rfl) (by kernel_rfl) (show 6 < 8 by decide)
  obtain ⟨x6, h6⟩ := open_rel (enc := enc) (W := W) (base := base) (spare := spare) (held := held) (v := a6) (fuel := m6) (by decide : 0 < 3) (te := 98) (Bw := 48) (by kernel_rfl) (by kernel_rfl) (by kernel_rfl) dat_el t6 (b6 hB)
  obtain ⟨m7, z7, t7, b7⟩ := field1T ht h 7 7 _ 26 (by kernel_rfl : (fsOf 28)[7]? = some ((fsOf 28)[7]'(of_decide_eq_true (by kernel_rfl)))) (by kernel_rfl) (by kernel_rfl) (by kernel_rfl) (show 7 < 8 by decide)
  obtain ⟨x7, h7⟩ := open_rel (enc := enc) (W := W) (base := base) (spare := spare) (held := held) (v := a7) (fuel := m7) (by decide : 0 < 8) (te := 101) (Bw := 104) (by kernel_rfl) (by kernel_rfl) (by kernel_rfl) inv_el t7 (b7 hB)
  have e0 : a0 = .string x0 := e0
  have e1 : a1 = .bool x1 := e1
  have e2 : a2 = .int .i64 x2 := e2
  exact ⟨⟨x0, x1, x2, x3, x4, x5, x6, x7⟩, ⟨a3, a4, a5, a6, a7⟩, by rw [e0, e1, e2]; rfl, ⟨h3, h4, h5, h6, h7⟩⟩
end
end Go.Proofs.Ytkmdgnbfojkcnaa
