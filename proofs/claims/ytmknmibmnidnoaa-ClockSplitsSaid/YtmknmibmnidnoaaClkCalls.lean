/- A script of calls, as an argument. -/
import Derived.Test.YtmknmibmnidnoaaRows
import Derived.Test.YtmknmibmnidnoaaClkQ
import Derived.Test.YtmknmibmnidnoaaEngL
set_option linter.all false
namespace Go.Proofs.Ytmknmibmnidnoaa
open Go Go.ChangeShapes Go.WideShapes Go.ChangeAt Go.RowKit
theorem sown : ownKnob Try.prog.godebug = none := by kernel_rfl
theorem slaid : laidOutB Try.prog = true := by kernel_rfl
def CallD.ok (c : CallD) : Prop := 0 ≤ c.kind ∧ c.kind ≤ 255 ∧ (-9223372036854775808 ≤ c.dl ∧ c.dl ≤ 9223372036854775807) ∧ (-9223372036854775808 ≤ c.n ∧ c.n ≤ 9223372036854775807)
theorem i64_wf {n : Int} (h : (Lit.int .i64 n).wf = true) : -9223372036854775808 ≤ n ∧ n ≤ 9223372036854775807 := by
  simp only [Lit.wf, Bool.and_eq_true, decide_eq_true_eq] at h
  have h1 : IntKind.i64.min = -9223372036854775808 := by decide
  have h2 : IntKind.i64.max = 9223372036854775807 := by decide
  omega
theorem u8_wf {n : Int} (h : (Lit.int .u8 n).wf = true) : 0 ≤ n ∧ n ≤ 255 := by
  simp only [Lit.wf, Bool.and_eq_true, decide_eq_true_eq] at h
  have h1 : IntKind.u8.min = 0 := by decide
  have h2 : IntKind.u8.max = 255 := by decide
  omega
theorem u32_wf {n : Int} (h : (Lit.int .u32 n).wf = true) : 0 ≤ n ∧ n ≤ 4294967295 := by
  simp only [Lit.wf, Bool.and_eq_true, decide_eq_true_eq] at h
  have h1 : IntKind.u32.min = 0 := by decide
  have h2 : IntKind.u32.max = 4294967295 := by decide
  omega
theorem six {ys : List Value} (h : ys.length = 6) : ∃ a b c d e f, ys = [a, b, c, d, e, f] :=
  match ys, h with
  | [a, b, c, d, e, f], _ => ⟨a, b, c, d, e, f, rfl⟩
noncomputable def callFs : Array Field := match Try.prog.underlying 31 with | some (.struct fs) => fs | _ => #[]
theorem call_el {H : Type} {enc : TypeId × Value → H} {W : World} {base : Nat} {spare : Nat → Bool} {held : Bool} (n : Nat) (ys : List Value) (y : DataW H × List MemPlace) (hl : ys.length = 6)
    (h : DataW.trod enc Try.prog W base spare held n 31 ys = some y) : ∃ c : CallD, c.ok ∧ ys = c.enc := by
  obtain ⟨a, b, c, d, e, f, rfl⟩ := six hl
  have ht : Try.prog.underlying 31 = some (.struct callFs) := by kernel_rfl
  obtain ⟨n0, e0, w0⟩ := fieldI ht h 0 0 _ .u8 (by kernel_rfl : callFs[0]? = some (callFs[0]'(of_decide_eq_true (by kernel_rfl)))) (by kernel_rfl) (by kernel_rfl) (by kernel_rfl) (by omega)
  obtain ⟨n1, e1, w1⟩ := fieldI ht h 1 1 _ .i64 (by kernel_rfl : callFs[1]? = some (callFs[1]'(of_decide_eq_true (by kernel_rfl)))) (by kernel_rfl) (by kernel_rfl) (by kernel_rfl) (by omega)
  obtain ⟨n2, e2, w2⟩ := fieldS ht h 2 2 _ (by kernel_rfl : callFs[2]? = some (callFs[2]'(of_decide_eq_true (by kernel_rfl)))) (by kernel_rfl) (by kernel_rfl) (by kernel_rfl) (by omega)
  obtain ⟨n3, e3, w3⟩ := fieldI ht h 3 3 _ .i64 (by kernel_rfl : callFs[3]? = some (callFs[3]'(of_decide_eq_true (by kernel_rfl)))) (by kernel_rfl) (by kernel_rfl) (by kernel_rfl) (by omega)
  obtain ⟨n4, e4, w4⟩ := fieldI ht h 4 4 _ .i64 (by kernel_rfl : callFs[4]? = some (callFs[4]'(of_decide_eq_true (by kernel_rfl)))) (by kernel_rfl) (by kernel_rfl) (by kernel_rfl) (by omega)
  obtain ⟨n5, e5, w5⟩ := fieldI ht h 5 5 _ .i64 (by kernel_rfl : callFs[5]? = some (callFs[5]'(of_decide_eq_true (by kernel_rfl)))) (by kernel_rfl) (by kernel_rfl) (by kernel_rfl) (by omega)
  refine ⟨⟨n0, n1, n2, n3, n4, n5⟩, ⟨(u8_wf w0).1, (u8_wf w0).2, i64_wf w3, i64_wf w4⟩, ?_⟩
  have e0 : a = _ := e0
  have e1 : b = _ := e1
  have e2 : c = _ := e2
  have e3 : d = _ := e3
  have e4 : e = _ := e4
  have e5 : f = _ := e5
  rw [e0, e1, e2, e3, e4, e5]; rfl
theorem open_calls {H : Type} {enc : TypeId × Value → H} {W : World} {base : Nat} {spare : Nat → Bool} {held : Bool} {fuel : Nat} {a0 : Option Addr} {n0 c0 : Nat} {x : DataW H × List MemPlace}
    (h : DataW.trod enc Try.prog W base spare held fuel 22 (Value.slice a0 n0 c0).cells.toList = some x) :
    ∃ xs : List CallD, IsSrc 6 (encC xs) a0 n0 ∧ Srcd (oldA W) a0 (encC xs) ∧ n0 = xs.length ∧ n0 ≤ c0 ∧ c0 ≤ maxLen ∧ (a0 = none → c0 = 0) ∧ ∀ x ∈ xs, x.ok :=
  open_els (e := CallD.enc) (fun _ => rfl) (by decide) (te := 31) (by kernel_rfl) (by kernel_rfl) (fun n ys y => call_el n ys y) h
end Go.Proofs.Ytmknmibmnidnoaa
