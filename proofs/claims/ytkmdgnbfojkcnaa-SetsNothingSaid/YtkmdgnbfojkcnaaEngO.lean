/- A slice's first part. -/
import Derived.Test.YtkmdgnbfojkcnaaEngN
set_option linter.all false
namespace Go.Proofs.Ytkmdgnbfojkcnaa
open Go
structure SlQX where
  a : Option Addr
  n : Nat
  cap : Nat
  h : Int
/-- s[:h] -/
def slQ : QCon where
  X := SlQX
  args x := [.slice x.a x.n x.cap, .int .i64 x.h]
  cond x := 0 ≤ x.h ∧ x.h ≤ x.cap
  val x := .slice x.a x.h.toNat x.cap
theorem slq_ok {P : Program} {o : Oper} {t e : TypeId} {x y : Operand} {inf : TypeInfo} (ho : o.op = .slice t x none (some y) none) (ht : P.underlying t = some (.slice e)) (hi : P.info? e = some inf) : QOpOk P o slQ := by
  refine ⟨fun q w ρ ha hc => ?_⟩
  obtain ⟨a, n, cap, h⟩ := q
  obtain ⟨h0, h1⟩ := hc
  dsimp only at h0 h1
  simp only [ho, Op.operands, slQ] at ha
  have ha2 : ρ x = .slice a n cap ∧ ρ y = .int .i64 h := by simpa using ha
  obtain ⟨hx, hy⟩ := ha2
  simp [execOp, ho, hx, hy, Instr.sliceAt, Instr.slice, Instr.sliceBounds, Instr.sliceBound, asIntOf, run_underlying ht, run_sizeOf w hi, h0, h1, slQ]
  intro _
  cases a with
  | none => rfl
  | some b => simp [Addr.add]
end Go.Proofs.Ytkmdgnbfojkcnaa
