/- Slices that are only read. -/
import Derived.Test.YtmknmibmnidnoaaEngI
set_option linter.all false
namespace Go.Proofs.Ytmknmibmnidnoaa
open Go
variable {P : Program}
structure IxQX where
  b : Nat
  o : Nat
  len : Nat
  cap : Nat
  n : Int
/-- The address of an element of a slice that is not nil. 'k': an element's cells. -/
def ixQ (k : Nat) : QCon where
  X := IxQX
  args x := [.slice (some ⟨x.b, x.o, none⟩) x.len x.cap, .int .i64 x.n]
  cond x := 0 ≤ x.n ∧ x.n < x.len
  val x := .pointer (some ⟨x.b, x.o + x.n.toNat * k, none⟩)
theorem ixq_ok {o : Oper} {x i : Operand} {t e : TypeId} {inf : TypeInfo} (k : Nat) (ho : o.op = .indexAddr t x i) (ht : P.underlying t = some (.slice e)) (hi : P.info? e = some inf) (hk : inf.size = k) : QOpOk P o (ixQ k) := by
  refine ⟨fun X w ρ ha hc => ?_⟩
  obtain ⟨b, off, len, cap, n⟩ := X
  obtain ⟨h0, h1⟩ := hc
  dsimp only at h0 h1
  simp only [ho, Op.operands, ixQ] at ha
  obtain ⟨hx, hn⟩ : ρ x = .slice (some ⟨b, off, none⟩) len cap ∧ ρ i = .int .i64 n := by simpa using ha
  have hsz : P.cellsOf e = inf.size := by unfold Program.cellsOf; simp [hi]
  subst hk
  simp [execOp, ho, hx, hn, Instr.indexAt, asIntOf, run_underlying ht, run_sizeOf w hi, hsz, h0, h1, addr_add, Sem.run, ixQ]
/-- A slice that is only read: nil, or a run of cells. -/
inductive IsSrc (k : Nat) (ys : List Value) : Option Addr → Nat → Prop
  | nil (h : ys = []) : IsSrc k ys none 0
  | blk (b o n : Nat) (h : ys.length = n * k) : IsSrc k ys (some ⟨b, o, none⟩) n
  | zero (a : Addr) (h : ys = []) : IsSrc k ys (some a) 0
def Srcd (F : Atom) (a : Option Addr) (ys : List Value) : Prop := ∀ ad, a = some ad → Seg F ad ys
theorem Srcd.sub {A B : Atom} {a : Option Addr} {ys : List Value} (hs : Sub A B) (h : Srcd A a ys) : Srcd B a ys := fun ad e => (h ad e).sub hs
theorem IsSrc.some {k n : Nat} {ys : List Value} {a : Option Addr} (h : IsSrc k ys a n) (hn : 0 < n) : ∃ b o, a = some ⟨b, o, none⟩ := by
  cases h with
  | nil _ => exact absurd hn (Nat.lt_irrefl 0)
  | blk b o n _ => exact ⟨b, o, rfl⟩
  | zero _ _ => exact absurd hn (Nat.lt_irrefl 0)
theorem IsSrc.len {k n : Nat} {ys : List Value} {a : Option Addr} (h : IsSrc k ys a n) : ys.length = n * k := by
  cases h with
  | nil h => subst h; simp
  | blk b o n h => exact h
  | zero _ h => subst h; simp
theorem IsRow.src {e : TypeId} {k : Nat} {cs : List Value} {r : Row} (h : IsRow e k cs r) : IsSrc k cs r.a r.n := by
  cases h with
  | nil h => exact .nil h
  | blk b n cap sp h1 h2 h3 => exact .blk b 0 n h1
theorem IsRow.srcd {e : TypeId} {k : Nat} {cs : List Value} {r : Row} (h : IsRow e k cs r) : Srcd r.A r.a cs := by
  cases h with
  | nil h => intro ad e; cases e
  | blk b n cap sp h1 h2 h3 =>
    intro ad e
    cases e
    refine Seg.cells fun j u hj => ?_
    rw [Nat.zero_add, List.getElem?_append_left]
    · exact hj
    · exact (List.getElem?_eq_some_iff.1 hj).1
/-- One of its cells. -/
theorem Srcd.look {F : Atom} {b o j : Nat} {ys : List Value} {v : Value} (h : Srcd F (some ⟨b, o, none⟩) ys) (hj : ys[j]? = some v) : Look F ⟨b, o + j, none⟩ v := by
  have := h _ rfl j v hj
  rwa [addr_add] at this
end Go.Proofs.Ytmknmibmnidnoaa
