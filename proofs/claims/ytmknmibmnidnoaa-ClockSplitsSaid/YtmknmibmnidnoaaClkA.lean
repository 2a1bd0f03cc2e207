/- The contract of slices.Insert at timers. -/
import Derived.Test.YtmknmibmnidnoaaClkM
set_option linter.all false
namespace Go.Proofs.Ytmknmibmnidnoaa
open Go
structure InsX where
  b : Nat
  n : Nat
  cap : Nat
  cs : List Value
  sp : List Value
  b2 : Nat
  ys : List Value
  i : Int
def insBC : Con where
  X := InsX
  Y := Row
  args x := [.slice (some ⟨x.b, 0, none⟩) x.n x.cap, .int .i64 x.i, .slice (some ⟨x.b2, 0, none⟩) 1 1]
  pre x := [.cells x.b (x.cs ++ x.sp) 44, .cells x.b2 x.ys 44]
  cond x := x.cs.length = x.n * 4 ∧ (x.cs ++ x.sp).length = x.cap * 4 ∧ x.n ≤ x.cap ∧ x.ys.length = 4 ∧ (∀ u ∈ x.cs, u.oneCell' = true) ∧ (∀ u ∈ x.ys, u.oneCell' = true) ∧ 0 ≤ x.i ∧ x.i ≤ x.n ∧ x.n ≤ 1000
  rdc _ _ := True
  rel x r := IsRow 44 4 (x.cs.take (x.i.toNat * 4) ++ x.ys ++ x.cs.drop (x.i.toNat * 4)) r ∧ r.n = x.n + 1
  val _ r := .returned r.v
  post _ r := [r.A]
end Go.Proofs.Ytmknmibmnidnoaa
