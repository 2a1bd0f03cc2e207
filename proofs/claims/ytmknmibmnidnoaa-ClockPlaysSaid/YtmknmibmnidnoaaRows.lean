/-
  No cell of these rows narrows 'for every input' (looked for: loops, veiled, ifaces, maps, wideKeys, modest, calm, conditions, laid).
  DERIVED. THE GIVEN ROWS OF THIS SEAT. 4 by the template 'for every input the law returns true; each argument reads behind the call as it read before'; 0 by the template 'total and deterministic' (their statements: YtmknmibmnidnoaaTotals.lean).
  GIVEN WITH THE SEED: the statements are not yours to turn. If you find one false, say at which input.
  Laid BY PROGRAM, IN A SANDBOX (cutbox-rows.mjs): the forced cells as the released guide's own fill.sh prints them over the translation 18b9ce1c31da0b12… (all of the seat's roots in one cut). By AI agents, Wed Nov 11 2026. No macro, syntax, notation, axiom, sorry.
-/
import Derived.Test.YtmknmibmnidnoaaChecked
import GoSem.Claim
import GoSem.ClaimJoined
import GoSem.ClaimMapViews
import Derived.JoinedTies
import Derived.KernelRfl
namespace Go.Proofs.Ytmknmibmnidnoaa
/- THE CELL 'sum', in the pinned program and in every row, IS THE sha256 OF THE DUMP (.gsa) THAT YtmknmibmnidnoaaProg.lean LOADS. Nothing in Lean hashes anything: it is a label: what it is worth is what the hold of that sum in a sandbox is worth. -/
noncomputable def Try.pinned : Pinned := { name := "ytmknmibmnidnoaa", sum := "18b9ce1c31da0b1241c2f3455a1179096ec52ae6c6a28fcd961b7e8e971ba112", checked := Try.checked }
namespace Rows
def none {H : Type} : Left H := { results := [], args := [] }

/-- 'pennantlaw17.ClockPlays': WHATEVER THE INPUT: true; the input reads as it did. -/
def clockPlaysSpec : ChangeSpec := { name := "clockPlays", fn := fun _ => fun
  | [d] => { results := [.lit (.bool true)], args := [d] }
  | _ => none }
def clockPlaysRow : OpenClaim := { program := "ytmknmibmnidnoaa", sum := "18b9ce1c31da0b1241c2f3455a1179096ec52ae6c6a28fcd961b7e8e971ba112", func := "pennant/pennantlaw17.ClockPlays", spec := "clockPlays", inPlace := ["slices.overlaps[pennant/api.Timer]"], unfollowed := true, recurses := true, apart := false }
def ClockPlaysSaid : Prop := clockPlaysRow.holds Try.pinned (OpenSpec.ofChange clockPlaysSpec)

/-- ITS FALSE NEIGHBOUR: 'it returns false'. Refute it at one input. -/
def clockPlaysWrong : ChangeSpec := { name := "clockPlays", fn := fun _ => fun
  | [d] => { results := [.lit (.bool false)], args := [d] }
  | _ => none }
def ClockPlaysWrongFalsely : Prop := clockPlaysRow.holds Try.pinned (OpenSpec.ofChange clockPlaysWrong)

/-- 'pennantlaw17.ClockSplits': WHATEVER THE INPUT: true; the input reads as it did. -/
def clockSplitsSpec : ChangeSpec := { name := "clockSplits", fn := fun _ => fun
  | [d1, d2, d3] => { results := [.lit (.bool true)], args := [d1, d2, d3] }
  | _ => none }
def clockSplitsRow : OpenClaim := { program := "ytmknmibmnidnoaa", sum := "18b9ce1c31da0b1241c2f3455a1179096ec52ae6c6a28fcd961b7e8e971ba112", func := "pennant/pennantlaw17.ClockSplits", spec := "clockSplits", inPlace := ["slices.overlaps[pennant/api.Timer]"], unfollowed := true, recurses := true, apart := false }
def ClockSplitsSaid : Prop := clockSplitsRow.holds Try.pinned (OpenSpec.ofChange clockSplitsSpec)

/-- ITS FALSE NEIGHBOUR: 'it returns false'. Refute it at one input. -/
def clockSplitsWrong : ChangeSpec := { name := "clockSplits", fn := fun _ => fun
  | [d1, d2, d3] => { results := [.lit (.bool false)], args := [d1, d2, d3] }
  | _ => none }
def ClockSplitsWrongFalsely : Prop := clockSplitsRow.holds Try.pinned (OpenSpec.ofChange clockSplitsWrong)

/-- 'pennantlaw17.ClockOnce': WHATEVER THE INPUT: true; the input reads as it did. -/
def clockOnceSpec : ChangeSpec := { name := "clockOnce", fn := fun _ => fun
  | [d] => { results := [.lit (.bool true)], args := [d] }
  | _ => none }
def clockOnceRow : OpenClaim := { program := "ytmknmibmnidnoaa", sum := "18b9ce1c31da0b1241c2f3455a1179096ec52ae6c6a28fcd961b7e8e971ba112", func := "pennant/pennantlaw17.ClockOnce", spec := "clockOnce", inPlace := ["slices.overlaps[pennant/api.Timer]"], unfollowed := true, recurses := true, apart := false }
def ClockOnceSaid : Prop := clockOnceRow.holds Try.pinned (OpenSpec.ofChange clockOnceSpec)

/-- ITS FALSE NEIGHBOUR: 'it returns false'. Refute it at one input. -/
def clockOnceWrong : ChangeSpec := { name := "clockOnce", fn := fun _ => fun
  | [d] => { results := [.lit (.bool false)], args := [d] }
  | _ => none }
def ClockOnceWrongFalsely : Prop := clockOnceRow.holds Try.pinned (OpenSpec.ofChange clockOnceWrong)

/-- 'pennantlaw17.ClockSorts': WHATEVER THE INPUT: true; the input reads as it did. -/
def clockSortsSpec : ChangeSpec := { name := "clockSorts", fn := fun _ => fun
  | [d] => { results := [.lit (.bool true)], args := [d] }
  | _ => none }
def clockSortsRow : OpenClaim := { program := "ytmknmibmnidnoaa", sum := "18b9ce1c31da0b1241c2f3455a1179096ec52ae6c6a28fcd961b7e8e971ba112", func := "pennant/pennantlaw17.ClockSorts", spec := "clockSorts", inPlace := ["slices.overlaps[pennant/api.Timer]"], unfollowed := true, recurses := true, apart := false }
def ClockSortsSaid : Prop := clockSortsRow.holds Try.pinned (OpenSpec.ofChange clockSortsSpec)

/-- ITS FALSE NEIGHBOUR: 'it returns false'. Refute it at one input. -/
def clockSortsWrong : ChangeSpec := { name := "clockSorts", fn := fun _ => fun
  | [d] => { results := [.lit (.bool false)], args := [d] }
  | _ => none }
def ClockSortsWrongFalsely : Prop := clockSortsRow.holds Try.pinned (OpenSpec.ofChange clockSortsWrong)

/- THE SECOND FORM. 'bulk': how many values and letters a reading holds, each counted each time it is reached (what is shared counts as often as it is met; a slice's spare places count too). A statement '..UptoSaid' is the law's where the arguments, and the package variables that the reading takes, are together of bulk at most 1048576: NARROWER than '..Said'. Prove '..Said' where nothing that the law and all that it calls make is longer than what came in: it says more and counts as full. Else prove '..UptoSaid'. A law counts once. -/
mutual
def uptoBulk {H : Type} : DataW H → Nat
  | .lit (.string bytes) => bytes.length + 1
  | .lit _ => 1
  | .nil => 1
  | .ptr d => uptoBulk d + 1
  | .slice elems spare => uptoBulkAll elems + uptoBulkAll spare + 1
  | .agg parts => uptoBulkAll parts + 1
  | .iface _ d => uptoBulk d + 1
  | .map entries => uptoBulkEntries entries + 1
  | .held _ => 1
def uptoBulkAll {H : Type} : List (DataW H) → Nat
  | [] => 0
  | d :: r => uptoBulk d + uptoBulkAll r
def uptoBulkEntries {H : Type} : List (Lit × DataW H) → Nat
  | [] => 0
  | x :: r => uptoBulkEntry x + uptoBulkEntries r
def uptoBulkEntry {H : Type} : Lit × DataW H → Nat
  | (.string bytes, d) => bytes.length + uptoBulk d + 1
  | (_, d) => uptoBulk d + 1
 end
def uptoSmall : (H : Type) → List (DataW H) → Bool := fun _ ds => decide (uptoBulkAll ds ≤ 1048576)
def OpenSpec.upto (s : _root_.Go.ChangeSpec) : _root_.Go.OpenSpec := { _root_.Go.OpenSpec.ofChange s with cond := some uptoSmall }

/-- 'pennantlaw17.ClockPlays', WHERE WHAT IT READS IS OF BULK AT MOST 1048576: true; the input reads as it did. -/
def clockPlaysUptoRow : OpenClaim := { program := "ytmknmibmnidnoaa", sum := "18b9ce1c31da0b1241c2f3455a1179096ec52ae6c6a28fcd961b7e8e971ba112", func := "pennant/pennantlaw17.ClockPlays", spec := "clockPlays", inPlace := ["slices.overlaps[pennant/api.Timer]"], unfollowed := true, recurses := true, apart := false, narrowed := true }
def ClockPlaysUptoSaid : Prop := clockPlaysUptoRow.holds Try.pinned (OpenSpec.upto clockPlaysSpec)

/-- 'pennantlaw17.ClockSplits', WHERE WHAT IT READS IS OF BULK AT MOST 1048576: true; the input reads as it did. -/
def clockSplitsUptoRow : OpenClaim := { program := "ytmknmibmnidnoaa", sum := "18b9ce1c31da0b1241c2f3455a1179096ec52ae6c6a28fcd961b7e8e971ba112", func := "pennant/pennantlaw17.ClockSplits", spec := "clockSplits", inPlace := ["slices.overlaps[pennant/api.Timer]"], unfollowed := true, recurses := true, apart := false, narrowed := true }
def ClockSplitsUptoSaid : Prop := clockSplitsUptoRow.holds Try.pinned (OpenSpec.upto clockSplitsSpec)

/-- 'pennantlaw17.ClockOnce', WHERE WHAT IT READS IS OF BULK AT MOST 1048576: true; the input reads as it did. -/
def clockOnceUptoRow : OpenClaim := { program := "ytmknmibmnidnoaa", sum := "18b9ce1c31da0b1241c2f3455a1179096ec52ae6c6a28fcd961b7e8e971ba112", func := "pennant/pennantlaw17.ClockOnce", spec := "clockOnce", inPlace := ["slices.overlaps[pennant/api.Timer]"], unfollowed := true, recurses := true, apart := false, narrowed := true }
def ClockOnceUptoSaid : Prop := clockOnceUptoRow.holds Try.pinned (OpenSpec.upto clockOnceSpec)

/-- 'pennantlaw17.ClockSorts', WHERE WHAT IT READS IS OF BULK AT MOST 1048576: true; the input reads as it did. -/
def clockSortsUptoRow : OpenClaim := { program := "ytmknmibmnidnoaa", sum := "18b9ce1c31da0b1241c2f3455a1179096ec52ae6c6a28fcd961b7e8e971ba112", func := "pennant/pennantlaw17.ClockSorts", spec := "clockSorts", inPlace := ["slices.overlaps[pennant/api.Timer]"], unfollowed := true, recurses := true, apart := false, narrowed := true }
def ClockSortsUptoSaid : Prop := clockSortsUptoRow.holds Try.pinned (OpenSpec.upto clockSortsSpec)

end Rows
end Go.Proofs.Ytmknmibmnidnoaa
