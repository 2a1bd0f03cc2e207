/- pennantlaw13.LatticeCopies answers true at every input, and the input reads as it did. -/
import Derived.Test.YtfmadkaiigiaiaaLatR
import Derived.Test.YtfmadkaiigiaiaaLatCD
set_option linter.all false
namespace Go.Proofs.Ytfmadkaiigiaiaa
open Go Go.ChangeShapes Go.WideShapes Go.ChangeAt Go.RowKit
section
variable {H : Type} {enc : TypeId × Value → H} {W : World}
set_option maxRecDepth 100000 in
theorem chart_only {base : Nat} {args : Array Value} {ds : List (DataW H)} {p : List MemPlace} (hval : ∀ (j : Nat) t v, ([28] : List TypeId)[j]? = some t → args[j]? = some v → Value.okWide Try.prog W .any base t v)
    (hA : DataW.TrodAll enc Try.prog W 0 (fun _ => true) true [28] args.toList ds p) (hk : (DataW.weightsEach Try.prog [28] ds).all (· ≤ reachBytes) = true) :
    ∃ (x : ClnCX) (d0 : DataW H), ds = [d0] ∧ args.toList = (copC fun _ => True).args x ∧ (copC fun _ => True).cond x ∧ (copC fun _ => True).rdc x (oldA W) := by
  obtain ⟨v0, vs0, d0, ds0, p0, q0, hargs, rfl, rfl, h0, r0⟩ := trodAll_cons hA
  obtain ⟨rfl, rfl, rfl⟩ := trodAll_nil r0
  have a0 : args[0]? = some v0 := by rw [← Array.getElem?_toList, hargs]; rfl
  obtain ⟨c, w, rfl, hin⟩ := chart_arg (hval 0 _ _ rfl a0) h0 (wt_at 0 rfl rfl hk)
  exact ⟨⟨c, w⟩, d0, rfl, hargs, trivial, hin⟩
end
set_option maxRecDepth 100000 in
theorem copies_lifted (os : Os) (started : os.Started) (H : Type) (enc : TypeId × Value → H) :
    ReturnsInHanded {} Try.checked os 6 .any (Rows.latticeCopiesSpec.pre6 enc Try.prog Try.f6 Rows.latticeCopiesRow.domain false) (Rows.latticeCopiesSpec.post enc Try.prog Try.f6 false true false false) := by
  refine returnsInHanded_of_change_sized (C := Try.checked) sown started (by kernel_rfl) Try.func6
    (ChangeSpec.witness6 (enc := enc) (C := Try.checked) false ⟨#[], #[.agg #[.string .empty, .bool false, .int .i64 0, .slice none 0 0, .slice none 0 0, .slice none 0 0, .slice none 0 0, .slice none 0 0]], []⟩ 8 (by kernel_rfl) (by kernel_rfl) (by kernel_rfl) (by kernel_rfl)) ?_
  intro W base args ds gs before hval hW _ hk _
  have hW' := hW
  obtain ⟨p, q, hA, hV, rfl, _, _⟩ := hW
  obtain ⟨rfl, rfl⟩ := trodVars_none hV
  have hpar : Try.f6.params = #[28] := by kernel_rfl
  obtain ⟨x, d0, rfl, h1, h2, h3⟩ := chart_only (fun j t v h => hval j t v (by rw [hpar, ← Array.getElem?_toList]; exact h)) hA (by rw [hpar, List.append_nil] at hk; exact hk)
  obtain rfl : args = ⟨(copC fun _ => True).args x⟩ := Array.ext' h1
  refine (entry cpAll_ok x W rfl h2 h3).mono ?_
  rintro e w' ⟨⟨_, _, rfl⟩, hk⟩
  exact ⟨_, rfl, post_true slaid hW' rfl rfl hk (tb := 4) (by kernel_rfl) (by kernel_rfl) (by kernel_rfl)⟩
theorem copies_holds : Rows.LatticeCopiesSaid :=
  OpenClaim.holds_of_wide 6 Try.f6 rfl rfl rfl rfl rfl rfl rfl ⟨rfl, rfl, rfl, rfl, rfl⟩ rfl rfl rfl rfl rfl (by kernel_rfl) Try.func6 (by kernel_rfl)
    (of_decide_eq_true (by kernel_rfl)) (by unfold Func.isWrapper; rw [if_neg (by decide +kernel)]; exact ⟨rfl, rfl⟩)
    (fun os started H enc _ => copies_lifted os started H enc)
#print axioms copies_holds
end Go.Proofs.Ytfmadkaiigiaiaa
