/- pennantlaw13.LatticeLegal answers true at every input, and the input reads as it did. -/
import Derived.Test.YtfmadkaiigiaiaaLatR
import Derived.Test.YtfmadkaiigiaiaaLatT
set_option linter.all false
namespace Go.Proofs.Ytfmadkaiigiaiaa
open Go Go.ChangeShapes Go.WideShapes Go.ChangeAt Go.RowKit
set_option maxRecDepth 100000 in
theorem legal_lifted (os : Os) (started : os.Started) (H : Type) (enc : TypeId × Value → H) :
    ReturnsInHanded {} Try.checked os 4 .any (Rows.latticeLegalSpec.pre6 enc Try.prog Try.f4 Rows.latticeLegalRow.domain false) (Rows.latticeLegalSpec.post enc Try.prog Try.f4 false true false false) := by
  refine returnsInHanded_of_change_sized (C := Try.checked) sown started (by kernel_rfl) Try.func4
    (ChangeSpec.witness6 (enc := enc) (C := Try.checked) false ⟨#[], #[.agg #[.string .empty, .bool false, .int .i64 0, .slice none 0 0, .slice none 0 0, .slice none 0 0, .slice none 0 0, .slice none 0 0], .slice none 0 0], []⟩ 8 (by kernel_rfl) (by kernel_rfl) (by kernel_rfl) (by kernel_rfl)) ?_
  intro W base args ds gs before hval hW _ hk _
  have hW' := hW
  obtain ⟨p, q, hA, hV, rfl, _, _⟩ := hW
  obtain ⟨rfl, rfl⟩ := trodVars_none hV
  have hpar : Try.f4.params = #[28, 29] := by kernel_rfl
  obtain ⟨x, d0, d1, rfl, h1, h2, h3⟩ := chart_ints (fun j t v h => hval j t v (by rw [hpar, ← Array.getElem?_toList]; exact h)) hA (by rw [hpar, List.append_nil] at hk; exact hk)
  obtain rfl : args = ⟨(lawC fun _ => True).args x⟩ := Array.ext' h1
  refine (entry llAll_ok x W rfl h2 h3).mono ?_
  rintro e w' ⟨⟨_, _, rfl⟩, hk⟩
  exact ⟨_, rfl, post_true slaid hW' rfl rfl hk (tb := 4) (by kernel_rfl) (by kernel_rfl) (by kernel_rfl)⟩
theorem legal_holds : Rows.LatticeLegalSaid :=
  OpenClaim.holds_of_wide 4 Try.f4 rfl rfl rfl rfl rfl rfl rfl ⟨rfl, rfl, rfl, rfl, rfl⟩ rfl rfl rfl rfl rfl (by kernel_rfl) Try.func4 (by kernel_rfl)
    (of_decide_eq_true (by kernel_rfl)) (by unfold Func.isWrapper; rw [if_neg (by decide +kernel)]; exact ⟨rfl, rfl⟩)
    (fun os started H enc _ => legal_lifted os started H enc)
#print axioms legal_holds
end Go.Proofs.Ytfmadkaiigiaiaa
