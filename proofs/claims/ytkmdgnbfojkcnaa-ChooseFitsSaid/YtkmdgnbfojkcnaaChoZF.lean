/- pennantlaw15.ChooseFits answers true at every input, and the input reads as it did: each transition that is taken has its source in a legal configuration, and is asked for by the event. -/
import Derived.Test.YtkmdgnbfojkcnaaChoY
import Derived.Test.YtkmdgnbfojkcnaaChoFits
set_option linter.all false
namespace Go.Proofs.Ytkmdgnbfojkcnaa
open Go Go.ChangeShapes Go.WideShapes Go.ChangeAt Go.RowKit
theorem fits_split : FnOk Try.prog 10 (mvC EvOk) := by
  refine ⟨fun x F I w hc hr hs => ?_⟩
  cases h : newB x.c with
  | true => exact ftY_ok.h x F I w ⟨⟨h, hc.1⟩, hc.2⟩ hr hs
  | false => exact ftN_ok.h x F I w ⟨h, hc.2⟩ hr hs
set_option maxRecDepth 100000 in
theorem fits_lifted (os : Os) (started : os.Started) (H : Type) (enc : TypeId × Value → H) :
    ReturnsInHanded {} Try.checked os 10 .any (Rows.chooseFitsSpec.pre6 enc Try.prog Try.f10 Rows.chooseFitsRow.domain false) (Rows.chooseFitsSpec.post enc Try.prog Try.f10 false true false false) := by
  refine returnsInHanded_of_change_sized (C := Try.checked) sown started (by kernel_rfl) Try.func10
    (ChangeSpec.witness6 (enc := enc) (C := Try.checked) false ⟨#[], #[.agg #[.string .empty, .bool false, .int .i64 0, .slice none 0 0, .slice none 0 0, .slice none 0 0, .slice none 0 0, .slice none 0 0], .agg #[.slice none 0 0, .slice none 0 0, .slice none 0 0, .string .empty, .bool false, .slice none 0 0]], []⟩ 8 (by kernel_rfl) (by kernel_rfl) (by kernel_rfl) (by kernel_rfl)) ?_
  intro W base args ds gs before hval hW _ hk _
  have hW' := hW
  obtain ⟨p, q, hA, hV, rfl, _, _⟩ := hW
  obtain ⟨rfl, rfl⟩ := trodVars_none hV
  have hpar : Try.f10.params = #[28, 68] := by kernel_rfl
  obtain ⟨x, d0, d1, rfl, h1, h2, h3⟩ := chart_move (fun j t v h => hval j t v (by rw [hpar, ← Array.getElem?_toList]; exact h)) hA (by rw [hpar, List.append_nil] at hk; exact hk)
  obtain rfl : args = ⟨(mvC EvOk).args x⟩ := Array.ext' h1
  refine (entry (fits_split) x W rfl h2 h3).mono ?_
  rintro e w' ⟨⟨_, _, rfl⟩, hk⟩
  exact ⟨_, rfl, post_true slaid hW' rfl rfl hk (tb := 4) (by kernel_rfl) (by kernel_rfl) (by kernel_rfl)⟩
theorem fits_holds : Rows.ChooseFitsSaid :=
  OpenClaim.holds_of_wide 10 Try.f10 rfl rfl rfl rfl rfl rfl rfl ⟨rfl, rfl, rfl, rfl, rfl⟩ rfl rfl rfl rfl rfl (by kernel_rfl) Try.func10 (by kernel_rfl)
    (of_decide_eq_true (by kernel_rfl)) (by unfold Func.isWrapper; rw [if_neg (by decide +kernel)]; exact ⟨rfl, rfl⟩)
    (fun os started H enc _ => fits_lifted os started H enc)
#print axioms fits_holds
end Go.Proofs.Ytkmdgnbfojkcnaa
