/- pennantlaw17.ClockSplits answers true at every input, and the input reads as it did. -/
import Derived.Test.YtmknmibmnidnoaaClkCalls
set_option linter.all false
namespace Go.Proofs.Ytmknmibmnidnoaa
open Go Go.ChangeShapes Go.WideShapes Go.ChangeAt Go.RowKit
set_option maxRecDepth 100000 in
theorem splits_lifted (os : Os) (started : os.Started) (H : Type) (enc : TypeId × Value → H) :
    ReturnsInHanded {} Try.checked os 4 .any (Rows.clockSplitsSpec.pre6 enc Try.prog Try.f4 Rows.clockSplitsRow.domain false) (Rows.clockSplitsSpec.post enc Try.prog Try.f4 false true false false) := by
  refine returnsInHanded_of_change (C := Try.checked) sown started (by kernel_rfl) Try.func4
    (ChangeSpec.witness6 (enc := enc) (C := Try.checked) false ⟨#[], #[.slice none 0 0, .int .u32 0, .int .u32 0], []⟩ 8 (by kernel_rfl) (by kernel_rfl) (by kernel_rfl) (by kernel_rfl)) ?_
  intro W base args ds gs before hval hW _ _
  have hW' := hW
  obtain ⟨p, q, hA, hV, rfl, _, _⟩ := hW
  have hA : DataW.TrodAll enc Try.prog W 0 (fun _ => true) true [22, 46, 46] args.toList ds p := hA
  obtain ⟨v, v1, v2, d, d1, d2, p0, p1, p2, rfl, rfl, hpp, ht, ht1, ht2⟩ := trodAll_three hA
  obtain ⟨rfl, rfl⟩ := trodVars_none hV
  obtain ⟨fuel, ht⟩ := ht
  obtain ⟨a0, len0, cap0, rfl⟩ := okWide_slice (P := Try.prog) (t := 22) (e := 31) (by kernel_rfl) (hval 0 22 _ (by kernel_rfl) rfl)
  obtain ⟨n1, rfl, _, _, w1⟩ := open_int (P := Try.prog) (t := 46) (k := .u32) (by kernel_rfl) (hval 1 46 _ (by kernel_rfl) rfl) ht1
  obtain ⟨n2, rfl, _, _, w2⟩ := open_int (P := Try.prog) (t := 46) (k := .u32) (by kernel_rfl) (hval 2 46 _ (by kernel_rfl) rfl) ht2
  obtain ⟨xs, h1, h2, h3, h4, h5, h6, h7⟩ := open_calls ht
  refine (entry spl_ok ⟨a0, len0, cap0, xs, n1, n2⟩ W rfl ⟨h1, (u32_wf w1).1, (u32_wf w1).2, (u32_wf w2).1, (u32_wf w2).2⟩ h2).mono ?_
  rintro e w' ⟨⟨_, _, rfl⟩, hk⟩
  exact ⟨_, rfl, post_true slaid hW' rfl rfl hk (tb := 4) (by kernel_rfl) (by kernel_rfl) (by kernel_rfl)⟩
theorem splits_holds : Rows.ClockSplitsSaid :=
  OpenClaim.holds_of_wide 4 Try.f4 rfl rfl rfl rfl rfl rfl rfl ⟨rfl, rfl, rfl, rfl, rfl⟩ rfl rfl rfl rfl rfl (by kernel_rfl) Try.func4 (by kernel_rfl)
    (of_decide_eq_true (by kernel_rfl)) (by unfold Func.isWrapper; rw [if_neg (by decide +kernel)]; exact ⟨rfl, rfl⟩)
    (fun os started H enc _ => splits_lifted os started H enc)
#print axioms splits_holds
end Go.Proofs.Ytmknmibmnidnoaa
