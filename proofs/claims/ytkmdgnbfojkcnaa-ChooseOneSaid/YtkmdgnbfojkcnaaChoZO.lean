/- pennantlaw15.ChooseOne answers true at every input, and the input reads as it did: a transition alone is taken, however often it is named; none of no transitions. -/
import Derived.Test.YtkmdgnbfojkcnaaChoY
import Derived.Test.YtkmdgnbfojkcnaaChoOne
set_option linter.all false
namespace Go.Proofs.Ytkmdgnbfojkcnaa
open Go Go.ChangeShapes Go.WideShapes Go.ChangeAt Go.RowKit
theorem one_ok : FnOk Try.prog 9 (oneC EvOk) := by
  refine ⟨fun x F I w hc hr hs => ?_⟩
  cases h : newB x.1.c with
  | true => exact onY_ok.h x F I w ⟨h, hc.2⟩ hr hs
  | false => exact onN_ok.h x F I w ⟨h, hc.2⟩ hr hs
section
variable {H : Type} {enc : TypeId × Value → H} {W : World}
set_option maxRecDepth 100000 in
theorem chart_move_int {base : Nat} {args : Array Value} {ds : List (DataW H)} {p : List MemPlace} (hval : ∀ (j : Nat) t v, ([28, 68, 3] : List TypeId)[j]? = some t → args[j]? = some v → Value.okWide Try.prog W .any base t v)
    (hA : DataW.TrodAll enc Try.prog W 0 (fun _ => true) true [28, 68, 3] args.toList ds p) (hk : (DataW.weightsEach Try.prog [28, 68, 3] ds).all (· ≤ reachBytes) = true) :
    ∃ (x : MvX × Int) (d0 d1 d2 : DataW H), ds = [d0, d1, d2] ∧ args.toList = (oneC EvOk).args x ∧ (oneC EvOk).cond x ∧ (oneC EvOk).rdc x (oldA W) := by
  obtain ⟨v0, vs0, d0, ds0, p0, q0, hargs, rfl, rfl, h0, r0⟩ := trodAll_cons hA
  obtain ⟨v1, vs1, d1, ds1, p1, q1, rfl, rfl, rfl, h1, r1⟩ := trodAll_cons r0
  obtain ⟨v2, vs2, d2, ds2, p2, q2, rfl, rfl, rfl, ⟨n2, h2⟩, r2⟩ := trodAll_cons r1
  obtain ⟨rfl, rfl, rfl⟩ := trodAll_nil r2
  have a0 : args[0]? = some v0 := by rw [← Array.getElem?_toList, hargs]; rfl
  have a1 : args[1]? = some v1 := by rw [← Array.getElem?_toList, hargs]; rfl
  have a2 : args[2]? = some v2 := by rw [← Array.getElem?_toList, hargs]; rfl
  obtain ⟨c, w, rfl, hin, hev⟩ := chart_arg2 (hval 0 _ _ rfl a0) h0 (wt_at 0 rfl rfl hk)
  obtain ⟨x, rfl, rfl, rfl, g1, g2⟩ := move_arg (hval 1 _ _ rfl a1) h1 (wt_at 1 rfl rfl hk) c w hin
  obtain ⟨t, rfl⟩ := okWide_int Try.underlying3 (hval 2 _ _ rfl a2)
  exact ⟨(x, t), d0, d1, d2, rfl, hargs, ⟨hev, g1⟩, g2⟩
end
set_option maxRecDepth 100000 in
theorem one_lifted (os : Os) (started : os.Started) (H : Type) (enc : TypeId × Value → H) :
    ReturnsInHanded {} Try.checked os 9 .any (Rows.chooseOneSpec.pre6 enc Try.prog Try.f9 Rows.chooseOneRow.domain false) (Rows.chooseOneSpec.post enc Try.prog Try.f9 false true false false) := by
  refine returnsInHanded_of_change_sized (C := Try.checked) sown started (by kernel_rfl) Try.func9
    (ChangeSpec.witness6 (enc := enc) (C := Try.checked) false ⟨#[], #[.agg #[.string .empty, .bool false, .int .i64 0, .slice none 0 0, .slice none 0 0, .slice none 0 0, .slice none 0 0, .slice none 0 0], .agg #[.slice none 0 0, .slice none 0 0, .slice none 0 0, .string .empty, .bool false, .slice none 0 0], .int .i64 0], []⟩ 8 (by kernel_rfl) (by kernel_rfl) (by kernel_rfl) (by kernel_rfl)) ?_
  intro W base args ds gs before hval hW _ hk _
  have hW' := hW
  obtain ⟨p, q, hA, hV, rfl, _, _⟩ := hW
  obtain ⟨rfl, rfl⟩ := trodVars_none hV
  have hpar : Try.f9.params = #[28, 68, 3] := by kernel_rfl
  obtain ⟨x, d0, d1, d2, rfl, h1, h2, h3⟩ := chart_move_int (fun j t v h => hval j t v (by rw [hpar, ← Array.getElem?_toList]; exact h)) hA (by rw [hpar, List.append_nil] at hk; exact hk)
  obtain rfl : args = ⟨(oneC EvOk).args x⟩ := Array.ext' h1
  refine (entry one_ok x W rfl h2 h3).mono ?_
  rintro e w' ⟨⟨_, _, rfl⟩, hk⟩
  exact ⟨_, rfl, post_true slaid hW' rfl rfl hk (tb := 4) (by kernel_rfl) (by kernel_rfl) (by kernel_rfl)⟩
theorem one_holds : Rows.ChooseOneSaid :=
  OpenClaim.holds_of_wide 9 Try.f9 rfl rfl rfl rfl rfl rfl rfl ⟨rfl, rfl, rfl, rfl, rfl⟩ rfl rfl rfl rfl rfl (by kernel_rfl) Try.func9 (by kernel_rfl)
    (of_decide_eq_true (by kernel_rfl)) (by unfold Func.isWrapper; rw [if_neg (by decide +kernel)]; exact ⟨rfl, rfl⟩)
    (fun os started H enc _ => one_lifted os started H enc)
#print axioms one_holds
end Go.Proofs.Ytkmdgnbfojkcnaa
