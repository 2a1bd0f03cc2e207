/- A part of the proof that pennantlaw23.BasicBack answers true at every input. -/
import Derived.Test.YtjdabjmjldiodaaGreatDoorPBas
set_option linter.all false
namespace Go.Proofs.YtjdabjmjldiodaaGreatDoor
set_option maxRecDepth 100000
open Go.Value (int slice string bool pointer agg tuple func float iface nilIface)
open Go.IntKind (i64 u8 u64 i32 u32 u16 i8 i16)
open Go.FloatKind (f64)
open Go.Ending (returned panicked)
section
open Go Go.ChangeShapes Go.WideShapes Go.ChangeAt Go.RowKit Go.ChangeMaps
theorem back_lifted (os : Os) (started : os.Started) (H : Type) (enc : TypeId × Value → H) (F : Stop.Interp) :
    ReturnsInHanded {} Tryz.checked os 3 .any ((OpenSpec.ofChange Rows.basicBackSpec).preRow enc Tryz.prog Tryz.f3 Rows.basicBackRow.domain false Rows.basicBackRow.laid) (((OpenSpec.ofChange Rows.basicBackSpec).at F).post enc Tryz.prog Tryz.f3 false true false false) := by
  have hok : Input.okWideB Tryz.prog ((wH os).forCall (λ_ _ => 0) ⟨#[], #[.agg #[.string .empty, .slice none 0 0, .string .empty, .bool false]], []⟩) 3 ⟨#[], #[.agg #[.string .empty, .slice none 0 0, .string .empty, .bool false]], []⟩ = true := by kernel_rfl
  refine returnsInHanded_of_row (C := Tryz.checked) (s := OpenSpec.ofChange Rows.basicBackSpec) sown started (by kernel_rfl) Tryz.func3
    ⟨wH os, λ_ _ => 0, ⟨#[], #[.agg #[.string .empty, .slice none 0 0, .string .empty, .bool false]], []⟩, wH_os os, wH_shaped os _, (Input.okWide_of_okWideB (base := 0) hok).1, (Input.okWide_of_okWideB hok).2,
      OpenSpec.preRow_of_cond 8 (x := ([.agg [.lit (.string []), .nil, .lit (.string []), .lit (.bool false)]], [], [])) (by kernel_rfl) (by kernel_rfl) (λk hk => by cases hk) (by kernel_rfl) (wH_met os _), by
        simp only [Assume.holds]
        exact ⟨by simp, by simp, λ_ => Modest.zero, by simp, by simp⟩⟩ ?_
  intro W base args ds gs before hval hW _ _ hwt hL hS _
  have hW' := hW
  obtain ⟨p, q, hA, hV, rfl, _, _⟩ := hW
  obtain ⟨rfl, rfl⟩ := trodVars_none hV
  have hpar : Tryz.f3.params = #[24] := by kernel_rfl
  have hL2 := (laidMetH_iff.1 hL).1
  have hL3 : laidMet Tryz.prog laidL W := by
    rw [← laidL_eq]
    exact hL2
  have hR := rqG_ok hL3 hS
  have hA : DataW.TrodAll enc Tryz.prog W 0 (λ_ => true) true [24] args.toList ds p := by
    have := hA
    rw [hpar] at this
    exact this
  have hv : ∀ (j : Nat) t v, ([24] : List TypeId)[j]? = some t → args[j]? = some v → Value.okWide Tryz.prog W .any base t v := λj t v h => hval j t v (by rw [hpar, ← Array.getElem?_toList]; exact h)
  obtain ⟨v0, vs0, d0, ds0, p0, q0, hargs, rfl, rfl, t0, r0⟩ := trodAll_cons hA
  obtain ⟨rfl, rfl, rfl⟩ := trodAll_nil r0
  obtain rfl : args = #[v0] := by cases args; simp_all
  rw [hpar] at hwt
  obtain ⟨z, rfl, hz, hzs⟩ := sent_arg (hv 0 _ _ rfl rfl) t0 (wE_at (i := 0) (P := Tryz.prog) (ts := [24] ++ (OpenSpec.ofChange Rows.basicBackSpec).bare.plain.varTypes Tryz.prog) (ds := [d0] ++ []) rfl rfl hwt)
  refine (entry lbb_ok z W rfl hz ⟨hR, hzs⟩).mono ?_
  rintro e w' ⟨⟨_, _, rfl⟩, hk⟩
  exact ⟨_, rfl, post_true slaid hW' rfl rfl hk (tb := 4) (by kernel_rfl) (by kernel_rfl) (by kernel_rfl)⟩
theorem back_said : Rows.BasicBackSaid :=
  OpenClaim.holds_of_cond 3 Tryz.f3 rfl rfl rfl rfl rfl rfl rfl ⟨rfl, rfl, rfl, rfl, rfl⟩ rfl rfl rfl rfl rfl (by kernel_rfl) Tryz.func3 jf_all
    (fo_od1 (by kernel_rfl)) (by unfold Func.isWrapper; first | (rw [if_pos (by decide +kernel)]; kernel_rfl) | (rw [if_neg (by decide +kernel)]; exact ⟨rfl, rfl⟩))
    (λos started H enc _ F => by rw [OpenClaim.pre_eq_preRow]; exact back_lifted os started H enc F)
end
section
open Go Go.ChangeShapes Go.WideShapes Go.ChangeAt Go.RowKit Go.ChangeMaps
theorem back_plain (f : FuncId) (fn : Func) (hf : Tryz.pinned.checked.prog.funcNamed "pennant/pennantlaw23.BasicBack" = some f) (hfn : Tryz.pinned.checked.prog.funcs[f]? = some fn) :
    true = Tryz.pinned.checked.prog.looks [] ∧ ∀ (j : Nat) t, fn.params[j]? = some t → Tryz.pinned.checked.prog.wantsStandIn t = false := by
  obtain rfl : f = 3 := Option.some.inj ((show Tryz.prog.funcNamed "pennant/pennantlaw23.BasicBack" = some 3 by kernel_rfl).symm.trans hf) |>.symm
  obtain rfl : fn = Tryz.f3 := (Option.some.inj (Tryz.func3.symm.trans hfn)).symm
  have hpar : Tryz.f3.params = #[24] := by kernel_rfl
  refine ⟨by kernel_rfl, λj t ht => ?_⟩
  rw [hpar] at ht
  obtain rfl : t = 24 := by simpa using Array.mem_of_getElem? ht
  exact (show Tryz.prog.wantsStandIn 24 = false by kernel_rfl)
theorem back_holds : Rows.BasicBackCardSaid :=
  Claim7.holds_tied_plain_at .later [] _ _ _ _ back_said (λ_ h => by cases h) bck_w (λ_ h => by cases h) basicBack_row_tie rfl ⟨rfl, rfl⟩ bck_m rfl back_plain bck_g
end
end Go.Proofs.YtjdabjmjldiodaaGreatDoor
#print axioms Go.Proofs.YtjdabjmjldiodaaGreatDoor.back_holds
