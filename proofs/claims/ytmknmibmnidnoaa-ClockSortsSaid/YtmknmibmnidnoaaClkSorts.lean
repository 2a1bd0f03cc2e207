/- pennantlaw17.ClockSorts answers true at every input, and the input reads as it did. -/
import Derived.Test.YtmknmibmnidnoaaRows
import Derived.Test.YtmknmibmnidnoaaClkN
import Derived.Test.YtmknmibmnidnoaaEngK
set_option linter.all false
namespace Go.Proofs.Ytmknmibmnidnoaa
open Go Go.ChangeShapes Go.WideShapes Go.ChangeAt Go.RowKit
theorem sown : ownKnob Try.prog.godebug = none := by kernel_rfl
theorem slaid : laidOutB Try.prog = true := by kernel_rfl
theorem u16_some {a : Addr} {len : Nat} {zs : List Int} {W : World} (hl : len ≤ zs.length) (hc : ∀ i, i < zs.length → W.cell? (a.add i) = some (.int .u16 (zs.getD i 0))) :
    IsSrc 1 (u16s (zs.take len)) (some a) len ∧ Srcd (oldA W) (some a) (u16s (zs.take len)) := by
  constructor
  · cases len with
    | zero => exact .zero a (by simp [u16s])
    | succ n =>
      have h0 := hc 0 (by omega)
      have hs : a.spot = none := by
        cases hs : a.spot with
        | none => rfl
        | some s =>
          exfalso
          have e0 : a.add 0 = a := rfl
          rw [e0, ← cellOf_hp] at h0
          unfold cellOf at h0
          rw [hs] at h0
          split at h0 <;> simp at h0
      obtain ⟨b, o, s⟩ := a
      dsimp only at hs
      subst hs
      exact .blk b o (n + 1) (by rw [u16s_length]; simp; omega)
  · intro ad e
    cases e
    intro j u hj
    have hjl : j < (zs.take len).length := by
      have := (List.getElem?_eq_some_iff.1 hj).1
      rwa [u16s_length] at this
    rw [List.length_take] at hjl
    refine look_old ?_
    rw [hc j (by omega)]
    rw [u16s, List.getElem?_map, List.getElem?_take_of_lt (by omega), List.getElem?_eq_getElem (by omega)] at hj
    rw [List.getD_eq_getElem?_getD, List.getElem?_eq_getElem (by omega)]
    exact hj
set_option maxRecDepth 100000 in
theorem sorts_lifted (os : Os) (started : os.Started) (H : Type) (enc : TypeId × Value → H) :
    ReturnsInHanded {} Try.checked os 6 .any (Rows.clockSortsSpec.pre6 enc Try.prog Try.f6 Rows.clockSortsRow.domain false) (Rows.clockSortsSpec.post enc Try.prog Try.f6 false true false false) := by
  refine returnsInHanded_of_change (C := Try.checked) sown started (by kernel_rfl) Try.func6
    (ChangeSpec.witness6 (enc := enc) (C := Try.checked) false ⟨#[], #[.slice none 0 0], []⟩ 8 (by kernel_rfl) (by kernel_rfl) (by kernel_rfl) (by kernel_rfl)) ?_
  intro W base args ds gs before hval hW _ _
  have hW' := hW
  obtain ⟨p, q, hA, hV, rfl, _, _⟩ := hW
  have hA : DataW.TrodAll enc Try.prog W 0 (fun _ => true) true [52] args.toList ds p := hA
  obtain ⟨v, d, rfl, rfl, ht⟩ := trodAll_one hA
  obtain ⟨rfl, rfl⟩ := trodVars_none hV
  obtain ⟨fuel, ht⟩ := ht
  have fin : ∀ x : SortX, v = Value.slice x.a x.n x.cap → sortsC.cond x → sortsC.rdc x (oldA W) → Calls Try.checked.prog 6 #[v] W fun e W' => ∃ v', e = .returned v' ∧ Rows.clockSortsSpec.post enc Try.checked.prog Try.f6 false true false false W #[v] v' W' := by
    intro x e hc hr
    subst e
    refine (entry sorts_ok x W rfl hc hr).mono ?_
    rintro e w' ⟨⟨_, _, rfl⟩, hk⟩
    exact ⟨_, rfl, post_true slaid hW' rfl rfl hk (tb := 4) (by kernel_rfl) (by kernel_rfl) (by kernel_rfl)⟩
  obtain ⟨a0, len0, cap0, rfl⟩ := okWide_slice (P := Try.prog) (t := 52) (e := 53) (by kernel_rfl) (hval 0 52 _ (by kernel_rfl) rfl)
  rcases Go.ChangeShapes.open_ints (t := 52) (e := 53) (k := .u16) (by kernel_rfl) (by kernel_rfl) (by kernel_rfl) ht with ⟨hcs, _⟩ | ⟨a, len, cap, zs, hcs, _, hl, _, hz, _, hcell, hwf⟩
  · have hv : Value.slice a0 len0 cap0 = .slice none 0 0 := by simpa [Value.cells] using hcs
    exact fin ⟨none, 0, 0, []⟩ hv ⟨.nil rfl, by simp⟩ (fun ad e => by cases e)
  · have hv : Value.slice a0 len0 cap0 = .slice (some a) len cap := by simpa [Value.cells] using hcs
    have hz : zs.length = cap := hz
    obtain ⟨h1, h2⟩ := u16_some (W := W) (a := a) (len := len) (zs := zs) (by omega) hcell
    refine fin ⟨some a, len, cap, zs.take len⟩ hv ⟨h1, fun d hd => ?_⟩ h2
    have := hwf d (List.mem_of_mem_take hd)
    simp only [Lit.wf, Bool.and_eq_true, decide_eq_true_eq] at this
    have h1 : IntKind.u16.min = 0 := by decide
    have h2 : IntKind.u16.max = 65535 := by decide
    omega
theorem sorts_holds : Rows.ClockSortsSaid :=
  OpenClaim.holds_of_wide 6 Try.f6 rfl rfl rfl rfl rfl rfl rfl ⟨rfl, rfl, rfl, rfl, rfl⟩ rfl rfl rfl rfl rfl (by kernel_rfl) Try.func6 (by kernel_rfl)
    (of_decide_eq_true (by kernel_rfl)) (by unfold Func.isWrapper; rw [if_neg (by decide +kernel)]; exact ⟨rfl, rfl⟩)
    (fun os started H enc _ => sorts_lifted os started H enc)
#print axioms sorts_holds
end Go.Proofs.Ytmknmibmnidnoaa
