/- The law ChooseMatches. -/
import Derived.Test.YtkmdgnbfojkcnaaChoR
import Derived.Test.YtkmdgnbfojkcnaaLatB
import Derived.JoinedCond
import Derived.SizedLaws
namespace Go.Proofs.Ytkmdgnbfojkcnaa
open Go Go.ChangeShapes Go.WideShapes Go.ChangeAt Go.RowKit
def cmC : Con where
  X := StrX
  Y := Unit
  args x := [.string x.a, .string x.b]
  pre _ := []
  cond x := x.a.size ≤ 4611686018427387904
  rdc _ _ := True
  rel _ _ := True
  val _ _ := .returned (.bool true)
  post _ _ := []
def cmOv (_x : StrX) (_F : Atom) : List (Nat × Nat × OH) := [(1, 0, .c awC [] []), (3, 2, .c mtC [] []), (3, 5, .c rmtC [] [])]
noncomputable def cm_H (x : Con.X cmC) (F : Atom) : Hints where
  op := hk ((cmOv x F) ++ [])
  inv := (fun _ _ _ => none) x F
  cut := (fun _ _ _ => none) x F
  ord := (fun _ => [])
open Go.Value (int slice string bool pointer agg tuple func) in
open Go.IntKind (i64) in
set_option maxRecDepth 100000 in
theorem cm_vc (x : StrX) (F : Atom) (hc : Con.cond cmC x) (hr : Con.rdc cmC x F) :
  FnOk Try.prog 38 awC ∧ true = true ∧ ∃ (x_1 : Unit), ([] : List Value) = [] ∧ ([] : List Atom) = [] ∧ True ∧ True ∧ ∀ (y : Unit), True → FnOk Try.prog 39 mtC ∧ true = true ∧ ∃ (x_2 : StrX), [string x.a, string x.b] = [string x_2.a, string x_2.b] ∧ ([] : List Atom) = [] ∧ x_2.a.size ≤ 4611686018427387904 ∧ True ∧ ∀ (y : Unit), True → FnOk Try.prog 40 rmtC ∧ true = true ∧ ∃ (x_3 : StrX), [string x.a, string x.b] = [string x_3.a, string x_3.b] ∧ ([] : List Atom) = [] ∧ x_3.a.size ≤ 4611686018427387904 ∧ True ∧ ∀ (y : Unit), True → Done cmC x F (Ending.returned (bool (matchB x_2.a x_2.b == matchB x_3.a x_3.b))) [(0, F)] := by
  refine ⟨aw15_ok, rfl, (), rfl, rfl, trivial, trivial, fun _ _ => ⟨mt_ok, rfl, x, rfl, rfl, hc, trivial, fun _ _ => ⟨rmt_ok, rfl, x, rfl, rfl, hc, trivial, fun _ _ => ⟨(), trivial, retB ?_, Ent.pick [0] rfl rfl⟩⟩⟩⟩
  simp
set_option maxRecDepth 100000 in
theorem cm_ok : FnOk Try.prog 7 cmC :=
  fnOk (N := 14) (by kernel_rfl) Try.func7 rfl (by kernel_rfl) (fun _ => Nat.le_of_ble_eq_true rfl) cm_H [] fun x F hc hr => Eq.mpr (by kernel_rfl) (cm_vc x F hc hr)
theorem sown : ownKnob Try.prog.godebug = none := by kernel_rfl
theorem slaid : laidOutB Try.prog = true := by kernel_rfl
set_option maxRecDepth 100000 in
theorem matches_lifted (os : Os) (started : os.Started) (H : Type) (enc : TypeId × Value → H) :
    ReturnsInHanded {} Try.checked os 7 .any (Rows.chooseMatchesSpec.pre6 enc Try.prog Try.f7 Rows.chooseMatchesRow.domain false) (Rows.chooseMatchesSpec.post enc Try.prog Try.f7 false true false false) := by
  refine returnsInHanded_of_change_sized (C := Try.checked) sown started (by kernel_rfl) Try.func7
    (ChangeSpec.witness6 (enc := enc) (C := Try.checked) false ⟨#[], #[.string .empty, .string .empty], []⟩ 8 (by kernel_rfl) (by kernel_rfl) (by kernel_rfl) (by kernel_rfl)) ?_
  intro W base args ds gs before hval hW _ hk _
  have hW' := hW
  obtain ⟨p, q, hA, hV, rfl, _, _⟩ := hW
  obtain ⟨rfl, rfl⟩ := trodVars_none hV
  have hpar : Try.f7.params = #[9, 9] := by kernel_rfl
  obtain ⟨v0, vs0, d0, ds0, p0, q0, hargs, rfl, rfl, ⟨n0, h0⟩, r0⟩ := trodAll_cons hA
  obtain ⟨v1, vs1, d1, ds1, p1, q1, rfl, rfl, rfl, ⟨n1, h1⟩, r1⟩ := trodAll_cons r0
  obtain ⟨rfl, rfl, rfl⟩ := trodAll_nil r1
  have hb : (DataW.weightsEach Try.prog [9, 9] [d0, d1]).all (· ≤ reachBytes) = true := by rw [hpar, List.append_nil] at hk; exact hk
  have hst : Try.prog.underlying 9 = some .string := Try.underlying9
  have a0 : args[0]? = some v0 := by rw [← Array.getElem?_toList, hargs]; rfl
  have a1 : args[1]? = some v1 := by rw [← Array.getElem?_toList, hargs]; rfl
  obtain ⟨s0, rfl⟩ := okWide_string hst (hval 0 9 v0 (by rw [hpar]; rfl) a0)
  obtain ⟨s1, rfl⟩ := okWide_string hst (hval 1 9 v1 (by rw [hpar]; rfl) a1)
  obtain ⟨u, e1, e2, -⟩ := DataW.trod_string hst h0
  have e1 : [Value.string s0] = [.string u] := e1
  cases e1
  cases e2
  have hsz : s0.size ≤ 4611686018427387904 := by
    have h9 : WtOk Try.prog 9 (.lit (.string s0.data.toList) : DataW H) := wt_at 0 rfl rfl hb
    unfold WtOk DataW.weights at h9
    have h10 : s0.size ≤ reachBytes := by simpa using h9
    have h11 : reachBytes = 140737488351232 := rfl
    omega
  obtain rfl : args = ⟨cmC.args ⟨s0, s1⟩⟩ := Array.ext' hargs
  refine (entry cm_ok ⟨s0, s1⟩ W rfl hsz trivial).mono ?_
  rintro e w' ⟨⟨_, _, rfl⟩, hk⟩
  exact ⟨_, rfl, post_true slaid hW' rfl rfl hk (tb := 4) (by kernel_rfl) (by kernel_rfl) (by kernel_rfl)⟩
theorem matches_holds : Rows.ChooseMatchesSaid :=
  OpenClaim.holds_of_wide 7 Try.f7 rfl rfl rfl rfl rfl rfl rfl ⟨rfl, rfl, rfl, rfl, rfl⟩ rfl rfl rfl rfl rfl (by kernel_rfl) Try.func7 (by kernel_rfl)
    (of_decide_eq_true (by kernel_rfl)) (by unfold Func.isWrapper; rw [if_neg (by decide +kernel)]; exact ⟨rfl, rfl⟩)
    (fun os started H enc _ => matches_lifted os started H enc)
#print axioms matches_holds
end Go.Proofs.Ytkmdgnbfojkcnaa
