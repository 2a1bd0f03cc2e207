/- pennantlaw13.LatticeSays answers true at every input, and the input reads as it did. -/
import Derived.Test.YtfmadkaiigiaiaaLatR
import Derived.Test.YtfmadkaiigiaiaaLatSC
set_option linter.all false
namespace Go.Proofs.Ytfmadkaiigiaiaa
open Go Go.ChangeShapes Go.WideShapes Go.ChangeAt Go.RowKit
theorem list4 {ys : List Value} (h : ys.length = 4) : ∃ a0 a1 a2 a3, ys = [a0, a1, a2, a3] :=
  match ys, h with
  | [a, b, c, d], _ => ⟨a, b, c, d, rfl⟩
section
variable {H : Type} {enc : TypeId × Value → H} {W : World}
set_option maxRecDepth 100000 in
theorem places_arg {base : Nat} {v : Value} {d : DataW H} {p : List MemPlace} (hv : Value.okWide Try.prog W .any base 31 v) (h : ∃ fuel, DataW.trod enc Try.prog W 0 (fun _ => true) true fuel 31 v.cells.toList = some (d, p)) (hB : WtOk Try.prog 31 d) :
    ∃ (A B : Int) (l f : Sl) (xs cf : List Int), v = .agg #[.int .i64 A, .int .i64 B, .slice l.a l.n l.cap, .slice f.a f.n f.cap] ∧ (IsSrc 1 (ints xs) l.a l.n ∧ Srcd (oldA W) l.a (ints xs) ∧ l.n * 8 ≤ 140737488351232) ∧ IsSrc 1 (ints cf) f.a f.n ∧ Srcd (oldA W) f.a (ints cf) ∧ f.n * 8 ≤ 140737488351232 := by
  obtain ⟨cs, rfl, hcs⟩ := okWide_struct (P := Try.prog) (fs := fsOf 31) (by kernel_rfl) hv
  obtain ⟨fuel, h⟩ := h
  have h4 : cs.toList.length = 4 := by
    rw [Array.length_toList, hcs]; exact (by kernel_rfl : Try.prog.cellsOf 31 = 4)
  obtain ⟨a0, a1, a2, a3, hl⟩ := list4 h4
  obtain rfl : cs = ⟨[a0, a1, a2, a3]⟩ := Array.ext' hl
  have ht : Try.prog.underlying 31 = some (.struct (fsOf 31)) := by kernel_rfl
  obtain ⟨x0, e0, -⟩ := fieldI ht h 0 0 _ .i64 (by kernel_rfl : (fsOf 31)[0]? = some ((fsOf 31)[0]'(of_decide_eq_true (by kernel_rfl)))) (by kernel_rfl) (by kernel_rfl) (by kernel_rfl) (show 0 < 4 by decide)
  obtain ⟨x1, e1, -⟩ := fieldI ht h 1 1 _ .i64 (by kernel_rfl : (fsOf 31)[1]? = some ((fsOf 31)[1]'(of_decide_eq_true (by kernel_rfl)))) (by kernel_rfl) (by kernel_rfl) (by kernel_rfl) (show 1 < 4 by decide)
  obtain ⟨m2, z2, t2, b2⟩ := field1T ht h 2 2 _ 29 (by kernel_rfl : (fsOf 31)[2]? = some ((fsOf 31)[2]'(of_decide_eq_true (by kernel_rfl)))) (by kernel_rfl) (by kernel_rfl) (by kernel_rfl) (show 2 < 4 by decide)
  obtain ⟨x2, h2⟩ := openInts (enc := enc) (W := W) (v := a2) (fuel := m2) t2 (b2 hB)
  obtain ⟨m3, z3, t3, b3⟩ := field1T ht h 3 3 _ 29 (by kernel_rfl : (fsOf 31)[3]? = some ((fsOf 31)[3]'(of_decide_eq_true (by kernel_rfl)))) (by kernel_rfl) (by kernel_rfl) (by kernel_rfl) (show 3 < 4 by decide)
  obtain ⟨x3, h3⟩ := openInts (enc := enc) (W := W) (v := a3) (fuel := m3) t3 (b3 hB)
  have e0 : a0 = .int .i64 x0 := e0
  have e1 : a1 = .int .i64 x1 := e1
  obtain ⟨l, rfl⟩ := h2.sl
  obtain ⟨f, rfl⟩ := h3.sl
  obtain ⟨p1, p2, p3, -, -⟩ := IntsIn.srcd h2
  obtain ⟨q1, q2, q3, -, -⟩ := IntsIn.srcd h3
  subst e0 e1
  exact ⟨x0, x1, l, f, x2, x3, rfl, ⟨p1, p2, p3⟩, q1, q2, q3⟩
set_option maxRecDepth 100000 in
theorem chart_places {base : Nat} {args : Array Value} {ds : List (DataW H)} {p : List MemPlace} (hval : ∀ (j : Nat) t v, ([28, 31] : List TypeId)[j]? = some t → args[j]? = some v → Value.okWide Try.prog W .any base t v)
    (hA : DataW.TrodAll enc Try.prog W 0 (fun _ => true) true [28, 31] args.toList ds p) (hk : (DataW.weightsEach Try.prog [28, 31] ds).all (· ≤ reachBytes) = true) :
    ∃ (x : SaysX) (d0 d1 : DataW H), ds = [d0, d1] ∧ args.toList = (saysC fun _ => True).args x ∧ (saysC fun _ => True).cond x ∧ (saysC fun _ => True).rdc x (oldA W) := by
  obtain ⟨v0, vs0, d0, ds0, p0, q0, hargs, rfl, rfl, h0, r0⟩ := trodAll_cons hA
  obtain ⟨v1, vs1, d1, ds1, p1, q1, rfl, rfl, rfl, h1, r1⟩ := trodAll_cons r0
  obtain ⟨rfl, rfl, rfl⟩ := trodAll_nil r1
  have a0 : args[0]? = some v0 := by rw [← Array.getElem?_toList, hargs]; rfl
  have a1 : args[1]? = some v1 := by rw [← Array.getElem?_toList, hargs]; rfl
  obtain ⟨c, w, rfl, hin⟩ := chart_arg (hval 0 _ _ rfl a0) h0 (wt_at 0 rfl rfl hk)
  obtain ⟨A, B, l, f, xs, cf, rfl, ⟨g1, g2, g3⟩, k1, k2, k3⟩ := places_arg (hval 1 _ _ rfl a1) h1 (wt_at 1 rfl rfl hk)
  exact ⟨⟨c, w, A, B, l, f, xs, cf⟩, d0, d1, rfl, hargs, ⟨trivial, ⟨g1, g3⟩, k1, k3⟩, ⟨hin, g2, k2⟩⟩
end
set_option maxRecDepth 100000 in
theorem says_lifted (os : Os) (started : os.Started) (H : Type) (enc : TypeId × Value → H) :
    ReturnsInHanded {} Try.checked os 3 .any (Rows.latticeSaysSpec.pre6 enc Try.prog Try.f3 Rows.latticeSaysRow.domain false) (Rows.latticeSaysSpec.post enc Try.prog Try.f3 false true false false) := by
  refine returnsInHanded_of_change_sized (C := Try.checked) sown started (by kernel_rfl) Try.func3
    (ChangeSpec.witness6 (enc := enc) (C := Try.checked) false ⟨#[], #[.agg #[.string .empty, .bool false, .int .i64 0, .slice none 0 0, .slice none 0 0, .slice none 0 0, .slice none 0 0, .slice none 0 0], .agg #[.int .i64 0, .int .i64 0, .slice none 0 0, .slice none 0 0]], []⟩ 8 (by kernel_rfl) (by kernel_rfl) (by kernel_rfl) (by kernel_rfl)) ?_
  intro W base args ds gs before hval hW _ hk _
  have hW' := hW
  obtain ⟨p, q, hA, hV, rfl, _, _⟩ := hW
  obtain ⟨rfl, rfl⟩ := trodVars_none hV
  have hpar : Try.f3.params = #[28, 31] := by kernel_rfl
  obtain ⟨x, d0, d1, rfl, h1, h2, h3⟩ := chart_places (fun j t v h => hval j t v (by rw [hpar, ← Array.getElem?_toList]; exact h)) hA (by rw [hpar, List.append_nil] at hk; exact hk)
  obtain rfl : args = ⟨(saysC fun _ => True).args x⟩ := Array.ext' h1
  refine (entry lsAll_ok x W rfl h2 h3).mono ?_
  rintro e w' ⟨⟨_, _, rfl⟩, hk⟩
  exact ⟨_, rfl, post_true slaid hW' rfl rfl hk (tb := 4) (by kernel_rfl) (by kernel_rfl) (by kernel_rfl)⟩
theorem says_holds : Rows.LatticeSaysSaid :=
  OpenClaim.holds_of_wide 3 Try.f3 rfl rfl rfl rfl rfl rfl rfl ⟨rfl, rfl, rfl, rfl, rfl⟩ rfl rfl rfl rfl rfl (by kernel_rfl) Try.func3 (by kernel_rfl)
    (of_decide_eq_true (by kernel_rfl)) (by unfold Func.isWrapper; rw [if_neg (by decide +kernel)]; exact ⟨rfl, rfl⟩)
    (fun os started H enc _ => says_lifted os started H enc)
#print axioms says_holds
end Go.Proofs.Ytfmadkaiigiaiaa
