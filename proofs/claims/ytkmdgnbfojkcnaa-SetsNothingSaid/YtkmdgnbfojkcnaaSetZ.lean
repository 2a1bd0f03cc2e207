/- pennantlaw14.SetsNothing answers true at every input, and the input reads as it did: a transition without targets, and one that is none, leaves and enters nothing, and has no domain. -/
import Derived.Test.YtkmdgnbfojkcnaaSetG
import Derived.Test.YtkmdgnbfojkcnaaLatB
import Derived.JoinedCond
import Derived.SizedLaws
set_option linter.all false
namespace Go.Proofs.Ytkmdgnbfojkcnaa
open Go Go.ChangeShapes Go.WideShapes Go.ChangeAt Go.RowKit
theorem sown : ownKnob Try.prog.godebug = none := by kernel_rfl
theorem slaid : laidOutB Try.prog = true := by kernel_rfl
theorem nothing_ok : FnOk Try.prog 11 (m4C fun _ => True) := by
  refine ⟨fun x F I w hc hr hs => ?_⟩
  cases h : newB x.c with
  | true => exact ntY_ok.h x F I w ⟨h, hc.2⟩ hr hs
  | false => exact ntN_ok.h x F I w ⟨h, hc.2⟩ hr hs
theorem list4 {ys : List Value} (h : ys.length = 4) : ∃ a0 a1 a2 a3, ys = [a0, a1, a2, a3] :=
  match ys, h with
  | [a, b, c, d], _ => ⟨a, b, c, d, rfl⟩
section
variable {H : Type} {enc : TypeId × Value → H} {W : World}
set_option maxRecDepth 100000 in
theorem chart_arg {base : Nat} {v : Value} {d : DataW H} {p : List MemPlace} (hv : Value.okWide Try.prog W .any base 28 v) (h : ∃ fuel, DataW.trod enc Try.prog W 0 (fun _ => true) true fuel 28 v.cells.toList = some (d, p)) (hB : WtOk Try.prog 28 d) :
    ∃ (c : ChD) (w : ChS), v = chAgg c w ∧ ChIn (oldA W) w.v c := by
  obtain ⟨cs, rfl, hcs⟩ := okWide_struct (P := Try.prog) (fs := fsOf 28) (by kernel_rfl) hv
  obtain ⟨fuel, ht⟩ := h
  have h8 : cs.toList.length = 8 := by
    rw [Array.length_toList, hcs]; exact (by kernel_rfl : Try.prog.cellsOf 28 = 8)
  obtain ⟨c, v, hc, hin⟩ := open_chart h8 ht hB
  obtain ⟨w, rfl⟩ := hin.chs
  refine ⟨c, w, ?_, hin⟩
  show Value.agg cs = Value.agg _
  congr 1
  exact Array.ext' hc
theorem mem_el (n : Nat) (ys : List Value) (y : DataW H × List MemPlace) (hl : ys.length = 1) (h : DataW.trod enc Try.prog W 0 (fun _ => true) true n 29 ys = some y) (hB : WtOk Try.prog 29 y.1) : ∃ m : List Int, ∃ u, ys = [u] ∧ IntsIn (oldA W) u m := by
  obtain ⟨a, rfl⟩ := list1 hl
  obtain ⟨m, hm⟩ := openInts h hB
  exact ⟨m, a, rfl, hm⟩
set_option maxRecDepth 100000 in
theorem move4_arg {base : Nat} {v : Value} {d : DataW H} {p : List MemPlace} (hv : Value.okWide Try.prog W .any base 78 v) (h : ∃ fuel, DataW.trod enc Try.prog W 0 (fun _ => true) true fuel 78 v.cells.toList = some (d, p)) (hB : WtOk Try.prog 78 d) (c : ChD) (w : ChS) (hch : ChIn (oldA W) w.v c) :
    ∃ x : Mv4, x.c = c ∧ x.w = w ∧ v = mo4Agg x ∧ Mv4Ok x ∧ Mv4In (oldA W) x := by
  obtain ⟨cs, rfl, hcs⟩ := okWide_struct (P := Try.prog) (fs := fsOf 78) (by kernel_rfl) hv
  obtain ⟨fuel, h⟩ := h
  have h4 : cs.toList.length = 4 := by
    rw [Array.length_toList, hcs]; exact (by kernel_rfl : Try.prog.cellsOf 78 = 4)
  obtain ⟨a0, a1, a2, a3, hl⟩ := list4 h4
  obtain rfl : cs = ⟨[a0, a1, a2, a3]⟩ := Array.ext' hl
  have ht : Try.prog.underlying 78 = some (.struct (fsOf 78)) := by kernel_rfl
  obtain ⟨m0, z0, t0, b0⟩ := field1T ht h 0 0 _ 29 (by kernel_rfl : (fsOf 78)[0]? = some ((fsOf 78)[0]'(of_decide_eq_true (by kernel_rfl)))) (by kernel_rfl) (by kernel_rfl) (by kernel_rfl) (show 0 < 4 by decide)
  obtain ⟨x0, h0⟩ := openInts (enc := enc) (W := W) (v := a0) (fuel := m0) t0 (b0 hB)
  obtain ⟨m1, z1, t1, b1⟩ := field1T ht h 1 1 _ 29 (by kernel_rfl : (fsOf 78)[1]? = some ((fsOf 78)[1]'(of_decide_eq_true (by kernel_rfl)))) (by kernel_rfl) (by kernel_rfl) (by kernel_rfl) (show 1 < 4 by decide)
  obtain ⟨x1, h1⟩ := openInts (enc := enc) (W := W) (v := a1) (fuel := m1) t1 (b1 hB)
  obtain ⟨m2, z2, t2, b2⟩ := field1T ht h 2 2 _ 29 (by kernel_rfl : (fsOf 78)[2]? = some ((fsOf 78)[2]'(of_decide_eq_true (by kernel_rfl)))) (by kernel_rfl) (by kernel_rfl) (by kernel_rfl) (show 2 < 4 by decide)
  obtain ⟨x2, h2⟩ := openInts (enc := enc) (W := W) (v := a2) (fuel := m2) t2 (b2 hB)
  obtain ⟨m3, z3, t3, b3⟩ := field1T ht h 3 3 _ 65 (by kernel_rfl : (fsOf 78)[3]? = some ((fsOf 78)[3]'(of_decide_eq_true (by kernel_rfl)))) (by kernel_rfl) (by kernel_rfl) (by kernel_rfl) (show 3 < 4 by decide)
  obtain ⟨x3, h3⟩ := open_rel (R := fun r (m : List Int) => ∃ u, r = [u] ∧ IntsIn (oldA W) u m) (enc := enc) (W := W) (v := a3) (fuel := m3) (by decide : 0 < 1) (te := 29) (Bw := 24) (by kernel_rfl) (by kernel_rfl) (by kernel_rfl) mem_el t3 (b3 hB)
  obtain ⟨g, rfl⟩ := SlIn.sl h0
  obtain ⟨l, rfl⟩ := SlIn.sl h1
  obtain ⟨s, rfl⟩ := SlIn.sl h2
  obtain ⟨m, rfl⟩ := SlIn.sl h3
  obtain ⟨p1, p2, p3, -, -⟩ := IntsIn.srcd h0
  exact ⟨⟨c, w, g, x0, l, s, m, x3⟩, rfl, rfl, rfl, ⟨p1, p3⟩, ⟨hch, p2, h3⟩⟩
set_option maxRecDepth 100000 in
theorem chart_move4 {base : Nat} {args : Array Value} {ds : List (DataW H)} {p : List MemPlace} (hval : ∀ (j : Nat) t v, ([28, 78] : List TypeId)[j]? = some t → args[j]? = some v → Value.okWide Try.prog W .any base t v)
    (hA : DataW.TrodAll enc Try.prog W 0 (fun _ => true) true [28, 78] args.toList ds p) (hk : (DataW.weightsEach Try.prog [28, 78] ds).all (· ≤ reachBytes) = true) :
    ∃ (x : Mv4) (d0 d1 : DataW H), ds = [d0, d1] ∧ args.toList = (m4C fun _ => True).args x ∧ (m4C fun _ => True).cond x ∧ (m4C fun _ => True).rdc x (oldA W) := by
  obtain ⟨v0, vs0, d0, ds0, p0, q0, hargs, rfl, rfl, h0, r0⟩ := trodAll_cons hA
  obtain ⟨v1, vs1, d1, ds1, p1, q1, rfl, rfl, rfl, h1, r1⟩ := trodAll_cons r0
  obtain ⟨rfl, rfl, rfl⟩ := trodAll_nil r1
  have a0 : args[0]? = some v0 := by rw [← Array.getElem?_toList, hargs]; rfl
  have a1 : args[1]? = some v1 := by rw [← Array.getElem?_toList, hargs]; rfl
  obtain ⟨c, w, rfl, hin⟩ := chart_arg (hval 0 _ _ rfl a0) h0 (wt_at 0 rfl rfl hk)
  obtain ⟨x, rfl, rfl, rfl, g1, g2⟩ := move4_arg (hval 1 _ _ rfl a1) h1 (wt_at 1 rfl rfl hk) c w hin
  exact ⟨x, d0, d1, rfl, hargs, ⟨trivial, g1⟩, g2⟩
end
set_option maxRecDepth 100000 in
theorem nothing_lifted (os : Os) (started : os.Started) (H : Type) (enc : TypeId × Value → H) :
    ReturnsInHanded {} Try.checked os 11 .any (Rows.setsNothingSpec.pre6 enc Try.prog Try.f11 Rows.setsNothingRow.domain false) (Rows.setsNothingSpec.post enc Try.prog Try.f11 false true false false) := by
  refine returnsInHanded_of_change_sized (C := Try.checked) sown started (by kernel_rfl) Try.func11
    (ChangeSpec.witness6 (enc := enc) (C := Try.checked) false ⟨#[], #[.agg #[.string .empty, .bool false, .int .i64 0, .slice none 0 0, .slice none 0 0, .slice none 0 0, .slice none 0 0, .slice none 0 0], .agg #[.slice none 0 0, .slice none 0 0, .slice none 0 0, .slice none 0 0]], []⟩ 8 (by kernel_rfl) (by kernel_rfl) (by kernel_rfl) (by kernel_rfl)) ?_
  intro W base args ds gs before hval hW _ hk _
  have hW' := hW
  obtain ⟨p, q, hA, hV, rfl, _, _⟩ := hW
  obtain ⟨rfl, rfl⟩ := trodVars_none hV
  have hpar : Try.f11.params = #[28, 78] := by kernel_rfl
  obtain ⟨x, d0, d1, rfl, h1, h2, h3⟩ := chart_move4 (fun j t v h => hval j t v (by rw [hpar, ← Array.getElem?_toList]; exact h)) hA (by rw [hpar, List.append_nil] at hk; exact hk)
  obtain rfl : args = ⟨(m4C fun _ => True).args x⟩ := Array.ext' h1
  refine (entry nothing_ok x W rfl h2 h3).mono ?_
  rintro e w' ⟨⟨_, _, rfl⟩, hk⟩
  exact ⟨_, rfl, post_true slaid hW' rfl rfl hk (tb := 4) (by kernel_rfl) (by kernel_rfl) (by kernel_rfl)⟩
theorem nothing_holds : Rows.SetsNothingSaid :=
  OpenClaim.holds_of_wide 11 Try.f11 rfl rfl rfl rfl rfl rfl rfl ⟨rfl, rfl, rfl, rfl, rfl⟩ rfl rfl rfl rfl rfl (by kernel_rfl) Try.func11 (by kernel_rfl)
    (of_decide_eq_true (by kernel_rfl)) (by unfold Func.isWrapper; rw [if_neg (by decide +kernel)]; exact ⟨rfl, rfl⟩)
    (fun os started H enc _ => nothing_lifted os started H enc)
#print axioms nothing_holds
end Go.Proofs.Ytkmdgnbfojkcnaa
