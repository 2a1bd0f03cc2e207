/- The laws of a lattice: their arguments. -/
import Derived.Test.YtfmadkaiigiaiaaLatQ
import Derived.Test.YtfmadkaiigiaiaaLatB
import Derived.JoinedCond
import Derived.SizedLaws
set_option linter.all false
namespace Go.Proofs.Ytfmadkaiigiaiaa
open Go Go.ChangeShapes Go.WideShapes Go.ChangeAt Go.RowKit
theorem sown : ownKnob Try.prog.godebug = none := by kernel_rfl
theorem slaid : laidOutB Try.prog = true := by kernel_rfl
section
variable {H : Type} {enc : TypeId × Value → H} {W : World}
set_option maxRecDepth 100000 in
theorem chart_arg {base : Nat} {v : Value} {d : DataW H} {p : List MemPlace} (hv : Value.okWide Try.prog W .any base 28 v) (h : ∃ fuel, DataW.trod enc Try.prog W 0 (fun _ => true) true fuel 28 v.cells.toList = some (d, p)) (hB : WtOk Try.prog 28 d) :
    ∃ (c : ChD) (w : ChS), v = .agg #[.string c.name, .bool c.late, .int .i64 c.script, .slice w.vs.a w.vs.n w.vs.cap, .slice w.vt.a w.vt.n w.vt.cap, .slice w.vb.a w.vb.n w.vb.cap, .slice w.vd.a w.vd.n w.vd.cap, .slice w.vi.a w.vi.n w.vi.cap] ∧ ChIn (oldA W) w.v c := by
  obtain ⟨cs, rfl, hcs⟩ := okWide_struct (P := Try.prog) (fs := fsOf 28) (by kernel_rfl) hv
  obtain ⟨fuel, ht⟩ := h
  have h8 : cs.toList.length = 8 := by
    rw [Array.length_toList, hcs]; exact (by kernel_rfl : Try.prog.cellsOf 28 = 8)
  obtain ⟨c, v, hc, hin⟩ := open_chart h8 ht hB
  obtain ⟨w, rfl⟩ := hin.chs
  refine ⟨c, w, ?_, hin⟩
  congr 1
  exact Array.ext' hc
set_option maxRecDepth 100000 in
theorem ints_arg {base : Nat} {v : Value} {d : DataW H} {p : List MemPlace} (hv : Value.okWide Try.prog W .any base 29 v) (h : ∃ fuel, DataW.trod enc Try.prog W 0 (fun _ => true) true fuel 29 v.cells.toList = some (d, p)) (hB : WtOk Try.prog 29 d) :
    ∃ (a : Option Addr) (n cap : Nat) (xs : List Int), v = .slice a n cap ∧ IsSrc 1 (ints xs) a n ∧ Srcd (oldA W) a (ints xs) ∧ n * 8 ≤ 140737488351232 := by
  obtain ⟨a, n, cap, rfl⟩ := okWide_slice (P := Try.prog) (t := 29) (e := 3) (by kernel_rfl) hv
  obtain ⟨fuel, ht⟩ := h
  obtain ⟨xs, hxs⟩ := openInts ht hB
  obtain ⟨h1, h2, h3, -, -⟩ := IntsIn.srcd hxs
  exact ⟨a, n, cap, xs, rfl, h1, h2, h3⟩
set_option maxRecDepth 100000 in
theorem chart_ints {base : Nat} {args : Array Value} {ds : List (DataW H)} {p : List MemPlace} (hval : ∀ (j : Nat) t v, ([28, 29] : List TypeId)[j]? = some t → args[j]? = some v → Value.okWide Try.prog W .any base t v)
    (hA : DataW.TrodAll enc Try.prog W 0 (fun _ => true) true [28, 29] args.toList ds p) (hk : (DataW.weightsEach Try.prog [28, 29] ds).all (· ≤ reachBytes) = true) :
    ∃ (x : LawX) (d0 d1 : DataW H), ds = [d0, d1] ∧ args.toList = (lawC fun _ => True).args x ∧ (lawC fun _ => True).cond x ∧ (lawC fun _ => True).rdc x (oldA W) := by
  obtain ⟨v0, vs0, d0, ds0, p0, q0, hargs, rfl, rfl, h0, r0⟩ := trodAll_cons hA
  obtain ⟨v1, vs1, d1, ds1, p1, q1, rfl, rfl, rfl, h1, r1⟩ := trodAll_cons r0
  obtain ⟨rfl, rfl, rfl⟩ := trodAll_nil r1
  have a0 : args[0]? = some v0 := by rw [← Array.getElem?_toList, hargs]; rfl
  have a1 : args[1]? = some v1 := by rw [← Array.getElem?_toList, hargs]; rfl
  obtain ⟨c, w, rfl, hin⟩ := chart_arg (hval 0 _ _ rfl a0) h0 (wt_at 0 rfl rfl hk)
  obtain ⟨a, n, cap, xs, rfl, g1, g2, g3⟩ := ints_arg (hval 1 _ _ rfl a1) h1 (wt_at 1 rfl rfl hk)
  exact ⟨⟨c, w, a, n, cap, xs⟩, d0, d1, rfl, hargs, ⟨trivial, g1, g3⟩, ⟨hin, g2⟩⟩
end
end Go.Proofs.Ytfmadkaiigiaiaa
