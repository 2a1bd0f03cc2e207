/- The choice laws' arguments: a chart, whose events' texts aren't too great, and a Move. -/
import Derived.Test.YtkmdgnbfojkcnaaChoQ
import Derived.Test.YtkmdgnbfojkcnaaChoW
import Derived.Test.YtkmdgnbfojkcnaaLatB
import Derived.JoinedCond
import Derived.SizedLaws
set_option linter.all false
namespace Go.Proofs.Ytkmdgnbfojkcnaa
open Go Go.ChangeShapes Go.WideShapes Go.ChangeAt Go.RowKit
theorem sown : ownKnob Try.prog.godebug = none := by kernel_rfl
theorem slaid : laidOutB Try.prog = true := by kernel_rfl
theorem law_split {f : FuncId} (h1 : FnOk Try.prog f (mvC fun c => newB c = true)) (h2 : FnOk Try.prog f (mvC fun c => newB c = false)) : FnOk Try.prog f (mvC EvOk) := by
  refine ⟨fun x F I w hc hr hs => ?_⟩
  cases h : newB x.c with
  | true => exact h1.h x F I w ⟨h, hc.2⟩ hr hs
  | false => exact h2.h x F I w ⟨h, hc.2⟩ hr hs
section
variable {H : Type} {enc : TypeId × Value → H} {W : World} {base : Nat} {spare : Nat → Bool} {held : Bool}
theorem txt_el (n : Nat) (ys : List Value) (y : DataW H × List MemPlace) (_ : ys.length = 1) (h : DataW.trod enc Try.prog W base spare held n 9 ys = some y) (hB : WtOk Try.prog 9 y.1) : ∃ x : ByteArray, StrIn ys x ∧ x.size ≤ 140737488351232 := by
  obtain ⟨s, rfl, rfl, -⟩ := DataW.trod_string Try.underlying9 h
  refine ⟨s, rfl, ?_⟩
  unfold WtOk DataW.weights at hB
  have h10 : s.size ≤ reachBytes := by simpa using hB
  have h11 : reachBytes = 140737488351232 := rfl
  omega
theorem All2.both {α β : Type} {R R' : α → β → Prop} {Q : β → Prop} (hR : ∀ a b, R a b → R' a b ∧ Q b) : ∀ {l : List α} {m : List β}, All2 R l m → All2 R' l m ∧ ∀ b ∈ m, Q b
  | [], [], _ => ⟨trivial, fun b hb => by simp at hb⟩
  | [], _ :: _, h => h.elim
  | _ :: _, [], h => h.elim
  | a :: l, b :: m, h => by
    obtain ⟨h1, h2⟩ := All2.both hR h.2
    obtain ⟨h3, h4⟩ := hR a b h.1
    refine ⟨⟨h3, h1⟩, fun u hu => ?_⟩
    rcases List.mem_cons.1 hu with rfl | hu
    · exact h4
    · exact h2 u hu
theorem SlIn.both {α : Type} {F : Atom} {R R' : List Value → α → Prop} {Q : α → Prop} (hR : ∀ r x, R r x → R' r x ∧ Q x) {k Bw : Nat} {v : Value} {xs : List α} (h : SlIn F R k Bw v xs) : SlIn F R' k Bw v xs ∧ ∀ x ∈ xs, Q x := by
  obtain ⟨a, n, cap, raw, h1, h2, h3, h4, h5, h6, h7, h8, h9⟩ := h
  obtain ⟨g1, g2⟩ := All2.both hR h9
  exact ⟨⟨a, n, cap, raw, h1, h2, h3, h4, h5, h6, h7, h8, g1⟩, g2⟩
theorem tr_el2 (n : Nat) (ys : List Value) (y : DataW H × List MemPlace) (hl : ys.length = 6) (h : DataW.trod enc Try.prog W base spare held n 76 ys = some y) (hB : WtOk Try.prog 76 y.1) : ∃ c : TrD, TrIn (oldA W) ys c ∧ ∀ e ∈ c.events, e.size ≤ 4611686018427387904 := by
  obtain ⟨c, ve, vt, e, h1, h2⟩ := tr_el n ys y hl h hB
  have ht : Try.prog.underlying 76 = some (.struct (fsOf 76)) := by kernel_rfl
  subst e
  obtain ⟨m1, z1, t1, b1⟩ := field1T ht h 1 1 _ 74 (by kernel_rfl : (fsOf 76)[1]? = some ((fsOf 76)[1]'(of_decide_eq_true (by kernel_rfl)))) (by kernel_rfl) (by kernel_rfl) (by kernel_rfl) (show 1 < 6 by decide)
  obtain ⟨xs, hxs⟩ := open_rel (R := fun r (s : ByteArray) => StrIn r s ∧ s.size ≤ 140737488351232) (enc := enc) (W := W) (base := base) (spare := spare) (held := held) (v := ve) (fuel := m1) (by decide : 0 < 1) (te := 9) (Bw := 16) (by kernel_rfl) (by kernel_rfl) (by kernel_rfl) txt_el t1 (b1 hB)
  obtain ⟨g1, g2⟩ := SlIn.both (fun _ _ h => h) hxs
  exact ⟨{ c with events := xs }, ⟨ve, vt, rfl, g1, h2⟩, fun e he => Nat.le_trans (g2 e he) (by decide)⟩
theorem open_chart2 {fuel : Nat} {ys : List Value} {y : DataW H × List MemPlace} (hl : ys.length = 8) (h : DataW.trod enc Try.prog W base spare held fuel 28 ys = some y) (hB : WtOk Try.prog 28 y.1) : ∃ (c : ChD) (v : ChV), ys = c.cells v ∧ ChIn (oldA W) v c ∧ EvOk c := by
  obtain ⟨c, v, e, hch⟩ := open_chart hl h hB
  have ht : Try.prog.underlying 28 = some (.struct (fsOf 28)) := by kernel_rfl
  subst e
  obtain ⟨m4, z4, t4, b4⟩ := field1T ht h 4 4 _ 23 (by kernel_rfl : (fsOf 28)[4]? = some ((fsOf 28)[4]'(of_decide_eq_true (by kernel_rfl)))) (by kernel_rfl) (by kernel_rfl) (by kernel_rfl) (show 4 < 8 by decide)
  obtain ⟨x4, h4⟩ := open_rel (R := fun r (c : TrD) => TrIn (oldA W) r c ∧ ∀ e ∈ c.events, e.size ≤ 4611686018427387904) (enc := enc) (W := W) (base := base) (spare := spare) (held := held) (v := v.vt) (fuel := m4) (by decide : 0 < 6) (te := 76) (Bw := 88) (by kernel_rfl) (by kernel_rfl) (by kernel_rfl) tr_el2 t4 (b4 hB)
  obtain ⟨g1, g2⟩ := SlIn.both (fun _ _ h => h) h4
  exact ⟨{ c with trs := x4 }, v, rfl, ⟨hch.sts, g1, hch.blks, hch.data, hch.invs⟩, g2⟩
end
section
variable {H : Type} {enc : TypeId × Value → H} {W : World}
set_option maxRecDepth 100000 in
theorem chart_arg2 {base : Nat} {v : Value} {d : DataW H} {p : List MemPlace} (hv : Value.okWide Try.prog W .any base 28 v) (h : ∃ fuel, DataW.trod enc Try.prog W 0 (fun _ => true) true fuel 28 v.cells.toList = some (d, p)) (hB : WtOk Try.prog 28 d) :
    ∃ (c : ChD) (w : ChS), v = chAgg c w ∧ ChIn (oldA W) w.v c ∧ EvOk c := by
  obtain ⟨cs, rfl, hcs⟩ := okWide_struct (P := Try.prog) (fs := fsOf 28) (by kernel_rfl) hv
  obtain ⟨fuel, ht⟩ := h
  have h8 : cs.toList.length = 8 := by
    rw [Array.length_toList, hcs]; exact (by kernel_rfl : Try.prog.cellsOf 28 = 8)
  obtain ⟨c, v, hc, hin, hev⟩ := open_chart2 h8 ht hB
  obtain ⟨w, rfl⟩ := hin.chs
  refine ⟨c, w, ?_, hin, hev⟩
  show Value.agg cs = Value.agg _
  congr 1
  exact Array.ext' hc
theorem mem_el (n : Nat) (ys : List Value) (y : DataW H × List MemPlace) (hl : ys.length = 1) (h : DataW.trod enc Try.prog W 0 (fun _ => true) true n 29 ys = some y) (hB : WtOk Try.prog 29 y.1) : ∃ m : List Int, ∃ u, ys = [u] ∧ IntsIn (oldA W) u m := by
  obtain ⟨a, rfl⟩ := list1 hl
  obtain ⟨m, hm⟩ := openInts h hB
  exact ⟨m, a, rfl, hm⟩
set_option maxRecDepth 100000 in
theorem move_arg {base : Nat} {v : Value} {d : DataW H} {p : List MemPlace} (hv : Value.okWide Try.prog W .any base 68 v) (h : ∃ fuel, DataW.trod enc Try.prog W 0 (fun _ => true) true fuel 68 v.cells.toList = some (d, p)) (hB : WtOk Try.prog 68 d) (c : ChD) (w : ChS) (hch : ChIn (oldA W) w.v c) :
    ∃ x : MvX, x.c = c ∧ x.w = w ∧ v = moAgg x ∧ MvOk x ∧ MvIn (oldA W) x := by
  obtain ⟨cs, rfl, hcs⟩ := okWide_struct (P := Try.prog) (fs := fsOf 68) (by kernel_rfl) hv
  obtain ⟨fuel, h⟩ := h
  have h6 : cs.toList.length = 6 := by
    rw [Array.length_toList, hcs]; exact (by kernel_rfl : Try.prog.cellsOf 68 = 6)
  obtain ⟨a0, a1, a2, a3, a4, a5, hl⟩ := list6 h6
  obtain rfl : cs = ⟨[a0, a1, a2, a3, a4, a5]⟩ := Array.ext' hl
  have ht : Try.prog.underlying 68 = some (.struct (fsOf 68)) := by kernel_rfl
  obtain ⟨m0, z0, t0, b0⟩ := field1T ht h 0 0 _ 29 (by kernel_rfl : (fsOf 68)[0]? = some ((fsOf 68)[0]'(of_decide_eq_true (by kernel_rfl)))) (by kernel_rfl) (by kernel_rfl) (by kernel_rfl) (show 0 < 6 by decide)
  obtain ⟨x0, h0⟩ := openInts (enc := enc) (W := W) (v := a0) (fuel := m0) t0 (b0 hB)
  obtain ⟨m1, z1, t1, b1⟩ := field1T ht h 1 1 _ 29 (by kernel_rfl : (fsOf 68)[1]? = some ((fsOf 68)[1]'(of_decide_eq_true (by kernel_rfl)))) (by kernel_rfl) (by kernel_rfl) (by kernel_rfl) (show 1 < 6 by decide)
  obtain ⟨x1, h1⟩ := openInts (enc := enc) (W := W) (v := a1) (fuel := m1) t1 (b1 hB)
  obtain ⟨m2, z2, t2, b2⟩ := field1T ht h 2 2 _ 65 (by kernel_rfl : (fsOf 68)[2]? = some ((fsOf 68)[2]'(of_decide_eq_true (by kernel_rfl)))) (by kernel_rfl) (by kernel_rfl) (by kernel_rfl) (show 2 < 6 by decide)
  obtain ⟨x2, h2⟩ := open_rel (R := fun r (m : List Int) => ∃ u, r = [u] ∧ IntsIn (oldA W) u m) (enc := enc) (W := W) (v := a2) (fuel := m2) (by decide : 0 < 1) (te := 29) (Bw := 24) (by kernel_rfl) (by kernel_rfl) (by kernel_rfl) mem_el t2 (b2 hB)
  obtain ⟨x3, e3, -⟩ := fieldS ht h 3 3 _ (by kernel_rfl : (fsOf 68)[3]? = some ((fsOf 68)[3]'(of_decide_eq_true (by kernel_rfl)))) (by kernel_rfl) (by kernel_rfl) (by kernel_rfl) (show 3 < 6 by decide)
  have e3 : a3 = .string x3 := e3
  obtain ⟨x4, e4⟩ := fieldB ht h 4 4 _ (by kernel_rfl : (fsOf 68)[4]? = some ((fsOf 68)[4]'(of_decide_eq_true (by kernel_rfl)))) (by kernel_rfl) (by kernel_rfl) (by kernel_rfl) (show 4 < 6 by decide)
  have e4 : a4 = .bool x4 := e4
  obtain ⟨m5, z5, t5, b5⟩ := field1T ht h 5 5 _ 66 (by kernel_rfl : (fsOf 68)[5]? = some ((fsOf 68)[5]'(of_decide_eq_true (by kernel_rfl)))) (by kernel_rfl) (by kernel_rfl) (by kernel_rfl) (show 5 < 6 by decide)
  obtain ⟨x5, h5⟩ := open_rel (R := fun _ (_ : Unit) => True) (enc := enc) (W := W) (v := a5) (fuel := m5) (by decide : 0 < 1) (te := 4) (Bw := 1) (by kernel_rfl) (by kernel_rfl) (by kernel_rfl) (fun _ _ _ _ _ _ => ⟨(), trivial⟩) t5 (b5 hB)
  obtain ⟨g, rfl⟩ := SlIn.sl h0
  obtain ⟨s, rfl⟩ := SlIn.sl h1
  obtain ⟨m, rfl⟩ := SlIn.sl h2
  obtain ⟨hs, rfl⟩ := SlIn.sl h5
  obtain ⟨p1, p2, p3, -, -⟩ := IntsIn.srcd h0
  obtain ⟨q1, q2, q3, -, -⟩ := IntsIn.srcd h1
  subst e3 e4
  exact ⟨⟨c, w, g, x0, s, x1, m, x2, x3, x4, hs⟩, rfl, rfl, rfl, ⟨p1, p3, q1, q3⟩, ⟨hch, p2, q2, h2⟩⟩
set_option maxRecDepth 100000 in
theorem chart_move {base : Nat} {args : Array Value} {ds : List (DataW H)} {p : List MemPlace} (hval : ∀ (j : Nat) t v, ([28, 68] : List TypeId)[j]? = some t → args[j]? = some v → Value.okWide Try.prog W .any base t v)
    (hA : DataW.TrodAll enc Try.prog W 0 (fun _ => true) true [28, 68] args.toList ds p) (hk : (DataW.weightsEach Try.prog [28, 68] ds).all (· ≤ reachBytes) = true) :
    ∃ (x : MvX) (d0 d1 : DataW H), ds = [d0, d1] ∧ args.toList = (mvC EvOk).args x ∧ (mvC EvOk).cond x ∧ (mvC EvOk).rdc x (oldA W) := by
  obtain ⟨v0, vs0, d0, ds0, p0, q0, hargs, rfl, rfl, h0, r0⟩ := trodAll_cons hA
  obtain ⟨v1, vs1, d1, ds1, p1, q1, rfl, rfl, rfl, h1, r1⟩ := trodAll_cons r0
  obtain ⟨rfl, rfl, rfl⟩ := trodAll_nil r1
  have a0 : args[0]? = some v0 := by rw [← Array.getElem?_toList, hargs]; rfl
  have a1 : args[1]? = some v1 := by rw [← Array.getElem?_toList, hargs]; rfl
  obtain ⟨c, w, rfl, hin, hev⟩ := chart_arg2 (hval 0 _ _ rfl a0) h0 (wt_at 0 rfl rfl hk)
  obtain ⟨x, rfl, rfl, rfl, g1, g2⟩ := move_arg (hval 1 _ _ rfl a1) h1 (wt_at 1 rfl rfl hk) c w hin
  exact ⟨x, d0, d1, rfl, hargs, ⟨hev, g1⟩, g2⟩
end
end Go.Proofs.Ytkmdgnbfojkcnaa
