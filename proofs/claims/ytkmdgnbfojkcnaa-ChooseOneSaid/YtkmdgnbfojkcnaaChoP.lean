/- Which transitions are taken: Resolve. -/
import Derived.Test.YtkmdgnbfojkcnaaChoO
set_option linter.all false
namespace Go.Proofs.Ytkmdgnbfojkcnaa
open Go
set_option maxHeartbeats 1000000
def cfl (c : ChD) (mem : List (List Int)) (cf : List Int) (t k : Int) : Bool := (exV c mem cf [t]).any fun s => memB (exV c mem cf [k]) s
def bad (c : ChD) (mem : List (List Int)) (cf : List Int) (t k : Int) : Bool := cfl c mem cf t k && !inB c (srcT c t) (srcT c k)
def rsK (c : ChD) (mem : List (List Int)) (cf : List Int) (kept : List Int) (t : Int) : List Int := bif kept.any (bad c mem cf t) then kept else kept.filter (fun k => !cfl c mem cf t k) ++ [t]
def rsS (c : ChD) (mem : List (List Int)) (cf : List Int) (st : List Int × List Int) (t : Int) : List Int × List Int := bif memB st.1 t || !isT c t then st else (st.1 ++ [t], rsK c mem cf st.2 t)
def resS (c : ChD) (mem : List (List Int)) (cf : List Int) (ts : List Int) : List Int × List Int := ts.foldl (rsS c mem cf) ([], [])
def resV (c : ChD) (mem : List (List Int)) (cf : List Int) (ts : List Int) : List Int := (resS c mem cf ts).2
theorem resS_take {c : ChD} {mem : List (List Int)} {cf ts : List Int} {j : Nat} {t : Int} (h : ts[j]? = some t) : resS c mem cf (ts.take (j + 1)) = rsS c mem cf (resS c mem cf (ts.take j)) t := by
  unfold resS
  rw [List.take_add_one, h, List.foldl_append]; rfl
/-- What is kept is seen, and what is seen is a transition. -/
theorem resS_ok (c : ChD) (mem : List (List Int)) (cf : List Int) : ∀ (ts : List Int) (st : List Int × List Int), (∀ k ∈ st.2, k ∈ st.1) ∧ (∀ k ∈ st.1, isT c k = true) → (∀ k ∈ (ts.foldl (rsS c mem cf) st).2, k ∈ (ts.foldl (rsS c mem cf) st).1) ∧ (∀ k ∈ (ts.foldl (rsS c mem cf) st).1, isT c k = true)
  | [], _, h => h
  | t :: ts, st, h => resS_ok c mem cf ts _ (by
      unfold rsS
      cases hc : (memB st.1 t || !isT c t) with
      | true => exact h
      | false =>
        rw [cond_false]
        simp only [Bool.or_eq_false_iff, Bool.not_eq_false'] at hc
        refine ⟨fun k hk => ?_, fun k hk => ?_⟩
        · dsimp only at hk ⊢
          unfold rsK at hk
          cases hb : st.2.any (bad c mem cf t) with
          | true => rw [hb] at hk; exact List.mem_append_left _ (h.1 k hk)
          | false =>
            rw [hb, cond_false] at hk
            rcases List.mem_append.1 hk with hk | hk
            · exact List.mem_append_left _ (h.1 k (List.mem_filter.1 hk).1)
            · exact List.mem_append_right _ hk
        · dsimp only at hk
          rcases List.mem_append.1 hk with hk | hk
          · exact h.2 k hk
          · rw [List.mem_singleton] at hk
            rw [hk]; exact hc.2)
theorem rsS_len (c : ChD) (mem : List (List Int)) (cf : List Int) (st : List Int × List Int) (t : Int) : (rsS c mem cf st t).2.length ≤ st.2.length + 1 := by
  unfold rsS
  cases (memB st.1 t || !isT c t) with
  | true => exact Nat.le_succ _
  | false =>
    rw [cond_false]
    dsimp only
    unfold rsK
    cases st.2.any (bad c mem cf t) with
    | true => exact Nat.le_succ _
    | false =>
      rw [cond_false, List.length_append]
      have := List.length_filter_le (fun k => !cfl c mem cf t k) st.2
      simp; omega
theorem resS_len (c : ChD) (mem : List (List Int)) (cf : List Int) : ∀ (ts : List Int) (st : List Int × List Int), (ts.foldl (rsS c mem cf) st).2.length ≤ st.2.length + ts.length
  | [], _ => Nat.le_refl _
  | t :: ts, st => by
    have h1 := resS_len c mem cf ts (rsS c mem cf st t)
    have h2 := rsS_len c mem cf st t
    rw [List.foldl_cons, List.length_cons]; omega
/-- The lists that are kept, each but for its order. -/
structure ExsR (c : ChD) (mem : List (List Int)) (cf : List Int) (m : List (Int × List Int)) (seen : List Int) : Prop where
  keys : keysOf m = seen
  vals : ∀ p ∈ m, p.2.Perm (exV c mem cf [p.1])
theorem get_in {α : Type} {m : List (Int × α)} {k : Int} (h : k ∈ keysOf m) : ∃ v, getK m k = some v ∧ (k, v) ∈ m := by
  unfold getK
  rcases fk_spec k m 0 with ⟨h1, h2⟩ | ⟨j, v, h1, h2, h3⟩
  · obtain ⟨p, hp, e⟩ := List.mem_map.1 h
    exact absurd e (h2 p hp)
  · rw [h1]; exact ⟨v, rfl, List.mem_of_getElem? h2⟩
theorem get_none {α : Type} {m : List (Int × α)} {k : Int} (h : k ∉ keysOf m) : getK m k = none := by
  unfold getK
  rcases fk_spec k m 0 with ⟨h1, h2⟩ | ⟨j, v, h1, h2, h3⟩
  · rw [h1]; rfl
  · exact absurd (List.mem_map.2 ⟨_, List.mem_of_getElem? h2, rfl⟩) h
theorem get_some {α : Type} (m : List (Int × α)) (k : Int) : (getK m k).isSome = memB (keysOf m) k := by
  by_cases h : k ∈ keysOf m
  · obtain ⟨v, h1, -⟩ := get_in h
    rw [h1, memB_iff.2 h]; rfl
  · rw [get_none h]
    cases hm : memB (keysOf m) k with
    | false => rfl
    | true => exact absurd (memB_iff.1 hm) h
theorem ExsR.get {c : ChD} {mem : List (List Int)} {cf : List Int} {m : List (Int × List Int)} {seen : List Int} (h : ExsR c mem cf m seen) {k : Int} (hk : k ∈ seen) : ((getK m k).getD []).Perm (exV c mem cf [k]) := by
  rw [← h.keys] at hk
  obtain ⟨v, h1, h2⟩ := get_in hk
  rw [h1]
  exact h.vals _ h2
theorem memB_perm {l m : List Int} (h : l.Perm m) (k : Int) : memB l k = memB m k := by
  rw [Bool.eq_iff_iff, memB_iff, memB_iff]; exact h.mem_iff
theorem any_perm {l m : List Int} (h : l.Perm m) (f : Int → Bool) : l.any f = m.any f := by
  rw [Bool.eq_iff_iff, List.any_eq_true, List.any_eq_true]
  exact ⟨fun ⟨x, h1, h2⟩ => ⟨x, h.mem_iff.1 h1, h2⟩, fun ⟨x, h1, h2⟩ => ⟨x, h.mem_iff.2 h1, h2⟩⟩
theorem ExsR.cfl {c : ChD} {mem : List (List Int)} {cf : List Int} {m : List (Int × List Int)} {seen : List Int} (h : ExsR c mem cf m seen) {t k : Int} (ht : t ∈ seen) (hk : k ∈ seen) : (((getK m t).getD []).any fun s => memB ((getK m k).getD []) s) = Go.Proofs.Ytkmdgnbfojkcnaa.cfl c mem cf t k := by
  unfold Go.Proofs.Ytkmdgnbfojkcnaa.cfl
  rw [any_perm (h.get ht)]
  congr 1
  funext s
  exact memB_perm (h.get hk) s
/-- A lattice's chart, as the value that Chart gives, and its transitions' sources. -/
structure ResW (F : Atom) (b : Nat) (c : ChD) (w : ChS) : Prop where
  cells : ∀ j u, (chS c w)[j]? = some u → Look F ⟨b, j, none⟩ u
  n : w.vt.n = c.trs.length
  src : ∀ i, i < c.trs.length → ∃ b0 o0, w.vt.a = some ⟨b0, o0, none⟩ ∧ Look F ⟨b0, o0 + i * 6, none⟩ (.int .i64 (srcT c i))
theorem res_w {F : Atom} {b : Nat} {c : ChD} (h : LatIn F b c) : ∃ w : ChS, ResW F b c w ∧ c.trs.length * 88 ≤ 140737488351232 := by
  obtain ⟨w, hw, hch⟩ := h.chs
  obtain ⟨⟨va, vn, vcap⟩, ⟨ta, tn, tc⟩, wb, wd, wi⟩ := w
  have h2 := hch.trs
  dsimp only [ChS.v] at h2
  obtain ⟨m1, m2, m3⟩ := h2.num
  refine ⟨⟨⟨va, vn, vcap⟩, ⟨ta, tn, tc⟩, wb, wd, wi⟩, ⟨hw, m1, fun i hi => ?_⟩, by omega⟩
  obtain ⟨t, ht⟩ : ∃ t, c.trs[i]? = some t := ⟨_, List.getElem?_eq_getElem hi⟩
  obtain ⟨b0, o0, r, rfl, ⟨ve, vt, rfl, p1, p2⟩, hL⟩ := h2.at' ht
  have e : srcT c i = t.source := by unfold srcT; rw [Int.toNat_natCast, ht]; rfl
  exact ⟨b0, o0, rfl, by rw [e]; exact hL 0 _ rfl⟩
theorem isT_spec {c : ChD} {t : Int} (h : isT c t = true) : ∃ q : Nat, t = q ∧ q < c.trs.length := by
  unfold isT at h
  simp only [Bool.and_eq_true, decide_eq_true_eq] at h
  exact ⟨t.toNat, by omega, by omega⟩
/-- Resolve$1: is a state left by the other one too? -/
structure Rs1X where
  c1 : Nat
  c2 : Nat
  b : Nat
  m : List (Int × List Int)
  k : Int
  s : Int
def rs1C : Con where
  X := Rs1X
  Y := Unit
  args x := [.int .i64 x.s, .pointer (some ⟨x.c1, 0, none⟩), .pointer (some ⟨x.c2, 0, none⟩)]
  pre _ := []
  cond _ := True
  rdc x F := Look F ⟨x.c1, 0, none⟩ (.map (some x.b)) ∧ Look F ⟨x.c2, 0, none⟩ (.int .i64 x.k) ∧ Sub (exA x.b x.m) F
  rel _ _ := True
  val x _ := .returned (.bool (memB ((getK x.m x.k).getD []) x.s))
  post _ _ := []
  rmono _ _ _ h hk := ⟨hk.1.sub h, hk.2.1.sub h, fun I h' o hB => by
    obtain ⟨o', hA⟩ := h I h' o hB
    exact hk.2.2 I h' o' hA⟩
theorem Sub.trans {A B C : Atom} (h : Sub A B) (k : Sub B C) : Sub A C := fun I h' o hC => by
  obtain ⟨o', hB⟩ := k I h' o hC
  exact h I h' o' hB
def rs1Ov (x : Rs1X) (_F : Atom) : List (Nat × Nat × OH) := [(1, 0, .q [.ex 0 (.is (.map (some x.b)))]), (1, 1, .q [.ex 0 (.is (.int .i64 x.k))]), (1, 2, .o (lxC false) [] [2020]), (1, 4, .c coC' [] [])]
noncomputable def rs1_H (x : Con.X rs1C) (F : Atom) : Hints where
  op := hk ((rs1Ov x F) ++ [])
  inv := (fun _ _ _ => none) x F
  cut := (fun _ _ _ => none) x F
  ord := (fun _ => [])
open Go.Value (int slice string bool pointer agg tuple func) in
open Go.IntKind (i64) in
set_option maxRecDepth 100000 in
theorem rs1_vc (x : Rs1X) (F : Atom) (hc : Con.cond rs1C x) (hr : Con.rdc rs1C x F) :
  Look F ⟨x.c1, 0, none⟩ (Value.map (some x.b)) ∧
 Look F ⟨x.c2, 0, none⟩ (int i64 x.k) ∧
 OpOk Try.prog { dst := some 7, op := Op.lookup 116 (Operand.tmp 5) (Operand.tmp 6) false, type := 29, pos := "choose.go:66", after := { toList := [{ on := 0, ground := Ground.data }, { on := 1, ground := Ground.data }] }, guard := none } (lxC false) ∧
 true = true ∧ ∃ (x_1 : LxX), [Value.map (some x.b), int i64 x.k] = [Value.map (some x_1.b), int i64 x_1.k] ∧ ([] : List Atom) = [] ∧ True ∧ Sub (Atom.pred (Ex.rest x_1.b x_1.m)) (Atom.pred (rest [(0, F)] [])) ∧ ∀ (y : Sl), IsSrc 1 (ints ((getK x_1.m x_1.k).getD [])) y.a y.n ∧ y.n * 8 ≤ 140737488351232 → FnOk Try.prog 66 coC' ∧ true = true ∧ ∃ (x_2 : InX), [slice y.a y.n y.cap, int i64 x.s] = [slice x_2.a x_2.n x_2.cap, int i64 x_2.v] ∧ ([] : List Atom) = [] ∧ (IsSrc 1 (ints x_2.xs) x_2.a x_2.n ∧ x_2.n * 8 ≤ 140737488351232) ∧ Srcd (Atom.pred (rest [(0, F), (2020, Atom.pred (Fz.rest (slice y.a y.n y.cap) ((getK x_1.m x_1.k).getD [])))] [])) x_2.a (ints x_2.xs) ∧ ∀ (y_1 : Unit), True → Done rs1C x F (Ending.returned (bool (memB x_2.xs x_2.v))) [(0, F), (2020, Atom.pred (Fz.rest (slice y.a y.n y.cap) ((getK x_1.m x_1.k).getD [])))] := by
  obtain ⟨c1, c2, b, m, k, s⟩ := x
  obtain ⟨r1, r2, hr⟩ := hr
  exact ⟨r1, r2, lx_ok false rfl Try.underlying116 Try.underlying3 rfl rfl, rfl, ⟨b, m, k⟩, rfl, rfl, trivial, Sub.trans hr (sub_rest 0 (by simp) rfl), fun y hy => ⟨con_ok, rfl, ⟨y.a, y.n, y.cap, _, s⟩, rfl, rfl, hy, Srcd.sub (sub_rest 2020 (by simp) rfl) fzA_srcd, fun _ _ => ⟨(), trivial, rfl, Ent.pick [0] rfl rfl⟩⟩⟩
set_option maxRecDepth 100000 in
theorem rs1_ok : FnOk Try.prog 80 rs1C :=
  fnOk (N := 10) (by kernel_rfl) Try.func80 rfl (by kernel_rfl) (fun _ => Nat.le_of_ble_eq_true rfl) rs1_H [] fun x F hc hr => Eq.mpr (by kernel_rfl) (rs1_vc x F hc hr)
noncomputable def ixx_H (x : Con.X (ixC 80 2)) (F : Atom) : Hints where
  op := hk (((@ixOv 80 2) x F) ++ [])
  inv := (@ixInv 80 2) x F
  cut := (fun _ _ _ => none) x F
  ord := (fun _ => [])
open Go.Value (int slice string bool pointer agg tuple func) in
open Go.IntKind (i64) in
set_option maxRecDepth 100000 in
theorem ixx_vc (x : IxX (80 : FuncId) (2 : Nat)) (F : Atom) (hc : Con.cond (ixC 80 2) x) (hr : Con.rdc (ixC 80 2) x F) :
  (∃ (x_1 : Nat), (x_1 ≤ x.n ∧ fixV x.L.g x.xs 0 = fixV x.L.g (List.drop x_1 x.xs) x_1) ∧ (slice x.a x.n x.cap = slice x.a x.n x.cap ∧ func (Fn.func 80) { toList := [] } { toList := [pointer (some ⟨x.L.c1, 0, none⟩), pointer (some ⟨x.L.c2, 0, none⟩)] } = func (Fn.func 80) { toList := [] } { toList := [pointer (some ⟨x.L.c1, 0, none⟩), pointer (some ⟨x.L.c2, 0, none⟩)] } ∧ int i64 (↑x.n : Int) = int i64 (↑x.n : Int) ∧ int i64 (0 : Int) = int i64 (↑x_1 : Int) ∧ True) ∧ Ent [(0, F)] [(0, F)]) ∧
 ∀ (x_1 : Nat) (js : Nat → Value),
 x_1 ≤ x.n ∧ fixV x.L.g x.xs 0 = fixV x.L.g (List.drop x_1 x.xs) x_1 →
 Br (decide ((↑x_1 : Int) < (↑x.n : Int)))
 (QOpOk Try.prog (opIn Try.f102 4 3) (ixQ 1) ∧
 ∃ (x_2 : IxQX),
 [slice x.a x.n x.cap, int i64 (↑x_1 : Int)] = [slice (some ⟨x_2.b, x_2.o, none⟩) x_2.len x_2.cap, int i64 x_2.n] ∧
 ((0 : Int) ≤ x_2.n ∧ x_2.n < (↑x_2.len : Int)) ∧
 ∃ (n : Int),
 Look F ⟨x_2.b, x_2.o + x_2.n.toNat * 1, none⟩ (int i64 n) ∧
 FnOk Try.prog 80 x.L.con ∧
 true = true ∧
 ∃ (x_3 : Int),
 [int i64 n, pointer (some ⟨x.L.c1, 0, none⟩), pointer (some ⟨x.L.c2, 0, none⟩)] = [int i64 x_3, pointer (some ⟨x.L.c1, 0, none⟩), pointer (some ⟨x.L.c2, 0, none⟩)] ∧
 ([] : List Atom) = [] ∧
 x.L.ok x_3 ∧
 x.L.7 (Atom.pred (rest [(0, F)] [])) ∧
 ∀ (y : Unit),
 True →
 Br (x.L.g x_3) (Done (ixC (80 : FuncId) 2) x F (Ending.returned (int i64 (↑x_1 : Int))) [(0, F)])
 (((-9223372036854775808 : Int) ≤ (↑x_1 : Int) + (1 : Int) ∧ (↑x_1 : Int) + (1 : Int) ≤ (9223372036854775807 : Int)) ∧ ∃ (y : Nat), (y ≤ x.n ∧ fixV x.L.g x.xs 0 = fixV x.L.g (List.drop y x.xs) y) ∧ (slice x.a x.n x.cap = slice x.a x.n x.cap ∧ func (Fn.func 80) { toList := [] } { toList := [pointer (some ⟨x.L.c1, 0, none⟩), pointer (some ⟨x.L.c2, 0, none⟩)] } = func (Fn.func 80) { toList := [] } { toList := [pointer (some ⟨x.L.c1, 0, none⟩), pointer (some ⟨x.L.c2, 0, none⟩)] } ∧ int i64 (↑x.n : Int) = int i64 (↑x.n : Int) ∧ int i64 ((↑x_1 : Int) + (1 : Int)) = int i64 (↑y : Int) ∧ True) ∧ Ent [(0, F)] [(0, F)] ∧ x.n - y < x.n - x_1))
 (Done (ixC (80 : FuncId) 2) x F (Ending.returned (int i64 (-1 : Int))) [(0, F)]) := by
  obtain ⟨L, a, n, cap, xs⟩ := x
  obtain ⟨hsrc, hle, hok⟩ := hc
  obtain ⟨hr1, hr2⟩ := hr
  dsimp only at hsrc hle hok hr1 hr2
  have hlen : xs.length = n := by have := hsrc.len; rw [ints_length] at this; omega
  refine ⟨⟨0, ⟨Nat.zero_le _, rfl⟩, ⟨rfl, rfl, rfl, rfl, trivial⟩, Ent.pick [0] rfl rfl⟩, ?_⟩
  rintro k js ⟨h1, h2⟩
  dsimp only at h1 h2 ⊢
  refine br_decide (fun hlt => ?_) (fun hge => ?_)
  · obtain ⟨b1, o1, rfl⟩ := hsrc.some (by omega)
    obtain ⟨u, hu⟩ : ∃ u, xs[k]? = some u := ⟨_, List.getElem?_eq_getElem (by omega)⟩
    have e1 : o1 + (k : Int).toNat * 1 = o1 + k := by omega
    rw [drop_get hu, fixV] at h2
    refine ⟨ixq_ok 1 rfl rfl rfl rfl, ⟨b1, o1, n, cap, k⟩, rfl, by dsimp only; omega, u, by dsimp only; rw [e1]; exact hr1.look (ints_get hu), L.good, rfl, u, rfl, rfl, hok u (List.mem_of_getElem? hu), L.mono _ _ (sub_rest 0 (by simp) rfl) hr2, fun _ _ => br_intro (fun hg => ⟨(), trivial, retI ?_, Ent.pick [0] rfl rfl⟩) (fun hg => ⟨by omega, k + 1, ⟨by omega, ?_⟩, ⟨rfl, rfl, rfl, rfl, trivial⟩, Ent.pick [0] rfl rfl, by omega⟩)⟩
    · rw [h2, hg]; rfl
    · rw [h2, hg]; rfl
  · rw [List.drop_eq_nil_of_le (by omega)] at h2
    exact ⟨(), trivial, retI h2.symm, Ent.pick [0] rfl rfl⟩
set_option maxRecDepth 100000 in
theorem ixx_ok : FnOk Try.prog 102 (ixC 80 2) :=
  fnOk (N := 19) (by kernel_rfl) Try.func102 rfl (by kernel_rfl) (fun _ => Nat.le_of_ble_eq_true rfl) ixx_H [] fun x F hc hr => Eq.mpr (by kernel_rfl) (ixx_vc x F hc hr)
noncomputable def cfx_H (x : Con.X (cfC 80 2)) (F : Atom) : Hints where
  op := hk (((@cfOv 80 2) x F) ++ [])
  inv := (fun _ _ _ => none) x F
  cut := (fun _ _ _ => none) x F
  ord := (fun _ => [])
open Go.Value (int slice string bool pointer agg tuple func) in
open Go.IntKind (i64) in
set_option maxRecDepth 100000 in
theorem cfx_vc (x : IxX (80 : FuncId) (2 : Nat)) (F : Atom) (hc : Con.cond (cfC 80 2) x) (hr : Con.rdc (cfC 80 2) x F) :
  FnOk Try.prog 102 (ixC (80 : FuncId) 2) ∧ true = true ∧ ∃ (x_1 : IxX (80 : FuncId) 2), [slice x.a x.n x.cap, func (Fn.func 80) { toList := [] } { toList := [pointer (some ⟨x.L.c1, 0, none⟩), pointer (some ⟨x.L.c2, 0, none⟩)] }] = [slice x_1.a x_1.n x_1.cap, func (Fn.func 80) { toList := [] } { toList := [pointer (some ⟨x_1.L.c1, 0, none⟩), pointer (some ⟨x_1.L.c2, 0, none⟩)] }] ∧ ([] : List Atom) = [] ∧ (IsSrc 1 (ints x_1.xs) x_1.a x_1.n ∧ x_1.n * 8 ≤ 140737488351232 ∧ ∀ (u : Int), u ∈ x_1.xs → x_1.L.ok u) ∧ (Srcd (Atom.pred (rest [(0, F)] [])) x_1.a (ints x_1.xs) ∧ x_1.L.7 (Atom.pred (rest [(0, F)] []))) ∧ ∀ (y : Unit), True → Done (cfC (80 : FuncId) 2) x F (Ending.returned (bool (decide (fixV x_1.L.g x_1.xs 0 ≥ (0 : Int))))) [(0, F)] := by
  have s : Sub F (.pred (rest [(0, F)] [])) := sub_rest 0 (by simp) rfl
  exact ⟨ixx_ok, rfl, ⟨x.L, x.a, x.n, x.cap, x.xs⟩, rfl, rfl, hc, ⟨hr.1.sub s, x.L.mono _ _ s hr.2⟩, fun _ _ => ⟨(), trivial, retB (fixV_any _ _ 0), Ent.pick [0] rfl rfl⟩⟩
set_option maxRecDepth 100000 in
theorem cfx_ok : FnOk Try.prog 62 (cfC 80 2) :=
  fnOk (N := 9) (by kernel_rfl) Try.func62 rfl (by kernel_rfl) (fun _ => Nat.le_of_ble_eq_true rfl) cfx_H [] fun x F hc hr => Eq.mpr (by kernel_rfl) (cfx_vc x F hc hr)
def resC : Con where
  X := ExX
  Y := Row
  args x := [.pointer (some ⟨x.b, 0, none⟩), .slice x.g.a x.g.n x.g.cap, .slice x.m.a x.m.n x.m.cap, .slice x.s.a x.s.n x.s.cap]
  pre _ := []
  cond x := newB x.c = true ∧ (IsSrc 1 (ints x.cf) x.g.a x.g.n ∧ x.g.n * 8 ≤ 140737488351232) ∧ IsSrc 1 (ints x.ts) x.s.a x.s.n ∧ x.s.n * 8 ≤ 140737488351232
  rdc x F := LatIn F x.b x.c ∧ Srcd F x.g.a (ints x.cf) ∧ MemIn F (.slice x.m.a x.m.n x.m.cap) x.mem ∧ Srcd F x.s.a (ints x.ts)
  rel x y := IsRow 3 1 (ints (resV x.c x.mem x.cf x.ts)) y
  val _ y := .returned (.slice y.a y.n y.cap)
  post _ y := [y.A]
  rmono _ _ _ h hk := ⟨hk.1.sub h, hk.2.1.sub h, hk.2.2.1.sub h, hk.2.2.2.sub h⟩
structure RsI where
  j : Nat
  w : ChS
  bc : Nat
  be : Nat
  bm : Nat
  m : List (Int × List Int)
  r : Row
  i : Nat
  t : Int
  bg : Nat
  g : Row
structure RsP (x : ExX) (F : Atom) (i : RsI) : Prop where
  le : i.j ≤ x.ts.length
  w : ResW F x.b x.c i.w
  exs : ExsR x.c x.mem x.cf i.m (resS x.c x.mem x.cf (x.ts.take i.j)).1
  row : IsRow 3 1 (ints (resS x.c x.mem x.cf (x.ts.take i.j)).2) i.r
structure RsQ (x : ExX) (F : Atom) (i : RsI) : Prop where
  lt : i.j < x.ts.length
  t : x.ts[i.j]? = some i.t
  new : memB (resS x.c x.mem x.cf (x.ts.take i.j)).1 i.t = false
  isT : isT x.c i.t = true
  w : ResW F x.b x.c i.w
  exs : ExsR x.c x.mem x.cf i.m ((resS x.c x.mem x.cf (x.ts.take i.j)).1 ++ [i.t])
  row : IsRow 3 1 (ints (resS x.c x.mem x.cf (x.ts.take i.j)).2) i.r
  le : i.i ≤ (resS x.c x.mem x.cf (x.ts.take i.j)).2.length
  ok : ((resS x.c x.mem x.cf (x.ts.take i.j)).2.take i.i).any (bad x.c x.mem x.cf i.t) = false
  gone : IsRow 3 1 (ints (((resS x.c x.mem x.cf (x.ts.take i.j)).2.take i.i).filter (cfl x.c x.mem x.cf i.t))) i.g
def rsInv (x : ExX) (F : Atom) : Nat → Option Inv := fun
  | 0 => some { X := RsI, P := fun i => RsP x F i, mu := fun i => x.ts.length - i.j, lv := fun i => [(0, .pointer (some ⟨x.b, 0, none⟩)), (1, .slice x.g.a x.g.n x.g.cap), (2, .slice x.m.a x.m.n x.m.cap), (9, .pointer (some ⟨i.bc, 0, none⟩)), (10, .slice i.r.a i.r.n i.r.cap), (11, .pointer (some ⟨i.be, 0, none⟩)), (23, .slice x.s.a x.s.n x.s.cap), (24, .int .i64 x.s.n), (25, .int .i64 i.j)], st := fun i => [.cells i.bc (chS x.c i.w) 28, .cells i.be [.map (some i.bm)] 116, exA i.bm i.m, i.r.A, F] }
  | 2 => some { X := RsI, P := fun i => RsQ x F i, gh := some ⟨Nat × Row, fun i => (i.j, i.r)⟩, mu := fun i => i.r.n - i.i, lv := fun i => [(0, .pointer (some ⟨x.b, 0, none⟩)), (1, .slice x.g.a x.g.n x.g.cap), (2, .slice x.m.a x.m.n x.m.cap), (9, .pointer (some ⟨i.bc, 0, none⟩)), (10, .slice i.r.a i.r.n i.r.cap), (11, .pointer (some ⟨i.be, 0, none⟩)), (13, .int .i64 i.t), (16, .pointer (some ⟨i.bg, 0, none⟩)), (17, .bool false), (23, .slice x.s.a x.s.n x.s.cap), (24, .int .i64 x.s.n), (25, .int .i64 i.j), (55, .slice i.r.a i.r.n i.r.cap), (56, .int .i64 i.r.n), (57, .int .i64 i.i)], st := fun i => [.cells i.bc (chS x.c i.w) 28, .cells i.be [.map (some i.bm)] 116, exA i.bm i.m, i.r.A, F, .cells i.bg [.slice i.g.a i.g.n i.g.cap] 29, i.g.A] }
  | _ => none
def rsOv (_x : ExX) (_F : Atom) : List (Nat × Nat × OH) := [(1, 1, .c chtC [] []), (1, 2, .n 2020), (1, 3, .w (at8 2020)), (3, 0, .n 4000), (3, 1, .n 4010), (3, 2, .w [.atj 4010]),
  (6, 0, .qo (ixQ 1)), (6, 1, .q [.ex 4 (.int .i64)]), (7, 0, .q [.atj 1]), (7, 2, .o (lxC true) [] [8020]), (8, 8, .q [.atj 0]),
  (9, 0, .q [.atj 1]), (9, 6, .n 10060), (9, 7, .c exC [] [10070]), (9, 8, .o uxC [2, 10070] [2]), (10, 0, .n 11000),
  (14, 0, .qo (ixQ 1)), (14, 1, .q [.ex 3 (.int .i64)]), (14, 2, .n 15020), (14, 3, .w [.atj 15020]),
  (15, 0, .q [.atj 1]), (15, 2, .o (lxC false) [] [16020]), (15, 4, .c (cfC 80 2) [] []),
  (16, 2, .q [.atj 0]), (16, 4, .qo (ixQ 6)), (16, 6, .q [.ex 4 (.int .i64)]), (16, 8, .q [.atj 0]), (16, 9, .q [.atj 15020]), (16, 10, .qo (ixQ 6)), (16, 12, .q [.ex 4 (.int .i64)]), (16, 13, .c insideC [] []),
  (18, 0, .q [.atj 5]), (18, 1, .q [.atj 15020]), (18, 2, .n 19020), (18, 3, .o (apC 3 1 8) [6] [6]), (18, 4, .w [.atj 5]),
  (21, 2, .c (delC 82 1) [3] [22020]), (21, 4, .n 22040), (21, 5, .o (apC 3 1 8) [22020] [22050])]
noncomputable def rs_H (x : Con.X resC) (F : Atom) : Hints where
  op := hk ((rsOv x F) ++ [])
  inv := rsInv x F
  cut := (fun _ _ _ => none) x F
  ord := (fun _ => [])
open Go.Value (int slice string bool pointer agg tuple func) in
open Go.IntKind (i64) in
set_option maxRecDepth 100000 in
theorem rs_vc (x : ExX) (F : Atom) (hc : Con.cond resC x) (hr : Con.rdc resC x F) :
  FnOk Try.prog 17 chtC ∧
 true = true ∧
 ∃ (x_1 : ChtX),
 [pointer (some ⟨x.b, 0, none⟩)] = [pointer (some ⟨x_1.b, 0, none⟩)] ∧
 ([] : List Atom) = [] ∧
 True ∧
 (∀ (j : Nat) (u : Value), (chS x_1.c x_1.w)[j]? = some u → Look (Atom.pred (rest [(0, F)] [])) ⟨x_1.b, j, none⟩ u) ∧
 ∀ (y : Unit),
 True →
 ∀ (b : Nat),
 Same ⟨b, 0, none⟩ b ∧
 Same ⟨b, 1, none⟩ b ∧
 Same ⟨b, 2, none⟩ b ∧
 Same ⟨b, 3, none⟩ b ∧
 Same ⟨b, 4, none⟩ b ∧
 Same ⟨b, 5, none⟩ b ∧
 Same ⟨b, 6, none⟩ b ∧
 Same ⟨b, 7, none⟩ b ∧
 ∀ (b_1 b_2 : Nat),
 Same ⟨b_2, 0, none⟩ b_2 ∧
 (∃ (x_2 : RsI),
 RsP x F x_2 ∧
 (pointer (some ⟨x.b, 0, none⟩) = pointer (some ⟨x.b, 0, none⟩) ∧ slice x.g.a x.g.n x.g.cap = slice x.g.a x.g.n x.g.cap ∧ slice x.m.a x.m.n x.m.cap = slice x.m.a x.m.n x.m.cap ∧ pointer (some ⟨b, 0, none⟩) = pointer (some ⟨x_2.bc, 0, none⟩) ∧ slice none 0 0 = slice x_2.r.a x_2.r.n x_2.r.cap ∧ pointer (some ⟨b_2, 0, none⟩) = pointer (some ⟨x_2.be, 0, none⟩) ∧ slice x.s.a x.s.n x.s.cap = slice x.s.a x.s.n x.s.cap ∧ int i64 (↑x.s.n : Int) = int i64 (↑x.s.n : Int) ∧ int i64 (0 : Int) = int i64 (↑x_2.j : Int) ∧ True) ∧
 Ent [(0, F), (2020, Atom.cells b (chS x_1.c x_1.w) 28), (4000, Atom.obj b_1 (Obj.map { toList := [] } 0)), (4010, Atom.cells b_2 [Value.map (some b_1)] 116)]
 [(0, Atom.cells x_2.bc (chS x.c x_2.w) 28), (1, Atom.cells x_2.be [Value.map (some x_2.bm)] 116), (2, Atom.pred (Ex.rest x_2.bm x_2.m)), (3, x_2.r.A), (4, F)]) ∧
 ∀ (x_2 : RsI) (js : Nat → Value),
 RsP x F x_2 →
 Br (decide ((↑x_2.j : Int) < (↑x.s.n : Int)))
 (QOpOk Try.prog (opIn Try.f42 6 0) (ixQ 1) ∧
 ∃ (x_3 : IxQX),
 [slice x.s.a x.s.n x.s.cap, int i64 (↑x_2.j : Int)] = [slice (some ⟨x_3.b, x_3.o, none⟩) x_3.len x_3.cap, int i64 x_3.n] ∧
 ((0 : Int) ≤ x_3.n ∧ x_3.n < (↑x_3.len : Int)) ∧
 ∃ (n : Int),
 Look F ⟨x_3.b, x_3.o + x_3.n.toNat * 1, none⟩ (int i64 n) ∧
 Same ⟨x_2.be, 0, none⟩ x_2.be ∧
 OpOk Try.prog { dst := some 32, op := Op.lookup 116 (Operand.tmp 30) (Operand.tmp 31) true, type := 117, pos := "choose.go:59", after := { toList := [{ on := 0, ground := Ground.data }, { on := 1, ground := Ground.data }] }, guard := none } (lxC true) ∧
 true = true ∧
 ∃ (x_4 : LxX),
 [Value.map (some x_2.bm), int i64 n] = [Value.map (some x_4.b), int i64 x_4.k] ∧
 ([] : List Atom) = [] ∧
 True ∧
 Sub (Atom.pred (Ex.rest x_4.b x_4.m)) (Atom.pred (rest [(0, Atom.cells x_2.bc (chS x.c x_2.w) 28), (1, Atom.cells x_2.be [Value.map (some x_2.bm)] 116), (2, Atom.pred (Ex.rest x_2.bm x_2.m)), (3, x_2.r.A), (4, F)] [])) ∧
 ∀ (y : Sl),
 IsSrc 1 (ints ((getK x_4.m x_4.k).getD [])) y.a y.n ∧ y.n * 8 ≤ 140737488351232 →
 Br (getK x_4.m x_4.k).isSome
 (((-9223372036854775808 : Int) ≤ (↑x_2.j : Int) + (1 : Int) ∧ (↑x_2.j : Int) + (1 : Int) ≤ (9223372036854775807 : Int)) ∧
 ∃ (y_1 : RsI),
 RsP x F y_1 ∧
 (pointer (some ⟨x.b, 0, none⟩) = pointer (some ⟨x.b, 0, none⟩) ∧ slice x.g.a x.g.n x.g.cap = slice x.g.a x.g.n x.g.cap ∧ slice x.m.a x.m.n x.m.cap = slice x.m.a x.m.n x.m.cap ∧ pointer (some ⟨x_2.bc, 0, none⟩) = pointer (some ⟨y_1.bc, 0, none⟩) ∧ slice x_2.r.a x_2.r.n x_2.r.cap = slice y_1.r.a y_1.r.n y_1.r.cap ∧ pointer (some ⟨x_2.be, 0, none⟩) = pointer (some ⟨y_1.be, 0, none⟩) ∧ slice x.s.a x.s.n x.s.cap = slice x.s.a x.s.n x.s.cap ∧ int i64 (↑x.s.n : Int) = int i64 (↑x.s.n : Int) ∧ int i64 ((↑x_2.j : Int) + (1 : Int)) = int i64 (↑y_1.j : Int) ∧ True) ∧
 Ent [(0, Atom.cells x_2.bc (chS x.c x_2.w) 28), (1, Atom.cells x_2.be [Value.map (some x_2.bm)] 116), (2, Atom.pred (Ex.rest x_2.bm x_2.m)), (3, x_2.r.A), (4, F), (8020, Atom.pred (Fz.rest (slice y.a y.n y.cap) ((getK x_4.m x_4.k).getD [])))]
 [(0, Atom.cells y_1.bc (chS x.c y_1.w) 28), (1, Atom.cells y_1.be [Value.map (some y_1.bm)] 116), (2, Atom.pred (Ex.rest y_1.bm y_1.m)), (3, y_1.r.A), (4, F)] ∧
 x.ts.length - y_1.j < x.ts.length - x_2.j)
 (Br (decide (n < (0 : Int)))
 (((-9223372036854775808 : Int) ≤ (↑x_2.j : Int) + (1 : Int) ∧ (↑x_2.j : Int) + (1 : Int) ≤ (9223372036854775807 : Int)) ∧
 ∃ (y_1 : RsI),
 RsP x F y_1 ∧
 (pointer (some ⟨x.b, 0, none⟩) = pointer (some ⟨x.b, 0, none⟩) ∧ slice x.g.a x.g.n x.g.cap = slice x.g.a x.g.n x.g.cap ∧ slice x.m.a x.m.n x.m.cap = slice x.m.a x.m.n x.m.cap ∧ pointer (some ⟨x_2.bc, 0, none⟩) = pointer (some ⟨y_1.bc, 0, none⟩) ∧ slice x_2.r.a x_2.r.n x_2.r.cap = slice y_1.r.a y_1.r.n y_1.r.cap ∧ pointer (some ⟨x_2.be, 0, none⟩) = pointer (some ⟨y_1.be, 0, none⟩) ∧ slice x.s.a x.s.n x.s.cap = slice x.s.a x.s.n x.s.cap ∧ int i64 (↑x.s.n : Int) = int i64 (↑x.s.n : Int) ∧ int i64 ((↑x_2.j : Int) + (1 : Int)) = int i64 (↑y_1.j : Int) ∧ True) ∧
 Ent [(0, Atom.cells x_2.bc (chS x.c x_2.w) 28), (1, Atom.cells x_2.be [Value.map (some x_2.bm)] 116), (2, Atom.pred (Ex.rest x_2.bm x_2.m)), (3, x_2.r.A), (4, F), (8020, Atom.pred (Fz.rest (slice y.a y.n y.cap) ((getK x_4.m x_4.k).getD [])))]
 [(0, Atom.cells y_1.bc (chS x.c y_1.w) 28), (1, Atom.cells y_1.be [Value.map (some y_1.bm)] 116), (2, Atom.pred (Ex.rest y_1.bm y_1.m)), (3, y_1.r.A), (4, F)] ∧
 x.ts.length - y_1.j < x.ts.length - x_2.j)
 (Same ⟨x_2.bc, 4, none⟩ x_2.bc ∧
 Br (decide (n ≥ (↑x_2.w.vt.n : Int)))
 (((-9223372036854775808 : Int) ≤ (↑x_2.j : Int) + (1 : Int) ∧ (↑x_2.j : Int) + (1 : Int) ≤ (9223372036854775807 : Int)) ∧
 ∃ (y_1 : RsI),
 RsP x F y_1 ∧
 (pointer (some ⟨x.b, 0, none⟩) = pointer (some ⟨x.b, 0, none⟩) ∧ slice x.g.a x.g.n x.g.cap = slice x.g.a x.g.n x.g.cap ∧ slice x.m.a x.m.n x.m.cap = slice x.m.a x.m.n x.m.cap ∧ pointer (some ⟨x_2.bc, 0, none⟩) = pointer (some ⟨y_1.bc, 0, none⟩) ∧ slice x_2.r.a x_2.r.n x_2.r.cap = slice y_1.r.a y_1.r.n y_1.r.cap ∧ pointer (some ⟨x_2.be, 0, none⟩) = pointer (some ⟨y_1.be, 0, none⟩) ∧ slice x.s.a x.s.n x.s.cap = slice x.s.a x.s.n x.s.cap ∧ int i64 (↑x.s.n : Int) = int i64 (↑x.s.n : Int) ∧ int i64 ((↑x_2.j : Int) + (1 : Int)) = int i64 (↑y_1.j : Int) ∧ True) ∧
 Ent [(0, Atom.cells x_2.bc (chS x.c x_2.w) 28), (1, Atom.cells x_2.be [Value.map (some x_2.bm)] 116), (2, Atom.pred (Ex.rest x_2.bm x_2.m)), (3, x_2.r.A), (4, F), (8020, Atom.pred (Fz.rest (slice y.a y.n y.cap) ((getK x_4.m x_4.k).getD [])))]
 [(0, Atom.cells y_1.bc (chS x.c y_1.w) 28), (1, Atom.cells y_1.be [Value.map (some y_1.bm)] 116), (2, Atom.pred (Ex.rest y_1.bm y_1.m)), (3, y_1.r.A), (4, F)] ∧
 x.ts.length - y_1.j < x.ts.length - x_2.j)
 (true = true ∧
 Same ⟨x_2.be, 0, none⟩ x_2.be ∧
 ∀ (b : Nat),
 FnOk Try.prog 49 exC ∧
 true = true ∧
 ∃ (x_5 : ExX),
 [pointer (some ⟨x.b, 0, none⟩), slice x.g.a x.g.n x.g.cap, slice x.m.a x.m.n x.m.cap, slice (some ⟨b, 0, none⟩) 1 1] = [pointer (some ⟨x_5.b, 0, none⟩), slice x_5.g.a x_5.g.n x_5.g.cap, slice x_5.m.a x_5.m.n x_5.m.cap, slice x_5.s.a x_5.s.n x_5.s.cap] ∧
 ([] : List Atom) = [] ∧
 (newB x_5.c = true ∧ (IsSrc 1 (ints x_5.cf) x_5.g.a x_5.g.n ∧ x_5.g.n * 8 ≤ 140737488351232) ∧ IsSrc 1 (ints x_5.ts) x_5.s.a x_5.s.n ∧ x_5.s.n * 8 ≤ 140737488351232) ∧
 (LatIn (Atom.pred (rest [(0, Atom.cells x_2.bc (chS x.c x_2.w) 28), (1, Atom.cells x_2.be [Value.map (some x_2.bm)] 116), (2, Atom.pred (Ex.rest x_2.bm x_2.m)), (3, x_2.r.A), (4, F), (8020, Atom.pred (Fz.rest (slice y.a y.n y.cap) ((getK x_4.m x_4.k).getD []))), (10060, Atom.cells b [int i64 n] 3)] [])) x_5.b x_5.c ∧
 Srcd (Atom.pred (rest [(0, Atom.cells x_2.bc (chS x.c x_2.w) 28), (1, Atom.cells x_2.be [Value.map (some x_2.bm)] 116), (2, Atom.pred (Ex.rest x_2.bm x_2.m)), (3, x_2.r.A), (4, F), (8020, Atom.pred (Fz.rest (slice y.a y.n y.cap) ((getK x_4.m x_4.k).getD []))), (10060, Atom.cells b [int i64 n] 3)] [])) x_5.g.a (ints x_5.cf) ∧
 MemIn (Atom.pred (rest [(0, Atom.cells x_2.bc (chS x.c x_2.w) 28), (1, Atom.cells x_2.be [Value.map (some x_2.bm)] 116), (2, Atom.pred (Ex.rest x_2.bm x_2.m)), (3, x_2.r.A), (4, F), (8020, Atom.pred (Fz.rest (slice y.a y.n y.cap) ((getK x_4.m x_4.k).getD []))), (10060, Atom.cells b [int i64 n] 3)] [])) (slice x_5.m.a x_5.m.n x_5.m.cap) x_5.mem ∧
 Srcd (Atom.pred (rest [(0, Atom.cells x_2.bc (chS x.c x_2.w) 28), (1, Atom.cells x_2.be [Value.map (some x_2.bm)] 116), (2, Atom.pred (Ex.rest x_2.bm x_2.m)), (3, x_2.r.A), (4, F), (8020, Atom.pred (Fz.rest (slice y.a y.n y.cap) ((getK x_4.m x_4.k).getD []))), (10060, Atom.cells b [int i64 n] 3)] [])) x_5.s.a (ints x_5.ts)) ∧
 ∀ (y_1 : Row × List Int),
 y_1.snd.Perm (exV x_5.c x_5.mem x_5.cf x_5.ts) ∧ IsRow 3 1 (ints y_1.snd) y_1.fst →
 OpOk Try.prog { dst := none, op := Op.mapUpdate 116 (Operand.tmp 47) (Operand.tmp 48) (Operand.tmp 54), type := 0, pos := "choose.go:62", after := { toList := [{ on := 0, ground := Ground.data }, { on := 1, ground := Ground.data }, { on := 7, ground := Ground.data }, { on := 7, ground := Ground.chain }, { on := 0, ground := Ground.phase }, { on := 1, ground := Ground.phase }, { on := 2, ground := Ground.phase }, { on := 3, ground := Ground.phase }, { on := 4, ground := Ground.phase }, { on := 5, ground := Ground.phase }, { on := 6, ground := Ground.phase }, { on := 7, ground := Ground.phase }] }, guard := none } uxC ∧
 true = true ∧
 ∃ (x_6 : UxX),
 [Value.map (some x_2.bm), int i64 n, slice y_1.fst.a y_1.fst.n y_1.fst.cap] = [Value.map (some x_6.b), int i64 x_6.k, slice x_6.r.a x_6.r.n x_6.r.cap] ∧
 [Atom.pred (Ex.rest x_2.bm x_2.m), y_1.fst.A] = [Atom.pred (Ex.rest x_6.b x_6.m), x_6.r.A] ∧
 (IsRow 3 1 (ints x_6.xs) x_6.r ∧ x_6.r.n * 8 ≤ 140737488351232 ∧ getK x_6.m x_6.k = none) ∧
 True ∧
 ∀ (y_2 : Unit),
 True →
 ∀ (b_3 : Nat),
 ∃ (n_1 : Nat × Row),
 (∃ (x_7 : RsI),
 (RsQ x F x_7 ∧ (x_7.j, x_7.r) = n_1) ∧
 (pointer (some ⟨x.b, 0, none⟩) = pointer (some ⟨x.b, 0, none⟩) ∧
 slice x.g.a x.g.n x.g.cap = slice x.g.a x.g.n x.g.cap ∧
 slice x.m.a x.m.n x.m.cap = slice x.m.a x.m.n x.m.cap ∧
 pointer (some ⟨x_2.bc, 0, none⟩) = pointer (some ⟨x_7.bc, 0, none⟩) ∧
 slice x_2.r.a x_2.r.n x_2.r.cap = slice x_7.r.a x_7.r.n x_7.r.cap ∧
 pointer (some ⟨x_2.be, 0, none⟩) = pointer (some ⟨x_7.be, 0, none⟩) ∧ int i64 n = int i64 x_7.t ∧ pointer (some ⟨b_3, 0, none⟩) = pointer (some ⟨x_7.bg, 0, none⟩) ∧ bool false = bool false ∧ slice x.s.a x.s.n x.s.cap = slice x.s.a x.s.n x.s.cap ∧ int i64 (↑x.s.n : Int) = int i64 (↑x.s.n : Int) ∧ int i64 (↑x_2.j : Int) = int i64 (↑x_7.j : Int) ∧ slice x_2.r.a x_2.r.n x_2.r.cap = slice x_7.r.a x_7.r.n x_7.r.cap ∧ int i64 (↑x_2.r.n : Int) = int i64 (↑x_7.r.n : Int) ∧ int i64 (0 : Int) = int i64 (↑x_7.i : Int) ∧ True) ∧
 Ent [(0, Atom.cells x_2.bc (chS x.c x_2.w) 28), (1, Atom.cells x_2.be [Value.map (some x_2.bm)] 116), (2, Atom.pred (Ex.rest x_6.b (x_6.m ++ [(x_6.k, x_6.xs)]))), (3, x_2.r.A), (4, F), (8020, Atom.pred (Fz.rest (slice y.a y.n y.cap) ((getK x_4.m x_4.k).getD []))), (10060, Atom.cells b [int i64 n] 3), (10070, Atom.emp), (11000, Atom.cells b_3 [slice none 0 0] 29)]
 [(0, Atom.cells x_7.bc (chS x.c x_7.w) 28), (1, Atom.cells x_7.be [Value.map (some x_7.bm)] 116), (2, Atom.pred (Ex.rest x_7.bm x_7.m)), (3, x_7.r.A), (4, F), (5, Atom.cells x_7.bg [slice x_7.g.a x_7.g.n x_7.g.cap] 29), (6, x_7.g.A)]) ∧
 ∀ (x_7 : RsI) (js : Nat → Value),
 RsQ x F x_7 ∧ (x_7.j, x_7.r) = n_1 →
 Br (decide ((↑x_7.i : Int) < (↑x_7.r.n : Int)))
 (QOpOk Try.prog (opIn Try.f42 14 0) (ixQ 1) ∧
 ∃ (x_8 : IxQX),
 [slice x_7.r.a x_7.r.n x_7.r.cap, int i64 (↑x_7.i : Int)] = [slice (some ⟨x_8.b, x_8.o, none⟩) x_8.len x_8.cap, int i64 x_8.n] ∧
 ((0 : Int) ≤ x_8.n ∧ x_8.n < (↑x_8.len : Int)) ∧
 ∃ (n : Int),
 Look x_7.r.A ⟨x_8.b, x_8.o + x_8.n.toNat * 1, none⟩ (int i64 n) ∧
 ∀ (b : Nat),
 Same ⟨b, 0, none⟩ b ∧
 Same ⟨x_7.be, 0, none⟩ x_7.be ∧
 OpOk Try.prog { dst := some 63, op := Op.lookup 116 (Operand.tmp 61) (Operand.tmp 62) false, type := 29, pos := "choose.go:66", after := { toList := [{ on := 0, ground := Ground.data }, { on := 1, ground := Ground.data }] }, guard := none } (lxC false) ∧
 true = true ∧
 ∃ (x_9 : LxX),
 [Value.map (some x_7.bm), int i64 x_7.t] = [Value.map (some x_9.b), int i64 x_9.k] ∧
 ([] : List Atom) = [] ∧
 True ∧
 Sub (Atom.pred (Ex.rest x_9.b x_9.m)) (Atom.pred (rest [(0, Atom.cells x_7.bc (chS x.c x_7.w) 28), (1, Atom.cells x_7.be [Value.map (some x_7.bm)] 116), (2, Atom.pred (Ex.rest x_7.bm x_7.m)), (3, x_7.r.A), (4, F), (5, Atom.cells x_7.bg [slice x_7.g.a x_7.g.n x_7.g.cap] 29), (6, x_7.g.A), (15020, Atom.cells b [int i64 n] 3)] [])) ∧
 ∀ (y : Sl),
 IsSrc 1 (ints ((getK x_9.m x_9.k).getD [])) y.a y.n ∧ y.n * 8 ≤ 140737488351232 →
 FnOk Try.prog 62 (cfC (80 : FuncId) 2) ∧
 true = true ∧
 ∃ (x_10 : IxX (80 : FuncId) 2),
 [slice y.a y.n y.cap, func (Fn.func 80) { toList := [] } { toList := [pointer (some ⟨x_7.be, 0, none⟩), pointer (some ⟨b, 0, none⟩)] }] = [slice x_10.a x_10.n x_10.cap, func (Fn.func 80) { toList := [] } { toList := [pointer (some ⟨x_10.L.c1, 0, none⟩), pointer (some ⟨x_10.L.c2, 0, none⟩)] }] ∧
 ([] : List Atom) = [] ∧
 (IsSrc 1 (ints x_10.xs) x_10.a x_10.n ∧ x_10.n * 8 ≤ 140737488351232 ∧ ∀ (u : Int), u ∈ x_10.xs → x_10.L.ok u) ∧
 (Srcd
 (Atom.pred
 (rest [(0, Atom.cells x_7.bc (chS x.c x_7.w) 28), (1, Atom.cells x_7.be [Value.map (some x_7.bm)] 116), (2, Atom.pred (Ex.rest x_7.bm x_7.m)), (3, x_7.r.A), (4, F), (5, Atom.cells x_7.bg [slice x_7.g.a x_7.g.n x_7.g.cap] 29), (6, x_7.g.A), (15020, Atom.cells b [int i64 n] 3), (16020, Atom.pred (Fz.rest (slice y.a y.n y.cap) ((getK x_9.m x_9.k).getD [])))] []))
 x_10.a (ints x_10.xs) ∧
 x_10.L.7
 (Atom.pred
 (rest [(0, Atom.cells x_7.bc (chS x.c x_7.w) 28), (1, Atom.cells x_7.be [Value.map (some x_7.bm)] 116), (2, Atom.pred (Ex.rest x_7.bm x_7.m)), (3, x_7.r.A), (4, F), (5, Atom.cells x_7.bg [slice x_7.g.a x_7.g.n x_7.g.cap] 29), (6, x_7.g.A), (15020, Atom.cells b [int i64 n] 3), (16020, Atom.pred (Fz.rest (slice y.a y.n y.cap) ((getK x_9.m x_9.k).getD [])))] []))) ∧
 ∀ (y_3 : Unit),
 True →
 Br (!x_10.xs.any x_10.L.g)
 (((-9223372036854775808 : Int) ≤ (↑x_7.i : Int) + (1 : Int) ∧ (↑x_7.i : Int) + (1 : Int) ≤ (9223372036854775807 : Int)) ∧
 ∃ (y_4 : RsI),
 (RsQ x F y_4 ∧ (y_4.j, y_4.r) = n_1) ∧
 (pointer (some ⟨x.b, 0, none⟩) = pointer (some ⟨x.b, 0, none⟩) ∧
 slice x.g.a x.g.n x.g.cap = slice x.g.a x.g.n x.g.cap ∧
 slice x.m.a x.m.n x.m.cap = slice x.m.a x.m.n x.m.cap ∧
 pointer (some ⟨x_7.bc, 0, none⟩) = pointer (some ⟨y_4.bc, 0, none⟩) ∧
 slice x_7.r.a x_7.r.n x_7.r.cap = slice y_4.r.a y_4.r.n y_4.r.cap ∧
 pointer (some ⟨x_7.be, 0, none⟩) = pointer (some ⟨y_4.be, 0, none⟩) ∧
 int i64 x_7.t = int i64 y_4.t ∧ pointer (some ⟨x_7.bg, 0, none⟩) = pointer (some ⟨y_4.bg, 0, none⟩) ∧ bool false = bool false ∧ slice x.s.a x.s.n x.s.cap = slice x.s.a x.s.n x.s.cap ∧ int i64 (↑x.s.n : Int) = int i64 (↑x.s.n : Int) ∧ int i64 (↑x_7.j : Int) = int i64 (↑y_4.j : Int) ∧ slice x_7.r.a x_7.r.n x_7.r.cap = slice y_4.r.a y_4.r.n y_4.r.cap ∧ int i64 (↑x_7.r.n : Int) = int i64 (↑y_4.r.n : Int) ∧ int i64 ((↑x_7.i : Int) + (1 : Int)) = int i64 (↑y_4.i : Int) ∧ True) ∧
 Ent [(0, Atom.cells x_7.bc (chS x.c x_7.w) 28), (1, Atom.cells x_7.be [Value.map (some x_7.bm)] 116), (2, Atom.pred (Ex.rest x_7.bm x_7.m)), (3, x_7.r.A), (4, F), (5, Atom.cells x_7.bg [slice x_7.g.a x_7.g.n x_7.g.cap] 29), (6, x_7.g.A), (15020, Atom.cells b [int i64 n] 3), (16020, Atom.pred (Fz.rest (slice y.a y.n y.cap) ((getK x_9.m x_9.k).getD [])))]
 [(0, Atom.cells y_4.bc (chS x.c y_4.w) 28), (1, Atom.cells y_4.be [Value.map (some y_4.bm)] 116), (2, Atom.pred (Ex.rest y_4.bm y_4.m)), (3, y_4.r.A), (4, F), (5, Atom.cells y_4.bg [slice y_4.g.a y_4.g.n y_4.g.cap] 29), (6, y_4.g.A)] ∧
 y_4.r.n - y_4.i < x_7.r.n - x_7.i)
 (true = true ∧
 Same ⟨x_7.bc, 4, none⟩ x_7.bc ∧
 QOpOk Try.prog (opIn Try.f42 16 4) (ixQ 6) ∧
 ∃ (x_11 : IxQX),
 [slice x_7.w.vt.a x_7.w.vt.n x_7.w.vt.cap, int i64 x_7.t] = [slice (some ⟨x_11.b, x_11.o, none⟩) x_11.len x_11.cap, int i64 x_11.n] ∧
 ((0 : Int) ≤ x_11.n ∧ x_11.n < (↑x_11.len : Int)) ∧
 ∃ (n_2 : Int),
 Look F ⟨x_11.b, x_11.o + x_11.n.toNat * 6, none⟩ (int i64 n_2) ∧
 Same ⟨x_7.bc, 4, none⟩ x_7.bc ∧
 Same ⟨b, 0, none⟩ b ∧
 QOpOk Try.prog (opIn Try.f42 16 10) (ixQ 6) ∧
 ∃ (x_12 : IxQX),
 [slice x_7.w.vt.a x_7.w.vt.n x_7.w.vt.cap, int i64 n] = [slice (some ⟨x_12.b, x_12.o, none⟩) x_12.len x_12.cap, int i64 x_12.n] ∧
 ((0 : Int) ≤ x_12.n ∧ x_12.n < (↑x_12.len : Int)) ∧
 ∃ (n_3 : Int),
 Look F ⟨x_12.b, x_12.o + x_12.n.toNat * 6, none⟩ (int i64 n_3) ∧
 FnOk Try.prog 18 insideC ∧
 true = true ∧
 ∃ (x_13 : L2X),
 [pointer (some ⟨x.b, 0, none⟩), int i64 n_2, int i64 n_3] = [pointer (some ⟨x_13.b, 0, none⟩), int i64 x_13.a, int i64 x_13.d] ∧
 ([] : List Atom) = [] ∧
 True ∧
 LatIn
 (Atom.pred
 (rest
 [(0, Atom.cells x_7.bc (chS x.c x_7.w) 28), (1, Atom.cells x_7.be [Value.map (some x_7.bm)] 116), (2, Atom.pred (Ex.rest x_7.bm x_7.m)), (3, x_7.r.A), (4, F), (5, Atom.cells x_7.bg [slice x_7.g.a x_7.g.n x_7.g.cap] 29), (6, x_7.g.A), (15020, Atom.cells b [int i64 n] 3),
 (16020, Atom.pred (Fz.rest (slice y.a y.n y.cap) ((getK x_9.m x_9.k).getD [])))]
 []))
 x_13.b x_13.c ∧
 ∀ (y_4 : Unit),
 True →
 Br (!inB x_13.c x_13.a x_13.d)
 (((-9223372036854775808 : Int) ≤ (↑x_7.j : Int) + (1 : Int) ∧ (↑x_7.j : Int) + (1 : Int) ≤ (9223372036854775807 : Int)) ∧
 ∃ (y_5 : RsI),
 RsP x F y_5 ∧
 (pointer (some ⟨x.b, 0, none⟩) = pointer (some ⟨x.b, 0, none⟩) ∧
 slice x.g.a x.g.n x.g.cap = slice x.g.a x.g.n x.g.cap ∧ slice x.m.a x.m.n x.m.cap = slice x.m.a x.m.n x.m.cap ∧ pointer (some ⟨x_7.bc, 0, none⟩) = pointer (some ⟨y_5.bc, 0, none⟩) ∧ slice x_7.r.a x_7.r.n x_7.r.cap = slice y_5.r.a y_5.r.n y_5.r.cap ∧ pointer (some ⟨x_7.be, 0, none⟩) = pointer (some ⟨y_5.be, 0, none⟩) ∧ slice x.s.a x.s.n x.s.cap = slice x.s.a x.s.n x.s.cap ∧ int i64 (↑x.s.n : Int) = int i64 (↑x.s.n : Int) ∧ int i64 ((↑x_7.j : Int) + (1 : Int)) = int i64 (↑y_5.j : Int) ∧ True) ∧
 Ent
 [(0, Atom.cells x_7.bc (chS x.c x_7.w) 28), (1, Atom.cells x_7.be [Value.map (some x_7.bm)] 116), (2, Atom.pred (Ex.rest x_7.bm x_7.m)), (3, x_7.r.A), (4, F), (5, Atom.cells x_7.bg [slice x_7.g.a x_7.g.n x_7.g.cap] 29), (6, x_7.g.A), (15020, Atom.cells b [int i64 n] 3),
 (16020, Atom.pred (Fz.rest (slice y.a y.n y.cap) ((getK x_9.m x_9.k).getD [])))]
 [(0, Atom.cells y_5.bc (chS x.c y_5.w) 28), (1, Atom.cells y_5.be [Value.map (some y_5.bm)] 116), (2, Atom.pred (Ex.rest y_5.bm y_5.m)), (3, y_5.r.A), (4, F)] ∧
 x.ts.length - y_5.j < x.ts.length - x_2.j)
 (Same ⟨x_7.bg, 0, none⟩ x_7.bg ∧
 Same ⟨b, 0, none⟩ b ∧
 ∀ (b_4 : Nat),
 OpOk Try.prog (opIn Try.f42 18 3) (apC (3 : TypeId) 1 8) ∧
 true = true ∧
 ∃ (x_14 : ApX),
 [slice x_7.g.a x_7.g.n x_7.g.cap, slice (some ⟨b_4, 0, none⟩) 1 1] = [slice x_14.r.a x_14.r.n x_14.r.cap, slice x_14.a x_14.m x_14.c] ∧
 [x_7.g.A] = [x_14.r.A] ∧
 (IsRow 3 1 x_14.cs x_14.r ∧ x_14.ys.length = x_14.m * 1 ∧ (∀ (u : Value), u ∈ x_14.ys → u.oneCell' = true) ∧ (x_14.r.n + x_14.m) * 8 ≤ 140737488355328 ∧ x_14.r.n + x_14.m ≤ 9223372036854775807 ∧ (x_14.a = none → x_14.m = 0 ∧ x_14.c = 0)) ∧
 (∀ (a : Addr),
 x_14.a = some a →
 Seg
 (Atom.pred
 (rest
 [(0, Atom.cells x_7.bc (chS x.c x_7.w) 28), (1, Atom.cells x_7.be [Value.map (some x_7.bm)] 116), (2, Atom.pred (Ex.rest x_7.bm x_7.m)), (3, x_7.r.A), (4, F), (5, Atom.cells x_7.bg [slice x_7.g.a x_7.g.n x_7.g.cap] 29), (6, x_7.g.A), (15020, Atom.cells b [int i64 n] 3),
 (16020, Atom.pred (Fz.rest (slice y.a y.n y.cap) ((getK x_9.m x_9.k).getD []))), (19020, Atom.cells b_4 [int i64 n] 3)]
 [6]))
 a x_14.ys) ∧
 ∀ (y_5 : Row),
 IsRow 3 1 (x_14.cs ++ x_14.ys) y_5 ∧ y_5.n = x_14.r.n + x_14.m ∧ (x_14.m = 0 → y_5 = x_14.r) →
 Same ⟨x_7.bg, 0, none⟩ x_7.bg ∧
 ((-9223372036854775808 : Int) ≤ (↑x_7.i : Int) + (1 : Int) ∧ (↑x_7.i : Int) + (1 : Int) ≤ (9223372036854775807 : Int)) ∧
 ∃ (y_6 : RsI),
 (RsQ x F y_6 ∧ (y_6.j, y_6.r) = n_1) ∧
 (pointer (some ⟨x.b, 0, none⟩) = pointer (some ⟨x.b, 0, none⟩) ∧
 slice x.g.a x.g.n x.g.cap = slice x.g.a x.g.n x.g.cap ∧
 slice x.m.a x.m.n x.m.cap = slice x.m.a x.m.n x.m.cap ∧
 pointer (some ⟨x_7.bc, 0, none⟩) = pointer (some ⟨y_6.bc, 0, none⟩) ∧
 slice x_7.r.a x_7.r.n x_7.r.cap = slice y_6.r.a y_6.r.n y_6.r.cap ∧
 pointer (some ⟨x_7.be, 0, none⟩) = pointer (some ⟨y_6.be, 0, none⟩) ∧
 int i64 x_7.t = int i64 y_6.t ∧
 pointer (some ⟨x_7.bg, 0, none⟩) = pointer (some ⟨y_6.bg, 0, none⟩) ∧ bool false = bool false ∧ slice x.s.a x.s.n x.s.cap = slice x.s.a x.s.n x.s.cap ∧ int i64 (↑x.s.n : Int) = int i64 (↑x.s.n : Int) ∧ int i64 (↑x_7.j : Int) = int i64 (↑y_6.j : Int) ∧ slice x_7.r.a x_7.r.n x_7.r.cap = slice y_6.r.a y_6.r.n y_6.r.cap ∧ int i64 (↑x_7.r.n : Int) = int i64 (↑y_6.r.n : Int) ∧ int i64 ((↑x_7.i : Int) + (1 : Int)) = int i64 (↑y_6.i : Int) ∧ True) ∧
 Ent
 [(0, Atom.cells x_7.bc (chS x.c x_7.w) 28), (1, Atom.cells x_7.be [Value.map (some x_7.bm)] 116), (2, Atom.pred (Ex.rest x_7.bm x_7.m)), (3, x_7.r.A), (4, F), (5, Atom.cells x_7.bg [slice y_5.a y_5.n y_5.cap] 29), (6, y_5.A), (15020, Atom.cells b [int i64 n] 3),
 (16020, Atom.pred (Fz.rest (slice y.a y.n y.cap) ((getK x_9.m x_9.k).getD []))), (19020, Atom.cells b_4 [int i64 n] 3)]
 [(0, Atom.cells y_6.bc (chS x.c y_6.w) 28), (1, Atom.cells y_6.be [Value.map (some y_6.bm)] 116), (2, Atom.pred (Ex.rest y_6.bm y_6.m)), (3, y_6.r.A), (4, F), (5, Atom.cells y_6.bg [slice y_6.g.a y_6.g.n y_6.g.cap] 29), (6, y_6.g.A)] ∧
 y_6.r.n - y_6.i < x_7.r.n - x_7.i)))
 (FnOk Try.prog 81 (delC (82 : FuncId) 1) ∧
 true = true ∧
 ∃ (x_8 : DelX (82 : FuncId) 1),
 [slice x_7.r.a x_7.r.n x_7.r.cap, func (Fn.func 82) { toList := [] } { toList := [pointer (some ⟨x_7.bg, 0, none⟩)] }] = [slice x_8.r.a x_8.r.n x_8.r.cap, func (Fn.func 82) { toList := [] } { toList := [pointer (some ⟨x_8.L.c1, 0, none⟩)] }] ∧
 [x_7.r.A] = [x_8.r.A] ∧
 (IsRow 3 1 (ints x_8.xs) x_8.r ∧ x_8.r.n * 8 ≤ 140737488351232 ∧ ∀ (u : Int), u ∈ x_8.xs → x_8.L.ok u) ∧
 x_8.L.7 (Atom.pred (rest [(0, Atom.cells x_7.bc (chS x.c x_7.w) 28), (1, Atom.cells x_7.be [Value.map (some x_7.bm)] 116), (2, Atom.pred (Ex.rest x_7.bm x_7.m)), (3, x_7.r.A), (4, F), (5, Atom.cells x_7.bg [slice x_7.g.a x_7.g.n x_7.g.cap] 29), (6, x_7.g.A)] [3])) ∧
 ∀ (y : Row),
 IsRow 3 1 (ints (rest0 x_8.L.g x_8.xs)) y →
 ∀ (b : Nat),
 OpOk Try.prog (opIn Try.f42 21 5) (apC (3 : TypeId) 1 8) ∧
 true = true ∧
 ∃ (x_9 : ApX),
 [slice y.a y.n y.cap, slice (some ⟨b, 0, none⟩) 1 1] = [slice x_9.r.a x_9.r.n x_9.r.cap, slice x_9.a x_9.m x_9.c] ∧
 [y.A] = [x_9.r.A] ∧
 (IsRow 3 1 x_9.cs x_9.r ∧ x_9.ys.length = x_9.m * 1 ∧ (∀ (u : Value), u ∈ x_9.ys → u.oneCell' = true) ∧ (x_9.r.n + x_9.m) * 8 ≤ 140737488355328 ∧ x_9.r.n + x_9.m ≤ 9223372036854775807 ∧ (x_9.a = none → x_9.m = 0 ∧ x_9.c = 0)) ∧
 (∀ (a : Addr), x_9.a = some a → Seg (Atom.pred (rest [(0, Atom.cells x_7.bc (chS x.c x_7.w) 28), (1, Atom.cells x_7.be [Value.map (some x_7.bm)] 116), (2, Atom.pred (Ex.rest x_7.bm x_7.m)), (3, Atom.emp), (4, F), (5, Atom.cells x_7.bg [slice x_7.g.a x_7.g.n x_7.g.cap] 29), (6, x_7.g.A), (22020, y.A), (22040, Atom.cells b [int i64 x_7.t] 3)] [22020])) a x_9.ys) ∧
 ∀ (y : Row),
 IsRow 3 1 (x_9.cs ++ x_9.ys) y ∧ y.n = x_9.r.n + x_9.m ∧ (x_9.m = 0 → y = x_9.r) →
 ((-9223372036854775808 : Int) ≤ (↑x_7.j : Int) + (1 : Int) ∧ (↑x_7.j : Int) + (1 : Int) ≤ (9223372036854775807 : Int)) ∧
 ∃ (y_3 : RsI),
 RsP x F y_3 ∧
 (pointer (some ⟨x.b, 0, none⟩) = pointer (some ⟨x.b, 0, none⟩) ∧ slice x.g.a x.g.n x.g.cap = slice x.g.a x.g.n x.g.cap ∧ slice x.m.a x.m.n x.m.cap = slice x.m.a x.m.n x.m.cap ∧ pointer (some ⟨x_7.bc, 0, none⟩) = pointer (some ⟨y_3.bc, 0, none⟩) ∧ slice y.a y.n y.cap = slice y_3.r.a y_3.r.n y_3.r.cap ∧ pointer (some ⟨x_7.be, 0, none⟩) = pointer (some ⟨y_3.be, 0, none⟩) ∧ slice x.s.a x.s.n x.s.cap = slice x.s.a x.s.n x.s.cap ∧ int i64 (↑x.s.n : Int) = int i64 (↑x.s.n : Int) ∧ int i64 ((↑x_7.j : Int) + (1 : Int)) = int i64 (↑y_3.j : Int) ∧ True) ∧
 Ent [(0, Atom.cells x_7.bc (chS x.c x_7.w) 28), (1, Atom.cells x_7.be [Value.map (some x_7.bm)] 116), (2, Atom.pred (Ex.rest x_7.bm x_7.m)), (3, Atom.emp), (4, F), (5, Atom.cells x_7.bg [slice x_7.g.a x_7.g.n x_7.g.cap] 29), (6, x_7.g.A), (22020, Atom.emp), (22040, Atom.cells b [int i64 x_7.t] 3), (22050, y.A)]
 [(0, Atom.cells y_3.bc (chS x.c y_3.w) 28), (1, Atom.cells y_3.be [Value.map (some y_3.bm)] 116), (2, Atom.pred (Ex.rest y_3.bm y_3.m)), (3, y_3.r.A), (4, F)] ∧
 x.ts.length - y_3.j < x.ts.length - x_2.j)))))
 (Done resC x F (Ending.returned (slice x_2.r.a x_2.r.n x_2.r.cap)) [(0, Atom.cells x_2.bc (chS x.c x_2.w) 28), (1, Atom.cells x_2.be [Value.map (some x_2.bm)] 116), (2, Atom.pred (Ex.rest x_2.bm x_2.m)), (3, x_2.r.A), (4, F)]) := by
  obtain ⟨b, c, ⟨ga, gn, gc⟩, cf, ⟨ma, mn, mc⟩, mem, ⟨sa, sn, sc⟩, ts⟩ := x
  obtain ⟨hnew, ⟨hg, hgn⟩, hs, hsn⟩ := hc
  obtain ⟨hr, hcf, hm, hts⟩ := hr
  dsimp only at hnew hg hgn hs hsn hr hcf hm hts ⊢
  have hn128 := (newB_spec.1 hnew).1.n128
  have hgl : cf.length = gn := by have := hg.len; rw [ints_length] at this; omega
  have hsl : ts.length = sn := by have := hs.len; rw [ints_length] at this; omega
  obtain ⟨w0, hw0, htl⟩ := res_w hr
  refine ⟨cht_ok, rfl, ⟨b, c, w0⟩, rfl, rfl, trivial, fun j u hj => Look.sub (A := F) (sub_rest 0 (by simp) rfl) (hw0.cells j u hj), fun _ _ bc0 => ?_⟩
  iterate 8 refine ⟨⟨rfl, rfl⟩, ?_⟩
  intro bm0 be0
  refine ⟨⟨rfl, rfl⟩, ⟨⟨0, w0, bc0, be0, bm0, [], nilRow, 0, 0, 0, nilRow⟩, ⟨Nat.zero_le _, hw0, ⟨rfl, fun p hp => by simp at hp⟩, .nil rfl⟩, ⟨rfl, rfl, rfl, rfl, rfl, rfl, rfl, rfl, rfl, trivial⟩, Ent.trans (Ent.pick (S' := ofL [.cells bc0 (chS c w0) 28, .cells be0 [.map (some bm0)] 116, mpA bm0 [], .emp, F]) [2020, 4010, 4000, 77, 0] rfl rfl) (Ent.weak (l := [.cells bc0 (chS c w0) 28, .cells be0 [.map (some bm0)] 116, mpA bm0 [], .emp, F]) (l' := [.cells bc0 (chS c w0) 28, .cells be0 [.map (some bm0)] 116, exA bm0 [], .emp, F]) ⟨fun _ _ _ _ h => h, fun _ _ _ _ h => h, exA_new, fun _ _ _ _ h => h, fun _ _ _ _ h => h, trivial⟩)⟩, ?_⟩
  clear hw0 w0 bc0 be0 bm0
  rintro ⟨j, w, bc, be, bm, m, r, i0, t0, bg0, g0⟩ js ⟨hj, hw, hex, hrow⟩
  dsimp only at hj hw hex hrow ⊢

  have hok := resS_ok c mem cf (ts.take j) ([], []) ⟨fun k hk => by simp at hk, fun k hk => by simp at hk⟩
  have hlen := resS_len c mem cf (ts.take j) ([], [])
  rw [List.length_take] at hlen
  change (∀ k ∈ (resS c mem cf (ts.take j)).2, k ∈ (resS c mem cf (ts.take j)).1) ∧ (∀ k ∈ (resS c mem cf (ts.take j)).1, isT c k = true) at hok
  change (resS c mem cf (ts.take j)).2.length ≤ _ at hlen
  have hrl : r.n = (resS c mem cf (ts.take j)).2.length := by have := hrow.len; rw [ints_length] at this; omega
  simp only [List.length_nil] at hlen
  refine br_decide (fun hlt => ?_) (fun hge => ⟨r, ?_, rfl, Ent.pick [3, 4] rfl rfl⟩)
  rotate_left
  · show IsRow 3 1 (ints (resV c mem cf ts)) r
    unfold resV
    rw [List.take_of_length_le (by omega)] at hrow
    exact hrow
  obtain ⟨b1, o1, rfl⟩ := hs.some (by omega)
  obtain ⟨t, ht⟩ : ∃ t, ts[j]? = some t := ⟨_, List.getElem?_eq_getElem (by omega)⟩
  have e1 : o1 + (j : Int).toNat * 1 = o1 + j := by omega
  have hstep := resS_take (c := c) (mem := mem) (cf := cf) ht
  have hkm : (getK m t).isSome = memB (resS c mem cf (ts.take j)).1 t := by rw [get_some, hex.keys]
  have skip : (memB (resS c mem cf (ts.take j)).1 t || !isT c t) = true → resS c mem cf (ts.take (j + 1)) = resS c mem cf (ts.take j) := fun h => by rw [hstep]; unfold rsS; rw [h]; rfl
  refine ⟨ixq_ok 1 rfl rfl rfl rfl, ⟨b1, o1, sn, sc, j⟩, rfl, by dsimp only; omega, t, by dsimp only; rw [e1]; exact hts.look (ints_get ht), ⟨rfl, rfl⟩, lx_ok true rfl Try.underlying116 Try.underlying3 rfl rfl, rfl, ⟨bm, m, t⟩, rfl, rfl, trivial, sub_rest 2 (by simp) rfl, fun y hy => br_intro (fun h1 => ?_) (fun h1 => br_decide (fun h2 => ?_) (fun h2 => ⟨⟨rfl, rfl⟩, br_decide (fun h3 => ?_) (fun h3 => ⟨rfl, ⟨rfl, rfl⟩, fun b3 => ?_⟩)⟩))⟩
  · dsimp only at h1
    have hsk := skip (by rw [← hkm, h1]; rfl)
    exact ⟨⟨by omega, by omega⟩, ⟨j + 1, w, bc, be, bm, m, r, 0, 0, 0, nilRow⟩, ⟨by dsimp only; omega, hw, by dsimp only; rw [hsk]; exact hex, by dsimp only; rw [hsk]; exact hrow⟩, ⟨rfl, rfl, rfl, rfl, rfl, rfl, rfl, rfl, rfl, trivial⟩, Ent.pick [0, 1, 2, 3, 4] rfl rfl, by dsimp only; omega⟩
  · have hnt : isT c t = false := by unfold isT; rw [decide_eq_false (by omega)]; rfl
    have hsk := skip (by rw [hnt, Bool.not_false, Bool.or_true])
    exact ⟨⟨by omega, by omega⟩, ⟨j + 1, w, bc, be, bm, m, r, 0, 0, 0, nilRow⟩, ⟨by dsimp only; omega, hw, by dsimp only; rw [hsk]; exact hex, by dsimp only; rw [hsk]; exact hrow⟩, ⟨rfl, rfl, rfl, rfl, rfl, rfl, rfl, rfl, rfl, trivial⟩, Ent.pick [0, 1, 2, 3, 4] rfl rfl, by dsimp only; omega⟩
  · have hwn := hw.n
    have hnt : isT c t = false := by unfold isT; rw [decide_eq_false (show ¬ t < (c.trs.length : Int) by omega), Bool.and_false]
    have hsk := skip (by rw [hnt, Bool.not_false, Bool.or_true])
    exact ⟨⟨by omega, by omega⟩, ⟨j + 1, w, bc, be, bm, m, r, 0, 0, 0, nilRow⟩, ⟨by dsimp only; omega, hw, by dsimp only; rw [hsk]; exact hex, by dsimp only; rw [hsk]; exact hrow⟩, ⟨rfl, rfl, rfl, rfl, rfl, rfl, rfl, rfl, rfl, trivial⟩, Ent.pick [0, 1, 2, 3, 4] rfl rfl, by dsimp only; omega⟩
  dsimp only at h1
  have hwn := hw.n
  have hnt : isT c t = true := by unfold isT; rw [decide_eq_true (show t ≥ 0 by omega), decide_eq_true (show t < (c.trs.length : Int) by omega)]; rfl
  have hnew2 : memB (resS c mem cf (ts.take j)).1 t = false := by rw [← hkm, h1]
  have hgn : getK m t = none := by
    cases hh : getK m t with
    | none => rfl
    | some v => rw [hh] at h1; cases h1
  have hst2 : resS c mem cf (ts.take (j + 1)) = ((resS c mem cf (ts.take j)).1 ++ [t], rsK c mem cf (resS c mem cf (ts.take j)).2 t) := by rw [hstep]; unfold rsS; rw [hnew2, hnt]; rfl
  refine ⟨ext_ok, rfl, ⟨b, c, ⟨ga, gn, gc⟩, cf, ⟨ma, mn, mc⟩, mem, ⟨some ⟨b3, 0, none⟩, 1, 1⟩, [t]⟩, rfl, rfl, ⟨hnew, ⟨hg, by dsimp only; omega⟩, .blk b3 0 1 rfl, by dsimp only; omega⟩, ⟨hr.sub (sub_rest 4 (by simp) rfl), Srcd.sub (A := F) (sub_rest 4 (by simp) rfl) hcf, hm.sub (sub_rest 4 (by simp) rfl), lit_srcd 10060 (by simp) rfl⟩, fun y2 hy2 => ?_⟩
  obtain ⟨hp2, hr2⟩ := hy2
  dsimp only at hp2 hr2
  have hy2n : y2.1.n * 8 ≤ 140737488351232 := by
    have h4 := hr2.len
    rw [ints_length, hp2.length_eq] at h4
    have := (exV_good c mem cf [t]).len
    omega
  have hex2 : ExsR c mem cf (m ++ [(t, y2.2)]) ((resS c mem cf (ts.take j)).1 ++ [t]) := ⟨by unfold keysOf; rw [List.map_append]; have := hex.keys; unfold keysOf at this; rw [this]; rfl, fun p hp => by
    rcases List.mem_append.1 hp with hp | hp
    · exact hex.vals p hp
    · rw [List.mem_singleton] at hp; rw [hp]; exact hp2⟩
  refine ⟨ux_ok rfl Try.underlying116 Try.underlying3, rfl, ⟨bm, m, t, y2.1, y2.2⟩, rfl, rfl, ⟨hr2, hy2n, hgn⟩, trivial, fun _ _ b4 => ⟨(j, r), ⟨⟨j, w, bc, be, bm, m ++ [(t, y2.2)], r, 0, t, b4, nilRow⟩, ⟨⟨by dsimp only; omega, ht, hnew2, hnt, hw, hex2, hrow, Nat.zero_le _, rfl, .nil rfl⟩, rfl⟩, ⟨rfl, rfl, rfl, rfl, rfl, rfl, rfl, rfl, rfl, rfl, rfl, rfl, rfl, rfl, rfl, trivial⟩, Ent.pick [0, 1, 2, 3, 4, 11000, 77] rfl rfl⟩, ?_⟩⟩
  clear hex2 hp2 hr2 hy2n hy y y2 hgn b4 b3 hkm h1 h2 h3 hw hwn hex
  clear m bm be bc w
  rintro ⟨j', w, bc, be, bm, m, r', i, t', bg, g⟩ js ⟨⟨q1, q2, q3, q4, hw, hex, hrow', hi, hnb, hgrow⟩, ej⟩
  dsimp only at q1 q2 q3 q4 hw hex hrow' hi hnb hgrow ej ⊢
  obtain ⟨rfl, rfl⟩ : j' = j ∧ r' = r := by simpa using ej
  obtain rfl : t = t' := by rw [ht] at q2; exact Option.some.inj q2
  generalize hK : (resS c mem cf (ts.take j')).2 = K at *
  generalize hSn : (resS c mem cf (ts.take j')).1 = Sn at *
  have hwn := hw.n
  have hgnl : g.n = ((K.take i).filter (cfl c mem cf t)).length := by have := hgrow.len; rw [ints_length] at this; omega
  have hgle : g.n * 8 ≤ 140737488351232 := by
    have := List.length_filter_le (cfl c mem cf t) (K.take i)
    have := List.length_take_le i K
    omega
  refine br_decide (fun hlt2 => ?_) (fun hge2 => ?_)
  · obtain ⟨b5, hb5⟩ := hrow'.at0 (by omega)
    obtain ⟨k, hk⟩ : ∃ k, K[i]? = some k := ⟨_, List.getElem?_eq_getElem (by omega)⟩
    have hkK : k ∈ K := List.mem_of_getElem? hk
    have hkS := hok.1 k hkK
    have hkT := hok.2 k hkS
    obtain ⟨qt, eqt, hqt⟩ := isT_spec hnt
    obtain ⟨qk, eqk, hqk⟩ := isT_spec hkT
    obtain ⟨c0, p0, ec0, L0⟩ := hw.src qt hqt
    obtain ⟨c1, p1, ec1, L1⟩ := hw.src qk hqk
    have hsrcR := hrow'.srcd
    have elook : Look r'.A ⟨b5, 0 + (i : Int).toNat * 1, none⟩ (.int .i64 k) := by
      rw [hb5] at hsrcR
      rw [show 0 + (i : Int).toNat * 1 = 0 + i by omega]
      exact hsrcR.look (ints_get hk)
    have htk : K.take (i + 1) = K.take i ++ [k] := by rw [List.take_add_one, hk]; rfl
    refine ⟨ixq_ok 1 rfl rfl rfl rfl, ⟨b5, 0, r'.n, r'.cap, i⟩, by rw [hb5], by dsimp only; omega, k, elook, fun b6 => ⟨⟨rfl, rfl⟩, ⟨rfl, rfl⟩, lx_ok false rfl Try.underlying116 Try.underlying3 rfl rfl, rfl, ⟨bm, m, t⟩, rfl, rfl, trivial, sub_rest 2 (by simp) rfl, fun y hy => ⟨cfx_ok, rfl, ⟨⟨be, b6, 0, 0, fun s => memB ((getK m k).getD []) s, fun _ => True, fun F => Look F ⟨be, 0, none⟩ (.map (some bm)) ∧ Look F ⟨b6, 0, none⟩ (.int .i64 k) ∧ Sub (exA bm m) F, fun _ _ h hk => ⟨hk.1.sub h, hk.2.1.sub h, Sub.trans hk.2.2 h⟩, ⟨fun s F I w _ hr hs => rs1_ok.h ⟨be, b6, bm, m, k, s⟩ F I w trivial hr hs⟩⟩, y.a, y.n, y.cap, (getK m t).getD []⟩, rfl, rfl, ⟨hy.1, hy.2, fun _ _ => trivial⟩, ⟨Srcd.sub (sub_rest 16020 (by simp) rfl) fzA_srcd, Look.rest (j := 1) (by simp) (Look.cells rfl), Look.rest (j := 15020) (by simp) (Look.cells rfl), sub_rest 2 (by simp) rfl⟩, fun _ _ => ?_⟩⟩⟩
    have ecf : ((getK m t).getD []).any (fun s => memB ((getK m k).getD []) s) = cfl c mem cf t k := hex.cfl (List.mem_append_right _ (by simp)) (List.mem_append_left _ hkS)
    dsimp only
    rw [ecf]
    refine br_intro (fun h5 => ?_) (fun h5 => ?_)
    · have h5' : cfl c mem cf t k = false := by simpa using h5
      have hbk : bad c mem cf t k = false := by unfold bad; rw [h5']; rfl
      refine ⟨⟨by omega, by omega⟩, ⟨j', w, bc, be, bm, m, r', i + 1, t, bg, g⟩, ⟨⟨q1, q2, by dsimp only; rw [hSn]; exact q3, q4, hw, by dsimp only; rw [hSn]; exact hex, by dsimp only; rw [hK]; exact hrow', by dsimp only; rw [hK]; omega, ?_, ?_⟩, rfl⟩, ⟨rfl, rfl, rfl, rfl, rfl, rfl, rfl, rfl, rfl, rfl, rfl, rfl, rfl, rfl, rfl, trivial⟩, Ent.pick [0, 1, 2, 3, 4, 5, 6] rfl rfl, by dsimp only; omega⟩
      · dsimp only
        rw [hK, htk, List.any_append, hnb]
        simp [hbk]
      · dsimp only
        rw [hK, htk, List.filter_append]
        simp only [List.filter_cons, h5', List.filter_nil]
        simpa using hgrow
    · have h5' : cfl c mem cf t k = true := by simpa using h5
      have o0 : p0 + (t : Int).toNat * 6 = p0 + qt * 6 := by rw [eqt, Int.toNat_natCast]
      have o1 : p1 + (k : Int).toNat * 6 = p1 + qk * 6 := by rw [eqk, Int.toNat_natCast]
      refine ⟨rfl, ⟨rfl, rfl⟩, ixq_ok 6 rfl rfl rfl rfl, ⟨c0, p0, w.vt.n, w.vt.cap, t⟩, by rw [ec0], by dsimp only; omega, srcT c t, by dsimp only; rw [o0, eqt]; exact L0, ⟨rfl, rfl⟩, ⟨rfl, rfl⟩, ixq_ok 6 rfl rfl rfl rfl, ⟨c1, p1, w.vt.n, w.vt.cap, k⟩, by rw [ec1], by dsimp only; omega, srcT c k, by dsimp only; rw [o1, eqk]; exact L1, inside_ok, rfl, ⟨b, c, srcT c t, srcT c k⟩, rfl, rfl, trivial, hr.sub (sub_rest 4 (by simp) rfl), fun _ _ => br_intro (fun h6 => ?_) (fun h6 => ⟨⟨rfl, rfl⟩, ⟨rfl, rfl⟩, fun b7 => ?_⟩)⟩
      · dsimp only at h6
        have hbk : bad c mem cf t k = true := by unfold bad; rw [h5', h6]; rfl
        have hall : K.any (bad c mem cf t) = true := List.any_eq_true.2 ⟨k, hkK, hbk⟩
        have est : resS c mem cf (ts.take (j' + 1)) = (Sn ++ [t], K) := by rw [hst2]; unfold rsK; rw [hall]; rfl
        exact ⟨⟨by omega, by omega⟩, ⟨j' + 1, w, bc, be, bm, m, r', 0, 0, 0, nilRow⟩, ⟨by dsimp only; omega, hw, by dsimp only; rw [est]; exact hex, by dsimp only; rw [est]; exact hrow'⟩, ⟨rfl, rfl, rfl, rfl, rfl, rfl, rfl, rfl, rfl, trivial⟩, Ent.pick [0, 1, 2, 3, 4] rfl rfl, by dsimp only; omega⟩
      · dsimp only at h6
        have hbk : bad c mem cf t k = false := by unfold bad; rw [h6, Bool.and_false]
        refine ⟨append_ok (P := Try.prog) 1 8 rfl rfl rfl rfl rfl rfl rfl (by decide), rfl, ⟨g, _, some ⟨b7, 0, none⟩, 1, 1, [.int .i64 k]⟩, rfl, rfl, ⟨hgrow, rfl, by simp [Value.oneCell'], by dsimp only; omega, by dsimp only; omega, by simp⟩, ?_, fun z hz => ⟨⟨rfl, rfl⟩, ⟨by omega, by omega⟩, ⟨j', w, bc, be, bm, m, r', i + 1, t, bg, z⟩, ⟨⟨q1, q2, by dsimp only; rw [hSn]; exact q3, q4, hw, by dsimp only; rw [hSn]; exact hex, by dsimp only; rw [hK]; exact hrow', by dsimp only; rw [hK]; omega, ?_, ?_⟩, rfl⟩, ⟨rfl, rfl, rfl, rfl, rfl, rfl, rfl, rfl, rfl, rfl, rfl, rfl, rfl, rfl, rfl, trivial⟩, Ent.pick [0, 1, 2, 3, 4, 5, 6] rfl rfl, by dsimp only; omega⟩⟩
        · intro ad e
          cases e
          exact Seg.rest (j := 19020) (by simp) (Seg.cells fun j u h => by rw [Nat.zero_add]; exact h)
        · dsimp only
          rw [hK, htk, List.any_append, hnb]
          simp [hbk]
        · dsimp only
          rw [hK, htk, List.filter_append]
          simp only [List.filter_cons, h5', List.filter_nil, if_true]
          rw [ints_append]
          exact hz.1
  · have hiK : K.take i = K := List.take_of_length_le (by omega)
    rw [hiK] at hnb hgrow hgnl
    refine ⟨delv_ok, rfl, ⟨⟨bg, 0, 0, 0, fun s => memB (K.filter (cfl c mem cf t)) s, fun _ => True, fun F => Look F ⟨bg, 0, none⟩ (.slice g.a g.n g.cap) ∧ Srcd F g.a (ints (K.filter (cfl c mem cf t))), fun _ _ h hk => ⟨hk.1.sub h, Srcd.sub h hk.2⟩, ⟨fun s F I w _ hr hs => rs2_ok.h ⟨bg, ⟨g.a, g.n, g.cap⟩, K.filter (cfl c mem cf t), s⟩ F I w ⟨hgrow.src, hgle⟩ hr hs⟩⟩, K, r'⟩, rfl, rfl, ⟨hrow', by dsimp only; omega, fun _ _ => trivial⟩, ⟨Look.rest (j := 5) (by simp) (Look.cells rfl), Srcd.sub (A := g.A) (sub_rest 6 (by simp) rfl) hgrow.srcd⟩, fun y hy b8 => ?_⟩
    dsimp only at hy
    have hdel : rest0 (fun s => memB (K.filter (cfl c mem cf t)) s) K = K.filter (fun k => !cfl c mem cf t k) := by
      unfold rest0
      refine List.filter_congr fun k hk => ?_
      show (!memB (K.filter (cfl c mem cf t)) k) = (!cfl c mem cf t k)
      cases hc2 : cfl c mem cf t k with
      | true => rw [memB_iff.2 (List.mem_filter.2 ⟨hk, hc2⟩)]
      | false =>
        cases hm2 : memB (K.filter (cfl c mem cf t)) k with
        | false => rfl
        | true =>
          have := (List.mem_filter.1 (memB_iff.1 hm2)).2
          rw [hc2] at this; cases this
    rw [hdel] at hy
    have hyn : y.n * 8 ≤ 140737488351232 := by
      have h7 := hy.len
      rw [ints_length] at h7
      have := List.length_filter_le (fun k => !cfl c mem cf t k) K
      omega
    have est : resS c mem cf (ts.take (j' + 1)) = (Sn ++ [t], K.filter (fun k => !cfl c mem cf t k) ++ [t]) := by rw [hst2]; unfold rsK; rw [hnb]; rfl
    refine ⟨append_ok (P := Try.prog) 1 8 rfl rfl rfl rfl rfl rfl rfl (by decide), rfl, ⟨y, _, some ⟨b8, 0, none⟩, 1, 1, [.int .i64 t]⟩, rfl, rfl, ⟨hy, rfl, by simp [Value.oneCell'], by dsimp only; omega, by dsimp only; omega, by simp⟩, ?_, fun z hz => ⟨⟨by omega, by omega⟩, ⟨j' + 1, w, bc, be, bm, m, z, 0, 0, 0, nilRow⟩, ⟨by dsimp only; omega, hw, by dsimp only; rw [est]; exact hex, ?_⟩, ⟨rfl, rfl, rfl, rfl, rfl, rfl, rfl, rfl, rfl, trivial⟩, Ent.pick [0, 1, 2, 22050, 4] rfl rfl, by dsimp only; omega⟩⟩
    · intro ad e
      cases e
      exact Seg.rest (j := 22040) (by simp) (Seg.cells fun j u h => by rw [Nat.zero_add]; exact h)
    · dsimp only
      rw [est, ints_append]
      exact hz.1
set_option maxRecDepth 100000 in
theorem rs_ok : FnOk Try.prog 42 resC :=
  fnOk (N := 97) (by kernel_rfl) Try.func42 rfl (by kernel_rfl) (fun _ => Nat.le_of_ble_eq_true rfl) rs_H [] fun x F hc hr => Eq.mpr (by kernel_rfl) (rs_vc x F hc hr)
end Go.Proofs.Ytkmdgnbfojkcnaa
