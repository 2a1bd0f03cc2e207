/- maps.Keys and slices.Sorted(maps.Keys(m)): contracts. -/
import Derived.Test.YtkmdgnbfojkcnaaChoK
import Derived.Test.YtkmdgnbfojkcnaaChoL
import Derived.Test.YtkmdgnbfojkcnaaLatE
namespace Go.Proofs.Ytkmdgnbfojkcnaa
open Go Go.Shelf Go.Sort
def keyC (g : FuncId) (t : TypeId) : Con where
  X := Nat
  Y := Nat
  args x := [.map (some x)]
  pre _ := []
  cond _ := True
  rdc _ _ := True
  rel _ _ := True
  val _ y := .returned (.func (.func g) #[] #[.pointer (some ⟨y, 0, none⟩)])
  post x y := [.cells y [.map (some x)] t]
def keyOv (_x : Nat) (_F : Atom) : List (Nat × Nat × OH) := [(0, 0, .n 1000)]
noncomputable def keyB_H (x : Con.X (keyC 118 125)) (F : Atom) : Hints where
  op := hk ((keyOv x F) ++ [])
  inv := (fun _ _ _ => none) x F
  cut := (fun _ _ _ => none) x F
  ord := (fun _ => [])
open Go.Value (int slice string bool pointer agg tuple func) in
open Go.IntKind (i64) in
set_option maxRecDepth 100000 in
theorem keyB_vc (x : Nat) (F : Atom) (hc : Con.cond (keyC 118 125) x) (hr : Con.rdc (keyC 118 125) x F) :
  ∀ (b : Nat), Done (keyC (118 : FuncId) (125 : TypeId)) x F (Ending.returned (func (Fn.func 118) { toList := [] } { toList := [pointer (some ⟨b, 0, none⟩)] })) [(0, F), (1000, Atom.cells b [Value.map (some x)] 125)] := by
  exact fun b => ⟨b, trivial, rfl, Ent.pick [1000, 0] rfl rfl⟩
set_option maxRecDepth 100000 in
theorem keyB_ok : FnOk Try.prog 94 (keyC 118 125) :=
  fnOk (N := 4) (by kernel_rfl) Try.func94 rfl (by kernel_rfl) (fun _ => Nat.le_of_ble_eq_true rfl) keyB_H [] fun x F hc hr => Eq.mpr (by kernel_rfl) (keyB_vc x F hc hr)
noncomputable def keyI_H (x : Con.X (keyC 117 124)) (F : Atom) : Hints where
  op := hk ((keyOv x F) ++ [])
  inv := (fun _ _ _ => none) x F
  cut := (fun _ _ _ => none) x F
  ord := (fun _ => [])
open Go.Value (int slice string bool pointer agg tuple func) in
open Go.IntKind (i64) in
set_option maxRecDepth 100000 in
theorem keyI_vc (x : Nat) (F : Atom) (hc : Con.cond (keyC 117 124) x) (hr : Con.rdc (keyC 117 124) x F) :
  ∀ (b : Nat), Done (keyC (117 : FuncId) (124 : TypeId)) x F (Ending.returned (func (Fn.func 117) { toList := [] } { toList := [pointer (some ⟨b, 0, none⟩)] })) [(0, F), (1000, Atom.cells b [Value.map (some x)] 124)] := by
  exact fun b => ⟨b, trivial, rfl, Ent.pick [1000, 0] rfl rfl⟩
set_option maxRecDepth 100000 in
theorem keyI_ok : FnOk Try.prog 93 (keyC 117 124) :=
  fnOk (N := 4) (by kernel_rfl) Try.func93 rfl (by kernel_rfl) (fun _ => Nat.le_of_ble_eq_true rfl) keyI_H [] fun x F hc hr => Eq.mpr (by kernel_rfl) (keyI_vc x F hc hr)
def keysOf {α : Type} (kv : List (Int × α)) : List Int := kv.map (·.1)
def sortI (l : List Int) : List Int := l.mergeSort leI
structure SoX where
  bx : Nat
  b : Nat
  kv : List (Int × Value)
def soC (g : FuncId) : Con where
  X := SoX
  Y := Row
  args x := [.func (.func g) #[] #[.pointer (some ⟨x.bx, 0, none⟩)]]
  pre _ := []
  cond x := (keysOf x.kv).Nodup ∧ (∀ p ∈ x.kv, (Lit.int .i64 p.1).wf = true) ∧ x.kv.length ≤ 1048576
  rdc x F := Look F ⟨x.bx, 0, none⟩ (.map (some x.b)) ∧ MapIn F x.b x.kv
  rel x y := IsRow 3 1 (ints (sortI (keysOf x.kv))) y
  val _ y := .returned (.slice y.a y.n y.cap)
  post _ y := [y.A]
  rmono _ _ _ h hk := ⟨hk.1.sub h, hk.2.sub h⟩
abbrev anyR : Value → Option (DataW Unit × List MemPlace) := fun _ => some (.lit (.bool true), [])
theorem mEl_keys : ∀ (kv : List (Int × Value)) (n : Nat), (mEl n kv).map (·.key) = (keysOf kv).map (Value.int .i64)
  | [], _ => rfl
  | (k, v) :: r, n => by
    rw [mEl, List.map_cons, mEl_keys r (n + 1)]
    rfl
theorem mEl_born : ∀ (kv : List (Int × Value)) (n : Nat), (mEl n kv).map (·.born) = (List.range kv.length).map (n + ·)
  | [], _ => rfl
  | (k, v) :: r, n => by
    rw [mEl, List.map_cons, mEl_born r (n + 1), List.length_cons, List.range_succ_eq_map, List.map_cons, List.map_map]
    congr 1
    refine List.map_congr_left fun a _ => ?_
    show n + 1 + a = n + (a + 1)
    omega
theorem mEl_mem {kv : List (Int × Value)} {n : Nat} {x : MapEntry} (h : x ∈ mEl n kv) : ∃ p ∈ kv, x.key = .int .i64 p.1 ∧ x.val = p.2 ∧ x.born < n + kv.length := by
  obtain ⟨j, hj⟩ := List.getElem?_of_mem h
  rw [mEl_get] at hj
  cases hp : kv[j]? with
  | none => rw [hp] at hj; simp at hj
  | some p =>
    rw [hp] at hj
    simp at hj
    have := (List.getElem?_eq_some_iff.1 hp).1
    exact ⟨p, List.mem_of_getElem? hp, by rw [← hj], by rw [← hj], by rw [← hj]; dsimp only; omega⟩
theorem owns_of {w : World} {b : Nat} {kv : List (Int × Value)} (hb : w.heap[b]? = some (mO kv)) (hn : (keysOf kv).Nodup) (hw : ∀ p ∈ kv, (Lit.int .i64 p.1).wf = true) (hl : kv.length ≤ 1048576) :
    ∃ D0 : DataW Unit, w.ownsMap Try.prog 3 anyR b kv.length D0 ∧ (intKeys D0).Perm (keysOf kv) ∧ Maps.size D0 = kv.length := by
  have hk : Try.prog.underlying 3 = some (.int .i64) := Try.underlying3
  have hrd : ∀ x ∈ mEl 0 kv, ∃ p ∈ kv, WideElems.rd Try.prog 3 anyR x = some (.int .i64 p.1, .lit (.bool true)) ∧ x.key = .int .i64 p.1 := by
    intro x hx
    obtain ⟨p, hp, h1, h2, h3⟩ := mEl_mem hx
    refine ⟨p, hp, ?_, h1⟩
    obtain ⟨xk, xv, xb⟩ := x
    dsimp only at h1
    subst h1
    exact WideElems.rd_mk (R := anyR) (yv := (.lit (.bool true), [])) (Maps.keyOf_int_mk hk (hw p hp)) rfl
  have hrg : (mEl 0 kv).map (WideElems.rg Try.prog 3 anyR) = (keysOf kv).map fun k => (Lit.int .i64 k, (.lit (.bool true) : DataW Unit)) := by
    have e1 : (mEl 0 kv).map (WideElems.rg Try.prog 3 anyR) = ((mEl 0 kv).map (·.key)).map fun v => (match v with | .int q k => (Lit.int q k, (.lit (.bool true) : DataW Unit)) | _ => (.bool false, .nil)) := by
      rw [List.map_map]
      refine List.map_congr_left fun x hx => ?_
      obtain ⟨p, _, h1, h2⟩ := hrd x hx
      rw [WideElems.rg_of h1]
      simp [h2]
    rw [e1, mEl_keys, List.map_map]
    rfl
  have hsz : (mEl 0 kv).length = kv.length := mEl_length kv 0
  refine ⟨_, ⟨⟨mEl 0 kv⟩, kv.length, hb, ⟨?_, ⟨?_, ?_, ?_⟩, ?_⟩, by show (mEl 0 kv).length ≤ _; omega, rfl⟩, ?_, ?_⟩
  · show (mEl 0 kv).length ≤ _
    rw [hsz]
    unfold maxLen
    omega
  · intro x hx
    obtain ⟨p, _, _, _, h⟩ := mEl_mem hx
    omega
  · show ((mEl 0 kv).map (·.born)).Nodup
    rw [mEl_born]
    refine List.Pairwise.map _ (fun a b h => ?_) List.nodup_range
    show ¬ 0 + a = 0 + b
    omega
  · show ((mEl 0 kv).map (·.key)).Nodup
    rw [mEl_keys]
    refine List.Pairwise.map _ (fun a b h => ?_) hn
    intro e
    exact h (by simpa using e)
  · intro x hx
    obtain ⟨p, _, h1, _⟩ := hrd x hx
    exact ⟨_, h1⟩
  · have hp := WideShapes.sorted_perm (H := Unit) ((mEl 0 kv).map (WideElems.rg Try.prog 3 anyR))
    have h2 := hp.map fun p : Lit × DataW Unit => Go.intOf p.1
    refine List.Perm.trans (show (intKeys _).Perm _ from h2) ?_
    rw [hrg, List.map_map]
    have e : (keysOf kv).map ((fun p : Lit × DataW Unit => Go.intOf p.1) ∘ fun k => (Lit.int .i64 k, (.lit (.bool true) : DataW Unit))) = keysOf kv := List.map_id _
    rw [e]
  · have hp := WideShapes.sorted_perm (H := Unit) ((mEl 0 kv).map (WideElems.rg Try.prog 3 anyR))
    show ((((mEl 0 kv).map (WideElems.rg Try.prog 3 anyR)).foldr DataW.insert []).length) = kv.length
    rw [hp.length_eq, List.length_map, hsz]
theorem sat_ownRow {I : Imm} {F : Atom} {w w' : World} {v : Value} {ss : List Int} (hs : Sat I (ofL [F]) w) (hb : Go.RowKit.Below w.heap.size w w') (hrow : w'.ownsRow w.heap.size 3 1 v ss.length (ints ss)) :
    ∃ y : Row, IsRow 3 1 (ints ss) y ∧ v = .slice y.a y.n y.cap ∧ Sat I (ofL [y.A, F]) w' := by
  obtain ⟨⟨f, h1, h2, h3⟩, hi⟩ := hs
  have hlt : ∀ b o, I b = some o → b < w.heap.size := fun b o h => by
    have := hi b o h
    have : w.heap[b]? = some o := this
    exact (Array.getElem?_eq_some_iff.1 this).1
  have hi' : Cons I (hp w') := fun b o h => by
    show w'.heap[b]? = some o
    rw [hb.block b (hlt b o h)]
    exact hi b o h
  have hF : F.holds I (hp w') (f 0) := Atom.local (fun b hb' => (hb.block b (h3 0 b hb').2).symm) (h1 0)
  obtain ⟨hlen, (⟨rfl, hz⟩ | ⟨g, cap, cur, rfl, hg, hgb, r1, r2, r3, r4⟩)⟩ := hrow
  · have : ss = [] := List.eq_nil_of_length_eq_zero hz
    subst this
    refine ⟨nilRow, .nil rfl, rfl, ⟨⟨fun j => if j = 1 then f 0 else fun _ => False, fun j => ?_, fun i j b ha hb' => ?_, fun j b ha => ?_⟩, hi'⟩⟩
    · match j with
      | 0 => trivial
      | 1 => exact hF
      | j + 2 => trivial
    · by_cases e1 : i = 1
      · by_cases e2 : j = 1
        · omega
        · simp [e2] at hb'
      · simp [e1] at ha
    · by_cases e1 : j = 1
      · simp only [e1, if_true] at ha
        exact ⟨(h3 0 b ha).1, Nat.lt_of_lt_of_le (h3 0 b ha).2 hb.size⟩
      · simp [e1] at ha
  · have hcur : cur = ⟨ints ss ++ cur.toList.drop ss.length⟩ := by
      apply Array.ext'
      rw [← r4, Nat.mul_one, List.take_append_drop]
    have hcl : cur.toList.length = cap := by rw [Array.length_toList, r3, Nat.mul_one]
    have hsl : (ints ss).length = ss.length := by unfold ints; simp
    have hgs : g < w'.heap.size := (Array.getElem?_eq_some_iff.1 hgb).1
    refine ⟨⟨some ⟨g, 0, none⟩, ss.length, cap, .cells g (ints ss ++ cur.toList.drop ss.length) 3⟩, .blk g ss.length cap _ (by rw [hsl]; omega) ?_ r1, rfl, ⟨⟨fun j => if j = 0 then fun b => b = g else if j = 1 then f 0 else fun _ => False, fun j => ?_, fun i j b ha hb' => ?_, fun j b ha => ?_⟩, hi'⟩⟩
    · rw [List.length_append, hsl, List.length_drop, hcl]; omega
    · match j with
      | 0 => exact ⟨rfl, by show w'.heap[g]? = _; rw [hgb, ← hcur]⟩
      | 1 => exact hF
      | j + 2 => trivial
    · by_cases e1 : i = 0
      · by_cases e2 : j = 0
        · omega
        · by_cases e3 : j = 1
          · simp [e1] at ha
            simp [e3] at hb'
            have := (h3 0 b hb').2
            omega
          · simp [e2, e3] at hb'
      · by_cases e4 : i = 1
        · by_cases e2 : j = 0
          · simp [e4] at ha
            simp [e2] at hb'
            have := (h3 0 b ha).2
            omega
          · by_cases e3 : j = 1
            · omega
            · simp [e2, e3] at hb'
        · simp [e1, e4] at ha
    · by_cases e1 : j = 0
      · simp [e1] at ha
        subst ha
        refine ⟨?_, hgs⟩
        cases hI : I b with
        | none => rfl
        | some o => have := hlt b o hI; omega
      · by_cases e3 : j = 1
        · simp [e3] at ha
          exact ⟨(h3 0 b ha).1, Nat.lt_of_lt_of_le (h3 0 b ha).2 hb.size⟩
        · simp [e1, e3] at ha
theorem sorts_in (m : Nat) : AnyZI.SortsIn Try.prog sortedL_ren Fence.wide m :=
  ⟨fun blk off cap ss W hH hblk hsz => callsIn_wide.2 (AnyM.slices_Sort_int sortL blk off cap ss W hH hblk hsz),
   fun p cap W => callsIn_wide.2 (AnyM.slices_Sort_int_none sortL p cap W)⟩
theorem soB_ok : FnOk Try.prog 92 (soC 118) := by
  refine ⟨fun x F I w hc hr hs => ?_⟩
  obtain ⟨bx, b, kv⟩ := x
  obtain ⟨hnd, hwf, hl⟩ := hc
  obtain ⟨hr1, hr2⟩ := hr
  dsimp only at hnd hwf hl hr1 hr2
  have hcell : w.cell? ⟨bx, 0, none⟩ = some (.map (some b)) := hs.look (j := 0) hr1
  have hblk : w.heap[b]? = some (mO kv) := hs.mapIn (j := 0) hr2
  have hbx : bx < w.heap.size := by
    unfold World.cell? at hcell
    cases e : w.heap[bx]? with
    | none => dsimp only at hcell; rw [e] at hcell; simp at hcell
    | some o => exact (Array.getElem?_eq_some_iff.1 e).1
  obtain ⟨D0, hown, hperm, hsz⟩ := owns_of hblk hnd hwf hl
  have hmax : Maps.size D0 ≤ maxLen := by rw [hsz]; unfold maxLen; omega
  have hbytes : Maps.size D0 * 8 ≤ 140737488355328 := by rw [hsz]; omega
  have hseq : SeqGives Fence.wide 2 Try.prog 118 #[.pointer (some ⟨bx, 0, none⟩)] encZ (fun ss => ss.Perm (intKeys D0)) (Maps.size D0) w :=
    AnyZI.keys_gives (ρ := keysB_ren) { keysB with } Fence.wide _ trivial rfl (by omega) bx b kv.length D0 w hbx hcell hown
  have cS := AnyZI.sorted_in sortedL Fence.wide 5 trivial trivial trivial trivial rfl (by omega) (sorts_in _) (enters_of Try.func116 (by kernel_rfl) rfl) 118 #[.pointer (some ⟨bx, 0, none⟩)] trivial (enters_of Try.func118 (by kernel_rfl) rfl) _ _ hmax hbytes w hseq
  change CallsIn _ _ Try.prog 92 _ _ _ at cS
  refine (callsIn_wide.1 cS).mono ?_
  rintro e w' ⟨v, ss, rfl, hS, hrow, -, hbel⟩
  have hms : ss.mergeSort (fun x y => decide (x ≤ y)) = sortI (keysOf kv) := mergeSort_of_perm_i (hS.trans hperm)
  rw [hms] at hrow
  have hlen : ss.length = (sortI (keysOf kv)).length := by rw [← hms]; exact (List.mergeSort_perm _ _).length_eq.symm
  rw [hlen] at hrow
  obtain ⟨y, h1, h2, h3⟩ := sat_ownRow hs hbel hrow
  exact ⟨y, I, h1, by rw [h2]; rfl, Imm.le_refl I, h3, hbel.os, hbel.output⟩
theorem soI_ok : FnOk Try.prog 92 (soC 117) := by
  refine ⟨fun x F I w hc hr hs => ?_⟩
  obtain ⟨bx, b, kv⟩ := x
  obtain ⟨hnd, hwf, hl⟩ := hc
  obtain ⟨hr1, hr2⟩ := hr
  dsimp only at hnd hwf hl hr1 hr2
  have hcell : w.cell? ⟨bx, 0, none⟩ = some (.map (some b)) := hs.look (j := 0) hr1
  have hblk : w.heap[b]? = some (mO kv) := hs.mapIn (j := 0) hr2
  have hbx : bx < w.heap.size := by
    unfold World.cell? at hcell
    cases e : w.heap[bx]? with
    | none => dsimp only at hcell; rw [e] at hcell; simp at hcell
    | some o => exact (Array.getElem?_eq_some_iff.1 e).1
  obtain ⟨D0, hown, hperm, hsz⟩ := owns_of hblk hnd hwf hl
  have hmax : Maps.size D0 ≤ maxLen := by rw [hsz]; unfold maxLen; omega
  have hbytes : Maps.size D0 * 8 ≤ 140737488355328 := by rw [hsz]; omega
  have hseq : SeqGives Fence.wide 2 Try.prog 117 #[.pointer (some ⟨bx, 0, none⟩)] encZ (fun ss => ss.Perm (intKeys D0)) (Maps.size D0) w :=
    AnyZI.keys_gives (ρ := keysI_ren) { keysI with } Fence.wide _ trivial rfl (by omega) bx b kv.length D0 w hbx hcell hown
  have cS := AnyZI.sorted_in sortedL Fence.wide 5 trivial trivial trivial trivial rfl (by omega) (sorts_in _) (enters_of Try.func116 (by kernel_rfl) rfl) 117 #[.pointer (some ⟨bx, 0, none⟩)] trivial (enters_of Try.func117 (by kernel_rfl) rfl) _ _ hmax hbytes w hseq
  change CallsIn _ _ Try.prog 92 _ _ _ at cS
  refine (callsIn_wide.1 cS).mono ?_
  rintro e w' ⟨v, ss, rfl, hS, hrow, -, hbel⟩
  have hms : ss.mergeSort (fun x y => decide (x ≤ y)) = sortI (keysOf kv) := mergeSort_of_perm_i (hS.trans hperm)
  rw [hms] at hrow
  have hlen : ss.length = (sortI (keysOf kv)).length := by rw [← hms]; exact (List.mergeSort_perm _ _).length_eq.symm
  rw [hlen] at hrow
  obtain ⟨y, h1, h2, h3⟩ := sat_ownRow hs hbel hrow
  exact ⟨y, I, h1, by rw [h2]; rfl, Imm.le_refl I, h3, hbel.os, hbel.output⟩
end Go.Proofs.Ytkmdgnbfojkcnaa
