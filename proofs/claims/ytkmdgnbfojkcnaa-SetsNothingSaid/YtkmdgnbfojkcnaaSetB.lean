/- The walker: fresh. -/
import Derived.Test.YtkmdgnbfojkcnaaSetA
import Derived.Test.YtkmdgnbfojkcnaaChoJ
set_option linter.all false
namespace Go.Proofs.Ytkmdgnbfojkcnaa
open Go
set_option maxHeartbeats 1000000
def frB (c : ChD) (el : List Int) (s : Int) : Bool := !(el.any fun e => e == s || inB c e s)
theorem nat_len {l : List Nat} {n : Nat} (h : l.Nodup) (hl : ∀ j ∈ l, j < n) : l.length ≤ n := by
  have := nodup_len (l.map Int.ofNat) ((List.range n).map Int.ofNat) (List.Pairwise.map _ (fun a b h e => h (Int.ofNat.inj e)) h) fun u hu => by
    obtain ⟨j, hj, rfl⟩ := List.mem_map.1 hu
    exact List.mem_map.2 ⟨j, List.mem_range.2 (hl j hj), rfl⟩
  simpa using this
theorem eK_len (l : List Int) : (eK l).length = l.length := List.length_map _
theorem gK_len (l : List Int) : (gK l).length = l.length := List.length_map _
structure FrX where
  wb : Nat
  b : Nat
  c : ChD
  eb : Nat
  el : List Int
  s : Int
def frC : Con where
  X := FrX
  Y := Unit
  args x := [.pointer (some ⟨x.wb, 0, none⟩), .int .i64 x.s]
  pre _ := []
  cond _ := True
  rdc x F := Look F ⟨x.wb, 0, none⟩ (.pointer (some ⟨x.b, 0, none⟩)) ∧ Look F ⟨x.wb, 2, none⟩ (.map (some x.eb)) ∧ MapIn F x.eb (eK x.el) ∧ LatIn F x.b x.c
  rel _ _ := True
  val x _ := .returned (.bool (frB x.c x.el x.s))
  post _ _ := []
  rmono _ _ _ h hk := ⟨hk.1.sub h, hk.2.1.sub h, hk.2.2.1.sub h, hk.2.2.2.sub h⟩
structure FrI where
  r : Nat
  seen : List Nat
structure FrP (x : FrX) (i : FrI) : Prop where
  nd : i.seen.Nodup
  lt : ∀ j ∈ i.seen, j < x.el.length
  no : ∀ j ∈ i.seen, ∀ e, x.el[j]? = some e → (e == x.s || inB x.c e x.s) = false
def frInv (x : FrX) (F : Atom) : Nat → Option Inv := fun
  | 0 => some { X := FrI, P := fun i => FrP x i, mu := fun i => x.el.length - i.seen.length, lv := fun i => [(0, .pointer (some ⟨x.wb, 0, none⟩)), (1, .int .i64 x.s), (10, .pointer (some ⟨i.r, 0, none⟩))], st := fun i => [itA i.r x.eb (eK x.el).length i.seen, F] }
  | _ => none
def frOv (x : FrX) (_F : Atom) : List (Nat × Nat × OH) := [(1, 3, .q [.ex 0 (.is (.map (some x.eb)))]), (1, 4, .o rgC [] [2040]), (2, 0, .o nxC [0] [0]), (3, 0, .o etC [0] [0]), (4, 7, .q [.ex 1 (.is (.pointer (some ⟨x.b, 0, none⟩)))]), (4, 10, .c insideC [] [])]
noncomputable def fr_H (x : Con.X frC) (F : Atom) : Hints where
  op := hk ((frOv x F) ++ [])
  inv := frInv x F
  cut := (fun _ _ _ => none) x F
  ord := (fun _ => [])
open Go.Value (int slice string bool pointer agg tuple func) in
open Go.IntKind (i64) in
set_option maxRecDepth 100000 in
theorem fr_vc (x : FrX) (F : Atom) (hc : Con.cond frC x) (hr : Con.rdc frC x F) :
  Look F ⟨x.wb, 2, none⟩ (Value.map (some x.eb)) ∧
 OpOk Try.prog { dst := some 10, op := Op.range 124 (Operand.tmp 9), type := 0, pos := "sets.go:102", after := { toList := [{ on := 3, ground := Ground.data }] }, guard := none } rgC ∧
 true = true ∧
 ∃ (x_1 : RgX),
 [Value.map (some x.eb)] = [Value.map (some x_1.b)] ∧
 ([] : List Atom) = [] ∧
 True ∧
 MapIn (Atom.pred (rest [(0, F)] [])) x_1.b x_1.kv ∧
 ∀ (y : Nat),
 True →
 (∃ (x_2 : FrI), FrP x x_2 ∧ (pointer (some ⟨x.wb, 0, none⟩) = pointer (some ⟨x.wb, 0, none⟩) ∧ int i64 x.s = int i64 x.s ∧ pointer (some ⟨y, 0, none⟩) = pointer (some ⟨x_2.r, 0, none⟩) ∧ True) ∧ Ent [(0, F), (2040, Atom.obj y (Obj.mapIter (some x_1.b) x_1.kv.length { toList := [] } x_1.kv.length))] [(0, Atom.obj x_2.r (Obj.mapIter (some x.eb) (eK x.el).length { toList := x_2.seen } (eK x.el).length)), (1, F)]) ∧
 ∀ (x_2 : FrI) (js : Nat → Value),
 FrP x x_2 →
 OpOk Try.prog { dst := some 11, op := Op.next (Operand.tmp 10) false, type := 0, pos := "sets.go:102", after := { toList := [] }, guard := none } nxC ∧
 true = true ∧
 ∃ (x_3 : NxX),
 [pointer (some ⟨x_2.r, 0, none⟩)] = [pointer (some ⟨x_3.r, 0, none⟩)] ∧
 [Atom.obj x_2.r (Obj.mapIter (some x.eb) (eK x.el).length { toList := x_2.seen } (eK x.el).length)] = [Atom.obj x_3.r (Obj.mapIter (some x_3.b) x_3.kv.length { toList := x_3.seen } x_3.kv.length)] ∧
 True ∧
 MapIn (Atom.pred (rest [(0, Atom.obj x_2.r (Obj.mapIter (some x.eb) (eK x.el).length { toList := x_2.seen } (eK x.el).length)), (1, F)] [0])) x_3.b x_3.kv ∧
 ∀ (y : NxY),
 (y.go = false ∧ ∀ (i : Nat), i < x_3.kv.length → i ∈ x_3.seen) ∨ y.go = true ∧ y.i < x_3.kv.length ∧ ¬y.i ∈ x_3.seen →
 Br y.go
 (OpOk Try.prog { dst := some 13, op := Op.entry (Operand.tmp 10), type := 0, pos := "sets.go:102", after := { toList := [] }, guard := none } etC ∧
 true = true ∧
 ∃ (x_4 : EnX),
 [pointer (some ⟨x_2.r, 0, none⟩)] = [pointer (some ⟨x_4.r, 0, none⟩)] ∧
 [Atom.obj x_3.r (Obj.mapIter (some x_3.b) x_3.kv.length { toList := bif y.go then x_3.seen ++ [y.i] else x_3.seen } x_3.kv.length)] = [Atom.obj x_4.r (Obj.mapIter (some x_4.b) x_4.kv.length { toList := x_4.seen ++ [x_4.i] } x_4.kv.length)] ∧
 x_4.kv[x_4.i]? = some (x_4.k, x_4.v) ∧
 MapIn (Atom.pred (rest [(0, Atom.obj x_3.r (Obj.mapIter (some x_3.b) x_3.kv.length { toList := bif y.go then x_3.seen ++ [y.i] else x_3.seen } x_3.kv.length)), (1, F)] [0])) x_4.b x_4.kv ∧
 ∀ (y : Unit),
 True →
 Br (x_4.k == x.s) (Done frC x F (Ending.returned (bool false)) [(0, Atom.obj x_4.r (Obj.mapIter (some x_4.b) x_4.kv.length { toList := x_4.seen ++ [x_4.i] } x_4.kv.length)), (1, F)])
 (Look F ⟨x.wb, 0, none⟩ (pointer (some ⟨x.b, 0, none⟩)) ∧
 FnOk Try.prog 18 insideC ∧
 true = true ∧
 ∃ (x_5 : L2X),
 [pointer (some ⟨x.b, 0, none⟩), int i64 x_4.k, int i64 x.s] = [pointer (some ⟨x_5.b, 0, none⟩), int i64 x_5.a, int i64 x_5.d] ∧
 ([] : List Atom) = [] ∧
 True ∧
 LatIn (Atom.pred (rest [(0, Atom.obj x_4.r (Obj.mapIter (some x_4.b) x_4.kv.length { toList := x_4.seen ++ [x_4.i] } x_4.kv.length)), (1, F)] [])) x_5.b x_5.c ∧
 ∀ (y : Unit), True → Br (inB x_5.c x_5.a x_5.d) (Done frC x F (Ending.returned (bool false)) [(0, Atom.obj x_4.r (Obj.mapIter (some x_4.b) x_4.kv.length { toList := x_4.seen ++ [x_4.i] } x_4.kv.length)), (1, F)]) (∃ (y : FrI), FrP x y ∧ (pointer (some ⟨x.wb, 0, none⟩) = pointer (some ⟨x.wb, 0, none⟩) ∧ int i64 x.s = int i64 x.s ∧ pointer (some ⟨x_2.r, 0, none⟩) = pointer (some ⟨y.r, 0, none⟩) ∧ True) ∧ Ent [(0, Atom.obj x_4.r (Obj.mapIter (some x_4.b) x_4.kv.length { toList := x_4.seen ++ [x_4.i] } x_4.kv.length)), (1, F)] [(0, Atom.obj y.r (Obj.mapIter (some x.eb) (eK x.el).length { toList := y.seen } (eK x.el).length)), (1, F)] ∧ x.el.length - y.seen.length < x.el.length - x_2.seen.length)))
 (Done frC x F (Ending.returned (bool true)) [(0, Atom.obj x_3.r (Obj.mapIter (some x_3.b) x_3.kv.length { toList := bif y.go then x_3.seen ++ [y.i] else x_3.seen } x_3.kv.length)), (1, F)]) := by
  obtain ⟨wb, b, c, eb, el, s⟩ := x
  obtain ⟨r0, r2, hm, hr⟩ := hr
  dsimp only at r0 r2 hm hr ⊢
  have hkl := eK_len el
  refine ⟨r2, rg_ok rfl Try.underlying124, rfl, ⟨eb, eK el⟩, rfl, rfl, trivial, hm.sub (sub_rest 0 (by simp) rfl), fun r _ => ⟨⟨⟨r, []⟩, ⟨List.nodup_nil, by simp, by simp⟩, ⟨rfl, rfl, rfl, trivial⟩, Ent.pick [2040, 0] rfl rfl⟩, ?_⟩⟩
  clear r
  rintro ⟨r, seen⟩ js ⟨hnd, hlt, hno⟩
  dsimp only at hnd hlt hno ⊢
  refine ⟨nx_ok rfl, rfl, ⟨r, eb, eK el, seen⟩, rfl, rfl, trivial, hm.sub (sub_rest 1 (by simp) rfl), fun y hy => ?_⟩
  obtain ⟨go, i, vs⟩ := y
  dsimp only at hy ⊢
  refine br_intro (fun hg => ?_) (fun hg => ?_)
  · subst hg
    obtain ⟨hi, hni⟩ : i < (eK el).length ∧ i ∉ seen := by
      rcases hy with ⟨h1, _⟩ | ⟨_, h2⟩
      · cases h1
      · exact h2
    obtain ⟨e, he⟩ : ∃ e, el[i]? = some e := ⟨_, List.getElem?_eq_getElem (by omega)⟩
    have hek : (eK el)[i]? = some (e, .int .i64 e) := by unfold eK; rw [List.getElem?_map, he]; rfl
    have hin : e ∈ el := List.mem_of_getElem? he
    have hnd2 : (seen ++ [i]).Nodup := by
      rw [List.nodup_append]
      refine ⟨hnd, by simp, fun a ha b hb e => ?_⟩
      rw [List.mem_singleton] at hb
      exact hni (by rw [← hb, ← e]; exact ha)
    have hlt2 : ∀ j ∈ seen ++ [i], j < el.length := fun j hj => by
      rcases List.mem_append.1 hj with hj | hj
      · exact hlt j hj
      · rw [List.mem_singleton] at hj
        omega
    have hsl := nat_len hnd2 hlt2
    rw [List.length_append] at hsl
    refine ⟨et_ok rfl, rfl, ⟨r, eb, eK el, seen, i, e, .int .i64 e⟩, rfl, rfl, hek, hm.sub (sub_rest 1 (by simp) rfl), fun _ _ => br_intro (fun h1 => ⟨(), trivial, retB ?_, Ent.pick [1] rfl rfl⟩) (fun h1 => ⟨r0, inside_ok, rfl, ⟨b, c, e, s⟩, rfl, rfl, trivial, hr.sub (sub_rest 1 (by simp) rfl), fun _ _ => br_intro (fun h2 => ⟨(), trivial, retB ?_, Ent.pick [1] rfl rfl⟩) (fun h2 => ⟨⟨r, seen ++ [i]⟩, ⟨hnd2, hlt2, fun j hj e' he' => ?_⟩, ⟨rfl, rfl, rfl, trivial⟩, Ent.pick [0, 1] rfl rfl, ?_⟩)⟩)⟩
    · dsimp only at h1
      unfold frB
      rw [List.any_eq_true.2 ⟨e, hin, by rw [h1]; rfl⟩]; rfl
    · dsimp only at h1 h2
      unfold frB
      rw [List.any_eq_true.2 ⟨e, hin, by rw [h1, h2]; rfl⟩]; rfl
    · rcases List.mem_append.1 hj with hj | hj
      · exact hno j hj e' he'
      · rw [List.mem_singleton] at hj
        subst hj
        rw [he] at he'
        obtain rfl := Option.some.inj he'
        dsimp only at h1 h2 ⊢
        rw [h1, h2]; rfl
    · dsimp only
      rw [List.length_append]
      simp only [List.length_singleton] at hsl ⊢
      omega
  · subst hg
    have hall : ∀ i, i < (eK el).length → i ∈ seen := by
      rcases hy with ⟨_, h1⟩ | ⟨h1, _⟩
      · exact h1
      · cases h1
    refine ⟨(), trivial, retB ?_, Ent.pick [1] rfl rfl⟩
    unfold frB
    cases ha : el.any fun e => e == s || inB c e s with
    | false => rfl
    | true =>
      obtain ⟨e, h1, h2⟩ := List.any_eq_true.1 ha
      obtain ⟨j, hj, h3⟩ := List.mem_iff_getElem.1 h1
      have := hno j (hall j (by omega)) e (by rw [List.getElem?_eq_getElem hj, h3])
      rw [this] at h2; cases h2
set_option maxRecDepth 100000 in
theorem fr_ok : FnOk Try.prog 124 frC :=
  fnOk (N := 27) (by kernel_rfl) Try.func124 rfl (by kernel_rfl) (fun _ => Nat.le_of_ble_eq_true rfl) fr_H [] fun x F hc hr => Eq.mpr (by kernel_rfl) (fr_vc x F hc hr)
end Go.Proofs.Ytkmdgnbfojkcnaa
