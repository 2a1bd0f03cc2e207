/- The sets laws' second argument; large; the law SetsNothing. -/
import Derived.Test.YtkmdgnbfojkcnaaSetF
set_option linter.all false
namespace Go.Proofs.Ytkmdgnbfojkcnaa
open Go
set_option maxHeartbeats 1000000
structure Mv4 where
  c : ChD
  w : ChS
  g : Sl
  cf : List Int
  h : Sl
  s : Sl
  m : Sl
  mem : List (List Int)
def mo4S (x : Mv4) : List Value := [.slice x.g.a x.g.n x.g.cap, .slice x.h.a x.h.n x.h.cap, .slice x.s.a x.s.n x.s.cap, .slice x.m.a x.m.n x.m.cap]
def mo4Agg (x : Mv4) : Value := .agg #[.slice x.g.a x.g.n x.g.cap, .slice x.h.a x.h.n x.h.cap, .slice x.s.a x.s.n x.s.cap, .slice x.m.a x.m.n x.m.cap]
structure Mv4Ok (x : Mv4) : Prop where
  g : IsSrc 1 (ints x.cf) x.g.a x.g.n
  gn : x.g.n * 8 ≤ 140737488351232
structure Mv4In (F : Atom) (x : Mv4) : Prop where
  ch : ChIn F x.w.v x.c
  g : Srcd F x.g.a (ints x.cf)
  m : MemIn F (.slice x.m.a x.m.n x.m.cap) x.mem
theorem Mv4In.sub {A B : Atom} {x : Mv4} (hs : Sub A B) (h : Mv4In A x) : Mv4In B x := ⟨h.ch.sub hs, Srcd.sub hs h.g, h.m.sub hs⟩
def lg4C : Con where
  X := Mv4
  Y := Bool
  args x := [chAgg x.c x.w, mo4Agg x]
  pre _ := []
  cond _ := True
  rdc x F := Mv4In F x
  rel x y := y = false → x.w.vt.n ≤ 120
  val _ y := .returned (.bool y)
  post _ _ := []
  rmono _ _ _ h hk := hk.sub h
structure Lg4I where
  i : Nat
  b : Nat
  b3 : Nat
def lg4Inv (x : Mv4) (F : Atom) : Nat → Option Inv := fun
  | 0 => some { X := Lg4I, P := fun i => i.i ≤ x.m.n ∧ x.w.vt.n ≤ 120, mu := fun i => x.m.n - i.i, lv := fun i => [(42, .slice x.m.a x.m.n x.m.cap), (43, .int .i64 x.m.n), (44, .int .i64 i.i)], st := fun i => [.cells i.b (chS x.c x.w) 28, .cells i.b3 (mo4S x) 78, F] }
  | _ => none
def lg4Ov (_x : Mv4) (_F : Atom) : List (Nat × Nat × OH) := [(0, 0, .n 1000), (0, 1, .n 1010), (1, 1, .q [.atj 1000]), (1, 6, .q [.atj 1000]), (1, 12, .q [.atj 1010]), (1, 18, .q [.atj 1010]), (1, 24, .q [.atj 1010]), (1, 30, .q [.atj 1010]), (3, 1, .q [.atj 1010]), (5, 0, .qo (ixQ 1)), (5, 1, .q [.ex 2 .slice])]
noncomputable def lg4_H (x : Con.X lg4C) (F : Atom) : Hints where
  op := hk ((lg4Ov x F) ++ [])
  inv := lg4Inv x F
  cut := (fun _ _ _ => none) x F
  ord := (fun _ => [])
open Go.Value (int slice string bool pointer agg tuple func) in
open Go.IntKind (i64) in
set_option maxRecDepth 100000 in
theorem lg4_vc (x : Mv4) (F : Atom) (hc : Con.cond lg4C x) (hr : Con.rdc lg4C x F) :
  ∀ (b b_1 : Nat),
 Same ⟨b, 3, none⟩ b ∧
 Br (decide ((↑x.w.vs.n : Int) > (60 : Int))) (Done lg4C x F (Ending.returned (bool true)) [(0, F), (1000, Atom.cells b (chS x.c x.w) 28), (1010, Atom.cells b_1 [slice x.g.a x.g.n x.g.cap, slice x.h.a x.h.n x.h.cap, slice x.s.a x.s.n x.s.cap, slice x.m.a x.m.n x.m.cap] 78)])
 (Same ⟨b, 4, none⟩ b ∧
 Br (decide ((↑x.w.vt.n : Int) > (120 : Int))) (Done lg4C x F (Ending.returned (bool true)) [(0, F), (1000, Atom.cells b (chS x.c x.w) 28), (1010, Atom.cells b_1 [slice x.g.a x.g.n x.g.cap, slice x.h.a x.h.n x.h.cap, slice x.s.a x.s.n x.s.cap, slice x.m.a x.m.n x.m.cap] 78)])
 (Same ⟨b_1, 0, none⟩ b_1 ∧
 Br (decide ((↑x.g.n : Int) > (80 : Int))) (Done lg4C x F (Ending.returned (bool true)) [(0, F), (1000, Atom.cells b (chS x.c x.w) 28), (1010, Atom.cells b_1 [slice x.g.a x.g.n x.g.cap, slice x.h.a x.h.n x.h.cap, slice x.s.a x.s.n x.s.cap, slice x.m.a x.m.n x.m.cap] 78)])
 (Same ⟨b_1, 1, none⟩ b_1 ∧
 Br (decide ((↑x.h.n : Int) > (80 : Int))) (Done lg4C x F (Ending.returned (bool true)) [(0, F), (1000, Atom.cells b (chS x.c x.w) 28), (1010, Atom.cells b_1 [slice x.g.a x.g.n x.g.cap, slice x.h.a x.h.n x.h.cap, slice x.s.a x.s.n x.s.cap, slice x.m.a x.m.n x.m.cap] 78)])
 (Same ⟨b_1, 3, none⟩ b_1 ∧
 Br (decide ((↑x.m.n : Int) > (80 : Int))) (Done lg4C x F (Ending.returned (bool true)) [(0, F), (1000, Atom.cells b (chS x.c x.w) 28), (1010, Atom.cells b_1 [slice x.g.a x.g.n x.g.cap, slice x.h.a x.h.n x.h.cap, slice x.s.a x.s.n x.s.cap, slice x.m.a x.m.n x.m.cap] 78)])
 (Same ⟨b_1, 2, none⟩ b_1 ∧
 Br (decide ((↑x.s.n : Int) > (20 : Int))) (Done lg4C x F (Ending.returned (bool true)) [(0, F), (1000, Atom.cells b (chS x.c x.w) 28), (1010, Atom.cells b_1 [slice x.g.a x.g.n x.g.cap, slice x.h.a x.h.n x.h.cap, slice x.s.a x.s.n x.s.cap, slice x.m.a x.m.n x.m.cap] 78)])
 (Same ⟨b_1, 3, none⟩ b_1 ∧
 (∃ (x_1 : Lg4I),
 (x_1.i ≤ x.m.n ∧ x.w.vt.n ≤ 120) ∧
 (slice x.m.a x.m.n x.m.cap = slice x.m.a x.m.n x.m.cap ∧ int i64 (↑x.m.n : Int) = int i64 (↑x.m.n : Int) ∧ int i64 (0 : Int) = int i64 (↑x_1.i : Int) ∧ True) ∧
 Ent [(0, F), (1000, Atom.cells b (chS x.c x.w) 28), (1010, Atom.cells b_1 [slice x.g.a x.g.n x.g.cap, slice x.h.a x.h.n x.h.cap, slice x.s.a x.s.n x.s.cap, slice x.m.a x.m.n x.m.cap] 78)]
 [(0, Atom.cells x_1.b (chS x.c x.w) 28), (1, Atom.cells x_1.b3 [slice x.g.a x.g.n x.g.cap, slice x.h.a x.h.n x.h.cap, slice x.s.a x.s.n x.s.cap, slice x.m.a x.m.n x.m.cap] 78), (2, F)]) ∧
 ∀ (x_1 : Lg4I) (js : Nat → Value),
 x_1.i ≤ x.m.n ∧ x.w.vt.n ≤ 120 →
 Br (decide ((↑x_1.i : Int) < (↑x.m.n : Int)))
 (QOpOk Try.prog (opIn Try.f46 5 0) (ixQ 1) ∧
 ∃ (x_2 : IxQX),
 [slice x.m.a x.m.n x.m.cap, int i64 (↑x_1.i : Int)] = [slice (some ⟨x_2.b, x_2.o, none⟩) x_2.len x_2.cap, int i64 x_2.n] ∧
 ((0 : Int) ≤ x_2.n ∧ x_2.n < (↑x_2.len : Int)) ∧
 ∃ (a : Option Addr),
 ∃ (l : Nat),
 ∃ (c : Nat),
 Look F ⟨x_2.b, x_2.o + x_2.n.toNat * 1, none⟩ (slice a l c) ∧
 Br (decide ((↑l : Int) > (40 : Int))) (Done lg4C x F (Ending.returned (bool true)) [(0, Atom.cells x_1.b (chS x.c x.w) 28), (1, Atom.cells x_1.b3 [slice x.g.a x.g.n x.g.cap, slice x.h.a x.h.n x.h.cap, slice x.s.a x.s.n x.s.cap, slice x.m.a x.m.n x.m.cap] 78), (2, F)])
 (((-9223372036854775808 : Int) ≤ (↑x_1.i : Int) + (1 : Int) ∧ (↑x_1.i : Int) + (1 : Int) ≤ (9223372036854775807 : Int)) ∧
 ∃ (y : Lg4I),
 (y.i ≤ x.m.n ∧ x.w.vt.n ≤ 120) ∧
 (slice x.m.a x.m.n x.m.cap = slice x.m.a x.m.n x.m.cap ∧ int i64 (↑x.m.n : Int) = int i64 (↑x.m.n : Int) ∧ int i64 ((↑x_1.i : Int) + (1 : Int)) = int i64 (↑y.i : Int) ∧ True) ∧
 Ent [(0, Atom.cells x_1.b (chS x.c x.w) 28), (1, Atom.cells x_1.b3 [slice x.g.a x.g.n x.g.cap, slice x.h.a x.h.n x.h.cap, slice x.s.a x.s.n x.s.cap, slice x.m.a x.m.n x.m.cap] 78), (2, F)]
 [(0, Atom.cells y.b (chS x.c x.w) 28), (1, Atom.cells y.b3 [slice x.g.a x.g.n x.g.cap, slice x.h.a x.h.n x.h.cap, slice x.s.a x.s.n x.s.cap, slice x.m.a x.m.n x.m.cap] 78), (2, F)] ∧
 x.m.n - y.i < x.m.n - x_1.i))
 (Done lg4C x F (Ending.returned (bool false)) [(0, Atom.cells x_1.b (chS x.c x.w) 28), (1, Atom.cells x_1.b3 [slice x.g.a x.g.n x.g.cap, slice x.h.a x.h.n x.h.cap, slice x.s.a x.s.n x.s.cap, slice x.m.a x.m.n x.m.cap] 78), (2, F)]))))))) := by
  obtain ⟨c, w, ⟨ga, gn, gc⟩, cf, ⟨ha, hn, hcap⟩, ⟨sa, sn, sc⟩, ⟨ma, mn, mc⟩, mem⟩ := x
  obtain ⟨hch, hg, hm⟩ := hr
  dsimp only at hch hg hm ⊢
  obtain ⟨n1, -, n3⟩ := SlIn.num hm
  have yes : ∀ {S : St}, Ent S (ofL [F]) → Done lg4C ⟨c, w, ⟨ga, gn, gc⟩, cf, ⟨ha, hn, hcap⟩, ⟨sa, sn, sc⟩, ⟨ma, mn, mc⟩, mem⟩ F (.returned (.bool true)) S := fun h => ⟨true, (fun e => nomatch e), rfl, h⟩
  intro b b3
  refine ⟨⟨rfl, rfl⟩, br_intro (fun _ => yes (Ent.pick [0] rfl rfl)) (fun _ => ⟨⟨rfl, rfl⟩, br_intro (fun _ => yes (Ent.pick [0] rfl rfl)) (fun h120 => ⟨⟨rfl, rfl⟩, br_intro (fun _ => yes (Ent.pick [0] rfl rfl)) (fun _ => ⟨⟨rfl, rfl⟩, br_intro (fun _ => yes (Ent.pick [0] rfl rfl)) (fun _ => ⟨⟨rfl, rfl⟩, br_intro (fun _ => yes (Ent.pick [0] rfl rfl)) (fun _ => ⟨⟨rfl, rfl⟩, br_intro (fun _ => yes (Ent.pick [0] rfl rfl)) (fun _ => ⟨⟨rfl, rfl⟩, ⟨⟨0, b, b3⟩, ⟨Nat.zero_le _, ?_⟩, ⟨rfl, rfl, rfl, trivial⟩, Ent.pick [1000, 1010, 0] rfl rfl⟩, ?_⟩)⟩)⟩)⟩)⟩)⟩)⟩
  · have := of_decide_eq_false h120
    omega
  clear h120 b b3
  rintro ⟨i, b, b3⟩ js ⟨hi, h120⟩
  dsimp only at hi h120 ⊢
  refine br_decide (fun hlt => ?_) (fun hge => ⟨false, fun _ => h120, rfl, Ent.pick [2] rfl rfl⟩)
  obtain ⟨m, hmi⟩ : ∃ m, mem[i]? = some m := ⟨_, List.getElem?_eq_getElem (by omega)⟩
  obtain ⟨b0, o0, r, rfl, ⟨u, rfl, hI⟩, hL⟩ := SlIn.at' hm hmi
  obtain ⟨ka, kcap, rfl, -⟩ := SlIn.open hI
  have eo : o0 + (i : Int).toNat * 1 = o0 + i * 1 + 0 := by omega
  exact ⟨ixq_ok 1 rfl rfl rfl rfl, ⟨b0, o0, mn, mc, i⟩, rfl, by dsimp only; omega, _, _, _, by dsimp only; rw [eo]; exact hL 0 _ rfl, br_intro (fun _ => yes (Ent.pick [2] rfl rfl)) (fun _ => ⟨⟨by omega, by omega⟩, ⟨i + 1, b, b3⟩, ⟨by dsimp only; omega, h120⟩, ⟨rfl, rfl, rfl, trivial⟩, Ent.pick [0, 1, 2] rfl rfl, by dsimp only; omega⟩)⟩
set_option maxRecDepth 100000 in
theorem lg4_ok : FnOk Try.prog 46 lg4C :=
  fnOk (N := 52) (by kernel_rfl) Try.func46 rfl (by kernel_rfl) (fun _ => Nat.le_of_ble_eq_true rfl) lg4_H [] fun x F hc hr => Eq.mpr (by kernel_rfl) (lg4_vc x F hc hr)
theorem dom_idle {c : ChD} {mem : List (List Int)} {t : Int} (h : isT c t = false ∨ tgts c t = []) : domP c mem t = (0, false) := by
  have h0 : goalsV c mem t = [] := by
    unfold goalsV
    rcases h with h | h
    · rw [h]; rfl
    · rw [h]; cases isT c t <;> rfl
  unfold domP
  rw [h0]; rfl
def idl (c : ChD) (k : Nat) : List Int := ((List.range k).filter fun i : Nat => ((tgts c (i : Int)).length : Int) == 0).map Int.ofNat
theorem idl_len (c : ChD) (k : Nat) : (idl c k).length ≤ k := by
  unfold idl
  rw [List.length_map]
  have := List.length_filter_le (fun i : Nat => ((tgts c (i : Int)).length : Int) == 0) (List.range k)
  rwa [List.length_range] at this
theorem idl_mem {c : ChD} {k : Nat} {t : Int} (h : t ∈ idl c k) : tgts c t = [] := by
  obtain ⟨i, hi, rfl⟩ := List.mem_map.1 h
  have := (List.mem_filter.1 hi).2
  exact List.eq_nil_of_length_eq_zero (by rw [beq_iff_eq] at this; exact Int.ofNat.inj this)
theorem idl_step (c : ChD) (k : Nat) : idl c (k + 1) = bif ((tgts c k).length : Int) == 0 then idl c k ++ [(k : Int)] else idl c k := by
  unfold idl
  rw [List.range_succ, List.filter_append, List.map_append]
  cases h : ((tgts c k).length : Int) == 0 with
  | true => rw [show [k].filter (fun i : Nat => ((tgts c (i : Int)).length : Int) == 0) = [k] by simp only [List.filter_cons, h]; rfl]; rfl
  | false => rw [show [k].filter (fun i : Nat => ((tgts c (i : Int)).length : Int) == 0) = [] by simp only [List.filter_cons, h]; rfl]; exact List.append_nil _
def idle (c : ChD) : List Int := idl c c.trs.length ++ [-1, (c.trs.length : Int), (c.trs.length : Int) + 5]
theorem idle_dom {c : ChD} (mem : List (List Int)) {t : Int} (h : t ∈ idle c) : domP c mem t = (0, false) := by
  refine dom_idle ?_
  rcases List.mem_append.1 h with h | h
  · exact .inr (idl_mem h)
  · refine .inl ?_
    unfold isT
    simp only [List.mem_cons, List.not_mem_nil, or_false] at h
    rcases h with rfl | rfl | rfl
    · rfl
    · rw [decide_eq_false (Int.lt_irrefl _), Bool.and_false]
    · rw [decide_eq_false (show ¬ (c.trs.length : Int) + 5 < c.trs.length by omega), Bool.and_false]
theorem ent_idle {c : ChD} {mem : List (List Int)} : ∀ (l el : List Int), (∀ t ∈ l, domP c mem t = (0, false)) → l.foldl (entT c mem) el = el
  | [], _, _ => rfl
  | t :: l, el, h => by
    rw [List.foldl_cons]
    have : entT c mem el t = el := by unfold entT; rw [h t List.mem_cons_self]; rfl
    rw [this]
    exact ent_idle l el fun u hu => h u (List.mem_cons_of_mem _ hu)
theorem ex_idle {c : ChD} {mem : List (List Int)} {cf : List Int} : ∀ (l el : List Int), (∀ t ∈ l, domP c mem t = (0, false)) → l.foldl (ex1 c mem cf) el = el
  | [], _, _ => rfl
  | t :: l, el, h => by
    rw [List.foldl_cons]
    have : ex1 c mem cf el t = el := by unfold ex1; rw [h t List.mem_cons_self]; rfl
    rw [this]
    exact ex_idle l el fun u hu => h u (List.mem_cons_of_mem _ hu)
def m4C (Q : ChD → Prop) : Con where
  X := Mv4
  Y := Unit
  args x := [chAgg x.c x.w, mo4Agg x]
  pre _ := []
  cond x := Q x.c ∧ Mv4Ok x
  rdc x F := Mv4In F x
  rel _ _ := True
  val _ _ := .returned (.bool true)
  post _ _ := []
  rmono _ _ _ h hk := hk.sub h
def ntNOv (_x : Mv4) (_F : Atom) : List (Nat × Nat × OH) := [(0, 0, .n 1000), (0, 1, .n 1010), (1, 0, .c awC [] []), (3, 0, .q (at8 1000)), (3, 1, .q (at4 1010)), (3, 2, .c lg4C [] []), (5, 0, .q (at8 1000)), (5, 1, .c newNC [] [])]
noncomputable def ntN_H (x : Con.X (m4C fun c => newB c = false)) (F : Atom) : Hints where
  op := hk ((ntNOv x F) ++ [])
  inv := (fun _ _ _ => none) x F
  cut := (fun _ _ _ => none) x F
  ord := (fun _ => [])
open Go.Value (int slice string bool pointer agg tuple func) in
open Go.IntKind (i64) in
set_option maxRecDepth 100000 in
theorem ntN_vc (x : Mv4) (F : Atom) (hc : Con.cond (m4C fun c => newB c = false) x) (hr : Con.rdc (m4C fun c => newB c = false) x F) :
  ∀ (b b_1 : Nat),
 FnOk Try.prog 45 awC ∧
 true = true ∧
 ∃ (x_1 : Unit),
 ([] : List Value) = [] ∧
 ([] : List Atom) = [] ∧
 True ∧
 True ∧
 ∀ (y : Unit),
 True →
 Same ⟨b, 0, none⟩ b ∧
 Same ⟨b, 1, none⟩ b ∧
 Same ⟨b, 2, none⟩ b ∧
 Same ⟨b, 3, none⟩ b ∧
 Same ⟨b, 4, none⟩ b ∧
 Same ⟨b, 5, none⟩ b ∧
 Same ⟨b, 6, none⟩ b ∧
 Same ⟨b, 7, none⟩ b ∧
 Same ⟨b_1, 0, none⟩ b_1 ∧
 Same ⟨b_1, 1, none⟩ b_1 ∧
 Same ⟨b_1, 2, none⟩ b_1 ∧
 Same ⟨b_1, 3, none⟩ b_1 ∧
 FnOk Try.prog 46 lg4C ∧
 true = true ∧
 ∃ (x_2 : Mv4),
 [agg { toList := (chS x.c x.w) }, agg { toList := [slice x.g.a x.g.n x.g.cap, slice x.h.a x.h.n x.h.cap, slice x.s.a x.s.n x.s.cap, slice x.m.a x.m.n x.m.cap] }] =
 [agg { toList := (chS x_2.c x_2.w) }, agg { toList := [slice x_2.g.a x_2.g.n x_2.g.cap, slice x_2.h.a x_2.h.n x_2.h.cap, slice x_2.s.a x_2.s.n x_2.s.cap, slice x_2.m.a x_2.m.n x_2.m.cap] }] ∧
 ([] : List Atom) = [] ∧
 True ∧
 Mv4In (Atom.pred (rest [(0, F), (1000, Atom.cells b (chS x.c x.w) 28), (1010, Atom.cells b_1 [slice x.g.a x.g.n x.g.cap, slice x.h.a x.h.n x.h.cap, slice x.s.a x.s.n x.s.cap, slice x.m.a x.m.n x.m.cap] 78)] [])) x_2 ∧
 ∀ (y : Bool),
 (y = false → x_2.w.vt.n ≤ 120) →
 Br y (Done (m4C fun (c : ChD) => newB c = false) x F (Ending.returned (bool true)) [(0, F), (1000, Atom.cells b (chS x.c x.w) 28), (1010, Atom.cells b_1 [slice x.g.a x.g.n x.g.cap, slice x.h.a x.h.n x.h.cap, slice x.s.a x.s.n x.s.cap, slice x.m.a x.m.n x.m.cap] 78)])
 (Same ⟨b, 0, none⟩ b ∧
 Same ⟨b, 1, none⟩ b ∧
 Same ⟨b, 2, none⟩ b ∧
 Same ⟨b, 3, none⟩ b ∧
 Same ⟨b, 4, none⟩ b ∧
 Same ⟨b, 5, none⟩ b ∧
 Same ⟨b, 6, none⟩ b ∧
 Same ⟨b, 7, none⟩ b ∧
 FnOk Try.prog 14 newNC ∧
 true = true ∧
 ∃ (x_3 : ClnCX),
 [agg { toList := (chS x.c x.w) }] = [agg { toList := (chS x_3.c x_3.w) }] ∧
 ([] : List Atom) = [] ∧
 newB x_3.c = false ∧
 ChIn (Atom.pred (rest [(0, F), (1000, Atom.cells b (chS x.c x.w) 28), (1010, Atom.cells b_1 [slice x.g.a x.g.n x.g.cap, slice x.h.a x.h.n x.h.cap, slice x.s.a x.s.n x.s.cap, slice x.m.a x.m.n x.m.cap] 78)] [])) x_3.w.v x_3.c ∧
 ∀ (y : Unit), True → Done (m4C fun (c : ChD) => newB c = false) x F (Ending.returned (bool true)) [(0, F), (1000, Atom.cells b (chS x.c x.w) 28), (1010, Atom.cells b_1 [slice x.g.a x.g.n x.g.cap, slice x.h.a x.h.n x.h.cap, slice x.s.a x.s.n x.s.cap, slice x.m.a x.m.n x.m.cap] 78)]) := by
  obtain ⟨hnew, -⟩ := hc
  replace hr : Mv4In F x := hr
  intro b b3
  refine ⟨aw14_ok, rfl, (), rfl, rfl, trivial, trivial, fun _ _ => ?_⟩
  iterate 12 refine ⟨⟨rfl, rfl⟩, ?_⟩
  refine ⟨lg4_ok, rfl, x, rfl, rfl, trivial, hr.sub (sub_rest 0 (by simp) rfl), fun y _ => br_intro (fun _ => ⟨(), trivial, rfl, Ent.pick [0] rfl rfl⟩) (fun _ => ?_)⟩
  iterate 8 refine ⟨⟨rfl, rfl⟩, ?_⟩
  exact ⟨newN_ok, rfl, ⟨x.c, x.w⟩, rfl, rfl, hnew, hr.ch.sub (sub_rest 0 (by simp) rfl), fun _ _ => ⟨(), trivial, rfl, Ent.pick [0] rfl rfl⟩⟩
set_option maxRecDepth 100000 in
theorem ntN_ok : FnOk Try.prog 11 (m4C fun c => newB c = false) :=
  fnOk (N := 106) (by kernel_rfl) Try.func11 rfl (by kernel_rfl) (fun _ => Nat.le_of_ble_eq_true rfl) ntN_H [] fun x F hc hr => Eq.mpr (by kernel_rfl) (ntN_vc x F hc hr)
structure NtI where
  b : Nat
  b3 : Nat
  lb : Nat
  G : Atom
  r : Row
  k : Nat
def ntInv (x : Mv4) (F : Atom) : Nat → Option Inv := fun
  | 0 => some { X := NtI, P := fun i => LatIn i.G i.lb x.c ∧ IsRow 3 1 (ints (idl x.c i.k)) i.r ∧ i.k ≤ x.w.vt.n, mu := fun i => x.w.vt.n - i.k, lv := fun i => [(2, .pointer (some ⟨i.b, 0, none⟩)), (3, .pointer (some ⟨i.b3, 0, none⟩)), (5, .pointer (some ⟨i.lb, 0, none⟩)), (7, .slice i.r.a i.r.n i.r.cap), (28, .slice x.w.vt.a x.w.vt.n x.w.vt.cap), (29, .int .i64 x.w.vt.n), (30, .int .i64 i.k)], st := fun i => [.cells i.b (chS x.c x.w) 28, .cells i.b3 (mo4S x) 78, i.G, i.r.A, F] }
  | 2 => some { X := NtI, P := fun i => LatIn i.G i.lb x.c ∧ IsRow 3 1 (ints (idle x.c)) i.r ∧ i.k ≤ i.r.n, mu := fun i => i.r.n - i.k, gh := none, lv := fun i => [(3, .pointer (some ⟨i.b3, 0, none⟩)), (5, .pointer (some ⟨i.lb, 0, none⟩)), (7, .slice i.r.a i.r.n i.r.cap), (54, .slice i.r.a i.r.n i.r.cap), (55, .int .i64 i.r.n), (56, .int .i64 i.k)], st := fun i => [.cells i.b3 (mo4S x) 78, i.G, i.r.A, F] }
  | _ => none
def sh6g : List LH := [.ex 4 (.int .i64), .ex 4 .slice, .ex 4 .str, .ex 4 .slice, .ex 4 .bool, .ex 4 (.int .i64)]
def ntOv (_x : Mv4) (_F : Atom) : List (Nat × Nat × OH) := [(0, 0, .n 1000), (0, 1, .n 1010), (1, 0, .c awC [] []), (3, 0, .q (at8 1000)), (3, 1, .q (at4 1010)), (3, 2, .c lg4C [] []), (5, 0, .q (at8 1000)), (5, 1, .c newYC [] [6010]), (9, 1, .q [.atj 1000]),
  (11, 1, .qo (ixQ 6)), (11, 2, .q sh6g), (11, 3, .n 12030), (11, 5, .w (at6 12030)), (12, 1, .q [.atj 12030]), (13, 2, .n 14020), (13, 3, .o (apC 3 1 8) [3] [3]),
  (15, 2, .q [.atj 0]), (15, 5, .q [.atj 0]), (15, 8, .n 16080), (15, 9, .o (apC 3 1 8) [3] [3]), (18, 0, .qo (ixQ 1)), (18, 1, .q [.ex 2 (.int .i64)]), (19, 2, .q [.atj 0]), (19, 4, .c domC [] []),
  (23, 2, .q [.atj 0]), (23, 4, .c entC [] [24040]), (23, 5, .n 24050), (23, 6, .w (at4 24050)), (24, 2, .q [.atj 0]), (24, 4, .q [.atj 0]), (24, 6, .c exC [] [25060]), (24, 11, .q [.atj 24050]), (24, 14, .q [.atj 24050]), (24, 18, .q [.atj 24050]), (24, 22, .q [.atj 24050])]
noncomputable def ntY_H (x : Con.X (m4C fun c => newB c = true)) (F : Atom) : Hints where
  op := hk ((ntOv x F) ++ [])
  inv := ntInv x F
  cut := (fun _ _ _ => none) x F
  ord := (fun _ => [])
open Go.Value (int slice string bool pointer agg tuple func) in
open Go.IntKind (i64) in
set_option maxRecDepth 100000 in
theorem ntY_vc (x : Mv4) (F : Atom) (hc : Con.cond (m4C fun c => newB c = true) x) (hr : Con.rdc (m4C fun c => newB c = true) x F) :
  ∀ (b b_1 : Nat),
 FnOk Try.prog 45 awC ∧
 true = true ∧
 ∃ (x_1 : Unit),
 ([] : List Value) = [] ∧
 ([] : List Atom) = [] ∧
 True ∧
 True ∧
 ∀ (y : Unit),
 True →
 Same ⟨b, 0, none⟩ b ∧
 Same ⟨b, 1, none⟩ b ∧
 Same ⟨b, 2, none⟩ b ∧
 Same ⟨b, 3, none⟩ b ∧
 Same ⟨b, 4, none⟩ b ∧
 Same ⟨b, 5, none⟩ b ∧
 Same ⟨b, 6, none⟩ b ∧
 Same ⟨b, 7, none⟩ b ∧
 Same ⟨b_1, 0, none⟩ b_1 ∧
 Same ⟨b_1, 1, none⟩ b_1 ∧
 Same ⟨b_1, 2, none⟩ b_1 ∧
 Same ⟨b_1, 3, none⟩ b_1 ∧
 FnOk Try.prog 46 lg4C ∧
 true = true ∧
 ∃ (x_2 : Mv4),
 [agg { toList := (chS x.c x.w) }, agg { toList := [slice x.g.a x.g.n x.g.cap, slice x.h.a x.h.n x.h.cap, slice x.s.a x.s.n x.s.cap, slice x.m.a x.m.n x.m.cap] }] =
 [agg { toList := (chS x_2.c x_2.w) }, agg { toList := [slice x_2.g.a x_2.g.n x_2.g.cap, slice x_2.h.a x_2.h.n x_2.h.cap, slice x_2.s.a x_2.s.n x_2.s.cap, slice x_2.m.a x_2.m.n x_2.m.cap] }] ∧
 ([] : List Atom) = [] ∧
 True ∧
 Mv4In (Atom.pred (rest [(0, F), (1000, Atom.cells b (chS x.c x.w) 28), (1010, Atom.cells b_1 [slice x.g.a x.g.n x.g.cap, slice x.h.a x.h.n x.h.cap, slice x.s.a x.s.n x.s.cap, slice x.m.a x.m.n x.m.cap] 78)] [])) x_2 ∧
 ∀ (y : Bool),
 (y = false → x_2.w.vt.n ≤ 120) →
 Br y (Done (m4C fun (c : ChD) => newB c = true) x F (Ending.returned (bool true)) [(0, F), (1000, Atom.cells b (chS x.c x.w) 28), (1010, Atom.cells b_1 [slice x.g.a x.g.n x.g.cap, slice x.h.a x.h.n x.h.cap, slice x.s.a x.s.n x.s.cap, slice x.m.a x.m.n x.m.cap] 78)])
 (Same ⟨b, 0, none⟩ b ∧
 Same ⟨b, 1, none⟩ b ∧
 Same ⟨b, 2, none⟩ b ∧
 Same ⟨b, 3, none⟩ b ∧
 Same ⟨b, 4, none⟩ b ∧
 Same ⟨b, 5, none⟩ b ∧
 Same ⟨b, 6, none⟩ b ∧
 Same ⟨b, 7, none⟩ b ∧
 FnOk Try.prog 14 newYC ∧
 true = true ∧
 ∃ (x_3 : ClnCX),
 [agg { toList := (chS x.c x.w) }] = [agg { toList := (chS x_3.c x_3.w) }] ∧
 ([] : List Atom) = [] ∧
 newB x_3.c = true ∧
 ChIn (Atom.pred (rest [(0, F), (1000, Atom.cells b (chS x.c x.w) 28), (1010, Atom.cells b_1 [slice x.g.a x.g.n x.g.cap, slice x.h.a x.h.n x.h.cap, slice x.s.a x.s.n x.s.cap, slice x.m.a x.m.n x.m.cap] 78)] [])) x_3.w.v x_3.c ∧
 ∀ (y : NewY),
 LatIn y.G y.b x_3.c →
 Same ⟨b, 4, none⟩ b ∧
 (∃ (x_4 : NtI),
 (LatIn x_4.G x_4.lb x.c ∧ IsRow 3 1 (ints (idl x.c x_4.k)) x_4.r ∧ x_4.k ≤ x.w.vt.n) ∧
 (pointer (some ⟨b, 0, none⟩) = pointer (some ⟨x_4.b, 0, none⟩) ∧ pointer (some ⟨b_1, 0, none⟩) = pointer (some ⟨x_4.b3, 0, none⟩) ∧ pointer (some ⟨y.b, 0, none⟩) = pointer (some ⟨x_4.lb, 0, none⟩) ∧ slice none 0 0 = slice x_4.r.a x_4.r.n x_4.r.cap ∧ slice x.w.vt.a x.w.vt.n x.w.vt.cap = slice x.w.vt.a x.w.vt.n x.w.vt.cap ∧ int i64 (↑x.w.vt.n : Int) = int i64 (↑x.w.vt.n : Int) ∧ int i64 (0 : Int) = int i64 (↑x_4.k : Int) ∧ True) ∧
 Ent [(0, F), (1000, Atom.cells b (chS x.c x.w) 28), (1010, Atom.cells b_1 [slice x.g.a x.g.n x.g.cap, slice x.h.a x.h.n x.h.cap, slice x.s.a x.s.n x.s.cap, slice x.m.a x.m.n x.m.cap] 78), (6010, y.G)]
 [(0, Atom.cells x_4.b (chS x.c x.w) 28), (1, Atom.cells x_4.b3 [slice x.g.a x.g.n x.g.cap, slice x.h.a x.h.n x.h.cap, slice x.s.a x.s.n x.s.cap, slice x.m.a x.m.n x.m.cap] 78), (2, x_4.G), (3, x_4.r.A), (4, F)]) ∧
 ∀ (x_4 : NtI) (js : Nat → Value),
 LatIn x_4.G x_4.lb x.c ∧ IsRow 3 1 (ints (idl x.c x_4.k)) x_4.r ∧ x_4.k ≤ x.w.vt.n →
 Br (decide ((↑x_4.k : Int) < (↑x.w.vt.n : Int)))
 (QOpOk Try.prog (opIn Try.f11 11 1) (ixQ 6) ∧
 ∃ (x_5 : IxQX),
 [slice x.w.vt.a x.w.vt.n x.w.vt.cap, int i64 (↑x_4.k : Int)] = [slice (some ⟨x_5.b, x_5.o, none⟩) x_5.len x_5.cap, int i64 x_5.n] ∧
 ((0 : Int) ≤ x_5.n ∧ x_5.n < (↑x_5.len : Int)) ∧
 ∃ (n : Int),
 Look F ⟨x_5.b, x_5.o + x_5.n.toNat * 6, none⟩ (int i64 n) ∧
 ∃ (a : Option Addr),
 ∃ (l : Nat),
 ∃ (c : Nat),
 Look F ⟨x_5.b, x_5.o + x_5.n.toNat * 6 + 1, none⟩ (slice a l c) ∧
 ∃ (s : ByteArray),
 Look F ⟨x_5.b, x_5.o + x_5.n.toNat * 6 + 2, none⟩ (string s) ∧
 ∃ (a_1 : Option Addr),
 ∃ (l_1 : Nat),
 ∃ (c_1 : Nat),
 Look F ⟨x_5.b, x_5.o + x_5.n.toNat * 6 + 3, none⟩ (slice a_1 l_1 c_1) ∧
 ∃ (b : Bool),
 Look F ⟨x_5.b, x_5.o + x_5.n.toNat * 6 + 4, none⟩ (bool b) ∧
 ∃ (n_1 : Int),
 Look F ⟨x_5.b, x_5.o + x_5.n.toNat * 6 + 5, none⟩ (int i64 n_1) ∧
 ∀ (b_2 : Nat),
 Same ⟨b_2, 0, none⟩ b_2 ∧
 Same ⟨b_2, 1, none⟩ b_2 ∧
 Same ⟨b_2, 2, none⟩ b_2 ∧
 Same ⟨b_2, 3, none⟩ b_2 ∧
 Same ⟨b_2, 4, none⟩ b_2 ∧
 Same ⟨b_2, 5, none⟩ b_2 ∧
 Same ⟨b_2, 3, none⟩ b_2 ∧
 Br ((↑l_1 : Int) == (0 : Int))
 (∀ (b_3 : Nat),
 OpOk Try.prog (opIn Try.f11 13 3) (apC (3 : TypeId) 1 8) ∧
 true = true ∧
 ∃ (x_6 : ApX),
 [slice x_4.r.a x_4.r.n x_4.r.cap, slice (some ⟨b_3, 0, none⟩) 1 1] = [slice x_6.r.a x_6.r.n x_6.r.cap, slice x_6.a x_6.m x_6.c] ∧
 [x_4.r.A] = [x_6.r.A] ∧
 (IsRow 3 1 x_6.cs x_6.r ∧ x_6.ys.length = x_6.m * 1 ∧ (∀ (u : Value), u ∈ x_6.ys → u.oneCell' = true) ∧ (x_6.r.n + x_6.m) * 8 ≤ 140737488355328 ∧ x_6.r.n + x_6.m ≤ 9223372036854775807 ∧ (x_6.a = none → x_6.m = 0 ∧ x_6.c = 0)) ∧
 (∀ (a_2 : Addr),
 x_6.a = some a_2 →
 Seg
 (Atom.pred
 (rest
 [(0, Atom.cells x_4.b (chS x.c x.w) 28), (1, Atom.cells x_4.b3 [slice x.g.a x.g.n x.g.cap, slice x.h.a x.h.n x.h.cap, slice x.s.a x.s.n x.s.cap, slice x.m.a x.m.n x.m.cap] 78), (2, x_4.G), (3, x_4.r.A), (4, F), (12030, Atom.cells b_2 [int i64 n, slice a l c, string s, slice a_1 l_1 c_1, bool b, int i64 n_1] 76),
 (14020, Atom.cells b_3 [int i64 (↑x_4.k : Int)] 3)]
 [3]))
 a_2 x_6.ys) ∧
 ∀ (y : Row),
 IsRow 3 1 (x_6.cs ++ x_6.ys) y ∧ y.n = x_6.r.n + x_6.m ∧ (x_6.m = 0 → y = x_6.r) →
 ((-9223372036854775808 : Int) ≤ (↑x_4.k : Int) + (1 : Int) ∧ (↑x_4.k : Int) + (1 : Int) ≤ (9223372036854775807 : Int)) ∧
 ∃ (y_1 : NtI),
 (LatIn y_1.G y_1.lb x.c ∧ IsRow 3 1 (ints (idl x.c y_1.k)) y_1.r ∧ y_1.k ≤ x.w.vt.n) ∧
 (pointer (some ⟨x_4.b, 0, none⟩) = pointer (some ⟨y_1.b, 0, none⟩) ∧ pointer (some ⟨x_4.b3, 0, none⟩) = pointer (some ⟨y_1.b3, 0, none⟩) ∧ pointer (some ⟨x_4.lb, 0, none⟩) = pointer (some ⟨y_1.lb, 0, none⟩) ∧ slice y.a y.n y.cap = slice y_1.r.a y_1.r.n y_1.r.cap ∧ slice x.w.vt.a x.w.vt.n x.w.vt.cap = slice x.w.vt.a x.w.vt.n x.w.vt.cap ∧ int i64 (↑x.w.vt.n : Int) = int i64 (↑x.w.vt.n : Int) ∧ int i64 ((↑x_4.k : Int) + (1 : Int)) = int i64 (↑y_1.k : Int) ∧ True) ∧
 Ent
 [(0, Atom.cells x_4.b (chS x.c x.w) 28), (1, Atom.cells x_4.b3 [slice x.g.a x.g.n x.g.cap, slice x.h.a x.h.n x.h.cap, slice x.s.a x.s.n x.s.cap, slice x.m.a x.m.n x.m.cap] 78), (2, x_4.G), (3, y.A), (4, F), (12030, Atom.cells b_2 [int i64 n, slice a l c, string s, slice a_1 l_1 c_1, bool b, int i64 n_1] 76),
 (14020, Atom.cells b_3 [int i64 (↑x_4.k : Int)] 3)]
 [(0, Atom.cells y_1.b (chS x.c x.w) 28), (1, Atom.cells y_1.b3 [slice x.g.a x.g.n x.g.cap, slice x.h.a x.h.n x.h.cap, slice x.s.a x.s.n x.s.cap, slice x.m.a x.m.n x.m.cap] 78), (2, y_1.G), (3, y_1.r.A), (4, F)] ∧
 x.w.vt.n - y_1.k < x.w.vt.n - x_4.k)
 (((-9223372036854775808 : Int) ≤ (↑x_4.k : Int) + (1 : Int) ∧ (↑x_4.k : Int) + (1 : Int) ≤ (9223372036854775807 : Int)) ∧
 ∃ (y : NtI),
 (LatIn y.G y.lb x.c ∧ IsRow 3 1 (ints (idl x.c y.k)) y.r ∧ y.k ≤ x.w.vt.n) ∧
 (pointer (some ⟨x_4.b, 0, none⟩) = pointer (some ⟨y.b, 0, none⟩) ∧ pointer (some ⟨x_4.b3, 0, none⟩) = pointer (some ⟨y.b3, 0, none⟩) ∧ pointer (some ⟨x_4.lb, 0, none⟩) = pointer (some ⟨y.lb, 0, none⟩) ∧ slice x_4.r.a x_4.r.n x_4.r.cap = slice y.r.a y.r.n y.r.cap ∧ slice x.w.vt.a x.w.vt.n x.w.vt.cap = slice x.w.vt.a x.w.vt.n x.w.vt.cap ∧ int i64 (↑x.w.vt.n : Int) = int i64 (↑x.w.vt.n : Int) ∧ int i64 ((↑x_4.k : Int) + (1 : Int)) = int i64 (↑y.k : Int) ∧ True) ∧
 Ent [(0, Atom.cells x_4.b (chS x.c x.w) 28), (1, Atom.cells x_4.b3 [slice x.g.a x.g.n x.g.cap, slice x.h.a x.h.n x.h.cap, slice x.s.a x.s.n x.s.cap, slice x.m.a x.m.n x.m.cap] 78), (2, x_4.G), (3, x_4.r.A), (4, F), (12030, Atom.cells b_2 [int i64 n, slice a l c, string s, slice a_1 l_1 c_1, bool b, int i64 n_1] 76)]
 [(0, Atom.cells y.b (chS x.c x.w) 28), (1, Atom.cells y.b3 [slice x.g.a x.g.n x.g.cap, slice x.h.a x.h.n x.h.cap, slice x.s.a x.s.n x.s.cap, slice x.m.a x.m.n x.m.cap] 78), (2, y.G), (3, y.r.A), (4, F)] ∧
 x.w.vt.n - y.k < x.w.vt.n - x_4.k))
 (Same ⟨x_4.b, 4, none⟩ x_4.b ∧
 Same ⟨x_4.b, 4, none⟩ x_4.b ∧
 ((-9223372036854775808 : Int) ≤ (↑x.w.vt.n : Int) + (5 : Int) ∧ (↑x.w.vt.n : Int) + (5 : Int) ≤ (9223372036854775807 : Int)) ∧
 ∀ (b : Nat),
 OpOk Try.prog (opIn Try.f11 15 9) (apC (3 : TypeId) 1 8) ∧
 true = true ∧
 ∃ (x_5 : ApX),
 [slice x_4.r.a x_4.r.n x_4.r.cap, slice (some ⟨b, 0, none⟩) 3 3] = [slice x_5.r.a x_5.r.n x_5.r.cap, slice x_5.a x_5.m x_5.c] ∧
 [x_4.r.A] = [x_5.r.A] ∧
 (IsRow 3 1 x_5.cs x_5.r ∧ x_5.ys.length = x_5.m * 1 ∧ (∀ (u : Value), u ∈ x_5.ys → u.oneCell' = true) ∧ (x_5.r.n + x_5.m) * 8 ≤ 140737488355328 ∧ x_5.r.n + x_5.m ≤ 9223372036854775807 ∧ (x_5.a = none → x_5.m = 0 ∧ x_5.c = 0)) ∧
 (∀ (a : Addr), x_5.a = some a → Seg (Atom.pred (rest [(0, Atom.cells x_4.b (chS x.c x.w) 28), (1, Atom.cells x_4.b3 [slice x.g.a x.g.n x.g.cap, slice x.h.a x.h.n x.h.cap, slice x.s.a x.s.n x.s.cap, slice x.m.a x.m.n x.m.cap] 78), (2, x_4.G), (3, x_4.r.A), (4, F), (16080, Atom.cells b [int i64 (-1 : Int), int i64 (↑x.w.vt.n : Int), int i64 ((↑x.w.vt.n : Int) + (5 : Int))] 3)] [3])) a x_5.ys) ∧
 ∀ (y : Row),
 IsRow 3 1 (x_5.cs ++ x_5.ys) y ∧ y.n = x_5.r.n + x_5.m ∧ (x_5.m = 0 → y = x_5.r) →
 (∃ (x_6 : NtI),
 (LatIn x_6.G x_6.lb x.c ∧ IsRow 3 1 (ints (idle x.c)) x_6.r ∧ x_6.k ≤ x_6.r.n) ∧
 (pointer (some ⟨x_4.b3, 0, none⟩) = pointer (some ⟨x_6.b3, 0, none⟩) ∧ pointer (some ⟨x_4.lb, 0, none⟩) = pointer (some ⟨x_6.lb, 0, none⟩) ∧ slice y.a y.n y.cap = slice x_6.r.a x_6.r.n x_6.r.cap ∧ slice y.a y.n y.cap = slice x_6.r.a x_6.r.n x_6.r.cap ∧ int i64 (↑y.n : Int) = int i64 (↑x_6.r.n : Int) ∧ int i64 (0 : Int) = int i64 (↑x_6.k : Int) ∧ True) ∧
 Ent [(0, Atom.cells x_4.b (chS x.c x.w) 28), (1, Atom.cells x_4.b3 [slice x.g.a x.g.n x.g.cap, slice x.h.a x.h.n x.h.cap, slice x.s.a x.s.n x.s.cap, slice x.m.a x.m.n x.m.cap] 78), (2, x_4.G), (3, y.A), (4, F), (16080, Atom.cells b [int i64 (-1 : Int), int i64 (↑x.w.vt.n : Int), int i64 ((↑x.w.vt.n : Int) + (5 : Int))] 3)]
 [(0, Atom.cells x_6.b3 [slice x.g.a x.g.n x.g.cap, slice x.h.a x.h.n x.h.cap, slice x.s.a x.s.n x.s.cap, slice x.m.a x.m.n x.m.cap] 78), (1, x_6.G), (2, x_6.r.A), (3, F)]) ∧
 ∀ (x_6 : NtI) (js : Nat → Value),
 LatIn x_6.G x_6.lb x.c ∧ IsRow 3 1 (ints (idle x.c)) x_6.r ∧ x_6.k ≤ x_6.r.n →
 Br (decide ((↑x_6.k : Int) < (↑x_6.r.n : Int)))
 (QOpOk Try.prog (opIn Try.f11 18 0) (ixQ 1) ∧
 ∃ (x_7 : IxQX),
 [slice x_6.r.a x_6.r.n x_6.r.cap, int i64 (↑x_6.k : Int)] = [slice (some ⟨x_7.b, x_7.o, none⟩) x_7.len x_7.cap, int i64 x_7.n] ∧
 ((0 : Int) ≤ x_7.n ∧ x_7.n < (↑x_7.len : Int)) ∧
 ∃ (n : Int),
 Look x_6.r.A ⟨x_7.b, x_7.o + x_7.n.toNat * 1, none⟩ (int i64 n) ∧
 Same ⟨x_6.b3, 3, none⟩ x_6.b3 ∧
 FnOk Try.prog 47 domC ∧
 true = true ∧
 ∃ (x_8 : RmX),
 [pointer (some ⟨x_6.lb, 0, none⟩), slice x.m.a x.m.n x.m.cap, int i64 n] = [pointer (some ⟨x_8.b, 0, none⟩), slice x_8.m.a x_8.m.n x_8.m.cap, int i64 x_8.h] ∧
 ([] : List Atom) = [] ∧
 newB x_8.c = true ∧
 (LatIn (Atom.pred (rest [(0, Atom.cells x_6.b3 [slice x.g.a x.g.n x.g.cap, slice x.h.a x.h.n x.h.cap, slice x.s.a x.s.n x.s.cap, slice x.m.a x.m.n x.m.cap] 78), (1, x_6.G), (2, x_6.r.A), (3, F)] [])) x_8.b x_8.c ∧ MemIn (Atom.pred (rest [(0, Atom.cells x_6.b3 [slice x.g.a x.g.n x.g.cap, slice x.h.a x.h.n x.h.cap, slice x.s.a x.s.n x.s.cap, slice x.m.a x.m.n x.m.cap] 78), (1, x_6.G), (2, x_6.r.A), (3, F)] [])) (slice x_8.m.a x_8.m.n x_8.m.cap) x_8.mem) ∧
 ∀ (y : Unit),
 True →
 Br (domP x_8.c x_8.mem x_8.h).snd (Done (m4C fun (c : ChD) => newB c = true) x F (Ending.returned (bool false)) [(0, Atom.cells x_6.b3 [slice x.g.a x.g.n x.g.cap, slice x.h.a x.h.n x.h.cap, slice x.s.a x.s.n x.s.cap, slice x.m.a x.m.n x.m.cap] 78), (1, x_6.G), (2, x_6.r.A), (3, F)])
 (Br ((domP x_8.c x_8.mem x_8.h).fst != (0 : Int)) (Done (m4C fun (c : ChD) => newB c = true) x F (Ending.returned (bool false)) [(0, Atom.cells x_6.b3 [slice x.g.a x.g.n x.g.cap, slice x.h.a x.h.n x.h.cap, slice x.s.a x.s.n x.s.cap, slice x.m.a x.m.n x.m.cap] 78), (1, x_6.G), (2, x_6.r.A), (3, F)])
 (((-9223372036854775808 : Int) ≤ (↑x_6.k : Int) + (1 : Int) ∧ (↑x_6.k : Int) + (1 : Int) ≤ (9223372036854775807 : Int)) ∧
 ∃ (y : NtI),
 (LatIn y.G y.lb x.c ∧ IsRow 3 1 (ints (idle x.c)) y.r ∧ y.k ≤ y.r.n) ∧
 (pointer (some ⟨x_6.b3, 0, none⟩) = pointer (some ⟨y.b3, 0, none⟩) ∧ pointer (some ⟨x_6.lb, 0, none⟩) = pointer (some ⟨y.lb, 0, none⟩) ∧ slice x_6.r.a x_6.r.n x_6.r.cap = slice y.r.a y.r.n y.r.cap ∧ slice x_6.r.a x_6.r.n x_6.r.cap = slice y.r.a y.r.n y.r.cap ∧ int i64 (↑x_6.r.n : Int) = int i64 (↑y.r.n : Int) ∧ int i64 ((↑x_6.k : Int) + (1 : Int)) = int i64 (↑y.k : Int) ∧ True) ∧
 Ent [(0, Atom.cells x_6.b3 [slice x.g.a x.g.n x.g.cap, slice x.h.a x.h.n x.h.cap, slice x.s.a x.s.n x.s.cap, slice x.m.a x.m.n x.m.cap] 78), (1, x_6.G), (2, x_6.r.A), (3, F)] [(0, Atom.cells y.b3 [slice x.g.a x.g.n x.g.cap, slice x.h.a x.h.n x.h.cap, slice x.s.a x.s.n x.s.cap, slice x.m.a x.m.n x.m.cap] 78), (1, y.G), (2, y.r.A), (3, F)] ∧ y.r.n - y.k < x_6.r.n - x_6.k)))
 (Same ⟨x_6.b3, 3, none⟩ x_6.b3 ∧
 FnOk Try.prog 48 entC ∧
 true = true ∧
 ∃ (x_7 : EtX),
 [pointer (some ⟨x_6.lb, 0, none⟩), slice x.m.a x.m.n x.m.cap, slice x_6.r.a x_6.r.n x_6.r.cap] = [pointer (some ⟨x_7.b, 0, none⟩), slice x_7.m.a x_7.m.n x_7.m.cap, slice x_7.s.a x_7.s.n x_7.s.cap] ∧
 ([] : List Atom) = [] ∧
 (newB x_7.c = true ∧ (IsSrc 1 (ints x_7.ts) x_7.s.a x_7.s.n ∧ x_7.s.n * 8 ≤ 140737488351232) ∧ ∀ (t : Int), t ∈ x_7.ts → (domP x_7.c x_7.mem t).snd = true → Flat x_7.c ∧ ∀ (u : Int), u ∈ tgts x_7.c t → atB x_7.c u = true ∧ kd x_7.c u.toNat ≠ (2 : Int)) ∧
 (LatIn (Atom.pred (rest [(0, Atom.cells x_6.b3 [slice x.g.a x.g.n x.g.cap, slice x.h.a x.h.n x.h.cap, slice x.s.a x.s.n x.s.cap, slice x.m.a x.m.n x.m.cap] 78), (1, x_6.G), (2, x_6.r.A), (3, F)] [])) x_7.b x_7.c ∧
 MemIn (Atom.pred (rest [(0, Atom.cells x_6.b3 [slice x.g.a x.g.n x.g.cap, slice x.h.a x.h.n x.h.cap, slice x.s.a x.s.n x.s.cap, slice x.m.a x.m.n x.m.cap] 78), (1, x_6.G), (2, x_6.r.A), (3, F)] [])) (slice x_7.m.a x_7.m.n x_7.m.cap) x_7.mem ∧ Srcd (Atom.pred (rest [(0, Atom.cells x_6.b3 [slice x.g.a x.g.n x.g.cap, slice x.h.a x.h.n x.h.cap, slice x.s.a x.s.n x.s.cap, slice x.m.a x.m.n x.m.cap] 78), (1, x_6.G), (2, x_6.r.A), (3, F)] [])) x_7.s.a (ints x_7.ts)) ∧
 ∀ (y : Row × Row × Row),
 IsRow 3 1 (ints (sortI (entV x_7.c x_7.mem x_7.ts))) y.fst ∧ y.fst.n = (entV x_7.c x_7.mem x_7.ts).length ∧ y.snd.fst.n = 0 ∧ y.snd.snd.n = 0 →
 ∀ (b : Nat),
 Same ⟨b, 0, none⟩ b ∧
 Same ⟨b, 1, none⟩ b ∧
 Same ⟨b, 2, none⟩ b ∧
 Same ⟨b, 3, none⟩ b ∧
 Same ⟨x_6.b3, 0, none⟩ x_6.b3 ∧
 Same ⟨x_6.b3, 3, none⟩ x_6.b3 ∧
 FnOk Try.prog 49 exC ∧
 true = true ∧
 ∃ (x_8 : ExX),
 [pointer (some ⟨x_6.lb, 0, none⟩), slice x.g.a x.g.n x.g.cap, slice x.m.a x.m.n x.m.cap, slice x_6.r.a x_6.r.n x_6.r.cap] = [pointer (some ⟨x_8.b, 0, none⟩), slice x_8.g.a x_8.g.n x_8.g.cap, slice x_8.m.a x_8.m.n x_8.m.cap, slice x_8.s.a x_8.s.n x_8.s.cap] ∧
 ([] : List Atom) = [] ∧
 (newB x_8.c = true ∧ (IsSrc 1 (ints x_8.cf) x_8.g.a x_8.g.n ∧ x_8.g.n * 8 ≤ 140737488351232) ∧ IsSrc 1 (ints x_8.ts) x_8.s.a x_8.s.n ∧ x_8.s.n * 8 ≤ 140737488351232) ∧
 (LatIn (Atom.pred (rest [(0, Atom.cells x_6.b3 [slice x.g.a x.g.n x.g.cap, slice x.h.a x.h.n x.h.cap, slice x.s.a x.s.n x.s.cap, slice x.m.a x.m.n x.m.cap] 78), (1, x_6.G), (2, x_6.r.A), (3, F), (24040, y.fst.A), (24050, Atom.cells b [slice y.fst.a y.fst.n y.fst.cap, slice y.snd.fst.a y.snd.fst.n y.snd.fst.cap, slice y.snd.snd.a y.snd.snd.n y.snd.snd.cap, slice none 0 0] 83)] [])) x_8.b x_8.c ∧
 Srcd (Atom.pred (rest [(0, Atom.cells x_6.b3 [slice x.g.a x.g.n x.g.cap, slice x.h.a x.h.n x.h.cap, slice x.s.a x.s.n x.s.cap, slice x.m.a x.m.n x.m.cap] 78), (1, x_6.G), (2, x_6.r.A), (3, F), (24040, y.fst.A), (24050, Atom.cells b [slice y.fst.a y.fst.n y.fst.cap, slice y.snd.fst.a y.snd.fst.n y.snd.fst.cap, slice y.snd.snd.a y.snd.snd.n y.snd.snd.cap, slice none 0 0] 83)] [])) x_8.g.a (ints x_8.cf) ∧
 MemIn (Atom.pred (rest [(0, Atom.cells x_6.b3 [slice x.g.a x.g.n x.g.cap, slice x.h.a x.h.n x.h.cap, slice x.s.a x.s.n x.s.cap, slice x.m.a x.m.n x.m.cap] 78), (1, x_6.G), (2, x_6.r.A), (3, F), (24040, y.fst.A), (24050, Atom.cells b [slice y.fst.a y.fst.n y.fst.cap, slice y.snd.fst.a y.snd.fst.n y.snd.fst.cap, slice y.snd.snd.a y.snd.snd.n y.snd.snd.cap, slice none 0 0] 83)] [])) (slice x_8.m.a x_8.m.n x_8.m.cap) x_8.mem ∧
 Srcd (Atom.pred (rest [(0, Atom.cells x_6.b3 [slice x.g.a x.g.n x.g.cap, slice x.h.a x.h.n x.h.cap, slice x.s.a x.s.n x.s.cap, slice x.m.a x.m.n x.m.cap] 78), (1, x_6.G), (2, x_6.r.A), (3, F), (24040, y.fst.A), (24050, Atom.cells b [slice y.fst.a y.fst.n y.fst.cap, slice y.snd.fst.a y.snd.fst.n y.snd.fst.cap, slice y.snd.snd.a y.snd.snd.n y.snd.snd.cap, slice none 0 0] 83)] [])) x_8.s.a (ints x_8.ts)) ∧
 ∀ (y_1 : Row × List Int),
 y_1.snd.Perm (exV x_8.c x_8.mem x_8.cf x_8.ts) ∧ IsRow 3 1 (ints y_1.snd) y_1.fst →
 Br ((↑y_1.fst.n : Int) == (0 : Int))
 (Same ⟨b, 0, none⟩ b ∧
 Same ⟨b, 1, none⟩ b ∧
 ((-9223372036854775808 : Int) ≤ (↑y.fst.n : Int) + (↑y.snd.fst.n : Int) ∧ (↑y.fst.n : Int) + (↑y.snd.fst.n : Int) ≤ (9223372036854775807 : Int)) ∧
 Same ⟨b, 2, none⟩ b ∧
 ((-9223372036854775808 : Int) ≤ (↑y.fst.n : Int) + (↑y.snd.fst.n : Int) + (↑y.snd.snd.n : Int) ∧ (↑y.fst.n : Int) + (↑y.snd.fst.n : Int) + (↑y.snd.snd.n : Int) ≤ (9223372036854775807 : Int)) ∧
 Same ⟨b, 3, none⟩ b ∧
 ((-9223372036854775808 : Int) ≤ (↑y.fst.n : Int) + (↑y.snd.fst.n : Int) + (↑y.snd.snd.n : Int) + (↑(0 : Nat) : Int) ∧ (↑y.fst.n : Int) + (↑y.snd.fst.n : Int) + (↑y.snd.snd.n : Int) + (↑(0 : Nat) : Int) ≤ (9223372036854775807 : Int)) ∧
 Done (m4C fun (c : ChD) => newB c = true) x F (Ending.returned (bool ((↑y.fst.n : Int) + (↑y.snd.fst.n : Int) + (↑y.snd.snd.n : Int) + (↑(0 : Nat) : Int) == (0 : Int)))) [(0, Atom.cells x_6.b3 [slice x.g.a x.g.n x.g.cap, slice x.h.a x.h.n x.h.cap, slice x.s.a x.s.n x.s.cap, slice x.m.a x.m.n x.m.cap] 78), (1, x_6.G), (2, x_6.r.A), (3, F), (24040, y.fst.A), (24050, Atom.cells b [slice y.fst.a y.fst.n y.fst.cap, slice y.snd.fst.a y.snd.fst.n y.snd.fst.cap, slice y.snd.snd.a y.snd.snd.n y.snd.snd.cap, slice none 0 0] 83), (25060, y_1.fst.A)])
 (Done (m4C fun (c : ChD) => newB c = true) x F (Ending.returned (bool false)) [(0, Atom.cells x_6.b3 [slice x.g.a x.g.n x.g.cap, slice x.h.a x.h.n x.h.cap, slice x.s.a x.s.n x.s.cap, slice x.m.a x.m.n x.m.cap] 78), (1, x_6.G), (2, x_6.r.A), (3, F), (24040, y.fst.A), (24050, Atom.cells b [slice y.fst.a y.fst.n y.fst.cap, slice y.snd.fst.a y.snd.fst.n y.snd.fst.cap, slice y.snd.snd.a y.snd.snd.n y.snd.snd.cap, slice none 0 0] 83), (25060, y_1.fst.A)])))) := by
  obtain ⟨c, w, ⟨ga, gn, gc⟩, cf, ⟨ha, hn, hcap⟩, ⟨sa, sn, sc⟩, ⟨ma, mn, mc⟩, mem⟩ := x
  obtain ⟨hnew, g1, g2⟩ := hc
  replace hr : Mv4In F _ := hr
  dsimp only at hnew g1 g2 ⊢
  obtain ⟨hch, hcf, hm⟩ := id hr
  dsimp only at hch hcf hm
  have h2 : SlIn F (TrIn F) 6 88 (.slice w.vt.a w.vt.n w.vt.cap) c.trs := hch.trs
  have htn : w.vt.n = c.trs.length := h2.num.1
  intro b b3
  refine ⟨aw14_ok, rfl, (), rfl, rfl, trivial, trivial, fun _ _ => ?_⟩
  iterate 12 refine ⟨⟨rfl, rfl⟩, ?_⟩
  refine ⟨lg4_ok, rfl, ⟨c, w, ⟨ga, gn, gc⟩, cf, ⟨ha, hn, hcap⟩, ⟨sa, sn, sc⟩, ⟨ma, mn, mc⟩, mem⟩, rfl, rfl, trivial, hr.sub (sub_rest 0 (by simp) rfl), fun y hy => br_intro (fun _ => ⟨(), trivial, rfl, Ent.pick [0] rfl rfl⟩) (fun hyf => ?_)⟩
  have h120 : w.vt.n ≤ 120 := hy hyf
  clear hy hyf y
  iterate 8 refine ⟨⟨rfl, rfl⟩, ?_⟩
  refine ⟨newY_ok, rfl, ⟨c, w⟩, rfl, rfl, hnew, hch.sub (sub_rest 0 (by simp) rfl), fun z hz => ⟨⟨rfl, rfl⟩, ⟨⟨b, b3, z.b, z.G, nilRow, 0⟩, ⟨hz, .nil rfl, Nat.zero_le _⟩, ⟨rfl, rfl, rfl, rfl, rfl, rfl, rfl, trivial⟩, Ent.pick [1000, 1010, 6010, 77, 0] rfl rfl⟩, ?_⟩⟩
  clear hz z b b3
  rintro ⟨b, b3, lb, G, r, k⟩ js ⟨hz, hrow, hk⟩
  dsimp only at hz hrow hk ⊢
  have hil := idl_len c k
  have hrn : r.n = (idl c k).length := by have := hrow.len; rw [ints_length] at this; omega
  refine br_decide (fun hlt => ?_) (fun hge => ?_)
  · obtain ⟨tt, ht⟩ : ∃ tt, c.trs[k]? = some tt := ⟨_, List.getElem?_eq_getElem (by omega)⟩
    obtain ⟨b0, o0, r0, e0, ⟨ve, vt, rfl, p1, p2⟩, hL⟩ := h2.at' ht
    obtain ⟨ka, kc, rfl, -⟩ := SlIn.open p2
    obtain ⟨la, lc, rfl, -⟩ := SlIn.open p1
    have etg : tgts c k = tt.targets := by unfold tgts; rw [Int.toNat_natCast, ht]; rfl
    have hst := idl_step c k
    rw [etg] at hst
    refine ⟨ixq_ok 6 rfl rfl rfl rfl, ⟨b0, o0, w.vt.n, w.vt.cap, k⟩, by dsimp only; rw [e0], by dsimp only; omega, tt.source, hL 0 _ rfl, _, _, _, hL 1 _ rfl, tt.cond, hL 2 _ rfl, _, _, _, hL 3 _ rfl, tt.internal, hL 4 _ rfl, tt.block, hL 5 _ rfl, fun b2 => ?_⟩
    iterate 7 refine ⟨⟨rfl, rfl⟩, ?_⟩
    refine br_intro (fun he b4 => ?_) (fun he => ⟨⟨by omega, by omega⟩, ⟨b, b3, lb, G, r, k + 1⟩, ⟨hz, ?_, by dsimp only; omega⟩, ⟨rfl, rfl, rfl, rfl, rfl, rfl, rfl, trivial⟩, Ent.pick [0, 1, 2, 3, 4] rfl rfl, by dsimp only; omega⟩)
    · refine ⟨append_ok (P := Try.prog) 1 8 rfl rfl rfl rfl rfl rfl rfl (by decide), rfl, ⟨r, _, some ⟨b4, 0, none⟩, 1, 1, [.int .i64 k]⟩, rfl, rfl, ⟨hrow, rfl, by simp [Value.oneCell'], by dsimp only; omega, by dsimp only; omega, by simp⟩, ?_, fun z hz2 => ⟨⟨by omega, by omega⟩, ⟨b, b3, lb, G, z, k + 1⟩, ⟨hz, ?_, by dsimp only; omega⟩, ⟨rfl, rfl, rfl, rfl, rfl, rfl, rfl, trivial⟩, Ent.pick [0, 1, 2, 3, 4] rfl rfl, by dsimp only; omega⟩⟩
      · intro ad e
        cases e
        exact Seg.rest (j := 14020) (by simp) (Seg.cells fun j u h => by rw [Nat.zero_add]; exact h)
      · dsimp only
        rw [hst, he, cond_true, ints_append]
        exact hz2.1
    · dsimp only
      rw [hst, he]
      exact hrow
  · have ek : k = c.trs.length := by omega
    refine ⟨⟨rfl, rfl⟩, ⟨rfl, rfl⟩, ⟨by omega, by omega⟩, fun b4 => ⟨append_ok (P := Try.prog) 1 8 rfl rfl rfl rfl rfl rfl rfl (by decide), rfl, ⟨r, _, some ⟨b4, 0, none⟩, 3, 3, [.int .i64 (-1), .int .i64 w.vt.n, .int .i64 ((w.vt.n : Int) + 5)]⟩, rfl, rfl, ⟨hrow, rfl, by simp [Value.oneCell'], by dsimp only; omega, by dsimp only; omega, by simp⟩, ?_, fun z hz2 => ⟨⟨⟨b, b3, lb, G, z, 0⟩, ⟨hz, ?_, Nat.zero_le _⟩, ⟨rfl, rfl, rfl, rfl, rfl, rfl, trivial⟩, Ent.pick [1, 2, 3, 4] rfl rfl⟩, ?_⟩⟩⟩
    · intro ad e
      cases e
      exact Seg.rest (j := 16080) (by simp) (Seg.cells fun j u h => by rw [Nat.zero_add]; exact h)
    · have h3 := hz2.1
      dsimp only at h3 ⊢
      unfold idle
      rw [ek, htn] at h3
      rw [ints_append]
      exact h3
    clear hz2 z hrow hrn hil hz hk hge
    clear ek r k b b3 lb G
    rintro ⟨b, b3, lb, G, r, k⟩ js ⟨hz, hrow, hk⟩
    dsimp only at hz hrow hk ⊢
    have hrn : r.n = (idle c).length := by have := hrow.len; rw [ints_length] at this; omega
    have hil : (idle c).length ≤ 123 := by
      unfold idle
      rw [List.length_append]
      have := idl_len c c.trs.length
      show _ + 3 ≤ 123
      omega
    have hdom := fun t (h : t ∈ idle c) => idle_dom mem h
    refine br_decide (fun hlt => ?_) (fun hge => ⟨⟨rfl, rfl⟩, ?_⟩)
    · obtain ⟨b2, o2, e6⟩ := hrow.src.some (by omega)
      obtain ⟨u, hu⟩ : ∃ u, (idle c)[k]? = some u := ⟨_, List.getElem?_eq_getElem (by omega)⟩
      have e5 : o2 + (k : Int).toNat * 1 = o2 + k := by omega
      have hg := hrow.srcd
      rw [e6] at hg
      have hd := hdom u (List.mem_of_getElem? hu)
      exact ⟨ixq_ok 1 rfl rfl rfl rfl, ⟨b2, o2, r.n, r.cap, k⟩, by dsimp only; rw [e6], by dsimp only; omega, u, by dsimp only; rw [e5]; exact hg.look (ints_get hu), ⟨rfl, rfl⟩, dom_ok, rfl, ⟨lb, c, ⟨ma, mn, mc⟩, mem, u⟩, rfl, rfl, hnew, ⟨hz.sub (sub_rest 1 (by simp) rfl), hm.sub (sub_rest 3 (by simp) rfl)⟩, fun _ _ => br_no (by dsimp only; rw [hd]) (br_no (by dsimp only; rw [hd]; rfl) ⟨⟨by omega, by omega⟩, ⟨b, b3, lb, G, r, k + 1⟩, ⟨hz, hrow, by dsimp only; omega⟩, ⟨rfl, rfl, rfl, rfl, rfl, rfl, trivial⟩, Ent.pick [0, 1, 2, 3] rfl rfl, by dsimp only; omega⟩)⟩
    · refine ⟨ent_ok, rfl, ⟨lb, c, ⟨ma, mn, mc⟩, mem, ⟨r.a, r.n, r.cap⟩, idle c⟩, rfl, rfl, ⟨hnew, ⟨hrow.src, by dsimp only; omega⟩, fun t ht hon => ?_⟩, ⟨hz.sub (sub_rest 1 (by simp) rfl), hm.sub (sub_rest 3 (by simp) rfl), Srcd.sub (A := r.A) (sub_rest 2 (by simp) rfl) hrow.srcd⟩, fun y hy bo => ?_⟩
      · have := hdom t ht
        dsimp only at hon
        rw [this] at hon; cases hon
      obtain ⟨-, y1, y2, y3⟩ := hy
      have y0 : y.1.n = 0 := by
        rw [y1]
        show (entV c mem (idle c)).length = 0
        unfold entV
        rw [ent_idle _ _ hdom]; rfl
      iterate 6 refine ⟨⟨rfl, rfl⟩, ?_⟩
      refine ⟨ext_ok, rfl, ⟨lb, c, ⟨ga, gn, gc⟩, cf, ⟨ma, mn, mc⟩, mem, ⟨r.a, r.n, r.cap⟩, idle c⟩, rfl, rfl, ⟨hnew, ⟨g1, g2⟩, hrow.src, by dsimp only; omega⟩, ⟨hz.sub (sub_rest 1 (by simp) rfl), Srcd.sub (A := F) (sub_rest 3 (by simp) rfl) hcf, hm.sub (sub_rest 3 (by simp) rfl), Srcd.sub (A := r.A) (sub_rest 2 (by simp) rfl) hrow.srcd⟩, fun e he => ?_⟩
      obtain ⟨e1, e2⟩ := he
      have e3 : e.2 = [] := by
        have : exV c mem cf (idle c) = [] := ex_idle _ _ hdom
        dsimp only at e1
        rw [this] at e1
        exact List.perm_nil.1 e1
      have e4 : e.1.n = 0 := by
        rw [e3] at e2
        have := e2.len
        rw [ints_length] at this
        simp at this
        omega
      refine br_t (by rw [e4]; rfl) ⟨⟨rfl, rfl⟩, ⟨rfl, rfl⟩, ⟨by omega, by omega⟩, ⟨rfl, rfl⟩, ⟨by omega, by omega⟩, ⟨rfl, rfl⟩, ⟨by omega, by omega⟩, ⟨(), trivial, ?_, Ent.pick [3] rfl rfl⟩⟩
      rw [y0, y2, y3]; rfl
set_option maxRecDepth 100000 in
theorem ntY_ok : FnOk Try.prog 11 (m4C fun c => newB c = true) :=
  fnOk (N := 106) (by kernel_rfl) Try.func11 rfl (by kernel_rfl) (fun _ => Nat.le_of_ble_eq_true rfl) ntY_H [] fun x F hc hr => Eq.mpr (by kernel_rfl) (ntY_vc x F hc hr)
end Go.Proofs.Ytkmdgnbfojkcnaa
