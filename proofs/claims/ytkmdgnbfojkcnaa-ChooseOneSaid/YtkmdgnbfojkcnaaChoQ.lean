/- Which transitions an event asks for, where all conditions hold: Select. -/
import Derived.Test.YtkmdgnbfojkcnaaChoP
set_option linter.all false
namespace Go.Proofs.Ytkmdgnbfojkcnaa
open Go
set_option maxHeartbeats 1000000
/-- The events' texts aren't too great. -/
def EvOk (c : ChD) : Prop := ∀ t ∈ c.trs, ∀ e ∈ t.events, e.size ≤ 4611686018427387904
def strans (c : ChD) (s : Int) : List Int := ((c.sts[s.toNat]?).map (·.trans)).getD []
def evs (c : ChD) (t : Int) : List ByteArray := ((c.trs[t.toNat]?).map (·.events)).getD []
def hitB (c : ChD) (name : ByteArray) (ev : Bool) (t : Int) : Bool := fitB (evs c t) name ev
def ask1 (c : ChD) (name : ByteArray) (ev : Bool) (s : Int) : Option Int := (strans c s).find? (hitB c name ev)
def addO (o : List Int) : Option Int → List Int
  | some t => add1 o t
  | none => o
def askA (c : ChD) (name : ByteArray) (ev : Bool) : List Int → List Int → List Int
  | [], o => o
  | p :: r, o => bif (ask1 c name ev p).isSome then addO o (ask1 c name ev p) else askA c name ev r o
def chain (c : ChD) (s : Int) : List Int := s :: abvV c s (-1)
def askS (c : ChD) (name : ByteArray) (ev : Bool) (cf : List Int) (o : List Int) (s : Nat) : List Int := bif atB c s && memB cf s then askA c name ev (chain c s) o else o
def askV (c : ChD) (name : ByteArray) (ev : Bool) (cf : List Int) (n : Nat) : List Int := (List.range n).foldl (askS c name ev cf) []
def selV (c : ChD) (mem : List (List Int)) (cf : List Int) (name : ByteArray) (ev : Bool) : List Int := resV c mem cf (askV c name ev cf (nS c))
theorem askV_succ (c : ChD) (name : ByteArray) (ev : Bool) (cf : List Int) (n : Nat) : askV c name ev cf (n + 1) = askS c name ev cf (askV c name ev cf n) n := by
  unfold askV
  rw [List.range_succ, List.foldl_append]; rfl
/-- A state's transitions are transitions, from it. -/
theorem strans_ok {c : ChD} (h : newB c = true) {s t : Int} (hs : isS c s = true) (ht : t ∈ strans c s) : isT c t = true ∧ srcT c t = s := by
  obtain ⟨i, rfl, hi⟩ := isS_spec hs
  obtain ⟨st, hst⟩ := get_st hi
  unfold strans at ht
  rw [Int.toNat_natCast, hst] at ht
  replace ht : t ∈ st.trans := ht
  have hall : ∀ (l : List StD) (i k : Nat) (s : StD), stsB c i l = true → l[k]? = some s → ∀ u ∈ s.trans, okTr c (i + k : Nat) s u = true := by
    intro l
    induction l with
    | nil => intro i k s _ h; simp at h
    | cons x l ih =>
      intro i k s h1 h2
      rw [stsB, Bool.and_eq_true, Bool.and_eq_true] at h1
      cases k with
      | zero =>
        simp at h2
        subst h2
        intro u hu
        exact List.all_eq_true.1 h1.2.1 u hu
      | succ k =>
        have := ih (i + 1) k s h1.2.2 (by simpa using h2)
        rw [show i + (k + 1) = i + 1 + k by omega]
        exact this
  have h2 := hall c.sts 0 i st (right_trans h).2 hst t ht
  rw [Nat.zero_add] at h2
  unfold okTr at h2
  cases e1 : (st.kind != 1 && st.kind != 2) with
  | true => rw [e1] at h2; simp at h2
  | false =>
    rw [e1, cond_false] at h2
    by_cases e2 : t < 0
    · rw [decide_eq_true e2] at h2; simp at h2
    · rw [decide_eq_false e2, cond_false] at h2
      by_cases e3 : t ≥ c.trs.length
      · rw [decide_eq_true e3] at h2; simp at h2
      · rw [decide_eq_false e3, cond_false] at h2
        cases e4 : (t == st.init) with
        | true => rw [e4] at h2; simp at h2
        | false =>
          rw [e4, cond_false] at h2
          cases e5 : c.trs[t.toNat]? with
          | none => rw [e5] at h2; simp at h2
          | some tr =>
            rw [e5] at h2
            refine ⟨?_, ?_⟩
            · unfold isT
              rw [decide_eq_true (show t ≥ 0 by omega), decide_eq_true (show t < (c.trs.length : Int) by omega)]; rfl
            · unfold srcT
              rw [e5]
              simpa using h2
theorem ask1_ok {c : ChD} (h : newB c = true) {name : ByteArray} {ev : Bool} {s t : Int} (hs : isS c s = true) (ht : ask1 c name ev s = some t) : isT c t = true ∧ srcT c t = s ∧ hitB c name ev t = true ∧ t ∈ strans c s := by
  unfold ask1 at ht
  have h1 := List.mem_of_find?_eq_some ht
  have h2 := List.find?_some ht
  obtain ⟨h3, h4⟩ := strans_ok h hs h1
  exact ⟨h3, h4, h2, h1⟩
theorem isT_rng {c : ChD} {t : Int} (h : isT c t = true) : 0 ≤ t ∧ t < c.trs.length := by
  obtain ⟨q, rfl, hq⟩ := isT_spec h
  omega
theorem askA_good {c : ChD} (h : newB c = true) (name : ByteArray) (ev : Bool) : ∀ (l o : List Int), (∀ s ∈ l, isS c s = true) → Good c.trs.length o → Good c.trs.length (askA c name ev l o)
  | [], _, _, ho => ho
  | p :: r, o, hl, ho => by
    rw [askA]
    cases ha : ask1 c name ev p with
    | some t => exact ho.add1 (isT_rng (ask1_ok h (hl p (by simp)) ha).1)
    | none => exact askA_good h name ev r o (fun s hs => hl s (by simp [hs])) ho
theorem chain_ok {c : ChD} (h : newB c = true) {s : Nat} (hs : s < nS c) : ∀ u ∈ chain c s, isS c u = true := by
  intro u hu
  rcases List.mem_cons.1 hu with rfl | hu
  · exact isS_nat hs
  · exact abvV_mem (newB_spec.1 h).1 hu
theorem askV_good {c : ChD} (h : newB c = true) (name : ByteArray) (ev : Bool) (cf : List Int) : ∀ n, n ≤ nS c → Good c.trs.length (askV c name ev cf n)
  | 0, _ => ⟨List.nodup_nil, fun u hu => by simp [askV] at hu⟩
  | n + 1, hn => by
    have ih := askV_good h name ev cf n (by omega)
    rw [askV_succ]
    unfold askS
    cases (atB c n && memB cf n) with
    | true => exact askA_good h name ev _ _ (chain_ok h (by omega)) ih
    | false => exact ih
theorem StrsIn.srcd {F : Atom} {a : Option Addr} {n cap : Nat} {xs : List ByteArray} (h : StrsIn F (.slice a n cap) xs) : IsSrc 1 (txts xs) a n ∧ Srcd F a (txts xs) ∧ n * 16 ≤ 140737488351232 ∧ n = xs.length := by
  obtain ⟨a', n', cap', raw, e, h1, h2, h3, h4, h5, h6, h7, h8⟩ := h
  simp only [Value.slice.injEq] at e
  obtain ⟨rfl, rfl, rfl⟩ := e
  have hf : ∀ {l : List (List Value)} {m : List ByteArray}, All2 StrIn l m → l.flatten = txts m := by
    intro l m
    induction l generalizing m with
    | nil => cases m with | nil => intro _; rfl | cons _ _ => intro h; exact h.elim
    | cons x l ih => cases m with
      | nil => intro h; exact h.elim
      | cons y m =>
        intro h
        obtain ⟨g1, g2⟩ := h
        rw [List.flatten_cons, ih g2, (show x = [.string y] from g1)]
        rfl
  have hl := h8.len
  rw [hf h8] at h1 h2
  exact ⟨h1, h2, h5, by omega⟩
/-- A chart's value, its states' transitions and its transitions' events, read. -/
structure SelW (F : Atom) (c : ChD) (w : ChS) : Prop where
  sn : w.vs.n = nS c
  tn : w.vt.n = c.trs.length
  st : ∀ i, i < nS c → ∃ b0 o0 ka kc, w.vs.a = some ⟨b0, o0, none⟩ ∧ Look F ⟨b0, o0 + i * 13 + 7, none⟩ (.slice ka (strans c i).length kc) ∧ IntsIn F (.slice ka (strans c i).length kc) (strans c i)
  tr : ∀ i, i < c.trs.length → ∃ b0 o0 ka kc, w.vt.a = some ⟨b0, o0, none⟩ ∧ Look F ⟨b0, o0 + i * 6 + 1, none⟩ (.slice ka (evs c i).length kc) ∧ StrsIn F (.slice ka (evs c i).length kc) (evs c i)
theorem SelW.sub {A B : Atom} {c : ChD} {w : ChS} (hs : Sub A B) (h : SelW A c w) : SelW B c w := by
  refine ⟨h.sn, h.tn, fun i hi => ?_, fun i hi => ?_⟩
  · obtain ⟨b0, o0, ka, kc, h1, h2, h3⟩ := h.st i hi
    exact ⟨b0, o0, ka, kc, h1, h2.sub hs, h3.sub hs⟩
  · obtain ⟨b0, o0, ka, kc, h1, h2, h3⟩ := h.tr i hi
    exact ⟨b0, o0, ka, kc, h1, h2.sub hs, h3.sub hs⟩
theorem sel_w {F : Atom} {b : Nat} {c : ChD} (h : LatIn F b c) : ∃ w : ChS, (∀ j u, (chS c w)[j]? = some u → Look F ⟨b, j, none⟩ u) ∧ SelW F c w := by
  obtain ⟨w, hw, hch⟩ := h.chs
  obtain ⟨⟨va, vn, vcap⟩, ⟨ta, tn, tc⟩, wb, wd, wi⟩ := w
  have h1 := hch.sts
  have h2 := hch.trs
  dsimp only [ChS.v] at h1 h2
  obtain ⟨n1, -, -⟩ := h1.num
  obtain ⟨m1, -, -⟩ := h2.num
  refine ⟨⟨⟨va, vn, vcap⟩, ⟨ta, tn, tc⟩, wb, wd, wi⟩, hw, n1, m1, fun i hi => ?_, fun i hi => ?_⟩
  · obtain ⟨s, hs⟩ := get_st hi
    obtain ⟨b0, o0, r, rfl, ⟨vk, ve, vx, vt, vd, vi, vp, rfl, p1, p2, p3, p4, -⟩, hL⟩ := h1.at' hs
    have e : strans c i = s.trans := by unfold strans; rw [Int.toNat_natCast, hs]; rfl
    obtain ⟨ka, kc, rfl, -⟩ := SlIn.open p4
    exact ⟨b0, o0, ka, kc, rfl, by rw [e]; exact hL 7 _ rfl, by rw [e]; exact p4⟩
  · obtain ⟨t, ht⟩ : ∃ t, c.trs[i]? = some t := ⟨_, List.getElem?_eq_getElem hi⟩
    obtain ⟨b0, o0, r, rfl, ⟨ve, vt, rfl, p1, p2⟩, hL⟩ := h2.at' ht
    have e : evs c i = t.events := by unfold evs; rw [Int.toNat_natCast, ht]; rfl
    obtain ⟨ka, kc, rfl, -⟩ := SlIn.open p1
    exact ⟨b0, o0, ka, kc, rfl, by rw [e]; exact hL 1 _ rfl, by rw [e]; exact p1⟩
structure FiX where
  c1 : Nat
  c2 : Nat
  c3 : Nat
  c4 : Nat
  bo : Nat
  r : Row
  out : List Int
  c : ChD
  w : ChS
  name : ByteArray
  ev : Bool
  s : Int
def fiC : Con where
  X := FiX
  Y := Row
  args x := [.int .i64 x.s, .pointer (some ⟨x.c1, 0, none⟩), .pointer (some ⟨x.c2, 0, none⟩), .pointer (some ⟨x.c3, 0, none⟩), .pointer (some ⟨x.c4, 0, none⟩), .pointer (some ⟨x.bo, 0, none⟩)]
  pre x := [.cells x.bo [.slice x.r.a x.r.n x.r.cap] 29, x.r.A]
  cond x := newB x.c = true ∧ EvOk x.c ∧ isS x.c x.s = true ∧ IsRow 3 1 (ints x.out) x.r ∧ Good x.c.trs.length x.out
  rdc x F := SelW F x.c x.w ∧ (∀ j u, (chS x.c x.w)[j]? = some u → Look F ⟨x.c1, j, none⟩ u) ∧ Look F ⟨x.c2, 0, none⟩ (.string x.name) ∧ Look F ⟨x.c3, 0, none⟩ (.bool x.ev) ∧ Look F ⟨x.c4, 0, none⟩ .nilFunc
  rel x y := IsRow 3 1 (ints (addO x.out (ask1 x.c x.name x.ev x.s))) y
  val x _ := .returned (.bool (ask1 x.c x.name x.ev x.s).isSome)
  post x y := [.cells x.bo [.slice y.a y.n y.cap] 29, y.A]
  rmono _ _ _ h hk := ⟨hk.1.sub h, fun j u hj => (hk.2.1 j u hj).sub h, hk.2.2.1.sub h, hk.2.2.2.1.sub h, hk.2.2.2.2.sub h⟩
structure FiI where
  k : Nat
  ka : Option Addr
  kc : Nat
def fiInv (x : FiX) (F : Atom) : Nat → Option Inv := fun
  | 0 => some { X := FiI, P := fun i => i.k ≤ (strans x.c x.s).length ∧ IntsIn F (.slice i.ka (strans x.c x.s).length i.kc) (strans x.c x.s) ∧ ask1 x.c x.name x.ev x.s = ((strans x.c x.s).drop i.k).find? (hitB x.c x.name x.ev), mu := fun i => (strans x.c x.s).length - i.k, lv := fun i => [(1, .pointer (some ⟨x.c1, 0, none⟩)), (2, .pointer (some ⟨x.c2, 0, none⟩)), (3, .pointer (some ⟨x.c3, 0, none⟩)), (4, .pointer (some ⟨x.c4, 0, none⟩)), (5, .pointer (some ⟨x.bo, 0, none⟩)), (15, .slice i.ka (strans x.c x.s).length i.kc), (16, .int .i64 (strans x.c x.s).length), (17, .int .i64 i.k)], st := fun _ => [.cells x.bo [.slice x.r.a x.r.n x.r.cap] 29, x.r.A, F] }
  | _ => none
def fiOv (x : FiX) (_F : Atom) : List (Nat × Nat × OH) := [(1, 1, .q [.ex 2 .slice]), (1, 3, .qo (ixQ 13)), (1, 5, .q [.ex 2 .slice]), (3, 0, .qo (ixQ 1)), (3, 1, .q [.ex 2 (.int .i64)]), (4, 1, .q [.ex 2 .slice]), (4, 3, .qo (ixQ 6)), (4, 5, .q [.ex 2 .slice]), (4, 6, .q [.ex 2 (.is (.string x.name))]), (4, 7, .q [.ex 2 (.is (.bool x.ev))]), (4, 8, .c selC [] []), (4, 10, .q [.ex 2 (.is .nilFunc)]), (5, 0, .q [.atj 0]), (5, 2, .c coC' [] []), (6, 0, .q [.atj 0]), (6, 2, .n 7020), (6, 3, .o (apC 3 1 8) [1] [1]), (6, 4, .w [.atj 0])]
noncomputable def fi_H (x : Con.X fiC) (F : Atom) : Hints where
  op := hk ((fiOv x F) ++ [])
  inv := fiInv x F
  cut := (fun _ _ _ => none) x F
  ord := (fun _ => [])
open Go.Value (int slice string bool pointer agg tuple func) in
open Go.IntKind (i64) in
set_option maxRecDepth 100000 in
theorem fi_vc (x : FiX) (F : Atom) (hc : Con.cond fiC x) (hr : Con.rdc fiC x F) :
  ∃ (a : Option Addr),
 ∃ (l : Nat),
 ∃ (c : Nat),
 Look F ⟨x.c1, 3, none⟩ (slice a l c) ∧
 QOpOk Try.prog (opIn Try.f84 1 3) (ixQ 13) ∧
 ∃ (x_1 : IxQX),
 [slice a l c, int i64 x.s] = [slice (some ⟨x_1.b, x_1.o, none⟩) x_1.len x_1.cap, int i64 x_1.n] ∧
 ((0 : Int) ≤ x_1.n ∧ x_1.n < (↑x_1.len : Int)) ∧
 ∃ (a : Option Addr),
 ∃ (l : Nat),
 ∃ (c : Nat),
 Look F ⟨x_1.b, x_1.o + x_1.n.toNat * 13 + 7, none⟩ (slice a l c) ∧
 (∃ (x_2 : FiI),
 (x_2.k ≤ (strans x.c x.s).length ∧ IntsIn F (slice x_2.ka (strans x.c x.s).length x_2.kc) (strans x.c x.s) ∧ ask1 x.c x.name x.ev x.s = List.find? (hitB x.c x.name x.ev) (List.drop x_2.k (strans x.c x.s))) ∧
 (pointer (some ⟨x.c1, 0, none⟩) = pointer (some ⟨x.c1, 0, none⟩) ∧ pointer (some ⟨x.c2, 0, none⟩) = pointer (some ⟨x.c2, 0, none⟩) ∧ pointer (some ⟨x.c3, 0, none⟩) = pointer (some ⟨x.c3, 0, none⟩) ∧ pointer (some ⟨x.c4, 0, none⟩) = pointer (some ⟨x.c4, 0, none⟩) ∧ pointer (some ⟨x.bo, 0, none⟩) = pointer (some ⟨x.bo, 0, none⟩) ∧ slice a l c = slice x_2.ka (strans x.c x.s).length x_2.kc ∧ int i64 (↑l : Int) = int i64 (↑(strans x.c x.s).length : Int) ∧ int i64 (0 : Int) = int i64 (↑x_2.k : Int) ∧ True) ∧
 Ent [(0, Atom.cells x.bo [slice x.r.a x.r.n x.r.cap] 29), (1, x.r.A), (2, F)] [(0, Atom.cells x.bo [slice x.r.a x.r.n x.r.cap] 29), (1, x.r.A), (2, F)]) ∧
 ∀ (x_2 : FiI) (js : Nat → Value),
 x_2.k ≤ (strans x.c x.s).length ∧ IntsIn F (slice x_2.ka (strans x.c x.s).length x_2.kc) (strans x.c x.s) ∧ ask1 x.c x.name x.ev x.s = List.find? (hitB x.c x.name x.ev) (List.drop x_2.k (strans x.c x.s)) →
 Br (decide ((↑x_2.k : Int) < (↑(strans x.c x.s).length : Int)))
 (QOpOk Try.prog (opIn Try.f84 3 0) (ixQ 1) ∧
 ∃ (x_3 : IxQX),
 [slice x_2.ka (strans x.c x.s).length x_2.kc, int i64 (↑x_2.k : Int)] = [slice (some ⟨x_3.b, x_3.o, none⟩) x_3.len x_3.cap, int i64 x_3.n] ∧
 ((0 : Int) ≤ x_3.n ∧ x_3.n < (↑x_3.len : Int)) ∧
 ∃ (n : Int),
 Look F ⟨x_3.b, x_3.o + x_3.n.toNat * 1, none⟩ (int i64 n) ∧
 true = true ∧
 ∃ (a : Option Addr),
 ∃ (l : Nat),
 ∃ (c : Nat),
 Look F ⟨x.c1, 4, none⟩ (slice a l c) ∧
 QOpOk Try.prog (opIn Try.f84 4 3) (ixQ 6) ∧
 ∃ (x_4 : IxQX),
 [slice a l c, int i64 n] = [slice (some ⟨x_4.b, x_4.o, none⟩) x_4.len x_4.cap, int i64 x_4.n] ∧
 ((0 : Int) ≤ x_4.n ∧ x_4.n < (↑x_4.len : Int)) ∧
 ∃ (a : Option Addr),
 ∃ (l : Nat),
 ∃ (c : Nat),
 Look F ⟨x_4.b, x_4.o + x_4.n.toNat * 6 + 1, none⟩ (slice a l c) ∧
 Look F ⟨x.c2, 0, none⟩ (string x.name) ∧
 Look F ⟨x.c3, 0, none⟩ (bool x.ev) ∧
 FnOk Try.prog 85 selC ∧
 true = true ∧
 ∃ (x_5 : SelX),
 [slice a l c, string x.name, bool x.ev] = [slice x_5.a x_5.n x_5.cap, string x_5.name, bool x_5.ev] ∧
 ([] : List Atom) = [] ∧
 (IsSrc 1 (txts x_5.xs) x_5.a x_5.n ∧ x_5.n * 16 ≤ 140737488351232 ∧ ∀ (u : ByteArray), u ∈ x_5.xs → u.size ≤ 4611686018427387904) ∧
 Srcd (Atom.pred (rest [(0, Atom.cells x.bo [slice x.r.a x.r.n x.r.cap] 29), (1, x.r.A), (2, F)] [])) x_5.a (txts x_5.xs) ∧
 ∀ (y : Unit),
 True →
 Br (fitB x_5.xs x_5.name x_5.ev)
 (Look F ⟨x.c4, 0, none⟩ Value.nilFunc ∧
 Same ⟨x.bo, 0, none⟩ x.bo ∧
 FnOk Try.prog 66 coC' ∧
 true = true ∧
 ∃ (x_6 : InX),
 [slice x.r.a x.r.n x.r.cap, int i64 n] = [slice x_6.a x_6.n x_6.cap, int i64 x_6.v] ∧
 ([] : List Atom) = [] ∧
 (IsSrc 1 (ints x_6.xs) x_6.a x_6.n ∧ x_6.n * 8 ≤ 140737488351232) ∧
 Srcd (Atom.pred (rest [(0, Atom.cells x.bo [slice x.r.a x.r.n x.r.cap] 29), (1, x.r.A), (2, F)] [])) x_6.a (ints x_6.xs) ∧
 ∀ (y : Unit),
 True →
 Br (!memB x_6.xs x_6.v)
 (Same ⟨x.bo, 0, none⟩ x.bo ∧
 ∀ (b : Nat),
 OpOk Try.prog (opIn Try.f84 6 3) (apC (3 : TypeId) 1 8) ∧
 true = true ∧
 ∃ (x_7 : ApX),
 [slice x.r.a x.r.n x.r.cap, slice (some ⟨b, 0, none⟩) 1 1] = [slice x_7.r.a x_7.r.n x_7.r.cap, slice x_7.a x_7.m x_7.c] ∧
 [x.r.A] = [x_7.r.A] ∧
 (IsRow 3 1 x_7.cs x_7.r ∧ x_7.ys.length = x_7.m * 1 ∧ (∀ (u : Value), u ∈ x_7.ys → u.oneCell' = true) ∧ (x_7.r.n + x_7.m) * 8 ≤ 140737488355328 ∧ x_7.r.n + x_7.m ≤ 9223372036854775807 ∧ (x_7.a = none → x_7.m = 0 ∧ x_7.c = 0)) ∧
 (∀ (a : Addr), x_7.a = some a → Seg (Atom.pred (rest [(0, Atom.cells x.bo [slice x.r.a x.r.n x.r.cap] 29), (1, x.r.A), (2, F), (7020, Atom.cells b [int i64 n] 3)] [1])) a x_7.ys) ∧ ∀ (y : Row), IsRow 3 1 (x_7.cs ++ x_7.ys) y ∧ y.n = x_7.r.n + x_7.m ∧ (x_7.m = 0 → y = x_7.r) → Same ⟨x.bo, 0, none⟩ x.bo ∧ Done fiC x F (Ending.returned (bool true)) [(0, Atom.cells x.bo [slice y.a y.n y.cap] 29), (1, y.A), (2, F), (7020, Atom.cells b [int i64 n] 3)])
 (Done fiC x F (Ending.returned (bool true)) [(0, Atom.cells x.bo [slice x.r.a x.r.n x.r.cap] 29), (1, x.r.A), (2, F)]))
 (((-9223372036854775808 : Int) ≤ (↑x_2.k : Int) + (1 : Int) ∧ (↑x_2.k : Int) + (1 : Int) ≤ (9223372036854775807 : Int)) ∧
 ∃ (y : FiI),
 (y.k ≤ (strans x.c x.s).length ∧ IntsIn F (slice y.ka (strans x.c x.s).length y.kc) (strans x.c x.s) ∧ ask1 x.c x.name x.ev x.s = List.find? (hitB x.c x.name x.ev) (List.drop y.k (strans x.c x.s))) ∧
 (pointer (some ⟨x.c1, 0, none⟩) = pointer (some ⟨x.c1, 0, none⟩) ∧
 pointer (some ⟨x.c2, 0, none⟩) = pointer (some ⟨x.c2, 0, none⟩) ∧ pointer (some ⟨x.c3, 0, none⟩) = pointer (some ⟨x.c3, 0, none⟩) ∧ pointer (some ⟨x.c4, 0, none⟩) = pointer (some ⟨x.c4, 0, none⟩) ∧ pointer (some ⟨x.bo, 0, none⟩) = pointer (some ⟨x.bo, 0, none⟩) ∧ slice x_2.ka (strans x.c x.s).length x_2.kc = slice y.ka (strans x.c x.s).length y.kc ∧ int i64 (↑(strans x.c x.s).length : Int) = int i64 (↑(strans x.c x.s).length : Int) ∧ int i64 ((↑x_2.k : Int) + (1 : Int)) = int i64 (↑y.k : Int) ∧ True) ∧
 Ent [(0, Atom.cells x.bo [slice x.r.a x.r.n x.r.cap] 29), (1, x.r.A), (2, F)] [(0, Atom.cells x.bo [slice x.r.a x.r.n x.r.cap] 29), (1, x.r.A), (2, F)] ∧ (strans x.c x.s).length - y.k < (strans x.c x.s).length - x_2.k))
 (Done fiC x F (Ending.returned (bool false)) [(0, Atom.cells x.bo [slice x.r.a x.r.n x.r.cap] 29), (1, x.r.A), (2, F)]) := by
  obtain ⟨c1, c2, c3, c4, bo, r, out, c, w, name, ev, s⟩ := x
  obtain ⟨hnew, hev, hsS, hrow, hgd⟩ := hc
  obtain ⟨hw, hcl, hl2, hl3, hl4⟩ := hr
  dsimp only at hnew hev hsS hrow hgd hw hcl hl2 hl3 hl4 ⊢
  have hnl := newB_spec.1 hnew
  have hn128 := hnl.1.n128
  obtain ⟨q, rfl, hq⟩ := isS_spec hsS
  obtain ⟨b0, o0, ka, kc, ea, hk, hI0⟩ := hw.st q hq
  have hsn := hw.sn
  have htn := hw.tn
  have hgl := hgd.len
  have hrl : r.n = out.length := by have := hrow.len; rw [ints_length] at this; omega
  refine ⟨_, _, _, hcl 3 _ rfl, ixq_ok 13 rfl rfl rfl rfl, ⟨b0, o0, w.vs.n, w.vs.cap, q⟩, by rw [ea], by dsimp only; omega, _, _, _, hk, ⟨⟨0, ka, kc⟩, ⟨Nat.zero_le _, hI0, rfl⟩, ⟨rfl, rfl, rfl, rfl, rfl, rfl, rfl, rfl, trivial⟩, Ent.pick [0, 1, 2] rfl rfl⟩, ?_⟩
  clear hI0 hk ea b0 o0 ka kc
  rintro ⟨k, ka, kc⟩ js ⟨hkl, hI, hfind⟩
  dsimp only at hkl hI hfind ⊢
  obtain ⟨g1, g2, g3, g4, g5⟩ := hI.srcd
  refine br_decide (fun hlt => ?_) (fun hge => ?_)
  · obtain ⟨t, ht⟩ : ∃ t, (strans c q)[k]? = some t := ⟨_, List.getElem?_eq_getElem (by omega)⟩
    obtain ⟨b2, o2, rfl⟩ := g1.some (by omega)
    have eo : o2 + (k : Int).toNat * 1 = o2 + k := by omega
    have htm := List.mem_of_getElem? ht
    obtain ⟨hT, -⟩ := strans_ok hnew hsS htm
    obtain ⟨p, rfl, hp⟩ := isT_spec hT
    obtain ⟨b3, o3, ka3, kc3, ea3, hk3, hI3⟩ := hw.tr p hp
    obtain ⟨e1, e2, e3, e4⟩ := StrsIn.srcd hI3
    rw [drop_get ht, List.find?_cons] at hfind
    refine ⟨ixq_ok 1 rfl rfl rfl rfl, ⟨b2, o2, _, kc, k⟩, rfl, by dsimp only; omega, p, by dsimp only; rw [eo]; exact g2.look (ints_get ht), rfl, _, _, _, hcl 4 _ rfl, ixq_ok 6 rfl rfl rfl rfl, ⟨b3, o3, w.vt.n, w.vt.cap, p⟩, by rw [ea3], by dsimp only; omega, _, _, _, hk3, hl2, hl3, sel_ok, rfl, ⟨ka3, _, kc3, evs c p, name, ev⟩, rfl, rfl, ⟨e1, e3, fun u hu => ?_⟩, Srcd.sub (A := F) (sub_rest 2 (by simp) rfl) e2, fun _ _ => br_intro (fun hf => ?_) (fun hf => ?_)⟩
    · obtain ⟨tr, htr⟩ : ∃ tr, c.trs[p]? = some tr := ⟨_, List.getElem?_eq_getElem hp⟩
      have e : evs c p = tr.events := by unfold evs; rw [Int.toNat_natCast, htr]; rfl
      dsimp only at hu
      rw [e] at hu
      exact hev tr (List.mem_of_getElem? htr) u hu
    · dsimp only at hf
      have hh : hitB c name ev p = true := hf
      rw [hh] at hfind
      dsimp only at hfind
      refine ⟨hl4, ⟨rfl, rfl⟩, con_ok, rfl, ⟨r.a, r.n, r.cap, out, p⟩, rfl, rfl, ⟨hrow.src, by dsimp only; omega⟩, Srcd.sub (A := r.A) (sub_rest 1 (by simp) rfl) hrow.srcd, fun _ _ => br_intro (fun hm => ⟨⟨rfl, rfl⟩, fun b4 => ?_⟩) (fun hm => ⟨r, ?_, ?_, Ent.pick [0, 1, 2] rfl rfl⟩)⟩
      · have hm' : memB out p = false := by simpa using hm
        refine ⟨append_ok (P := Try.prog) 1 8 rfl rfl rfl rfl rfl rfl rfl (by decide), rfl, ⟨r, _, some ⟨b4, 0, none⟩, 1, 1, [.int .i64 p]⟩, rfl, rfl, ⟨hrow, rfl, by simp [Value.oneCell'], by dsimp only; omega, by dsimp only; omega, by simp⟩, ?_, fun z hz => ⟨⟨rfl, rfl⟩, z, ?_, ?_, Ent.pick [0, 1, 2] rfl rfl⟩⟩
        · intro ad e
          cases e
          exact Seg.rest (j := 7020) (by simp) (Seg.cells fun j u h => by rw [Nat.zero_add]; exact h)
        · show IsRow 3 1 (ints (addO out (ask1 c name ev q))) z
          rw [hfind]
          show IsRow 3 1 (ints (bif memB out (p : Int) then out else out ++ [(p : Int)])) z
          rw [hm', cond_false, ints_append]
          exact hz.1
        · show Ending.returned (.bool true) = .returned (.bool (ask1 c name ev q).isSome)
          rw [hfind]; rfl
      · have hm' : memB out p = true := by simpa using hm
        show IsRow 3 1 (ints (addO out (ask1 c name ev q))) r
        rw [hfind]
        show IsRow 3 1 (ints (bif memB out (p : Int) then out else out ++ [(p : Int)])) r
        rw [hm']
        exact hrow
      · show Ending.returned (.bool true) = .returned (.bool (ask1 c name ev q).isSome)
        rw [hfind]; rfl
    · dsimp only at hf
      have hh : hitB c name ev p = false := hf
      rw [hh] at hfind
      exact ⟨⟨by omega, by omega⟩, ⟨k + 1, _, kc⟩, ⟨by dsimp only; omega, hI, hfind⟩, ⟨rfl, rfl, rfl, rfl, rfl, rfl, rfl, rfl, trivial⟩, Ent.pick [0, 1, 2] rfl rfl, by dsimp only; omega⟩
  · rw [List.drop_eq_nil_of_le (by omega)] at hfind
    replace hfind : ask1 c name ev q = none := hfind
    refine ⟨r, ?_, ?_, Ent.pick [0, 1, 2] rfl rfl⟩
    · show IsRow 3 1 (ints (addO out (ask1 c name ev q))) r
      rw [hfind]; exact hrow
    · show Ending.returned (.bool false) = .returned (.bool (ask1 c name ev q).isSome)
      rw [hfind]; rfl
set_option maxRecDepth 100000 in
theorem fi_ok : FnOk Try.prog 84 fiC :=
  fnOk (N := 48) (by kernel_rfl) Try.func84 rfl (by kernel_rfl) (fun _ => Nat.le_of_ble_eq_true rfl) fi_H [] fun x F hc hr => Eq.mpr (by kernel_rfl) (fi_vc x F hc hr)
structure SlcX where
  b : Nat
  c : ChD
  g : Sl
  cf : List Int
  m : Sl
  mem : List (List Int)
  name : ByteArray
  ev : Bool
def slcC : Con where
  X := SlcX
  Y := Row
  args x := [.pointer (some ⟨x.b, 0, none⟩), .slice x.g.a x.g.n x.g.cap, .slice x.m.a x.m.n x.m.cap, .string x.name, .bool x.ev, .nilFunc]
  pre _ := []
  cond x := newB x.c = true ∧ EvOk x.c ∧ IsSrc 1 (ints x.cf) x.g.a x.g.n ∧ x.g.n * 8 ≤ 140737488351232
  rdc x F := LatIn F x.b x.c ∧ Srcd F x.g.a (ints x.cf) ∧ MemIn F (.slice x.m.a x.m.n x.m.cap) x.mem
  rel x y := IsRow 3 1 (ints (selV x.c x.mem x.cf x.name x.ev)) y
  val _ y := .returned (.slice y.a y.n y.cap)
  post _ y := [y.A]
  rmono _ _ _ h hk := ⟨hk.1.sub h, hk.2.1.sub h, hk.2.2.sub h⟩
structure SlcI where
  i : Nat
  w : ChS
  bc : Nat
  bn : Nat
  bv : Nat
  bh : Nat
  bo : Nat
  r : Row
  k : Nat
  h : Row
structure SlcP (x : SlcX) (F : Atom) (i : SlcI) : Prop where
  le : i.i ≤ nS x.c
  w : SelW F x.c i.w
  row : IsRow 3 1 (ints (askV x.c x.name x.ev x.cf i.i)) i.r
structure SlcQ (x : SlcX) (F : Atom) (i : SlcI) : Prop where
  lt : i.i < nS x.c
  on : (atB x.c i.i && memB x.cf i.i) = true
  w : SelW F x.c i.w
  row : IsRow 3 1 (ints (askV x.c x.name x.ev x.cf i.i)) i.r
  le : i.k ≤ (chain x.c i.i).length
  ch : IsRow 3 1 (ints (chain x.c i.i)) i.h
  same : askV x.c x.name x.ev x.cf (i.i + 1) = askA x.c x.name x.ev ((chain x.c i.i).drop i.k) (askV x.c x.name x.ev x.cf i.i)
def fvS (bc bn bv bh bo : Nat) : Value := .func (.func 84) #[] #[.pointer (some ⟨bc, 0, none⟩), .pointer (some ⟨bn, 0, none⟩), .pointer (some ⟨bv, 0, none⟩), .pointer (some ⟨bh, 0, none⟩), .pointer (some ⟨bo, 0, none⟩)]
def slcInv (x : SlcX) (F : Atom) : Nat → Option Inv := fun
  | 0 => some { X := SlcI, P := fun i => SlcP x F i, mu := fun i => nS x.c - i.i, lv := fun i => [(0, .pointer (some ⟨x.b, 0, none⟩)), (1, .slice x.g.a x.g.n x.g.cap), (2, .slice x.m.a x.m.n x.m.cap), (14, .pointer (some ⟨i.bo, 0, none⟩)), (15, fvS i.bc i.bn i.bv i.bh i.bo), (24, .int .i64 (nS x.c)), (25, .int .i64 i.i)], st := fun i => [.cells i.bc (chS x.c i.w) 28, .cells i.bn [.string x.name] 9, .cells i.bv [.bool x.ev] 4, .cells i.bh [.nilFunc] 42, .cells i.bo [.slice i.r.a i.r.n i.r.cap] 29, i.r.A, F] }
  | 2 => some { X := SlcI, P := fun i => SlcQ x F i, gh := some ⟨Nat, fun i => i.i⟩, mu := fun i => (chain x.c i.i).length - i.k, lv := fun i => [(0, .pointer (some ⟨x.b, 0, none⟩)), (1, .slice x.g.a x.g.n x.g.cap), (2, .slice x.m.a x.m.n x.m.cap), (14, .pointer (some ⟨i.bo, 0, none⟩)), (15, fvS i.bc i.bn i.bv i.bh i.bo), (24, .int .i64 (nS x.c)), (25, .int .i64 i.i), (43, .slice i.h.a i.h.n i.h.cap), (44, .int .i64 i.h.n), (45, .int .i64 i.k)], st := fun i => [.cells i.bc (chS x.c i.w) 28, .cells i.bn [.string x.name] 9, .cells i.bv [.bool x.ev] 4, .cells i.bh [.nilFunc] 42, .cells i.bo [.slice i.r.a i.r.n i.r.cap] 29, i.r.A, F, i.h.A] }
  | _ => none
def slcOv (_x : SlcX) (_F : Atom) : List (Nat × Nat × OH) := [(0, 0, .n 1000), (0, 1, .n 1010), (0, 2, .n 1020), (1, 1, .c chtC [] []), (1, 2, .n 2020), (1, 3, .w (at8 2020)), (2, 0, .n 3000), (4, 1, .q [.atj 2020]), (7, 2, .c atC [] []), (7, 7, .c coC' [] []), (8, 1, .n 9010), (8, 4, .c aboveC [] [9040]), (8, 5, .o (apC 3 1 8) [9010] [9050]), (10, 0, .qo (ixQ 1)), (10, 1, .q [.ex 7 (.int .i64)]), (11, 2, .c fiC [4, 5] [4, 5]), (14, 3, .q [.atj 4]), (14, 4, .c resC [] [15040])]
noncomputable def slc_H (x : Con.X slcC) (F : Atom) : Hints where
  op := hk ((slcOv x F) ++ [])
  inv := slcInv x F
  cut := (fun _ _ _ => none) x F
  ord := (fun _ => [])
open Go.Value (int slice string bool pointer agg tuple func) in
open Go.IntKind (i64) in
set_option maxRecDepth 100000 in
theorem slc_vc (x : SlcX) (F : Atom) (hc : Con.cond slcC x) (hr : Con.rdc slcC x F) :
  ∀ (b b_1 b_2 : Nat),
 FnOk Try.prog 17 chtC ∧
 true = true ∧
 ∃ (x_1 : ChtX),
 [pointer (some ⟨x.b, 0, none⟩)] = [pointer (some ⟨x_1.b, 0, none⟩)] ∧
 ([] : List Atom) = [] ∧
 True ∧
 (∀ (j : Nat) (u : Value), (chS x_1.c x_1.w)[j]? = some u → Look (Atom.pred (rest [(0, F), (1000, Atom.cells b [string x.name] 9), (1010, Atom.cells b_1 [bool x.ev] 4), (1020, Atom.cells b_2 [Value.nilFunc] 42)] [])) ⟨x_1.b, j, none⟩ u) ∧
 ∀ (y : Unit),
 True →
 ∀ (b_3 : Nat),
 Same ⟨b_3, 0, none⟩ b_3 ∧
 Same ⟨b_3, 1, none⟩ b_3 ∧
 Same ⟨b_3, 2, none⟩ b_3 ∧
 Same ⟨b_3, 3, none⟩ b_3 ∧
 Same ⟨b_3, 4, none⟩ b_3 ∧
 Same ⟨b_3, 5, none⟩ b_3 ∧
 Same ⟨b_3, 6, none⟩ b_3 ∧
 Same ⟨b_3, 7, none⟩ b_3 ∧
 ∀ (b_4 : Nat),
 Same ⟨b_3, 3, none⟩ b_3 ∧
 (∃ (x_2 : SlcI),
 SlcP x F x_2 ∧
 (pointer (some ⟨x.b, 0, none⟩) = pointer (some ⟨x.b, 0, none⟩) ∧
 slice x.g.a x.g.n x.g.cap = slice x.g.a x.g.n x.g.cap ∧
 slice x.m.a x.m.n x.m.cap = slice x.m.a x.m.n x.m.cap ∧
 pointer (some ⟨b_4, 0, none⟩) = pointer (some ⟨x_2.bo, 0, none⟩) ∧
 func (Fn.func 84) { toList := [] } { toList := [pointer (some ⟨b_3, 0, none⟩), pointer (some ⟨b, 0, none⟩), pointer (some ⟨b_1, 0, none⟩), pointer (some ⟨b_2, 0, none⟩), pointer (some ⟨b_4, 0, none⟩)] } = func (Fn.func 84) { toList := [] } { toList := [pointer (some ⟨x_2.bc, 0, none⟩), pointer (some ⟨x_2.bn, 0, none⟩), pointer (some ⟨x_2.bv, 0, none⟩), pointer (some ⟨x_2.bh, 0, none⟩), pointer (some ⟨x_2.bo, 0, none⟩)] } ∧ int i64 (↑x_1.w.vs.n : Int) = int i64 (↑(nS x.c) : Int) ∧ int i64 (0 : Int) = int i64 (↑x_2.i : Int) ∧ True) ∧
 Ent [(0, F), (1000, Atom.cells b [string x.name] 9), (1010, Atom.cells b_1 [bool x.ev] 4), (1020, Atom.cells b_2 [Value.nilFunc] 42), (2020, Atom.cells b_3 (chS x_1.c x_1.w) 28), (3000, Atom.cells b_4 [slice none 0 0] 29)]
 [(0, Atom.cells x_2.bc (chS x.c x_2.w) 28), (1, Atom.cells x_2.bn [string x.name] 9), (2, Atom.cells x_2.bv [bool x.ev] 4), (3, Atom.cells x_2.bh [Value.nilFunc] 42), (4, Atom.cells x_2.bo [slice x_2.r.a x_2.r.n x_2.r.cap] 29), (5, x_2.r.A), (6, F)]) ∧
 ∀ (x_2 : SlcI) (js : Nat → Value),
 SlcP x F x_2 →
 Br (decide ((↑x_2.i : Int) < (↑(nS x.c) : Int)))
 (FnOk Try.prog 20 atC ∧
 true = true ∧
 ∃ (x_3 : LqX),
 [pointer (some ⟨x.b, 0, none⟩), int i64 (↑x_2.i : Int)] = [pointer (some ⟨x_3.b, 0, none⟩), int i64 x_3.a] ∧
 ([] : List Atom) = [] ∧
 True ∧
 LatIn (Atom.pred (rest [(0, Atom.cells x_2.bc (chS x.c x_2.w) 28), (1, Atom.cells x_2.bn [string x.name] 9), (2, Atom.cells x_2.bv [bool x.ev] 4), (3, Atom.cells x_2.bh [Value.nilFunc] 42), (4, Atom.cells x_2.bo [slice x_2.r.a x_2.r.n x_2.r.cap] 29), (5, x_2.r.A), (6, F)] [])) x_3.b x_3.c ∧
 ∀ (y : Unit),
 True →
 Br (!atB x_3.c x_3.a)
 (((-9223372036854775808 : Int) ≤ (↑x_2.i : Int) + (1 : Int) ∧ (↑x_2.i : Int) + (1 : Int) ≤ (9223372036854775807 : Int)) ∧
 ∃ (y : SlcI),
 SlcP x F y ∧
 (pointer (some ⟨x.b, 0, none⟩) = pointer (some ⟨x.b, 0, none⟩) ∧
 slice x.g.a x.g.n x.g.cap = slice x.g.a x.g.n x.g.cap ∧
 slice x.m.a x.m.n x.m.cap = slice x.m.a x.m.n x.m.cap ∧
 pointer (some ⟨x_2.bo, 0, none⟩) = pointer (some ⟨y.bo, 0, none⟩) ∧
 func (Fn.func 84) { toList := [] } { toList := [pointer (some ⟨x_2.bc, 0, none⟩), pointer (some ⟨x_2.bn, 0, none⟩), pointer (some ⟨x_2.bv, 0, none⟩), pointer (some ⟨x_2.bh, 0, none⟩), pointer (some ⟨x_2.bo, 0, none⟩)] } = func (Fn.func 84) { toList := [] } { toList := [pointer (some ⟨y.bc, 0, none⟩), pointer (some ⟨y.bn, 0, none⟩), pointer (some ⟨y.bv, 0, none⟩), pointer (some ⟨y.bh, 0, none⟩), pointer (some ⟨y.bo, 0, none⟩)] } ∧ int i64 (↑(nS x.c) : Int) = int i64 (↑(nS x.c) : Int) ∧ int i64 ((↑x_2.i : Int) + (1 : Int)) = int i64 (↑y.i : Int) ∧ True) ∧
 Ent [(0, Atom.cells x_2.bc (chS x.c x_2.w) 28), (1, Atom.cells x_2.bn [string x.name] 9), (2, Atom.cells x_2.bv [bool x.ev] 4), (3, Atom.cells x_2.bh [Value.nilFunc] 42), (4, Atom.cells x_2.bo [slice x_2.r.a x_2.r.n x_2.r.cap] 29), (5, x_2.r.A), (6, F)]
 [(0, Atom.cells y.bc (chS x.c y.w) 28), (1, Atom.cells y.bn [string x.name] 9), (2, Atom.cells y.bv [bool x.ev] 4), (3, Atom.cells y.bh [Value.nilFunc] 42), (4, Atom.cells y.bo [slice y.r.a y.r.n y.r.cap] 29), (5, y.r.A), (6, F)] ∧
 nS x.c - y.i < nS x.c - x_2.i)
 (FnOk Try.prog 66 coC' ∧
 true = true ∧
 ∃ (x_4 : InX),
 [slice x.g.a x.g.n x.g.cap, int i64 (↑x_2.i : Int)] = [slice x_4.a x_4.n x_4.cap, int i64 x_4.v] ∧
 ([] : List Atom) = [] ∧
 (IsSrc 1 (ints x_4.xs) x_4.a x_4.n ∧ x_4.n * 8 ≤ 140737488351232) ∧
 Srcd (Atom.pred (rest [(0, Atom.cells x_2.bc (chS x.c x_2.w) 28), (1, Atom.cells x_2.bn [string x.name] 9), (2, Atom.cells x_2.bv [bool x.ev] 4), (3, Atom.cells x_2.bh [Value.nilFunc] 42), (4, Atom.cells x_2.bo [slice x_2.r.a x_2.r.n x_2.r.cap] 29), (5, x_2.r.A), (6, F)] [])) x_4.a (ints x_4.xs) ∧
 ∀ (y : Unit),
 True →
 Br (!memB x_4.xs x_4.v)
 (((-9223372036854775808 : Int) ≤ (↑x_2.i : Int) + (1 : Int) ∧ (↑x_2.i : Int) + (1 : Int) ≤ (9223372036854775807 : Int)) ∧
 ∃ (y : SlcI),
 SlcP x F y ∧
 (pointer (some ⟨x.b, 0, none⟩) = pointer (some ⟨x.b, 0, none⟩) ∧
 slice x.g.a x.g.n x.g.cap = slice x.g.a x.g.n x.g.cap ∧
 slice x.m.a x.m.n x.m.cap = slice x.m.a x.m.n x.m.cap ∧
 pointer (some ⟨x_2.bo, 0, none⟩) = pointer (some ⟨y.bo, 0, none⟩) ∧
 func (Fn.func 84) { toList := [] } { toList := [pointer (some ⟨x_2.bc, 0, none⟩), pointer (some ⟨x_2.bn, 0, none⟩), pointer (some ⟨x_2.bv, 0, none⟩), pointer (some ⟨x_2.bh, 0, none⟩), pointer (some ⟨x_2.bo, 0, none⟩)] } = func (Fn.func 84) { toList := [] } { toList := [pointer (some ⟨y.bc, 0, none⟩), pointer (some ⟨y.bn, 0, none⟩), pointer (some ⟨y.bv, 0, none⟩), pointer (some ⟨y.bh, 0, none⟩), pointer (some ⟨y.bo, 0, none⟩)] } ∧
 int i64 (↑(nS x.c) : Int) = int i64 (↑(nS x.c) : Int) ∧ int i64 ((↑x_2.i : Int) + (1 : Int)) = int i64 (↑y.i : Int) ∧ True) ∧
 Ent [(0, Atom.cells x_2.bc (chS x.c x_2.w) 28), (1, Atom.cells x_2.bn [string x.name] 9), (2, Atom.cells x_2.bv [bool x.ev] 4), (3, Atom.cells x_2.bh [Value.nilFunc] 42), (4, Atom.cells x_2.bo [slice x_2.r.a x_2.r.n x_2.r.cap] 29), (5, x_2.r.A), (6, F)]
 [(0, Atom.cells y.bc (chS x.c y.w) 28), (1, Atom.cells y.bn [string x.name] 9), (2, Atom.cells y.bv [bool x.ev] 4), (3, Atom.cells y.bh [Value.nilFunc] 42), (4, Atom.cells y.bo [slice y.r.a y.r.n y.r.cap] 29), (5, y.r.A), (6, F)] ∧
 nS x.c - y.i < nS x.c - x_2.i)
 (∀ (b : Nat),
 FnOk Try.prog 31 aboveC ∧
 true = true ∧
 ∃ (x_5 : AbX),
 [pointer (some ⟨x.b, 0, none⟩), int i64 (↑x_2.i : Int), int i64 (-1 : Int)] = [pointer (some ⟨x_5.b, 0, none⟩), int i64 x_5.a, int i64 x_5.top] ∧
 ([] : List Atom) = [] ∧
 True ∧
 LatIn (Atom.pred (rest [(0, Atom.cells x_2.bc (chS x.c x_2.w) 28), (1, Atom.cells x_2.bn [string x.name] 9), (2, Atom.cells x_2.bv [bool x.ev] 4), (3, Atom.cells x_2.bh [Value.nilFunc] 42), (4, Atom.cells x_2.bo [slice x_2.r.a x_2.r.n x_2.r.cap] 29), (5, x_2.r.A), (6, F), (9010, Atom.cells b [int i64 (↑x_2.i : Int)] 3)] [])) x_5.b x_5.c ∧
 ∀ (y : Row),
 IsRow 3 1 (ints (abvV x_5.c x_5.a x_5.top)) y ∧ y.n = (abvV x_5.c x_5.a x_5.top).length →
 OpOk Try.prog (opIn Try.f44 8 5) (apC (3 : TypeId) 1 8) ∧
 true = true ∧
 ∃ (x_6 : ApX),
 [slice (some ⟨b, 0, none⟩) 1 1, slice y.a y.n y.cap] = [slice x_6.r.a x_6.r.n x_6.r.cap, slice x_6.a x_6.m x_6.c] ∧
 [Atom.cells b [int i64 (↑x_2.i : Int)] 3] = [x_6.r.A] ∧
 (IsRow 3 1 x_6.cs x_6.r ∧ x_6.ys.length = x_6.m * 1 ∧ (∀ (u : Value), u ∈ x_6.ys → u.oneCell' = true) ∧ (x_6.r.n + x_6.m) * 8 ≤ 140737488355328 ∧ x_6.r.n + x_6.m ≤ 9223372036854775807 ∧ (x_6.a = none → x_6.m = 0 ∧ x_6.c = 0)) ∧
 (∀ (a : Addr), x_6.a = some a → Seg (Atom.pred (rest [(0, Atom.cells x_2.bc (chS x.c x_2.w) 28), (1, Atom.cells x_2.bn [string x.name] 9), (2, Atom.cells x_2.bv [bool x.ev] 4), (3, Atom.cells x_2.bh [Value.nilFunc] 42), (4, Atom.cells x_2.bo [slice x_2.r.a x_2.r.n x_2.r.cap] 29), (5, x_2.r.A), (6, F), (9010, Atom.cells b [int i64 (↑x_2.i : Int)] 3), (9040, y.A)] [9010])) a x_6.ys) ∧
 ∀ (y_1 : Row),
 IsRow 3 1 (x_6.cs ++ x_6.ys) y_1 ∧ y_1.n = x_6.r.n + x_6.m ∧ (x_6.m = 0 → y_1 = x_6.r) →
 ∃ (n : Nat),
 (∃ (x_7 : SlcI),
 (SlcQ x F x_7 ∧ x_7.i = n) ∧
 (pointer (some ⟨x.b, 0, none⟩) = pointer (some ⟨x.b, 0, none⟩) ∧
 slice x.g.a x.g.n x.g.cap = slice x.g.a x.g.n x.g.cap ∧
 slice x.m.a x.m.n x.m.cap = slice x.m.a x.m.n x.m.cap ∧
 pointer (some ⟨x_2.bo, 0, none⟩) = pointer (some ⟨x_7.bo, 0, none⟩) ∧
 func (Fn.func 84) { toList := [] } { toList := [pointer (some ⟨x_2.bc, 0, none⟩), pointer (some ⟨x_2.bn, 0, none⟩), pointer (some ⟨x_2.bv, 0, none⟩), pointer (some ⟨x_2.bh, 0, none⟩), pointer (some ⟨x_2.bo, 0, none⟩)] } = func (Fn.func 84) { toList := [] } { toList := [pointer (some ⟨x_7.bc, 0, none⟩), pointer (some ⟨x_7.bn, 0, none⟩), pointer (some ⟨x_7.bv, 0, none⟩), pointer (some ⟨x_7.bh, 0, none⟩), pointer (some ⟨x_7.bo, 0, none⟩)] } ∧
 int i64 (↑(nS x.c) : Int) = int i64 (↑(nS x.c) : Int) ∧ int i64 (↑x_2.i : Int) = int i64 (↑x_7.i : Int) ∧ slice y_1.a y_1.n y_1.cap = slice x_7.h.a x_7.h.n x_7.h.cap ∧ int i64 (↑y_1.n : Int) = int i64 (↑x_7.h.n : Int) ∧ int i64 (0 : Int) = int i64 (↑x_7.k : Int) ∧ True) ∧
 Ent [(0, Atom.cells x_2.bc (chS x.c x_2.w) 28), (1, Atom.cells x_2.bn [string x.name] 9), (2, Atom.cells x_2.bv [bool x.ev] 4), (3, Atom.cells x_2.bh [Value.nilFunc] 42), (4, Atom.cells x_2.bo [slice x_2.r.a x_2.r.n x_2.r.cap] 29), (5, x_2.r.A), (6, F), (9010, Atom.emp), (9040, y.A), (9050, y_1.A)]
 [(0, Atom.cells x_7.bc (chS x.c x_7.w) 28), (1, Atom.cells x_7.bn [string x.name] 9), (2, Atom.cells x_7.bv [bool x.ev] 4), (3, Atom.cells x_7.bh [Value.nilFunc] 42), (4, Atom.cells x_7.bo [slice x_7.r.a x_7.r.n x_7.r.cap] 29), (5, x_7.r.A), (6, F), (7, x_7.h.A)]) ∧
 ∀ (x_7 : SlcI) (js : Nat → Value),
 SlcQ x F x_7 ∧ x_7.i = n →
 Br (decide ((↑x_7.k : Int) < (↑x_7.h.n : Int)))
 (QOpOk Try.prog (opIn Try.f44 10 0) (ixQ 1) ∧
 ∃ (x_8 : IxQX),
 [slice x_7.h.a x_7.h.n x_7.h.cap, int i64 (↑x_7.k : Int)] = [slice (some ⟨x_8.b, x_8.o, none⟩) x_8.len x_8.cap, int i64 x_8.n] ∧
 ((0 : Int) ≤ x_8.n ∧ x_8.n < (↑x_8.len : Int)) ∧
 ∃ (n_1 : Int),
 Look x_7.h.A ⟨x_8.b, x_8.o + x_8.n.toNat * 1, none⟩ (int i64 n_1) ∧
 FnOk Try.prog 84 fiC ∧
 true = true ∧
 ∃ (x_9 : FiX),
 [int i64 n_1, pointer (some ⟨x_7.bc, 0, none⟩), pointer (some ⟨x_7.bn, 0, none⟩), pointer (some ⟨x_7.bv, 0, none⟩), pointer (some ⟨x_7.bh, 0, none⟩), pointer (some ⟨x_7.bo, 0, none⟩)] = [int i64 x_9.s, pointer (some ⟨x_9.c1, 0, none⟩), pointer (some ⟨x_9.c2, 0, none⟩), pointer (some ⟨x_9.c3, 0, none⟩), pointer (some ⟨x_9.c4, 0, none⟩), pointer (some ⟨x_9.bo, 0, none⟩)] ∧
 [Atom.cells x_7.bo [slice x_7.r.a x_7.r.n x_7.r.cap] 29, x_7.r.A] = [Atom.cells x_9.bo [slice x_9.r.a x_9.r.n x_9.r.cap] 29, x_9.r.A] ∧
 (newB x_9.c = true ∧ EvOk x_9.c ∧ isS x_9.c x_9.s = true ∧ IsRow 3 1 (ints x_9.out) x_9.r ∧ Good x_9.c.trs.length x_9.out) ∧
 (SelW (Atom.pred (rest [(0, Atom.cells x_7.bc (chS x.c x_7.w) 28), (1, Atom.cells x_7.bn [string x.name] 9), (2, Atom.cells x_7.bv [bool x.ev] 4), (3, Atom.cells x_7.bh [Value.nilFunc] 42), (4, Atom.cells x_7.bo [slice x_7.r.a x_7.r.n x_7.r.cap] 29), (5, x_7.r.A), (6, F), (7, x_7.h.A)] [4, 5])) x_9.c x_9.w ∧
 (∀ (j : Nat) (u : Value), (chS x_9.c x_9.w)[j]? = some u → Look (Atom.pred (rest [(0, Atom.cells x_7.bc (chS x.c x_7.w) 28), (1, Atom.cells x_7.bn [string x.name] 9), (2, Atom.cells x_7.bv [bool x.ev] 4), (3, Atom.cells x_7.bh [Value.nilFunc] 42), (4, Atom.cells x_7.bo [slice x_7.r.a x_7.r.n x_7.r.cap] 29), (5, x_7.r.A), (6, F), (7, x_7.h.A)] [4, 5])) ⟨x_9.c1, j, none⟩ u) ∧
 Look (Atom.pred (rest [(0, Atom.cells x_7.bc (chS x.c x_7.w) 28), (1, Atom.cells x_7.bn [string x.name] 9), (2, Atom.cells x_7.bv [bool x.ev] 4), (3, Atom.cells x_7.bh [Value.nilFunc] 42), (4, Atom.cells x_7.bo [slice x_7.r.a x_7.r.n x_7.r.cap] 29), (5, x_7.r.A), (6, F), (7, x_7.h.A)] [4, 5])) ⟨x_9.c2, 0, none⟩ (string x_9.name) ∧
 Look (Atom.pred (rest [(0, Atom.cells x_7.bc (chS x.c x_7.w) 28), (1, Atom.cells x_7.bn [string x.name] 9), (2, Atom.cells x_7.bv [bool x.ev] 4), (3, Atom.cells x_7.bh [Value.nilFunc] 42), (4, Atom.cells x_7.bo [slice x_7.r.a x_7.r.n x_7.r.cap] 29), (5, x_7.r.A), (6, F), (7, x_7.h.A)] [4, 5])) ⟨x_9.c3, 0, none⟩ (bool x_9.ev) ∧
 Look (Atom.pred (rest [(0, Atom.cells x_7.bc (chS x.c x_7.w) 28), (1, Atom.cells x_7.bn [string x.name] 9), (2, Atom.cells x_7.bv [bool x.ev] 4), (3, Atom.cells x_7.bh [Value.nilFunc] 42), (4, Atom.cells x_7.bo [slice x_7.r.a x_7.r.n x_7.r.cap] 29), (5, x_7.r.A), (6, F), (7, x_7.h.A)] [4, 5])) ⟨x_9.c4, 0, none⟩ Value.nilFunc) ∧
 ∀ (y : Row),
 IsRow 3 1 (ints (addO x_9.out (ask1 x_9.c x_9.name x_9.ev x_9.s))) y →
 Br (ask1 x_9.c x_9.name x_9.ev x_9.s).isSome
 (((-9223372036854775808 : Int) ≤ (↑x_7.i : Int) + (1 : Int) ∧ (↑x_7.i : Int) + (1 : Int) ≤ (9223372036854775807 : Int)) ∧
 ∃ (y_2 : SlcI),
 SlcP x F y_2 ∧
 (pointer (some ⟨x.b, 0, none⟩) = pointer (some ⟨x.b, 0, none⟩) ∧
 slice x.g.a x.g.n x.g.cap = slice x.g.a x.g.n x.g.cap ∧
 slice x.m.a x.m.n x.m.cap = slice x.m.a x.m.n x.m.cap ∧
 pointer (some ⟨x_7.bo, 0, none⟩) = pointer (some ⟨y_2.bo, 0, none⟩) ∧
 func (Fn.func 84) { toList := [] } { toList := [pointer (some ⟨x_7.bc, 0, none⟩), pointer (some ⟨x_7.bn, 0, none⟩), pointer (some ⟨x_7.bv, 0, none⟩), pointer (some ⟨x_7.bh, 0, none⟩), pointer (some ⟨x_7.bo, 0, none⟩)] } = func (Fn.func 84) { toList := [] } { toList := [pointer (some ⟨y_2.bc, 0, none⟩), pointer (some ⟨y_2.bn, 0, none⟩), pointer (some ⟨y_2.bv, 0, none⟩), pointer (some ⟨y_2.bh, 0, none⟩), pointer (some ⟨y_2.bo, 0, none⟩)] } ∧
 int i64 (↑(nS x.c) : Int) = int i64 (↑(nS x.c) : Int) ∧ int i64 ((↑x_7.i : Int) + (1 : Int)) = int i64 (↑y_2.i : Int) ∧ True) ∧
 Ent [(0, Atom.cells x_7.bc (chS x.c x_7.w) 28), (1, Atom.cells x_7.bn [string x.name] 9), (2, Atom.cells x_7.bv [bool x.ev] 4), (3, Atom.cells x_7.bh [Value.nilFunc] 42), (4, Atom.cells x_9.bo [slice y.a y.n y.cap] 29), (5, y.A), (6, F), (7, x_7.h.A)]
 [(0, Atom.cells y_2.bc (chS x.c y_2.w) 28), (1, Atom.cells y_2.bn [string x.name] 9), (2, Atom.cells y_2.bv [bool x.ev] 4), (3, Atom.cells y_2.bh [Value.nilFunc] 42), (4, Atom.cells y_2.bo [slice y_2.r.a y_2.r.n y_2.r.cap] 29), (5, y_2.r.A), (6, F)] ∧
 nS x.c - y_2.i < nS x.c - x_2.i)
 (((-9223372036854775808 : Int) ≤ (↑x_7.k : Int) + (1 : Int) ∧ (↑x_7.k : Int) + (1 : Int) ≤ (9223372036854775807 : Int)) ∧
 ∃ (y_2 : SlcI),
 (SlcQ x F y_2 ∧ y_2.i = n) ∧
 (pointer (some ⟨x.b, 0, none⟩) = pointer (some ⟨x.b, 0, none⟩) ∧
 slice x.g.a x.g.n x.g.cap = slice x.g.a x.g.n x.g.cap ∧
 slice x.m.a x.m.n x.m.cap = slice x.m.a x.m.n x.m.cap ∧
 pointer (some ⟨x_7.bo, 0, none⟩) = pointer (some ⟨y_2.bo, 0, none⟩) ∧
 func (Fn.func 84) { toList := [] } { toList := [pointer (some ⟨x_7.bc, 0, none⟩), pointer (some ⟨x_7.bn, 0, none⟩), pointer (some ⟨x_7.bv, 0, none⟩), pointer (some ⟨x_7.bh, 0, none⟩), pointer (some ⟨x_7.bo, 0, none⟩)] } = func (Fn.func 84) { toList := [] } { toList := [pointer (some ⟨y_2.bc, 0, none⟩), pointer (some ⟨y_2.bn, 0, none⟩), pointer (some ⟨y_2.bv, 0, none⟩), pointer (some ⟨y_2.bh, 0, none⟩), pointer (some ⟨y_2.bo, 0, none⟩)] } ∧
 int i64 (↑(nS x.c) : Int) = int i64 (↑(nS x.c) : Int) ∧ int i64 (↑x_7.i : Int) = int i64 (↑y_2.i : Int) ∧ slice x_7.h.a x_7.h.n x_7.h.cap = slice y_2.h.a y_2.h.n y_2.h.cap ∧ int i64 (↑x_7.h.n : Int) = int i64 (↑y_2.h.n : Int) ∧ int i64 ((↑x_7.k : Int) + (1 : Int)) = int i64 (↑y_2.k : Int) ∧ True) ∧
 Ent [(0, Atom.cells x_7.bc (chS x.c x_7.w) 28), (1, Atom.cells x_7.bn [string x.name] 9), (2, Atom.cells x_7.bv [bool x.ev] 4), (3, Atom.cells x_7.bh [Value.nilFunc] 42), (4, Atom.cells x_9.bo [slice y.a y.n y.cap] 29), (5, y.A), (6, F), (7, x_7.h.A)]
 [(0, Atom.cells y_2.bc (chS x.c y_2.w) 28), (1, Atom.cells y_2.bn [string x.name] 9), (2, Atom.cells y_2.bv [bool x.ev] 4), (3, Atom.cells y_2.bh [Value.nilFunc] 42), (4, Atom.cells y_2.bo [slice y_2.r.a y_2.r.n y_2.r.cap] 29), (5, y_2.r.A), (6, F), (7, y_2.h.A)] ∧
 (chain x.c (↑y_2.i : Int)).length - y_2.k < (chain x.c (↑x_7.i : Int)).length - x_7.k))
 (((-9223372036854775808 : Int) ≤ (↑x_7.i : Int) + (1 : Int) ∧ (↑x_7.i : Int) + (1 : Int) ≤ (9223372036854775807 : Int)) ∧
 ∃ (y : SlcI),
 SlcP x F y ∧
 (pointer (some ⟨x.b, 0, none⟩) = pointer (some ⟨x.b, 0, none⟩) ∧
 slice x.g.a x.g.n x.g.cap = slice x.g.a x.g.n x.g.cap ∧
 slice x.m.a x.m.n x.m.cap = slice x.m.a x.m.n x.m.cap ∧
 pointer (some ⟨x_7.bo, 0, none⟩) = pointer (some ⟨y.bo, 0, none⟩) ∧
 func (Fn.func 84) { toList := [] } { toList := [pointer (some ⟨x_7.bc, 0, none⟩), pointer (some ⟨x_7.bn, 0, none⟩), pointer (some ⟨x_7.bv, 0, none⟩), pointer (some ⟨x_7.bh, 0, none⟩), pointer (some ⟨x_7.bo, 0, none⟩)] } = func (Fn.func 84) { toList := [] } { toList := [pointer (some ⟨y.bc, 0, none⟩), pointer (some ⟨y.bn, 0, none⟩), pointer (some ⟨y.bv, 0, none⟩), pointer (some ⟨y.bh, 0, none⟩), pointer (some ⟨y.bo, 0, none⟩)] } ∧
 int i64 (↑(nS x.c) : Int) = int i64 (↑(nS x.c) : Int) ∧ int i64 ((↑x_7.i : Int) + (1 : Int)) = int i64 (↑y.i : Int) ∧ True) ∧
 Ent [(0, Atom.cells x_7.bc (chS x.c x_7.w) 28), (1, Atom.cells x_7.bn [string x.name] 9), (2, Atom.cells x_7.bv [bool x.ev] 4), (3, Atom.cells x_7.bh [Value.nilFunc] 42), (4, Atom.cells x_7.bo [slice x_7.r.a x_7.r.n x_7.r.cap] 29), (5, x_7.r.A), (6, F), (7, x_7.h.A)]
 [(0, Atom.cells y.bc (chS x.c y.w) 28), (1, Atom.cells y.bn [string x.name] 9), (2, Atom.cells y.bv [bool x.ev] 4), (3, Atom.cells y.bh [Value.nilFunc] 42), (4, Atom.cells y.bo [slice y.r.a y.r.n y.r.cap] 29), (5, y.r.A), (6, F)] ∧
 nS x.c - y.i < nS x.c - x_2.i))))
 (Same ⟨x_2.bo, 0, none⟩ x_2.bo ∧
 FnOk Try.prog 42 resC ∧
 true = true ∧
 ∃ (x_3 : ExX),
 [pointer (some ⟨x.b, 0, none⟩), slice x.g.a x.g.n x.g.cap, slice x.m.a x.m.n x.m.cap, slice x_2.r.a x_2.r.n x_2.r.cap] = [pointer (some ⟨x_3.b, 0, none⟩), slice x_3.g.a x_3.g.n x_3.g.cap, slice x_3.m.a x_3.m.n x_3.m.cap, slice x_3.s.a x_3.s.n x_3.s.cap] ∧
 ([] : List Atom) = [] ∧
 (newB x_3.c = true ∧ (IsSrc 1 (ints x_3.cf) x_3.g.a x_3.g.n ∧ x_3.g.n * 8 ≤ 140737488351232) ∧ IsSrc 1 (ints x_3.ts) x_3.s.a x_3.s.n ∧ x_3.s.n * 8 ≤ 140737488351232) ∧
 (LatIn (Atom.pred (rest [(0, Atom.cells x_2.bc (chS x.c x_2.w) 28), (1, Atom.cells x_2.bn [string x.name] 9), (2, Atom.cells x_2.bv [bool x.ev] 4), (3, Atom.cells x_2.bh [Value.nilFunc] 42), (4, Atom.cells x_2.bo [slice x_2.r.a x_2.r.n x_2.r.cap] 29), (5, x_2.r.A), (6, F)] [])) x_3.b x_3.c ∧
 Srcd (Atom.pred (rest [(0, Atom.cells x_2.bc (chS x.c x_2.w) 28), (1, Atom.cells x_2.bn [string x.name] 9), (2, Atom.cells x_2.bv [bool x.ev] 4), (3, Atom.cells x_2.bh [Value.nilFunc] 42), (4, Atom.cells x_2.bo [slice x_2.r.a x_2.r.n x_2.r.cap] 29), (5, x_2.r.A), (6, F)] [])) x_3.g.a (ints x_3.cf) ∧
 MemIn (Atom.pred (rest [(0, Atom.cells x_2.bc (chS x.c x_2.w) 28), (1, Atom.cells x_2.bn [string x.name] 9), (2, Atom.cells x_2.bv [bool x.ev] 4), (3, Atom.cells x_2.bh [Value.nilFunc] 42), (4, Atom.cells x_2.bo [slice x_2.r.a x_2.r.n x_2.r.cap] 29), (5, x_2.r.A), (6, F)] [])) (slice x_3.m.a x_3.m.n x_3.m.cap) x_3.mem ∧
 Srcd (Atom.pred (rest [(0, Atom.cells x_2.bc (chS x.c x_2.w) 28), (1, Atom.cells x_2.bn [string x.name] 9), (2, Atom.cells x_2.bv [bool x.ev] 4), (3, Atom.cells x_2.bh [Value.nilFunc] 42), (4, Atom.cells x_2.bo [slice x_2.r.a x_2.r.n x_2.r.cap] 29), (5, x_2.r.A), (6, F)] [])) x_3.s.a (ints x_3.ts)) ∧
 ∀ (y : Row), IsRow 3 1 (ints (resV x_3.c x_3.mem x_3.cf x_3.ts)) y → Done slcC x F (Ending.returned (slice y.a y.n y.cap)) [(0, Atom.cells x_2.bc (chS x.c x_2.w) 28), (1, Atom.cells x_2.bn [string x.name] 9), (2, Atom.cells x_2.bv [bool x.ev] 4), (3, Atom.cells x_2.bh [Value.nilFunc] 42), (4, Atom.cells x_2.bo [slice x_2.r.a x_2.r.n x_2.r.cap] 29), (5, x_2.r.A), (6, F), (15040, y.A)]) := by
  obtain ⟨b, c, ⟨ga, gn, gc⟩, cf, ⟨ma, mn, mc⟩, mem, name, ev⟩ := x
  obtain ⟨hnew, hev, hg, hgn⟩ := hc
  obtain ⟨hr, hcf, hm⟩ := hr
  dsimp only at hnew hev hg hgn hr hcf hm ⊢
  have hnl := newB_spec.1 hnew
  have hn128 := hnl.1.n128
  obtain ⟨w0, hwc, hw0⟩ := sel_w hr
  intro bn0 bv0 bh0
  refine ⟨cht_ok, rfl, ⟨b, c, w0⟩, rfl, rfl, trivial, fun j u hj => Look.sub (A := F) (sub_rest 0 (by simp) rfl) (hwc j u hj), fun _ _ bc0 => ?_⟩
  iterate 8 refine ⟨⟨rfl, rfl⟩, ?_⟩
  intro bo0
  refine ⟨⟨rfl, rfl⟩, ⟨⟨0, w0, bc0, bn0, bv0, bh0, bo0, nilRow, 0, nilRow⟩, ⟨Nat.zero_le _, hw0, .nil rfl⟩, ⟨rfl, rfl, rfl, rfl, rfl, by dsimp only; rw [hw0.sn], rfl, trivial⟩, Ent.pick [2020, 1000, 1010, 1020, 3000, 77, 0] rfl rfl⟩, ?_⟩
  clear hwc hw0 w0 bn0 bv0 bh0 bc0 bo0
  rintro ⟨i, w, bc, bn, bv, bh, bo, r, k0, h0⟩ js ⟨hi, hw, hrow⟩
  dsimp only at hi hw hrow ⊢
  refine br_decide (fun hlt => ?_) (fun hge => ?_)
  · have hlt' : i < nS c := by omega
    have hask := askV_succ c name ev cf i
    have hgd := askV_good hnew name ev cf i (by omega)
    refine ⟨at_ok, rfl, ⟨b, c, i⟩, rfl, rfl, trivial, hr.sub (sub_rest 6 (by simp) rfl), fun _ _ => br_intro (fun h1 => ?_) (fun h1 => ⟨con_ok, rfl, ⟨ga, gn, gc, cf, i⟩, rfl, rfl, ⟨hg, hgn⟩, Srcd.sub (A := F) (sub_rest 6 (by simp) rfl) hcf, fun _ _ => br_intro (fun h2 => ?_) (fun h2 => fun b9 => ?_)⟩)⟩
    · have h1' : atB c i = false := by simpa using h1
      have es : askV c name ev cf (i + 1) = askV c name ev cf i := by rw [hask]; unfold askS; rw [h1']; rfl
      exact ⟨⟨by omega, by omega⟩, ⟨i + 1, w, bc, bn, bv, bh, bo, r, 0, nilRow⟩, ⟨hlt', hw, by dsimp only; rw [es]; exact hrow⟩, ⟨rfl, rfl, rfl, rfl, rfl, rfl, rfl, trivial⟩, Ent.pick [0, 1, 2, 3, 4, 5, 6] rfl rfl, by dsimp only; omega⟩
    · have h2' : memB cf i = false := by simpa using h2
      have es : askV c name ev cf (i + 1) = askV c name ev cf i := by rw [hask]; unfold askS; rw [h2', Bool.and_false]; rfl
      exact ⟨⟨by omega, by omega⟩, ⟨i + 1, w, bc, bn, bv, bh, bo, r, 0, nilRow⟩, ⟨hlt', hw, by dsimp only; rw [es]; exact hrow⟩, ⟨rfl, rfl, rfl, rfl, rfl, rfl, rfl, trivial⟩, Ent.pick [0, 1, 2, 3, 4, 5, 6] rfl rfl, by dsimp only; omega⟩
    · have h1' : atB c i = true := by simpa using h1
      have h2' : memB cf i = true := by simpa using h2
      have hon : (atB c i && memB cf i) = true := by rw [h1', h2']; rfl
      have es : askV c name ev cf (i + 1) = askA c name ev (chain c i) (askV c name ev cf i) := by rw [hask]; unfold askS; rw [hon]; rfl
      have hal := abvV_len hnl.1 i (-1)
      refine ⟨above_ok, rfl, ⟨b, c, i, -1⟩, rfl, rfl, trivial, hr.sub (sub_rest 6 (by simp) rfl), fun y hy => ?_⟩
      obtain ⟨hy1, hy2⟩ := hy
      dsimp only at hy1 hy2
      refine ⟨append_ok (P := Try.prog) 1 8 rfl rfl rfl rfl rfl rfl rfl (by decide), rfl, ⟨⟨some ⟨b9, 0, none⟩, 1, 1, .cells b9 [.int .i64 i] 3⟩, [.int .i64 i], y.a, y.n, y.cap, ints (abvV c i (-1))⟩, rfl, rfl, ⟨.blk b9 1 1 [] rfl rfl (Nat.le_refl _), by dsimp only; rw [ints_length]; omega, fun _ h => ints_one h, by dsimp only; omega, by dsimp only; omega, hy1.none0⟩, fun ad e => Seg.rest (j := 9040) (by simp) (hy1.srcd ad e), fun z hz => ?_⟩
      obtain ⟨hz1, hz2, -⟩ := hz
      replace hz1 : IsRow 3 1 (ints (chain c i)) z := hz1
      dsimp only at hz2
      refine ⟨i, ⟨⟨i, w, bc, bn, bv, bh, bo, r, 0, z⟩, ⟨⟨hlt', hon, hw, hrow, Nat.zero_le _, hz1, es⟩, rfl⟩, ⟨rfl, rfl, rfl, rfl, rfl, rfl, rfl, rfl, rfl, rfl, trivial⟩, Ent.pick [0, 1, 2, 3, 4, 5, 6, 9050] rfl rfl⟩, ?_⟩
      clear hz1 hz2 z hy1 hy2 y b9 hrow hw r bo bh bv bn bc w h1 h2
      rintro ⟨i', w, bc, bn, bv, bh, bo, r, k, z⟩ js ⟨⟨q1, q2, hw, hrow, hk, hz, hsame⟩, ej⟩
      dsimp only at q1 q2 hw hrow hk hz hsame ej ⊢
      subst ej
      have hcl : (chain c i').length ≤ 129 := by unfold chain; rw [List.length_cons]; omega
      have hzn : z.n = (chain c i').length := by have := hz.len; rw [ints_length] at this; omega
      refine br_decide (fun hlt2 => ?_) (fun hge2 => ?_)
      · obtain ⟨b5, hb5⟩ := hz.at0 (by omega)
        obtain ⟨p, hp⟩ : ∃ p, (chain c i')[k]? = some p := ⟨_, List.getElem?_eq_getElem (by omega)⟩
        have hpS := chain_ok hnew q1 p (List.mem_of_getElem? hp)
        have hsr := hz.srcd
        have elook : Look z.A ⟨b5, 0 + (k : Int).toNat * 1, none⟩ (.int .i64 p) := by
          rw [hb5] at hsr
          rw [show 0 + (k : Int).toNat * 1 = 0 + k by omega]
          exact hsr.look (ints_get hp)
        rw [drop_get hp, askA] at hsame
        refine ⟨ixq_ok 1 rfl rfl rfl rfl, ⟨b5, 0, z.n, z.cap, k⟩, by rw [hb5], by dsimp only; omega, p, elook, fi_ok, rfl, ⟨bc, bn, bv, bh, bo, r, askV c name ev cf i', c, w, name, ev, p⟩, rfl, rfl, ⟨hnew, hev, hpS, hrow, hgd⟩, ⟨hw.sub (sub_rest 6 (by simp) rfl), fun j u hj => Look.rest (j := 0) (by simp) (Look.cells (by exact hj)), Look.rest (j := 1) (by simp) (Look.cells rfl), Look.rest (j := 2) (by simp) (Look.cells rfl), Look.rest (j := 3) (by simp) (Look.cells rfl)⟩, fun y hy => br_intro (fun hs => ?_) (fun hs => ?_)⟩
        · dsimp only at hs
          replace hy : IsRow 3 1 (ints (addO (askV c name ev cf i') (ask1 c name ev p))) y := hy
          rw [hs, cond_true] at hsame
          exact ⟨⟨by omega, by omega⟩, ⟨i' + 1, w, bc, bn, bv, bh, bo, y, 0, nilRow⟩, ⟨q1, hw, by dsimp only; rw [hsame]; exact hy⟩, ⟨rfl, rfl, rfl, rfl, rfl, rfl, rfl, trivial⟩, Ent.pick [0, 1, 2, 3, 4, 5, 6] rfl rfl, by dsimp only; omega⟩
        · dsimp only at hs
          have hnone : ask1 c name ev p = none := by
            cases ha : ask1 c name ev p with
            | none => rfl
            | some t => rw [ha] at hs; cases hs
          replace hy : IsRow 3 1 (ints (addO (askV c name ev cf i') (ask1 c name ev p))) y := hy
          rw [hnone] at hy
          rw [hs, cond_false] at hsame
          exact ⟨⟨by omega, by omega⟩, ⟨i', w, bc, bn, bv, bh, bo, y, k + 1, z⟩, ⟨⟨q1, q2, hw, hy, by dsimp only; omega, hz, hsame⟩, rfl⟩, ⟨rfl, rfl, rfl, rfl, rfl, rfl, rfl, rfl, rfl, rfl, trivial⟩, Ent.pick [0, 1, 2, 3, 4, 5, 6, 7] rfl rfl, by dsimp only; omega⟩
      · rw [List.drop_eq_nil_of_le (by omega), askA] at hsame
        exact ⟨⟨by omega, by omega⟩, ⟨i' + 1, w, bc, bn, bv, bh, bo, r, 0, nilRow⟩, ⟨q1, hw, by dsimp only; rw [hsame]; exact hrow⟩, ⟨rfl, rfl, rfl, rfl, rfl, rfl, rfl, trivial⟩, Ent.pick [0, 1, 2, 3, 4, 5, 6] rfl rfl, by dsimp only; omega⟩
  · have ei : i = nS c := by omega
    subst ei
    have hgd := askV_good hnew name ev cf (nS c) (Nat.le_refl _)
    have hgl := hgd.len
    have hrl : r.n = (askV c name ev cf (nS c)).length := by have := hrow.len; rw [ints_length] at this; omega
    refine ⟨⟨rfl, rfl⟩, rs_ok, rfl, ⟨b, c, ⟨ga, gn, gc⟩, cf, ⟨ma, mn, mc⟩, mem, ⟨r.a, r.n, r.cap⟩, askV c name ev cf (nS c)⟩, rfl, rfl, ⟨hnew, ⟨hg, hgn⟩, hrow.src, by dsimp only; omega⟩, ⟨hr.sub (sub_rest 6 (by simp) rfl), Srcd.sub (A := F) (sub_rest 6 (by simp) rfl) hcf, hm.sub (sub_rest 6 (by simp) rfl), Srcd.sub (A := r.A) (sub_rest 5 (by simp) rfl) hrow.srcd⟩, fun y hy => ⟨y, hy, rfl, Ent.pick [15040, 6] rfl rfl⟩⟩
set_option maxRecDepth 100000 in
theorem slc_ok : FnOk Try.prog 44 slcC :=
  fnOk (N := 59) (by kernel_rfl) Try.func44 rfl (by kernel_rfl) (fun _ => Nat.le_of_ble_eq_true rfl) slc_H [] fun x F hc hr => Eq.mpr (by kernel_rfl) (slc_vc x F hc hr)
end Go.Proofs.Ytkmdgnbfojkcnaa
