/- New: a lattice of a chart that stands rightly. -/
import Derived.Test.YtkmdgnbfojkcnaaLatK
set_option linter.all false
namespace Go.Proofs.Ytkmdgnbfojkcnaa
open Go
set_option maxHeartbeats 1000000
def stB (c : ChD) (i : Nat) : Bool := decide (kd c i ≥ 1) && decide (kd c i ≤ 5) && decide (0 ≤ pr c i) && decide (pr c i < i) && decide (kd c (pr c i).toNat ≤ 2)
def kidAt (c : ChD) (i : Nat) : List Int := ((c.sts[i]?).map (·.kids)).getD []
def headB (c : ChD) : Bool := decide (2 ≤ nS c) && decide (nS c ≤ 128) && decide (c.trs.length ≤ 256) && decide (kd c 0 = 0) && decide (pr c 0 = -1)
def newB (c : ChD) : Bool := headB c && (List.range (nS c)).all (fun i => Nat.beq i 0 || stB c i) && (List.range (nS c)).all (fun i => decide (kidAt c i = kidsA c i)) && !(kidsP c 0).isEmpty && transB c
theorem newB_spec {c : ChD} : newB c = true ↔ Placed c ∧ c.trs.length ≤ 256 ∧ transB c = true := by
  unfold newB headB
  simp only [Bool.and_eq_true, decide_eq_true_eq, List.all_eq_true, List.mem_range, Bool.or_eq_true, Nat.beq_eq, Bool.not_eq_true', List.isEmpty_eq_false_iff]
  constructor
  · rintro ⟨⟨⟨⟨⟨⟨⟨⟨h1, h2⟩, h3⟩, h4⟩, h5⟩, h6⟩, h7⟩, h8⟩, h9⟩
    refine ⟨⟨h1, h2, h4, h5, fun i h0 hi => ?_, fun i s hs => ?_, h8⟩, h3, h9⟩
    · have := (h6 i hi).resolve_left (by omega)
      unfold stB at this
      simp only [Bool.and_eq_true, decide_eq_true_eq] at this
      omega
    · have := h7 i (List.getElem?_eq_some_iff.1 hs).1
      unfold kidAt at this
      rw [hs] at this
      exact this
  · rintro ⟨⟨h1, h2, h4, h5, h6, h7, h8⟩, h3, h9⟩
    refine ⟨⟨⟨⟨⟨⟨⟨⟨h1, h2⟩, h3⟩, h4⟩, h5⟩, fun i hi => ?_⟩, fun i hi => ?_⟩, h8⟩, h9⟩
    · rcases Nat.eq_zero_or_pos i with e | e
      · exact .inl e
      · right
        have := h6 i e hi
        unfold stB
        simp only [Bool.and_eq_true, decide_eq_true_eq]
        omega
    · obtain ⟨s, hs⟩ := get_st hi
      unfold kidAt
      rw [hs]
      exact h7 i s hs
theorem newB_no {c : ChD} (h : Placed c → c.trs.length ≤ 256 → transB c = true → False) : newB c = false := by
  cases e : newB c with
  | false => rfl
  | true =>
    obtain ⟨h1, h2, h3⟩ := newB_spec.1 e
    exact (h h1 h2 h3).elim
structure NewY where
  G : Atom
  b : Nat
def newC : Con where
  X := ClnCX
  Y := NewY
  args x := [.agg #[.string x.c.name, .bool x.c.late, .int .i64 x.c.script, .slice x.w.vs.a x.w.vs.n x.w.vs.cap, .slice x.w.vt.a x.w.vt.n x.w.vt.cap, .slice x.w.vb.a x.w.vb.n x.w.vb.cap, .slice x.w.vd.a x.w.vd.n x.w.vd.cap, .slice x.w.vi.a x.w.vi.n x.w.vi.cap]]
  pre _ := []
  cond x := True
  rdc x F := ChIn F x.w.v x.c
  rel x y := newB x.c = true → LatIn y.G y.b x.c
  val x y := .returned (bif newB x.c then .tuple #[.pointer (some ⟨y.b, 0, none⟩), .int .i64 0] else .tuple #[.pointer none, .int .i64 140])
  post x y := [bif newB x.c then y.G else .emp]
  rmono _ _ _ h hk := hk.sub h
/-- What is known while it is made. -/
structure NwA (c : ChD) (k : Nat) (rA : Row) (abv : List Value) (G : Atom) : Prop where
  head : headB c = true
  kn : k ≤ nS c
  row : IsRow 66 1 abv rA
  len : abv.length = k
  ab : ∀ i, i < k → ∃ b, abv[i]? = some (.slice (some ⟨b, 0, none⟩) (nS c) (nS c)) ∧ Seg G ⟨b, 0, none⟩ (bls (rowN c (rowsT c i) i))
  rl : ∀ i, i < k → (rowN c (rowsT c i) i).length = nS c
  st : ∀ i, 0 < i → i < k → stB c i = true
def NwK (c : ChD) (m : Int) (k : Nat) (rs : List Row) : Prop := rs.length = nS c ∧ ∀ (p : Nat) (r : Row), rs[p]? = some r → IsRow 3 1 (ints (kidsOf c m k p)) r
theorem headB_n {c : ChD} (h : headB c = true) : 2 ≤ nS c ∧ nS c ≤ 128 := by
  unfold headB at h
  simp only [Bool.and_eq_true, decide_eq_true_eq] at h
  exact ⟨h.1.1.1.1, h.1.1.1.2⟩
theorem stB_spec {c : ChD} {i : Nat} (h : stB c i = true) : 1 ≤ kd c i ∧ kd c i ≤ 5 ∧ 0 ≤ pr c i ∧ pr c i < i ∧ kd c (pr c i).toNat ≤ 2 := by
  unfold stB at h
  simp only [Bool.and_eq_true, decide_eq_true_eq] at h
  omega
theorem kidsOf_len (c : ChD) (m : Int) (k p : Nat) : (kidsOf c m k p).length ≤ k := by
  unfold kidsOf
  rw [List.length_map]
  exact Nat.le_trans (List.length_filter_le ..) (by rw [List.length_range]; exact Nat.le_refl k)
theorem nwk_set {c : ChD} {m : Int} {k p : Nat} {rs : List Row} {r y : Row} (h : NwK c m k rs) (hp : rs[p]? = some r) (h0 : 0 < k) (hk : pr c k = p) (hm : kd c k < m) (hy : IsRow 3 1 (ints (kidsOf c m k p) ++ [.int .i64 k]) y) : NwK c m (k + 1) (rs.set p y) := by
  refine ⟨by rw [List.length_set]; exact h.1, fun q u hq => ?_⟩
  rw [kidsOf_succ, ints_append]
  have hb : Nat.blt 0 k = true := by rw [Nat.blt_eq]; exact h0
  by_cases e : q = p
  · subst e
    rw [List.getElem?_set_self (List.getElem?_eq_some_iff.1 hp).1] at hq
    cases hq
    have : (Nat.blt 0 k && (pr c k == (q : Int)) && decide (kd c k < m)) = true := by simp [hb, hk, hm]
    rw [this, cond_true]
    exact hy
  · rw [List.getElem?_set_ne (Ne.symm e)] at hq
    have : (Nat.blt 0 k && (pr c k == (q : Int)) && decide (kd c k < m)) = false := by
      have : ¬ ((p : Int) = q) := by omega
      simp [hb, hk, this]
    rw [this, cond_false]
    have := h.2 q u hq
    simpa [ints] using this
theorem nwk_same {c : ChD} {m : Int} {k : Nat} {rs : List Row} (h : NwK c m k rs) (hk : 0 < k → ¬ kd c k < m) : NwK c m (k + 1) rs := by
  refine ⟨h.1, fun q u hq => ?_⟩
  rw [kidsOf_succ, ints_append]
  have : (Nat.blt 0 k && (pr c k == (q : Int)) && decide (kd c k < m)) = false := by
    rcases Nat.eq_zero_or_pos k with e | e
    · subst e; rfl
    · simp [hk e]
  rw [this, cond_false]
  have := h.2 q u hq
  simpa [ints] using this
theorem rowN_step {c : ChD} {k : Nat} (h0 : 0 < k) (hp : (pr c k).toNat < k) : rowN c (rowsT c k) k = (rowN c (rowsT c (pr c k).toNat) (pr c k).toNat).set (pr c k).toNat true := by
  have h00 : Nat.beq k 0 = false := by
    cases h : Nat.beq k 0 with
    | true => have := Nat.eq_of_beq_eq_true h; omega
    | false => rfl
  conv => lhs; unfold rowN
  rw [h00, cond_false, rowsT_get hp]; rfl
theorem IsRow.intsIn {A : Atom} {xs : List Int} {r : Row} (h : IsRow 3 1 (ints xs) r) (hs : Sub r.A A) (hn : r.n * 8 ≤ 140737488351232) : IntsIn A (.slice r.a r.n r.cap) xs := by
  have hf : ∀ xs : List Int, (xs.map fun x => ([.int .i64 x] : List Value)).flatten = ints xs := by
    intro xs
    induction xs with
    | nil => rfl
    | cons x l ih => rw [List.map_cons, List.flatten_cons, ih]; rfl
  have h2 : ∀ xs : List Int, All2 IntIn (xs.map fun x => ([.int .i64 x] : List Value)) xs := by
    intro xs
    induction xs with
    | nil => trivial
    | cons x l ih => exact ⟨rfl, ih⟩
  have hl := h.len
  rw [ints_length] at hl
  refine SlIn.of (raw := xs.map fun x => [.int .i64 x]) (by rw [hf]; exact h.src) (by rw [hf]; exact h.srcd.sub hs) (fun e => (h.none0 e).2) h.le hn (by rw [List.length_map]; omega) (fun r hr => ?_) (h2 xs)
  obtain ⟨x, _, rfl⟩ := List.mem_map.1 hr
  rfl
theorem Ent.put {S : St} (j : Nat) {A : Atom} (hA : ∀ I h, A.holds I h (fun _ => False)) : Ent S (updS S j A) := ⟨fun I w hs => by
  obtain ⟨⟨f, h1, h2, h3⟩, hi⟩ := hs
  refine ⟨I, Imm.le_refl I, ⟨fun i b => i ≠ j ∧ f i b, fun i => ?_, fun i i' b hb hb' => h2 _ _ _ hb.2 hb'.2, fun i b hb => h3 _ _ hb.2⟩, hi⟩
  rw [gt_upd]
  by_cases e : i = j
  · subst e
    rw [if_pos rfl]
    have : (fun b => i ≠ i ∧ f i b) = fun _ => False := by funext b; simp
    show Atom.holds I (hp w) (fun b => i ≠ i ∧ f i b) A
    rw [this]; exact hA _ _
  · rw [if_neg e]
    have : (fun b => i ≠ j ∧ f i b) = f i := by funext b; simp [e]
    show Atom.holds I (hp w) (fun b => i ≠ j ∧ f i b) _
    rw [this]; exact h1 i⟩
theorem fam_nil (n : Nat) (I : Imm) (h : Hp) : (famA (List.replicate n nilRow)).holds I h (fun _ => False) := by
  refine ⟨fun _ _ => False, fun j => ?_, fun _ _ _ h => h.elim, fun _ _ h => h⟩
  have e : gt (clr [] (ofL ((List.replicate n nilRow).map Row.A))) j = .emp := by
    show gt (ofL _) j = _
    rw [gt_ofL, List.map_replicate, List.getD_eq_getElem?_getD, List.getElem?_replicate]
    split <;> rfl
  rw [e]; trivial
def rvs (rs : List Row) : List Value := rs.map Row.v
theorem rvs_zero (n : Nat) : zeros [.slice none 0 0] n = rvs (List.replicate n nilRow) := by
  rw [zeros_one]; unfold rvs; rw [List.map_replicate]; rfl
theorem rvs_set (rs : List Row) (p : Nat) (y : Row) : (rvs rs).set p (.slice y.a y.n y.cap) = rvs (rs.set p y) := by
  unfold rvs; rw [List.map_set]; rfl
theorem rvs_get {rs : List Row} {p : Nat} {r : Row} (h : rs[p]? = some r) : (rvs rs)[p]? = some (.slice r.a r.n r.cap) := by unfold rvs; rw [List.getElem?_map, h]; rfl
def apG (e : TypeId) (k bytes : Nat) : Con where
  X := ApFX
  Y := Row
  args x := [.slice x.r.a x.r.n x.r.cap, .slice x.a x.m x.c]
  pre x := [famA x.rs]
  cond x := x.rs[x.p]? = some x.r ∧ IsRow e k x.cs x.r ∧ x.ys.length = x.m * k ∧ (∀ u ∈ x.ys, u.oneCell' = true) ∧ (x.r.n + x.m) * bytes ≤ 140737488355328 ∧ x.r.n + x.m ≤ 9223372036854775807 ∧ (x.a = none → x.m = 0 ∧ x.c = 0)
  rdc x F := ∀ a, x.a = some a → Seg F a x.ys
  rel x r := IsRow e k (x.cs ++ x.ys) r ∧ r.n = x.r.n + x.m ∧ (x.m = 0 → r = x.r)
  val _ r := .returned r.v
  post x r := [famA (x.rs.set x.p r)]
  rmono _ _ _ hs h a ha := (h a ha).sub hs
theorem appendG_ok {P : Program} {o : Oper} {e : TypeId} {k bytes : Nat} (hok : OpOk P o (apC e k bytes)) : OpOk P o (apG e k bytes) :=
  (appendF_ok hok).conseq fun x _ hc hr => ⟨x, hc, hr, rfl, rfl, fun y hy => ⟨y, hy, rfl, rfl⟩⟩
theorem nw_lat {A G : Atom} {c : ChD} {b5 bk n : Nat} {v : ChV} {rA : Row} {abv : List Value} {rsK : List Row} {t t2 : TypeId} (hp : Placed c) (hA : NwA c (nS c) rA abv G) (hK : NwK c 4 (nS c) rsK) (hch : ChIn A v c) (hn : n = nS c)
    (s2 : Sub (.cells b5 (c.cells v ++ [.slice rA.a rA.n rA.cap, .slice (some ⟨bk, 0, none⟩) n n]) t) A) (s3 : Sub rA.A A) (s4 : Sub (.cells bk (rvs rsK) t2) A) (s5 : Sub (famA rsK) A) (s8 : Sub G A) : LatIn A b5 c := by
  subst hn
  have h2 := hp.n2
  have h128 := hp.n128
  have hrl := hA.row.len
  have hal := hA.len
  obtain ⟨b2, hb2⟩ := hA.row.at0 (by omega)
  have hcl : (c.cells v).length = 8 := rfl
  refine ⟨hp, ⟨v, fun j u hj => (Look.cells ?_).sub s2, hch⟩, ⟨b2, 0, rA.cap, (Look.cells ?_).sub s2, fun i hi => ?_⟩, ⟨bk, 0, nS c, (Look.cells ?_).sub s2, fun i hi => ?_⟩⟩
  · rw [List.getElem?_append_left (List.getElem?_eq_some_iff.1 hj).1]; exact hj
  · rw [List.getElem?_append_right (by rw [hcl]; omega), hcl, hb2]
    have : rA.n = nS c := by omega
    rw [this]; rfl
  · obtain ⟨b3, h3, h4⟩ := hA.ab i hi
    refine ⟨b3, 0, nS c, ?_, fun j hj => ?_⟩
    · have := hA.row.srcd
      rw [hb2] at this
      exact (this.look h3).sub s3
    · have h5 := hA.rl i hi
      have := (h4 j (.bool (insB c i j)) ?_).sub s8
      · rwa [addr_add] at this
      · refine bls_get ?_
        rw [ins_row hi, List.getElem?_eq_getElem (by omega)]; rfl
  · rw [List.getElem?_append_right (by rw [hcl]; omega), hcl]; rfl
  · obtain ⟨r, hr⟩ : ∃ r, rsK[i]? = some r := ⟨_, List.getElem?_eq_getElem (by rw [hK.1]; exact hi)⟩
    have hrow := hK.2 i r hr
    refine ⟨.slice r.a r.n r.cap, (Look.cells (by rw [Nat.zero_add]; exact rvs_get hr)).sub s4, hrow.intsIn (fun I h o ho => ?_) ?_⟩
    · obtain ⟨o', h'⟩ := s5 I h o ho
      exact sub_bag i (by rw [List.getElem?_map, hr]; rfl) I h o' h'
    · have := hrow.len
      have h6 := kidsOf_len c 4 (nS c) i
      rw [ints_length] at this
      omega
structure NwI where
  k : Nat
  b1 : Nat
  b5 : Nat
  rA : Row
  abv : List Value
  bk : Nat
  rsK : List Row
  ba : Nat
  rsA : List Row
  G : Atom
  b9 : Nat
def nwS (x : ClnCX) (F : Atom) (i : NwI) : List Atom := [F, .cells i.b1 (chS x.c x.w) 28, .cells i.b5 (chS x.c x.w ++ [.slice i.rA.a i.rA.n i.rA.cap, .slice (some ⟨i.bk, 0, none⟩) x.w.vs.n x.w.vs.n]) 87, i.rA.A, .cells i.bk (rvs i.rsK) 29, famA i.rsK, .cells i.ba (rvs i.rsA) 29, famA i.rsA, i.G]
def nwL (x : ClnCX) (i : NwI) : List (Nat × Value) := [(1, .pointer (some ⟨i.b1, 0, none⟩)), (4, .int .i64 x.w.vs.n), (5, .pointer (some ⟨i.b5, 0, none⟩)), (6, .slice (some ⟨i.ba, 0, none⟩) x.w.vs.n x.w.vs.n)]
def nwInv (x : ClnCX) (F : Atom) : Nat → Option Inv := fun
  | 0 => some { X := NwI, P := fun i => NwA x.c i.k i.rA i.abv i.G ∧ NwK x.c 4 i.k i.rsK ∧ NwK x.c 6 i.k i.rsA, mu := fun i => x.w.vs.n - i.k, lv := fun i => nwL x i ++ [(51, .slice x.w.vs.a x.w.vs.n x.w.vs.cap), (52, .int .i64 x.w.vs.n), (53, .int .i64 i.k)], st := fun i => nwS x F i }
  | 2 => some { X := NwI, P := fun i => NwA x.c (nS x.c) i.rA i.abv i.G ∧ NwK x.c 4 (nS x.c) i.rsK ∧ NwK x.c 6 (nS x.c) i.rsA ∧ i.k ≤ nS x.c ∧ ∀ j, j < i.k → kidAt x.c j = kidsA x.c j, mu := fun i => x.w.vs.n - i.k, lv := fun i => nwL x i ++ [(150, .slice x.w.vs.a x.w.vs.n x.w.vs.cap), (151, .int .i64 x.w.vs.n), (152, .int .i64 i.k)], st := fun i => nwS x F i }
  | _ => none
def nwCut (x : ClnCX) (F : Atom) : Nat → Option Inv := fun
  | 18 => some { X := NwI, P := fun i => i.k < nS x.c ∧ NwA x.c i.k i.rA i.abv i.G ∧ NwK x.c 4 (i.k + 1) i.rsK ∧ NwK x.c 6 (i.k + 1) i.rsA ∧ (rowN x.c (rowsT x.c i.k) i.k).length = nS x.c ∧ (0 < i.k → stB x.c i.k = true), gh := some ⟨Nat, fun i => i.k⟩, mu := fun _ => 0, lv := fun i => nwL x i ++ [(7, .int .i64 i.k), (9, .slice (some ⟨i.b9, 0, none⟩) x.w.vs.n x.w.vs.n), (51, .slice x.w.vs.a x.w.vs.n x.w.vs.cap), (52, .int .i64 x.w.vs.n), (53, .int .i64 i.k)], st := fun i => nwS x F i ++ [.cells i.b9 (bls (rowN x.c (rowsT x.c i.k) i.k)) 4] }
  | _ => none
def nwOv (_x : ClnCX) (_F : Atom) : List (Nat × Nat × OH) := [(0, 0, .n 1000), (1, 1, .q [.atj 1000]), (2, 8, .q [.atj 1000]), (2, 14, .q [.atj 1000]), (2, 15, .qo (ixQ 13)), (2, 17, .q [.ex 0 (.int .i64)]), (2, 22, .q [.atj 1000]), (2, 23, .qo (ixQ 13)), (2, 25, .q [.ex 0 (.int .i64)]),
  (4, 0, .q (at8 1000)), (4, 2, .o (mkC 29 [.slice none 0 0] 24) [] [5020]), (4, 4, .n 5040), (5, 1, .o (mkC 29 [.slice none 0 0] 24) [] [6010]), (6, 1, .q [.atj 1000]),
  (8, 1, .qo (ixQ 13)), (8, 2, .q sh13), (8, 3, .n 9030), (8, 5, .w (at13 9030)), (9, 1, .o (mkC 4 [.bool false] 1) [] [10010]),
  (11, 1, .q [.atj 9030]), (11, 5, .q [.atj 9030]), (11, 10, .q [.atj 9030]), (11, 15, .q [.atj 9030]), (11, 21, .q [.atj 1]), (11, 23, .q [.atj 9030]), (11, 24, .qo (ixQ 13)), (11, 26, .q [.ex 0 (.int .i64)]),
  (13, 4, .q [.atj 2]), (13, 6, .q [.atj 9030]), (13, 7, .qo (ixQ 1)), (13, 8, .q [.ex 3 .slice]), (13, 9, .o (cpC 1) [10010] [10010]),
  (14, 2, .q [.atj 9030]), (14, 4, .w [.ex 10010 .any]),
  (15, 2, .q [.atj 9030]), (15, 5, .q [.atj 9030]), (15, 7, .q [.ex 6 .slice]), (15, 9, .n 16090), (15, 10, .o (apG 3 1 8) [7] [7]), (15, 12, .w [.ex 6 .any]),
  (16, 1, .q [.atj 9030]), (17, 3, .q [.atj 2]), (17, 5, .q [.atj 9030]), (17, 9, .q [.atj 2]), (17, 11, .q [.atj 9030]), (17, 13, .q [.ex 4 .slice]), (17, 15, .n 18150), (17, 16, .o (apG 3 1 8) [5] [5]), (17, 18, .w [.ex 4 .any]),
  (18, 4, .q [.atj 2]), (18, 6, .n 19060), (18, 7, .o (apC 66 1 24) [3] [3]), (18, 10, .w [.atj 2]),
  (20, 1, .q [.atj 1]), (22, 1, .qo (ixQ 13)), (22, 2, .q sh13), (22, 3, .n 23030), (22, 5, .w (at13 23030)), (23, 1, .q [.atj 23030]), (23, 5, .q [.ex 6 .slice]), (23, 6, .c eqC [] []),
  (26, 3, .q [.atj 2]), (26, 5, .q [.ex 4 .slice]), (26, 10, .c transC [] []), (28, 1, .q (at8 1)), (28, 2, .c cloneC [] [29020]), (28, 5, .w (at8 2))]
theorem new_no {x : ClnCX} {F : Atom} {S : St} (h : newB x.c = false) (hS : Ent S (ofL [.emp, F])) : Done newC x F (.returned (.tuple #[.pointer none, .int .i64 140])) S :=
  ⟨⟨⟨.emp, 0⟩, fun e => (by rw [h] at e; cases e), (by dsimp only [newC]; rw [h]; rfl), (by dsimp only [newC]; rw [h]; exact hS)⟩⟩
noncomputable def new_H (x : Con.X newC) (F : Atom) : Hints where
  op := hk ((nwOv x F) ++ [])
  inv := nwInv x F
  cut := nwCut x F
  ord := (fun _ => [])
open Go.Value (int slice string bool pointer agg tuple func) in
open Go.IntKind (i64) in
set_option maxRecDepth 100000 in
theorem new_vc (x : ClnCX) (F : Atom) (hc : Con.cond newC x) (hr : Con.rdc newC x F) :
  ∀ (b : Nat),
 Same ⟨b, 3, none⟩ b ∧
 Br (decide ((↑x.w.vs.n : Int) < (2 : Int))) (Done newC x F (Ending.returned (tuple { toList := [pointer none, int i64 (140 : Int)] })) [(0, F), (1000, Atom.cells b [string x.c.name, bool x.c.late, int i64 x.c.script, slice x.w.vs.a x.w.vs.n x.w.vs.cap, slice x.w.vt.a x.w.vt.n x.w.vt.cap, slice x.w.vb.a x.w.vb.n x.w.vb.cap, slice x.w.vd.a x.w.vd.n x.w.vd.cap, slice x.w.vi.a x.w.vi.n x.w.vi.cap] 28)])
 (Br (decide ((↑x.w.vs.n : Int) > (128 : Int))) (Done newC x F (Ending.returned (tuple { toList := [pointer none, int i64 (140 : Int)] })) [(0, F), (1000, Atom.cells b [string x.c.name, bool x.c.late, int i64 x.c.script, slice x.w.vs.a x.w.vs.n x.w.vs.cap, slice x.w.vt.a x.w.vt.n x.w.vt.cap, slice x.w.vb.a x.w.vb.n x.w.vb.cap, slice x.w.vd.a x.w.vd.n x.w.vd.cap, slice x.w.vi.a x.w.vi.n x.w.vi.cap] 28)])
 (Same ⟨b, 4, none⟩ b ∧
 Br (decide ((↑x.w.vt.n : Int) > (256 : Int))) (Done newC x F (Ending.returned (tuple { toList := [pointer none, int i64 (140 : Int)] })) [(0, F), (1000, Atom.cells b [string x.c.name, bool x.c.late, int i64 x.c.script, slice x.w.vs.a x.w.vs.n x.w.vs.cap, slice x.w.vt.a x.w.vt.n x.w.vt.cap, slice x.w.vb.a x.w.vb.n x.w.vb.cap, slice x.w.vd.a x.w.vd.n x.w.vd.cap, slice x.w.vi.a x.w.vi.n x.w.vi.cap] 28)])
 (Same ⟨b, 3, none⟩ b ∧
 QOpOk Try.prog (opIn Try.f14 2 15) (ixQ 13) ∧
 ∃ (x_1 : IxQX),
 [slice x.w.vs.a x.w.vs.n x.w.vs.cap, int i64 (0 : Int)] = [slice (some ⟨x_1.b, x_1.o, none⟩) x_1.len x_1.cap, int i64 x_1.n] ∧
 ((0 : Int) ≤ x_1.n ∧ x_1.n < (↑x_1.len : Int)) ∧
 ∃ (n : Int),
 Look F ⟨x_1.b, x_1.o + x_1.n.toNat * 13 + 1, none⟩ (int i64 n) ∧
 Br (n != (0 : Int)) (Done newC x F (Ending.returned (tuple { toList := [pointer none, int i64 (140 : Int)] })) [(0, F), (1000, Atom.cells b [string x.c.name, bool x.c.late, int i64 x.c.script, slice x.w.vs.a x.w.vs.n x.w.vs.cap, slice x.w.vt.a x.w.vt.n x.w.vt.cap, slice x.w.vb.a x.w.vb.n x.w.vb.cap, slice x.w.vd.a x.w.vd.n x.w.vd.cap, slice x.w.vi.a x.w.vi.n x.w.vi.cap] 28)])
 (Same ⟨b, 3, none⟩ b ∧
 QOpOk Try.prog (opIn Try.f14 2 23) (ixQ 13) ∧
 ∃ (x_2 : IxQX),
 [slice x.w.vs.a x.w.vs.n x.w.vs.cap, int i64 (0 : Int)] = [slice (some ⟨x_2.b, x_2.o, none⟩) x_2.len x_2.cap, int i64 x_2.n] ∧
 ((0 : Int) ≤ x_2.n ∧ x_2.n < (↑x_2.len : Int)) ∧
 ∃ (n : Int),
 Look F ⟨x_2.b, x_2.o + x_2.n.toNat * 13 + 2, none⟩ (int i64 n) ∧
 Br (n != (-1 : Int)) (Done newC x F (Ending.returned (tuple { toList := [pointer none, int i64 (140 : Int)] })) [(0, F), (1000, Atom.cells b [string x.c.name, bool x.c.late, int i64 x.c.script, slice x.w.vs.a x.w.vs.n x.w.vs.cap, slice x.w.vt.a x.w.vt.n x.w.vt.cap, slice x.w.vb.a x.w.vb.n x.w.vb.cap, slice x.w.vd.a x.w.vd.n x.w.vd.cap, slice x.w.vi.a x.w.vi.n x.w.vi.cap] 28)])
 (true = true ∧
 Same ⟨b, 0, none⟩ b ∧
 Same ⟨b, 1, none⟩ b ∧
 Same ⟨b, 2, none⟩ b ∧
 Same ⟨b, 3, none⟩ b ∧
 Same ⟨b, 4, none⟩ b ∧
 Same ⟨b, 5, none⟩ b ∧
 Same ⟨b, 6, none⟩ b ∧
 Same ⟨b, 7, none⟩ b ∧
 OpOk Try.prog (opIn Try.f14 4 2) (mkC (29 : TypeId) [slice none 0 0] 24) ∧
 true = true ∧
 ∃ (x_3 : MkX),
 [int i64 (↑x.w.vs.n : Int), int i64 (↑x.w.vs.n : Int)] = [int i64 x_3.n, int i64 x_3.c] ∧
 ([] : List Atom) = [] ∧
 ((0 : Int) ≤ x_3.n ∧ x_3.n ≤ x_3.c ∧ x_3.c * (↑(24 : Nat) : Int) ≤ (281474976710656 : Int) ∧ x_3.c ≤ (9223372036854775807 : Int)) ∧
 True ∧
 ∀ (y : Nat),
 True →
 ∀ (b_1 : Nat),
 OpOk Try.prog (opIn Try.f14 5 1) (mkC (29 : TypeId) [slice none 0 0] 24) ∧
 true = true ∧
 ∃ (x_4 : MkX),
 [int i64 (↑x.w.vs.n : Int), int i64 (↑x.w.vs.n : Int)] = [int i64 x_4.n, int i64 x_4.c] ∧
 ([] : List Atom) = [] ∧
 ((0 : Int) ≤ x_4.n ∧ x_4.n ≤ x_4.c ∧ x_4.c * (↑(24 : Nat) : Int) ≤ (281474976710656 : Int) ∧ x_4.c ≤ (9223372036854775807 : Int)) ∧
 True ∧
 ∀ (y_1 : Nat),
 True →
 Same ⟨b, 3, none⟩ b ∧
 (∃ (x_5 : NwI),
 (NwA x.c x_5.k x_5.rA x_5.abv x_5.G ∧ NwK x.c (4 : Int) x_5.k x_5.rsK ∧ NwK x.c (6 : Int) x_5.k x_5.rsA) ∧
 (pointer (some ⟨b, 0, none⟩) = pointer (some ⟨x_5.b1, 0, none⟩) ∧ int i64 (↑x.w.vs.n : Int) = int i64 (↑x.w.vs.n : Int) ∧ pointer (some ⟨b_1, 0, none⟩) = pointer (some ⟨x_5.b5, 0, none⟩) ∧ slice (some ⟨y_1, 0, none⟩) x_4.n.toNat x_4.c.toNat = slice (some ⟨x_5.ba, 0, none⟩) x.w.vs.n x.w.vs.n ∧ slice x.w.vs.a x.w.vs.n x.w.vs.cap = slice x.w.vs.a x.w.vs.n x.w.vs.cap ∧ int i64 (↑x.w.vs.n : Int) = int i64 (↑x.w.vs.n : Int) ∧ int i64 (0 : Int) = int i64 (↑x_5.k : Int) ∧ True) ∧
 Ent
 [(0, F), (1000, Atom.cells b [string x.c.name, bool x.c.late, int i64 x.c.script, slice x.w.vs.a x.w.vs.n x.w.vs.cap, slice x.w.vt.a x.w.vt.n x.w.vt.cap, slice x.w.vb.a x.w.vb.n x.w.vb.cap, slice x.w.vd.a x.w.vd.n x.w.vd.cap, slice x.w.vi.a x.w.vi.n x.w.vi.cap] 28), (5020, Atom.cells y (zeros [slice none 0 0] x_3.c.toNat) 29),
 (5040, Atom.cells b_1 [string x.c.name, bool x.c.late, int i64 x.c.script, slice x.w.vs.a x.w.vs.n x.w.vs.cap, slice x.w.vt.a x.w.vt.n x.w.vt.cap, slice x.w.vb.a x.w.vb.n x.w.vb.cap, slice x.w.vd.a x.w.vd.n x.w.vd.cap, slice x.w.vi.a x.w.vi.n x.w.vi.cap, slice none 0 0, slice (some ⟨y, 0, none⟩) x_3.n.toNat x_3.c.toNat] 87), (6010, Atom.cells y_1 (zeros [slice none 0 0] x_4.c.toNat) 29)]
 [(0, F), (1, Atom.cells x_5.b1 [string x.c.name, bool x.c.late, int i64 x.c.script, slice x.w.vs.a x.w.vs.n x.w.vs.cap, slice x.w.vt.a x.w.vt.n x.w.vt.cap, slice x.w.vb.a x.w.vb.n x.w.vb.cap, slice x.w.vd.a x.w.vd.n x.w.vd.cap, slice x.w.vi.a x.w.vi.n x.w.vi.cap] 28), (2, Atom.cells x_5.b5 [string x.c.name, bool x.c.late, int i64 x.c.script, slice x.w.vs.a x.w.vs.n x.w.vs.cap, slice x.w.vt.a x.w.vt.n x.w.vt.cap, slice x.w.vb.a x.w.vb.n x.w.vb.cap, slice x.w.vd.a x.w.vd.n x.w.vd.cap, slice x.w.vi.a x.w.vi.n x.w.vi.cap, slice x_5.rA.a x_5.rA.n x_5.rA.cap, slice (some ⟨x_5.bk, 0, none⟩) x.w.vs.n x.w.vs.n] 87), (3, x_5.rA.A), (4, Atom.cells x_5.bk (rvs x_5.rsK) 29),
 (5, Atom.pred (rest (ofL (List.map Row.A x_5.rsK)) [])), (6, Atom.cells x_5.ba (rvs x_5.rsA) 29), (7, Atom.pred (rest (ofL (List.map Row.A x_5.rsA)) [])), (8, x_5.G)]) ∧
 ∀ (x_5 : NwI) (js : Nat → Value),
 NwA x.c x_5.k x_5.rA x_5.abv x_5.G ∧ NwK x.c (4 : Int) x_5.k x_5.rsK ∧ NwK x.c (6 : Int) x_5.k x_5.rsA →
 Br (decide ((↑x_5.k : Int) < (↑x.w.vs.n : Int)))
 (QOpOk Try.prog (opIn Try.f14 8 1) (ixQ 13) ∧
 ∃ (x_6 : IxQX),
 [slice x.w.vs.a x.w.vs.n x.w.vs.cap, int i64 (↑x_5.k : Int)] = [slice (some ⟨x_6.b, x_6.o, none⟩) x_6.len x_6.cap, int i64 x_6.n] ∧
 ((0 : Int) ≤ x_6.n ∧ x_6.n < (↑x_6.len : Int)) ∧
 ∃ (s : ByteArray),
 Look F ⟨x_6.b, x_6.o + x_6.n.toNat * 13, none⟩ (string s) ∧
 ∃ (n : Int),
 Look F ⟨x_6.b, x_6.o + x_6.n.toNat * 13 + 1, none⟩ (int i64 n) ∧
 ∃ (n_1 : Int),
 Look F ⟨x_6.b, x_6.o + x_6.n.toNat * 13 + 2, none⟩ (int i64 n_1) ∧
 ∃ (a : Option Addr),
 ∃ (l : Nat),
 ∃ (c : Nat),
 Look F ⟨x_6.b, x_6.o + x_6.n.toNat * 13 + 3, none⟩ (slice a l c) ∧
 ∃ (n_2 : Int),
 Look F ⟨x_6.b, x_6.o + x_6.n.toNat * 13 + 4, none⟩ (int i64 n_2) ∧
 ∃ (a_1 : Option Addr),
 ∃ (l_1 : Nat),
 ∃ (c_1 : Nat),
 Look F ⟨x_6.b, x_6.o + x_6.n.toNat * 13 + 5, none⟩ (slice a_1 l_1 c_1) ∧
 ∃ (a_2 : Option Addr),
 ∃ (l_2 : Nat),
 ∃ (c_2 : Nat),
 Look F ⟨x_6.b, x_6.o + x_6.n.toNat * 13 + 6, none⟩ (slice a_2 l_2 c_2) ∧
 ∃ (a_3 : Option Addr),
 ∃ (l_3 : Nat),
 ∃ (c_3 : Nat),
 Look F ⟨x_6.b, x_6.o + x_6.n.toNat * 13 + 7, none⟩ (slice a_3 l_3 c_3) ∧
 ∃ (a_4 : Option Addr),
 ∃ (l_4 : Nat),
 ∃ (c_4 : Nat),
 Look F ⟨x_6.b, x_6.o + x_6.n.toNat * 13 + 8, none⟩ (slice a_4 l_4 c_4) ∧
 ∃ (a_5 : Option Addr),
 ∃ (l_5 : Nat),
 ∃ (c_5 : Nat),
 Look F ⟨x_6.b, x_6.o + x_6.n.toNat * 13 + 9, none⟩ (slice a_5 l_5 c_5) ∧
 ∃ (n_3 : Int),
 Look F ⟨x_6.b, x_6.o + x_6.n.toNat * 13 + 10, none⟩ (int i64 n_3) ∧
 ∃ (a_6 : Option Addr),
 ∃ (l_6 : Nat),
 ∃ (c_6 : Nat),
 Look F ⟨x_6.b, x_6.o + x_6.n.toNat * 13 + 11, none⟩ (slice a_6 l_6 c_6) ∧
 ∃ (s_1 : ByteArray),
 Look F ⟨x_6.b, x_6.o + x_6.n.toNat * 13 + 12, none⟩ (string s_1) ∧
 ∀ (b : Nat),
 Same ⟨b, 0, none⟩ b ∧
 Same ⟨b, 1, none⟩ b ∧
 Same ⟨b, 2, none⟩ b ∧
 Same ⟨b, 3, none⟩ b ∧
 Same ⟨b, 4, none⟩ b ∧
 Same ⟨b, 5, none⟩ b ∧
 Same ⟨b, 6, none⟩ b ∧
 Same ⟨b, 7, none⟩ b ∧
 Same ⟨b, 8, none⟩ b ∧
 Same ⟨b, 9, none⟩ b ∧
 Same ⟨b, 10, none⟩ b ∧
 Same ⟨b, 11, none⟩ b ∧
 Same ⟨b, 12, none⟩ b ∧
 OpOk Try.prog (opIn Try.f14 9 1) (mkC (4 : TypeId) [bool false] 1) ∧
 true = true ∧
 ∃ (x_7 : MkX),
 [int i64 (↑x.w.vs.n : Int), int i64 (↑x.w.vs.n : Int)] = [int i64 x_7.n, int i64 x_7.c] ∧
 ([] : List Atom) = [] ∧
 ((0 : Int) ≤ x_7.n ∧ x_7.n ≤ x_7.c ∧ x_7.c * (↑(1 : Nat) : Int) ≤ (281474976710656 : Int) ∧ x_7.c ≤ (9223372036854775807 : Int)) ∧
 True ∧
 ∀ (y : Nat),
 True →
 ∃ (n_4 : Nat),
 Br (decide ((↑x_5.k : Int) > (0 : Int)))
 (Same ⟨b, 1, none⟩ b ∧
 Br (decide (n < (1 : Int)))
 (Done newC x F (Ending.returned (tuple { toList := [pointer none, int i64 (140 : Int)] }))
 [(0, F), (1, Atom.cells x_5.b1 [string x.c.name, bool x.c.late, int i64 x.c.script, slice x.w.vs.a x.w.vs.n x.w.vs.cap, slice x.w.vt.a x.w.vt.n x.w.vt.cap, slice x.w.vb.a x.w.vb.n x.w.vb.cap, slice x.w.vd.a x.w.vd.n x.w.vd.cap, slice x.w.vi.a x.w.vi.n x.w.vi.cap] 28),
 (2, Atom.cells x_5.b5 [string x.c.name, bool x.c.late, int i64 x.c.script, slice x.w.vs.a x.w.vs.n x.w.vs.cap, slice x.w.vt.a x.w.vt.n x.w.vt.cap, slice x.w.vb.a x.w.vb.n x.w.vb.cap, slice x.w.vd.a x.w.vd.n x.w.vd.cap, slice x.w.vi.a x.w.vi.n x.w.vi.cap, slice x_5.rA.a x_5.rA.n x_5.rA.cap, slice (some ⟨x_5.bk, 0, none⟩) x.w.vs.n x.w.vs.n] 87), (3, x_5.rA.A), (4, Atom.cells x_5.bk (rvs x_5.rsK) 29), (5, Atom.pred (rest (ofL (List.map Row.A x_5.rsK)) [])), (6, Atom.cells x_5.ba (rvs x_5.rsA) 29), (7, Atom.pred (rest (ofL (List.map Row.A x_5.rsA)) [])), (8, x_5.G),
 (9030, Atom.cells b [string s, int i64 n, int i64 n_1, slice a l c, int i64 n_2, slice a_1 l_1 c_1, slice a_2 l_2 c_2, slice a_3 l_3 c_3, slice a_4 l_4 c_4, slice a_5 l_5 c_5, int i64 n_3, slice a_6 l_6 c_6, string s_1] 61), (10010, Atom.cells y (zeros [bool false] x_7.c.toNat) 4)])
 (Same ⟨b, 1, none⟩ b ∧
 Br (decide (n > (5 : Int)))
 (Done newC x F (Ending.returned (tuple { toList := [pointer none, int i64 (140 : Int)] }))
 [(0, F), (1, Atom.cells x_5.b1 [string x.c.name, bool x.c.late, int i64 x.c.script, slice x.w.vs.a x.w.vs.n x.w.vs.cap, slice x.w.vt.a x.w.vt.n x.w.vt.cap, slice x.w.vb.a x.w.vb.n x.w.vb.cap, slice x.w.vd.a x.w.vd.n x.w.vd.cap, slice x.w.vi.a x.w.vi.n x.w.vi.cap] 28),
 (2, Atom.cells x_5.b5 [string x.c.name, bool x.c.late, int i64 x.c.script, slice x.w.vs.a x.w.vs.n x.w.vs.cap, slice x.w.vt.a x.w.vt.n x.w.vt.cap, slice x.w.vb.a x.w.vb.n x.w.vb.cap, slice x.w.vd.a x.w.vd.n x.w.vd.cap, slice x.w.vi.a x.w.vi.n x.w.vi.cap, slice x_5.rA.a x_5.rA.n x_5.rA.cap, slice (some ⟨x_5.bk, 0, none⟩) x.w.vs.n x.w.vs.n] 87), (3, x_5.rA.A), (4, Atom.cells x_5.bk (rvs x_5.rsK) 29), (5, Atom.pred (rest (ofL (List.map Row.A x_5.rsK)) [])), (6, Atom.cells x_5.ba (rvs x_5.rsA) 29), (7, Atom.pred (rest (ofL (List.map Row.A x_5.rsA)) [])), (8, x_5.G),
 (9030, Atom.cells b [string s, int i64 n, int i64 n_1, slice a l c, int i64 n_2, slice a_1 l_1 c_1, slice a_2 l_2 c_2, slice a_3 l_3 c_3, slice a_4 l_4 c_4, slice a_5 l_5 c_5, int i64 n_3, slice a_6 l_6 c_6, string s_1] 61), (10010, Atom.cells y (zeros [bool false] x_7.c.toNat) 4)])
 (Same ⟨b, 2, none⟩ b ∧
 Br (decide (n_1 < (0 : Int)))
 (Done newC x F (Ending.returned (tuple { toList := [pointer none, int i64 (140 : Int)] }))
 [(0, F), (1, Atom.cells x_5.b1 [string x.c.name, bool x.c.late, int i64 x.c.script, slice x.w.vs.a x.w.vs.n x.w.vs.cap, slice x.w.vt.a x.w.vt.n x.w.vt.cap, slice x.w.vb.a x.w.vb.n x.w.vb.cap, slice x.w.vd.a x.w.vd.n x.w.vd.cap, slice x.w.vi.a x.w.vi.n x.w.vi.cap] 28),
 (2, Atom.cells x_5.b5 [string x.c.name, bool x.c.late, int i64 x.c.script, slice x.w.vs.a x.w.vs.n x.w.vs.cap, slice x.w.vt.a x.w.vt.n x.w.vt.cap, slice x.w.vb.a x.w.vb.n x.w.vb.cap, slice x.w.vd.a x.w.vd.n x.w.vd.cap, slice x.w.vi.a x.w.vi.n x.w.vi.cap, slice x_5.rA.a x_5.rA.n x_5.rA.cap, slice (some ⟨x_5.bk, 0, none⟩) x.w.vs.n x.w.vs.n] 87), (3, x_5.rA.A), (4, Atom.cells x_5.bk (rvs x_5.rsK) 29), (5, Atom.pred (rest (ofL (List.map Row.A x_5.rsK)) [])), (6, Atom.cells x_5.ba (rvs x_5.rsA) 29), (7, Atom.pred (rest (ofL (List.map Row.A x_5.rsA)) [])),
 (8, x_5.G), (9030, Atom.cells b [string s, int i64 n, int i64 n_1, slice a l c, int i64 n_2, slice a_1 l_1 c_1, slice a_2 l_2 c_2, slice a_3 l_3 c_3, slice a_4 l_4 c_4, slice a_5 l_5 c_5, int i64 n_3, slice a_6 l_6 c_6, string s_1] 61), (10010, Atom.cells y (zeros [bool false] x_7.c.toNat) 4)])
 (Same ⟨b, 2, none⟩ b ∧
 Br (decide (n_1 ≥ (↑x_5.k : Int)))
 (Done newC x F (Ending.returned (tuple { toList := [pointer none, int i64 (140 : Int)] }))
 [(0, F), (1, Atom.cells x_5.b1 [string x.c.name, bool x.c.late, int i64 x.c.script, slice x.w.vs.a x.w.vs.n x.w.vs.cap, slice x.w.vt.a x.w.vt.n x.w.vt.cap, slice x.w.vb.a x.w.vb.n x.w.vb.cap, slice x.w.vd.a x.w.vd.n x.w.vd.cap, slice x.w.vi.a x.w.vi.n x.w.vi.cap] 28),
 (2, Atom.cells x_5.b5 [string x.c.name, bool x.c.late, int i64 x.c.script, slice x.w.vs.a x.w.vs.n x.w.vs.cap, slice x.w.vt.a x.w.vt.n x.w.vt.cap, slice x.w.vb.a x.w.vb.n x.w.vb.cap, slice x.w.vd.a x.w.vd.n x.w.vd.cap, slice x.w.vi.a x.w.vi.n x.w.vi.cap, slice x_5.rA.a x_5.rA.n x_5.rA.cap, slice (some ⟨x_5.bk, 0, none⟩) x.w.vs.n x.w.vs.n] 87), (3, x_5.rA.A), (4, Atom.cells x_5.bk (rvs x_5.rsK) 29), (5, Atom.pred (rest (ofL (List.map Row.A x_5.rsK)) [])), (6, Atom.cells x_5.ba (rvs x_5.rsA) 29), (7, Atom.pred (rest (ofL (List.map Row.A x_5.rsA)) [])),
 (8, x_5.G), (9030, Atom.cells b [string s, int i64 n, int i64 n_1, slice a l c, int i64 n_2, slice a_1 l_1 c_1, slice a_2 l_2 c_2, slice a_3 l_3 c_3, slice a_4 l_4 c_4, slice a_5 l_5 c_5, int i64 n_3, slice a_6 l_6 c_6, string s_1] 61), (10010, Atom.cells y (zeros [bool false] x_7.c.toNat) 4)])
 (Same ⟨x_5.b1, 3, none⟩ x_5.b1 ∧
 Same ⟨b, 2, none⟩ b ∧
 QOpOk Try.prog (opIn Try.f14 11 24) (ixQ 13) ∧
 ∃ (x_8 : IxQX),
 [slice x.w.vs.a x.w.vs.n x.w.vs.cap, int i64 n_1] = [slice (some ⟨x_8.b, x_8.o, none⟩) x_8.len x_8.cap, int i64 x_8.n] ∧
 ((0 : Int) ≤ x_8.n ∧ x_8.n < (↑x_8.len : Int)) ∧
 ∃ (n_5 : Int),
 Look F ⟨x_8.b, x_8.o + x_8.n.toNat * 13 + 1, none⟩ (int i64 n_5) ∧
 Br (decide (n_5 > (2 : Int)))
 (Done newC x F (Ending.returned (tuple { toList := [pointer none, int i64 (140 : Int)] }))
 [(0, F), (1, Atom.cells x_5.b1 [string x.c.name, bool x.c.late, int i64 x.c.script, slice x.w.vs.a x.w.vs.n x.w.vs.cap, slice x.w.vt.a x.w.vt.n x.w.vt.cap, slice x.w.vb.a x.w.vb.n x.w.vb.cap, slice x.w.vd.a x.w.vd.n x.w.vd.cap, slice x.w.vi.a x.w.vi.n x.w.vi.cap] 28),
 (2, Atom.cells x_5.b5 [string x.c.name, bool x.c.late, int i64 x.c.script, slice x.w.vs.a x.w.vs.n x.w.vs.cap, slice x.w.vt.a x.w.vt.n x.w.vt.cap, slice x.w.vb.a x.w.vb.n x.w.vb.cap, slice x.w.vd.a x.w.vd.n x.w.vd.cap, slice x.w.vi.a x.w.vi.n x.w.vi.cap, slice x_5.rA.a x_5.rA.n x_5.rA.cap, slice (some ⟨x_5.bk, 0, none⟩) x.w.vs.n x.w.vs.n] 87), (3, x_5.rA.A), (4, Atom.cells x_5.bk (rvs x_5.rsK) 29), (5, Atom.pred (rest (ofL (List.map Row.A x_5.rsK)) [])), (6, Atom.cells x_5.ba (rvs x_5.rsA) 29),
 (7, Atom.pred (rest (ofL (List.map Row.A x_5.rsA)) [])), (8, x_5.G), (9030, Atom.cells b [string s, int i64 n, int i64 n_1, slice a l c, int i64 n_2, slice a_1 l_1 c_1, slice a_2 l_2 c_2, slice a_3 l_3 c_3, slice a_4 l_4 c_4, slice a_5 l_5 c_5, int i64 n_3, slice a_6 l_6 c_6, string s_1] 61), (10010, Atom.cells y (zeros [bool false] x_7.c.toNat) 4)])
 (true = true ∧
 Same ⟨x_5.b5, 8, none⟩ x_5.b5 ∧
 Same ⟨b, 2, none⟩ b ∧
 QOpOk Try.prog (opIn Try.f14 13 7) (ixQ 1) ∧
 ∃ (x_9 : IxQX),
 [slice x_5.rA.a x_5.rA.n x_5.rA.cap, int i64 n_1] = [slice (some ⟨x_9.b, x_9.o, none⟩) x_9.len x_9.cap, int i64 x_9.n] ∧
 ((0 : Int) ≤ x_9.n ∧ x_9.n < (↑x_9.len : Int)) ∧
 ∃ (a_8 : Option Addr),
 ∃ (l_7 : Nat),
 ∃ (c_7 : Nat),
 Look x_5.rA.A ⟨x_9.b, x_9.o + x_9.n.toNat * 1, none⟩ (slice a_8 l_7 c_7) ∧
 OpOk Try.prog (opIn Try.f14 13 9) (cpC 1) ∧
 true = true ∧
 ∃ (x_10 : CpX),
 [slice (some ⟨y, 0, none⟩) x_7.n.toNat x_7.c.toNat, slice a_8 l_7 c_7] = [slice (some ⟨x_10.b, x_10.o, none⟩) x_10.dl x_10.dc, slice x_10.a x_10.sl x_10.sc] ∧
 [Atom.cells y (zeros [bool false] x_7.c.toNat) 4] = [Atom.cells x_10.b x_10.vs x_10.t] ∧
 (x_10.ys.length = (if x_10.sl ≤ x_10.dl then x_10.sl else x_10.dl) * 1 ∧ x_10.o + x_10.ys.length ≤ x_10.vs.length ∧ (∀ (u : Value), u ∈ x_10.ys → u.oneCell' = true) ∧ (x_10.a = none → x_10.ys = []) ∧ (x_10.own = true → ∃ (o2 : Nat), x_10.a = some ⟨x_10.b, o2, none⟩ ∧ ∀ (j : Nat) (u : Value), x_10.ys[j]? = some u → x_10.vs[o2 + j]? = some u)) ∧
 (x_10.own = false →
 ∀ (a_10 : Addr),
 x_10.a = some a_10 →
 Seg
 (Atom.pred
 (rest
 [(0, F), (1, Atom.cells x_5.b1 [string x.c.name, bool x.c.late, int i64 x.c.script, slice x.w.vs.a x.w.vs.n x.w.vs.cap, slice x.w.vt.a x.w.vt.n x.w.vt.cap, slice x.w.vb.a x.w.vb.n x.w.vb.cap, slice x.w.vd.a x.w.vd.n x.w.vd.cap, slice x.w.vi.a x.w.vi.n x.w.vi.cap] 28),
 (2, Atom.cells x_5.b5 [string x.c.name, bool x.c.late, int i64 x.c.script, slice x.w.vs.a x.w.vs.n x.w.vs.cap, slice x.w.vt.a x.w.vt.n x.w.vt.cap, slice x.w.vb.a x.w.vb.n x.w.vb.cap, slice x.w.vd.a x.w.vd.n x.w.vd.cap, slice x.w.vi.a x.w.vi.n x.w.vi.cap, slice x_5.rA.a x_5.rA.n x_5.rA.cap, slice (some ⟨x_5.bk, 0, none⟩) x.w.vs.n x.w.vs.n] 87), (3, x_5.rA.A), (4, Atom.cells x_5.bk (rvs x_5.rsK) 29), (5, Atom.pred (rest (ofL (List.map Row.A x_5.rsK)) [])), (6, Atom.cells x_5.ba (rvs x_5.rsA) 29),
 (7, Atom.pred (rest (ofL (List.map Row.A x_5.rsA)) [])), (8, x_5.G), (9030, Atom.cells b [string s, int i64 n, int i64 n_1, slice a l c, int i64 n_2, slice a_1 l_1 c_1, slice a_2 l_2 c_2, slice a_3 l_3 c_3, slice a_4 l_4 c_4, slice a_5 l_5 c_5, int i64 n_3, slice a_6 l_6 c_6, string s_1] 61), (10010, Atom.cells y (zeros [bool false] x_7.c.toNat) 4)]
 [10010]))
 a_10 x_10.ys) ∧
 ∀ (y_2 : Unit),
 True →
 Same ⟨b, 2, none⟩ b ∧
 ((0 : Int) ≤ n_1 ∧ n_1 < (↑x_7.n.toNat : Int)) ∧
 (Same ⟨y, 0 + n_1.toNat * 1, none⟩ x_10.b ∧ 0 + n_1.toNat * 1 < (List.take x_10.o x_10.vs ++ x_10.ys ++ List.drop (x_10.o + x_10.ys.length) x_10.vs).length) ∧
 true = true ∧
 Same ⟨b, 2, none⟩ b ∧
 Same ⟨b, 2, none⟩ b ∧
 ((0 : Int) ≤ n_1 ∧ n_1 < (↑x.w.vs.n : Int)) ∧
 ∃ (a_10 : Option Addr),
 ∃ (l_8 : Nat),
 ∃ (c_8 : Nat),
 Look (Atom.cells x_5.ba (rvs x_5.rsA) 29) ⟨x_5.ba, 0 + n_1.toNat * 1, none⟩ (slice a_10 l_8 c_8) ∧
 ∀ (b_2 : Nat),
 OpOk Try.prog (opIn Try.f14 15 10) (apG (3 : TypeId) 1 8) ∧
 true = true ∧
 ∃ (x_11 : ApFX),
 [slice a_10 l_8 c_8, slice (some ⟨b_2, 0, none⟩) 1 1] = [slice x_11.r.a x_11.r.n x_11.r.cap, slice x_11.a x_11.m x_11.c] ∧
 [Atom.pred (rest (ofL (List.map Row.A x_5.rsA)) [])] = [Atom.pred (rest (ofL (List.map Row.A x_11.rs)) [])] ∧
 (x_11.rs[x_11.p]? = some x_11.r ∧ IsRow 3 1 x_11.cs x_11.r ∧ x_11.ys.length = x_11.m * 1 ∧ (∀ (u : Value), u ∈ x_11.ys → u.oneCell' = true) ∧ (x_11.r.n + x_11.m) * 8 ≤ 140737488355328 ∧ x_11.r.n + x_11.m ≤ 9223372036854775807 ∧ (x_11.a = none → x_11.m = 0 ∧ x_11.c = 0)) ∧
 (∀ (a_11 : Addr),
 x_11.a = some a_11 →
 Seg
 (Atom.pred
 (rest
 [(0, F), (1, Atom.cells x_5.b1 [string x.c.name, bool x.c.late, int i64 x.c.script, slice x.w.vs.a x.w.vs.n x.w.vs.cap, slice x.w.vt.a x.w.vt.n x.w.vt.cap, slice x.w.vb.a x.w.vb.n x.w.vb.cap, slice x.w.vd.a x.w.vd.n x.w.vd.cap, slice x.w.vi.a x.w.vi.n x.w.vi.cap] 28),
 (2, Atom.cells x_5.b5 [string x.c.name, bool x.c.late, int i64 x.c.script, slice x.w.vs.a x.w.vs.n x.w.vs.cap, slice x.w.vt.a x.w.vt.n x.w.vt.cap, slice x.w.vb.a x.w.vb.n x.w.vb.cap, slice x.w.vd.a x.w.vd.n x.w.vd.cap, slice x.w.vi.a x.w.vi.n x.w.vi.cap, slice x_5.rA.a x_5.rA.n x_5.rA.cap, slice (some ⟨x_5.bk, 0, none⟩) x.w.vs.n x.w.vs.n] 87), (3, x_5.rA.A), (4, Atom.cells x_5.bk (rvs x_5.rsK) 29), (5, Atom.pred (rest (ofL (List.map Row.A x_5.rsK)) [])),
 (6, Atom.cells x_5.ba (rvs x_5.rsA) 29), (7, Atom.pred (rest (ofL (List.map Row.A x_5.rsA)) [])), (8, x_5.G), (9030, Atom.cells b [string s, int i64 n, int i64 n_1, slice a l c, int i64 n_2, slice a_1 l_1 c_1, slice a_2 l_2 c_2, slice a_3 l_3 c_3, slice a_4 l_4 c_4, slice a_5 l_5 c_5, int i64 n_3, slice a_6 l_6 c_6, string s_1] 61),
 (10010, Atom.cells x_10.b ((List.take x_10.o x_10.vs ++ x_10.ys ++ List.drop (x_10.o + x_10.ys.length) x_10.vs).set (0 + n_1.toNat * 1) (bool true)) x_10.t), (16090, Atom.cells b_2 [int i64 (↑x_5.k : Int)] 3)]
 [7]))
 a_11 x_11.ys) ∧
 ∀ (y_3 : Row),
 IsRow 3 1 (x_11.cs ++ x_11.ys) y_3 ∧ y_3.n = x_11.r.n + x_11.m ∧ (x_11.m = 0 → y_3 = x_11.r) →
 ((0 : Int) ≤ n_1 ∧ n_1 < (↑x.w.vs.n : Int)) ∧
 (Same ⟨x_5.ba, 0 + n_1.toNat * 1, none⟩ x_5.ba ∧ 0 + n_1.toNat * 1 < (rvs x_5.rsA).length) ∧
 Same ⟨b, 1, none⟩ b ∧
 Br (decide (n < (4 : Int)))
 (true = true ∧
 Same ⟨x_5.b5, 9, none⟩ x_5.b5 ∧
 Same ⟨b, 2, none⟩ b ∧
 Same ⟨x_5.b5, 9, none⟩ x_5.b5 ∧
 Same ⟨b, 2, none⟩ b ∧
 ((0 : Int) ≤ n_1 ∧ n_1 < (↑x.w.vs.n : Int)) ∧
 ∃ (a_12 : Option Addr),
 ∃ (l_9 : Nat),
 ∃ (c_9 : Nat),
 Look (Atom.cells x_5.bk (rvs x_5.rsK) 29) ⟨x_5.bk, 0 + n_1.toNat * 1, none⟩ (slice a_12 l_9 c_9) ∧
 ∀ (b_3 : Nat),
 OpOk Try.prog (opIn Try.f14 17 16) (apG (3 : TypeId) 1 8) ∧
 true = true ∧
 ∃ (x_12 : ApFX),
 [slice a_12 l_9 c_9, slice (some ⟨b_3, 0, none⟩) 1 1] = [slice x_12.r.a x_12.r.n x_12.r.cap, slice x_12.a x_12.m x_12.c] ∧
 [Atom.pred (rest (ofL (List.map Row.A x_5.rsK)) [])] = [Atom.pred (rest (ofL (List.map Row.A x_12.rs)) [])] ∧
 (x_12.rs[x_12.p]? = some x_12.r ∧ IsRow 3 1 x_12.cs x_12.r ∧ x_12.ys.length = x_12.m * 1 ∧ (∀ (u : Value), u ∈ x_12.ys → u.oneCell' = true) ∧ (x_12.r.n + x_12.m) * 8 ≤ 140737488355328 ∧ x_12.r.n + x_12.m ≤ 9223372036854775807 ∧ (x_12.a = none → x_12.m = 0 ∧ x_12.c = 0)) ∧
 (∀ (a_13 : Addr),
 x_12.a = some a_13 →
 Seg
 (Atom.pred
 (rest
 [(0, F), (1, Atom.cells x_5.b1 [string x.c.name, bool x.c.late, int i64 x.c.script, slice x.w.vs.a x.w.vs.n x.w.vs.cap, slice x.w.vt.a x.w.vt.n x.w.vt.cap, slice x.w.vb.a x.w.vb.n x.w.vb.cap, slice x.w.vd.a x.w.vd.n x.w.vd.cap, slice x.w.vi.a x.w.vi.n x.w.vi.cap] 28),
 (2, Atom.cells x_5.b5 [string x.c.name, bool x.c.late, int i64 x.c.script, slice x.w.vs.a x.w.vs.n x.w.vs.cap, slice x.w.vt.a x.w.vt.n x.w.vt.cap, slice x.w.vb.a x.w.vb.n x.w.vb.cap, slice x.w.vd.a x.w.vd.n x.w.vd.cap, slice x.w.vi.a x.w.vi.n x.w.vi.cap, slice x_5.rA.a x_5.rA.n x_5.rA.cap, slice (some ⟨x_5.bk, 0, none⟩) x.w.vs.n x.w.vs.n] 87), (3, x_5.rA.A), (4, Atom.cells x_5.bk (rvs x_5.rsK) 29),
 (5, Atom.pred (rest (ofL (List.map Row.A x_5.rsK)) [])), (6, Atom.cells x_5.ba ((rvs x_5.rsA).set (0 + n_1.toNat * 1) (slice y_3.a y_3.n y_3.cap)) 29), (7, Atom.pred (rest (ofL (List.map Row.A (x_11.rs.set x_11.p y_3))) [])), (8, x_5.G),
 (9030, Atom.cells b [string s, int i64 n, int i64 n_1, slice a l c, int i64 n_2, slice a_1 l_1 c_1, slice a_2 l_2 c_2, slice a_3 l_3 c_3, slice a_4 l_4 c_4, slice a_5 l_5 c_5, int i64 n_3, slice a_6 l_6 c_6, string s_1] 61), (10010, Atom.cells x_10.b ((List.take x_10.o x_10.vs ++ x_10.ys ++ List.drop (x_10.o + x_10.ys.length) x_10.vs).set (0 + n_1.toNat * 1) (bool true)) x_10.t),
 (16090, Atom.cells b_2 [int i64 (↑x_5.k : Int)] 3), (18150, Atom.cells b_3 [int i64 (↑x_5.k : Int)] 3)]
 [5]))
 a_13 x_12.ys) ∧
 ∀ (y_4 : Row),
 IsRow 3 1 (x_12.cs ++ x_12.ys) y_4 ∧ y_4.n = x_12.r.n + x_12.m ∧ (x_12.m = 0 → y_4 = x_12.r) →
 ((0 : Int) ≤ n_1 ∧ n_1 < (↑x.w.vs.n : Int)) ∧
 (Same ⟨x_5.bk, 0 + n_1.toNat * 1, none⟩ x_5.bk ∧ 0 + n_1.toNat * 1 < (rvs x_5.rsK).length) ∧
 ∃ (x_13 : NwI),
 ((x_13.k < nS x.c ∧ NwA x.c x_13.k x_13.rA x_13.abv x_13.G ∧ NwK x.c (4 : Int) (x_13.k + 1) x_13.rsK ∧ NwK x.c (6 : Int) (x_13.k + 1) x_13.rsA ∧ (rowN x.c (rowsT x.c x_13.k) x_13.k).length = nS x.c ∧ (0 < x_13.k → stB x.c x_13.k = true)) ∧ x_13.k = n_4) ∧
 (pointer (some ⟨x_5.b1, 0, none⟩) = pointer (some ⟨x_13.b1, 0, none⟩) ∧
 int i64 (↑x.w.vs.n : Int) = int i64 (↑x.w.vs.n : Int) ∧
 pointer (some ⟨x_5.b5, 0, none⟩) = pointer (some ⟨x_13.b5, 0, none⟩) ∧
 slice (some ⟨x_5.ba, 0, none⟩) x.w.vs.n x.w.vs.n = slice (some ⟨x_13.ba, 0, none⟩) x.w.vs.n x.w.vs.n ∧
 int i64 (↑x_5.k : Int) = int i64 (↑x_13.k : Int) ∧ slice (some ⟨y, 0, none⟩) x_7.n.toNat x_7.c.toNat = slice (some ⟨x_13.b9, 0, none⟩) x.w.vs.n x.w.vs.n ∧ slice x.w.vs.a x.w.vs.n x.w.vs.cap = slice x.w.vs.a x.w.vs.n x.w.vs.cap ∧ int i64 (↑x.w.vs.n : Int) = int i64 (↑x.w.vs.n : Int) ∧ int i64 (↑x_5.k : Int) = int i64 (↑x_13.k : Int) ∧ True) ∧
 Ent
 [(0, F), (1, Atom.cells x_5.b1 [string x.c.name, bool x.c.late, int i64 x.c.script, slice x.w.vs.a x.w.vs.n x.w.vs.cap, slice x.w.vt.a x.w.vt.n x.w.vt.cap, slice x.w.vb.a x.w.vb.n x.w.vb.cap, slice x.w.vd.a x.w.vd.n x.w.vd.cap, slice x.w.vi.a x.w.vi.n x.w.vi.cap] 28),
 (2, Atom.cells x_5.b5 [string x.c.name, bool x.c.late, int i64 x.c.script, slice x.w.vs.a x.w.vs.n x.w.vs.cap, slice x.w.vt.a x.w.vt.n x.w.vt.cap, slice x.w.vb.a x.w.vb.n x.w.vb.cap, slice x.w.vd.a x.w.vd.n x.w.vd.cap, slice x.w.vi.a x.w.vi.n x.w.vi.cap, slice x_5.rA.a x_5.rA.n x_5.rA.cap, slice (some ⟨x_5.bk, 0, none⟩) x.w.vs.n x.w.vs.n] 87), (3, x_5.rA.A),
 (4, Atom.cells x_5.bk ((rvs x_5.rsK).set (0 + n_1.toNat * 1) (slice y_4.a y_4.n y_4.cap)) 29), (5, Atom.pred (rest (ofL (List.map Row.A (x_12.rs.set x_12.p y_4))) [])), (6, Atom.cells x_5.ba ((rvs x_5.rsA).set (0 + n_1.toNat * 1) (slice y_3.a y_3.n y_3.cap)) 29), (7, Atom.pred (rest (ofL (List.map Row.A (x_11.rs.set x_11.p y_3))) [])), (8, x_5.G),
 (9030, Atom.cells b [string s, int i64 n, int i64 n_1, slice a l c, int i64 n_2, slice a_1 l_1 c_1, slice a_2 l_2 c_2, slice a_3 l_3 c_3, slice a_4 l_4 c_4, slice a_5 l_5 c_5, int i64 n_3, slice a_6 l_6 c_6, string s_1] 61), (10010, Atom.cells x_10.b ((List.take x_10.o x_10.vs ++ x_10.ys ++ List.drop (x_10.o + x_10.ys.length) x_10.vs).set (0 + n_1.toNat * 1) (bool true)) x_10.t),
 (16090, Atom.cells b_2 [int i64 (↑x_5.k : Int)] 3), (18150, Atom.cells b_3 [int i64 (↑x_5.k : Int)] 3)]
 [(0, F), (1, Atom.cells x_13.b1 [string x.c.name, bool x.c.late, int i64 x.c.script, slice x.w.vs.a x.w.vs.n x.w.vs.cap, slice x.w.vt.a x.w.vt.n x.w.vt.cap, slice x.w.vb.a x.w.vb.n x.w.vb.cap, slice x.w.vd.a x.w.vd.n x.w.vd.cap, slice x.w.vi.a x.w.vi.n x.w.vi.cap] 28),
 (2, Atom.cells x_13.b5 [string x.c.name, bool x.c.late, int i64 x.c.script, slice x.w.vs.a x.w.vs.n x.w.vs.cap, slice x.w.vt.a x.w.vt.n x.w.vt.cap, slice x.w.vb.a x.w.vb.n x.w.vb.cap, slice x.w.vd.a x.w.vd.n x.w.vd.cap, slice x.w.vi.a x.w.vi.n x.w.vi.cap, slice x_13.rA.a x_13.rA.n x_13.rA.cap, slice (some ⟨x_13.bk, 0, none⟩) x.w.vs.n x.w.vs.n] 87), (3, x_13.rA.A), (4, Atom.cells x_13.bk (rvs x_13.rsK) 29),
 (5, Atom.pred (rest (ofL (List.map Row.A x_13.rsK)) [])), (6, Atom.cells x_13.ba (rvs x_13.rsA) 29), (7, Atom.pred (rest (ofL (List.map Row.A x_13.rsA)) [])), (8, x_13.G), (9, Atom.cells x_13.b9 (bls (rowN x.c (rowsT x.c x_13.k) x_13.k)) 4)])
 (∃ (x_12 : NwI),
 ((x_12.k < nS x.c ∧ NwA x.c x_12.k x_12.rA x_12.abv x_12.G ∧ NwK x.c (4 : Int) (x_12.k + 1) x_12.rsK ∧ NwK x.c (6 : Int) (x_12.k + 1) x_12.rsA ∧ (rowN x.c (rowsT x.c x_12.k) x_12.k).length = nS x.c ∧ (0 < x_12.k → stB x.c x_12.k = true)) ∧ x_12.k = n_4) ∧
 (pointer (some ⟨x_5.b1, 0, none⟩) = pointer (some ⟨x_12.b1, 0, none⟩) ∧
 int i64 (↑x.w.vs.n : Int) = int i64 (↑x.w.vs.n : Int) ∧
 pointer (some ⟨x_5.b5, 0, none⟩) = pointer (some ⟨x_12.b5, 0, none⟩) ∧
 slice (some ⟨x_5.ba, 0, none⟩) x.w.vs.n x.w.vs.n = slice (some ⟨x_12.ba, 0, none⟩) x.w.vs.n x.w.vs.n ∧
 int i64 (↑x_5.k : Int) = int i64 (↑x_12.k : Int) ∧ slice (some ⟨y, 0, none⟩) x_7.n.toNat x_7.c.toNat = slice (some ⟨x_12.b9, 0, none⟩) x.w.vs.n x.w.vs.n ∧ slice x.w.vs.a x.w.vs.n x.w.vs.cap = slice x.w.vs.a x.w.vs.n x.w.vs.cap ∧ int i64 (↑x.w.vs.n : Int) = int i64 (↑x.w.vs.n : Int) ∧ int i64 (↑x_5.k : Int) = int i64 (↑x_12.k : Int) ∧ True) ∧
 Ent
 [(0, F), (1, Atom.cells x_5.b1 [string x.c.name, bool x.c.late, int i64 x.c.script, slice x.w.vs.a x.w.vs.n x.w.vs.cap, slice x.w.vt.a x.w.vt.n x.w.vt.cap, slice x.w.vb.a x.w.vb.n x.w.vb.cap, slice x.w.vd.a x.w.vd.n x.w.vd.cap, slice x.w.vi.a x.w.vi.n x.w.vi.cap] 28),
 (2, Atom.cells x_5.b5 [string x.c.name, bool x.c.late, int i64 x.c.script, slice x.w.vs.a x.w.vs.n x.w.vs.cap, slice x.w.vt.a x.w.vt.n x.w.vt.cap, slice x.w.vb.a x.w.vb.n x.w.vb.cap, slice x.w.vd.a x.w.vd.n x.w.vd.cap, slice x.w.vi.a x.w.vi.n x.w.vi.cap, slice x_5.rA.a x_5.rA.n x_5.rA.cap, slice (some ⟨x_5.bk, 0, none⟩) x.w.vs.n x.w.vs.n] 87), (3, x_5.rA.A), (4, Atom.cells x_5.bk (rvs x_5.rsK) 29), (5, Atom.pred (rest (ofL (List.map Row.A x_5.rsK)) [])),
 (6, Atom.cells x_5.ba ((rvs x_5.rsA).set (0 + n_1.toNat * 1) (slice y_3.a y_3.n y_3.cap)) 29), (7, Atom.pred (rest (ofL (List.map Row.A (x_11.rs.set x_11.p y_3))) [])), (8, x_5.G), (9030, Atom.cells b [string s, int i64 n, int i64 n_1, slice a l c, int i64 n_2, slice a_1 l_1 c_1, slice a_2 l_2 c_2, slice a_3 l_3 c_3, slice a_4 l_4 c_4, slice a_5 l_5 c_5, int i64 n_3, slice a_6 l_6 c_6, string s_1] 61),
 (10010, Atom.cells x_10.b ((List.take x_10.o x_10.vs ++ x_10.ys ++ List.drop (x_10.o + x_10.ys.length) x_10.vs).set (0 + n_1.toNat * 1) (bool true)) x_10.t), (16090, Atom.cells b_2 [int i64 (↑x_5.k : Int)] 3)]
 [(0, F), (1, Atom.cells x_12.b1 [string x.c.name, bool x.c.late, int i64 x.c.script, slice x.w.vs.a x.w.vs.n x.w.vs.cap, slice x.w.vt.a x.w.vt.n x.w.vt.cap, slice x.w.vb.a x.w.vb.n x.w.vb.cap, slice x.w.vd.a x.w.vd.n x.w.vd.cap, slice x.w.vi.a x.w.vi.n x.w.vi.cap] 28),
 (2, Atom.cells x_12.b5 [string x.c.name, bool x.c.late, int i64 x.c.script, slice x.w.vs.a x.w.vs.n x.w.vs.cap, slice x.w.vt.a x.w.vt.n x.w.vt.cap, slice x.w.vb.a x.w.vb.n x.w.vb.cap, slice x.w.vd.a x.w.vd.n x.w.vd.cap, slice x.w.vi.a x.w.vi.n x.w.vi.cap, slice x_12.rA.a x_12.rA.n x_12.rA.cap, slice (some ⟨x_12.bk, 0, none⟩) x.w.vs.n x.w.vs.n] 87), (3, x_12.rA.A), (4, Atom.cells x_12.bk (rvs x_12.rsK) 29), (5, Atom.pred (rest (ofL (List.map Row.A x_12.rsK)) [])),
 (6, Atom.cells x_12.ba (rvs x_12.rsA) 29), (7, Atom.pred (rest (ofL (List.map Row.A x_12.rsA)) [])), (8, x_12.G), (9, Atom.cells x_12.b9 (bls (rowN x.c (rowsT x.c x_12.k) x_12.k)) 4)])))))))
 (∃ (x_8 : NwI),
 ((x_8.k < nS x.c ∧ NwA x.c x_8.k x_8.rA x_8.abv x_8.G ∧ NwK x.c (4 : Int) (x_8.k + 1) x_8.rsK ∧ NwK x.c (6 : Int) (x_8.k + 1) x_8.rsA ∧ (rowN x.c (rowsT x.c x_8.k) x_8.k).length = nS x.c ∧ (0 < x_8.k → stB x.c x_8.k = true)) ∧ x_8.k = n_4) ∧
 (pointer (some ⟨x_5.b1, 0, none⟩) = pointer (some ⟨x_8.b1, 0, none⟩) ∧
 int i64 (↑x.w.vs.n : Int) = int i64 (↑x.w.vs.n : Int) ∧
 pointer (some ⟨x_5.b5, 0, none⟩) = pointer (some ⟨x_8.b5, 0, none⟩) ∧
 slice (some ⟨x_5.ba, 0, none⟩) x.w.vs.n x.w.vs.n = slice (some ⟨x_8.ba, 0, none⟩) x.w.vs.n x.w.vs.n ∧ int i64 (↑x_5.k : Int) = int i64 (↑x_8.k : Int) ∧ slice (some ⟨y, 0, none⟩) x_7.n.toNat x_7.c.toNat = slice (some ⟨x_8.b9, 0, none⟩) x.w.vs.n x.w.vs.n ∧ slice x.w.vs.a x.w.vs.n x.w.vs.cap = slice x.w.vs.a x.w.vs.n x.w.vs.cap ∧ int i64 (↑x.w.vs.n : Int) = int i64 (↑x.w.vs.n : Int) ∧ int i64 (↑x_5.k : Int) = int i64 (↑x_8.k : Int) ∧ True) ∧
 Ent
 [(0, F), (1, Atom.cells x_5.b1 [string x.c.name, bool x.c.late, int i64 x.c.script, slice x.w.vs.a x.w.vs.n x.w.vs.cap, slice x.w.vt.a x.w.vt.n x.w.vt.cap, slice x.w.vb.a x.w.vb.n x.w.vb.cap, slice x.w.vd.a x.w.vd.n x.w.vd.cap, slice x.w.vi.a x.w.vi.n x.w.vi.cap] 28),
 (2, Atom.cells x_5.b5 [string x.c.name, bool x.c.late, int i64 x.c.script, slice x.w.vs.a x.w.vs.n x.w.vs.cap, slice x.w.vt.a x.w.vt.n x.w.vt.cap, slice x.w.vb.a x.w.vb.n x.w.vb.cap, slice x.w.vd.a x.w.vd.n x.w.vd.cap, slice x.w.vi.a x.w.vi.n x.w.vi.cap, slice x_5.rA.a x_5.rA.n x_5.rA.cap, slice (some ⟨x_5.bk, 0, none⟩) x.w.vs.n x.w.vs.n] 87), (3, x_5.rA.A), (4, Atom.cells x_5.bk (rvs x_5.rsK) 29), (5, Atom.pred (rest (ofL (List.map Row.A x_5.rsK)) [])), (6, Atom.cells x_5.ba (rvs x_5.rsA) 29), (7, Atom.pred (rest (ofL (List.map Row.A x_5.rsA)) [])), (8, x_5.G),
 (9030, Atom.cells b [string s, int i64 n, int i64 n_1, slice a l c, int i64 n_2, slice a_1 l_1 c_1, slice a_2 l_2 c_2, slice a_3 l_3 c_3, slice a_4 l_4 c_4, slice a_5 l_5 c_5, int i64 n_3, slice a_6 l_6 c_6, string s_1] 61), (10010, Atom.cells y (zeros [bool false] x_7.c.toNat) 4)]
 [(0, F), (1, Atom.cells x_8.b1 [string x.c.name, bool x.c.late, int i64 x.c.script, slice x.w.vs.a x.w.vs.n x.w.vs.cap, slice x.w.vt.a x.w.vt.n x.w.vt.cap, slice x.w.vb.a x.w.vb.n x.w.vb.cap, slice x.w.vd.a x.w.vd.n x.w.vd.cap, slice x.w.vi.a x.w.vi.n x.w.vi.cap] 28),
 (2, Atom.cells x_8.b5 [string x.c.name, bool x.c.late, int i64 x.c.script, slice x.w.vs.a x.w.vs.n x.w.vs.cap, slice x.w.vt.a x.w.vt.n x.w.vt.cap, slice x.w.vb.a x.w.vb.n x.w.vb.cap, slice x.w.vd.a x.w.vd.n x.w.vd.cap, slice x.w.vi.a x.w.vi.n x.w.vi.cap, slice x_8.rA.a x_8.rA.n x_8.rA.cap, slice (some ⟨x_8.bk, 0, none⟩) x.w.vs.n x.w.vs.n] 87), (3, x_8.rA.A), (4, Atom.cells x_8.bk (rvs x_8.rsK) 29), (5, Atom.pred (rest (ofL (List.map Row.A x_8.rsK)) [])), (6, Atom.cells x_8.ba (rvs x_8.rsA) 29), (7, Atom.pred (rest (ofL (List.map Row.A x_8.rsA)) [])), (8, x_8.G),
 (9, Atom.cells x_8.b9 (bls (rowN x.c (rowsT x.c x_8.k) x_8.k)) 4)]) ∧
 ∀ (x_8 : NwI) (js : Nat → Value),
 (x_8.k < nS x.c ∧ NwA x.c x_8.k x_8.rA x_8.abv x_8.G ∧ NwK x.c (4 : Int) (x_8.k + 1) x_8.rsK ∧ NwK x.c (6 : Int) (x_8.k + 1) x_8.rsA ∧ (rowN x.c (rowsT x.c x_8.k) x_8.k).length = nS x.c ∧ (0 < x_8.k → stB x.c x_8.k = true)) ∧ x_8.k = n_4 →
 Same ⟨x_8.b5, 8, none⟩ x_8.b5 ∧
 ∀ (b : Nat),
 OpOk Try.prog (opIn Try.f14 18 7) (apC (66 : TypeId) 1 24) ∧
 true = true ∧
 ∃ (x_9 : ApX),
 [slice x_8.rA.a x_8.rA.n x_8.rA.cap, slice (some ⟨b, 0, none⟩) 1 1] = [slice x_9.r.a x_9.r.n x_9.r.cap, slice x_9.a x_9.m x_9.c] ∧
 [x_8.rA.A] = [x_9.r.A] ∧
 (IsRow 66 1 x_9.cs x_9.r ∧ x_9.ys.length = x_9.m * 1 ∧ (∀ (u : Value), u ∈ x_9.ys → u.oneCell' = true) ∧ (x_9.r.n + x_9.m) * 24 ≤ 140737488355328 ∧ x_9.r.n + x_9.m ≤ 9223372036854775807 ∧ (x_9.a = none → x_9.m = 0 ∧ x_9.c = 0)) ∧
 (∀ (a : Addr),
 x_9.a = some a →
 Seg
 (Atom.pred
 (rest
 [(0, F), (1, Atom.cells x_8.b1 [string x.c.name, bool x.c.late, int i64 x.c.script, slice x.w.vs.a x.w.vs.n x.w.vs.cap, slice x.w.vt.a x.w.vt.n x.w.vt.cap, slice x.w.vb.a x.w.vb.n x.w.vb.cap, slice x.w.vd.a x.w.vd.n x.w.vd.cap, slice x.w.vi.a x.w.vi.n x.w.vi.cap] 28),
 (2, Atom.cells x_8.b5 [string x.c.name, bool x.c.late, int i64 x.c.script, slice x.w.vs.a x.w.vs.n x.w.vs.cap, slice x.w.vt.a x.w.vt.n x.w.vt.cap, slice x.w.vb.a x.w.vb.n x.w.vb.cap, slice x.w.vd.a x.w.vd.n x.w.vd.cap, slice x.w.vi.a x.w.vi.n x.w.vi.cap, slice x_8.rA.a x_8.rA.n x_8.rA.cap, slice (some ⟨x_8.bk, 0, none⟩) x.w.vs.n x.w.vs.n] 87), (3, x_8.rA.A), (4, Atom.cells x_8.bk (rvs x_8.rsK) 29), (5, Atom.pred (rest (ofL (List.map Row.A x_8.rsK)) [])), (6, Atom.cells x_8.ba (rvs x_8.rsA) 29), (7, Atom.pred (rest (ofL (List.map Row.A x_8.rsA)) [])),
 (8, x_8.G), (9, Atom.cells x_8.b9 (bls (rowN x.c (rowsT x.c x_8.k) x_8.k)) 4), (19060, Atom.cells b [slice (some ⟨x_8.b9, 0, none⟩) x.w.vs.n x.w.vs.n] 66)]
 [3]))
 a x_9.ys) ∧
 ∀ (y : Row),
 IsRow 66 1 (x_9.cs ++ x_9.ys) y ∧ y.n = x_9.r.n + x_9.m ∧ (x_9.m = 0 → y = x_9.r) →
 Same ⟨x_8.b5, 8, none⟩ x_8.b5 ∧
 ((-9223372036854775808 : Int) ≤ (↑x_8.k : Int) + (1 : Int) ∧ (↑x_8.k : Int) + (1 : Int) ≤ (9223372036854775807 : Int)) ∧
 ∃ (y_2 : NwI),
 (NwA x.c y_2.k y_2.rA y_2.abv y_2.G ∧ NwK x.c (4 : Int) y_2.k y_2.rsK ∧ NwK x.c (6 : Int) y_2.k y_2.rsA) ∧
 (pointer (some ⟨x_8.b1, 0, none⟩) = pointer (some ⟨y_2.b1, 0, none⟩) ∧
 int i64 (↑x.w.vs.n : Int) = int i64 (↑x.w.vs.n : Int) ∧ pointer (some ⟨x_8.b5, 0, none⟩) = pointer (some ⟨y_2.b5, 0, none⟩) ∧ slice (some ⟨x_8.ba, 0, none⟩) x.w.vs.n x.w.vs.n = slice (some ⟨y_2.ba, 0, none⟩) x.w.vs.n x.w.vs.n ∧ slice x.w.vs.a x.w.vs.n x.w.vs.cap = slice x.w.vs.a x.w.vs.n x.w.vs.cap ∧ int i64 (↑x.w.vs.n : Int) = int i64 (↑x.w.vs.n : Int) ∧ int i64 ((↑x_8.k : Int) + (1 : Int)) = int i64 (↑y_2.k : Int) ∧ True) ∧
 Ent
 [(0, F), (1, Atom.cells x_8.b1 [string x.c.name, bool x.c.late, int i64 x.c.script, slice x.w.vs.a x.w.vs.n x.w.vs.cap, slice x.w.vt.a x.w.vt.n x.w.vt.cap, slice x.w.vb.a x.w.vb.n x.w.vb.cap, slice x.w.vd.a x.w.vd.n x.w.vd.cap, slice x.w.vi.a x.w.vi.n x.w.vi.cap] 28),
 (2, Atom.cells x_8.b5 [string x.c.name, bool x.c.late, int i64 x.c.script, slice x.w.vs.a x.w.vs.n x.w.vs.cap, slice x.w.vt.a x.w.vt.n x.w.vt.cap, slice x.w.vb.a x.w.vb.n x.w.vb.cap, slice x.w.vd.a x.w.vd.n x.w.vd.cap, slice x.w.vi.a x.w.vi.n x.w.vi.cap, slice y.a y.n y.cap, slice (some ⟨x_8.bk, 0, none⟩) x.w.vs.n x.w.vs.n] 87), (3, y.A), (4, Atom.cells x_8.bk (rvs x_8.rsK) 29), (5, Atom.pred (rest (ofL (List.map Row.A x_8.rsK)) [])), (6, Atom.cells x_8.ba (rvs x_8.rsA) 29), (7, Atom.pred (rest (ofL (List.map Row.A x_8.rsA)) [])),
 (8, x_8.G), (9, Atom.cells x_8.b9 (bls (rowN x.c (rowsT x.c x_8.k) x_8.k)) 4), (19060, Atom.cells b [slice (some ⟨x_8.b9, 0, none⟩) x.w.vs.n x.w.vs.n] 66)]
 [(0, F), (1, Atom.cells y_2.b1 [string x.c.name, bool x.c.late, int i64 x.c.script, slice x.w.vs.a x.w.vs.n x.w.vs.cap, slice x.w.vt.a x.w.vt.n x.w.vt.cap, slice x.w.vb.a x.w.vb.n x.w.vb.cap, slice x.w.vd.a x.w.vd.n x.w.vd.cap, slice x.w.vi.a x.w.vi.n x.w.vi.cap] 28),
 (2, Atom.cells y_2.b5 [string x.c.name, bool x.c.late, int i64 x.c.script, slice x.w.vs.a x.w.vs.n x.w.vs.cap, slice x.w.vt.a x.w.vt.n x.w.vt.cap, slice x.w.vb.a x.w.vb.n x.w.vb.cap, slice x.w.vd.a x.w.vd.n x.w.vd.cap, slice x.w.vi.a x.w.vi.n x.w.vi.cap, slice y_2.rA.a y_2.rA.n y_2.rA.cap, slice (some ⟨y_2.bk, 0, none⟩) x.w.vs.n x.w.vs.n] 87), (3, y_2.rA.A), (4, Atom.cells y_2.bk (rvs y_2.rsK) 29), (5, Atom.pred (rest (ofL (List.map Row.A y_2.rsK)) [])), (6, Atom.cells y_2.ba (rvs y_2.rsA) 29),
 (7, Atom.pred (rest (ofL (List.map Row.A y_2.rsA)) [])), (8, y_2.G)] ∧
 x.w.vs.n - y_2.k < x.w.vs.n - x_5.k)
 (Same ⟨x_5.b1, 3, none⟩ x_5.b1 ∧
 (∃ (x_6 : NwI),
 (NwA x.c (nS x.c) x_6.rA x_6.abv x_6.G ∧ NwK x.c (4 : Int) (nS x.c) x_6.rsK ∧ NwK x.c (6 : Int) (nS x.c) x_6.rsA ∧ x_6.k ≤ nS x.c ∧ ∀ (j : Nat), j < x_6.k → kidAt x.c j = kidsA x.c j) ∧
 (pointer (some ⟨x_5.b1, 0, none⟩) = pointer (some ⟨x_6.b1, 0, none⟩) ∧ int i64 (↑x.w.vs.n : Int) = int i64 (↑x.w.vs.n : Int) ∧ pointer (some ⟨x_5.b5, 0, none⟩) = pointer (some ⟨x_6.b5, 0, none⟩) ∧ slice (some ⟨x_5.ba, 0, none⟩) x.w.vs.n x.w.vs.n = slice (some ⟨x_6.ba, 0, none⟩) x.w.vs.n x.w.vs.n ∧ slice x.w.vs.a x.w.vs.n x.w.vs.cap = slice x.w.vs.a x.w.vs.n x.w.vs.cap ∧ int i64 (↑x.w.vs.n : Int) = int i64 (↑x.w.vs.n : Int) ∧ int i64 (0 : Int) = int i64 (↑x_6.k : Int) ∧ True) ∧
 Ent
 [(0, F), (1, Atom.cells x_5.b1 [string x.c.name, bool x.c.late, int i64 x.c.script, slice x.w.vs.a x.w.vs.n x.w.vs.cap, slice x.w.vt.a x.w.vt.n x.w.vt.cap, slice x.w.vb.a x.w.vb.n x.w.vb.cap, slice x.w.vd.a x.w.vd.n x.w.vd.cap, slice x.w.vi.a x.w.vi.n x.w.vi.cap] 28), (2, Atom.cells x_5.b5 [string x.c.name, bool x.c.late, int i64 x.c.script, slice x.w.vs.a x.w.vs.n x.w.vs.cap, slice x.w.vt.a x.w.vt.n x.w.vt.cap, slice x.w.vb.a x.w.vb.n x.w.vb.cap, slice x.w.vd.a x.w.vd.n x.w.vd.cap, slice x.w.vi.a x.w.vi.n x.w.vi.cap, slice x_5.rA.a x_5.rA.n x_5.rA.cap, slice (some ⟨x_5.bk, 0, none⟩) x.w.vs.n x.w.vs.n] 87), (3, x_5.rA.A), (4, Atom.cells x_5.bk (rvs x_5.rsK) 29),
 (5, Atom.pred (rest (ofL (List.map Row.A x_5.rsK)) [])), (6, Atom.cells x_5.ba (rvs x_5.rsA) 29), (7, Atom.pred (rest (ofL (List.map Row.A x_5.rsA)) [])), (8, x_5.G)]
 [(0, F), (1, Atom.cells x_6.b1 [string x.c.name, bool x.c.late, int i64 x.c.script, slice x.w.vs.a x.w.vs.n x.w.vs.cap, slice x.w.vt.a x.w.vt.n x.w.vt.cap, slice x.w.vb.a x.w.vb.n x.w.vb.cap, slice x.w.vd.a x.w.vd.n x.w.vd.cap, slice x.w.vi.a x.w.vi.n x.w.vi.cap] 28), (2, Atom.cells x_6.b5 [string x.c.name, bool x.c.late, int i64 x.c.script, slice x.w.vs.a x.w.vs.n x.w.vs.cap, slice x.w.vt.a x.w.vt.n x.w.vt.cap, slice x.w.vb.a x.w.vb.n x.w.vb.cap, slice x.w.vd.a x.w.vd.n x.w.vd.cap, slice x.w.vi.a x.w.vi.n x.w.vi.cap, slice x_6.rA.a x_6.rA.n x_6.rA.cap, slice (some ⟨x_6.bk, 0, none⟩) x.w.vs.n x.w.vs.n] 87), (3, x_6.rA.A), (4, Atom.cells x_6.bk (rvs x_6.rsK) 29),
 (5, Atom.pred (rest (ofL (List.map Row.A x_6.rsK)) [])), (6, Atom.cells x_6.ba (rvs x_6.rsA) 29), (7, Atom.pred (rest (ofL (List.map Row.A x_6.rsA)) [])), (8, x_6.G)]) ∧
 ∀ (x_6 : NwI) (js : Nat → Value),
 (NwA x.c (nS x.c) x_6.rA x_6.abv x_6.G ∧ NwK x.c (4 : Int) (nS x.c) x_6.rsK ∧ NwK x.c (6 : Int) (nS x.c) x_6.rsA ∧ x_6.k ≤ nS x.c ∧ ∀ (j : Nat), j < x_6.k → kidAt x.c j = kidsA x.c j) →
 Br (decide ((↑x_6.k : Int) < (↑x.w.vs.n : Int)))
 (QOpOk Try.prog (opIn Try.f14 22 1) (ixQ 13) ∧
 ∃ (x_7 : IxQX),
 [slice x.w.vs.a x.w.vs.n x.w.vs.cap, int i64 (↑x_6.k : Int)] = [slice (some ⟨x_7.b, x_7.o, none⟩) x_7.len x_7.cap, int i64 x_7.n] ∧
 ((0 : Int) ≤ x_7.n ∧ x_7.n < (↑x_7.len : Int)) ∧
 ∃ (s : ByteArray),
 Look F ⟨x_7.b, x_7.o + x_7.n.toNat * 13, none⟩ (string s) ∧
 ∃ (n : Int),
 Look F ⟨x_7.b, x_7.o + x_7.n.toNat * 13 + 1, none⟩ (int i64 n) ∧
 ∃ (n_1 : Int),
 Look F ⟨x_7.b, x_7.o + x_7.n.toNat * 13 + 2, none⟩ (int i64 n_1) ∧
 ∃ (a : Option Addr),
 ∃ (l : Nat),
 ∃ (c : Nat),
 Look F ⟨x_7.b, x_7.o + x_7.n.toNat * 13 + 3, none⟩ (slice a l c) ∧
 ∃ (n_2 : Int),
 Look F ⟨x_7.b, x_7.o + x_7.n.toNat * 13 + 4, none⟩ (int i64 n_2) ∧
 ∃ (a_1 : Option Addr),
 ∃ (l_1 : Nat),
 ∃ (c_1 : Nat),
 Look F ⟨x_7.b, x_7.o + x_7.n.toNat * 13 + 5, none⟩ (slice a_1 l_1 c_1) ∧
 ∃ (a_2 : Option Addr),
 ∃ (l_2 : Nat),
 ∃ (c_2 : Nat),
 Look F ⟨x_7.b, x_7.o + x_7.n.toNat * 13 + 6, none⟩ (slice a_2 l_2 c_2) ∧
 ∃ (a_3 : Option Addr),
 ∃ (l_3 : Nat),
 ∃ (c_3 : Nat),
 Look F ⟨x_7.b, x_7.o + x_7.n.toNat * 13 + 7, none⟩ (slice a_3 l_3 c_3) ∧
 ∃ (a_4 : Option Addr),
 ∃ (l_4 : Nat),
 ∃ (c_4 : Nat),
 Look F ⟨x_7.b, x_7.o + x_7.n.toNat * 13 + 8, none⟩ (slice a_4 l_4 c_4) ∧
 ∃ (a_5 : Option Addr),
 ∃ (l_5 : Nat),
 ∃ (c_5 : Nat),
 Look F ⟨x_7.b, x_7.o + x_7.n.toNat * 13 + 9, none⟩ (slice a_5 l_5 c_5) ∧
 ∃ (n_3 : Int),
 Look F ⟨x_7.b, x_7.o + x_7.n.toNat * 13 + 10, none⟩ (int i64 n_3) ∧
 ∃ (a_6 : Option Addr),
 ∃ (l_6 : Nat),
 ∃ (c_6 : Nat),
 Look F ⟨x_7.b, x_7.o + x_7.n.toNat * 13 + 11, none⟩ (slice a_6 l_6 c_6) ∧
 ∃ (s_1 : ByteArray),
 Look F ⟨x_7.b, x_7.o + x_7.n.toNat * 13 + 12, none⟩ (string s_1) ∧
 ∀ (b : Nat),
 Same ⟨b, 0, none⟩ b ∧
 Same ⟨b, 1, none⟩ b ∧
 Same ⟨b, 2, none⟩ b ∧
 Same ⟨b, 3, none⟩ b ∧
 Same ⟨b, 4, none⟩ b ∧
 Same ⟨b, 5, none⟩ b ∧
 Same ⟨b, 6, none⟩ b ∧
 Same ⟨b, 7, none⟩ b ∧
 Same ⟨b, 8, none⟩ b ∧
 Same ⟨b, 9, none⟩ b ∧
 Same ⟨b, 10, none⟩ b ∧
 Same ⟨b, 11, none⟩ b ∧
 Same ⟨b, 12, none⟩ b ∧
 true = true ∧
 Same ⟨b, 3, none⟩ b ∧
 ((0 : Int) ≤ (↑x_6.k : Int) ∧ (↑x_6.k : Int) < (↑x.w.vs.n : Int)) ∧
 ∃ (a_7 : Option Addr),
 ∃ (l_7 : Nat),
 ∃ (c_7 : Nat),
 Look (Atom.cells x_6.ba (rvs x_6.rsA) 29) ⟨x_6.ba, 0 + (↑x_6.k : Int).toNat * 1, none⟩ (slice a_7 l_7 c_7) ∧
 FnOk Try.prog 51 eqC ∧
 true = true ∧
 ∃ (x_8 : EqX),
 [slice a l c, slice a_7 l_7 c_7] = [slice x_8.a x_8.an x_8.ac, slice x_8.b x_8.bn x_8.bc] ∧
 ([] : List Atom) = [] ∧
 (IsSrc 1 (ints x_8.xs) x_8.a x_8.an ∧ IsSrc 1 (ints x_8.ys) x_8.b x_8.bn ∧ x_8.an * 8 ≤ 140737488351232) ∧
 (Srcd
 (Atom.pred
 (rest
 [(0, F), (1, Atom.cells x_6.b1 [string x.c.name, bool x.c.late, int i64 x.c.script, slice x.w.vs.a x.w.vs.n x.w.vs.cap, slice x.w.vt.a x.w.vt.n x.w.vt.cap, slice x.w.vb.a x.w.vb.n x.w.vb.cap, slice x.w.vd.a x.w.vd.n x.w.vd.cap, slice x.w.vi.a x.w.vi.n x.w.vi.cap] 28),
 (2, Atom.cells x_6.b5 [string x.c.name, bool x.c.late, int i64 x.c.script, slice x.w.vs.a x.w.vs.n x.w.vs.cap, slice x.w.vt.a x.w.vt.n x.w.vt.cap, slice x.w.vb.a x.w.vb.n x.w.vb.cap, slice x.w.vd.a x.w.vd.n x.w.vd.cap, slice x.w.vi.a x.w.vi.n x.w.vi.cap, slice x_6.rA.a x_6.rA.n x_6.rA.cap, slice (some ⟨x_6.bk, 0, none⟩) x.w.vs.n x.w.vs.n] 87), (3, x_6.rA.A), (4, Atom.cells x_6.bk (rvs x_6.rsK) 29), (5, Atom.pred (rest (ofL (List.map Row.A x_6.rsK)) [])), (6, Atom.cells x_6.ba (rvs x_6.rsA) 29), (7, Atom.pred (rest (ofL (List.map Row.A x_6.rsA)) [])),
 (8, x_6.G), (23030, Atom.cells b [string s, int i64 n, int i64 n_1, slice a l c, int i64 n_2, slice a_1 l_1 c_1, slice a_2 l_2 c_2, slice a_3 l_3 c_3, slice a_4 l_4 c_4, slice a_5 l_5 c_5, int i64 n_3, slice a_6 l_6 c_6, string s_1] 61)]
 []))
 x_8.a (ints x_8.xs) ∧
 Srcd
 (Atom.pred
 (rest
 [(0, F), (1, Atom.cells x_6.b1 [string x.c.name, bool x.c.late, int i64 x.c.script, slice x.w.vs.a x.w.vs.n x.w.vs.cap, slice x.w.vt.a x.w.vt.n x.w.vt.cap, slice x.w.vb.a x.w.vb.n x.w.vb.cap, slice x.w.vd.a x.w.vd.n x.w.vd.cap, slice x.w.vi.a x.w.vi.n x.w.vi.cap] 28),
 (2, Atom.cells x_6.b5 [string x.c.name, bool x.c.late, int i64 x.c.script, slice x.w.vs.a x.w.vs.n x.w.vs.cap, slice x.w.vt.a x.w.vt.n x.w.vt.cap, slice x.w.vb.a x.w.vb.n x.w.vb.cap, slice x.w.vd.a x.w.vd.n x.w.vd.cap, slice x.w.vi.a x.w.vi.n x.w.vi.cap, slice x_6.rA.a x_6.rA.n x_6.rA.cap, slice (some ⟨x_6.bk, 0, none⟩) x.w.vs.n x.w.vs.n] 87), (3, x_6.rA.A), (4, Atom.cells x_6.bk (rvs x_6.rsK) 29), (5, Atom.pred (rest (ofL (List.map Row.A x_6.rsK)) [])), (6, Atom.cells x_6.ba (rvs x_6.rsA) 29), (7, Atom.pred (rest (ofL (List.map Row.A x_6.rsA)) [])),
 (8, x_6.G), (23030, Atom.cells b [string s, int i64 n, int i64 n_1, slice a l c, int i64 n_2, slice a_1 l_1 c_1, slice a_2 l_2 c_2, slice a_3 l_3 c_3, slice a_4 l_4 c_4, slice a_5 l_5 c_5, int i64 n_3, slice a_6 l_6 c_6, string s_1] 61)]
 []))
 x_8.b (ints x_8.ys)) ∧
 ∀ (y : Unit),
 True →
 Br (!decide (x_8.xs = x_8.ys))
 (Done newC x F (Ending.returned (tuple { toList := [pointer none, int i64 (140 : Int)] }))
 [(0, F), (1, Atom.cells x_6.b1 [string x.c.name, bool x.c.late, int i64 x.c.script, slice x.w.vs.a x.w.vs.n x.w.vs.cap, slice x.w.vt.a x.w.vt.n x.w.vt.cap, slice x.w.vb.a x.w.vb.n x.w.vb.cap, slice x.w.vd.a x.w.vd.n x.w.vd.cap, slice x.w.vi.a x.w.vi.n x.w.vi.cap] 28),
 (2, Atom.cells x_6.b5 [string x.c.name, bool x.c.late, int i64 x.c.script, slice x.w.vs.a x.w.vs.n x.w.vs.cap, slice x.w.vt.a x.w.vt.n x.w.vt.cap, slice x.w.vb.a x.w.vb.n x.w.vb.cap, slice x.w.vd.a x.w.vd.n x.w.vd.cap, slice x.w.vi.a x.w.vi.n x.w.vi.cap, slice x_6.rA.a x_6.rA.n x_6.rA.cap, slice (some ⟨x_6.bk, 0, none⟩) x.w.vs.n x.w.vs.n] 87), (3, x_6.rA.A), (4, Atom.cells x_6.bk (rvs x_6.rsK) 29), (5, Atom.pred (rest (ofL (List.map Row.A x_6.rsK)) [])), (6, Atom.cells x_6.ba (rvs x_6.rsA) 29), (7, Atom.pred (rest (ofL (List.map Row.A x_6.rsA)) [])),
 (8, x_6.G), (23030, Atom.cells b [string s, int i64 n, int i64 n_1, slice a l c, int i64 n_2, slice a_1 l_1 c_1, slice a_2 l_2 c_2, slice a_3 l_3 c_3, slice a_4 l_4 c_4, slice a_5 l_5 c_5, int i64 n_3, slice a_6 l_6 c_6, string s_1] 61)])
 (((-9223372036854775808 : Int) ≤ (↑x_6.k : Int) + (1 : Int) ∧ (↑x_6.k : Int) + (1 : Int) ≤ (9223372036854775807 : Int)) ∧
 ∃ (y : NwI),
 (NwA x.c (nS x.c) y.rA y.abv y.G ∧ NwK x.c (4 : Int) (nS x.c) y.rsK ∧ NwK x.c (6 : Int) (nS x.c) y.rsA ∧ y.k ≤ nS x.c ∧ ∀ (j : Nat), j < y.k → kidAt x.c j = kidsA x.c j) ∧
 (pointer (some ⟨x_6.b1, 0, none⟩) = pointer (some ⟨y.b1, 0, none⟩) ∧
 int i64 (↑x.w.vs.n : Int) = int i64 (↑x.w.vs.n : Int) ∧ pointer (some ⟨x_6.b5, 0, none⟩) = pointer (some ⟨y.b5, 0, none⟩) ∧ slice (some ⟨x_6.ba, 0, none⟩) x.w.vs.n x.w.vs.n = slice (some ⟨y.ba, 0, none⟩) x.w.vs.n x.w.vs.n ∧ slice x.w.vs.a x.w.vs.n x.w.vs.cap = slice x.w.vs.a x.w.vs.n x.w.vs.cap ∧ int i64 (↑x.w.vs.n : Int) = int i64 (↑x.w.vs.n : Int) ∧ int i64 ((↑x_6.k : Int) + (1 : Int)) = int i64 (↑y.k : Int) ∧ True) ∧
 Ent
 [(0, F), (1, Atom.cells x_6.b1 [string x.c.name, bool x.c.late, int i64 x.c.script, slice x.w.vs.a x.w.vs.n x.w.vs.cap, slice x.w.vt.a x.w.vt.n x.w.vt.cap, slice x.w.vb.a x.w.vb.n x.w.vb.cap, slice x.w.vd.a x.w.vd.n x.w.vd.cap, slice x.w.vi.a x.w.vi.n x.w.vi.cap] 28),
 (2, Atom.cells x_6.b5 [string x.c.name, bool x.c.late, int i64 x.c.script, slice x.w.vs.a x.w.vs.n x.w.vs.cap, slice x.w.vt.a x.w.vt.n x.w.vt.cap, slice x.w.vb.a x.w.vb.n x.w.vb.cap, slice x.w.vd.a x.w.vd.n x.w.vd.cap, slice x.w.vi.a x.w.vi.n x.w.vi.cap, slice x_6.rA.a x_6.rA.n x_6.rA.cap, slice (some ⟨x_6.bk, 0, none⟩) x.w.vs.n x.w.vs.n] 87), (3, x_6.rA.A), (4, Atom.cells x_6.bk (rvs x_6.rsK) 29), (5, Atom.pred (rest (ofL (List.map Row.A x_6.rsK)) [])), (6, Atom.cells x_6.ba (rvs x_6.rsA) 29), (7, Atom.pred (rest (ofL (List.map Row.A x_6.rsA)) [])),
 (8, x_6.G), (23030, Atom.cells b [string s, int i64 n, int i64 n_1, slice a l c, int i64 n_2, slice a_1 l_1 c_1, slice a_2 l_2 c_2, slice a_3 l_3 c_3, slice a_4 l_4 c_4, slice a_5 l_5 c_5, int i64 n_3, slice a_6 l_6 c_6, string s_1] 61)]
 [(0, F), (1, Atom.cells y.b1 [string x.c.name, bool x.c.late, int i64 x.c.script, slice x.w.vs.a x.w.vs.n x.w.vs.cap, slice x.w.vt.a x.w.vt.n x.w.vt.cap, slice x.w.vb.a x.w.vb.n x.w.vb.cap, slice x.w.vd.a x.w.vd.n x.w.vd.cap, slice x.w.vi.a x.w.vi.n x.w.vi.cap] 28),
 (2, Atom.cells y.b5 [string x.c.name, bool x.c.late, int i64 x.c.script, slice x.w.vs.a x.w.vs.n x.w.vs.cap, slice x.w.vt.a x.w.vt.n x.w.vt.cap, slice x.w.vb.a x.w.vb.n x.w.vb.cap, slice x.w.vd.a x.w.vd.n x.w.vd.cap, slice x.w.vi.a x.w.vi.n x.w.vi.cap, slice y.rA.a y.rA.n y.rA.cap, slice (some ⟨y.bk, 0, none⟩) x.w.vs.n x.w.vs.n] 87), (3, y.rA.A), (4, Atom.cells y.bk (rvs y.rsK) 29), (5, Atom.pred (rest (ofL (List.map Row.A y.rsK)) [])), (6, Atom.cells y.ba (rvs y.rsA) 29), (7, Atom.pred (rest (ofL (List.map Row.A y.rsA)) [])), (8, y.G)] ∧
 x.w.vs.n - y.k < x.w.vs.n - x_6.k))
 (Same ⟨x_6.b5, 9, none⟩ x_6.b5 ∧
 ((0 : Int) ≤ (0 : Int) ∧ (0 : Int) < (↑x.w.vs.n : Int)) ∧
 ∃ (a : Option Addr),
 ∃ (l : Nat),
 ∃ (c : Nat),
 Look (Atom.cells x_6.bk (rvs x_6.rsK) 29) ⟨x_6.bk, 0, none⟩ (slice a l c) ∧
 Br ((↑l : Int) == (0 : Int))
 (Done newC x F (Ending.returned (tuple { toList := [pointer none, int i64 (140 : Int)] }))
 [(0, F), (1, Atom.cells x_6.b1 [string x.c.name, bool x.c.late, int i64 x.c.script, slice x.w.vs.a x.w.vs.n x.w.vs.cap, slice x.w.vt.a x.w.vt.n x.w.vt.cap, slice x.w.vb.a x.w.vb.n x.w.vb.cap, slice x.w.vd.a x.w.vd.n x.w.vd.cap, slice x.w.vi.a x.w.vi.n x.w.vi.cap] 28), (2, Atom.cells x_6.b5 [string x.c.name, bool x.c.late, int i64 x.c.script, slice x.w.vs.a x.w.vs.n x.w.vs.cap, slice x.w.vt.a x.w.vt.n x.w.vt.cap, slice x.w.vb.a x.w.vb.n x.w.vb.cap, slice x.w.vd.a x.w.vd.n x.w.vd.cap, slice x.w.vi.a x.w.vi.n x.w.vi.cap, slice x_6.rA.a x_6.rA.n x_6.rA.cap, slice (some ⟨x_6.bk, 0, none⟩) x.w.vs.n x.w.vs.n] 87), (3, x_6.rA.A),
 (4, Atom.cells x_6.bk (rvs x_6.rsK) 29), (5, Atom.pred (rest (ofL (List.map Row.A x_6.rsK)) [])), (6, Atom.cells x_6.ba (rvs x_6.rsA) 29), (7, Atom.pred (rest (ofL (List.map Row.A x_6.rsA)) [])), (8, x_6.G)])
 (FnOk Try.prog 52 transC ∧
 true = true ∧
 ∃ (x_7 : TransX),
 [pointer (some ⟨x_6.b5, 0, none⟩)] = [pointer (some ⟨x_7.b, 0, none⟩)] ∧
 ([] : List Atom) = [] ∧
 True ∧
 LatIn
 (Atom.pred
 (rest
 [(0, F), (1, Atom.cells x_6.b1 [string x.c.name, bool x.c.late, int i64 x.c.script, slice x.w.vs.a x.w.vs.n x.w.vs.cap, slice x.w.vt.a x.w.vt.n x.w.vt.cap, slice x.w.vb.a x.w.vb.n x.w.vb.cap, slice x.w.vd.a x.w.vd.n x.w.vd.cap, slice x.w.vi.a x.w.vi.n x.w.vi.cap] 28), (2, Atom.cells x_6.b5 [string x.c.name, bool x.c.late, int i64 x.c.script, slice x.w.vs.a x.w.vs.n x.w.vs.cap, slice x.w.vt.a x.w.vt.n x.w.vt.cap, slice x.w.vb.a x.w.vb.n x.w.vb.cap, slice x.w.vd.a x.w.vd.n x.w.vd.cap, slice x.w.vi.a x.w.vi.n x.w.vi.cap, slice x_6.rA.a x_6.rA.n x_6.rA.cap, slice (some ⟨x_6.bk, 0, none⟩) x.w.vs.n x.w.vs.n] 87), (3, x_6.rA.A),
 (4, Atom.cells x_6.bk (rvs x_6.rsK) 29), (5, Atom.pred (rest (ofL (List.map Row.A x_6.rsK)) [])), (6, Atom.cells x_6.ba (rvs x_6.rsA) 29), (7, Atom.pred (rest (ofL (List.map Row.A x_6.rsA)) [])), (8, x_6.G)]
 []))
 x_7.b x_7.c ∧
 ∀ (y : Unit),
 True →
 Br (!transB x_7.c)
 (Done newC x F (Ending.returned (tuple { toList := [pointer none, int i64 (140 : Int)] }))
 [(0, F), (1, Atom.cells x_6.b1 [string x.c.name, bool x.c.late, int i64 x.c.script, slice x.w.vs.a x.w.vs.n x.w.vs.cap, slice x.w.vt.a x.w.vt.n x.w.vt.cap, slice x.w.vb.a x.w.vb.n x.w.vb.cap, slice x.w.vd.a x.w.vd.n x.w.vd.cap, slice x.w.vi.a x.w.vi.n x.w.vi.cap] 28), (2, Atom.cells x_6.b5 [string x.c.name, bool x.c.late, int i64 x.c.script, slice x.w.vs.a x.w.vs.n x.w.vs.cap, slice x.w.vt.a x.w.vt.n x.w.vt.cap, slice x.w.vb.a x.w.vb.n x.w.vb.cap, slice x.w.vd.a x.w.vd.n x.w.vd.cap, slice x.w.vi.a x.w.vi.n x.w.vi.cap, slice x_6.rA.a x_6.rA.n x_6.rA.cap, slice (some ⟨x_6.bk, 0, none⟩) x.w.vs.n x.w.vs.n] 87), (3, x_6.rA.A),
 (4, Atom.cells x_6.bk (rvs x_6.rsK) 29), (5, Atom.pred (rest (ofL (List.map Row.A x_6.rsK)) [])), (6, Atom.cells x_6.ba (rvs x_6.rsA) 29), (7, Atom.pred (rest (ofL (List.map Row.A x_6.rsA)) [])), (8, x_6.G)])
 (Same ⟨x_6.b1, 0, none⟩ x_6.b1 ∧
 Same ⟨x_6.b1, 1, none⟩ x_6.b1 ∧
 Same ⟨x_6.b1, 2, none⟩ x_6.b1 ∧
 Same ⟨x_6.b1, 3, none⟩ x_6.b1 ∧
 Same ⟨x_6.b1, 4, none⟩ x_6.b1 ∧
 Same ⟨x_6.b1, 5, none⟩ x_6.b1 ∧
 Same ⟨x_6.b1, 6, none⟩ x_6.b1 ∧
 Same ⟨x_6.b1, 7, none⟩ x_6.b1 ∧
 FnOk Try.prog 36 cloneC ∧
 true = true ∧
 ∃ (x_8 : ClnCX),
 [agg { toList := [string x.c.name, bool x.c.late, int i64 x.c.script, slice x.w.vs.a x.w.vs.n x.w.vs.cap, slice x.w.vt.a x.w.vt.n x.w.vt.cap, slice x.w.vb.a x.w.vb.n x.w.vb.cap, slice x.w.vd.a x.w.vd.n x.w.vd.cap, slice x.w.vi.a x.w.vi.n x.w.vi.cap] }] = [agg { toList := [string x_8.c.name, bool x_8.c.late, int i64 x_8.c.script, slice x_8.w.vs.a x_8.w.vs.n x_8.w.vs.cap, slice x_8.w.vt.a x_8.w.vt.n x_8.w.vt.cap, slice x_8.w.vb.a x_8.w.vb.n x_8.w.vb.cap, slice x_8.w.vd.a x_8.w.vd.n x_8.w.vd.cap, slice x_8.w.vi.a x_8.w.vi.n x_8.w.vi.cap] }] ∧
 ([] : List Atom) = [] ∧
 True ∧
 ChIn
 (Atom.pred
 (rest
 [(0, F), (1, Atom.cells x_6.b1 [string x.c.name, bool x.c.late, int i64 x.c.script, slice x.w.vs.a x.w.vs.n x.w.vs.cap, slice x.w.vt.a x.w.vt.n x.w.vt.cap, slice x.w.vb.a x.w.vb.n x.w.vb.cap, slice x.w.vd.a x.w.vd.n x.w.vd.cap, slice x.w.vi.a x.w.vi.n x.w.vi.cap] 28), (2, Atom.cells x_6.b5 [string x.c.name, bool x.c.late, int i64 x.c.script, slice x.w.vs.a x.w.vs.n x.w.vs.cap, slice x.w.vt.a x.w.vt.n x.w.vt.cap, slice x.w.vb.a x.w.vb.n x.w.vb.cap, slice x.w.vd.a x.w.vd.n x.w.vd.cap, slice x.w.vi.a x.w.vi.n x.w.vi.cap, slice x_6.rA.a x_6.rA.n x_6.rA.cap, slice (some ⟨x_6.bk, 0, none⟩) x.w.vs.n x.w.vs.n] 87),
 (3, x_6.rA.A), (4, Atom.cells x_6.bk (rvs x_6.rsK) 29), (5, Atom.pred (rest (ofL (List.map Row.A x_6.rsK)) [])), (6, Atom.cells x_6.ba (rvs x_6.rsA) 29), (7, Atom.pred (rest (ofL (List.map Row.A x_6.rsA)) [])), (8, x_6.G)]
 []))
 x_8.w.v x_8.c ∧
 ∀ (y : ClnCY),
 ChOw y.G y.w x_8.c →
 Same ⟨x_6.b5, 0, none⟩ x_6.b5 ∧
 Same ⟨x_6.b5, 1, none⟩ x_6.b5 ∧
 Same ⟨x_6.b5, 2, none⟩ x_6.b5 ∧
 Same ⟨x_6.b5, 3, none⟩ x_6.b5 ∧
 Same ⟨x_6.b5, 4, none⟩ x_6.b5 ∧
 Same ⟨x_6.b5, 5, none⟩ x_6.b5 ∧
 Same ⟨x_6.b5, 6, none⟩ x_6.b5 ∧
 Same ⟨x_6.b5, 7, none⟩ x_6.b5 ∧
 Done newC x F (Ending.returned (tuple { toList := [pointer (some ⟨x_6.b5, 0, none⟩), int i64 (0 : Int)] }))
 [(0, F), (1, Atom.cells x_6.b1 [string x.c.name, bool x.c.late, int i64 x.c.script, slice x.w.vs.a x.w.vs.n x.w.vs.cap, slice x.w.vt.a x.w.vt.n x.w.vt.cap, slice x.w.vb.a x.w.vb.n x.w.vb.cap, slice x.w.vd.a x.w.vd.n x.w.vd.cap, slice x.w.vi.a x.w.vi.n x.w.vi.cap] 28),
 (2, Atom.cells x_6.b5 [string x_8.c.name, bool x_8.c.late, int i64 x_8.c.script, slice y.w.vs.a y.w.vs.n y.w.vs.cap, slice y.w.vt.a y.w.vt.n y.w.vt.cap, slice y.w.vb.a y.w.vb.n y.w.vb.cap, slice y.w.vd.a y.w.vd.n y.w.vd.cap, slice y.w.vi.a y.w.vi.n y.w.vi.cap, slice x_6.rA.a x_6.rA.n x_6.rA.cap, slice (some ⟨x_6.bk, 0, none⟩) x.w.vs.n x.w.vs.n] 87), (3, x_6.rA.A), (4, Atom.cells x_6.bk (rvs x_6.rsK) 29), (5, Atom.pred (rest (ofL (List.map Row.A x_6.rsK)) [])), (6, Atom.cells x_6.ba (rvs x_6.rsA) 29), (7, Atom.pred (rest (ofL (List.map Row.A x_6.rsA)) [])), (8, x_6.G), (29020, y.G)]))))))))) := by
  obtain ⟨c, ⟨⟨a, n, cap⟩, wt, wb, wd, wi⟩⟩ := x
  replace hr : ChIn F _ c := hr
  have h1 := hr.sts
  have h2 := hr.trs
  dsimp only [ChS.v] at h1 h2
  obtain ⟨hn, hncap, -⟩ := h1.num
  have hnS : n = nS c := hn
  obtain ⟨htn, -, -⟩ := h2.num
  have e0 : ∀ i : Nat, 0 + (i : Int).toNat * 1 = i := fun i => by omega
  have at1 : ∀ (b o i : Nat), o + (i : Int).toNat * 13 = o + i * 13 := fun b o i => by rw [Int.toNat_natCast]
  -- the head
  intro b
  refine ⟨⟨rfl, rfl⟩, br_decide (fun q1 => new_no (newB_no fun (hp : Placed c) _ _ => ?_) (Ent.pick [77, 0] rfl rfl)) (fun q1 => br_decide (fun q2 => new_no (newB_no fun (hp : Placed c) _ _ => ?_) (Ent.pick [77, 0] rfl rfl)) (fun q2 => ⟨⟨rfl, rfl⟩, br_decide (fun q3 => new_no (newB_no fun (hp : Placed c) (h : c.trs.length ≤ 256) _ => ?_) (Ent.pick [77, 0] rfl rfl)) (fun q3 => ?_)⟩))⟩
  · have := hp.n2; dsimp only at q1; omega
  · have := hp.n128; dsimp only at q2; omega
  · dsimp only at q3; omega
  dsimp only at q1 q2 q3
  obtain ⟨s0, hs0⟩ := get_st (c := c) (i := 0) (by omega)
  obtain ⟨b0, o0, r0, rfl, ⟨vk, ve, vx, vt, vd, vi, vp, rfl, -⟩, hL0⟩ := h1.at' hs0
  refine ⟨⟨rfl, rfl⟩, ixq_ok 13 rfl rfl rfl rfl, ⟨b0, o0, n, cap, 0⟩, rfl, by dsimp only; omega, s0.kind, hL0 1 _ rfl, br_intro (fun q4 => new_no (newB_no fun (hp : Placed c) _ _ => ?_) (Ent.pick [77, 0] rfl rfl)) (fun q4 => ⟨⟨rfl, rfl⟩, ixq_ok 13 rfl rfl rfl rfl, ⟨b0, o0, n, cap, 0⟩, rfl, by dsimp only; omega, s0.parent, hL0 2 _ rfl, br_intro (fun q5 => new_no (newB_no fun (hp : Placed c) _ _ => ?_) (Ent.pick [77, 0] rfl rfl)) (fun q5 => ?_)⟩)⟩
  · have := hp.k0
    rw [kd_get hs0] at this
    rw [this] at q4; cases q4
  · have := hp.p0
    rw [pr_get hs0] at this
    rw [this] at q5; cases q5
  have q4' : s0.kind = 0 := by simpa using q4
  have q5' : s0.parent = -1 := by simpa using q5
  have hhead : headB c = true := by
    unfold headB
    simp only [Bool.and_eq_true, decide_eq_true_eq]
    rw [kd_get hs0, pr_get hs0]
    omega
  clear hL0 q1 q2 q3 q4 q5 q4' q5' hs0 s0
  obtain ⟨hn2, hn128⟩ := headB_n hhead
  -- the start of the loop
  refine ⟨rfl, ⟨rfl, rfl⟩, ⟨rfl, rfl⟩, ⟨rfl, rfl⟩, ⟨rfl, rfl⟩, ⟨rfl, rfl⟩, ⟨rfl, rfl⟩, ⟨rfl, rfl⟩, ⟨rfl, rfl⟩, make_ok (P := Try.prog) [.slice none 0 0] 24 rfl rfl rfl rfl rfl rfl (by simp) rfl, rfl, ⟨n, n⟩, rfl, rfl, ⟨by dsimp only; omega, by dsimp only; omega, by dsimp only; omega, by dsimp only; omega⟩, trivial, fun y1 _ b5 => ⟨make_ok (P := Try.prog) [.slice none 0 0] 24 rfl rfl rfl rfl rfl rfl (by simp) rfl, rfl, ⟨n, n⟩, rfl, rfl, ⟨by dsimp only; omega, by dsimp only; omega, by dsimp only; omega, by dsimp only; omega⟩, trivial, fun y2 _ => ⟨⟨rfl, rfl⟩, ⟨⟨0, b, b5, nilRow, [], y1, List.replicate n nilRow, y2, List.replicate n nilRow, .emp, 0⟩, ⟨?_, ?_, ?_⟩, ⟨rfl, rfl, rfl, rfl, rfl, rfl, rfl, trivial⟩, ?_⟩, ?_⟩⟩⟩
  · exact ⟨hhead, Nat.zero_le _, .nil rfl, rfl, fun i h => absurd h (Nat.not_lt_zero i), fun i h => absurd h (Nat.not_lt_zero i), fun i _ h => absurd h (Nat.not_lt_zero i)⟩
  · refine ⟨by rw [List.length_replicate]; exact hnS, fun p r hp => ?_⟩
    rw [List.getElem?_replicate] at hp
    split at hp
    · cases hp; exact .nil rfl
    · cases hp
  · refine ⟨by rw [List.length_replicate]; exact hnS, fun p r hp => ?_⟩
    rw [List.getElem?_replicate] at hp
    split at hp
    · cases hp; exact .nil rfl
    · cases hp
  · dsimp only
    rw [Int.toNat_natCast, rvs_zero]
    exact ((Ent.put 7001 (fam_nil n)).trans (Ent.put 7002 (fam_nil n))).trans (Ent.pick [0, 1000, 5040, 77, 5020, 7001, 6010, 7002, 78] rfl rfl)
  clear b
  rintro ⟨k, b1, b5, rA, abv, bk, rsK, ba, rsA, G, b9⟩ js ⟨hA, hK, hK6⟩
  dsimp only at hA hK hK6 ⊢
  have hkn := hA.kn
  refine br_decide (fun hlt => ?_) (fun hge => ?_)
  · have hkS : k < nS c := by omega
    obtain ⟨s, hs⟩ := get_st hkS
    obtain ⟨b', o', r, ea, ⟨vk, ve, vx, vt, vd, vi, vp, rfl, p1, p2, p3, p4, p5, p6, p7⟩, hL⟩ := h1.at' hs
    simp only [Option.some.injEq, Addr.mk.injEq, and_true] at ea
    obtain ⟨rfl, rfl⟩ := ea
    obtain ⟨ka, kc, rfl, -⟩ := SlIn.open p1
    obtain ⟨ea, ec, rfl, -⟩ := SlIn.open p2
    obtain ⟨xa, xc, rfl, -⟩ := SlIn.open p3
    obtain ⟨ta, tc, rfl, -⟩ := SlIn.open p4
    obtain ⟨da, dc, rfl, -⟩ := SlIn.open p5
    obtain ⟨ia, ic, rfl, -⟩ := SlIn.open p6
    obtain ⟨pa, pc, rfl, -⟩ := SlIn.open p7
    have ek := kd_get hs
    have ep := pr_get hs
    refine ⟨ixq_ok 13 rfl rfl rfl rfl, ⟨b0, o0, n, cap, k⟩, rfl, by dsimp only; omega, s.id, hL 0 _ rfl, s.kind, hL 1 _ rfl, s.parent, hL 2 _ rfl, _, _, _, hL 3 _ rfl, s.init, hL 4 _ rfl, _, _, _, hL 5 _ rfl, _, _, _, hL 6 _ rfl, _, _, _, hL 7 _ rfl, _, _, _, hL 8 _ rfl, _, _, _, hL 9 _ rfl, s.done.kind, hL 10 _ rfl, _, _, _, hL 11 _ rfl, s.done.body, hL 12 _ rfl, fun bs => ?_⟩
    iterate 13 refine ⟨⟨rfl, rfl⟩, ?_⟩
    refine ⟨make_ok (P := Try.prog) [.bool false] 1 rfl rfl rfl rfl rfl rfl (by simp) rfl, rfl, ⟨n, n⟩, rfl, rfl, ⟨by dsimp only; omega, by dsimp only; omega, by dsimp only; omega, by dsimp only; omega⟩, trivial, fun y _ => ⟨k, br_decide (fun hk0 => ?_) (fun hk0 => ?_), ?_⟩⟩
    · have hk0 : 0 < k := by omega
      refine ⟨⟨rfl, rfl⟩, br_decide (fun q => new_no (newB_no fun (hp : Placed c) _ _ => ?_) (Ent.pick [77, 0] rfl rfl)) (fun q1 => ⟨⟨rfl, rfl⟩, br_decide (fun q => new_no (newB_no fun (hp : Placed c) _ _ => ?_) (Ent.pick [77, 0] rfl rfl)) (fun q2 => ⟨⟨rfl, rfl⟩, br_decide (fun q => new_no (newB_no fun (hp : Placed c) _ _ => ?_) (Ent.pick [77, 0] rfl rfl)) (fun q3 => ⟨⟨rfl, rfl⟩, br_decide (fun q => new_no (newB_no fun (hp : Placed c) _ _ => ?_) (Ent.pick [77, 0] rfl rfl)) (fun q4 => ?_)⟩)⟩)⟩)⟩
      · have := hp.st k hk0 hkS; omega
      · have := hp.st k hk0 hkS; omega
      · have := hp.st k hk0 hkS; omega
      · have := hp.st k hk0 hkS; omega
      obtain ⟨m, hm⟩ : ∃ m, m = s.parent.toNat := ⟨_, rfl⟩
      have hmk : m < k := by omega
      have hmi : s.parent = (m : Int) := by omega
      obtain ⟨s2, hs2⟩ := get_st (c := c) (i := m) (by omega)
      obtain ⟨b', o', r2, ea, ⟨vk', ve', vx', vt', vd', vi', vp', rfl, -⟩, hL2⟩ := h1.at' hs2
      simp only [Option.some.injEq, Addr.mk.injEq, and_true] at ea
      obtain ⟨rfl, rfl⟩ := ea
      have ek2 := kd_get hs2
      refine ⟨⟨rfl, rfl⟩, ⟨rfl, rfl⟩, ixq_ok 13 rfl rfl rfl rfl, ⟨b0, o0, n, cap, s.parent⟩, rfl, by dsimp only; omega, s2.kind, by dsimp only; rw [← hm]; exact hL2 1 _ rfl, br_decide (fun q => new_no (newB_no fun (hp : Placed c) _ _ => ?_) (Ent.pick [77, 0] rfl rfl)) (fun q5 => ?_)⟩
      · have := hp.st k hk0 hkS
        rw [ep, ← hm, ek2] at this
        omega
      have hst : stB c k = true := by
        unfold stB
        simp only [Bool.and_eq_true, decide_eq_true_eq]
        rw [ek, ep, ← hm, ek2]
        omega
      have hrl := hA.row.len
      have hal := hA.len
      obtain ⟨b2, hb2⟩ := hA.row.at0 (by omega)
      obtain ⟨b3, h3, h4⟩ := hA.ab m hmk
      have hsd := hA.row.srcd
      rw [hb2] at hsd
      have hRl := hA.rl m hmk
      obtain ⟨R, hR⟩ : ∃ R, R = rowN c (rowsT c m) m := ⟨_, rfl⟩
      rw [← hR] at h4 hRl
      have hRk : rowN c (rowsT c k) k = R.set m true := by rw [rowN_step hk0 (by rw [ep, ← hm]; exact hmk), ep, ← hm, ← hR]
      have hcells : ((zeros [.bool false] (n : Int).toNat).take 0 ++ bls R ++ (zeros [.bool false] (n : Int).toNat).drop (0 + (bls R).length)).set (0 + s.parent.toNat * 1) (.bool true) = bls (rowN c (rowsT c k) k) := by
        rw [← hm, List.drop_of_length_le (by rw [zeros_length, bls_length, Int.toNat_natCast]; simp; omega), List.append_nil, List.take_zero, List.nil_append, hRk, Nat.zero_add, Nat.mul_one, bls_set]
      obtain ⟨rm, hrm⟩ : ∃ r, rsA[m]? = some r := ⟨_, List.getElem?_eq_getElem (by rw [hK6.1]; omega)⟩
      have hrow6 := hK6.2 m rm hrm
      have hrn6 := hrow6.len
      rw [ints_length] at hrn6
      have hkl6 := kidsOf_len c 6 k m
      have em : 0 + s.parent.toNat * 1 = m := by rw [← hm]; omega
      refine ⟨rfl, ⟨rfl, rfl⟩, ⟨rfl, rfl⟩, ixq_ok 1 rfl rfl rfl rfl, ⟨b2, 0, rA.n, rA.cap, s.parent⟩, by dsimp only; rw [hb2], by dsimp only; omega, _, _, _, by dsimp only; rw [← hm, Nat.mul_one]; exact hsd.look h3, copy_ok (P := Try.prog) 1 rfl rfl rfl rfl, rfl, ⟨y, zeros [.bool false] (n : Int).toNat, 4, 0, n, n, some ⟨b3, 0, none⟩, nS c, nS c, bls R, false⟩, rfl, rfl, ⟨?_, ?_, ?_, fun e => (by cases e), fun e => (by cases e)⟩, fun _ ad e => (by cases e; refine Seg.rest (j := 8) (by simp) ?_; exact h4), fun _ _ => ⟨⟨rfl, rfl⟩, ⟨by omega, by first | omega | (dsimp only; omega)⟩, ⟨⟨rfl, rfl⟩, ?_⟩, rfl, ⟨rfl, rfl⟩, ⟨rfl, rfl⟩, ⟨by omega, by omega⟩, _, _, _, by rw [em]; exact Look.cells (rvs_get hrm), fun b2' => ⟨appendG_ok (append_ok (P := Try.prog) 1 8 rfl rfl rfl rfl rfl rfl rfl (by decide)), rfl, ⟨rsA, m, rm, _, some ⟨b2', 0, none⟩, 1, 1, [.int .i64 k]⟩, rfl, rfl, ⟨hrm, hrow6, rfl, by simp [Value.oneCell'], by dsimp only; omega, by dsimp only; omega, fun e => (by cases e)⟩, fun ad e => (by cases e; exact Seg.rest (j := 16090) (by simp) (Seg.cells fun j u h => by rw [Nat.zero_add]; exact h)), fun y3 hy3 => ⟨⟨by omega, by omega⟩, ⟨⟨rfl, rfl⟩, ?_⟩, ⟨rfl, rfl⟩, br_decide (fun q6 => ?_) (fun q6 => ?_)⟩⟩⟩⟩
      · dsimp only; rw [bls_length, hRl, hnS]; simp
      · dsimp only; rw [bls_length, hRl, zeros_length, Int.toNat_natCast]; simp; omega
      · intro u hu
        obtain ⟨z, _, rfl⟩ := List.mem_map.1 hu; rfl
      · dsimp only
        rw [em, List.take_zero, List.nil_append, List.length_append, bls_length, hRl]; omega
      · rw [em]
        unfold rvs
        rw [List.length_map, hK6.1]; omega
      · dsimp only at hy3
        obtain ⟨rk, hrk⟩ : ∃ r, rsK[m]? = some r := ⟨_, List.getElem?_eq_getElem (by rw [hK.1]; omega)⟩
        have hrow4 := hK.2 m rk hrk
        have hrn4 := hrow4.len
        rw [ints_length] at hrn4
        have hkl4 := kidsOf_len c 4 k m
        refine ⟨rfl, ⟨rfl, rfl⟩, ⟨rfl, rfl⟩, ⟨rfl, rfl⟩, ⟨rfl, rfl⟩, ⟨by omega, by omega⟩, _, _, _, by rw [em]; exact Look.cells (rvs_get hrk), fun b3' => ⟨appendG_ok (append_ok (P := Try.prog) 1 8 rfl rfl rfl rfl rfl rfl rfl (by decide)), rfl, ⟨rsK, m, rk, _, some ⟨b3', 0, none⟩, 1, 1, [.int .i64 k]⟩, rfl, rfl, ⟨hrk, hrow4, rfl, by simp [Value.oneCell'], by dsimp only; omega, by dsimp only; omega, fun e => (by cases e)⟩, fun ad e => (by cases e; exact Seg.rest (j := 18150) (by simp) (Seg.cells fun j u h => by rw [Nat.zero_add]; exact h)), fun y4 hy4 => ⟨⟨by omega, by omega⟩, ⟨⟨rfl, rfl⟩, ?_⟩, ⟨k, b1, b5, rA, abv, bk, rsK.set m y4, ba, rsA.set m y3, G, y⟩, ⟨⟨hkS, hA, nwk_set hK hrk hk0 (by rw [ep, hmi]) (by rw [ek]; omega) hy4.1, nwk_set hK6 hrm hk0 (by rw [ep, hmi]) (by rw [ek]; omega) hy3.1, ?_, fun _ => hst⟩, rfl⟩, ⟨rfl, rfl, rfl, rfl, rfl, rfl, rfl, rfl, rfl, trivial⟩, ?_⟩⟩⟩
        · rw [em]
          unfold rvs
          rw [List.length_map, hK.1]; omega
        · dsimp only; rw [hRk, List.length_set]; exact hRl
        · dsimp only
          rw [hcells, em, rvs_set, rvs_set]
          exact Ent.pick [0, 1, 2, 3, 4, 5, 6, 7, 8, 10010] rfl rfl
      · refine ⟨⟨k, b1, b5, rA, abv, bk, rsK, ba, rsA.set m y3, G, y⟩, ⟨⟨hkS, hA, nwk_same hK (fun _ => by rw [ek]; exact q6), nwk_set hK6 hrm hk0 (by rw [ep, hmi]) (by rw [ek]; omega) hy3.1, ?_, fun _ => hst⟩, rfl⟩, ⟨rfl, rfl, rfl, rfl, rfl, rfl, rfl, rfl, rfl, trivial⟩, ?_⟩
        · dsimp only; rw [hRk, List.length_set]; exact hRl
        · dsimp only
          rw [hcells, em, rvs_set]
          exact Ent.pick [0, 1, 2, 3, 4, 5, 6, 7, 8, 10010] rfl rfl
    · have hk0 : k = 0 := by omega
      subst hk0
      refine ⟨⟨0, b1, b5, rA, abv, bk, rsK, ba, rsA, G, y⟩, ⟨⟨hkS, hA, nwk_same hK (fun h => absurd h (Nat.lt_irrefl 0)), nwk_same hK6 (fun h => absurd h (Nat.lt_irrefl 0)), ?_, fun h => absurd h (Nat.lt_irrefl 0)⟩, rfl⟩, ⟨rfl, rfl, rfl, rfl, rfl, rfl, rfl, rfl, rfl, trivial⟩, ?_⟩
      · exact List.length_replicate ..
      · dsimp only
        rw [Int.toNat_natCast, zeros_bls, hnS]
        exact Ent.pick [0, 1, 2, 3, 4, 5, 6, 7, 8, 10010] rfl rfl
    clear hA hK hK6 hkS hkn hL hs ek ep p1 p2 p3 p4 p5 p6 p7
    rintro ⟨k', b1, b5, rA, abv, bk, rsK, ba, rsA, G, b9⟩ js2 ⟨⟨hkS, hA, hK, hK6, hrl, hst⟩, hkk⟩
    dsimp only at hkS hA hK hK6 hrl hst hkk ⊢
    subst hkk
    have hal := hA.len
    have hral := hA.row.len
    refine ⟨⟨rfl, rfl⟩, fun bb => ⟨append_ok (P := Try.prog) 1 24 rfl rfl rfl rfl rfl rfl rfl (by decide), rfl, ⟨rA, abv, some ⟨bb, 0, none⟩, 1, 1, [.slice (some ⟨b9, 0, none⟩) n n]⟩, rfl, rfl, ⟨hA.row, rfl, by simp [Value.oneCell'], by dsimp only; omega, by dsimp only; omega, fun e => (by cases e)⟩, fun ad e => (by cases e; exact Seg.rest (j := 19060) (by simp) (Seg.cells fun j u h => by rw [Nat.zero_add]; exact h)), fun z hz => ⟨⟨rfl, rfl⟩, by omega, ⟨k' + 1, b1, b5, z, abv ++ [.slice (some ⟨b9, 0, none⟩) n n], bk, rsK, ba, rsA, bagA [G, .cells b9 (bls (rowN c (rowsT c k') k')) 4], 0⟩, ⟨⟨hhead, hkS, hz.1, ?_, fun i hi => ?_, fun i hi => ?_, fun i h0 hi => ?_⟩, hK, hK6⟩, ⟨rfl, rfl, rfl, rfl, rfl, rfl, rfl, trivial⟩, Ent.bag [0, 1, 2, 3, 4, 5, 6, 7] [8, 9] rfl rfl, by dsimp only; omega⟩⟩⟩
    · rw [List.length_append, hal]; rfl
    · replace hi : i < k' + 1 := hi
      by_cases e : i < k'
      · obtain ⟨b3, h3, h4⟩ := hA.ab i e
        exact ⟨b3, by rw [List.getElem?_append_left (by omega)]; exact h3, h4.sub (sub_bag 0 rfl)⟩
      · have e : i = k' := by omega
        subst e
        refine ⟨b9, ?_, ?_⟩
        · rw [List.getElem?_append_right (by omega), hal, Nat.sub_self, hnS]; rfl
        · exact Seg.sub (sub_bag 1 rfl) (Seg.cells fun j u h => by rw [Nat.zero_add]; exact h)
    · replace hi : i < k' + 1 := hi
      by_cases e : i < k'
      · exact hA.rl i e
      · have e : i = k' := by omega
        subst e
        exact hrl
    · replace hi : i < k' + 1 := hi
      by_cases e : i < k'
      · exact hA.st i h0 e
      · have e : i = k' := by omega
        subst e
        exact hst h0
  have hkn' : k = nS c := by omega
  subst hkn'
  refine ⟨⟨rfl, rfl⟩, ⟨⟨0, b1, b5, rA, abv, bk, rsK, ba, rsA, G, 0⟩, ⟨hA, hK, hK6, Nat.zero_le _, fun j hj => absurd hj (Nat.not_lt_zero j)⟩, ⟨rfl, rfl, rfl, rfl, rfl, rfl, rfl, trivial⟩, Ent.pick [0, 1, 2, 3, 4, 5, 6, 7, 8] rfl rfl⟩, ?_⟩
  clear hA hK hK6 hge hkn b1 b5 rA abv bk rsK ba rsA G b9
  rintro ⟨k, b1, b5, rA, abv, bk, rsK, ba, rsA, G, b9⟩ js ⟨hA, hK, hK6, hkn, hkids⟩
  dsimp only at hA hK hK6 hkn hkids ⊢
  refine br_decide (fun hlt => ?_) (fun hge => ?_)
  · have hkS : k < nS c := by omega
    obtain ⟨s, hs⟩ := get_st hkS
    obtain ⟨b', o', r, ea, ⟨vk, ve, vx, vt, vd, vi, vp, rfl, p1, p2, p3, p4, p5, p6, p7⟩, hL⟩ := h1.at' hs
    simp only [Option.some.injEq, Addr.mk.injEq, and_true] at ea
    obtain ⟨rfl, rfl⟩ := ea
    obtain ⟨ka, kc, rfl, -⟩ := SlIn.open p1
    obtain ⟨ea, ec, rfl, -⟩ := SlIn.open p2
    obtain ⟨xa, xc, rfl, -⟩ := SlIn.open p3
    obtain ⟨ta, tc, rfl, -⟩ := SlIn.open p4
    obtain ⟨da, dc, rfl, -⟩ := SlIn.open p5
    obtain ⟨ia, ic, rfl, -⟩ := SlIn.open p6
    obtain ⟨pa, pc, rfl, -⟩ := SlIn.open p7
    refine ⟨ixq_ok 13 rfl rfl rfl rfl, ⟨b0, o0, n, cap, k⟩, rfl, by dsimp only; omega, s.id, hL 0 _ rfl, s.kind, hL 1 _ rfl, s.parent, hL 2 _ rfl, _, _, _, hL 3 _ rfl, s.init, hL 4 _ rfl, _, _, _, hL 5 _ rfl, _, _, _, hL 6 _ rfl, _, _, _, hL 7 _ rfl, _, _, _, hL 8 _ rfl, _, _, _, hL 9 _ rfl, s.done.kind, hL 10 _ rfl, _, _, _, hL 11 _ rfl, s.done.body, hL 12 _ rfl, fun bs => ?_⟩
    iterate 13 refine ⟨⟨rfl, rfl⟩, ?_⟩
    obtain ⟨rm, hrm⟩ : ∃ r, rsA[k]? = some r := ⟨_, List.getElem?_eq_getElem (by rw [hK6.1]; omega)⟩
    have hrow6 := hK6.2 k rm hrm
    obtain ⟨is1, sd1, hs1, -, -⟩ := IntsIn.srcd p1
    refine ⟨rfl, ⟨rfl, rfl⟩, ⟨by omega, by omega⟩, _, _, _, by rw [e0]; exact Look.cells (rvs_get hrm), eq_ok, rfl, ⟨ka, _, kc, s.kids, rm.a, rm.n, rm.cap, kidsA c k⟩, rfl, rfl, ⟨is1, hrow6.src, hs1⟩, ⟨sd1.sub (sub_rest 0 (by simp) rfl), (hrow6.srcd.sub (sub_bag k (by rw [List.getElem?_map, hrm]; rfl))).sub (sub_rest 7 (by simp) rfl)⟩, fun _ _ => br_intro (fun q => new_no (newB_no fun (hp : Placed c) _ _ => ?_) (Ent.pick [77, 0] rfl rfl)) (fun q => ⟨by omega, ⟨k + 1, b1, b5, rA, abv, bk, rsK, ba, rsA, G, 0⟩, ⟨hA, hK, hK6, hkS, fun j hj => ?_⟩, ⟨rfl, rfl, rfl, rfl, rfl, rfl, rfl, trivial⟩, Ent.pick [0, 1, 2, 3, 4, 5, 6, 7, 8] rfl rfl, by dsimp only; omega⟩)⟩
    · have := hp.kids k s hs
      simp [this] at q
    · dsimp only at hj
      by_cases e : j < k
      · exact hkids j e
      · have e : j = k := by omega
        subst e
        unfold kidAt
        rw [hs]
        simpa using q
  · have hk : k = nS c := by omega
    subst hk
    obtain ⟨rm, hrm⟩ : ∃ r, rsK[0]? = some r := ⟨_, List.getElem?_eq_getElem (by rw [hK.1]; omega)⟩
    have hrow := hK.2 0 rm hrm
    have hrl := hrow.len
    rw [ints_length] at hrl
    have hrl : rm.n = (kidsP c 0).length := by
      have : (kidsP c 0).length = rm.n * 1 := hrl
      omega
    refine ⟨⟨rfl, rfl⟩, ⟨by omega, by omega⟩, _, _, _, Look.cells (rvs_get hrm), br_intro (fun q => new_no (newB_no fun (hp : Placed c) _ _ => ?_) (Ent.pick [77, 0] rfl rfl)) (fun q => ?_)⟩
    · have := hp.k00
      apply this
      apply List.eq_nil_of_length_eq_zero
      rw [← hrl]
      have : (rm.n : Int) = 0 := by simpa using q
      omega
    have hne : kidsP c 0 ≠ [] := by
      intro e
      rw [e] at hrl
      have : ¬ (rm.n : Int) = 0 := by simpa using q
      apply this
      rw [hrl]; rfl
    have hp : Placed c := by
      have hh := hhead
      unfold headB at hh
      simp only [Bool.and_eq_true, decide_eq_true_eq] at hh
      refine ⟨hn2, hn128, hh.1.2, hh.2, fun i h0 hi => stB_spec (hA.st i h0 hi), fun i s hs => ?_, hne⟩
      have := hkids i (List.getElem?_eq_some_iff.1 hs).1
      unfold kidAt at this
      rw [hs] at this
      exact this
    have hlat : LatIn (.pred (rest (num 0 (nwS ⟨c, ⟨⟨some ⟨b0, o0, none⟩, n, cap⟩, wt, wb, wd, wi⟩⟩ F ⟨nS c, b1, b5, rA, abv, bk, rsK, ba, rsA, G, b9⟩)) [])) b5 c :=
      nw_lat (v := ChS.v ⟨⟨some ⟨b0, o0, none⟩, n, cap⟩, wt, wb, wd, wi⟩) hp hA hK (hr.sub (sub_rest 0 (by simp) rfl)) hnS (sub_rest 2 (by simp) rfl) (sub_rest 3 (by simp) rfl) (sub_rest 4 (by simp) rfl) (sub_rest 5 (by simp) rfl) (sub_rest 8 (by simp) rfl)
    refine ⟨trans_ok, rfl, ⟨b5, c⟩, rfl, rfl, trivial, hlat, fun _ _ => br_intro (fun q => new_no (newB_no fun _ _ (h : transB c = true) => ?_) (Ent.pick [77, 0] rfl rfl)) (fun q => ?_)⟩
    · dsimp only at q
      rw [h] at q; cases q
    have hT : transB c = true := by dsimp only at q; simpa using q
    iterate 8 refine ⟨⟨rfl, rfl⟩, ?_⟩
    refine ⟨clone_ok, rfl, ⟨c, ⟨⟨some ⟨b0, o0, none⟩, n, cap⟩, wt, wb, wd, wi⟩⟩, rfl, rfl, trivial, hr.sub (sub_rest 0 (by simp) rfl), fun y hy => ?_⟩
    iterate 8 refine ⟨⟨rfl, rfl⟩, ?_⟩
    have h256 : c.trs.length ≤ 256 := by
      have hh := hhead
      unfold headB at hh
      simp only [Bool.and_eq_true, decide_eq_true_eq] at hh
      exact hh.1.1.2
    have hnew : newB c = true := newB_spec.2 ⟨hp, h256, hT⟩
    have hlat2 : LatIn (bagA [.cells b5 (c.cells y.w.v ++ [.slice rA.a rA.n rA.cap, .slice (some ⟨bk, 0, none⟩) n n]) 87, rA.A, .cells bk (rvs rsK) 29, famA rsK, G, y.G]) b5 c :=
      nw_lat (v := y.w.v) hp hA hK (hy.in.sub (sub_bag 5 rfl)) hnS (sub_bag 0 rfl) (sub_bag 1 rfl) (sub_bag 2 rfl) (sub_bag 3 rfl) (sub_bag 4 rfl)
    refine ⟨⟨⟨_, b5⟩, fun _ => hlat2, ?_, ?_⟩⟩
    · dsimp only [newC]
      rw [hnew]; rfl
    · dsimp only [newC]
      rw [hnew]
      exact (Ent.bag [0] [2, 3, 4, 5, 8, 29020] rfl rfl).trans (Ent.pick [1, 0] rfl rfl)
set_option maxRecDepth 100000 in
theorem new_ok : FnOk Try.prog 14 newC :=
  fnOk (N := 185) (by kernel_rfl) Try.func14 rfl (by kernel_rfl) (fun _ => Nat.le_of_ble_eq_true rfl) new_H [] fun x F hc hr => Eq.mpr (by kernel_rfl) (new_vc x F hc hr)
end Go.Proofs.Ytkmdgnbfojkcnaa
