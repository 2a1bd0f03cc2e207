/- The document's answers are the lattice's: plain laws. -/
import Derived.Test.YtfmadkaiigiaiaaLatS
import Derived.Test.YtfmadkaiigiaiaaLatN
set_option linter.all false
namespace Go.Proofs.Ytfmadkaiigiaiaa
open Go
/-! ## together -/
theorem lca_up {c : ChD} (hp : Placed c) {b : Nat} (hb : b < nS c) (hb0 : 0 < b) : ∀ p : Nat, p < nS c → ∃ m : Nat, lcaP c b p = m ∧ m < nS c ∧ insB c b m = true ∧ (m = p ∨ insB c p m = true) ∧ ∀ q, q < nS c → insB c b q = true → (q = p ∨ insB c p q = true) → q ≤ m := by
  intro p
  induction p using Nat.strongRecOn with
  | _ p ih =>
    intro hn
    cases h : insB c b p with
    | true =>
      refine ⟨p, lcaP_yes h, hn, h, .inl rfl, fun q hq _ h2 => ?_⟩
      rcases h2 with h2 | h2
      · omega
      · have := ins_lt hp hn hq h2; omega
    | false =>
      have h0 : 0 < p := by
        rcases Nat.eq_zero_or_pos p with e | e
        · subst e; rw [ins_zero hp hb0 hb] at h; cases h
        · exact e
      obtain ⟨_, _, g3, g4, _⟩ := hp.st p h0 hn
      obtain ⟨t, ht⟩ : ∃ t : Nat, pr c p = t := ⟨(pr c p).toNat, by omega⟩
      obtain ⟨m, m1, m2, m3, m4, m5⟩ := ih t (by omega) (by omega)
      refine ⟨m, by rw [lcaP_no hp hn h, ht]; exact m1, m2, m3, .inr ?_, fun q hq hbq h2 => ?_⟩
      · rw [ins_step hp h0 hn m2, ht, Int.toNat_natCast]
        rcases m4 with m4 | m4
        · rw [m4]; simp
        · rw [m4]; simp
      · rcases h2 with h2 | h2
        · subst h2; rw [h] at hbq; cases hbq
        · rw [ins_step hp h0 hn hq, ht, Int.toNat_natCast] at h2
          simp only [Bool.or_eq_true, decide_eq_true_eq] at h2
          exact m5 q hq hbq (h2.imp Eq.symm id)
theorem lca_spec {c : ChD} (hp : Placed c) {a b : Nat} (ha : a < nS c) (hb : b < nS c) (hne : a ≠ b) (h1 : insB c a b = false) (h2 : insB c b a = false) : ∃ m : Nat, lcaP c b (pr c a) = m ∧ m < nS c ∧ insB c a m = true ∧ insB c b m = true ∧ ∀ q, q < nS c → insB c a q = true → insB c b q = true → q ≤ m := by
  have ha0 : 0 < a := by
    rcases Nat.eq_zero_or_pos a with e | e
    · subst e; rw [ins_zero hp (by omega) hb] at h2; cases h2
    · exact e
  have hb0 : 0 < b := by
    rcases Nat.eq_zero_or_pos b with e | e
    · subst e; rw [ins_zero hp (by omega) ha] at h1; cases h1
    · exact e
  obtain ⟨_, _, g3, g4, _⟩ := hp.st a ha0 ha
  obtain ⟨t, ht⟩ : ∃ t : Nat, pr c a = t := ⟨(pr c a).toNat, by omega⟩
  obtain ⟨m, m1, m2, m3, m4, m5⟩ := lca_up hp hb hb0 t (by omega)
  have hstep : ∀ q, q < nS c → (insB c a q = true ↔ q = t ∨ insB c t q = true) := fun q hq => by
    rw [ins_step hp ha0 ha hq, ht, Int.toNat_natCast]
    simp only [Bool.or_eq_true, decide_eq_true_eq]
    exact or_congr eq_comm Iff.rfl
  exact ⟨m, by rw [ht]; exact m1, m2, (hstep m m2).2 m4, m3, fun q hq haq hbq => m5 q hq hbq ((hstep q hq).1 haq)⟩
/-- The greatest below k around both. -/
def bestT (c : ChD) (a b : Nat) : Nat → Int
  | 0 => -1
  | k + 1 => bif insB c a k && insB c b k then (k : Int) else bestT c a b k
theorem bestT_max {c : ChD} {a b m : Nat} (h1 : insB c a m = true) (h2 : insB c b m = true) : ∀ k, m < k → (∀ q, q < k → insB c a q = true → insB c b q = true → q ≤ m) → bestT c a b k = m := by
  intro k
  induction k with
  | zero => intro h; omega
  | succ k ih =>
    intro h hq
    rw [bestT]
    by_cases e : k = m
    · subst e
      rw [h1, h2]; rfl
    · cases hb : insB c a k && insB c b k with
      | true =>
        simp only [Bool.and_eq_true] at hb
        have := hq k (by omega) hb.1 hb.2
        omega
      | false =>
        rw [cond_false]
        exact ih (by omega) fun q h3 => hq q (by omega)
def refTg (c : ChD) (a d : Int) : Bool := bif plB c a == plB c d then false else bif inB c (plB c a) (plB c d) then false else bif inB c (plB c d) (plB c a) then false else bif decide (bestT c (plB c a).toNat (plB c d).toNat (nS c) ≥ 0) then kd c (bestT c (plB c a).toNat (plB c d).toNat (nS c)).toNat == 2 else false
theorem refTg_eq {c : ChD} (hp : Placed c) {a d : Int} (ha : isS c a = true) (hd : isS c d = true) : refTg c a d = tgB c a d := by
  obtain ⟨i, hi, hin⟩ := isS_spec (plB_ok hp ha)
  obtain ⟨j, hj, hjn⟩ := isS_spec (plB_ok hp hd)
  unfold refTg tgB
  rw [hi, hj, Int.toNat_natCast, Int.toNat_natCast, inB_nat hin hjn, inB_nat hjn hin]
  cases h0 : ((i : Int) == (j : Int)) with
  | true => rfl
  | false =>
    rw [cond_false, cond_false]
    cases h1 : insB c i j with
    | true => rfl
    | false =>
      rw [cond_false, cond_false]
      cases h2 : insB c j i with
      | true => rfl
      | false =>
        rw [cond_false, cond_false]
        have hne : i ≠ j := by
          intro e
          subst e
          simp at h0
        obtain ⟨m, m1, m2, m3, m4, m5⟩ := lca_spec hp hin hjn hne h1 h2
        rw [bestT_max m3 m4 (nS c) m2 m5, m1, decide_eq_true (by omega), cond_true]
theorem tgB_comm {c : ChD} (hp : Placed c) {a d : Int} (ha : isS c a = true) (hd : isS c d = true) : tgB c a d = tgB c d a := by
  obtain ⟨i, hi, hin⟩ := isS_spec (plB_ok hp ha)
  obtain ⟨j, hj, hjn⟩ := isS_spec (plB_ok hp hd)
  unfold tgB
  rw [hi, hj, Int.toNat_natCast, Int.toNat_natCast, show ((j : Int) == (i : Int)) = ((i : Int) == (j : Int)) from Bool.beq_comm]
  cases h0 : ((i : Int) == (j : Int)) with
  | true => rfl
  | false =>
    rw [cond_false, cond_false]
    cases h1 : insB c i j with
    | true => cases insB c j i <;> rfl
    | false =>
      cases h2 : insB c j i with
      | true => rfl
      | false =>
        simp only [cond_false]
        have hne : i ≠ j := by
          intro e
          subst e
          simp at h0
        obtain ⟨m, m1, m2, m3, m4, m5⟩ := lca_spec hp hin hjn hne h1 h2
        obtain ⟨m', m1', m2', m3', m4', m5'⟩ := lca_spec hp hjn hin (Ne.symm hne) h2 h1
        have : m = m' := by
          have := m5 m' m2' m4' m3'
          have := m5' m m2 m4 m3
          omega
        rw [m1, m1', this]
/-! ## common -/
def cmQ (c : ChD) (xs : List Int) (p : Nat) : Bool := decide (kd c p < 2) && xs.all fun a => inB c a p
def bestC (c : ChD) (xs : List Int) : Nat → Int
  | 0 => -1
  | k + 1 => bif cmQ c xs k then (k : Int) else bestC c xs k
theorem bestC_max {c : ChD} {xs : List Int} {m : Nat} (h1 : cmQ c xs m = true) : ∀ k, m < k → (∀ q, q < k → cmQ c xs q = true → q ≤ m) → bestC c xs k = m := by
  intro k
  induction k with
  | zero => intro h; omega
  | succ k ih =>
    intro h hq
    rw [bestC]
    by_cases e : k = m
    · subst e
      rw [h1]; rfl
    · cases hb : cmQ c xs k with
      | true => have := hq k (by omega) hb; omega
      | false =>
        rw [cond_false]
        exact ih (by omega) fun q h3 => hq q (by omega)
theorem bestC_no {c : ChD} {xs : List Int} : ∀ k, (∀ q, q < k → cmQ c xs q = false) → bestC c xs k = -1 := by
  intro k
  induction k with
  | zero => intro _; rfl
  | succ k ih =>
    intro hq
    rw [bestC, hq k (by omega), cond_false]
    exact ih fun q h => hq q (by omega)
theorem com_kd (c : ChD) (hp : Placed c) (xs : List Int) (h : comV c xs ≥ 0) : isS c (comV c xs) = true ∧ kd c (comV c xs).toNat ≤ 1 := by
  cases xs with
  | nil => simp [comV] at h
  | cons x r =>
    rw [comV_cons] at h ⊢
    cases hb : (x :: r).any (fun a => !isS c a) with
    | true => rw [hb, cond_true] at h; omega
    | false =>
      rw [hb, cond_false] at h
      rw [cond_false]
      rcases comL_spec c (x :: r) (abvV c x (-1)) with h1 | ⟨h1, h2⟩
      · rw [h1] at h; omega
      · refine ⟨abvV_mem hp h1, ?_⟩
        unfold comQ at h2
        simp only [Bool.and_eq_true, decide_eq_true_eq] at h2
        exact h2.1
theorem bestC_eq {c : ChD} (hp : Placed c) {xs : List Int} (hn : xs ≠ []) : bestC c xs (nS c) = comV c xs := by
  obtain ⟨g1, g2⟩ := com_ge c hp xs
  have best : ∀ q, q < nS c → cmQ c xs q = true → ((q : Int) = comV c xs ∨ inB c (comV c xs) q = true) := fun q hq h => by
    unfold cmQ at h
    simp only [Bool.and_eq_true, decide_eq_true_eq, List.all_eq_true] at h
    exact com_best c hp xs q hq hn (by omega) h.2
  by_cases h0 : comV c xs ≥ 0
  · obtain ⟨h1, h2⟩ := com_kd c hp xs h0
    obtain ⟨m, hm, hmn⟩ := isS_spec h1
    have g2 := g2 h0
    rw [hm] at h2 g2 best ⊢
    refine bestC_max ?_ _ hmn fun q hq h => ?_
    · unfold cmQ
      rw [Bool.and_eq_true, List.all_eq_true]
      rw [Int.toNat_natCast] at h2
      exact ⟨decide_eq_true (by omega), g2⟩
    · rcases best q hq h with h | h
      · omega
      · rw [inB_nat hmn hq] at h
        have := ins_lt hp hmn hq h
        omega
  · have hm : comV c xs = -1 := by omega
    rw [hm]
    refine bestC_no _ fun q hq => ?_
    rw [← Bool.not_eq_true]
    intro h
    rcases best q hq h with h | h
    · omega
    · rw [hm] at h
      obtain ⟨i, j, hi, -⟩ := inB_spec h
      omega
/-! ## legal -/
def r1B (c : ChD) (all : List Int) : Int → List Int → Bool
  | _, [] => true
  | prev, s :: r => bif decide (s < 1) || !isS c s || decide (kd c s.toNat > 3) || decide (prev ≥ s) then false else bif (pr c s.toNat != 0) && !memB all (pr c s.toNat) then false else r1B c all s r
theorem r1B_gt {c : ChD} {all : List Int} : ∀ (r : List Int) (prev : Int), r1B c all prev r = true → ∀ u ∈ r, prev < u
  | [], _, _, u, hu => by simp at hu
  | s :: r, prev, h, u, hu => by
    rw [r1B] at h
    cases h1 : (decide (s < 1) || !isS c s || decide (kd c s.toNat > 3) || decide (prev ≥ s)) with
    | true => rw [h1] at h; cases h
    | false =>
      rw [h1, cond_false] at h
      simp only [Bool.or_eq_false_iff, decide_eq_false_iff_not] at h1
      cases h2 : ((pr c s.toNat != 0) && !memB all (pr c s.toNat)) with
      | true => rw [h2] at h; cases h
      | false =>
        rw [h2, cond_false] at h
        rcases List.mem_cons.1 hu with rfl | hu
        · omega
        · have := r1B_gt r s h u hu
          omega
theorem memB_iff {l : List Int} {u : Int} : memB l u = true ↔ u ∈ l := by
  unfold memB
  rw [List.any_eq_true]
  constructor
  · rintro ⟨x, hx, h⟩
    have : u = x := by simpa using h
    rw [this]; exact hx
  · intro h; exact ⟨u, h, by simp⟩
theorem cfB_r1 {c : ChD} (hp : Placed c) : ∀ (r dn : List Int) (prev : Int) (bs : List Bool), bs.length = nS c → (∀ i : Nat, bAt bs i = true ↔ (i : Int) ∈ dn) → (∀ u ∈ dn, u ≤ prev) → (cfB c prev bs r).isSome = r1B c (dn ++ r) prev r
  | [], dn, prev, bs, hl, hb, hd => rfl
  | s :: r, dn, prev, bs, hl, hb, hd => by
    rw [cfB_cons, r1B]
    cases h1 : decide (s < 1) with
    | true => rfl
    | false =>
    cases h2 : isS c s with
    | false => rfl
    | true =>
    by_cases h3 : kd c s.toNat ≥ 4
    · rw [decide_eq_true h3, decide_eq_true (show kd c s.toNat > 3 by omega)]; rfl
    rw [decide_eq_false h3, decide_eq_false (show ¬ kd c s.toNat > 3 by omega)]
    cases h4 : decide (prev ≥ s) with
    | true => rfl
    | false =>
    simp only [Bool.not_true, Bool.or_false, cond_false]
    obtain ⟨i, rfl, hi⟩ := isS_spec h2
    have h1 := of_decide_eq_false h1
    have h4 := of_decide_eq_false h4
    rw [Int.toNat_natCast]
    obtain ⟨_, _, g3, g4, _⟩ := hp.st i (by omega) hi
    obtain ⟨m, hm⟩ : ∃ m : Nat, pr c i = m := ⟨(pr c i).toNat, by omega⟩
    rw [hm] at g4 ⊢
    have hset : ∀ j : Nat, bAt (bs.set i true) j = true ↔ (j : Int) ∈ dn ++ [(i : Int)] := fun j => by
      rw [bAt_set (by omega), hb, List.mem_append, List.mem_singleton]
      constructor
      · rintro (h | h)
        · right; omega
        · exact .inl h
      · rintro (h | h)
        · exact .inr h
        · left; omega
    have hrec := cfB_r1 hp r (dn ++ [(i : Int)]) i (bs.set i true) (by rw [List.length_set]; exact hl) hset (fun u hu => by
      rcases List.mem_append.1 hu with hu | hu
      · have := hd u hu; omega
      · rw [List.mem_singleton] at hu; omega)
    rw [List.append_assoc, List.singleton_append] at hrec
    by_cases h0 : m = 0
    · subst h0
      have e1 : (decide (((0 : Nat) : Int) > 0) && !bAt bs ((0 : Nat) : Int)) = false := rfl
      have e2 : ((((0 : Nat) : Int) != 0) && !memB (dn ++ (i : Int) :: r) ((0 : Nat) : Int)) = false := rfl
      rw [e1, e2, cond_false, cond_false]
      exact hrec
    · have e0 : decide ((m : Int) > 0) = true := decide_eq_true (by omega)
      have e0' : ((m : Int) != 0) = true := by
        have : ¬ (m : Int) = 0 := by omega
        simpa using this
      rw [e0, e0', Bool.true_and, Bool.true_and]
      cases hbm : bAt bs m with
      | true =>
        have : memB (dn ++ (i : Int) :: r) m = true := memB_iff.2 (List.mem_append_left _ ((hb m).1 hbm))
        rw [this]
        exact hrec
      | false =>
        rw [Bool.not_false, cond_true]
        cases hmm : memB (dn ++ (i : Int) :: r) m with
        | false => rfl
        | true =>
          rw [Bool.not_true, cond_false]
          cases hr : r1B c (dn ++ (i : Int) :: r) i r with
          | false => rfl
          | true =>
            exfalso
            have := memB_iff.1 hmm
            rcases List.mem_append.1 this with h | h
            · have := (hb m).2 h
              rw [hbm] at this; cases this
            · rcases List.mem_cons.1 h with h | h
              · omega
              · have := r1B_gt r i hr m h
                omega
def cntR (cf ks : List Int) : Int := (ks.countP fun k => memB cf k : Nat)
def lgR (c : ChD) (cf : List Int) (s : Nat) : Bool := bif decide ((s : Int) > 0) && !memB cf s then true else bif coB c s && (cntR cf (kidsP c s) != 1) then false else bif (kd c s == 2) && decide (cntR cf (kidsP c s) < (kidsP c s).length) then false else true
def lgRL (c : ChD) (cf : List Int) : Nat → Nat → Bool
  | 0, _ => true
  | f + 1, s => lgR c cf s && lgRL c cf f (s + 1)
theorem countP_cong {α : Type} {f g : α → Bool} : ∀ {l : List α}, (∀ x ∈ l, f x = g x) → l.countP f = l.countP g
  | [], _ => rfl
  | x :: l, h => by rw [List.countP_cons, List.countP_cons, h x (List.mem_cons_self ..), countP_cong fun y hy => h y (List.mem_cons_of_mem _ hy)]
theorem legB_ref {c : ChD} (hp : Placed c) (cf : List Int) : legB c cf = (r1B c cf 0 cf && lgRL c cf (nS c) 0 && decide ((cf.length : Int) > 0)) := by
  have hn2 := hp.n2
  have hz : ∀ i : Nat, bAt (List.replicate (nS c) false) i = false := by
    intro i
    unfold bAt
    rw [List.getElem?_replicate]
    split <;> rfl
  have h1 := cfB_r1 hp cf [] 0 (List.replicate (nS c) false) (List.length_replicate ..) (fun i => by rw [hz]; simp) (fun u hu => by simp at hu)
  rw [List.nil_append] at h1
  unfold legB
  cases hb : cfB c 0 (List.replicate (nS c) false) cf with
  | none =>
    rw [hb] at h1
    rw [← h1]; rfl
  | some bs =>
    rw [hb] at h1
    rw [← h1]
    dsimp only [Option.isSome]
    rw [Bool.true_and]
    congr 1
    obtain ⟨g1, g2, g3⟩ := cfB_spec cf 0 _ bs (List.length_replicate ..) hb
    have hbs : ∀ i : Nat, bAt (bs.set 0 true) i = true ↔ i = 0 ∨ (i : Int) ∈ cf := fun i => by rw [bAt_set (by omega), g2, hz]; simp
    have kid : ∀ (i : Nat) (k : Int), k ∈ kidsP c i → bAt (bs.set 0 true) k = memB cf k := by
      intro i k hk
      obtain ⟨m, rfl, hm0, -⟩ := mem_kidsOf.1 hk
      rw [Bool.eq_iff_iff, hbs, memB_iff]
      constructor
      · rintro (h | h)
        · omega
        · exact h
      · exact .inr
    have hone : ∀ s : Nat, lgS c (bs.set 0 true) s = lgR c cf s := by
      intro s
      have hcnt : cnt (bs.set 0 true) (kidsP c s) = cntR cf (kidsP c s) := by
        unfold cnt cntR
        rw [countP_cong fun k hk => kid s k hk]
      unfold lgS lgR
      rw [hcnt]
      have hin : bAt (bs.set 0 true) s = !(decide ((s : Int) > 0) && !memB cf s) := by
        rw [Bool.eq_iff_iff, hbs]
        by_cases e : s = 0
        · subst e; simp
        · rw [decide_eq_true (show (s : Int) > 0 by omega), Bool.true_and, Bool.not_not, memB_iff]
          simp [e]
      rw [hin]
      have hlen : ((kidsP c s).length : Int) ≥ cntR cf (kidsP c s) := by
        unfold cntR
        exact Int.ofNat_le.2 (List.countP_le_length ..)
      have hcmp : decide (cntR cf (kidsP c s) < (kidsP c s).length) = (cntR cf (kidsP c s) != (kidsP c s).length) := by
        rw [Bool.eq_iff_iff]
        simp only [decide_eq_true_eq, bne_iff_ne]
        omega
      rw [hcmp]
      cases (decide ((s : Int) > 0) && !memB cf s) with
      | true => rfl
      | false =>
        simp only [Bool.not_false, cond_true, cond_false]
        cases coB c s with
        | true =>
          cases cntR cf (kidsP c s) != 1 with
          | true => rfl
          | false =>
            cases kd c s == 2 with
            | true => cases cntR cf (kidsP c s) != (kidsP c s).length <;> rfl
            | false => rfl
        | false =>
          cases kd c s == 2 with
          | true => cases cntR cf (kidsP c s) != (kidsP c s).length <;> rfl
          | false => rfl
    have : ∀ f s, lgL c (bs.set 0 true) f s = lgRL c cf f s := by
      intro f
      induction f with
      | zero => intro s; rfl
      | succ f ih => intro s; rw [lgL, lgRL, hone, ih]
    exact this _ _
/-! ## finished -/
def kidW (c : ChD) (a : Int) : List Int := bif isS c a then kidsP c a.toNat else []
def finR (c : ChD) (cf : List Int) : Nat → Int → Bool
  | 0, _ => false
  | d + 1, a => bif ((kidW c a).length : Int) == 0 then false else bif kd c a.toNat == 2 then (kidW c a).all (finR c cf d) else (kidW c a).any (f1B c cf)
theorem all_cong {α : Type} {f g : α → Bool} : ∀ {l : List α}, (∀ x ∈ l, f x = g x) → l.all f = l.all g
  | [], _ => rfl
  | x :: l, h => by rw [List.all_cons, List.all_cons, h x (List.mem_cons_self ..), all_cong fun y hy => h y (List.mem_cons_of_mem _ hy)]
theorem finR_eq {c : ChD} (hp : Placed c) (cf : List Int) : ∀ (d : Nat) (a : Int), finR c cf d a = finB c cf d a := by
  intro d
  induction d with
  | zero => intro a; rfl
  | succ d ih =>
    intro a
    rw [finR, finB]
    unfold kidW
    cases ha : isS c a with
    | false => rfl
    | true =>
      rw [cond_true, Bool.not_true, cond_false]
      obtain ⟨i, rfl, hi⟩ := isS_spec ha
      rw [Int.toNat_natCast]
      have hco : coB c i = (decide (kd c i ≤ 1) && decide (((kidsP c i).length : Int) > 0)) := by
        unfold coB
        rw [ha, Int.toNat_natCast]; rfl
      cases hk : kidsP c i with
      | nil =>
        rw [hco, hk]
        simp
      | cons x l =>
        have h1 : ((((x :: l).length : Nat) : Int) == 0) = false := by
          have : ¬ ((((x :: l).length : Nat) : Int) = 0) := by rw [List.length_cons]; omega
          simpa using this
        have h2 : decide (((x :: l).length : Int) > 0) = true := decide_eq_true (by rw [List.length_cons]; omega)
        have hx : x ∈ kidsP c i := by rw [hk]; exact List.mem_cons_self ..
        obtain ⟨t, rfl, t1, t2, t3, t4⟩ := mem_kidsOf.1 hx
        have hkd : kd c i ≤ 2 := by
          have := (hp.st t t1 t2).2.2.2.2
          rw [t3] at this
          exact this
        rw [h1, cond_false, hco, hk, h2, Bool.and_true]
        by_cases e : kd c i = 2
        · have e1 : (kd c i == 2) = true := by rw [e]; rfl
          have e2 : (kd c i != 2) = false := by rw [e]; rfl
          rw [e1, e2, decide_eq_false (by omega), cond_true, cond_false, cond_false, cond_false, List.not_any_eq_all_not]
          exact all_cong fun k _ => by rw [ih, Bool.not_not]
        · have e1 : (kd c i == 2) = false := by simpa using e
          rw [e1, decide_eq_true (by omega), cond_false, cond_true]
end Go.Proofs.Ytfmadkaiigiaiaa
