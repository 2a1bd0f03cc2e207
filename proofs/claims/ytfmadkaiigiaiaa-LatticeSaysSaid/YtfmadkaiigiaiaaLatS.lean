/- What a legal configuration is like. -/
import Derived.Test.YtfmadkaiigiaiaaLatP
import Derived.Test.YtfmadkaiigiaiaaLatM
set_option linter.all false
namespace Go.Proofs.Ytfmadkaiigiaiaa
open Go
theorem bAt_set {bs : List Bool} {k i : Nat} (hk : k < bs.length) : bAt (bs.set k true) i = true ↔ i = k ∨ bAt bs i = true := by
  unfold bAt
  rw [Int.toNat_natCast]
  by_cases e : i = k
  · subst e
    rw [List.getElem?_set_self hk]; simp
  · rw [List.getElem?_set_ne (Ne.symm e)]
    simp [e]
theorem cfB_spec {c : ChD} : ∀ (cf : List Int) (prev : Int) (bs bs' : List Bool), bs.length = nS c → cfB c prev bs cf = some bs' →
    bs'.length = nS c ∧ (∀ i : Nat, bAt bs' i = true ↔ bAt bs i = true ∨ (i : Int) ∈ cf) ∧ ∀ s ∈ cf, ∃ i : Nat, s = i ∧ 1 ≤ i ∧ i < nS c ∧ kd c i < 4 ∧ (pr c i ≤ 0 ∨ bAt bs' (pr c i) = true)
  | [], prev, bs, bs', hl, h => by
    rw [cfB] at h
    cases h
    exact ⟨hl, fun i => by simp, fun s hs => by simp at hs⟩
  | s :: r, prev, bs, bs', hl, h => by
    rw [cfB_cons] at h
    cases h1 : decide (s < 1) with
    | true => rw [h1] at h; cases h
    | false =>
    rw [h1, cond_false] at h
    cases h2 : isS c s with
    | false => rw [h2] at h; cases h
    | true =>
    rw [h2] at h
    simp only [Bool.not_true, cond_false] at h
    cases h3 : decide (kd c s.toNat ≥ 4) with
    | true => rw [h3] at h; cases h
    | false =>
    rw [h3, cond_false] at h
    cases h4 : decide (prev ≥ s) with
    | true => rw [h4] at h; cases h
    | false =>
    rw [h4, cond_false] at h
    cases h5 : decide (pr c s.toNat > 0) && !bAt bs (pr c s.toNat) with
    | true => rw [h5] at h; cases h
    | false =>
    rw [h5, cond_false] at h
    obtain ⟨i, rfl, hi⟩ := isS_spec h2
    rw [Int.toNat_natCast] at h h3 h5
    obtain ⟨g1, g2, g3⟩ := cfB_spec r i (bs.set i true) bs' (by rw [List.length_set]; exact hl) h
    have hset : ∀ j : Nat, bAt (bs.set i true) j = true ↔ j = i ∨ bAt bs j = true := fun j => bAt_set (by omega)
    refine ⟨g1, fun j => ?_, fun u hu => ?_⟩
    · rw [g2, hset, List.mem_cons]
      constructor
      · rintro ((rfl | h) | h)
        · exact .inr (.inl rfl)
        · exact .inl h
        · exact .inr (.inr h)
      · rintro (h | h | h)
        · exact .inl (.inr h)
        · left; left; omega
        · exact .inr h
    · rcases List.mem_cons.1 hu with rfl | hu
      · refine ⟨i, rfl, ?_, hi, ?_, ?_⟩
        · have := of_decide_eq_false h1; omega
        · have := of_decide_eq_false h3; omega
        · by_cases hp : pr c i > 0
          · right
            rw [decide_eq_true hp, Bool.true_and] at h5
            obtain ⟨m, hm⟩ : ∃ m : Nat, pr c i = m := ⟨(pr c i).toNat, by omega⟩
            rw [hm] at h5 ⊢
            rw [g2, hset]
            exact .inl (.inr (by simpa using h5))
          · left; omega
      · exact g3 u hu
theorem lgL_spec {c : ChD} {bs : List Bool} : ∀ (f s : Nat), lgL c bs f s = true → ∀ i, s ≤ i → i < s + f → lgS c bs i = true
  | 0, s, _, i, h1, h2 => by omega
  | f + 1, s, h, i, h1, h2 => by
    rw [lgL, Bool.and_eq_true] at h
    by_cases e : i = s
    · subst e; exact h.1
    · exact lgL_spec f (s + 1) h.2 i (by omega) (by omega)
structure LegalP (c : ChD) (cf : List Int) : Prop where
  st : ∀ s ∈ cf, ∃ i : Nat, s = i ∧ 1 ≤ i ∧ i < nS c ∧ kd c i < 4 ∧ (pr c i ≤ 0 ∨ pr c i ∈ cf)
  co : ∀ i : Nat, i < nS c → i = 0 ∨ (i : Int) ∈ cf → coB c i = true → ∃ k ∈ kidsP c i, k ∈ cf
  pa : ∀ i : Nat, i < nS c → i = 0 ∨ (i : Int) ∈ cf → kd c i = 2 → ∀ k ∈ kidsP c i, k ∈ cf
  ne : cf ≠ []
theorem legal_spec {c : ChD} (hp : Placed c) {cf : List Int} (h : legB c cf = true) : LegalP c cf := by
  unfold legB at h
  have hn2 := hp.n2
  cases hb : cfB c 0 (List.replicate (nS c) false) cf with
  | none => rw [hb] at h; cases h
  | some bs =>
    rw [hb] at h
    simp only [Bool.and_eq_true, decide_eq_true_eq] at h
    obtain ⟨g1, g2, g3⟩ := cfB_spec cf 0 _ bs (List.length_replicate ..) hb
    have hz : ∀ i : Nat, bAt (List.replicate (nS c) false) i = false := by
      intro i
      unfold bAt
      rw [List.getElem?_replicate]
      split <;> rfl
    have g2' : ∀ i : Nat, bAt bs i = true ↔ (i : Int) ∈ cf := fun i => by rw [g2, hz]; simp
    have hbs : ∀ i : Nat, bAt (bs.set 0 true) i = true ↔ i = 0 ∨ (i : Int) ∈ cf := fun i => by rw [bAt_set (by omega), g2']
    have hS : ∀ i, i < nS c → lgS c (bs.set 0 true) i = true := fun i hi => lgL_spec _ _ h.1 i (Nat.zero_le _) (by omega)
    have kid : ∀ (i : Nat) (k : Int), k ∈ kidsP c i → (bAt (bs.set 0 true) k = true ↔ k ∈ cf) := by
      intro i k hk
      obtain ⟨m, rfl, hm0, -⟩ := mem_kidsOf.1 hk
      rw [hbs]
      constructor
      · rintro (h | h)
        · omega
        · exact h
      · exact .inr
    refine ⟨fun s hs => ?_, fun i hi hin hco => ?_, fun i hi hin hkd => ?_, ?_⟩
    · obtain ⟨i, rfl, h1, h2, h3, h4⟩ := g3 s hs
      refine ⟨i, rfl, h1, h2, h3, ?_⟩
      rcases h4 with h4 | h4
      · exact .inl h4
      · by_cases h0 : pr c i ≤ 0
        · exact .inl h0
        · obtain ⟨m, hm⟩ : ∃ m : Nat, pr c i = m := ⟨(pr c i).toNat, by omega⟩
          rw [hm] at h4 ⊢
          exact .inr ((g2' m).1 h4)
    · have h1 := hS i hi
      unfold lgS at h1
      rw [(hbs i).2 hin, cond_true, hco, cond_true] at h1
      cases hc : (cnt (bs.set 0 true) (kidsP c i) != 1) with
      | true => rw [hc] at h1; cases h1
      | false =>
        have : cnt (bs.set 0 true) (kidsP c i) = 1 := by simpa using hc
        unfold cnt at this
        have hpos : 0 < (kidsP c i).countP fun k => bAt (bs.set 0 true) k := by omega
        obtain ⟨k, hk, hk2⟩ := List.countP_pos_iff.1 hpos
        exact ⟨k, hk, (kid i k hk).1 hk2⟩
    · have h1 := hS i hi
      unfold lgS at h1
      have hco : coB c i = false := by
        unfold coB
        have : (i : Int).toNat = i := rfl
        rw [this, hkd]; simp
      have hk2 : (kd c i == 2) = true := by rw [hkd]; rfl
      rw [(hbs i).2 hin, cond_true, hco, cond_false, hk2, cond_true] at h1
      have h2 : cnt (bs.set 0 true) (kidsP c i) = (kidsP c i).length := by simpa using h1
      unfold cnt at h2
      have h3 : ((kidsP c i).countP fun k => bAt (bs.set 0 true) k) = (kidsP c i).length := by omega
      rw [List.countP_eq_length] at h3
      intro k hk
      exact (kid i k hk).1 (h3 k hk)
    · intro e
      rw [e] at h
      simp at h
/-- Whatever is around a state of it, but the root, is in it. -/
theorem LegalP.up {c : ChD} (hp : Placed c) {cf : List Int} (h : LegalP c cf) : ∀ (i j : Nat), (i : Int) ∈ cf → j < nS c → 0 < j → insB c i j = true → (j : Int) ∈ cf := by
  intro i
  induction i using Nat.strongRecOn with
  | _ i ih =>
    intro j hi hj h0 hij
    obtain ⟨i', e, h1, h2, h3, h4⟩ := h.st i hi
    have e : i = i' := by omega
    subst e
    obtain ⟨_, _, g3, g4, _⟩ := hp.st i h1 h2
    obtain ⟨m, hm⟩ : ∃ m : Nat, pr c i = m := ⟨(pr c i).toNat, by omega⟩
    rw [ins_step hp h1 h2 hj, hm, Int.toNat_natCast] at hij
    simp only [Bool.or_eq_true, decide_eq_true_eq] at hij
    rw [hm] at h4 g4
    rcases hij with e | e
    · subst e
      rcases h4 with h4 | h4
      · omega
      · exact h4
    · rcases h4 with h4 | h4
      · have : m = 0 := by omega
        subst this
        rw [ins_root c (by omega)] at e; cases e
      · exact ih m (by omega) j h4 hj h0 e
/-- The kid on the way. -/
theorem ins_kid {c : ChD} (hp : Placed c) : ∀ (k s : Nat), k < nS c → s < nS c → insB c k s = true → ∃ t : Nat, 0 < t ∧ t < nS c ∧ pr c t = s ∧ (t = k ∨ insB c k t = true) := by
  intro k
  induction k using Nat.strongRecOn with
  | _ k ih =>
    intro s hk hs h
    rcases Nat.eq_zero_or_pos k with e | e
    · subst e; rw [ins_root c hk] at h; cases h
    · obtain ⟨_, _, g3, g4, _⟩ := hp.st k e hk
      obtain ⟨m, hm⟩ : ∃ m : Nat, pr c k = m := ⟨(pr c k).toNat, by omega⟩
      rw [ins_step hp e hk hs, hm, Int.toNat_natCast] at h
      simp only [Bool.or_eq_true, decide_eq_true_eq] at h
      rcases h with h | h
      · subst h; exact ⟨k, e, hk, hm, .inl rfl⟩
      · obtain ⟨t, t1, t2, t3, t4⟩ := ih m (by omega) s (by omega) hs h
        refine ⟨t, t1, t2, t3, .inr ?_⟩
        rw [ins_step hp e hk t2, hm, Int.toNat_natCast]
        rcases t4 with rfl | t4
        · simp
        · rw [t4]; simp
/-- Atomic, or something of it is inside. -/
theorem LegalP.atom {c : ChD} (hp : Placed c) {cf : List Int} (h : LegalP c cf) {s : Int} (hs : s ∈ cf) : atB c s = !cf.any fun k => inB c k s := by
  obtain ⟨i, rfl, h1, h2, h3, h4⟩ := h.st s hs
  have hlen : atB c i = ((kidsP c i).length == 0) := by
    unfold atB
    have : (i : Int).toNat = i := rfl
    rw [isS_nat h2, this, decide_eq_true h3]
    cases kidsP c i with
    | nil => rfl
    | cons x l =>
      rw [List.length_cons]
      have : ¬ ((l.length : Int) + 1 = 0) := by omega
      simp [this]
  rw [hlen]
  cases hk : kidsP c i with
  | nil =>
    have : (cf.any fun k => inB c k i) = false := any_no fun k hkm => by
      rw [← Bool.not_eq_true]
      intro hin
      obtain ⟨k', i', rfl, e, hk', _, hki⟩ := inB_spec hin
      have e : i = i' := by omega
      subst e
      obtain ⟨t, t1, t2, t3, t4⟩ := ins_kid hp k' i hk' h2 hki
      have htc : (t : Int) ∈ cf := by
        rcases t4 with rfl | t4
        · exact hkm
        · exact h.up hp k' t hkm t2 t1 t4
      obtain ⟨t', e, _, _, ht4, _⟩ := h.st t htc
      have e : t = t' := by omega
      subst e
      have : (t : Int) ∈ kidsP c i := mem_kidsOf.2 ⟨t, rfl, t1, t2, t3, ht4⟩
      rw [hk] at this; simp at this
    rw [this]; rfl
  | cons x l =>
    have hx : x ∈ kidsP c i := by rw [hk]; exact List.mem_cons_self ..
    obtain ⟨t, rfl, t1, t2, t3, t4⟩ := mem_kidsOf.1 hx
    have hkd : kd c i ≤ 2 := by
      have := (hp.st t t1 t2).2.2.2.2
      rw [t3] at this
      exact this
    have hkd1 := (hp.st i h1 h2).1
    obtain ⟨k, hk1, hk2⟩ : ∃ k ∈ kidsP c i, k ∈ cf := by
      by_cases e : kd c i = 2
      · exact ⟨t, hx, h.pa i h2 (.inr hs) e t hx⟩
      · refine h.co i h2 (.inr hs) ?_
        unfold coB
        have : (i : Int).toNat = i := rfl
        rw [isS_nat h2, this, decide_eq_true (by omega), hk, List.length_cons, decide_eq_true (by omega)]; rfl
    obtain ⟨m, rfl, m1, m2, m3, m4⟩ := mem_kidsOf.1 hk1
    have : (cf.any fun k => inB c k i) = true := List.any_eq_true.2 ⟨m, hk2, by
      rw [inB_nat m2 h2, ins_step hp m1 m2 h2, m3]; simp⟩
    rw [this]; rfl
theorem mem_abv0 {c : ChD} (hp : Placed c) : ∀ (i : Nat), i < nS c → ∀ u : Int, u ∈ abvP c 0 (pr c i) → ∃ j : Nat, u = j ∧ 0 < j ∧ j < nS c ∧ insB c i j = true := by
  intro i
  induction i using Nat.strongRecOn with
  | _ i ih =>
    intro hi u hu
    rcases Nat.eq_zero_or_pos i with e | e
    · subst e
      rw [hp.p0, abvP_stop (.inl (by omega))] at hu
      simp at hu
    · obtain ⟨_, _, h3, h4, _⟩ := hp.st i e hi
      obtain ⟨m, hm⟩ : ∃ m : Nat, pr c i = m := ⟨(pr c i).toNat, by omega⟩
      rw [hm] at hu h4
      by_cases h0 : m = 0
      · subst h0
        have h := abvP_stop (c := c) (top := 0) (p := ((0 : Nat) : Int)) (.inr rfl)
        rw [h] at hu
        simp at hu
      · rw [abvP_step hp (by omega) (by omega)] at hu
        rcases List.mem_cons.1 hu with rfl | hu
        · exact ⟨m, rfl, by omega, by omega, by rw [ins_step hp e hi (by omega), hm]; simp⟩
        · obtain ⟨j, rfl, j0, hj, h⟩ := ih m (by omega) (by omega) u hu
          exact ⟨j, rfl, j0, hj, by rw [ins_step hp e hi hj, hm, Int.toNat_natCast, h]; simp⟩
theorem LegalP.above {c : ChD} (hp : Placed c) {cf : List Int} (h : LegalP c cf) {s p : Int} (hs : s ∈ cf) (hm : p ∈ abvV c s 0) : memB cf p = true := by
  obtain ⟨i, rfl, h1, h2, h3, h4⟩ := h.st s hs
  unfold abvV at hm
  rw [isS_nat h2, cond_true] at hm
  obtain ⟨j, rfl, j0, hj, hij⟩ := mem_abv0 hp i h2 p hm
  exact List.any_eq_true.2 ⟨j, h.up hp i j hs hj j0 hij, by simp⟩
end Go.Proofs.Ytfmadkaiigiaiaa
