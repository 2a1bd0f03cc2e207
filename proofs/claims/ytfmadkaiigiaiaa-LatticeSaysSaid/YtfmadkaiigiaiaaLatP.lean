/- How states stand in one another: what is common, what is legal. -/
import Derived.Test.YtfmadkaiigiaiaaLatQO
set_option linter.all false
namespace Go.Proofs.Ytfmadkaiigiaiaa
open Go
/-- What is around a state, innermost first. -/
theorem mem_abv {c : ChD} (hp : Placed c) : ∀ (i : Nat), i < nS c → ∀ u : Int, u ∈ abvP c (-1) (pr c i) ↔ ∃ j : Nat, u = j ∧ j < nS c ∧ insB c i j = true := by
  intro i
  induction i using Nat.strongRecOn with
  | _ i ih =>
    intro hi u
    rcases Nat.eq_zero_or_pos i with e | e
    · subst e
      rw [hp.p0, abvP_stop (.inl (by omega))]
      constructor
      · intro h; simp at h
      · rintro ⟨j, _, _, h⟩
        rw [ins_root c hi] at h; cases h
    · obtain ⟨_, _, h3, h4, _⟩ := hp.st i e hi
      obtain ⟨m, hm⟩ : ∃ m : Nat, pr c i = m := ⟨(pr c i).toNat, by omega⟩
      rw [hm, abvP_step hp (by omega) (by omega), List.mem_cons, ih m (by omega) (by omega) u]
      constructor
      · rintro (rfl | ⟨j, rfl, hj, h⟩)
        · exact ⟨m, rfl, by omega, by rw [ins_step hp e hi (by omega), hm]; simp⟩
        · exact ⟨j, rfl, hj, by rw [ins_step hp e hi hj, hm, Int.toNat_natCast, h]; simp⟩
      · rintro ⟨j, rfl, hj, h⟩
        rw [ins_step hp e hi hj, hm, Int.toNat_natCast] at h
        simp only [Bool.or_eq_true, decide_eq_true_eq] at h
        rcases h with h | h
        · left; rw [h]
        · exact .inr ⟨j, rfl, hj, h⟩
theorem ins_trans {c : ChD} (hp : Placed c) : ∀ {i j k : Nat}, i < nS c → j < nS c → k < nS c → insB c i j = true → insB c j k = true → insB c i k = true := by
  intro i
  induction i using Nat.strongRecOn with
  | _ i ih =>
    intro j k hi hj hk h1 h2
    rcases Nat.eq_zero_or_pos i with e | e
    · subst e; rw [ins_root c hi] at h1; cases h1
    · obtain ⟨_, _, h3, h4, _⟩ := hp.st i e hi
      rw [ins_step hp e hi hj] at h1
      rw [ins_step hp e hi hk]
      simp only [Bool.or_eq_true, decide_eq_true_eq] at h1 ⊢
      rcases h1 with h1 | h1
      · right; rw [h1]; exact h2
      · right; exact ih _ (by omega) (by omega) hj hk h1 h2
/-- Does a state lie around all? -/
def comQ (c : ChD) (xs : List Int) (p : Int) : Bool := decide (kd c p.toNat ≤ 1) && !(xs.any fun s => !insB c s.toNat p.toNat)
theorem comL_cons (c : ChD) (xs : List Int) (p : Int) (r : List Int) : comL c xs (p :: r) = bif comQ c xs p then p else comL c xs r := rfl
theorem comL_spec (c : ChD) (xs : List Int) : ∀ l : List Int, comL c xs l = -1 ∨ (comL c xs l ∈ l ∧ comQ c xs (comL c xs l) = true)
  | [] => .inl rfl
  | p :: r => by
    rw [comL_cons]
    cases h : comQ c xs p with
    | true => rw [cond_true]; exact .inr ⟨List.mem_cons_self .., h⟩
    | false =>
      rw [cond_false]
      rcases comL_spec c xs r with h | ⟨h1, h2⟩
      · exact .inl h
      · exact .inr ⟨List.mem_cons_of_mem _ h1, h2⟩
theorem comL_first {c : ChD} (hp : Placed c) (xs : List Int) (s : Nat) (hs : s < nS c) (hq : comQ c xs s = true) : ∀ i : Nat, i < nS c → insB c i s = true → ∃ p : Nat, comL c xs (abvP c (-1) (pr c i)) = p ∧ p < nS c ∧ (s = p ∨ insB c p s = true) := by
  intro i
  induction i using Nat.strongRecOn with
  | _ i ih =>
    intro hi h
    rcases Nat.eq_zero_or_pos i with e | e
    · subst e; rw [ins_root c hi] at h; cases h
    · obtain ⟨_, _, h3, h4, _⟩ := hp.st i e hi
      obtain ⟨m, hm⟩ : ∃ m : Nat, pr c i = m := ⟨(pr c i).toNat, by omega⟩
      rw [ins_step hp e hi hs, hm, Int.toNat_natCast] at h
      simp only [Bool.or_eq_true, decide_eq_true_eq] at h
      rw [hm, abvP_step hp (by omega) (by omega), comL_cons]
      cases hqm : comQ c xs m with
      | true =>
        rw [cond_true]
        refine ⟨m, rfl, by omega, ?_⟩
        rcases h with h | h
        · exact .inl h.symm
        · exact .inr h
      | false =>
        rw [cond_false]
        rcases h with h | h
        · subst h; rw [hq] at hqm; cases hqm
        · exact ih m (by omega) (by omega) h
theorem inB_spec {c : ChD} {a d : Int} (h : inB c a d = true) : ∃ i j : Nat, a = i ∧ d = j ∧ i < nS c ∧ j < nS c ∧ insB c i j = true := by
  unfold inB at h
  simp only [Bool.and_eq_true] at h
  obtain ⟨⟨h1, h2⟩, h3⟩ := h
  obtain ⟨i, rfl, hi⟩ := isS_spec h1
  obtain ⟨j, rfl, hj⟩ := isS_spec h2
  exact ⟨i, j, rfl, rfl, hi, hj, h3⟩
theorem inB_nat {c : ChD} {i j : Nat} (hi : i < nS c) (hj : j < nS c) : inB c i j = insB c i j := by
  unfold inB
  rw [isS_nat hi, isS_nat hj]; rfl
theorem any_no {α : Type} {l : List α} {f : α → Bool} (h : ∀ x ∈ l, f x = false) : l.any f = false := by
  rw [← Bool.not_eq_true, List.any_eq_true]
  rintro ⟨x, hx, hf⟩
  rw [h x hx] at hf; cases hf
theorem com_ge (c : ChD) (hp : Placed c) (xs : List Int) : comV c xs ≥ -1 ∧ (comV c xs ≥ 0 → ∀ a ∈ xs, inB c a (comV c xs) = true) := by
  cases xs with
  | nil => exact ⟨Int.le_refl _, fun h => by simp [comV] at h⟩
  | cons x r =>
    rw [comV_cons]
    cases hb : (x :: r).any (fun a => !isS c a) with
    | true => rw [cond_true]; exact ⟨Int.le_refl _, fun h => by omega⟩
    | false =>
      rw [cond_false]
      have hall : ∀ a ∈ x :: r, isS c a = true := fun a ha => by
        have := List.any_eq_false.1 hb a ha
        simpa using this
      have hx := hall x (List.mem_cons_self ..)
      obtain ⟨i, hxi, hi⟩ := isS_spec hx
      rcases comL_spec c (x :: r) (abvV c x (-1)) with h | ⟨h1, h2⟩
      · rw [h]; exact ⟨Int.le_refl _, fun h => by omega⟩
      · have hmem := h1
        generalize comL c (x :: r) (abvV c x (-1)) = p at h1 h2 hmem
        obtain ⟨j, rfl, hj⟩ := isS_spec (abvV_mem hp hmem)
        refine ⟨by omega, fun _ a ha => ?_⟩
        obtain ⟨k, rfl, hk⟩ := isS_spec (hall a ha)
        rw [inB_nat hk hj]
        unfold comQ at h2
        simp only [Bool.and_eq_true, Bool.not_eq_true', List.any_eq_false] at h2
        have := h2.2 k ha
        simpa using this
theorem com_best (c : ChD) (hp : Placed c) (xs : List Int) (s : Nat) (hs : s < nS c) (hn : xs ≠ []) (hk : kd c s ≤ 1) (ha : ∀ a ∈ xs, inB c a s = true) : (s : Int) = comV c xs ∨ inB c (comV c xs) s = true := by
  cases xs with
  | nil => exact absurd rfl hn
  | cons x r =>
    rw [comV_cons]
    have hb : (x :: r).any (fun a => !isS c a) = false := any_no fun a h => by
      obtain ⟨i, j, rfl, _, hi, _, _⟩ := inB_spec (ha a h)
      rw [isS_nat hi]; rfl
    rw [hb, cond_false]
    obtain ⟨i, j, rfl, hjs, hi, hj, hij⟩ := inB_spec (ha x (List.mem_cons_self ..))
    have hjs : s = j := by omega
    subst hjs
    have hq : comQ c ((i : Int) :: r) s = true := by
      unfold comQ
      simp only [Bool.and_eq_true, Bool.not_eq_true', List.any_eq_false]
      refine ⟨decide_eq_true hk, fun a h => ?_⟩
      obtain ⟨i', j', rfl, hj', _, _, h'⟩ := inB_spec (ha a h)
      have : s = j' := by omega
      subst this
      simpa using h'
    obtain ⟨p, h1, h2, h3⟩ := comL_first hp ((i : Int) :: r) s hs hq i hi hij
    have hab : abvV c i (-1) = abvP c (-1) (pr c i) := by unfold abvV; rw [isS_nat hi]; rfl
    rw [hab, h1]
    rcases h3 with h3 | h3
    · left; rw [h3]
    · right; rw [inB_nat h2 hs]; exact h3
end Go.Proofs.Ytfmadkaiigiaiaa
