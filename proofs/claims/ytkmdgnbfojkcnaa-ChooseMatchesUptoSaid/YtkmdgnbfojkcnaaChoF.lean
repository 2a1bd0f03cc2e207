/- What a right chart's transitions hold, in plain Lean. -/
import Derived.Test.YtkmdgnbfojkcnaaChoE
import Derived.Test.YtkmdgnbfojkcnaaLatL
namespace Go.Proofs.Ytkmdgnbfojkcnaa
open Go
theorem stsB_get (c : ChD) : ∀ (l : List StD) (i k : Nat) (s : StD), stsB c i l = true → l[k]? = some s → initB c (i + k : Nat) s = true
  | [], _, _, _, _, h => by simp at h
  | x :: l, i, 0, s, h1, h2 => by
    rw [stsB, Bool.and_eq_true] at h1
    simp at h2
    rw [← h2]; exact h1.1
  | x :: l, i, k + 1, s, h1, h2 => by
    rw [stsB, Bool.and_eq_true, Bool.and_eq_true] at h1
    have := stsB_get c l (i + 1) k s h1.2.2 (by simpa using h2)
    rw [show i + (k + 1) = i + 1 + k by omega]
    exact this
theorem aimT_all (c : ChD) : ∀ (l dn : List Int), aimT c dn l = true → ∀ a ∈ l, isS c a = true
  | [], _, _, a, h => by simp at h
  | x :: l, dn, h, a, ha => by
    rw [aimT] at h
    cases hx : isS c x with
    | false => rw [hx] at h; simp at h
    | true =>
      rw [hx] at h
      cases h0 : (x == 0) with
      | true => rw [h0] at h; simp at h
      | false =>
        rw [h0] at h
        simp only [Bool.not_true, cond_false, Bool.and_eq_true] at h
        rcases List.mem_cons.1 ha with rfl | ha
        · exact hx
        · exact aimT_all c l _ h.2 a ha
theorem right_trans {c : ChD} (h : newB c = true) : (∀ t ∈ c.trs, aimB c t = true) ∧ stsB c 0 c.sts = true := by
  have h3 := (newB_spec.1 h).2.2
  unfold transB at h3
  rw [Bool.and_eq_true, List.all_eq_true] at h3
  exact h3
theorem right_tgt {c : ChD} (h : newB c = true) : TgtOk c := fun i t ht a ha => by
  have h1 := (right_trans h).1 t (List.mem_of_getElem? ht)
  unfold aimB at h1
  rw [Bool.and_eq_true] at h1
  exact aimT_all c _ _ h1.2 a ha
theorem right_src {c : ChD} (h : newB c = true) {i : Nat} {t : TrD} (ht : c.trs[i]? = some t) : isS c t.source = true := by
  have h1 := (right_trans h).1 t (List.mem_of_getElem? ht)
  unfold aimB at h1
  rw [Bool.and_eq_true] at h1
  exact h1.1
theorem right_init {c : ChD} (h : newB c = true) {i : Nat} {s : StD} (hs : c.sts[i]? = some s) (hk : s.kind ≥ 4) : ∃ t, 0 ≤ s.init ∧ c.trs[s.init.toNat]? = some t := by
  have h1 := stsB_get c c.sts 0 i s (right_trans h).2 hs
  unfold initB at h1
  rw [decide_eq_true hk] at h1
  simp only [Bool.not_true, Bool.false_and, cond_false] at h1
  by_cases h0 : s.init < 0
  · rw [decide_eq_true h0] at h1; simp at h1
  · rw [decide_eq_false h0] at h1
    cases ht : c.trs[s.init.toNat]? with
    | none => rw [ht] at h1; simp at h1
    | some t => exact ⟨t, by omega, rfl⟩
end Go.Proofs.Ytkmdgnbfojkcnaa
