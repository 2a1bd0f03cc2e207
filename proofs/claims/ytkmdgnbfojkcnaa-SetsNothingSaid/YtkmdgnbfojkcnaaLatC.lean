/- Charts that stand rightly: plain functions, and how a lattice lies in memory. -/
import Derived.Test.YtkmdgnbfojkcnaaLatA
set_option linter.all false
namespace Go.Proofs.Ytkmdgnbfojkcnaa
open Go
def nS (c : ChD) : Nat := c.sts.length
def kd (c : ChD) (i : Nat) : Int := ((c.sts[i]?).map (·.kind)).getD 0
def pr (c : ChD) (i : Nat) : Int := ((c.sts[i]?).map (·.parent)).getD (-1)
def rowN (c : ChD) (T : List (List Bool)) (k : Nat) : List Bool := bif Nat.beq k 0 then List.replicate (nS c) false else ((T[(pr c k).toNat]?).getD []).set (pr c k).toNat true
def rowsT (c : ChD) : Nat → List (List Bool)
  | 0 => []
  | k + 1 => rowsT c k ++ [rowN c (rowsT c k) k]
def insB (c : ChD) (a b : Nat) : Bool := ((((rowsT c (nS c))[a]?).getD [])[b]?).getD false
def kidsOf (c : ChD) (m : Int) (k p : Nat) : List Int := ((List.range k).filter fun i => Nat.blt 0 i && (pr c i == p) && decide (kd c i < m)).map Int.ofNat
def kidsP (c : ChD) (p : Nat) : List Int := kidsOf c 4 (nS c) p
def kidsA (c : ChD) (p : Nat) : List Int := kidsOf c 6 (nS c) p
theorem kd_get {c : ChD} {i : Nat} {s : StD} (h : c.sts[i]? = some s) : kd c i = s.kind := by unfold kd; rw [h]; rfl
theorem pr_get {c : ChD} {i : Nat} {s : StD} (h : c.sts[i]? = some s) : pr c i = s.parent := by unfold pr; rw [h]; rfl
structure Placed (c : ChD) : Prop where
  n2 : 2 ≤ nS c
  n128 : nS c ≤ 128
  k0 : kd c 0 = 0
  p0 : pr c 0 = -1
  st : ∀ i, 0 < i → i < nS c → 1 ≤ kd c i ∧ kd c i ≤ 5 ∧ 0 ≤ pr c i ∧ pr c i < i ∧ kd c (pr c i).toNat ≤ 2
  kids : ∀ i s, c.sts[i]? = some s → s.kids = kidsA c i
  k00 : kidsP c 0 ≠ []
theorem get_st {c : ChD} {i : Nat} (h : i < nS c) : ∃ s, c.sts[i]? = some s := ⟨_, List.getElem?_eq_getElem h⟩
theorem rowsT_len (c : ChD) (k : Nat) : (rowsT c k).length = k := by
  induction k with
  | zero => rfl
  | succ k ih => rw [rowsT, List.length_append, ih]; rfl
theorem rowsT_get {c : ChD} {k i : Nat} (h : i < k) : (rowsT c k)[i]? = some (rowN c (rowsT c i) i) := by
  induction k with
  | zero => omega
  | succ k ih =>
    rw [rowsT]
    by_cases hi : i < k
    · rw [List.getElem?_append_left (by rw [rowsT_len]; exact hi)]; exact ih hi
    · have : i = k := by omega
      subst this
      rw [List.getElem?_append_right (by rw [rowsT_len]; exact Nat.le_refl _), rowsT_len]; simp
theorem rowsT_row {c : ChD} (hp : Placed c) : ∀ {k i : Nat} {l : List Bool}, i < nS c → (rowsT c k)[i]? = some l → l.length = nS c := by
  have : ∀ i, i < nS c → (rowN c (rowsT c i) i).length = nS c := by
    intro i
    induction i using Nat.strongRecOn with
    | _ i ih =>
      intro hi
      unfold rowN
      cases h0 : Nat.beq i 0 with
      | true => rw [cond_true, List.length_replicate]
      | false =>
        rw [cond_false, List.length_set]
        have hi0 : 0 < i := by
          rcases Nat.eq_zero_or_pos i with e | e
          · subst e; simp at h0
          · exact e
        obtain ⟨_, _, h3, h4, _⟩ := hp.st i hi0 hi
        rw [rowsT_get (show (pr c i).toNat < i by omega)]
        exact ih _ (by omega) (by omega)
  intro k i l hi h
  have hk : i < k := by
    have := (List.getElem?_eq_some_iff.1 h).1
    rwa [rowsT_len] at this
  rw [rowsT_get hk] at h
  cases h
  exact this i hi
theorem ins_row {c : ChD} {a b : Nat} (ha : a < nS c) : insB c a b = ((rowN c (rowsT c a) a)[b]?).getD false := by
  unfold insB; rw [rowsT_get ha]; rfl
theorem ins_root (c : ChD) (hn : 0 < nS c) (b : Nat) : insB c 0 b = false := by
  rw [ins_row hn]
  show ((List.replicate (nS c) false)[b]?).getD false = false
  rw [List.getElem?_replicate]
  split <;> rfl
/-- What is inside what. -/
theorem ins_step {c : ChD} (hp : Placed c) {a b : Nat} (h0 : 0 < a) (ha : a < nS c) (hb : b < nS c) : insB c a b = (decide ((pr c a).toNat = b) || insB c (pr c a).toNat b) := by
  obtain ⟨_, _, h3, h4, _⟩ := hp.st a h0 ha
  rw [ins_row ha, ins_row (show (pr c a).toNat < nS c by omega)]
  have hr : rowN c (rowsT c a) a = (rowN c (rowsT c (pr c a).toNat) (pr c a).toNat).set (pr c a).toNat true := by
    have h00 : Nat.beq a 0 = false := by
      cases h : Nat.beq a 0 with
      | true => have := Nat.eq_of_beq_eq_true h; omega
      | false => rfl
    conv => lhs; unfold rowN
    rw [h00, cond_false, rowsT_get (show (pr c a).toNat < a by omega)]; rfl
  rw [hr]
  have hl : (rowN c (rowsT c (pr c a).toNat) (pr c a).toNat).length = nS c := rowsT_row hp (k := (pr c a).toNat + 1) (show (pr c a).toNat < nS c by omega) (rowsT_get (by omega))
  by_cases hq : (pr c a).toNat = b
  · subst hq
    rw [List.getElem?_set_self (by omega)]; simp
  · rw [List.getElem?_set_ne hq]; simp [hq]
theorem ins_lt {c : ChD} (hp : Placed c) : ∀ {a b : Nat}, a < nS c → b < nS c → insB c a b = true → b < a := by
  intro a
  induction a using Nat.strongRecOn with
  | _ a ih =>
    intro b ha hb h
    rcases Nat.eq_zero_or_pos a with e | e
    · subst e; rw [ins_root c ha] at h; cases h
    · obtain ⟨_, _, h3, h4, _⟩ := hp.st a e ha
      rw [ins_step hp e ha hb] at h
      simp only [Bool.or_eq_true, decide_eq_true_eq] at h
      rcases h with h | h
      · omega
      · have := ih _ (show (pr c a).toNat < a by omega) (by omega) hb h
        omega
theorem mem_kidsOf {c : ChD} {m : Int} {k p : Nat} {x : Int} : x ∈ kidsOf c m k p ↔ ∃ i : Nat, x = i ∧ 0 < i ∧ i < k ∧ pr c i = p ∧ kd c i < m := by
  unfold kidsOf
  rw [List.mem_map]
  constructor
  · rintro ⟨i, hi, rfl⟩
    rw [List.mem_filter, List.mem_range] at hi
    obtain ⟨h1, h2⟩ := hi
    simp only [Bool.and_eq_true, beq_iff_eq, decide_eq_true_eq, Nat.blt_eq] at h2
    exact ⟨i, rfl, h2.1.1, h1, h2.1.2, h2.2⟩
  · rintro ⟨i, rfl, h1, h2, h3, h4⟩
    refine ⟨i, List.mem_filter.2 ⟨List.mem_range.2 h2, ?_⟩, rfl⟩
    simp only [Bool.and_eq_true, beq_iff_eq, decide_eq_true_eq, Nat.blt_eq]
    exact ⟨⟨h1, h3⟩, h4⟩
theorem kidsOf_succ (c : ChD) (m : Int) (k p : Nat) : kidsOf c m (k + 1) p = kidsOf c m k p ++ (bif Nat.blt 0 k && (pr c k == p) && decide (kd c k < m) then [Int.ofNat k] else []) := by
  unfold kidsOf
  rw [List.range_succ, List.filter_append, List.map_append]
  congr 1
  cases h : (Nat.blt 0 k && (pr c k == p) && decide (kd c k < m)) with
  | true => simp only [List.filter_cons, List.filter_nil, h, if_true]; rfl
  | false => simp only [List.filter_cons, List.filter_nil, h]; rfl
structure LatIn (F : Atom) (b : Nat) (c : ChD) : Prop where
  pl : Placed c
  ch : ∃ v : ChV, (∀ j u, (c.cells v)[j]? = some u → Look F ⟨b, j, none⟩ u) ∧ ChIn F v c
  ab : ∃ b2 o2 cap, Look F ⟨b, 8, none⟩ (.slice (some ⟨b2, o2, none⟩) (nS c) cap) ∧ ∀ i, i < nS c → ∃ b3 o3 cap3, Look F ⟨b2, o2 + i, none⟩ (.slice (some ⟨b3, o3, none⟩) (nS c) cap3) ∧ ∀ j, j < nS c → Look F ⟨b3, o3 + j, none⟩ (.bool (insB c i j))
  kd : ∃ b2 o2 cap, Look F ⟨b, 9, none⟩ (.slice (some ⟨b2, o2, none⟩) (nS c) cap) ∧ ∀ i, i < nS c → ∃ w, Look F ⟨b2, o2 + i, none⟩ w ∧ IntsIn F w (kidsP c i)
theorem LatIn.sub {A B : Atom} {b : Nat} {c : ChD} (hs : Sub A B) (h : LatIn A b c) : LatIn B b c := by
  obtain ⟨h1, ⟨v, h2, h3⟩, ⟨b2, o2, c2, h4, h5⟩, ⟨b4, o4, c4, h6, h7⟩⟩ := h
  refine ⟨h1, ⟨v, fun j u hj => (h2 j u hj).sub hs, h3.sub hs⟩, ⟨b2, o2, c2, h4.sub hs, fun i hi => ?_⟩, ⟨b4, o4, c4, h6.sub hs, fun i hi => ?_⟩⟩
  · obtain ⟨b3, o3, c3, p1, p2⟩ := h5 i hi
    exact ⟨b3, o3, c3, p1.sub hs, fun j hj => (p2 j hj).sub hs⟩
  · obtain ⟨w, p1, p2⟩ := h7 i hi
    exact ⟨w, p1.sub hs, p2.sub hs⟩
/-- The states of a chart that is read at an address. -/
theorem LatIn.sts {F : Atom} {b : Nat} {c : ChD} (h : LatIn F b c) : ∃ b1 o1 cap, Look F ⟨b, 3, none⟩ (.slice (some ⟨b1, o1, none⟩) (nS c) cap) ∧ ∀ i s, c.sts[i]? = some s → ∃ r, StIn F r s ∧ ∀ j u, r[j]? = some u → Look F ⟨b1, o1 + i * 13 + j, none⟩ u := by
  obtain ⟨v, h1, h2⟩ := h.ch
  obtain ⟨a, cap, e, h3, h4, h5, h6⟩ := h2.sts.open
  have hn := h.pl.n2
  obtain ⟨s0, hs0⟩ := get_st (c := c) (i := 0) (by omega)
  obtain ⟨b1, o1, r, ea, -⟩ := h6 0 s0 hs0
  subst ea
  have h3' : (c.cells v)[3]? = some v.vs := rfl
  refine ⟨b1, o1, cap, by have := h1 3 v.vs h3'; rw [e] at this; exact this, fun i s hs => ?_⟩
  obtain ⟨b', o', r', ea', -, hR, hL⟩ := h6 i s hs
  simp only [Option.some.injEq, Addr.mk.injEq, and_true] at ea'
  obtain ⟨rfl, rfl⟩ := ea'
  exact ⟨r', hR, hL⟩
end Go.Proofs.Ytkmdgnbfojkcnaa
