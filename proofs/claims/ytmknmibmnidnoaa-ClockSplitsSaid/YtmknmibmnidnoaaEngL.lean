/- Arguments that are slices of plain things, as lists. -/
import Derived.Test.YtmknmibmnidnoaaEngK
import Derived.Test.YtmknmibmnidnoaaEngJ
set_option linter.all false
namespace Go.Proofs.Ytmknmibmnidnoaa
open Go Go.ChangeShapes Go.WideShapes Go.ChangeAt Go.RowKit
section
variable {H : Type} {enc : TypeId × Value → H} {P : Program} {W : World} {base : Nat} {spare : Nat → Bool} {held : Bool}
theorem flat_get {α : Type} {k : Nat} {e : α → List Value} (he : ∀ x, (e x).length = k) (hk : 0 < k) : ∀ (xs : List α) (j : Nat) (u : Value), (xs.flatMap e)[j]? = some u → ∃ x, xs[j / k]? = some x ∧ (e x)[j % k]? = some u := by
  intro xs
  induction xs with
  | nil => intro j u h; simp at h
  | cons a r ih =>
    intro j u h
    rw [List.flatMap_cons] at h
    by_cases hj : j < k
    · rw [List.getElem?_append_left (by rw [he]; exact hj)] at h
      exact ⟨a, by rw [Nat.div_eq_of_lt hj]; rfl, by rw [Nat.mod_eq_of_lt hj]; exact h⟩
    · rw [List.getElem?_append_right (by rw [he]; omega), he] at h
      obtain ⟨x, h1, h2⟩ := ih _ _ h
      have e1 : j / k = (j - k) / k + 1 := by rw [Nat.div_eq_sub_div hk (by omega)]
      have e2 : j % k = (j - k) % k := Nat.mod_eq_sub_mod (by omega)
      exact ⟨x, by rw [e1, List.getElem?_cons_succ]; exact h1, by rw [e2]; exact h2⟩
theorem flat_length {α : Type} {k : Nat} {e : α → List Value} (he : ∀ x, (e x).length = k) (xs : List α) : (xs.flatMap e).length = xs.length * k := by
  induction xs with
  | nil => simp
  | cons a r ih => rw [List.flatMap_cons, List.length_append, ih, he, List.length_cons, Nat.succ_mul]; omega
theorem open_els {α : Type} {k : Nat} {e : α → List Value} {ok : α → Prop} (he : ∀ x, (e x).length = k) (hk : 0 < k) {t te : TypeId} {fuel : Nat} {a0 : Option Addr} {n0 c0 : Nat} {x : DataW H × List MemPlace}
    (ht : P.underlying t = some (.slice te)) (hc : P.cellsOf te = k)
    (hel : ∀ n ys y, ys.length = k → DataW.trod enc P W base spare held n te ys = some y → ∃ x : α, ok x ∧ ys = e x)
    (h : DataW.trod enc P W base spare held fuel t (Value.slice a0 n0 c0).cells.toList = some x) :
    ∃ xs : List α, IsSrc k (xs.flatMap e) a0 n0 ∧ Srcd (oldA W) a0 (xs.flatMap e) ∧ n0 = xs.length ∧ n0 ≤ c0 ∧ c0 ≤ maxLen ∧ (a0 = none → c0 = 0) ∧ ∀ x ∈ xs, ok x := by
  have h : DataW.trod enc P W base spare held fuel t [Value.slice a0 n0 c0] = some x := h
  rcases DataW.trod_slice ht h with ⟨h0, -⟩ | ⟨a, len, cap, elems, rest, n, _, h0, rfl, hb, hl, hm, hlen, hel', -, -⟩
  · simp only [List.cons.injEq, Value.slice.injEq, and_true] at h0
    obtain ⟨rfl, rfl, rfl⟩ := h0
    exact ⟨[], .nil rfl, fun ad e => (by cases e), rfl, Nat.le_refl 0, Nat.zero_le _, fun _ => rfl, by simp⟩
  · simp only [List.cons.injEq, Value.slice.injEq, and_true] at h0
    obtain ⟨rfl, rfl, rfl⟩ := h0
    have each : ∀ i, i < n0 → ∃ x : α, ok x ∧ ∀ j u, (e x)[j]? = some u → W.cell? (a.add (i * k + j)) = some u := by
      intro i hi
      have h1 := hel' i hi
      rw [List.getElem?_eq_getElem (by omega), Option.bind_eq_some_iff] at h1
      obtain ⟨ys, hys, hy⟩ := h1
      rw [hc] at hys
      obtain ⟨_, hyl, hcell⟩ := World.cells?_some hys
      obtain ⟨z, hz, rfl⟩ := hel _ _ _ hyl hy
      refine ⟨z, hz, fun j u hj => ?_⟩
      have hjk : j < k := by rw [← he z]; exact (List.getElem?_eq_some_iff.1 hj).1
      have := hcell j hjk
      rw [hj] at this
      rw [← this]
      congr 1
      unfold Addr.add
      by_cases h0 : i * k = 0
      · by_cases hj0 : j = 0
        · simp [h0, hj0]
        · simp [h0, hj0]
      · by_cases hj0 : j = 0
        · simp [h0, hj0]
        · have : ¬ (i * k + j = 0) := by omega
          simp [h0, hj0, this, Nat.add_assoc]
    have build : ∀ m, m ≤ n0 → ∃ xs : List α, xs.length = m ∧ (∀ x ∈ xs, ok x) ∧ ∀ i x, xs[i]? = some x → ∀ j u, (e x)[j]? = some u → W.cell? (a.add (i * k + j)) = some u := by
      intro m
      induction m with
      | zero => intro _; exact ⟨[], rfl, by simp, by simp⟩
      | succ m ih =>
        intro hm'
        obtain ⟨xs, h1, h2, h3⟩ := ih (by omega)
        obtain ⟨z, hz, hz'⟩ := each m (by omega)
        refine ⟨xs ++ [z], by simp [h1], ?_, ?_⟩
        · intro y hy
          rcases List.mem_append.1 hy with hy | hy
          · exact h2 y hy
          · rw [List.mem_singleton] at hy; subst hy; exact hz
        · intro i y hi
          by_cases hlt : i < xs.length
          · rw [List.getElem?_append_left hlt] at hi
            exact h3 i y hi
          · have hil : i < (xs ++ [z]).length := (List.getElem?_eq_some_iff.1 hi).1
            have : i = m := by simp [h1] at hil; omega
            subst this
            rw [List.getElem?_append_right (by omega)] at hi
            simp [h1] at hi
            subst hi
            exact hz'
    obtain ⟨xs, h1, h2, h3⟩ := build n0 (Nat.le_refl _)
    have hcells : ∀ j u, (xs.flatMap e)[j]? = some u → W.cell? (a.add j) = some u := by
      intro j u hj
      obtain ⟨z, hz, hz'⟩ := flat_get he hk xs j u hj
      have := h3 _ _ hz _ _ hz'
      rwa [Nat.div_add_mod' j k] at this
    refine ⟨xs, ?_, fun ad e j u hj => by cases e; exact look_old (hcells j u hj), h1.symm, hl, hm, fun h => by simp at h, h2⟩
    have hfl := flat_length he xs
    rw [h1] at hfl
    by_cases hn : n0 = 0
    · subst hn
      exact .zero a (List.eq_nil_of_length_eq_zero (by rw [hfl]; simp))
    · have hpos : 0 < n0 * k := Nat.mul_pos (by omega) hk
      have hs : a.spot = none := by
        have h0 := hcells 0 _ (List.getElem?_eq_getElem (by omega))
        cases hs : a.spot with
        | none => rfl
        | some s =>
          exfalso
          have e0 : a.add 0 = a := rfl
          rw [e0, ← cellOf_hp] at h0
          unfold cellOf at h0
          rw [hs] at h0
          split at h0 <;> simp at h0
      obtain ⟨b, o, s⟩ := a
      dsimp only at hs
      subst hs
      exact .blk b o n0 hfl
/-- A field of one cell of a struct that is read. -/
theorem field1 {t : TypeId} {fs : Array Field} {n : Nat} {ys : List Value} {y : DataW H × List MemPlace} (ht : P.underlying t = some (.struct fs)) (h : DataW.trod enc P W base spare held n t ys = some y) (i j : Nat) (f : Field)
    (hf : fs[i]? = some f) (ho : f.offset = j) (hc : P.cellsOf f.type = 1) (hj : j < ys.length) : ∃ m z, DataW.trod enc P W base spare held m f.type [ys[j]] = some z := by
  obtain ⟨xs, m, rfl, rfl, hl, hx, hall⟩ := DataW.trod_struct ht h
  have h1 := hall i f hf
  have hi : i < xs.length := by rw [hx]; exact (Array.getElem?_eq_some_iff.1 hf).1
  rw [List.getElem?_eq_getElem hi, ho, hc] at h1
  have e : (ys.drop j).take 1 = [ys[j]] := by rw [List.drop_eq_getElem_cons hj]; rfl
  rw [e] at h1
  exact ⟨m, _, h1⟩
theorem fieldI {t : TypeId} {fs : Array Field} {n : Nat} {ys : List Value} {y : DataW H × List MemPlace} (ht : P.underlying t = some (.struct fs)) (h : DataW.trod enc P W base spare held n t ys = some y) (i j : Nat) (f : Field) (k : IntKind)
    (hf : fs[i]? = some f) (ho : f.offset = j) (hc : P.cellsOf f.type = 1) (hk : P.underlying f.type = some (.int k)) (hj : j < ys.length) : ∃ z, ys[j] = .int k z ∧ (Lit.int k z).wf = true := by
  obtain ⟨m, z, hz⟩ := field1 ht h i j f hf ho hc hj
  obtain ⟨q, hq, _, hw⟩ := DataW.trod_int hk hz
  simp only [List.cons.injEq, and_true] at hq
  exact ⟨q, hq, hw⟩
theorem fieldS {t : TypeId} {fs : Array Field} {n : Nat} {ys : List Value} {y : DataW H × List MemPlace} (ht : P.underlying t = some (.struct fs)) (h : DataW.trod enc P W base spare held n t ys = some y) (i j : Nat) (f : Field)
    (hf : fs[i]? = some f) (ho : f.offset = j) (hc : P.cellsOf f.type = 1) (hk : P.underlying f.type = some .string) (hj : j < ys.length) : ∃ s : ByteArray, ys[j] = .string s ∧ s.size ≤ maxLen := by
  obtain ⟨m, z, hz⟩ := field1 ht h i j f hf ho hc hj
  obtain ⟨q, hq, _, hw⟩ := DataW.trod_string hk hz
  simp only [List.cons.injEq, and_true] at hq
  exact ⟨q, hq, hw⟩
end
end Go.Proofs.Ytmknmibmnidnoaa
