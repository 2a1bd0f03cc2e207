/- Timers as plain lists: insertion, sorting, taking away. -/
import Derived.Test.YtmknmibmnidnoaaClkM
set_option linter.all false
namespace Go.Proofs.Ytmknmibmnidnoaa
open Go
def insT (t : Tmr) : List Tmr → List Tmr
  | [] => [t]
  | x :: r => bif decide (x.due ≤ t.due) then x :: insT t r else t :: x :: r
def Srt (ts : List Tmr) : Prop := ts.Pairwise fun a b => a.due ≤ b.due
def srt (us : List Tmr) : List Tmr := us.foldl (fun a t => insT t a) []
theorem insT_nil (t : Tmr) : insT t [] = [t] := rfl
theorem insT_le {x t : Tmr} {r : List Tmr} (h : x.due ≤ t.due) : insT t (x :: r) = x :: insT t r := by simp [insT, h]
theorem insT_gt {x t : Tmr} {r : List Tmr} (h : ¬ x.due ≤ t.due) : insT t (x :: r) = t :: x :: r := by simp [insT, h]
theorem insT_length (t : Tmr) (ts : List Tmr) : (insT t ts).length = ts.length + 1 := by
  induction ts with
  | nil => rfl
  | cons x r ih =>
    by_cases h : x.due ≤ t.due
    · rw [insT_le h]; simp [ih]
    · rw [insT_gt h]; simp
theorem mem_insT {t u : Tmr} {ts : List Tmr} : u ∈ insT t ts ↔ u = t ∨ u ∈ ts := by
  induction ts with
  | nil => simp [insT]
  | cons x r ih =>
    by_cases h : x.due ≤ t.due
    · rw [insT_le h, List.mem_cons, ih, List.mem_cons]
      constructor
      · rintro (h | h | h) <;> simp [h]
      · rintro (h | h | h) <;> simp [h]
    · rw [insT_gt h]; simp
theorem insT_srt {t : Tmr} {ts : List Tmr} (h : Srt ts) : Srt (insT t ts) := by
  induction ts with
  | nil => simp [insT, Srt]
  | cons x r ih =>
    have hx := List.pairwise_cons.1 h
    by_cases hle : x.due ≤ t.due
    · rw [insT_le hle]
      refine List.pairwise_cons.2 ⟨fun u hu => ?_, ih hx.2⟩
      rcases mem_insT.1 hu with rfl | hu
      · exact hle
      · exact hx.1 u hu
    · rw [insT_gt hle]
      refine List.pairwise_cons.2 ⟨fun u hu => ?_, h⟩
      rcases List.mem_cons.1 hu with rfl | hu
      · omega
      · have := hx.1 u hu; omega
/-- The place that the program finds. -/
theorem insT_at {t : Tmr} (ts : List Tmr) (k : Nat) (hk : k ≤ ts.length) (h1 : ∀ j u, k ≤ j → ts[j]? = some u → t.due < u.due) (h2 : ∀ j u, j < k → ts[j]? = some u → u.due ≤ t.due) :
    insT t ts = ts.take k ++ t :: ts.drop k := by
  induction ts generalizing k with
  | nil => simp [insT]
  | cons x r ih =>
    cases k with
    | zero =>
      have := h1 0 x (Nat.le_refl 0) rfl
      rw [insT_gt (by omega)]; rfl
    | succ k =>
      have := h2 0 x (by omega) rfl
      rw [insT_le this, ih k (by simpa using hk) (fun j u hj hu => h1 (j + 1) u (by omega) hu) (fun j u hj hu => h2 (j + 1) u (by omega) hu)]
      rfl
theorem Srt.get {ts : List Tmr} (h : Srt ts) {i j : Nat} {u v : Tmr} (hij : i ≤ j) (hu : ts[i]? = some u) (hv : ts[j]? = some v) : u.due ≤ v.due := by
  rcases Nat.lt_or_ge i j with hlt | hge
  · obtain ⟨hi, rfl⟩ := List.getElem?_eq_some_iff.1 hu
    obtain ⟨hj, rfl⟩ := List.getElem?_eq_some_iff.1 hv
    exact List.pairwise_iff_getElem.1 h i j hi hj hlt
  · have : i = j := by omega
    subst this
    rw [hu] at hv; cases hv; exact Int.le_refl _
theorem srt_snoc (us : List Tmr) (t : Tmr) : srt (us ++ [t]) = insT t (srt us) := by simp [srt]
theorem srt_srt (us : List Tmr) : Srt (srt us) := by
  have : ∀ (us a : List Tmr), Srt a → Srt (us.foldl (fun a t => insT t a) a) := by
    intro us
    induction us with
    | nil => intro a h; exact h
    | cons t r ih => intro a h; exact ih _ (insT_srt h)
  exact this us [] (by simp [Srt])
theorem srt_length (us : List Tmr) : (srt us).length = us.length := by
  have : ∀ (us a : List Tmr), (us.foldl (fun a t => insT t a) a).length = a.length + us.length := by
    intro us
    induction us with
    | nil => intro a; simp
    | cons t r ih => intro a; rw [List.foldl_cons, ih, insT_length]; simp; omega
  simpa [srt] using this us []
theorem mem_srt {us : List Tmr} {u : Tmr} : u ∈ srt us ↔ u ∈ us := by
  have : ∀ (us a : List Tmr), u ∈ (us.foldl (fun a t => insT t a) a) ↔ u ∈ a ∨ u ∈ us := by
    intro us
    induction us with
    | nil => intro a; simp
    | cons t r ih =>
      intro a; rw [List.foldl_cons, ih, mem_insT, List.mem_cons]
      constructor
      · rintro ((h | h) | h) <;> simp [h]
      · rintro (h | h | h) <;> simp [h]
  simpa [srt] using this us []
theorem insT_filter {p : Tmr → Bool} {t : Tmr} {ts : List Tmr} (h : Srt ts) : (insT t ts).filter p = bif p t then insT t (ts.filter p) else ts.filter p := by
  induction ts with
  | nil => cases hp : p t <;> simp [insT, hp]
  | cons x r ih =>
    have hx := List.pairwise_cons.1 h
    by_cases hle : x.due ≤ t.due
    · rw [insT_le hle]
      cases hpx : p x with
      | false => rw [List.filter_cons_of_neg (by simp [hpx]), List.filter_cons_of_neg (by simp [hpx])]; exact ih hx.2
      | true =>
        rw [List.filter_cons_of_pos hpx, List.filter_cons_of_pos hpx, ih hx.2]
        cases p t with
        | false => rfl
        | true => simp only [cond_true]; rw [insT_le hle]
    · rw [insT_gt hle]
      have hall : ∀ u ∈ x :: r, ¬ u.due ≤ t.due := by
        intro u hu
        rcases List.mem_cons.1 hu with rfl | hu
        · exact hle
        · have := hx.1 u hu; omega
      cases hpt : p t with
      | false => rw [List.filter_cons_of_neg (by simp [hpt])]; rfl
      | true =>
        rw [List.filter_cons_of_pos hpt]
        simp only [cond_true]
        cases hf : (x :: r).filter p with
        | nil => rfl
        | cons y l =>
          have hy : y ∈ (x :: r).filter p := by rw [hf]; simp
          rw [insT_gt (hall y (List.mem_filter.1 hy).1)]
theorem srt_filter (p : Tmr → Bool) (us : List Tmr) : srt (us.filter p) = (srt us).filter p := by
  have : ∀ (us a : List Tmr), Srt a → (us.filter p).foldl (fun a t => insT t a) (a.filter p) = (us.foldl (fun a t => insT t a) a).filter p := by
    intro us
    induction us with
    | nil => intro a _; rfl
    | cons t r ih =>
      intro a ha
      rw [List.foldl_cons, ← ih _ (insT_srt ha), insT_filter ha]
      cases hp : p t with
      | false => rw [List.filter_cons_of_neg (by simp [hp])]; rfl
      | true => rw [List.filter_cons_of_pos hp]; rfl
  exact this us [] (by simp [Srt])
end Go.Proofs.Ytmknmibmnidnoaa
