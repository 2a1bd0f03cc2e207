/- A clock, in plain words: timers in the order in which they come. -/
import Derived.Test.YtmknmibmnidnoaaEngI
set_option linter.all false
namespace Go.Proofs.Ytmknmibmnidnoaa
open Go
structure Tmr where
  ow : Int
  id : ByteArray
  due : Int
  n : Int
def Tmr.enc (t : Tmr) : List Value := [.int .i64 t.ow, .string t.id, .int .i64 t.due, .int .i64 t.n]
def encT (ts : List Tmr) : List Value := ts.flatMap Tmr.enc
theorem encT_length (ts : List Tmr) : (encT ts).length = ts.length * 4 := by
  induction ts with
  | nil => rfl
  | cons t r ih => simp only [encT, List.flatMap_cons, List.length_append] at *; rw [ih]; simp [Tmr.enc]; omega
theorem encT_append (a b : List Tmr) : encT (a ++ b) = encT a ++ encT b := by simp [encT]
theorem encT_cons (a : Tmr) (b : List Tmr) : encT (a :: b) = a.enc ++ encT b := rfl
theorem encT_get (ts : List Tmr) : ∀ (i j : Nat) (t : Tmr), ts[i]? = some t → j < 4 → (encT ts)[i * 4 + j]? = t.enc[j]? := by
  induction ts with
  | nil => intro i j t h; simp at h
  | cons x r ih =>
    intro i j t h hj
    rw [encT_cons]
    cases i with
    | zero =>
      simp only [List.getElem?_cons_zero, Option.some.injEq] at h
      subst h
      rw [List.getElem?_append_left (by simp [Tmr.enc]; omega)]
      simp
    | succ i =>
      simp only [List.getElem?_cons_succ] at h
      rw [List.getElem?_append_right (by simp [Tmr.enc]; omega)]
      have : (i + 1) * 4 + j - x.enc.length = i * 4 + j := by simp [Tmr.enc]; omega
      rw [this]
      exact ih i j t h hj
theorem encT_take (ts : List Tmr) (n : Nat) : (encT ts).take (n * 4) = encT (ts.take n) := by
  induction ts generalizing n with
  | nil => simp [encT]
  | cons x r ih =>
    cases n with
    | zero => simp [encT]
    | succ n =>
      rw [encT_cons, List.take_succ_cons, encT_cons, ← ih]
      have : (n + 1) * 4 = x.enc.length + n * 4 := by simp [Tmr.enc]; omega
      rw [this, List.take_length_add_append]
theorem encT_drop (ts : List Tmr) (n : Nat) : (encT ts).drop (n * 4) = encT (ts.drop n) := by
  induction ts generalizing n with
  | nil => simp [encT]
  | cons x r ih =>
    cases n with
    | zero => simp [encT]
    | succ n =>
      rw [encT_cons, List.drop_succ_cons, ← ih]
      have : (n + 1) * 4 = x.enc.length + n * 4 := by simp [Tmr.enc]; omega
      rw [this, ← List.drop_drop, List.drop_left]
theorem encT_one {ts : List Tmr} {u : Value} (h : u ∈ encT ts) : u.oneCell' = true := by
  obtain ⟨t, _, hu⟩ := List.mem_flatMap.1 h
  simp only [Tmr.enc, List.mem_cons, List.not_mem_nil, or_false] at hu
  rcases hu with rfl | rfl | rfl | rfl <;> rfl
end Go.Proofs.Ytmknmibmnidnoaa
