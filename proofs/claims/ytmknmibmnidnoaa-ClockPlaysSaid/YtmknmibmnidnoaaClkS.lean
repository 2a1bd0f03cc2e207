/- The reference's clock: its timers sorted. -/
import Derived.Test.YtmknmibmnidnoaaClkO
set_option linter.all false
namespace Go.Proofs.Ytmknmibmnidnoaa
open Go
def clkR (b : Nat) (now : Int) (r : Row) : Atom := .cells b [.int .i64 now, .slice r.a r.n r.cap] 29
def isUs (us : List Tmr) (r : Row) : Prop := IsRow 44 4 (encT us) r ∧ r.n = us.length ∧ us.length ≤ 128
def bls (bs : List Bool) : List Value := bs.map fun b => .bool b
theorem bls_length (bs : List Bool) : (bls bs).length = bs.length := by simp [bls]
theorem bls_get {bs : List Bool} {i : Nat} {b : Bool} (h : bs[i]? = some b) : (bls bs)[i]? = some (.bool b) := by unfold bls; rw [List.getElem?_map, h]; rfl
theorem bls_set (l : List Bool) (i : Nat) (v : Bool) : (bls l).set i (.bool v) = bls (l.set i v) := by unfold bls; rw [List.map_set]
theorem zeros_bls (n : Nat) : zeros [.bool false] n = bls (List.replicate n false) := by
  unfold zeros bls
  induction n with
  | zero => rfl
  | succ n ih => rw [List.replicate_succ, List.flatten_cons, ih]; rfl
def rem : List Tmr → List Bool → List Tmr
  | u :: us, b :: bs => bif b then rem us bs else u :: rem us bs
  | _, _ => []
theorem rem_none (us : List Tmr) : rem us (List.replicate us.length false) = us := by
  induction us with
  | nil => rfl
  | cons u r ih => rw [List.length_cons, List.replicate_succ, rem, ih]; rfl
theorem rem_nil : ∀ (us : List Tmr) (bs : List Bool), (∀ j, j < us.length → bs[j]? = some true) → rem us bs = [] := by
  intro us
  induction us with
  | nil => intro bs _; cases bs <;> rfl
  | cons u r ih =>
    intro bs h
    cases bs with
    | nil => rfl
    | cons b bs =>
      have h0 := h 0 (by simp)
      simp only [List.getElem?_cons_zero, Option.some.injEq] at h0
      subst h0
      rw [rem, cond_true]
      exact ih bs fun j hj => by have := h (j + 1) (by simpa using hj); simpa using this
theorem rem_split : ∀ (us : List Tmr) (bs : List Bool) (i : Nat) (m : Tmr), bs[i]? = some false → us[i]? = some m →
    ∃ l1 l2, rem us bs = l1 ++ m :: l2 ∧ rem us (bs.set i true) = l1 ++ l2 ∧ (∀ u ∈ l1, ∃ j : Nat, j < i ∧ us[j]? = some u ∧ bs[j]? = some false) ∧ (∀ u ∈ l2, ∃ j : Nat, us[j]? = some u ∧ bs[j]? = some false) := by
  intro us
  induction us with
  | nil => intro bs i m _ h; simp at h
  | cons x r ih =>
    intro bs i m hb hu
    cases bs with
    | nil => simp at hb
    | cons b bs =>
      cases i with
      | zero =>
        simp only [List.getElem?_cons_zero, Option.some.injEq] at hb hu
        subst hb hu
        refine ⟨[], rem r bs, rfl, rfl, by simp, ?_⟩
        have mem : ∀ (us : List Tmr) (bs : List Bool) (u : Tmr), u ∈ rem us bs → ∃ j : Nat, us[j]? = some u ∧ bs[j]? = some false := by
          intro us
          induction us with
          | nil => intro bs u h; cases bs <;> simp [rem] at h
          | cons y t ih2 =>
            intro bs u h
            cases bs with
            | nil => simp [rem] at h
            | cons c bs =>
              rw [rem] at h
              cases c with
              | true =>
                obtain ⟨j, h1, h2⟩ := ih2 bs u h
                exact ⟨j + 1, by simpa using h1, by simpa using h2⟩
              | false =>
                rcases List.mem_cons.1 h with rfl | h
                · exact ⟨0, rfl, rfl⟩
                · obtain ⟨j, h1, h2⟩ := ih2 bs u h
                  exact ⟨j + 1, by simpa using h1, by simpa using h2⟩
        intro u hu
        obtain ⟨j, h1, h2⟩ := mem r bs u hu
        exact ⟨j + 1, by simpa using h1, by simpa using h2⟩
      | succ i =>
        simp only [List.getElem?_cons_succ] at hb hu
        obtain ⟨l1, l2, e1, e2, h1, h2⟩ := ih bs i m hb hu
        cases b with
        | true =>
          refine ⟨l1, l2, e1, e2, fun u hu => ?_, fun u hu => ?_⟩
          · obtain ⟨j, hj, p, q⟩ := h1 u hu
            exact ⟨j + 1, by omega, by simpa using p, by simpa using q⟩
          · obtain ⟨j, p, q⟩ := h2 u hu
            exact ⟨j + 1, by simpa using p, by simpa using q⟩
        | false =>
          refine ⟨x :: l1, l2, by rw [rem, e1]; rfl, by rw [List.set_cons_succ, rem, e2]; rfl, fun u hu => ?_, fun u hu => ?_⟩
          · rcases List.mem_cons.1 hu with rfl | hu
            · exact ⟨0, by omega, rfl, rfl⟩
            · obtain ⟨j, hj, p, q⟩ := h1 u hu
              exact ⟨j + 1, by omega, by simpa using p, by simpa using q⟩
          · obtain ⟨j, p, q⟩ := h2 u hu
            exact ⟨j + 1, by simpa using p, by simpa using q⟩
theorem insT_head {m : Tmr} {ts : List Tmr} (h : ∀ u ∈ ts, m.due < u.due) : insT m ts = m :: ts := by
  cases ts with
  | nil => rfl
  | cons x r =>
    have := h x (by simp)
    rw [insT_gt (by omega)]
theorem srt_first (m : Tmr) (l1 l2 : List Tmr) (h1 : ∀ u ∈ l1, m.due < u.due) (h2 : ∀ u ∈ l2, m.due ≤ u.due) : srt (l1 ++ m :: l2) = m :: srt (l1 ++ l2) := by
  have go : ∀ (l2 a : List Tmr), (∀ u ∈ l2, m.due ≤ u.due) → l2.foldl (fun a t => insT t a) (m :: a) = m :: l2.foldl (fun a t => insT t a) a := by
    intro l2
    induction l2 with
    | nil => intro a _; rfl
    | cons t r ih =>
      intro a h
      rw [List.foldl_cons, List.foldl_cons, insT_le (h t (by simp))]
      exact ih _ fun u hu => h u (List.mem_cons_of_mem _ hu)
  have e : insT m (l1.foldl (fun a t => insT t a) []) = m :: l1.foldl (fun a t => insT t a) [] := insT_head fun u hu => h1 u (mem_srt.1 hu)
  unfold srt
  rw [List.foldl_append, List.foldl_append, List.foldl_cons, e]
  exact go l2 _ h2
def BestP (us : List Tmr) (bs : List Bool) (i : Nat) (best : Int) : Prop :=
  (best = -1 ∧ ∀ j, j < i → bs[j]? = some true) ∨ ∃ (b : Nat) (m : Tmr), best = b ∧ b < i ∧ bs[b]? = some false ∧ us[b]? = some m ∧ ∀ j u, j < i → bs[j]? = some false → us[j]? = some u → (j < b → m.due < u.due) ∧ m.due ≤ u.due
theorem best_used {us : List Tmr} {bs : List Bool} {i : Nat} {best : Int} (h : BestP us bs i best) (hb : bs[i]? = some true) : BestP us bs (i + 1) best := by
  have key : ∀ j, j < i + 1 → bs[j]? = some false → j < i := fun j hj hf => by
    by_cases e : j = i
    · subst e; rw [hb] at hf; cases hf
    · omega
  rcases h with ⟨rfl, h⟩ | ⟨b, m, rfl, h1, h2, h3, h4⟩
  · refine .inl ⟨rfl, fun j hj => ?_⟩
    by_cases e : j = i
    · subst e; exact hb
    · exact h j (by omega)
  · exact .inr ⟨b, m, rfl, by omega, h2, h3, fun j u hj hf hu => h4 j u (key j hj hf) hf hu⟩
theorem best_first {us : List Tmr} {bs : List Bool} {i : Nat} {m : Tmr} (h : BestP us bs i (-1)) (hb : bs[i]? = some false) (hu : us[i]? = some m) : BestP us bs (i + 1) i := by
  rcases h with ⟨_, h⟩ | ⟨b, m, e, _⟩
  · refine .inr ⟨i, m, rfl, by omega, hb, hu, fun j u hj hf hu' => ?_⟩
    by_cases e : j = i
    · subst e; rw [hu] at hu'; cases hu'; exact ⟨fun h => by omega, Int.le_refl _⟩
    · have := h j (by omega); rw [this] at hf; cases hf
  · omega
theorem best_less {us : List Tmr} {bs : List Bool} {i b : Nat} {m u : Tmr} (h : BestP us bs i b) (hm : us[b]? = some m) (hb : bs[i]? = some false) (hu : us[i]? = some u) (hl : u.due < m.due) : BestP us bs (i + 1) i := by
  rcases h with ⟨e, _⟩ | ⟨b', m', e, h1, h2, h3, h4⟩
  · omega
  · have : b = b' := by omega
    subst this
    rw [hm] at h3; cases h3
    refine .inr ⟨i, u, rfl, by omega, hb, hu, fun j v hj hf hv => ?_⟩
    by_cases e : j = i
    · subst e; rw [hu] at hv; cases hv; exact ⟨fun h => by omega, Int.le_refl _⟩
    · have := (h4 j v (by omega) hf hv).2
      exact ⟨fun _ => by omega, by omega⟩
theorem best_keep {us : List Tmr} {bs : List Bool} {i b : Nat} {m u : Tmr} (h : BestP us bs i b) (hm : us[b]? = some m) (hu : us[i]? = some u) (hl : ¬ u.due < m.due) : BestP us bs (i + 1) b := by
  rcases h with ⟨e, _⟩ | ⟨b', m', e, h1, h2, h3, h4⟩
  · omega
  · have : b = b' := by omega
    subst this
    rw [hm] at h3; cases h3
    refine .inr ⟨b, m, rfl, by omega, h2, hm, fun j v hj hf hv => ?_⟩
    by_cases e : j = i
    · subst e; rw [hu] at hv; cases hv; exact ⟨fun h => by omega, by omega⟩
    · exact h4 j v (by omega) hf hv
theorem best_end {us out : List Tmr} {bs : List Bool} {best : Int} (h : BestP us bs us.length best) (hl : out.length < us.length) (hs : srt us = out ++ srt (rem us bs)) :
    ∃ (b : Nat) (m : Tmr), best = b ∧ b < us.length ∧ us[b]? = some m ∧ srt us = (out ++ [m]) ++ srt (rem us (bs.set b true)) := by
  rcases h with ⟨rfl, h⟩ | ⟨b, m, rfl, h1, h2, h3, h4⟩
  · rw [rem_nil us bs h] at hs
    have := congrArg List.length hs
    rw [srt_length] at this
    simp [srt] at this
    omega
  · obtain ⟨l1, l2, e1, e2, p1, p2⟩ := rem_split us bs b m h2 h3
    refine ⟨b, m, rfl, h1, h3, ?_⟩
    rw [hs, e1, e2, srt_first m l1 l2 (fun u hu => ?_) (fun u hu => ?_)]
    · simp
    · obtain ⟨j, hj, q1, q2⟩ := p1 u hu
      exact (h4 j u (by omega) q2 q1).1 hj
    · obtain ⟨j, q1, q2⟩ := p2 u hu
      exact (h4 j u (List.getElem?_eq_some_iff.1 q1).1 q2 q1).2
theorem best_ok {us : List Tmr} {bs : List Bool} {i : Nat} {best : Int} (h : BestP us bs i best) (h0 : ¬ best < 0) : ∃ (b : Nat) (m : Tmr), best = b ∧ b < i ∧ us[b]? = some m := by
  rcases h with ⟨rfl, _⟩ | ⟨b, m, rfl, h1, _, h3, _⟩
  · omega
  · exact ⟨b, m, rfl, h1, h3⟩
theorem best_neg {us : List Tmr} {bs : List Bool} {i : Nat} {best : Int} (h : BestP us bs i best) (h0 : best < 0) : best = -1 := by
  rcases h with ⟨rfl, _⟩ | ⟨b, m, rfl, _⟩
  · rfl
  · omega
structure RefX where
  b : Nat
  now : Int
  us : List Tmr
  row : Row
def sortedC : Con where
  X := RefX
  Y := Row
  args x := [.pointer (some ⟨x.b, 0, none⟩)]
  pre x := [clkR x.b x.now x.row, x.row.A]
  cond x := isUs x.us x.row
  rdc _ _ := True
  rel x r := IsRow 44 4 (encT (srt x.us)) r ∧ r.n = x.us.length
  val _ r := .returned (.slice r.a r.n r.cap)
  post x r := [clkR x.b x.now x.row, x.row.A, r.A]
structure SoI where
  bs : List Bool
  out : List Tmr
  bu : Nat
  r : Row
  i : Nat
  best : Int
def SoP (us : List Tmr) (bs : List Bool) (out : List Tmr) (r : Row) : Prop := bs.length = us.length ∧ srt us = out ++ srt (rem us bs) ∧ IsRow 44 4 (encT out) r ∧ r.n = out.length ∧ out.length ≤ us.length
def sortedInv (x : RefX) (F : Atom) : Nat → Option Inv := fun
  | 0 => some { X := SoI, P := fun i => SoP x.us i.bs i.out i.r, mu := fun i => x.us.length - i.out.length, lv := fun i => [(0, .pointer (some ⟨x.b, 0, none⟩)), (3, .slice i.r.a i.r.n i.r.cap), (4, .slice (some ⟨i.bu, 0, none⟩) x.row.n x.row.n)], st := fun i => [clkR x.b x.now x.row, x.row.A, .cells i.bu (bls i.bs) 4, i.r.A, F] }
  | 2 => some { X := SoI, P := fun i => SoP x.us i.bs i.out i.r ∧ i.out.length < x.us.length ∧ i.i ≤ x.us.length ∧ BestP x.us i.bs i.i i.best, gh := some ⟨Nat, fun i => i.out.length⟩, mu := fun i => x.us.length - i.i, lv := fun i => [(0, .pointer (some ⟨x.b, 0, none⟩)), (3, .slice i.r.a i.r.n i.r.cap), (4, .slice (some ⟨i.bu, 0, none⟩) x.row.n x.row.n), (5, .int .i64 i.best), (6, .int .i64 i.i)], st := fun i => [clkR x.b x.now x.row, x.row.A, .cells i.bu (bls i.bs) 4, i.r.A, F] }
  | _ => none
def sortedOv (_x : RefX) (_F : Atom) : List (Nat × Nat × OH) := [(2, 5, .o (mkC 4 [.bool false] 1) [] [102]), (8, 14, .qo (ixQ 4)), (8, 16, .q [.ex 1 (.int .i64)]), (8, 22, .qo (ixQ 4)), (8, 24, .q [.ex 1 (.int .i64)]), (11, 6, .qo (ixQ 4)), (11, 7, .q [.ex 1 (.int .i64), .ex 1 .str, .ex 1 (.int .i64), .ex 1 (.int .i64)]), (11, 9, .o (apC 44 4 40) [3] [3])]
noncomputable def sorted_H (x : Con.X sortedC) (F : Atom) : Hints where
  op := hk ((sortedOv x F) ++ [(2, 3, OH.q [LH.atj (0 : Nat)]),   (3, 5, OH.q [LH.atj (0 : Nat)]),   (6, 4, OH.q [LH.atj (0 : Nat)]),   (8, 3, OH.q [LH.ex (2 : Nat) Shape.bool]),   (10, 3, OH.w [LH.ex (2 : Nat) Shape.any]),   (8, 12, OH.q [LH.atj (0 : Nat)]),   (11, 4, OH.q [LH.atj (0 : Nat)]),   (8, 20, OH.q [LH.atj (0 : Nat)]),   (11, 8, OH.n (12080 : Nat))])
  inv := sortedInv x F
  cut := (fun _ _ _ => none) x F
  ord := (fun _ => [])
set_option maxRecDepth 100000 in
theorem sorted_vc (x : RefX) (F : Atom) (hc : Con.cond sortedC x) (hr : Con.rdc sortedC x F) :
  Same { block := x.b, off := (1 : Nat) } x.b ∧
    OpOk Try.prog (opIn Try.f17 (2 : Nat) (5 : Nat)) (mkC (4 : TypeId) [Value.bool false] (1 : Nat)) ∧
      true = true ∧
        ∃ (x_1 : MkX),
          [Value.int IntKind.i64 (↑x.row.n : Int), Value.int IntKind.i64 (↑x.row.n : Int)] = [Value.int IntKind.i64 x_1.n, Value.int IntKind.i64 x_1.c] ∧
            ([] : List Atom) = [] ∧
              ((0 : Int) ≤ x_1.n ∧ x_1.n ≤ x_1.c ∧ x_1.c * (↑(1 : Nat) : Int) ≤ (281474976710656 : Int) ∧ x_1.c ≤ (9223372036854775807 : Int)) ∧
                True ∧
                  ∀ (y : Nat),
                    True →
                      (∃ (x_2 : SoI), SoP x.us x_2.bs x_2.out x_2.r ∧ (Value.pointer (some { block := x.b, off := (0 : Nat) }) = Value.pointer (some { block := x.b, off := (0 : Nat) }) ∧ Value.slice none (0 : Nat) (0 : Nat) = Value.slice x_2.r.a x_2.r.n x_2.r.cap ∧ Value.slice (some { block := y, off := (0 : Nat) }) x_1.n.toNat x_1.c.toNat = Value.slice (some { block := x_2.bu, off := (0 : Nat) }) x.row.n x.row.n ∧ True) ∧ Ent [((0 : Nat), Atom.cells x.b [Value.int IntKind.i64 x.now, Value.slice x.row.a x.row.n x.row.cap] (29 : Nat)), ((1 : Nat), x.row.A), ((2 : Nat), F), ((102 : Nat), Atom.cells y (zeros [Value.bool false] x_1.c.toNat) (4 : Nat))] [((0 : Nat), Atom.cells x.b [Value.int IntKind.i64 x.now, Value.slice x.row.a x.row.n x.row.cap] (29 : Nat)), ((1 : Nat), x.row.A), ((2 : Nat), Atom.cells x_2.bu (bls x_2.bs) (4 : Nat)), ((3 : Nat), x_2.r.A), ((4 : Nat), F)]) ∧
                        ∀ (x_2 : SoI) (js : Nat → Value),
                          SoP x.us x_2.bs x_2.out x_2.r →
                            Same { block := x.b, off := (1 : Nat) } x.b ∧
                              Br (decide ((↑x_2.r.n : Int) < (↑x.row.n : Int)))
                                (∃ (n : Nat),
                                  (∃ (x_3 : SoI),
                                      ((SoP x.us x_3.bs x_3.out x_3.r ∧ x_3.out.length < x.us.length ∧ x_3.i ≤ x.us.length ∧ BestP x.us x_3.bs x_3.i x_3.best) ∧ x_3.out.length = n) ∧
                                        (Value.pointer (some { block := x.b, off := (0 : Nat) }) = Value.pointer (some { block := x.b, off := (0 : Nat) }) ∧ Value.slice x_2.r.a x_2.r.n x_2.r.cap = Value.slice x_3.r.a x_3.r.n x_3.r.cap ∧ Value.slice (some { block := x_2.bu, off := (0 : Nat) }) x.row.n x.row.n = Value.slice (some { block := x_3.bu, off := (0 : Nat) }) x.row.n x.row.n ∧ Value.int IntKind.i64 (-1 : Int) = Value.int IntKind.i64 x_3.best ∧ Value.int IntKind.i64 (0 : Int) = Value.int IntKind.i64 (↑x_3.i : Int) ∧ True) ∧ Ent [((0 : Nat), Atom.cells x.b [Value.int IntKind.i64 x.now, Value.slice x.row.a x.row.n x.row.cap] (29 : Nat)), ((1 : Nat), x.row.A), ((2 : Nat), Atom.cells x_2.bu (bls x_2.bs) (4 : Nat)), ((3 : Nat), x_2.r.A), ((4 : Nat), F)] [((0 : Nat), Atom.cells x.b [Value.int IntKind.i64 x.now, Value.slice x.row.a x.row.n x.row.cap] (29 : Nat)), ((1 : Nat), x.row.A), ((2 : Nat), Atom.cells x_3.bu (bls x_3.bs) (4 : Nat)), ((3 : Nat), x_3.r.A), ((4 : Nat), F)]) ∧
                                    ∀ (x_3 : SoI) (js : Nat → Value),
                                      (SoP x.us x_3.bs x_3.out x_3.r ∧ x_3.out.length < x.us.length ∧ x_3.i ≤ x.us.length ∧ BestP x.us x_3.bs x_3.i x_3.best) ∧ x_3.out.length = n →
                                        Same { block := x.b, off := (1 : Nat) } x.b ∧
                                          Br (decide ((↑x_3.i : Int) < (↑x.row.n : Int)))
                                            (true = true ∧
                                              ((0 : Int) ≤ (↑x_3.i : Int) ∧ (↑x_3.i : Int) < (↑x.row.n : Int)) ∧
                                                ∃ (b : Bool),
                                                  Look (Atom.cells x_3.bu (bls x_3.bs) (4 : Nat)) { block := x_3.bu, off := (0 : Nat) + (↑x_3.i : Int).toNat * (1 : Nat) } (Value.bool b) ∧
                                                    Br (!b)
                                                      (Br (decide (x_3.best < (0 : Int)))
                                                        (((-9223372036854775808 : Int) ≤ (↑x_3.i : Int) + (1 : Int) ∧ (↑x_3.i : Int) + (1 : Int) ≤ (9223372036854775807 : Int)) ∧
                                                          ∃ (y : SoI),
                                                            ((SoP x.us y.bs y.out y.r ∧ y.out.length < x.us.length ∧ y.i ≤ x.us.length ∧ BestP x.us y.bs y.i y.best) ∧ y.out.length = n) ∧
                                                              (Value.pointer (some { block := x.b, off := (0 : Nat) }) = Value.pointer (some { block := x.b, off := (0 : Nat) }) ∧ Value.slice x_3.r.a x_3.r.n x_3.r.cap = Value.slice y.r.a y.r.n y.r.cap ∧ Value.slice (some { block := x_3.bu, off := (0 : Nat) }) x.row.n x.row.n = Value.slice (some { block := y.bu, off := (0 : Nat) }) x.row.n x.row.n ∧ Value.int IntKind.i64 (↑x_3.i : Int) = Value.int IntKind.i64 y.best ∧ Value.int IntKind.i64 ((↑x_3.i : Int) + (1 : Int)) = Value.int IntKind.i64 (↑y.i : Int) ∧ True) ∧
                                                                Ent [((0 : Nat), Atom.cells x.b [Value.int IntKind.i64 x.now, Value.slice x.row.a x.row.n x.row.cap] (29 : Nat)), ((1 : Nat), x.row.A), ((2 : Nat), Atom.cells x_3.bu (bls x_3.bs) (4 : Nat)), ((3 : Nat), x_3.r.A), ((4 : Nat), F)] [((0 : Nat), Atom.cells x.b [Value.int IntKind.i64 x.now, Value.slice x.row.a x.row.n x.row.cap] (29 : Nat)), ((1 : Nat), x.row.A), ((2 : Nat), Atom.cells y.bu (bls y.bs) (4 : Nat)), ((3 : Nat), y.r.A), ((4 : Nat), F)] ∧ x.us.length - y.i < x.us.length - x_3.i)
                                                        (Same { block := x.b, off := (1 : Nat) } x.b ∧
                                                          QOpOk Try.prog (opIn Try.f17 (8 : Nat) (14 : Nat)) (ixQ (4 : Nat)) ∧
                                                            ∃ (x_4 : IxQX),
                                                              [Value.slice x.row.a x.row.n x.row.cap, Value.int IntKind.i64 (↑x_3.i : Int)] = [Value.slice (some { block := x_4.b, off := x_4.o }) x_4.len x_4.cap, Value.int IntKind.i64 x_4.n] ∧
                                                                ((0 : Int) ≤ x_4.n ∧ x_4.n < (↑x_4.len : Int)) ∧
                                                                  ∃ (n_1 : Int),
                                                                    Look x.row.A { block := x_4.b, off := x_4.o + x_4.n.toNat * (4 : Nat) + (2 : Nat) } (Value.int IntKind.i64 n_1) ∧
                                                                      Same { block := x.b, off := (1 : Nat) } x.b ∧
                                                                        QOpOk Try.prog (opIn Try.f17 (8 : Nat) (22 : Nat)) (ixQ (4 : Nat)) ∧
                                                                          ∃ (x_5 : IxQX),
                                                                            [Value.slice x.row.a x.row.n x.row.cap, Value.int IntKind.i64 x_3.best] = [Value.slice (some { block := x_5.b, off := x_5.o }) x_5.len x_5.cap, Value.int IntKind.i64 x_5.n] ∧
                                                                              ((0 : Int) ≤ x_5.n ∧ x_5.n < (↑x_5.len : Int)) ∧
                                                                                ∃ (n_2 : Int),
                                                                                  Look x.row.A { block := x_5.b, off := x_5.o + x_5.n.toNat * (4 : Nat) + (2 : Nat) } (Value.int IntKind.i64 n_2) ∧
                                                                                    Br (decide (n_1 < n_2))
                                                                                      (((-9223372036854775808 : Int) ≤ (↑x_3.i : Int) + (1 : Int) ∧ (↑x_3.i : Int) + (1 : Int) ≤ (9223372036854775807 : Int)) ∧
                                                                                        ∃ (y : SoI),
                                                                                          ((SoP x.us y.bs y.out y.r ∧ y.out.length < x.us.length ∧ y.i ≤ x.us.length ∧ BestP x.us y.bs y.i y.best) ∧ y.out.length = n) ∧
                                                                                            (Value.pointer (some { block := x.b, off := (0 : Nat) }) = Value.pointer (some { block := x.b, off := (0 : Nat) }) ∧ Value.slice x_3.r.a x_3.r.n x_3.r.cap = Value.slice y.r.a y.r.n y.r.cap ∧ Value.slice (some { block := x_3.bu, off := (0 : Nat) }) x.row.n x.row.n = Value.slice (some { block := y.bu, off := (0 : Nat) }) x.row.n x.row.n ∧ Value.int IntKind.i64 (↑x_3.i : Int) = Value.int IntKind.i64 y.best ∧ Value.int IntKind.i64 ((↑x_3.i : Int) + (1 : Int)) = Value.int IntKind.i64 (↑y.i : Int) ∧ True) ∧
                                                                                              Ent [((0 : Nat), Atom.cells x.b [Value.int IntKind.i64 x.now, Value.slice x.row.a x.row.n x.row.cap] (29 : Nat)), ((1 : Nat), x.row.A), ((2 : Nat), Atom.cells x_3.bu (bls x_3.bs) (4 : Nat)), ((3 : Nat), x_3.r.A), ((4 : Nat), F)] [((0 : Nat), Atom.cells x.b [Value.int IntKind.i64 x.now, Value.slice x.row.a x.row.n x.row.cap] (29 : Nat)), ((1 : Nat), x.row.A), ((2 : Nat), Atom.cells y.bu (bls y.bs) (4 : Nat)), ((3 : Nat), y.r.A), ((4 : Nat), F)] ∧ x.us.length - y.i < x.us.length - x_3.i)
                                                                                      (((-9223372036854775808 : Int) ≤ (↑x_3.i : Int) + (1 : Int) ∧ (↑x_3.i : Int) + (1 : Int) ≤ (9223372036854775807 : Int)) ∧
                                                                                        ∃ (y : SoI),
                                                                                          ((SoP x.us y.bs y.out y.r ∧ y.out.length < x.us.length ∧ y.i ≤ x.us.length ∧ BestP x.us y.bs y.i y.best) ∧ y.out.length = n) ∧
                                                                                            (Value.pointer (some { block := x.b, off := (0 : Nat) }) = Value.pointer (some { block := x.b, off := (0 : Nat) }) ∧ Value.slice x_3.r.a x_3.r.n x_3.r.cap = Value.slice y.r.a y.r.n y.r.cap ∧ Value.slice (some { block := x_3.bu, off := (0 : Nat) }) x.row.n x.row.n = Value.slice (some { block := y.bu, off := (0 : Nat) }) x.row.n x.row.n ∧ Value.int IntKind.i64 x_3.best = Value.int IntKind.i64 y.best ∧ Value.int IntKind.i64 ((↑x_3.i : Int) + (1 : Int)) = Value.int IntKind.i64 (↑y.i : Int) ∧ True) ∧
                                                                                              Ent [((0 : Nat), Atom.cells x.b [Value.int IntKind.i64 x.now, Value.slice x.row.a x.row.n x.row.cap] (29 : Nat)), ((1 : Nat), x.row.A), ((2 : Nat), Atom.cells x_3.bu (bls x_3.bs) (4 : Nat)), ((3 : Nat), x_3.r.A), ((4 : Nat), F)] [((0 : Nat), Atom.cells x.b [Value.int IntKind.i64 x.now, Value.slice x.row.a x.row.n x.row.cap] (29 : Nat)), ((1 : Nat), x.row.A), ((2 : Nat), Atom.cells y.bu (bls y.bs) (4 : Nat)), ((3 : Nat), y.r.A), ((4 : Nat), F)] ∧ x.us.length - y.i < x.us.length - x_3.i)))
                                                      (((-9223372036854775808 : Int) ≤ (↑x_3.i : Int) + (1 : Int) ∧ (↑x_3.i : Int) + (1 : Int) ≤ (9223372036854775807 : Int)) ∧
                                                        ∃ (y : SoI),
                                                          ((SoP x.us y.bs y.out y.r ∧ y.out.length < x.us.length ∧ y.i ≤ x.us.length ∧ BestP x.us y.bs y.i y.best) ∧ y.out.length = n) ∧
                                                            (Value.pointer (some { block := x.b, off := (0 : Nat) }) = Value.pointer (some { block := x.b, off := (0 : Nat) }) ∧ Value.slice x_3.r.a x_3.r.n x_3.r.cap = Value.slice y.r.a y.r.n y.r.cap ∧ Value.slice (some { block := x_3.bu, off := (0 : Nat) }) x.row.n x.row.n = Value.slice (some { block := y.bu, off := (0 : Nat) }) x.row.n x.row.n ∧ Value.int IntKind.i64 x_3.best = Value.int IntKind.i64 y.best ∧ Value.int IntKind.i64 ((↑x_3.i : Int) + (1 : Int)) = Value.int IntKind.i64 (↑y.i : Int) ∧ True) ∧
                                                              Ent [((0 : Nat), Atom.cells x.b [Value.int IntKind.i64 x.now, Value.slice x.row.a x.row.n x.row.cap] (29 : Nat)), ((1 : Nat), x.row.A), ((2 : Nat), Atom.cells x_3.bu (bls x_3.bs) (4 : Nat)), ((3 : Nat), x_3.r.A), ((4 : Nat), F)] [((0 : Nat), Atom.cells x.b [Value.int IntKind.i64 x.now, Value.slice x.row.a x.row.n x.row.cap] (29 : Nat)), ((1 : Nat), x.row.A), ((2 : Nat), Atom.cells y.bu (bls y.bs) (4 : Nat)), ((3 : Nat), y.r.A), ((4 : Nat), F)] ∧ x.us.length - y.i < x.us.length - x_3.i))
                                            (((0 : Int) ≤ x_3.best ∧ x_3.best < (↑x.row.n : Int)) ∧
                                              (Same { block := x_3.bu, off := (0 : Nat) + x_3.best.toNat * (1 : Nat) } x_3.bu ∧ (0 : Nat) + x_3.best.toNat * (1 : Nat) < (bls x_3.bs).length) ∧
                                                Same { block := x.b, off := (1 : Nat) } x.b ∧
                                                  QOpOk Try.prog (opIn Try.f17 (11 : Nat) (6 : Nat)) (ixQ (4 : Nat)) ∧
                                                    ∃ (x_4 : IxQX),
                                                      [Value.slice x.row.a x.row.n x.row.cap, Value.int IntKind.i64 x_3.best] = [Value.slice (some { block := x_4.b, off := x_4.o }) x_4.len x_4.cap, Value.int IntKind.i64 x_4.n] ∧
                                                        ((0 : Int) ≤ x_4.n ∧ x_4.n < (↑x_4.len : Int)) ∧
                                                          ∃ (n : Int),
                                                            Look x.row.A { block := x_4.b, off := x_4.o + x_4.n.toNat * (4 : Nat) } (Value.int IntKind.i64 n) ∧
                                                              ∃ (s : ByteArray),
                                                                Look x.row.A { block := x_4.b, off := x_4.o + x_4.n.toNat * (4 : Nat) + (1 : Nat) } (Value.string s) ∧
                                                                  ∃ (n_1 : Int),
                                                                    Look x.row.A { block := x_4.b, off := x_4.o + x_4.n.toNat * (4 : Nat) + (2 : Nat) } (Value.int IntKind.i64 n_1) ∧
                                                                      ∃ (n_2 : Int),
                                                                        Look x.row.A { block := x_4.b, off := x_4.o + x_4.n.toNat * (4 : Nat) + (3 : Nat) } (Value.int IntKind.i64 n_2) ∧
                                                                          ∀ (b : Nat),
                                                                            OpOk Try.prog (opIn Try.f17 (11 : Nat) (9 : Nat)) (apC (44 : TypeId) (4 : Nat) (40 : Nat)) ∧
                                                                              true = true ∧
                                                                                ∃ (x_5 : ApX),
                                                                                  [Value.slice x_3.r.a x_3.r.n x_3.r.cap, Value.slice (some { block := b, off := (0 : Nat) }) (1 : Nat) (1 : Nat)] = [Value.slice x_5.r.a x_5.r.n x_5.r.cap, Value.slice x_5.a x_5.m x_5.c] ∧
                                                                                    [x_3.r.A] = [x_5.r.A] ∧
                                                                                      (IsRow (44 : Nat) (4 : Nat) x_5.cs x_5.r ∧ x_5.ys.length = x_5.m * (4 : Nat) ∧ (∀ (u : Value), u ∈ x_5.ys → u.oneCell' = true) ∧ (x_5.r.n + x_5.m) * (40 : Nat) ≤ (140737488355328 : Nat) ∧ x_5.r.n + x_5.m ≤ (9223372036854775807 : Nat) ∧ (x_5.a = none → x_5.m = (0 : Nat) ∧ x_5.c = (0 : Nat))) ∧
                                                                                        (∀ (a : Addr), x_5.a = some a → Seg (Atom.pred (rest [((0 : Nat), Atom.cells x.b [Value.int IntKind.i64 x.now, Value.slice x.row.a x.row.n x.row.cap] (29 : Nat)), ((1 : Nat), x.row.A), ((2 : Nat), Atom.cells x_3.bu ((bls x_3.bs).set ((0 : Nat) + x_3.best.toNat * (1 : Nat)) (Value.bool true)) (4 : Nat)), ((3 : Nat), x_3.r.A), ((4 : Nat), F), ((12080 : Nat), Atom.cells b [Value.int IntKind.i64 n, Value.string s, Value.int IntKind.i64 n_1, Value.int IntKind.i64 n_2] (44 : Nat))] [(3 : Nat)])) a x_5.ys) ∧
                                                                                          ∀ (y : Row),
                                                                                            IsRow (44 : Nat) (4 : Nat) (x_5.cs ++ x_5.ys) y ∧ y.n = x_5.r.n + x_5.m ∧ (x_5.m = (0 : Nat) → y = x_5.r) →
                                                                                              ∃ (y_1 : SoI),
                                                                                                SoP x.us y_1.bs y_1.out y_1.r ∧
                                                                                                  (Value.pointer (some { block := x.b, off := (0 : Nat) }) = Value.pointer (some { block := x.b, off := (0 : Nat) }) ∧ Value.slice y.a y.n y.cap = Value.slice y_1.r.a y_1.r.n y_1.r.cap ∧ Value.slice (some { block := x_3.bu, off := (0 : Nat) }) x.row.n x.row.n = Value.slice (some { block := y_1.bu, off := (0 : Nat) }) x.row.n x.row.n ∧ True) ∧
                                                                                                    Ent [((0 : Nat), Atom.cells x.b [Value.int IntKind.i64 x.now, Value.slice x.row.a x.row.n x.row.cap] (29 : Nat)), ((1 : Nat), x.row.A), ((2 : Nat), Atom.cells x_3.bu ((bls x_3.bs).set ((0 : Nat) + x_3.best.toNat * (1 : Nat)) (Value.bool true)) (4 : Nat)), ((3 : Nat), y.A), ((4 : Nat), F), ((12080 : Nat), Atom.cells b [Value.int IntKind.i64 n, Value.string s, Value.int IntKind.i64 n_1, Value.int IntKind.i64 n_2] (44 : Nat))] [((0 : Nat), Atom.cells x.b [Value.int IntKind.i64 x.now, Value.slice x.row.a x.row.n x.row.cap] (29 : Nat)), ((1 : Nat), x.row.A), ((2 : Nat), Atom.cells y_1.bu (bls y_1.bs) (4 : Nat)), ((3 : Nat), y_1.r.A), ((4 : Nat), F)] ∧ x.us.length - y_1.out.length < x.us.length - x_2.out.length))
                                (Done sortedC x F (Ending.returned (Value.slice x_2.r.a x_2.r.n x_2.r.cap)) [((0 : Nat), Atom.cells x.b [Value.int IntKind.i64 x.now, Value.slice x.row.a x.row.n x.row.cap] (29 : Nat)), ((1 : Nat), x.row.A), ((2 : Nat), Atom.cells x_2.bu (bls x_2.bs) (4 : Nat)), ((3 : Nat), x_2.r.A), ((4 : Nat), F)]) := by
  obtain ⟨b, now, us, row⟩ := x
  obtain ⟨hrow, hn, h128⟩ := hc
  dsimp only at hrow hn h128 ⊢
  have e0 : ∀ i : Nat, 0 + (i : Int).toNat * 1 = i := fun i => by omega
  refine ⟨⟨rfl, rfl⟩, make_ok (P := Try.prog) [.bool false] 1 rfl rfl rfl rfl rfl rfl (by simp) rfl, rfl, ⟨row.n, row.n⟩, rfl, rfl, ⟨by dsimp only; omega, by dsimp only; omega, by dsimp only; omega, by dsimp only; omega⟩, trivial, fun bu _ => ⟨⟨⟨List.replicate us.length false, [], bu, ⟨none, 0, 0, .emp⟩, 0, 0⟩, ⟨List.length_replicate .., by dsimp only; rw [rem_none]; rfl, .nil rfl, rfl, Nat.zero_le _⟩, ⟨rfl, rfl, rfl, trivial⟩, ?_⟩, ?_⟩⟩
  · dsimp only
    rw [Int.toNat_natCast, zeros_bls, hn]
    exact Ent.pick [0, 1, 102, 77, 2] rfl rfl
  rintro ⟨bs, out, bu, r, i, best⟩ js hP
  dsimp only at hP ⊢
  obtain ⟨p1, p2, p3, p4, p5⟩ := hP
  refine ⟨⟨rfl, rfl⟩, br_decide (fun hlt => ?_) (fun hge => ?_)⟩
  · refine ⟨out.length, ⟨⟨bs, out, bu, r, 0, -1⟩, ⟨⟨⟨p1, p2, p3, p4, p5⟩, by dsimp only; omega, Nat.zero_le _, .inl ⟨rfl, fun j hj => absurd hj (Nat.not_lt_zero j)⟩⟩, rfl⟩, ⟨rfl, rfl, rfl, rfl, rfl, trivial⟩, Ent.pick [0, 1, 2, 3, 4] rfl rfl⟩, ?_⟩
    rintro ⟨bs2, out2, bu2, r2, i2, best⟩ js2 ⟨⟨⟨q1, q2, q3, q4, q5⟩, q6, q7, q8⟩, q9⟩
    dsimp only at q1 q2 q3 q4 q5 q6 q7 q8 q9 ⊢
    obtain ⟨b1, o1, ea⟩ := hrow.src.some (show 0 < row.n by omega)
    have hsr := hrow.srcd
    rw [ea] at hsr
    refine ⟨⟨rfl, rfl⟩, br_decide (fun hi => ?_) (fun hi => ?_)⟩
    · obtain ⟨c, hc⟩ : ∃ c, bs2[i2]? = some c := ⟨_, List.getElem?_eq_getElem (by omega)⟩
      obtain ⟨u, hu⟩ : ∃ u, us[i2]? = some u := ⟨_, List.getElem?_eq_getElem (by omega)⟩
      refine ⟨rfl, ⟨by omega, by omega⟩, c, by rw [e0]; exact Look.cells (bls_get hc), br_intro (fun hc0 => br_decide (fun hneg => ?_) (fun hpos => ?_)) (fun hc0 => ?_)⟩
      · have : best = -1 := best_neg q8 hneg
        subst this
        have : c = false := by simpa using hc0
        subst this
        exact ⟨by omega, ⟨bs2, out2, bu2, r2, i2 + 1, i2⟩, ⟨⟨⟨q1, q2, q3, q4, q5⟩, q6, by dsimp only; omega, best_first q8 hc hu⟩, q9⟩, ⟨rfl, rfl, rfl, rfl, rfl, trivial⟩, Ent.pick [0, 1, 2, 3, 4] rfl rfl, by dsimp only; omega⟩
      · obtain ⟨bb, m, rfl, hb1, hm⟩ := best_ok q8 hpos
        have : c = false := by simpa using hc0
        subst this
        refine ⟨⟨rfl, rfl⟩, ixq_ok 4 rfl rfl rfl rfl, ⟨b1, o1, row.n, row.cap, i2⟩, by rw [ea], by dsimp only; omega, u.due, srcd_enc (j := i2) (c := 2) hsr hu (by decide) rfl, ⟨rfl, rfl⟩, ixq_ok 4 rfl rfl rfl rfl, ⟨b1, o1, row.n, row.cap, bb⟩, by rw [ea], by dsimp only; omega, m.due, srcd_enc (j := bb) (c := 2) hsr hm (by decide) rfl, br_decide (fun hl => ?_) (fun hl => ?_)⟩
        · exact ⟨by omega, ⟨bs2, out2, bu2, r2, i2 + 1, i2⟩, ⟨⟨⟨q1, q2, q3, q4, q5⟩, q6, by dsimp only; omega, best_less q8 hm hc hu hl⟩, q9⟩, ⟨rfl, rfl, rfl, rfl, rfl, trivial⟩, Ent.pick [0, 1, 2, 3, 4] rfl rfl, by dsimp only; omega⟩
        · exact ⟨by omega, ⟨bs2, out2, bu2, r2, i2 + 1, bb⟩, ⟨⟨⟨q1, q2, q3, q4, q5⟩, q6, by dsimp only; omega, best_keep q8 hm hu hl⟩, q9⟩, ⟨rfl, rfl, rfl, rfl, rfl, trivial⟩, Ent.pick [0, 1, 2, 3, 4] rfl rfl, by dsimp only; omega⟩
      · have : c = true := by simpa using hc0
        subst this
        exact ⟨by omega, ⟨bs2, out2, bu2, r2, i2 + 1, best⟩, ⟨⟨⟨q1, q2, q3, q4, q5⟩, q6, by dsimp only; omega, best_used q8 hc⟩, q9⟩, ⟨rfl, rfl, rfl, rfl, rfl, trivial⟩, Ent.pick [0, 1, 2, 3, 4] rfl rfl, by dsimp only; omega⟩
    · have hi2 : i2 = us.length := by omega
      subst hi2
      obtain ⟨bb, m, rfl, hb1, hm, hs⟩ := best_end q8 q6 q2
      have one : ∀ u ∈ m.enc, u.oneCell' = true := by
        intro u h
        simp only [Tmr.enc, List.mem_cons, List.not_mem_nil, or_false] at h
        rcases h with rfl | rfl | rfl | rfl <;> rfl
      refine ⟨⟨by omega, by omega⟩, ⟨⟨rfl, rfl⟩, by rw [bls_length]; omega⟩, ⟨rfl, rfl⟩, ixq_ok 4 rfl rfl rfl rfl, ⟨b1, o1, row.n, row.cap, bb⟩, by rw [ea], by dsimp only; omega, m.ow, srcd_enc (j := bb) (c := 0) hsr hm (by decide) rfl, m.id, srcd_enc (j := bb) (c := 1) hsr hm (by decide) rfl, m.due, srcd_enc (j := bb) (c := 2) hsr hm (by decide) rfl, m.n, srcd_enc (j := bb) (c := 3) hsr hm (by decide) rfl, fun b3 => ⟨append_ok (P := Try.prog) 4 40 rfl rfl rfl rfl rfl rfl rfl (by decide), rfl, ⟨r2, encT out2, some ⟨b3, 0, none⟩, 1, 1, m.enc⟩, rfl, rfl, ⟨q3, rfl, one, by dsimp only; omega, by dsimp only; omega, by simp⟩, ?_, ?_⟩⟩
      · intro ad e
        cases e
        exact Seg.rest (j := 12080) (by simp) (Seg.cells fun j u h => by rw [Nat.zero_add]; exact h)
      · rintro y ⟨hy, hyn, -⟩
        dsimp only at hy hyn ⊢
        refine ⟨⟨bs2.set bb true, out2 ++ [m], bu2, y, 0, 0⟩, ⟨by dsimp only; rw [List.length_set]; exact q1, hs, ?_, by dsimp only; rw [List.length_append]; simp; omega, by dsimp only; rw [List.length_append]; simp; omega⟩, ⟨rfl, rfl, rfl, trivial⟩, ?_, by dsimp only; rw [List.length_append]; simp; omega⟩
        · dsimp only
          rw [encT_append]
          have : encT [m] = m.enc := by simp [encT]
          rw [this]; exact hy
        · dsimp only
          rw [e0, bls_set]
          exact Ent.pick [0, 1, 2, 3, 4] rfl rfl
  · have hl : (srt (rem us bs)).length = 0 := by
      have := congrArg List.length p2
      rw [srt_length, List.length_append] at this
      omega
    have hsr : srt us = out := by rw [p2, List.eq_nil_of_length_eq_zero hl, List.append_nil]
    refine ⟨r, ⟨?_, by dsimp only; omega⟩, rfl, Ent.pick [0, 1, 3, 4] rfl rfl⟩
    dsimp only
    rw [hsr]; exact p3
set_option maxRecDepth 100000 in
theorem sorted_ok : FnOk Try.prog 17 sortedC :=
  fnOk (N := 73) (by kernel_rfl) Try.func17 rfl (by kernel_rfl) (fun _ => Nat.le_of_ble_eq_true rfl) sorted_H [] fun x F hc hr => Eq.mpr (by kernel_rfl) (sorted_vc x F hc hr)
end Go.Proofs.Ytmknmibmnidnoaa
