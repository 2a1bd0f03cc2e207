/- Slices of things that hold slices: as lists, read in a part of the memory. -/
import Derived.Test.YtkmdgnbfojkcnaaEngL
import Derived.Test.YtkmdgnbfojkcnaaRows
set_option linter.all false
namespace Go.Proofs.Ytkmdgnbfojkcnaa
open Go Go.ChangeShapes Go.WideShapes Go.ChangeAt Go.RowKit
/-- Two lists, row by row. -/
def All2 {α β : Type} (R : α → β → Prop) : List α → List β → Prop
  | [], [] => True
  | a :: l, b :: m => R a b ∧ All2 R l m
  | _, _ => False
theorem All2.len {α β : Type} {R : α → β → Prop} : ∀ {l : List α} {m : List β}, All2 R l m → l.length = m.length
  | [], [], _ => rfl
  | [], _ :: _, h => h.elim
  | _ :: _, [], h => h.elim
  | _ :: l, _ :: m, h => by simp [All2.len h.2]
theorem All2.get {α β : Type} {R : α → β → Prop} : ∀ {l : List α} {m : List β}, All2 R l m → ∀ (i : Nat) (b : β), m[i]? = some b → ∃ a, l[i]? = some a ∧ R a b
  | [], [], _, i, b, e => by simp at e
  | [], _ :: _, h, _, _, _ => h.elim
  | _ :: _, [], h, _, _, _ => h.elim
  | a :: l, b :: m, h, 0, c, e => by simp at e; subst e; exact ⟨a, rfl, h.1⟩
  | a :: l, b :: m, h, i + 1, c, e => by
    obtain ⟨x, h1, h2⟩ := All2.get h.2 i c (by simpa using e)
    exact ⟨x, by simpa using h1, h2⟩
theorem All2.mono {α β : Type} {R R' : α → β → Prop} (hR : ∀ a b, R a b → R' a b) : ∀ {l : List α} {m : List β}, All2 R l m → All2 R' l m
  | [], [], _ => trivial
  | [], _ :: _, h => h.elim
  | _ :: _, [], h => h.elim
  | _ :: _, _ :: _, h => ⟨hR _ _ h.1, All2.mono hR h.2⟩
theorem All2.snoc {α β : Type} {R : α → β → Prop} {a : α} {b : β} (hab : R a b) : ∀ {l : List α} {m : List β}, All2 R l m → All2 R (l ++ [a]) (m ++ [b])
  | [], [], _ => ⟨hab, trivial⟩
  | [], _ :: _, h => h.elim
  | _ :: _, [], h => h.elim
  | _ :: _, _ :: _, h => ⟨h.1, All2.snoc hab h.2⟩
theorem flatten_len {k : Nat} : ∀ {raw : List (List Value)}, (∀ r ∈ raw, r.length = k) → raw.flatten.length = raw.length * k
  | [], _ => by simp
  | r :: l, h => by
    rw [List.flatten_cons, List.length_append, flatten_len (fun x hx => h x (List.mem_cons_of_mem _ hx)), h r (List.mem_cons_self ..), List.length_cons, Nat.succ_mul]
    omega
theorem flatten_get {k : Nat} : ∀ {raw : List (List Value)}, (∀ r ∈ raw, r.length = k) → ∀ (i j : Nat) (r : List Value) (u : Value), raw[i]? = some r → r[j]? = some u → raw.flatten[i * k + j]? = some u
  | [], _, i, j, r, u, h, _ => by simp at h
  | a :: l, hk, 0, j, r, u, h, hj => by
    simp only [List.getElem?_cons_zero, Option.some.injEq] at h
    subst h
    rw [List.flatten_cons, Nat.zero_mul, Nat.zero_add, List.getElem?_append_left (List.getElem?_eq_some_iff.1 hj).1]
    exact hj
  | a :: l, hk, i + 1, j, r, u, h, hj => by
    have ha : a.length = k := hk a (List.mem_cons_self ..)
    rw [List.flatten_cons, Nat.succ_mul, List.getElem?_append_right (by omega)]
    have : i * k + k + j - a.length = i * k + j := by omega
    rw [this]
    exact flatten_get (fun x hx => hk x (List.mem_cons_of_mem _ hx)) i j r u (by simpa using h) hj
/-- A slice's value stands for a list: each element's cells are its thing's. -/
def SlIn {α : Type} (F : Atom) (R : List Value → α → Prop) (k Bw : Nat) (v : Value) (xs : List α) : Prop :=
  ∃ a n cap raw, v = .slice a n cap ∧ IsSrc k raw.flatten a n ∧ Srcd F a raw.flatten ∧ (a = none → cap = 0) ∧ n ≤ cap ∧ n * Bw ≤ 140737488351232 ∧ raw.length = n ∧ (∀ r ∈ raw, r.length = k) ∧ All2 R raw xs
theorem SlIn.sub {α : Type} {A B : Atom} {R R' : List Value → α → Prop} {k Bw : Nat} {v : Value} {xs : List α} (hs : Sub A B) (hR : ∀ r x, R r x → R' r x) (h : SlIn A R k Bw v xs) : SlIn B R' k Bw v xs := by
  obtain ⟨a, n, cap, raw, h1, h2, h3, h4, h5, h6, h7, h8, h9⟩ := h
  exact ⟨a, n, cap, raw, h1, h2, h3.sub hs, h4, h5, h6, h7, h8, h9.mono hR⟩
theorem SlIn.nil {α : Type} (F : Atom) (R : List Value → α → Prop) (k Bw : Nat) : SlIn F R k Bw (.slice none 0 0) [] :=
  ⟨none, 0, 0, [], rfl, .nil rfl, fun ad e => (by cases e), fun _ => rfl, Nat.le_refl 0, by rw [Nat.zero_mul]; exact Nat.zero_le _, rfl, by simp, trivial⟩
theorem SlIn.open {α : Type} {F : Atom} {R : List Value → α → Prop} {k Bw : Nat} {v : Value} {xs : List α} (h : SlIn F R k Bw v xs) : ∃ a cap, v = .slice a xs.length cap ∧ xs.length ≤ cap ∧ (a = none → xs.length = 0 ∧ cap = 0) ∧ xs.length * Bw ≤ 140737488351232 ∧
    (∀ (i : Nat) (x : α), xs[i]? = some x → ∃ b o r, a = some ⟨b, o, none⟩ ∧ r.length = k ∧ R r x ∧ ∀ j u, r[j]? = some u → Look F ⟨b, o + i * k + j, none⟩ u) := by
  obtain ⟨a, n, cap, raw, h1, h2, h3, h4, h5, h6, h7, h8, h9⟩ := h
  have hl := h9.len
  have hn : n = xs.length := by omega
  subst hn
  refine ⟨a, cap, h1, h5, fun e => ⟨?_, h4 e⟩, h6, fun i x hx => ?_⟩
  · have := h4 e; omega
  · have hi : i < xs.length := (List.getElem?_eq_some_iff.1 hx).1
    obtain ⟨r, hr, hR⟩ := h9.get i x hx
    obtain ⟨b, o, rfl⟩ := h2.some (by omega)
    refine ⟨b, o, r, rfl, h8 r (List.mem_of_getElem? hr), hR, fun j u hj => ?_⟩
    have := h3.look (flatten_get h8 i j r u hr hj)
    rwa [← Nat.add_assoc] at this
/-- A row that is owned, or what it was made of, read: a list's slice. -/
theorem SlIn.of {α : Type} {F : Atom} {R : List Value → α → Prop} {k Bw : Nat} {a : Option Addr} {n cap : Nat} {raw : List (List Value)} {xs : List α} (h1 : IsSrc k raw.flatten a n) (h2 : Srcd F a raw.flatten) (h3 : a = none → cap = 0) (h4 : n ≤ cap) (h5 : n * Bw ≤ 140737488351232)
    (h6 : raw.length = n) (h7 : ∀ r ∈ raw, r.length = k) (h8 : All2 R raw xs) : SlIn F R k Bw (.slice a n cap) xs := ⟨a, n, cap, raw, rfl, h1, h2, h3, h4, h5, h6, h7, h8⟩
section
variable {H : Type} {enc : TypeId × Value → H} {P : Program} {W : World} {base : Nat} {spare : Nat → Bool} {held : Bool}
/-- What a datum holds weighs at most what a row lets it. -/
def WtOk (P : Program) (t : TypeId) (d : DataW H) : Prop := (DataW.weights P t d).all (· ≤ reachBytes) = true
theorem wt_all {P : Program} {e : TypeId} {d : DataW H} : ∀ {ds : List (DataW H)}, d ∈ ds → (DataW.weightsAll P e ds).all (· ≤ reachBytes) = true → WtOk P e d
  | [], h, _ => by cases h
  | x :: r, h, hq => by
    rw [DataW.weightsAll, List.all_append, Bool.and_eq_true] at hq
    rcases List.mem_cons.1 h with rfl | h
    · exact hq.1
    · exact wt_all h hq.2
theorem wt_at {P : Program} : ∀ {ts : List TypeId} {ds : List (DataW H)} (i : Nat) {t : TypeId} {d : DataW H}, ts[i]? = some t → ds[i]? = some d → (DataW.weightsEach P ts ds).all (· ≤ reachBytes) = true → WtOk P t d
  | [], _, _, _, _, h, _, _ => by simp at h
  | _ :: _, [], _, _, _, _, h, _ => by simp at h
  | t :: ts, d :: ds, 0, _, _, h1, h2, h => by
    cases h1
    cases h2
    rw [DataW.weightsEach, List.all_append, Bool.and_eq_true] at h
    exact h.1
  | t :: ts, d :: ds, i + 1, _, _, h1, h2, h => by
    rw [DataW.weightsEach, List.all_append, Bool.and_eq_true] at h
    exact wt_at i (by simpa using h1) (by simpa using h2) h.2
theorem wt_slice {P : Program} {t te : TypeId} {xs rs : List (DataW H)} (ht : P.underlying t = some (.slice te)) (h : WtOk P t (.slice xs rs)) : xs.length * P.bytesOf te ≤ 140737488351232 ∧ (DataW.weightsAll P te xs).all (· ≤ reachBytes) = true := by
  unfold WtOk DataW.weights at h
  rw [ht] at h
  dsimp only at h
  rw [List.all_cons, Bool.and_eq_true, List.all_append, Bool.and_eq_true] at h
  have h1 : (xs.length + rs.length) * P.bytesOf te ≤ reachBytes := by simpa using h.1
  have h2 : xs.length * P.bytesOf te ≤ (xs.length + rs.length) * P.bytesOf te := Nat.mul_le_mul_right _ (Nat.le_add_right _ _)
  exact ⟨Nat.le_trans h2 h1, h.2.1⟩
theorem wt_fld {P : Program} {t : TypeId} {fs : Array Field} {xs : List (DataW H)} (ht : P.underlying t = some (.struct fs)) (h : WtOk P t (.agg xs)) {i : Nat} {f : Field} {d : DataW H} (hf : fs[i]? = some f) (hd : xs[i]? = some d) : WtOk P f.type d := by
  unfold WtOk DataW.weights at h
  rw [ht] at h
  exact wt_at i (by rw [List.getElem?_map, Array.getElem?_toList, hf]; rfl) hd h
theorem open_rel {α : Type} {k Bw : Nat} {R : List Value → α → Prop} (hk : 0 < k) {t te : TypeId} {fuel : Nat} {v : Value} {x : DataW H × List MemPlace}
    (ht : P.underlying t = some (.slice te)) (hc : P.cellsOf te = k) (hbw : P.bytesOf te = Bw)
    (hel : ∀ n ys y, ys.length = k → DataW.trod enc P W base spare held n te ys = some y → WtOk P te y.1 → ∃ x : α, R ys x)
    (h : DataW.trod enc P W base spare held fuel t [v] = some x) (hB : WtOk P t x.1) : ∃ xs : List α, SlIn (oldA W) R k Bw v xs := by
  rcases DataW.trod_slice ht h with ⟨h0, -⟩ | ⟨a, len, cap, elems, rest, n, _, h0, rfl, hb, hl, hm, hlen, hel', -, -⟩
  · simp only [List.cons.injEq, and_true] at h0
    subst h0
    exact ⟨[], SlIn.nil _ _ _ _⟩
  · simp only [List.cons.injEq, and_true] at h0
    subst h0
    have hw := wt_slice ht hB
    rw [hbw, List.length_map, hlen] at hw
    have hB' := hw.2
    have hln := hw.1
    have each : ∀ i, i < len → ∃ (ys : List Value) (x : α), ys.length = k ∧ R ys x ∧ ∀ j u, ys[j]? = some u → W.cell? (a.add (i * k + j)) = some u := by
      intro i hi
      have h1 := hel' i hi
      rw [List.getElem?_eq_getElem (by omega), Option.bind_eq_some_iff] at h1
      obtain ⟨ys, hys, hy⟩ := h1
      rw [hc] at hys
      obtain ⟨_, hyl, hcell⟩ := World.cells?_some hys
      obtain ⟨z, hz⟩ := hel _ _ _ hyl hy (wt_all (List.mem_map.2 ⟨_, List.getElem_mem _, rfl⟩) hB')
      refine ⟨ys, z, hyl, hz, fun j u hj => ?_⟩
      have hjk : j < k := by rw [← hyl]; exact (List.getElem?_eq_some_iff.1 hj).1
      have := hcell j hjk
      rw [hj] at this
      rw [← this]
      congr 1
      unfold Addr.add
      by_cases h0 : i * k = 0
      · by_cases hj0 : j = 0
        · simp [h0, hj0]
        · simp [h0, hj0]
      · by_cases hj0 : j = 0
        · simp [h0, hj0]
        · have : ¬ (i * k + j = 0) := by omega
          simp [h0, hj0, this, Nat.add_assoc]
    have build : ∀ m, m ≤ len → ∃ (raw : List (List Value)) (xs : List α), raw.length = m ∧ (∀ r ∈ raw, r.length = k) ∧ All2 R raw xs ∧ ∀ j u, raw.flatten[j]? = some u → W.cell? (a.add j) = some u := by
      intro m
      induction m with
      | zero => intro _; exact ⟨[], [], rfl, by simp, trivial, by simp⟩
      | succ m ih =>
        intro hm'
        obtain ⟨raw, xs, h1, h2, h3, h4⟩ := ih (by omega)
        obtain ⟨ys, z, hy, hz, hz'⟩ := each m (by omega)
        have hfl := flatten_len h2
        refine ⟨raw ++ [ys], xs ++ [z], by simp [h1], ?_, All2.snoc hz h3, fun j u hj => ?_⟩
        · intro r hr
          rcases List.mem_append.1 hr with hr | hr
          · exact h2 r hr
          · rw [List.mem_singleton] at hr; subst hr; exact hy
        · rw [List.flatten_append] at hj
          by_cases hlt : j < raw.flatten.length
          · rw [List.getElem?_append_left hlt] at hj
            exact h4 j u hj
          · rw [List.getElem?_append_right (by omega)] at hj
            have hge : m * k ≤ j := by rw [← h1, ← hfl]; omega
            have := hz' (j - raw.flatten.length) u (by simpa using hj)
            rwa [hfl, h1, show m * k + (j - m * k) = j by omega] at this
    obtain ⟨raw, xs, h1, h2, h3, h4⟩ := build len (Nat.le_refl _)
    have hfl := flatten_len h2
    rw [h1] at hfl
    refine ⟨xs, some a, len, cap, raw, rfl, ?_, fun ad e j u hj => (by cases e; exact look_old (h4 j u hj)), fun h => by simp at h, hl, hln, h1, h2, h3⟩
    by_cases hn : len = 0
    · subst hn
      exact .zero a (List.eq_nil_of_length_eq_zero (by rw [hfl]; simp))
    · have hpos : 0 < len * k := Nat.mul_pos (by omega) hk
      have hs : a.spot = none := by
        have h0 := h4 0 _ (List.getElem?_eq_getElem (by omega))
        cases hs : a.spot with
        | none => rfl
        | some s =>
          exfalso
          have e0 : a.add 0 = a := rfl
          rw [e0, ← cellOf_hp] at h0
          unfold cellOf at h0
          rw [hs] at h0
          split at h0 <;> simp at h0
      obtain ⟨b, o, s⟩ := a
      dsimp only at hs
      subst hs
      exact .blk b o len hfl
/-- A field of a struct that is read. -/
theorem fieldN {t : TypeId} {fs : Array Field} {n : Nat} {ys : List Value} {y : DataW H × List MemPlace} (ht : P.underlying t = some (.struct fs)) (h : DataW.trod enc P W base spare held n t ys = some y) (i j k : Nat) (f : Field)
    (hf : fs[i]? = some f) (ho : f.offset = j) (hc : P.cellsOf f.type = k) : ∃ m z, DataW.trod enc P W base spare held m f.type ((ys.drop j).take k) = some z ∧ (WtOk P t y.1 → WtOk P f.type z.1) := by
  obtain ⟨xs, m, rfl, rfl, hl, hx, hall⟩ := DataW.trod_struct ht h
  have h1 := hall i f hf
  have hi : i < xs.length := by rw [hx]; exact (Array.getElem?_eq_some_iff.1 hf).1
  rw [List.getElem?_eq_getElem hi, ho, hc] at h1
  exact ⟨m, _, h1, fun h => wt_fld ht h hf (by rw [List.getElem?_map, List.getElem?_eq_getElem hi]; rfl)⟩
end
end Go.Proofs.Ytkmdgnbfojkcnaa
