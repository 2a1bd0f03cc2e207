/- The engine, part H: rows of cells that are owned, and what append, copy, clear and make do to them. -/
import Derived.Test.YtmknmibmnidnoaaEngF
import Derived.Laws.Append
import Derived.Laws.AppendOwn
import Derived.Laws.CopyRow
set_option linter.all false
namespace Go.Proofs.Ytmknmibmnidnoaa
open Go

/-! ## states that hold no less -/
theorem Ent.refl (S : St) : Ent S S := ⟨fun I _ h => ⟨I, Imm.le_refl I, h⟩⟩
theorem Ent.trans {S S' S'' : St} (h : Ent S S') (h' : Ent S' S'') : Ent S S'' := ⟨fun I w hs => by
  obtain ⟨J, hle, hs'⟩ := h.h I w hs
  obtain ⟨K, hle', hs''⟩ := h'.h J w hs'
  exact ⟨K, Imm.le_trans hle hle', hs''⟩⟩
/-- The atoms at some numbers, one behind the other. -/
theorem Sat.pick {I : Imm} {w : World} {S S' : St} (idx : List Nat) (hn : nodupB idx = true) (e : ofL (idx.map (gt S)) = S') (h : Sat I S w) : Sat I S' w := by
  subst e
  have hnd := nodupB_spec hn
  obtain ⟨f, h1, h2, h3⟩ := h.own
  refine ⟨⟨fun i b => ∃ h : i < idx.length, f idx[i] b, fun i => ?_, fun i i' b hb hb' => ?_, fun i b hb => ?_⟩, h.imm⟩
  · rw [gt_ofL, List.getD_eq_getElem?_getD]
    by_cases hi : i < idx.length
    · simp only [List.getElem?_map, List.getElem?_eq_getElem hi, Option.map_some, Option.getD_some]
      have e : (fun b => ∃ h : i < idx.length, f idx[i] b) = f idx[i] := by funext b; simp [hi]
      show Atom.holds I (hp w) (fun b => ∃ h : i < idx.length, f idx[i] b) _
      rw [e]; exact h1 _
    · simp only [List.getElem?_map, List.getElem?_eq_none (Nat.le_of_not_lt hi), Option.map_none, Option.getD_none]
      trivial
  · obtain ⟨hi, hb⟩ := hb
    obtain ⟨hi', hb'⟩ := hb'
    have := h2 _ _ _ hb hb'
    have hpw := List.pairwise_iff_getElem.1 hnd
    rcases Nat.lt_trichotomy i i' with e | e | e
    · exact absurd this (hpw i i' hi hi' e)
    · exact e
    · exact absurd this.symm (hpw i' i hi' hi e)
  · obtain ⟨hi, hb⟩ := hb
    exact h3 _ _ hb
theorem Ent.pick {S S' : St} (idx : List Nat) (hn : nodupB idx = true) (e : ofL (idx.map (gt S)) = S') : Ent S S' := ⟨fun I _ h => ⟨I, Imm.le_refl I, h.pick idx hn e⟩⟩
theorem br_intro {t : Bool} {A B : Prop} (h1 : t = true → A) (h2 : t = false → B) : Br t A B := by
  cases t
  · exact h2 rfl
  · exact h1 rfl
@[simp] theorem br_true (A B : Prop) : Br true A B = A := rfl
@[simp] theorem br_false (A B : Prop) : Br false A B = B := rfl
theorem br_decide {p : Prop} [Decidable p] {A B : Prop} (h1 : p → A) (h2 : ¬ p → B) : Br (decide p) A B := br_intro (fun e => h1 (of_decide_eq_true e)) (fun e => h2 (of_decide_eq_false e))
@[simp] theorem same_refl (b o : Nat) : Same ⟨b, o, none⟩ b := ⟨rfl, rfl⟩

/-! ## what is seen of a cell -/
theorem cellOf_cells {h : Hp} {b : Nat} {vs : List Value} {t : TypeId} {fr : Nat × Nat} (hb : h b = some (.cells ⟨vs⟩ t fr)) (o : Nat) : cellOf h ⟨b, o, none⟩ = vs[o]? := by
  unfold cellOf
  simp [hb]
theorem Look.cells {b o : Nat} {vs : List Value} {t : TypeId} {v : Value} (h : vs[o]? = some v) : Look (.cells b vs t) ⟨b, o, none⟩ v := ⟨fun I h' o' _ hA => by
  rw [cellOf_cells hA.2]; exact h⟩
theorem Look.rest {S : St} {touch : List Nat} {j : Nat} (hj : j ∉ touch) {a : Addr} {v : Value} (h : Look (gt S j) a v) : Look (.pred (rest S touch)) a v := ⟨fun I h' o hc hA => by
  obtain ⟨f, h1, _, _⟩ := hA
  have := h1 j
  rw [gt_clr] at this
  simp only [hj, if_false] at this
  exact h.h I h' _ hc this⟩
theorem Look.sub {A B : Atom} (hs : Sub A B) {a : Addr} {v : Value} (h : Look A a v) : Look B a v := ⟨fun I h' o hc hB => by
  obtain ⟨o', hA⟩ := hs I h' o hB
  exact h.h I h' o' hc hA⟩
/-- A run of cells. -/
def Seg (A : Atom) (a : Addr) (ys : List Value) : Prop := ∀ j u, ys[j]? = some u → Look A (a.add j) u
theorem Seg.sub {A B : Atom} (hs : Sub A B) {a : Addr} {ys : List Value} (h : Seg A a ys) : Seg B a ys := fun j u hj => (h j u hj).sub hs
theorem addr_add (b o j : Nat) : (⟨b, o, none⟩ : Addr).add j = ⟨b, o + j, none⟩ := by
  unfold Addr.add
  split
  · rename_i e; subst e; rfl
  · rfl
theorem Seg.rest {S : St} {touch : List Nat} {j : Nat} (hj : j ∉ touch) {a : Addr} {ys : List Value} (h : Seg (gt S j) a ys) : Seg (.pred (rest S touch)) a ys := fun i u hi => (h i u hi).rest hj
theorem Seg.cells {b o : Nat} {vs ys : List Value} {t : TypeId} (h : ∀ j u, ys[j]? = some u → vs[o + j]? = some u) : Seg (.cells b vs t) ⟨b, o, none⟩ ys := fun j u hj => by
  rw [addr_add]; exact Look.cells (h j u hj)
theorem Seg.nil {A : Atom} {a : Addr} : Seg A a [] := fun j u h => by simp at h

/-! ## owned rows -/
structure Row where
  a : Option Addr
  n : Nat
  cap : Nat
  A : Atom
def Row.v (r : Row) : Value := .slice r.a r.n r.cap
/-- A slice that owns its whole array: nil, or 'cs' and what is spare behind. -/
inductive IsRow (e : TypeId) (k : Nat) (cs : List Value) : Row → Prop
  | nil (h : cs = []) : IsRow e k cs ⟨none, 0, 0, .emp⟩
  | blk (b n cap : Nat) (sp : List Value) (hl : cs.length = n * k) (hs : (cs ++ sp).length = cap * k) (hn : n ≤ cap) : IsRow e k cs ⟨some ⟨b, 0, none⟩, n, cap, .cells b (cs ++ sp) e⟩
theorem IsRow.len {e : TypeId} {k : Nat} {cs : List Value} {r : Row} (h : IsRow e k cs r) : cs.length = r.n * k := by
  cases h with
  | nil h => subst h; simp
  | blk b n cap sp hl hs hn => exact hl
theorem IsRow.le {e : TypeId} {k : Nat} {cs : List Value} {r : Row} (h : IsRow e k cs r) : r.n ≤ r.cap := by
  cases h with
  | nil h => exact Nat.le_refl _
  | blk b n cap sp hl hs hn => exact hn
def nilRow : Row := ⟨none, 0, 0, .emp⟩
section
variable {P : Program}
theorem Sat.setRow {I : Imm} {S : St} {w : World} (h : Sat I S w) {j b : Nat} {vs vs' : List Value} {t : TypeId} (hj : gt S j = .cells b vs t) : Sat I (updS S j (.cells b vs' t)) (w.setRow b ⟨vs'⟩) := by
  have hb := h.cells hj
  refine h.write (b := b) (fun o ho => by rw [hj] at ho; exact ho.1) (fun c hc => setRow_other w b c _ hc) (by simp [World.setRow]) (fun o ho => ?_)
  rw [hj] at ho
  exact ⟨ho.1, setRow_heap w b _ _ t _ hb⟩
theorem Sat.alloc {I : Imm} {S : St} {w : World} (h : Sat I S w) (j : Nat) (cs : Array Value) (t : TypeId) : Sat I (updS S j (.cells w.heap.size cs.toList t)) (w.drew.alloc (.cells cs t)) := by
  have := (h.heap (w' := w.drew) rfl).new j (.cells cs t)
  exact this
theorem gt0 (A : Atom) (F : Atom) : gt (ofL [A, F]) 0 = A := rfl
theorem gt1 (A : Atom) (F : Atom) : gt (ofL [A, F]) 1 = F := rfl
theorem Seg.cell {I : Imm} {S : St} {w : World} (h : Sat I S w) {j : Nat} {a : Addr} {ys : List Value} (hs : Seg (gt S j) a ys) : ∀ i u, ys[i]? = some u → w.cell? (a.add i) = some u := fun i u hi => h.look (hs i u hi)
/-- From a state of two atoms to one with another in the first's place. -/
theorem upd0 (A B F : Atom) : updS (ofL [A, F]) 0 B = ofL [B, F] := rfl

structure ApX where
  r : Row
  cs : List Value
  a : Option Addr
  m : Nat
  c : Nat
  ys : List Value
/-- append(s, xs...): 's' an owned row, 'xs' read elsewhere. 't': the slice's type's element, 'k': its cells, 'by_': its bytes. -/
def apC (e : TypeId) (k bytes : Nat) : Con where
  X := ApX
  Y := Row
  args x := [.slice x.r.a x.r.n x.r.cap, .slice x.a x.m x.c]
  pre x := [x.r.A]
  cond x := IsRow e k x.cs x.r ∧ x.ys.length = x.m * k ∧ (∀ u ∈ x.ys, u.oneCell' = true) ∧ (x.r.n + x.m) * bytes ≤ 140737488355328 ∧ x.r.n + x.m ≤ 9223372036854775807 ∧ (x.a = none → x.m = 0 ∧ x.c = 0)
  rdc x F := ∀ a, x.a = some a → Seg F a x.ys
  rel x r := IsRow e k (x.cs ++ x.ys) r ∧ r.n = x.r.n + x.m ∧ (x.m = 0 → r = x.r)
  val _ r := .returned r.v
  post _ r := [r.A]
  rmono _ _ _ hs h a ha := (h a ha).sub hs
theorem append_ok {o : Oper} {s x : Operand} {t e : TypeId} {inf : TypeInfo} {z : Value} (k bytes : Nat) (ho : o.op = .call { callee := .builtin .append, args := #[s, x], argTypes := #[t, t] })
    (ht : P.underlying t = some (.slice e)) (hi : P.info? e = some inf) (hz : inf.zero = some z) (hk : inf.size = k) (hb : inf.bytes = bytes) (hzk : z.cells.size = k) (hk0 : 0 < k) : OpOk P o (apC e k bytes) := by
  refine ⟨fun x F I w ρ ha hc hr hs => ?_⟩
  obtain ⟨r, cs, a, m, c, ys⟩ := x
  obtain ⟨hrow, hyl, hy1, hby, h63, hnil⟩ := hc
  dsimp only at hrow hyl hy1 hby h63 hnil
  simp only [ho, Op.operands, Call.operands, apC] at ha
  have ha2 : ρ s = .slice r.a r.n r.cap ∧ ρ x = .slice a m c := by simpa using ha
  obtain ⟨hs1, hx1⟩ := ha2
  have hex : ∀ w', (execOp ρ o).run P w' = ((Builtin.append_ #[t, t] o.type #[.slice r.a r.n r.cap, .slice a m c]).run P w').andThen fun v w2 => .ok (.value v) w2 := by
    intro w'
    simp [execOp, ho, resolve, invoke, builtin, hs1, hx1]
  subst hk
  subst hb
  -- nothing is appended
  by_cases hm : m = 0
  · subst hm
    have hy : ys = [] := List.eq_nil_of_length_eq_zero (by simpa using hyl)
    subst hy
    refine ⟨r, I, w, r.v, ⟨by simpa using hrow, rfl, fun _ => rfl⟩, ?_, rfl, Imm.le_refl I, hs, Env.refl w⟩
    have hle := hrow.le
    rw [hex]
    cases hrow <;> cases a <;> simp [Builtin.append_, run_underlying ht, sizeOf, typeInfo, hi, Builtin.lenOf, Builtin.firstCells, loadCells, loadCellsFrom, storeCells, hle, Row.v]
  obtain ⟨ad, rfl⟩ : ∃ ad, a = some ad := by
    cases a with
    | none => exact absurd (hnil rfl).1 hm
    | some ad => exact ⟨ad, rfl⟩
  have hseg : Seg F ad ys := hr ad rfl
  have hcell : ∀ i u, ys[i]? = some u → w.cell? (ad.add i) = some u := Seg.cell hs (j := 1) (show Seg (gt (ofL [r.A, F]) 1) ad ys from hseg)
  dsimp only [apC, List.cons_append, List.nil_append] at hs
  clear hr ha
  cases hrow with
  | nil h =>
    subst h
    have hrun := run_append_nil (P := P) w t o.type e inf z ht hi hz ad m c ys hyl hcell (by omega) (by dsimp only at h63; omega) (by dsimp only at hby; simp only [Nat.zero_add] at hby; omega)
    refine ⟨⟨some ⟨w.heap.size, 0, none⟩, m, grownCap w m 0 e, .cells w.heap.size (ys ++ (Builtin.zeroCells z.cells (grownCap w m 0 e - m)).toList) e⟩, I, w.drew.alloc (.cells (ys.toArray ++ Builtin.zeroCells z.cells (grownCap w m 0 e - m)) e), _, ⟨.blk _ _ _ _ ?_ ?_ (grownCap_ge w m 0 e), ?_, ?_⟩, ?_, rfl, Imm.le_refl I, ?_, ⟨rfl, rfl⟩⟩
    · simpa using hyl
    · have := grownCap_ge w m 0 e
      simp only [List.nil_append, List.length_append, Array.length_toList, size_zeroCells, hzk, hyl, ← Nat.add_mul]
      congr 1
      omega
    · simp
    · intro e; exact absurd e hm
    · rw [hex, hrun]; rfl
    · have := hs.alloc 0 (ys.toArray ++ Builtin.zeroCells z.cells (grownCap w m 0 e - m)) e
      simpa [apC, upd0] using this
  | blk b n cap sp hl hs2 hn =>
    have hblk : w.heap[b]? = some (.cells ⟨cs ++ sp⟩ e (0, 0)) := hs.cells (j := 0) rfl
    by_cases hroom : n + m ≤ cap
    · have hfit : n * inf.size + ys.length ≤ (⟨cs ++ sp⟩ : Array Value).size := by
        show n * inf.size + ys.length ≤ (cs ++ sp).length
        rw [hyl, hs2, ← Nat.add_mul]; exact Nat.mul_le_mul_right _ hroom
      have hrun := run_append_room (P := P) w t o.type e inf ht hi b n cap ⟨cs ++ sp⟩ hblk ad m c ys hyl hcell hy1 hroom hfit
      have htake : (cs ++ sp).take (n * inf.size) = cs := by rw [← hl]; exact List.take_left
      have hlen : (cs ++ ys ++ (cs ++ sp).drop (n * inf.size + ys.length)).length = cap * inf.size := by
        simp only [List.length_append, List.length_drop] at hfit hs2 ⊢
        rw [hl] at hs2 ⊢
        have : n * inf.size + ys.length ≤ cap * inf.size := by rw [hyl, ← Nat.add_mul]; exact Nat.mul_le_mul_right _ hroom
        omega
      refine ⟨⟨some ⟨b, 0, none⟩, n + m, cap, .cells b (cs ++ ys ++ (cs ++ sp).drop (n * inf.size + ys.length)) e⟩, I, w.setRow b ⟨cs ++ ys ++ (cs ++ sp).drop (n * inf.size + ys.length)⟩, _, ⟨.blk _ _ _ _ ?_ hlen hroom, rfl, fun e => absurd e hm⟩, ?_, rfl, Imm.le_refl I, ?_, ⟨rfl, rfl⟩⟩
      · rw [List.length_append, hl, hyl, Nat.add_mul]
      · rw [hex, hrun]; simp only [htake]; rfl
      · have := hs.setRow (j := 0) (b := b) (vs := cs ++ sp) (t := e) (vs' := cs ++ ys ++ (cs ++ sp).drop (n * inf.size + ys.length)) rfl
        simpa [apC, upd0, htake] using this
    · have holds : ∀ j v, cs[j]? = some v → w.cell? ((⟨b, 0, none⟩ : Addr).add j) = some v := by
        intro j v hj
        have hlt := (List.getElem?_eq_some_iff.1 hj).1
        rw [addr_add, cell_cells (b := b) ⟨rfl, rfl⟩ hblk]
        simp only [Nat.zero_add]
        rw [List.getElem?_append_left hlt]; exact hj
      have hrun := run_append_grow (P := P) w t o.type e inf z ht hi hz ⟨b, 0, none⟩ n cap cs hl holds ad m c ys hyl hcell (by omega) (by dsimp only at h63; omega) (growslice_fits (by omega) hby)
      refine ⟨⟨some ⟨w.heap.size, 0, none⟩, n + m, grownCap w (n + m) cap e, .cells w.heap.size (cs ++ ys ++ (Builtin.zeroCells z.cells (grownCap w (n + m) cap e - (n + m))).toList) e⟩, I, w.drew.alloc (.cells (cs.toArray ++ ys.toArray ++ Builtin.zeroCells z.cells (grownCap w (n + m) cap e - (n + m))) e), _, ⟨.blk _ _ _ _ ?_ ?_ (grownCap_ge w (n + m) cap e), rfl, fun e => absurd e hm⟩, ?_, rfl, Imm.le_refl I, ?_, ⟨rfl, rfl⟩⟩
      · rw [List.length_append, hl, hyl, Nat.add_mul]
      · have := grownCap_ge w (n + m) cap e
        simp only [List.length_append, hl, hyl, Array.length_toList, size_zeroCells, hzk, ← Nat.add_mul]
        congr 1
        omega
      · rw [hex, hrun]; rfl
      · have := hs.alloc 0 (cs.toArray ++ ys.toArray ++ Builtin.zeroCells z.cells (grownCap w (n + m) cap e - (n + m))) e
        simpa [apC, upd0] using this
end
end Go.Proofs.Ytmknmibmnidnoaa
