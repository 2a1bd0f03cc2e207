/- A heap of charts' rows that keeps its shape, whatever of that shape is written into it. -/
import Derived.Test.YtfmadkaiigiaiaaLatK
import Derived.Deep.MidRow
set_option linter.all false
namespace Go.Proofs.Ytfmadkaiigiaiaa
open Go
inductive Ty where
  | int | str | par | st | tr | blk | act | dat | inv
inductive CK where
  | i | s | b | sl (t : Ty)
def Ty.ks : Ty → List CK
  | .int => [.i]
  | .str => [.s]
  | .par => [.s, .s]
  | .st => [.s, .i, .i, .sl .int, .i, .sl .int, .sl .int, .sl .int, .sl .int, .sl .int, .i, .sl .par, .s]
  | .tr => [.i, .sl .str, .s, .sl .int, .b, .i]
  | .blk => [.sl .act]
  | .act => [.i, .s, .s, .s, .s, .s, .s, .s, .i, .s, .s, .s, .s, .s, .sl .str, .sl .int, .i, .sl .par, .s]
  | .dat => [.s, .s, .s]
  | .inv => [.s, .s, .i, .b, .i, .sl .par, .s, .i]
def Ty.len : Ty → Nat
  | .int => 1
  | .str => 1
  | .par => 2
  | .st => 13
  | .tr => 6
  | .blk => 1
  | .act => 19
  | .dat => 3
  | .inv => 8
theorem ks_len (t : Ty) : t.ks.length = t.len := by cases t <;> rfl
abbrev Sig := Nat → Option (Ty × Nat)
def SlT (g : Sig) (t : Ty) (s : Sl) : Prop := s.n ≤ 140737488351232 ∧ (0 < s.n → ∃ b m, s.a = some ⟨b, 0, none⟩ ∧ g b = some (t, m) ∧ s.n ≤ m)
theorem SlT.nil (g : Sig) (t : Ty) (a : Option Addr) (c : Nat) : SlT g t ⟨a, 0, c⟩ := ⟨Nat.zero_le _, fun h => absurd h (Nat.lt_irrefl 0)⟩
def WV (g : Sig) : CK → Value → Prop
  | .i, v => ∃ n, v = .int .i64 n
  | .s, v => ∃ x, v = .string x
  | .b, v => ∃ x, v = .bool x
  | .sl t, v => ∃ s : Sl, v = .slice s.a s.n s.cap ∧ SlT g t s
theorem WV.one {g : Sig} {k : CK} {v : Value} (h : WV g k v) : v.oneCell' = true ∧ v.cells = #[v] := by
  cases k with
  | i => obtain ⟨n, rfl⟩ := h; exact ⟨rfl, rfl⟩
  | s => obtain ⟨n, rfl⟩ := h; exact ⟨rfl, rfl⟩
  | b => obtain ⟨n, rfl⟩ := h; exact ⟨rfl, rfl⟩
  | sl t => obtain ⟨s, rfl, -⟩ := h; exact ⟨rfl, rfl⟩
def WCs (g : Sig) (t : Ty) (n : Nat) (cs : List Value) : Prop := n * t.len ≤ cs.length ∧ ∀ i j k, i < n → t.ks[j]? = some k → ∃ v, cs[i * t.len + j]? = some v ∧ WV g k v
theorem idx_inj (t : Ty) {i j i' j' : Nat} (h : j < t.len) (h' : j' < t.len) (e : i * t.len + j = i' * t.len + j') : j = j' := by
  cases t <;> simp only [Ty.len] at * <;> omega
theorem idx_lt (t : Ty) {i j n : Nat} (hi : i < n) (hj : j < t.len) : i * t.len + j < n * t.len := by
  cases t <;> simp only [Ty.len] at * <;> omega
theorem WCs.put {g : Sig} {t : Ty} {n : Nat} {cs cs' : List Value} (h : WCs g t n cs) (i0 : Nat) (hl : cs'.length = cs.length) (hp : ∀ p v, cs'[p]? = some v → cs[p]? = some v ∨ ∃ j k, p = i0 * t.len + j ∧ t.ks[j]? = some k ∧ WV g k v) : WCs g t n cs' := by
  refine ⟨by rw [hl]; exact h.1, fun i j k hi hj => ?_⟩
  have hjl : j < t.len := by rw [← ks_len]; exact (List.getElem?_eq_some_iff.1 hj).1
  have hb : i * t.len + j < cs'.length := by
    have := idx_lt t hi hjl
    have := h.1
    omega
  obtain ⟨v, hv⟩ : ∃ v, cs'[i * t.len + j]? = some v := ⟨_, List.getElem?_eq_getElem hb⟩
  refine ⟨v, hv, ?_⟩
  rcases hp _ _ hv with e | ⟨j', k', e, hj', hw⟩
  · obtain ⟨u, hu, hw⟩ := h.2 i j k hi hj
    rw [hu] at e
    cases e
    exact hw
  · have hjl' : j' < t.len := by rw [← ks_len]; exact (List.getElem?_eq_some_iff.1 hj').1
    obtain rfl := idx_inj t hjl hjl' e
    rw [hj] at hj'
    cases hj'
    exact hw
theorem all2_get {α β : Type} {R : α → β → Prop} : ∀ {l : List α} {m : List β}, All2 R l m → l.length = m.length ∧ ∀ (j : Nat) (a : α) (b : β), l[j]? = some a → m[j]? = some b → R a b
  | [], [], _ => ⟨rfl, fun j a b h => by simp at h⟩
  | [], _ :: _, h => h.elim
  | _ :: _, [], h => h.elim
  | x :: l, y :: m, h => by
    obtain ⟨h1, h2⟩ := all2_get h.2
    refine ⟨by simp [h1], fun j a b ha hb => ?_⟩
    cases j with
    | zero =>
      simp at ha hb
      rw [← ha, ← hb]
      exact h.1
    | succ j =>
      simp at ha hb
      exact h2 j a b ha hb
theorem all2_of {α β : Type} {R : α → β → Prop} : ∀ {l : List α} {m : List β}, l.length = m.length → (∀ (j : Nat) (a : α) (b : β), l[j]? = some a → m[j]? = some b → R a b) → All2 R l m
  | [], [], _, _ => trivial
  | [], _ :: _, h, _ => by simp at h
  | _ :: _, [], h, _ => by simp at h
  | x :: l, y :: m, h, hR => ⟨hR 0 x y rfl rfl, all2_of (by simpa using h) fun j a b ha hb => hR (j + 1) a b (by simpa using ha) (by simpa using hb)⟩
theorem all2_cons {α β : Type} {R : α → β → Prop} {x : α} {l : List α} {m : List β} (h : All2 R (x :: l) m) : ∃ y r, m = y :: r ∧ R x y ∧ All2 R l r := by
  cases m with
  | nil => exact h.elim
  | cons y r => exact ⟨y, r, rfl, h.1, h.2⟩
theorem all2_nil {α β : Type} {R : α → β → Prop} {m : List β} (h : All2 R [] m) : m = [] := by
  cases m with
  | nil => rfl
  | cons y r => exact h.elim
theorem WCs.row {g : Sig} {t : Ty} {n : Nat} {cs : List Value} (h : WCs g t n cs) {i : Nat} (hi : i < n) : ∃ row, All2 (WV g) t.ks row ∧ ∀ (j : Nat) u, row[j]? = some u → cs[i * t.len + j]? = some u := by
  have hb : i * t.len + t.len ≤ cs.length := by
    have h1 := h.1
    have : (i + 1) * t.len ≤ n * t.len := Nat.mul_le_mul_right _ hi
    rw [Nat.succ_mul] at this
    omega
  have hlen : ((cs.drop (i * t.len)).take t.len).length = t.len := by rw [List.length_take, List.length_drop]; omega
  have hget : ∀ (j : Nat) u, ((cs.drop (i * t.len)).take t.len)[j]? = some u → cs[i * t.len + j]? = some u := by
    intro j u hu
    rw [List.getElem?_take] at hu
    split at hu
    · rwa [List.getElem?_drop] at hu
    · cases hu
  refine ⟨(cs.drop (i * t.len)).take t.len, all2_of (by rw [ks_len, hlen]) fun j k v hk hv => ?_, hget⟩
  obtain ⟨u, hu, hw⟩ := h.2 i j k hi hk
  rw [hget j v hv] at hu
  cases hu
  exact hw
/-- A cell that is known. -/
abbrev Kn := Option (Nat × Nat × Value)
def Wp.rest (g : Sig) (D : Kn) : Pred where
  holds _ h o := (∀ b t n, g b = some (t, n) → o b ∧ ∃ cs ty, h b = some (.cells ⟨cs⟩ ty (0, 0)) ∧ WCs g t n cs) ∧ ∀ b p v, D = some (b, p, v) → (∃ t n, g b = some (t, n)) ∧ ∃ cs ty, h b = some (.cells ⟨cs⟩ ty (0, 0)) ∧ cs[p]? = some v
  loc := by
    rintro I h h' o he ⟨H, H2⟩
    refine ⟨fun b t n e => ?_, fun b p v e => ?_⟩
    · obtain ⟨h1, cs, ty, h2, h3⟩ := H b t n e
      exact ⟨h1, cs, ty, (he b h1) ▸ h2, h3⟩
    · obtain ⟨⟨t, n, h1⟩, cs, ty, h2, h3⟩ := H2 b p v e
      exact ⟨⟨t, n, h1⟩, cs, ty, (he b (H b t n h1).1) ▸ h2, h3⟩
  mono := fun _ _ _ _ _ h => h
def WA (g : Sig) (D : Kn) : Atom := .pred (Wp.rest g D)
theorem wa_look {g : Sig} {b p : Nat} {v : Value} : Look (WA g (some (b, p, v))) ⟨b, p, none⟩ v := ⟨fun I h o _ hA => by
  obtain ⟨-, cs, ty, h2, h3⟩ := hA.2 b p v rfl
  rw [cellOf_cells h2]
  exact h3⟩
theorem wa_get {I : Imm} {g : Sig} {D : Kn} {F : Atom} {w : World} (h : Sat I (ofL [WA g D, F]) w) {b : Nat} {t : Ty} {n : Nat} (e : g b = some (t, n)) : ∃ cs ty, w.heap[b]? = some (.cells ⟨cs⟩ ty (0, 0)) ∧ WCs g t n cs := by
  obtain ⟨f, h1, -, -⟩ := h.own
  exact ((h1 0).1 b t n e).2
theorem wa_set {I : Imm} {g : Sig} {D : Kn} (D' : Kn) {F : Atom} {w : World} (h : Sat I (ofL [WA g D, F]) w) {b : Nat} {t : Ty} {n : Nat} (e : g b = some (t, n)) {cs cs' : List Value} {ty : TypeId} (hb : w.heap[b]? = some (.cells ⟨cs⟩ ty (0, 0))) (hc : WCs g t n cs')
    (hD : ∀ b' p v, D' = some (b', p, v) → (b' = b ∧ cs'[p]? = some v) ∨ (b' ≠ b ∧ D = some (b', p, v))) : Sat I (ofL [WA g D', F]) (w.setRow b ⟨cs'⟩) := by
  have := h.write (j := 0) (b := b) (A' := WA g D') (w' := w.setRow b ⟨cs'⟩) (fun o ho => (ho.1 b t n e).1) (fun c hc => setRow_other w b c _ hc) (by simp [World.setRow]) (fun o ho => ⟨fun b' t' n' e' => ?_, fun b' p v e' => ?_⟩)
  · simpa [upd0] using this
  · obtain ⟨o1, cs1, ty1, o2, o3⟩ := ho.1 b' t' n' e'
    refine ⟨o1, ?_⟩
    by_cases hq : b' = b
    · subst hq
      rw [e] at e'
      cases e'
      exact ⟨cs', ty, setRow_heap w b' _ _ ty _ hb, hc⟩
    · exact ⟨cs1, ty1, by show (w.setRow b ⟨cs'⟩).heap[b']? = _; rw [setRow_other w b b' _ hq]; exact o2, o3⟩
  · rcases hD b' p v e' with ⟨rfl, hv⟩ | ⟨hq, h5⟩
    · exact ⟨⟨t, n, e⟩, cs', ty, setRow_heap w b' _ _ ty _ hb, hv⟩
    · obtain ⟨k1, cs1, ty1, k2, k3⟩ := ho.2 b' p v h5
      exact ⟨k1, cs1, ty1, by show (w.setRow b ⟨cs'⟩).heap[b']? = _; rw [setRow_other w b b' _ hq]; exact k2, k3⟩
theorem wa_know {I : Imm} {g : Sig} {D : Kn} {F : Atom} {w : World} (h : Sat I (ofL [WA g D, F]) w) {b p : Nat} {v : Value} {t : Ty} {n : Nat} (e : g b = some (t, n)) {cs : List Value} {ty : TypeId} (hb : w.heap[b]? = some (.cells ⟨cs⟩ ty (0, 0))) (hv : cs[p]? = some v) : Sat I (ofL [WA g (some (b, p, v)), F]) w := by
  have := h.write (j := 0) (b := b) (A' := WA g (some (b, p, v))) (w' := w) (fun o ho => (ho.1 b t n e).1) (fun c hc => rfl) rfl (fun o ho => ⟨ho.1, fun b' p' v' e' => ?_⟩)
  · simpa [upd0] using this
  · cases e'
    exact ⟨⟨t, n, e⟩, cs, ty, hb, hv⟩
theorem cell_at {w : World} {b : Nat} {cs : List Value} {ty : TypeId} (hb : w.heap[b]? = some (.cells ⟨cs⟩ ty (0, 0))) (o : Nat) : w.cell? ⟨b, o, none⟩ = cs[o]? := by
  rw [← cellOf_hp]
  exact cellOf_cells (h := hp w) hb o
section
variable {P : Program}
structure WldX where
  g : Sig
  D : Kn
  b : Nat
  o : Nat
  t : Ty
  n : Nat
  i : Nat
  j : Nat
  k : Ty
/-- A slice is read out of a row. -/
def ldSC : Con where
  X := WldX
  Y := Sl
  args x := [.pointer (some ⟨x.b, x.o, none⟩)]
  pre x := [WA x.g x.D]
  cond x := (x.g x.b = some (x.t, x.n) ∧ x.i < x.n ∧ x.o = x.i * x.t.len + x.j) ∧ x.t.ks[x.j]? = some (.sl x.k)
  rdc _ _ := True
  rel x s := SlT x.g x.k s
  val _ s := .returned (.slice s.a s.n s.cap)
  post x s := [WA x.g (some (x.b, x.o, .slice s.a s.n s.cap))]
theorem ldS_ok {o : Oper} {a : Operand} {t e : TypeId} (ho : o.op = .load t a) (hu : P.underlying t = some (.slice e)) : OpOk P o ldSC := by
  refine ⟨fun x F I w ρ ha hc hr hs => ?_⟩
  obtain ⟨g, D, b, off, t, n, i, j, k⟩ := x
  obtain ⟨⟨e1, e2, e3⟩, e4⟩ := hc
  dsimp only at e1 e2 e3 e4
  subst e3
  simp only [ho, Op.operands, ldSC] at ha
  have ha2 : ρ a = .pointer (some ⟨b, i * t.len + j, none⟩) := by simpa using ha
  obtain ⟨cs, ty, h1, h2⟩ := wa_get hs e1
  obtain ⟨v, h3, s, rfl, h4⟩ := h2.2 i j _ e2 e4
  refine ⟨s, I, w, .slice s.a s.n s.cap, h4, .inl ?_, rfl, Imm.le_refl I, wa_know hs e1 h1 h3, ⟨rfl, rfl⟩⟩
  have hcell : w.cell? ⟨b, i * t.len + j, none⟩ = some (.slice s.a s.n s.cap) := by rw [cell_at h1]; exact h3
  simp [execOp, ho, ha2, Instr.loadAt, Instr.sureAddr, loadVar, isAgg, run_underlying hu w, run_load, hcell]
structure StoY where
  g : Sig
  D : Kn
  b : Nat
  o : Nat
  t : Ty
  n : Nat
  i : Nat
  j : Nat
  k : CK
  v : Value
/-- One cell is written over. -/
def st1C : Con where
  X := StoY
  Y := Unit
  args x := [.pointer (some ⟨x.b, x.o, none⟩), x.v]
  pre x := [WA x.g x.D]
  cond x := (x.g x.b = some (x.t, x.n) ∧ x.i < x.n ∧ x.o = x.i * x.t.len + x.j) ∧ x.t.ks[x.j]? = some x.k ∧ WV x.g x.k x.v ∧ ∀ b p v, x.D = some (b, p, v) → ¬ (b = x.b ∧ p = x.o)
  rdc _ _ := True
  rel _ _ := True
  val _ _ := .returned undef
  post x _ := [WA x.g x.D]
theorem st1_ok {o : Oper} {a v : Operand} {t : TypeId} {inf : TypeInfo} (ho : o.op = .store t a v) (hi : P.info? t = some inf) (hk : inf.size = 1) : OpOk P o st1C := by
  refine ⟨fun x F I w ρ ha hc hr hs => ?_⟩
  obtain ⟨g, D, b, off, t, n, i, j, k, u⟩ := x
  obtain ⟨⟨e1, e2, e3⟩, e4, e5, e6⟩ := hc
  dsimp only at e1 e2 e3 e4 e5 e6
  subst e3
  simp only [ho, Op.operands, st1C] at ha
  have ha2 : ρ a = .pointer (some ⟨b, i * t.len + j, none⟩) ∧ ρ v = u := by simpa using ha
  obtain ⟨hp, hu⟩ := ha2
  obtain ⟨cs, ty, h1, h2⟩ := wa_get hs e1
  obtain ⟨v0, h3, -⟩ := h2.2 i j _ e2 e4
  have hlt := (List.getElem?_eq_some_iff.1 h3).1
  obtain ⟨hone, hcl⟩ := e5.one
  have hst := run_storeCells_at P b (i * t.len + j) ty [u] 0 ⟨cs⟩ w h1 (by simp; omega) (by simpa using hone)
  have hset : cs.take (i * t.len + j) ++ [u] ++ cs.drop (i * t.len + j + 1) = cs.set (i * t.len + j) u := by
    rw [List.set_eq_take_append_cons_drop, if_pos hlt]
    simp
  simp only [Nat.add_zero, List.length_singleton] at hst
  rw [hset] at hst
  refine ⟨(), I, w.setRow b ⟨cs.set (i * t.len + j) u⟩, undef, trivial, .inr ⟨?_, rfl⟩, rfl, Imm.le_refl I, wa_set D hs e1 h1 (h2.put i (List.length_set ..) fun p v hv => ?_) (fun b' p v e' => ?_), ⟨rfl, rfl⟩⟩
  · simp [execOp, ho, hp, hu, Instr.storeAt, Instr.sureAddr, storeVar, sizeOf, typeInfo, hi, hk, hcl, hst]
  · rw [List.getElem?_set] at hv
    split at hv
    · next hq =>
      cases hv
      exact .inr ⟨j, k, hq.symm, e4, e5⟩
    · exact .inl hv
  · by_cases hq : b' = b
    · subst hq
      refine .inl ⟨rfl, ?_⟩
      obtain ⟨f, g1, -, -⟩ := hs.own
      obtain ⟨-, cs2, ty2, k2, k3⟩ := (g1 0).2 b' p v e'
      have k2 : w.heap[b']? = some (.cells ⟨cs2⟩ ty2 (0, 0)) := k2
      rw [h1] at k2
      cases k2
      rw [List.getElem?_set, if_neg (fun hh => e6 b' p v e' ⟨rfl, hh.symm⟩)]
      exact k3
    · exact .inr ⟨hq, e'⟩
structure StmX where
  g : Sig
  D : Kn
  D' : Kn
  b : Nat
  o : Nat
  t : Ty
  n : Nat
  i : Nat
  vs : List Value
/-- A whole element is written over. -/
def stmC : Con where
  X := StmX
  Y := Unit
  args x := [.pointer (some ⟨x.b, x.o, none⟩), .agg ⟨x.vs⟩]
  pre x := [WA x.g x.D]
  cond x := (x.g x.b = some (x.t, x.n) ∧ x.i < x.n ∧ x.o = x.i * x.t.len) ∧ All2 (WV x.g) x.t.ks x.vs ∧ ∀ b p v, x.D' = some (b, p, v) → b ≠ x.b ∧ x.D = some (b, p, v)
  rdc _ _ := True
  rel _ _ := True
  val _ _ := .returned undef
  post x _ := [WA x.g x.D']
def stmT (T : Ty) : Con := { stmC with cond := fun x => x.t = T ∧ stmC.cond x }
theorem stm_ok {o : Oper} {a v : Operand} {t : TypeId} {inf : TypeInfo} (T : Ty) (ho : o.op = .store t a v) (hi : P.info? t = some inf) (hk : inf.size = T.len) : OpOk P o (stmT T) := by
  refine ⟨fun x F I w ρ ha hc hr hs => ?_⟩
  obtain ⟨g, D, D', b, off, t, n, i, vs⟩ := x
  obtain ⟨e0, ⟨e1, e2, e3⟩, e5, e6⟩ := hc
  dsimp only at e0 e1 e2 e3 e5 e6
  subst e3
  subst e0
  simp only [ho, Op.operands, stmT, stmC] at ha
  have ha2 : ρ a = .pointer (some ⟨b, i * t.len, none⟩) ∧ ρ v = .agg ⟨vs⟩ := by simpa using ha
  obtain ⟨hp, hu⟩ := ha2
  obtain ⟨cs, ty, h1, h2⟩ := wa_get hs e1
  obtain ⟨hvl, hvg⟩ := all2_get e5
  rw [ks_len] at hvl
  have hone : ∀ u ∈ vs, u.oneCell' = true := by
    intro u hu
    obtain ⟨j, hj⟩ := List.getElem?_of_mem hu
    have hjl := (List.getElem?_eq_some_iff.1 hj).1
    obtain ⟨k, hk⟩ : ∃ k, t.ks[j]? = some k := ⟨_, List.getElem?_eq_getElem (by rw [ks_len, hvl]; exact hjl)⟩
    exact (hvg j k u hk hj).one.1
  have hb : i * t.len + vs.length ≤ cs.length := by
    have := h2.1
    have : (i + 1) * t.len ≤ n * t.len := Nat.mul_le_mul_right _ e2
    rw [Nat.succ_mul] at this
    omega
  have hst := run_storeCells_at P b (i * t.len) ty vs 0 ⟨cs⟩ w h1 (by simpa using hb) hone
  simp only [Nat.add_zero] at hst
  refine ⟨(), I, w.setRow b ⟨cs.take (i * t.len) ++ vs ++ cs.drop (i * t.len + vs.length)⟩, undef, trivial, .inr ⟨?_, rfl⟩, rfl, Imm.le_refl I, wa_set D' hs e1 h1 (h2.put i ?_ fun p v hv => ?_) (fun b' p v e' => .inr (e6 b' p v e')), ⟨rfl, rfl⟩⟩
  · simp [execOp, ho, hp, hu, Instr.storeAt, Instr.sureAddr, storeVar, sizeOf, typeInfo, hi, hk, Value.cells, ← hvl, hst]
  · simp only [List.length_append, List.length_take, List.length_drop]; omega
  · by_cases h3 : p < i * t.len
    · left
      rw [List.append_assoc, List.getElem?_append_left (by rw [List.length_take]; omega), List.getElem?_take, if_pos h3] at hv
      exact hv
    · by_cases h4 : p < i * t.len + vs.length
      · right
        have hl1 : (cs.take (i * t.len)).length = i * t.len := by rw [List.length_take]; omega
        rw [List.append_assoc, List.getElem?_append_right (by omega), hl1, List.getElem?_append_left (by omega)] at hv
        obtain ⟨k, hk⟩ : ∃ k, t.ks[p - i * t.len]? = some k := ⟨_, List.getElem?_eq_getElem (by rw [ks_len]; omega)⟩
        exact ⟨p - i * t.len, k, by omega, hk, hvg _ k v hk hv⟩
      · left
        have hl1 : (cs.take (i * t.len) ++ vs).length = i * t.len + vs.length := by rw [List.length_append, List.length_take]; omega
        rw [List.getElem?_append_right (by omega), hl1, List.getElem?_drop] at hv
        rw [show i * t.len + vs.length + (p - (i * t.len + vs.length)) = p by omega] at hv
        exact hv
structure StW where
  f0 : ByteArray
  f1 : Int
  f2 : Int
  f3 : Sl
  f4 : Int
  f5 : Sl
  f6 : Sl
  f7 : Sl
  f8 : Sl
  f9 : Sl
  f10 : Int
  f11 : Sl
  f12 : ByteArray
def ldStC : Con where
  X := WldX
  Y := StW
  args x := [.pointer (some ⟨x.b, x.o, none⟩)]
  pre x := [WA x.g x.D]
  cond x := x.g x.b = some (.st, x.n) ∧ x.i < x.n ∧ x.o = x.i * 13
  rdc _ _ := True
  rel x y := SlT x.g .int y.f3 ∧ SlT x.g .int y.f5 ∧ SlT x.g .int y.f6 ∧ SlT x.g .int y.f7 ∧ SlT x.g .int y.f8 ∧ SlT x.g .int y.f9 ∧ SlT x.g .par y.f11
  val _ y := .returned (.agg #[.string y.f0, .int .i64 y.f1, .int .i64 y.f2, .slice y.f3.a y.f3.n y.f3.cap, .int .i64 y.f4, .slice y.f5.a y.f5.n y.f5.cap, .slice y.f6.a y.f6.n y.f6.cap, .slice y.f7.a y.f7.n y.f7.cap, .slice y.f8.a y.f8.n y.f8.cap, .slice y.f9.a y.f9.n y.f9.cap, .int .i64 y.f10, .slice y.f11.a y.f11.n y.f11.cap, .string y.f12])
  post x _ := [WA x.g x.D]
theorem ldSt_ok {o : Oper} {a : Operand} {t : TypeId} {fs : Array Field} {inf : TypeInfo} (ho : o.op = .load t a) (hu : P.underlying t = some (.struct fs)) (hi : P.info? t = some inf) (hk : inf.size = 13) : OpOk P o ldStC := by
  refine ⟨fun x F I w ρ ha hc hr hs => ?_⟩
  obtain ⟨g, D, b, off, t', n, i, j, k⟩ := x
  obtain ⟨e1, e2, e3⟩ := hc
  dsimp only at e1 e2 e3
  subst e3
  simp only [ho, Op.operands, ldStC] at ha
  have ha2 : ρ a = .pointer (some ⟨b, i * 13, none⟩) := by simpa using ha
  obtain ⟨cs, ty, h1, h2⟩ := wa_get hs e1
  obtain ⟨row, h3, h4⟩ := h2.row e2
  obtain ⟨_, r0, rfl, ⟨f0, rfl⟩, u0⟩ := all2_cons h3
  obtain ⟨_, r1, rfl, ⟨f1, rfl⟩, u1⟩ := all2_cons u0
  obtain ⟨_, r2, rfl, ⟨f2, rfl⟩, u2⟩ := all2_cons u1
  obtain ⟨_, r3, rfl, ⟨f3, rfl, q3⟩, u3⟩ := all2_cons u2
  obtain ⟨_, r4, rfl, ⟨f4, rfl⟩, u4⟩ := all2_cons u3
  obtain ⟨_, r5, rfl, ⟨f5, rfl, q5⟩, u5⟩ := all2_cons u4
  obtain ⟨_, r6, rfl, ⟨f6, rfl, q6⟩, u6⟩ := all2_cons u5
  obtain ⟨_, r7, rfl, ⟨f7, rfl, q7⟩, u7⟩ := all2_cons u6
  obtain ⟨_, r8, rfl, ⟨f8, rfl, q8⟩, u8⟩ := all2_cons u7
  obtain ⟨_, r9, rfl, ⟨f9, rfl, q9⟩, u9⟩ := all2_cons u8
  obtain ⟨_, r10, rfl, ⟨f10, rfl⟩, u10⟩ := all2_cons u9
  obtain ⟨_, r11, rfl, ⟨f11, rfl, q11⟩, u11⟩ := all2_cons u10
  obtain ⟨_, r12, rfl, ⟨f12, rfl⟩, u12⟩ := all2_cons u11
  obtain rfl := all2_nil u12
  have hc : w.rangeAt b (i * 13) [.string f0, .int .i64 f1, .int .i64 f2, .slice f3.a f3.n f3.cap, .int .i64 f4, .slice f5.a f5.n f5.cap, .slice f6.a f6.n f6.cap, .slice f7.a f7.n f7.cap, .slice f8.a f8.n f8.cap, .slice f9.a f9.n f9.cap, .int .i64 f10, .slice f11.a f11.n f11.cap, .string f12] := fun j v hv => by rw [cell_at h1]; exact h4 j v hv
  have hl := run_loadAt_mid (P := P) w b (i * 13) t _ _ hc hu rfl (by rw [hi]; simp [hk])
  refine ⟨⟨f0, f1, f2, f3, f4, f5, f6, f7, f8, f9, f10, f11, f12⟩, I, w, _, ⟨q3, q5, q6, q7, q8, q9, q11⟩, .inl ?_, rfl, Imm.le_refl I, hs, ⟨rfl, rfl⟩⟩
  simp [execOp, ho, ha2, hl]
structure AcW where
  f0 : Int
  f1 : ByteArray
  f2 : ByteArray
  f3 : ByteArray
  f4 : ByteArray
  f5 : ByteArray
  f6 : ByteArray
  f7 : ByteArray
  f8 : Int
  f9 : ByteArray
  f10 : ByteArray
  f11 : ByteArray
  f12 : ByteArray
  f13 : ByteArray
  f14 : Sl
  f15 : Sl
  f16 : Int
  f17 : Sl
  f18 : ByteArray
def ldAcC : Con where
  X := WldX
  Y := AcW
  args x := [.pointer (some ⟨x.b, x.o, none⟩)]
  pre x := [WA x.g x.D]
  cond x := x.g x.b = some (.act, x.n) ∧ x.i < x.n ∧ x.o = x.i * 19
  rdc _ _ := True
  rel x y := SlT x.g .str y.f14 ∧ SlT x.g .int y.f15 ∧ SlT x.g .par y.f17
  val _ y := .returned (.agg #[.int .i64 y.f0, .string y.f1, .string y.f2, .string y.f3, .string y.f4, .string y.f5, .string y.f6, .string y.f7, .int .i64 y.f8, .string y.f9, .string y.f10, .string y.f11, .string y.f12, .string y.f13, .slice y.f14.a y.f14.n y.f14.cap, .slice y.f15.a y.f15.n y.f15.cap, .int .i64 y.f16, .slice y.f17.a y.f17.n y.f17.cap, .string y.f18])
  post x _ := [WA x.g x.D]
theorem ldAc_ok {o : Oper} {a : Operand} {t : TypeId} {fs : Array Field} {inf : TypeInfo} (ho : o.op = .load t a) (hu : P.underlying t = some (.struct fs)) (hi : P.info? t = some inf) (hk : inf.size = 19) : OpOk P o ldAcC := by
  refine ⟨fun x F I w ρ ha hc hr hs => ?_⟩
  obtain ⟨g, D, b, off, t', n, i, j, k⟩ := x
  obtain ⟨e1, e2, e3⟩ := hc
  dsimp only at e1 e2 e3
  subst e3
  simp only [ho, Op.operands, ldAcC] at ha
  have ha2 : ρ a = .pointer (some ⟨b, i * 19, none⟩) := by simpa using ha
  obtain ⟨cs, ty, h1, h2⟩ := wa_get hs e1
  obtain ⟨row, h3, h4⟩ := h2.row e2
  obtain ⟨_, r0, rfl, ⟨f0, rfl⟩, u0⟩ := all2_cons h3
  obtain ⟨_, r1, rfl, ⟨f1, rfl⟩, u1⟩ := all2_cons u0
  obtain ⟨_, r2, rfl, ⟨f2, rfl⟩, u2⟩ := all2_cons u1
  obtain ⟨_, r3, rfl, ⟨f3, rfl⟩, u3⟩ := all2_cons u2
  obtain ⟨_, r4, rfl, ⟨f4, rfl⟩, u4⟩ := all2_cons u3
  obtain ⟨_, r5, rfl, ⟨f5, rfl⟩, u5⟩ := all2_cons u4
  obtain ⟨_, r6, rfl, ⟨f6, rfl⟩, u6⟩ := all2_cons u5
  obtain ⟨_, r7, rfl, ⟨f7, rfl⟩, u7⟩ := all2_cons u6
  obtain ⟨_, r8, rfl, ⟨f8, rfl⟩, u8⟩ := all2_cons u7
  obtain ⟨_, r9, rfl, ⟨f9, rfl⟩, u9⟩ := all2_cons u8
  obtain ⟨_, r10, rfl, ⟨f10, rfl⟩, u10⟩ := all2_cons u9
  obtain ⟨_, r11, rfl, ⟨f11, rfl⟩, u11⟩ := all2_cons u10
  obtain ⟨_, r12, rfl, ⟨f12, rfl⟩, u12⟩ := all2_cons u11
  obtain ⟨_, r13, rfl, ⟨f13, rfl⟩, u13⟩ := all2_cons u12
  obtain ⟨_, r14, rfl, ⟨f14, rfl, q14⟩, u14⟩ := all2_cons u13
  obtain ⟨_, r15, rfl, ⟨f15, rfl, q15⟩, u15⟩ := all2_cons u14
  obtain ⟨_, r16, rfl, ⟨f16, rfl⟩, u16⟩ := all2_cons u15
  obtain ⟨_, r17, rfl, ⟨f17, rfl, q17⟩, u17⟩ := all2_cons u16
  obtain ⟨_, r18, rfl, ⟨f18, rfl⟩, u18⟩ := all2_cons u17
  obtain rfl := all2_nil u18
  have hc : w.rangeAt b (i * 19) [.int .i64 f0, .string f1, .string f2, .string f3, .string f4, .string f5, .string f6, .string f7, .int .i64 f8, .string f9, .string f10, .string f11, .string f12, .string f13, .slice f14.a f14.n f14.cap, .slice f15.a f15.n f15.cap, .int .i64 f16, .slice f17.a f17.n f17.cap, .string f18] := fun j v hv => by rw [cell_at h1]; exact h4 j v hv
  have hl := run_loadAt_mid (P := P) w b (i * 19) t _ _ hc hu rfl (by rw [hi]; simp [hk])
  refine ⟨⟨f0, f1, f2, f3, f4, f5, f6, f7, f8, f9, f10, f11, f12, f13, f14, f15, f16, f17, f18⟩, I, w, _, ⟨q14, q15, q17⟩, .inl ?_, rfl, Imm.le_refl I, hs, ⟨rfl, rfl⟩⟩
  simp [execOp, ho, ha2, hl]
end
end Go.Proofs.Ytfmadkaiigiaiaa
