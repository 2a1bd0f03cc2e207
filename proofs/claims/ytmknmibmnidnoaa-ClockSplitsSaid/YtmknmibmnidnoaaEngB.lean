/- The engine, part B: tables, slots, memory: what one step of the evaluator says of the model's own step. -/
import Derived.Test.YtmknmibmnidnoaaEngA
set_option linter.all false
namespace Go.Proofs.Ytmknmibmnidnoaa
open Go

/-! ## tables -/
theorem beq_ne {i j : Nat} (h : i ≠ j) : Nat.beq i j = false := by
  cases hb : Nat.beq i j with
  | false => rfl
  | true => exact absurd (Nat.eq_of_beq_eq_true hb) h
theorem blt_yes {i j : Nat} (h : i < j) : Nat.blt i j = true := by rw [Nat.blt_eq]; exact h
theorem blt_no {i j : Nat} (h : ¬ i < j) : Nat.blt i j = false := by
  cases hb : Nat.blt i j with
  | false => rfl
  | true => rw [Nat.blt_eq] at hb; exact absurd hb h
theorem bif_beq {α : Type} (i k : Nat) (u v : α) : (bif Nat.beq i k then u else v) = if i = k then u else v := by
  by_cases h : i = k
  · subst h; simp
  · simp [beq_ne h, h]
theorem lkp_ins {α : Type} (k : Nat) (v : α) (l : List (Nat × α)) (i : Nat) (d : α) : lkp (ins k v l) i d = if i = k then v else lkp l i d := by
  induction l with
  | nil => simp only [ins, lkp, bif_beq]
  | cons p r ih =>
    obtain ⟨j, u⟩ := p
    simp only [ins]
    by_cases h1 : k = j
    · subst h1
      simp only [Nat.beq_refl, cond_true, lkp, bif_beq]
      by_cases h : i = k <;> simp [h]
    · simp only [beq_ne h1, cond_false]
      by_cases h2 : k < j
      · simp only [blt_yes h2, cond_true, lkp, bif_beq]
      · simp only [blt_no h2, cond_false, lkp, ih, bif_beq]
        by_cases h : i = j
        · subst h
          have : ¬ i = k := fun e => h1 e.symm
          simp [this]
        · simp [h]

theorem ins_comm {α : Type} {i j : Nat} (h : i ≠ j) (u v : α) (l : List (Nat × α)) : ins i u (ins j v l) = ins j v (ins i u l) := by
  have nb := @beq_ne
  have lt := @blt_yes
  have nl := @blt_no
  induction l with
  | nil =>
    simp only [ins]
    by_cases hlt : i < j
    · simp [nb h, nb (Ne.symm h), lt hlt, nl (show ¬ j < i by omega)]
    · simp [nb h, nb (Ne.symm h), lt (show j < i by omega), nl hlt]
  | cons p r ih =>
    obtain ⟨k, c⟩ := p
    by_cases hi : i = k
    · subst hi
      by_cases hj : j < i
      · simp [ins, nb h, nb (Ne.symm h), lt hj, nl (show ¬ i < j by omega)]
      · simp [ins, nb (Ne.symm h), nl hj]
    · by_cases hj : j = k
      · subst hj
        by_cases hi2 : i < j
        · simp [ins, nb h, nb (Ne.symm h), lt hi2, nl (show ¬ j < i by omega)]
        · simp [ins, nb h, nl hi2]
      · by_cases hi2 : i < k
        · by_cases hj2 : j < k
          · by_cases hlt : i < j
            · simp [ins, nb h, nb (Ne.symm h), nb hi, nb hj, lt hi2, lt hj2, lt hlt, nl (show ¬ j < i by omega)]
            · simp [ins, nb h, nb (Ne.symm h), nb hi, nb hj, lt hi2, lt hj2, lt (show j < i by omega), nl hlt]
          · simp [ins, nb (Ne.symm h), nb hi, nb hj, lt hi2, nl hj2, nl (show ¬ j < i by omega)]
        · by_cases hj2 : j < k
          · simp [ins, nb h, nb hi, nb hj, nl hi2, lt hj2, nl (show ¬ i < j by omega)]
          · simp [ins, nb hi, nb hj, nl hi2, nl hj2, ih]

/-! ## slots -/
structure Rel (N : Nat) (T : Tm) (a : Act) : Prop where
  get : ∀ i, a.tmps.getD i undef = T.at i
  size : a.tmps.size = N
theorem Tm.at_upd (T : Tm) (k i : Nat) (v : Value) : (upd T k v).at i = if i = k then v else T.at i := by
  unfold upd Tm.at
  exact bif_beq _ _ _ _
theorem Rel.eval {N : Nat} {T : Tm} {a : Act} (h : Rel N T a) : a.eval = ev T := by
  funext x
  cases x with
  | tmp t => exact h.get t
  | const v => rfl
  | global g => rfl
  | func f => rfl
theorem putT_at (N : Nat) (T : Tm) (d : Nat) (v : Value) (i : Nat) : (putT N (some d) v T).at i = if d < N ∧ i = d then v else T.at i := by
  unfold putT
  by_cases h : d < N
  · simp [blt_yes h, Tm.at_upd, h]
  · simp [blt_no h, h]
theorem Rel.put {N : Nat} {T : Tm} {a : Act} (h : Rel N T a) (dst : Option Tmp) (v : Value) : Rel N (putT N dst v T) (a.put dst v) := by
  cases dst with
  | none => exact ⟨h.get, h.size⟩
  | some d =>
    refine ⟨fun i => ?_, by simpa [Act.put] using h.size⟩
    rw [putT_at]
    simp only [Act.put, Array.getD_eq_getD_getElem?, Array.getElem?_setIfInBounds]
    have hg := h.get i
    simp only [Array.getD_eq_getD_getElem?] at hg
    by_cases hd : d < N
    · by_cases hi : i = d
      · subst hi; simp [hd, h.size]
      · have : ¬ d = i := fun e => hi e.symm
        simp [hi, this, hg]
    · by_cases hi : i = d
      · subst hi
        have h1 : ¬ i < a.tmps.size := by rw [h.size]; exact hd
        simp only [hd, false_and, if_false, if_true, h1]
        rw [← hg]
        simp [Array.getElem?_eq_none (Nat.le_of_not_lt h1)]
      · have : ¬ d = i := fun e => hi e.symm
        simp [hi, this, hg]
theorem Rel.same {N : Nat} {T T' : Tm} {a : Act} (h : Rel N T a) (e : ∀ i, T'.at i = T.at i) : Rel N T' a := ⟨fun i => (h.get i).trans (e i).symm, h.size⟩
theorem Rel.defers {N : Nat} {T : Tm} {a : Act} (h : Rel N T a) (ds : List Deferred) : Rel N T { a with defers := ds } := ⟨h.get, h.size⟩
@[simp] theorem put_defers (a : Act) (dst : Option Tmp) (v : Value) : (a.put dst v).defers = a.defers := by cases dst <;> rfl
theorem ent_at (vs : List Value) (i : Nat) : (ent vs).at i = vs.getD i undef := rfl
theorem rel_ent {N : Nat} (vs : List Value) (h : vs.length ≤ N) : Rel N (ent vs) { tmps := ⟨vs⟩ ++ Array.replicate (N - (⟨vs⟩ : Array Value).size) undef, defers := [] } := by
  refine ⟨fun i => ?_, by simp; omega⟩
  rw [ent_at]
  simp only [Array.getD_eq_getD_getElem?, Array.getElem?_append, List.getD_eq_getElem?_getD]
  by_cases hi : i < vs.length
  · simp [hi]
  · simp [hi, Array.getElem?_replicate]
    split <;> rfl
theorem over_rel {N : Nat} {T : Tm} {a : Act} (h : Rel N T a) {l : List (Nat × Value)} (he : Eqs T l) : Rel N (over T.at l) a := by
  refine h.same fun i => ?_
  unfold over
  show lkp l i (T.at i) = T.at i
  induction l with
  | nil => rfl
  | cons p r ih =>
    obtain ⟨k, v⟩ := p
    simp only [Eqs] at he
    simp only [lkp]
    by_cases hk : i = k
    · subst hk; simp [he.1]
    · simp [beq_ne hk, ih he.2]

/-! ## memory -/
theorem Imm.le_refl (I : Imm) : Imm.le I I := fun _ _ h => h
theorem Imm.le_trans {I J K : Imm} (h : Imm.le I J) (h' : Imm.le J K) : Imm.le I K := fun b o e => h' b o (h b o e)
theorem gt_upd (S : St) (k j : Nat) (A : Atom) : gt (updS S k A) j = if j = k then A else gt S j := lkp_ins _ _ _ _ _
theorem gt_num (n : Nat) (l : List Atom) (j : Nat) : gt (num n l) j = if j < n then .emp else l.getD (j - n) .emp := by
  unfold gt
  induction l generalizing n with
  | nil => simp [num, lkp]
  | cons A r ih =>
    simp only [num, lkp, ih]
    by_cases h : j = n
    · subst h; simp
    · have e : Nat.beq j n = false := beq_ne h
      simp only [e, cond_false]
      by_cases h2 : j < n
      · simp [h2, show j < n + 1 by omega]
      · have h3 : j - n = (j - (n + 1)) + 1 := by omega
        simp [h2, show ¬ j < n + 1 by omega, h3]
theorem gt_ofL (l : List Atom) (j : Nat) : gt (ofL l) j = l.getD j .emp := by unfold ofL; rw [gt_num]; simp
theorem Env.refl (w : World) : Env w w := ⟨rfl, rfl⟩
theorem Env.trans {w v u : World} (h : Env w v) (h' : Env v u) : Env w u := ⟨h'.1.trans h.1, h'.2.trans h.2⟩
theorem Atom.local {I : Imm} {h h' : Hp} {o : Own} {A : Atom} (he : ∀ b, o b → h b = h' b) (hA : A.holds I h o) : A.holds I h' o := by
  cases A with
  | emp => trivial
  | cells b vs t => exact ⟨hA.1, (he _ hA.1) ▸ hA.2⟩
  | obj b ob => exact ⟨hA.1, (he _ hA.1) ▸ hA.2⟩
  | pred p => exact p.loc I h h' o he hA
theorem Atom.mono {I J : Imm} {h : Hp} {o : Own} {A : Atom} (hle : Imm.le I J) (hA : A.holds I h o) : A.holds J h o := by
  cases A with
  | emp => trivial
  | cells b vs t => exact hA
  | obj b ob => exact hA
  | pred p => exact p.mono I J h o hle hA
theorem cellOf_hp (w : World) (a : Addr) : cellOf (hp w) a = w.cell? a := by
  unfold cellOf hp World.cell?
  rfl
theorem Sat.look {I : Imm} {S : St} {w : World} (h : Sat I S w) {j : Nat} {a : Addr} {v : Value} (hl : Look (gt S j) a v) : w.cell? a = some v := by
  obtain ⟨f, h1, _, _⟩ := h.own
  rw [← cellOf_hp]
  exact hl.h I _ _ h.imm (h1 j)
theorem Sat.cells {I : Imm} {S : St} {w : World} (h : Sat I S w) {j b : Nat} {vs : List Value} {t : TypeId} (hj : gt S j = .cells b vs t) : w.heap[b]? = some (.cells ⟨vs⟩ t (0, 0)) := by
  obtain ⟨f, h1, _, _⟩ := h.own
  have := h1 j
  rw [hj] at this
  exact this.2
theorem Sat.obj {I : Imm} {S : St} {w : World} (h : Sat I S w) {j b : Nat} {o : Obj} (hj : gt S j = .obj b o) : w.heap[b]? = some o := by
  obtain ⟨f, h1, _, _⟩ := h.own
  have := h1 j
  rw [hj] at this
  exact this.2
/-- A block of one of the atoms is written: the others stand. -/
theorem Sat.write {I : Imm} {S : St} {w w' : World} (h : Sat I S w) {j b : Nat} {A' : Atom} (hb : ∀ o, (gt S j).holds I (hp w) o → o b)
    (hw : ∀ c, c ≠ b → w'.heap[c]? = w.heap[c]?) (hs : w'.heap.size = w.heap.size)
    (hA : ∀ o, (gt S j).holds I (hp w) o → A'.holds I (hp w') o) : Sat I (updS S j A') w' := by
  obtain ⟨f, h1, h2, h3⟩ := h.own
  have hfb : f j b := hb _ (h1 j)
  refine ⟨⟨f, fun i => ?_, h2, fun i c hc => by rw [hs]; exact h3 i c hc⟩, fun c o hc => ?_⟩
  · rw [gt_upd]
    by_cases hi : i = j
    · subst hi; simp only [if_true]; exact hA _ (h1 i)
    · simp only [hi, if_false]
      refine Atom.local (fun c hc => ?_) (h1 i)
      by_cases e : c = b
      · subst e; exact absurd (h2 _ _ _ hc hfb) hi
      · exact (hw c e).symm
  · by_cases e : c = b
    · subst e; exact absurd hc (by rw [(h3 _ _ hfb).1]; simp)
    · show w'.heap[c]? = some o
      rw [hw c e]; exact h.imm c o hc
theorem heap_set (w : World) (a : Addr) (v : Value) (c : Nat) : (w.setCell a v).heap[c]? = if c = a.block then (w.heap[c]?).map (fun | .cells cs e fr => .cells (if a.spot.isSome then cs else cs.setIfInBounds a.off v) e fr | o => o) else w.heap[c]? := by
  simp only [World.setCell, Array.getElem?_modify]
  by_cases h : c = a.block
  · subst h; simp only [if_true]; congr 1
  · have : ¬ a.block = c := fun e => h e.symm
    simp [h, this]
theorem Sat.store {I : Imm} {S : St} {w : World} (h : Sat I S w) {j b : Nat} {vs : List Value} {t : TypeId} (hj : gt S j = .cells b vs t) {a : Addr} (hs : Same a b) (v : Value) :
    Sat I (updS S j (.cells b (vs.set a.off v) t)) (w.setCell a v) := by
  have hb := h.cells hj
  obtain ⟨e1, e2⟩ := hs
  refine h.write (b := b) (fun o ho => by rw [hj] at ho; exact ho.1) (fun c hc => ?_) (by simp [World.setCell]) (fun o ho => ?_)
  · rw [heap_set]; simp [e1, hc]
  · rw [hj] at ho
    refine ⟨ho.1, ?_⟩
    show (w.setCell a v).heap[b]? = _
    rw [heap_set]
    simp [e1, hb, e2]
theorem Sat.setObj {I : Imm} {S : St} {w : World} (h : Sat I S w) {j b : Nat} {o : Obj} (hj : gt S j = .obj b o) (o' : Obj) :
    Sat I (updS S j (.obj b o')) { w with heap := w.heap.setIfInBounds b o' } := by
  have hb := h.obj hj
  have hlt : b < w.heap.size := by
    rcases Nat.lt_or_ge b w.heap.size with h' | h'
    · exact h'
    · simp [Array.getElem?_eq_none h'] at hb
  refine h.write (b := b) (fun o ho => by rw [hj] at ho; exact ho.1) (fun c hc => ?_) (by simp) (fun o ho => ?_)
  · have : ¬ b = c := fun e => hc e.symm
    simp [Array.getElem?_setIfInBounds, this]
  · rw [hj] at ho
    refine ⟨ho.1, ?_⟩
    show (w.heap.setIfInBounds b o')[b]? = _
    simp [hlt]
theorem mkAtom_holds (I : Imm) (h : Hp) (o : Own) (b : Nat) (ob : Obj) (ho : o b) (hh : h b = some ob) : (mkAtom b ob).holds I h o := by
  unfold mkAtom
  split
  · exact ⟨ho, by simpa using hh⟩
  · exact ⟨ho, hh⟩
theorem heap_push (w : World) (ob : Obj) (c : Nat) : ({ w with heap := w.heap.push ob } : World).heap[c]? = if c = w.heap.size then some ob else w.heap[c]? := by
  show (w.heap.push ob)[c]? = _
  rw [Array.getElem?_push]
/-- A new block. -/
theorem Sat.new {I : Imm} {S : St} {w : World} (h : Sat I S w) (j : Nat) (ob : Obj) : Sat I (updS S j (mkAtom w.heap.size ob)) { w with heap := w.heap.push ob } := by
  obtain ⟨f, h1, h2, h3⟩ := h.own
  have hsz : ∀ i b, f i b → b ≠ w.heap.size := fun i b hb e => by have := (h3 i b hb).2; omega
  have himm : I w.heap.size = none := by
    cases hI : I w.heap.size with
    | none => rfl
    | some o =>
      have := h.imm _ _ hI
      simp [hp] at this
  refine ⟨⟨fun i b => if i = j then b = w.heap.size else f i b, fun i => ?_, fun i i' b hb hb' => ?_, fun i b hb => ?_⟩, fun c o hc => ?_⟩
  · rw [gt_upd]
    by_cases hi : i = j
    · subst hi
      simp only [if_true]
      exact mkAtom_holds _ _ _ _ _ rfl (by show ({ w with heap := w.heap.push ob } : World).heap[_]? = _; rw [heap_push]; simp)
    · simp only [hi, if_false]
      refine Atom.local (fun c hc => ?_) (h1 i)
      show w.heap[c]? = ({ w with heap := w.heap.push ob } : World).heap[c]?
      rw [heap_push]; simp [hsz i c hc]
  · by_cases hi : i = j
    · by_cases hi' : i' = j
      · exact hi.trans hi'.symm
      · simp only [hi, hi', if_true, if_false] at hb hb'
        exact absurd hb (hsz _ _ hb')
    · by_cases hi' : i' = j
      · simp only [hi, hi', if_true, if_false] at hb hb'
        exact absurd hb' (hsz _ _ hb)
      · simp only [hi, hi', if_false] at hb hb'
        exact h2 _ _ _ hb hb'
  · by_cases hi : i = j
    · simp only [hi, if_true] at hb
      subst hb
      exact ⟨himm, by simp⟩
    · simp only [hi, if_false] at hb
      exact ⟨(h3 i b hb).1, by have := (h3 i b hb).2; simp; omega⟩
  · show ({ w with heap := w.heap.push ob } : World).heap[c]? = some o
    rw [heap_push]
    by_cases e : c = w.heap.size
    · subst e; rw [himm] at hc; cases hc
    · simp [e]; exact h.imm c o hc
/-- A world with the same heap. -/
theorem Sat.heap {I : Imm} {S : St} {w w' : World} (h : Sat I S w) (e : w'.heap = w.heap) : Sat I S w' := by
  have eh : hp w' = hp w := by unfold hp; rw [e]
  exact ⟨by rw [eh, e]; exact h.own, by rw [eh]; exact h.imm⟩
theorem frozen_cells {w : World} {a : Addr} {vs : List Value} {t : TypeId} (h : w.heap[a.block]? = some (.cells ⟨vs⟩ t (0, 0))) : w.frozen? a = false := by
  unfold World.frozen?
  simp [h]
theorem cell_cells {w : World} {a : Addr} {b : Nat} {vs : List Value} {t : TypeId} (hs : Same a b) (h : w.heap[b]? = some (.cells ⟨vs⟩ t (0, 0))) : w.cell? a = vs[a.off]? := by
  obtain ⟨e1, e2⟩ := hs
  unfold World.cell?
  simp [e1, h, e2]
theorem Shape.ex_some {K : Value → Prop} {s : Shape} (h : s.ex K) : ∃ v, K v := by
  cases s <;> simp only [Shape.ex] at h
  case int k => obtain ⟨n, h⟩ := h; exact ⟨_, h⟩
  case str => obtain ⟨n, h⟩ := h; exact ⟨_, h⟩
  case bool => obtain ⟨n, h⟩ := h; exact ⟨_, h⟩
  case slice => obtain ⟨a, l, c, h⟩ := h; exact ⟨_, h⟩
  case is v => exact ⟨_, h⟩
  case ptr => obtain ⟨n, h⟩ := h; exact ⟨_, h⟩
  case float k => obtain ⟨n, h⟩ := h; exact ⟨_, h⟩
  case any => exact h

/-! ## a step's run -/
section
variable {P : Program}
theorem rd_sound {α : Type} {I : Imm} {S : St} {w : World} (h : Sat I S w) : ∀ (s : Sem α) (hs : List LH) (k : α → Prop), rd P S s hs k → ∃ a, s.run P w = .ok a w ∧ k a := by
  intro s
  induction s with
  | pure a => intro hs k hk; exact ⟨a, rfl, hk⟩
  | program f ih => intro hs k hk; exact ih P hs k hk
  | mark m s ih => intro hs k hk; exact ih hs k hk
  | load m a f ih =>
    intro hs k hk
    cases hs with
    | nil => simp only [rd] at hk
    | cons x hs =>
      cases x with
      | atj j =>
        simp only [rd] at hk
        split at hk
        · rename_i b vs t hj
          obtain ⟨hsame, hk⟩ := hk
          have hc := cell_cells hsame (h.cells hj)
          split at hk
          · rename_i v hv
            obtain ⟨u, h1, h2⟩ := ih v hs k hk
            refine ⟨u, ?_, h2⟩
            simp only [Sem.run, hc, hv]
            exact h1
          · exact hk.elim
        · exact hk.elim
      | ex j sh =>
        simp only [rd] at hk
        obtain ⟨v, hl, hk⟩ := Shape.ex_some hk
        obtain ⟨u, h1, h2⟩ := ih v hs k hk
        refine ⟨u, ?_, h2⟩
        simp only [Sem.run, h.look hl]
        exact h1
      | nw j => simp only [rd] at hk
  | _ => intro hs k hk; cases hs <;> simp only [rd] at hk

/-- What a writing step leaves. -/
inductive WrEnd {α : Type} (I : Imm) (w : World) (k : α → St → Prop) (kp : Value → St → Prop) : Result α → Prop
  | ok (a : α) (w' : World) (S' : St) (h : Sat I S' w') (e : Env w w') (hk : k a S') : WrEnd I w k kp (.ok a w')
  | panic (v : Value) (w' : World) (S' : St) (h : Sat I S' w') (e : Env w w') (hk : kp v S') : WrEnd I w k kp (.halt (.panic v) w')
theorem WrEnd.from {α : Type} {I : Imm} {w w1 : World} {k : α → St → Prop} {kp : Value → St → Prop} {r : Result α} (e : Env w w1) (h : WrEnd I w1 k kp r) : WrEnd I w k kp r := by
  cases h with
  | ok a w' S' h e' hk => exact .ok a w' S' h (e.trans e') hk
  | panic v w' S' h e' hk => exact .panic v w' S' h (e.trans e') hk
theorem wr_sound {α : Type} {I : Imm} : ∀ (s : Sem α) (hs : List LH) (S : St) (w : World) (k : α → St → Prop) (kp : Value → St → Prop), Sat I S w → wr P s hs S k kp → WrEnd I w k kp (s.run P w) := by
  intro s
  induction s with
  | pure a => intro hs S w k kp h hk; exact .ok a w S h (Env.refl w) hk
  | program f ih => intro hs S w k kp h hk; exact ih P hs S w k kp h hk
  | mark m s ih => intro hs S w k kp h hk; exact ih hs S w k kp h hk
  | halt x =>
    intro hs S w k kp h hk
    cases x with
    | panic v => exact .panic v w S h (Env.refl w) hk
    | _ => cases hs <;> simp only [wr] at hk
  | load m a f ih =>
    intro hs S w k kp h hk
    cases hs with
    | nil => simp only [wr] at hk
    | cons x hs =>
      cases x with
      | atj j =>
        simp only [wr] at hk
        split at hk
        · rename_i b vs t hj
          obtain ⟨hsame, hk⟩ := hk
          have hc := cell_cells hsame (h.cells hj)
          split at hk
          · rename_i v hv
            simp only [Sem.run, hc, hv]
            exact ih v hs S w k kp h hk
          · exact hk.elim
        · exact hk.elim
      | ex j sh =>
        simp only [wr] at hk
        obtain ⟨v, hl, hk⟩ := Shape.ex_some hk
        simp only [Sem.run, h.look hl]
        exact ih v hs S w k kp h hk
      | nw j => simp only [wr] at hk
  | store m a v s ih =>
    intro hs S w k kp h hk
    have main : ∀ (j b : Nat) (vs : List Value) (t : TypeId) (hs' : List LH), gt S j = .cells b vs t → Same a b → a.off < vs.length → oneCell v = true →
        wr P s hs' (updS S j (.cells b (vs.set a.off v) t)) k kp → WrEnd I w k kp ((Sem.store m a v s).run P w) := by
      intro j b vs t hs' hj hsame hlt hone hk
      have hb := h.cells hj
      have hc := cell_cells hsame hb
      have hfr : w.frozen? a = false := frozen_cells (by rw [hsame.blk]; exact hb)
      have hrun : (Sem.store m a v s).run P w = s.run P (w.setCell a v) := by
        have hsome : w.cell? a = some vs[a.off] := by rw [hc]; simp [hlt]
        cases v <;> first
          | (simp only [Sem.run, hsome, hfr, Bool.false_eq_true, if_false]; done)
          | exact absurd hone (by simp [oneCell])
      rw [hrun]
      exact WrEnd.from (w1 := w.setCell a v) ⟨rfl, rfl⟩ (ih hs' _ _ k kp (h.store hj hsame v) hk)
    cases hs with
    | nil => cases v <;> simp only [wr] at hk
    | cons x hs =>
      cases x with
      | atj j =>
        simp only [wr] at hk
        split at hk
        · rename_i b vs t hj
          obtain ⟨hsame, hk⟩ := hk
          split at hk
          · rename_i u hu
            split at hk
            · rename_i hone
              exact main j b vs t hs hj hsame (List.getElem?_eq_some_iff.1 hu).1 hone hk
            · exact hk.elim
          · exact hk.elim
        · exact hk.elim
      | ex j sh =>
        simp only [wr] at hk
        split at hk
        · rename_i b vs t hj
          obtain ⟨⟨hsame, hlt⟩, hk⟩ := hk
          split at hk
          · rename_i hone
            exact main j b vs t hs hj hsame hlt hone hk
          · exact hk.elim
        · exact hk.elim
      | nw j => simp only [wr] at hk
  | new o f ih =>
    intro hs S w k kp h hk
    cases hs with
    | nil => simp only [wr] at hk
    | cons x hs =>
      cases x with
      | nw j =>
        simp only [wr] at hk
        exact WrEnd.from (w1 := { w with heap := w.heap.push o }) ⟨rfl, rfl⟩ (ih w.heap.size hs _ _ k kp (h.new j o) (hk _))
      | _ => simp only [wr] at hk
  | shape r f ih =>
    intro hs S w k kp h hk
    cases hs with
    | nil => simp only [wr] at hk
    | cons x hs =>
      cases x with
      | atj j =>
        simp only [wr] at hk
        split at hk
        · rename_i b vs t hj
          obtain ⟨rfl, hk⟩ := hk
          have hb := h.cells hj
          have : w.shape? r = some (t, vs.length) := by unfold World.shape?; simp [hb]
          simp only [Sem.run, this]
          exact ih _ hs S w k kp h hk
        · exact hk.elim
      | _ => simp only [wr] at hk
  | frozen a f ih =>
    intro hs S w k kp h hk
    cases hs with
    | nil => simp only [wr] at hk
    | cons x hs =>
      cases x with
      | atj j =>
        simp only [wr] at hk
        split at hk
        · rename_i b vs t hj
          obtain ⟨hsame, hk⟩ := hk
          have hfr : w.frozen? a = false := frozen_cells (by rw [hsame.blk]; exact h.cells hj)
          simp only [Sem.run, hfr]
          exact ih _ hs S w k kp h hk
        · exact hk.elim
      | _ => simp only [wr] at hk
  | getObj r f ih =>
    intro hs S w k kp h hk
    cases hs with
    | nil => simp only [wr] at hk
    | cons x hs =>
      cases x with
      | atj j =>
        simp only [wr] at hk
        split at hk
        · exact hk.elim
        · rename_i b o hno hj
          obtain ⟨rfl, hk⟩ := hk
          have hb := h.obj hj
          have : (Sem.getObj r f).run P w = (f o).run P w := by
            simp only [Sem.run, hb]
          rw [this]
          exact ih _ hs S w k kp h hk
        · exact hk.elim
      | _ => simp only [wr] at hk
  | setObj r o' s ih =>
    intro hs S w k kp h hk
    cases hs with
    | nil => simp only [wr] at hk
    | cons x hs =>
      cases x with
      | atj j =>
        simp only [wr] at hk
        split at hk
        · exact hk.elim
        · rename_i b o hno hj
          obtain ⟨rfl, hk⟩ := hk
          have hb := h.obj hj
          have : (Sem.setObj r o' s).run P w = s.run P { w with heap := w.heap.setIfInBounds r o' } := by
            simp only [Sem.run, hb]
          rw [this]
          exact WrEnd.from (w1 := { w with heap := w.heap.setIfInBounds r o' }) ⟨rfl, rfl⟩ (ih hs _ _ k kp (h.setObj hj o') hk)
        · exact hk.elim
      | _ => simp only [wr] at hk
  | _ => intro hs S w k kp h hk; cases hs <;> simp only [wr] at hk
end
end Go.Proofs.Ytmknmibmnidnoaa
