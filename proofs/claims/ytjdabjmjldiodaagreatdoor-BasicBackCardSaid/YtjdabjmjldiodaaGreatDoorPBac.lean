/- A part of the proof that pennantlaw23.BasicBack answers true at every input. -/
import Derived.Test.YtjdabjmjldiodaaGreatDoorPBab
set_option linter.all false
namespace Go.Proofs.YtjdabjmjldiodaaGreatDoor
set_option maxRecDepth 100000
open Go.Value (int slice string bool pointer agg tuple func float iface nilIface)
open Go.IntKind (i64 u8 u64 i32 u32 u16 i8 i16)
open Go.FloatKind (f64)
open Go.Ending (returned panicked)
section
open Go
variable {P : Program}
def oldA (W : World) : Atom := .pred { holds := λI _ _ => Imm.le (hp W) I, loc := λ_ _ _ _ _ h => h, mono := λ_ _ _ _ h k => Imm.le_trans k h }
theorem look_old {W : World} {a : Addr} {v : Value} (h : W.cell? a = some v) : Look (oldA W) a v := ⟨λI h' o hc hA => by
  have hA : Imm.le (hp W) I := hA
  rw [← cellOf_hp] at h
  unfold cellOf at h ⊢
  cases e : hp W a.block with
  | none => rw [e] at h; simp at h
  | some ob => rw [e] at h; rw [hc _ _ (hA _ _ e)]; exact h⟩
structure Kept (W w' : World) : Prop where
  heap : ∀ b, b < W.heap.size → w'.heap[b]? = W.heap[b]?
  os : w'.os = W.os
  output : w'.output = W.output
theorem entry {f : FuncId} {C : Con} (hok : FnOk P f C) (x : C.X) (W : World) (hpre : C.pre x = []) (hc : C.cond x) (hr : C.rdc x (oldA W)) :
    Calls P f ⟨C.args x⟩ W λe w' => (∃ y, C.rel x y ∧ e = C.val x y) ∧ Kept W w' := by
  refine (hok.h x (oldA W) (hp W) W hc hr ⟨⟨λ_ _ => False, λj => ?_, λ_ _ _ h => h.elim, λ_ _ h => h.elim⟩, λ_ _ h => h⟩).mono ?_
  · rw [hpre]
    cases j with
    | zero => exact Imm.le_refl _
    | succ j => trivial
  · rintro e w' ⟨y, J, h1, h2, hle, hsat, henv⟩
    refine ⟨⟨y, h1, h2⟩, λb hb => ?_, henv.1, henv.2⟩
    have e := hsat.imm b _ (hle b (W.heap[b]) (by simp [hp, hb]))
    rw [show w'.heap[b]? = hp w' b from rfl, e]
    simp [hb]
theorem Kept.keptBut {W w' : World} (h : Kept W w') (may : MemPlace → Prop) : W.keptBut w' may := by
  refine ⟨h.os, h.output, λi hi => ?_⟩
  rw [h.heap i hi]
  split <;> simp_all
theorem Kept.same {W w' : World} (h : Kept W w') {p : MemPlace} (hp : p.block < W.heap.size) : W.sameAt w' p := by
  cases p with
  | cell b o => exact World.cell?_of_block (w := W) (h.heap b hp)
  | map b => exact h.heap b hp
theorem trodAll_kept {H : Type} {enc : TypeId × Value → H} (hl : laidOutB P = true) {W W' : World} (hk : Kept W W') : ∀ (ts : List TypeId) (vs : List Value) (ds : List (DataW H)) (ps : List MemPlace),
    (ts.all λt => P.readableRec t && Nat.blt t P.types.size) = true → (∀ p ∈ ps, p.block < W.heap.size) → DataW.TrodAll enc P W 0 (λ_ => true) true ts vs ds ps →
    DataW.TrodAll enc P W' 0 (λb => decide (b < W.heap.size)) true ts vs ds ps
  | [], [], [], _, _, _, h => h
  | t :: ts, v :: vs, d :: ds, ps, ha, hlt, h => by
    obtain ⟨p, q, h1, h2, rfl⟩ := h
    simp only [List.all_cons, fo_bae] at ha
    refine ⟨p, q, WideElems.Trod_stays hl ha.1.1 (Nat.le_of_ble_eq_true ha.1.2) h1 (λx hx => hk.same (hlt x (by simp [hx]))) (λx hx => by simpa using hlt x (by simp [hx])), trodAll_kept hl hk ts vs ds q ha.2 (λx hx => hlt x (by simp [hx])) h2, rfl⟩
  | [], [], _ :: _, _, _, _, h => h.elim
  | [], _ :: _, _, _, _, _, h => by cases h
  | _ :: _, [], _, _, _, _, h => by cases h
  | _ :: _, _ :: _, [], _, _, _, h => by cases h
theorem post_true {H : Type} {enc : TypeId × Value → H} (hl : laidOutB P = true) {f : Func} {s : ChangeSpec} {apart fresh handsOn : Bool} {W W' : World} {args : Array Value} {ds gs : List (DataW H)} {before : List MemPlace}
    (hW : DataW.Whole enc P f.params.toList s.vars apart W args.toList ds gs before) (hv : s.vars = []) (hs : s.fn H (ds ++ gs) = { results := [.lit (.bool true)], args := ds }) (hk : Kept W W')
    {tb : TypeId} (hb : P.underlying tb = some .bool) (hr : f.resultTypes = #[tb]) (hts : (f.params.toList.all λt => P.readableRec t && Nat.blt t P.types.size) = true) :
    s.post enc P f apart fresh handsOn false W args (.bool true) W' := by
  have hlt := hW.lt
  obtain ⟨p, q, hA, hV, e, _, _⟩ := hW
  have hW : DataW.Whole enc P f.params.toList s.vars apart W args.toList ds gs before := ⟨p, q, hA, hV, e, by assumption, by assumption⟩
  rw [hv] at hV
  obtain ⟨rfl, rfl⟩ := Go.ChangeShapes.trodVars_none hV
  rw [fo_an] at e
  subst e
  refine ⟨ds, [], before, [], before, [], hW, ?_, ?_, ?_, hk.keptBut _, λh => by cases h⟩
  · rw [hs, hr]
    exact Go.ChangeShapes.trodAll_mk1 (⟨1, by simp [DataW.trod, Value.cells, hb]⟩)
  · rw [hs]
    exact trodAll_kept hl hk _ _ _ _ hts hlt hA
  · rw [hs, hv]; rfl
end
section
open Go Go.ChangeShapes Go.WideShapes Go.ChangeAt Go.RowKit
section
variable {H : Type} {enc : TypeId × Value → H} {P : Program} {W : World} {base : Nat} {spare : Nat → Bool} {held : Bool}
theorem flat_get {α : Type} {k : Nat} {e : α → List Value} (he : ∀ x, (e x).length = k) (hk : 0 < k) : ∀ (xs : List α) (j : Nat) (u : Value), (xs.flatMap e)[j]? = some u → ∃ x, xs[j / k]? = some x ∧ (e x)[j % k]? = some u := by
  intro xs
  induction xs with
  | nil => intro j u h; simp at h
  | cons a r ih =>
    intro j u h
    rw [List.flatMap_cons] at h
    by_cases hj : j < k
    · rw [fo_gl (by rw [he]; exact hj)] at h
      exact ⟨a, by rw [Nat.div_eq_of_lt hj]; rfl, by rw [Nat.mod_eq_of_lt hj]; exact h⟩
    · rw [fo_gr2 (by rw [he]; omega), he] at h
      obtain ⟨x, h1, h2⟩ := ih _ _ h
      have e1 : j / k = (j - k) / k + 1 := by rw [Nat.div_eq_sub_div hk (by omega)]
      have e2 : j % k = (j - k) % k := Nat.mod_eq_sub_mod (by omega)
      exact ⟨x, by rw [e1, List.getElem?_cons_succ]; exact h1, by rw [e2]; exact h2⟩
theorem flat_length {α : Type} {k : Nat} {e : α → List Value} (he : ∀ x, (e x).length = k) (xs : List α) : (xs.flatMap e).length = xs.length * k := by
  induction xs with
  | nil => simp
  | cons a r ih => rw [List.flatMap_cons, fo_la, ih, he, fo_lc, Nat.succ_mul]; omega
end
end
section
open Go Go.ChangeShapes Go.WideShapes Go.ChangeAt Go.RowKit
section
variable {H : Type} {enc : TypeId × Value → H} {P : Program} {W : World} {base : Nat} {spare : Nat → Bool} {held : Bool}
end
end
section
open Go
def scD (P : Program) (t : TypeId) : DataW Unit → Option Value
  | .lit l => match P.underlying t, l with
    | some .bool, .bool b => some (.bool b)
    | some (.int k), .int k' z => if k' = k then some (.int k z) else none
    | some (.float k), .float k' b => if k' = k then some (.float k b) else none
    | some .string, .string bs => some (.string ⟨bs.toArray⟩)
    | _, _ => none
  | _ => none
def seD (P : Program) (f : TypeId → DataW Unit → Option (List Value)) : List (TypeId × Nat) → Nat → List (DataW Unit) → Option (List Value)
  | [], _, [] => some []
  | x :: r, k, d :: ds => if x.2 = k then (f x.1 d).bind λl => if l.length = P.cellsOf x.1 then (seD P f r (k + l.length) ds).map λm => l ++ m else none else none
  | _, _, _ => none
def flD (P : Program) : Nat → TypeId → DataW Unit → Option (List Value)
  | 0, t, d => (scD P t d).map λv => [v]
  | n + 1, t, d => match d, P.underlying t with
    | .agg ds, some (.struct fs) => (seD P (flD P n) (fs.toList.map λf => (f.type, f.offset)) 0 ds).bind λl => if l.length = P.cellsOf t then some l else none
    | .agg ds, some (.array k e) => (seD P (flD P n) ((List.range k).map λi => (e, i * P.cellsOf e)) 0 ds).bind λl => if l.length = P.cellsOf t then some l else none
    | d, _ => (scD P t d).map λv => [v]
section
variable {P : Program} {w : World} {enc : TypeId × Value → Unit} {base : Nat} {sp : Nat → Bool} {held : Bool}
theorem sc_ok {t : TypeId} {d : DataW Unit} {v : Value} {fuel : Nat} {cs : List Value} {p : List MemPlace} (h : DataW.trod enc P w base sp held fuel t cs = some (d, p)) (hv : scD P t d = some v) : cs = [v] := by
  cases fuel with
  | zero => simp [DataW.trod] at h
  | succ n =>
    cases d <;> unfold scD at hv <;> dsimp only at hv <;> try contradiction
    rename_i l
    unfold DataW.trod at h
    cases hu : P.underlying t with
    | none => rw [hu] at hv; cases hv
    | some u =>
      rw [hu] at h hv
      cases u <;> cases l <;> dsimp only at hv <;> try contradiction
      all_goals (split at h <;> simp_all)
      all_goals (obtain ⟨-, h2, -⟩ := h; subst h2; rw [← hv])
theorem se_ok {f : TypeId → DataW Unit → Option (List Value)} {m : Nat} (hf : ∀ t d l, f t d = some l → ∀ cs p, DataW.trod enc P w base sp held m t cs = some (d, p) → cs = l) {cs : List Value} :
    ∀ (r : List (TypeId × Nat)) (k : Nat) (ds : List (DataW Unit)) (L : List Value), seD P f r k ds = some L →
      (∀ (i : Nat) x d, r[i]? = some x → ds[i]? = some d → ∃ p, DataW.trod enc P w base sp held m x.1 ((cs.drop x.2).take (P.cellsOf x.1)) = some (d, p)) → cs.length = k + L.length → cs.drop k = L
  | [], k, [], L, h, _, hl => by
    cases h
    rw [List.drop_eq_nil_of_le]
    rw [hl]; exact fo_nr _
  | x :: r, k, d :: ds, L, h, ha, hl => by
    unfold seD at h
    split at h
    · rename_i hk
      obtain ⟨l, h1, h⟩ := Option.bind_eq_some_iff.1 h
      split at h
      · rename_i hc
        obtain ⟨q, h2, rfl⟩ := Option.map_eq_some_iff.1 h
        obtain ⟨p, hp⟩ := ha 0 x d rfl rfl
        have e1 := hf _ _ _ h1 _ _ hp
        rw [hk, ← hc] at e1
        rw [fo_la] at hl
        have e2 := se_ok hf r (k + l.length) ds q h2 (λi y e hy he => ha (i + 1) y e hy he) (by omega)
        have e3 := List.take_append_drop l.length (cs.drop k)
        rw [e1, List.drop_drop, e2] at e3
        exact e3.symm
      · cases h
    · cases h
  | [], _, _ :: _, _, h, _, _ => by cases h
  | _ :: _, _, [], _, h, _, _ => by cases h
theorem fl_ok : ∀ (n : Nat) (t : TypeId) (d : DataW Unit) (l : List Value), flD P n t d = some l → ∀ (fuel : Nat) (cs : List Value) (p : List MemPlace), DataW.trod enc P w base sp held fuel t cs = some (d, p) → cs = l
  | 0, t, d, l, h, fuel, cs, p, hp => by
    unfold flD at h
    obtain ⟨v, h2, rfl⟩ := Option.map_eq_some_iff.1 h
    exact sc_ok hp h2
  | n + 1, t, d, l, h, fuel, cs, p, hp => by
    unfold flD at h
    split at h
    · rename_i ds fs hu
      obtain ⟨L, h1, h⟩ := Option.bind_eq_some_iff.1 h
      split at h
      · rename_i hc
        cases h
        obtain ⟨xs, m, rfl, hx, hl, hxl, hall⟩ := DataW.trod_struct hu hp
        cases hx
        have := se_ok (m := m) (λt d l e cs p => fl_ok n t d l e m cs p) _ 0 _ l h1 (λi x d hx hd => by
          rw [fo_gm, Option.map_eq_some_iff] at hx hd
          obtain ⟨f, hf, rfl⟩ := hx
          obtain ⟨y, hy, rfl⟩ := hd
          exact ⟨y.2, by rw [hall i f (by simpa using hf), hy]⟩) (by omega)
        simpa using this
      · cases h
    · rename_i ds k e hu
      obtain ⟨L, h1, h⟩ := Option.bind_eq_some_iff.1 h
      split at h
      · rename_i hc
        cases h
        obtain ⟨xs, m, rfl, hx, hl, hxl, hall⟩ := DataW.trod_array hu hp
        cases hx
        have := se_ok (m := m) (λt d l e cs p => fl_ok n t d l e m cs p) _ 0 _ l h1 (λi x d hx hd => by
          rw [fo_gm, Option.map_eq_some_iff] at hx hd
          obtain ⟨j, hj, rfl⟩ := hx
          obtain ⟨y, hy, rfl⟩ := hd
          obtain ⟨hj1, rfl⟩ := fo_gs.1 hj
          rw [List.length_range] at hj1
          rw [List.getElem_range]
          exact ⟨y.2, by rw [hall i hj1, hy]⟩) (by omega)
        simpa using this
      · cases h
    · obtain ⟨v, h2, rfl⟩ := Option.map_eq_some_iff.1 h
      exact sc_ok hp h2
end
def VarR (P : Program) (w : World) (n : String) (d : DataW Unit) : Prop :=
  ∃ g t cs fuel p, P.globalNamed n = some g ∧ (P.globals[g]?).map (·.type) = some t ∧ w.var? P n = some cs ∧ DataW.trod (λ_ => ()) P w 0 (λ_ => true) false fuel t cs.toList = some (d, p)
theorem varR_all {P : Program} {w : World} : ∀ {l : List (String × DataW Unit)} {ps : List MemPlace}, DataW.LaidVars P w l ps → ∀ x ∈ l, VarR P w x.1 x.2
  | [], _, _, _, hm => by cases hm
  | (n, d) :: r, ps, h, x, hm => by
    obtain ⟨g, t, cs, fuel, p, q, h1, h2, h3, h4, h5, _⟩ := h
    rcases List.mem_cons.1 hm with e | e
    · subst e
      exact ⟨g, t, cs, fuel, p, h1, h2, h3, h4⟩
    · exact varR_all h5 x e
theorem laid_var {P : Program} {w : World} {l : List (String × DataW Unit)} (h : laidMet P l w) (i : Nat) {n : String} {d : DataW Unit} (hi : l[i]? = some (n, d)) : VarR P w n d :=
  let ⟨_, hv, _⟩ := h
  varR_all hv _ (fo_mg hi)
section
variable {P : Program} {w : World} {n : String} {d : DataW Unit} {g : Nat} {t e : TypeId} {l : List Value}
theorem VarR.flat (h : VarR P w n d) (hg : P.globalNamed n = some g) (ht : (P.globals[g]?).map (·.type) = some t) (k : Nat) (hf : flD P k t d = some l) : ∃ t fr, w.heap[g]? = some (.cells ⟨l⟩ t fr) := by
  obtain ⟨g0, t0, cs, fuel, p, hg0, ht0, hv, hp⟩ := h
  obtain rfl := Option.some.inj (hg.symm.trans hg0)
  obtain rfl := Option.some.inj (ht.symm.trans ht0)
  have := fl_ok k _ _ _ hf _ _ _ hp
  obtain ⟨cl⟩ := cs
  have this : cl = l := this
  subst this
  unfold World.var? at hv
  rw [hg, Option.bind_some] at hv
  split at hv
  · rename_i cs' t' fr' e'
    cases hv
    exact ⟨t', fr', e'⟩
  · cases hv
theorem VarR.look (h : VarR P w n d) (hg : P.globalNamed n = some g) (ht : (P.globals[g]?).map (·.type) = some t) (k : Nat) (hf : flD P k t d = some l) (i : Nat) {v : Value} (hi : l[i]? = some v) : Look (oldA w) ⟨g, i, none⟩ v := by
  obtain ⟨t, fr, e⟩ := h.flat hg ht k hf
  refine look_old ?_
  unfold World.cell?
  dsimp only
  rw [e]
  simpa using hi
end
section
variable {H : Type} {enc : TypeId × Value → H}
end
end
section
open Go
theorem sub_rest {S : St} {touch : List Nat} {A : Atom} (j : Nat) (hj : j ∉ touch) (e : gt S j = A) : Sub A (.pred (rest S touch)) := by
  intro I h o hA
  obtain ⟨f, h1, _, _⟩ := hA
  have := h1 j
  rw [gt_clr] at this
  simp only [hj, if_false] at this
  rw [e] at this
  exact ⟨_, this⟩
theorem row_srcd {S : St} {touch : List Nat} {e : TypeId} {k : Nat} {cs : List Value} {r : Row} (j : Nat) (hj : j ∉ touch) (e' : gt S j = r.A) (h : IsRow e k cs r) : Srcd (.pred (rest S touch)) r.a cs := Srcd.sub (sub_rest j hj e') h.srcd
theorem IsRow.at0 {e : TypeId} {k : Nat} {cs : List Value} {r : Row} (h : IsRow e k cs r) (hn : 0 < r.n) : ∃ b, r.a = some ⟨b, 0, none⟩ := by
  cases h with
  | nil _ => exact absurd hn (Nat.lt_irrefl 0)
  | blk b n cap sp hl hs hn => exact ⟨b, rfl⟩
def bagA (As : List Atom) : Atom := .pred (rest (ofL As) [])
theorem gt_left {Ks As : List Atom} {j : Nat} (h : j < Ks.length) : gt (ofL (Ks ++ As)) j = Ks.getD j .emp := by
  rw [gt_ofL, fo_gd, fo_gl h, fo_gd]
theorem gt_right (Ks As : List Atom) (i : Nat) : gt (ofL (Ks ++ As)) (Ks.length + i) = As.getD i .emp := by
  rw [gt_ofL, fo_gd, fo_gr2 (by omega), fo_gd]
  congr 2
  omega
theorem Sat.bagTail {I : Imm} {w : World} {Ks As : List Atom} (h : Sat I (ofL (Ks ++ As)) w) : Sat I (ofL (Ks ++ [bagA As])) w := by
  obtain ⟨⟨f, h1, h2, h3⟩, hi⟩ := h
  refine ⟨⟨λj b => (j < Ks.length ∧ f j b) ∨ (j = Ks.length ∧ ∃ i, f (Ks.length + i) b), λj => ?_, ?_, ?_⟩, hi⟩
  · by_cases hj : j < Ks.length
    · rw [gt_left hj]
      have := h1 j
      rw [gt_left hj] at this
      have e : (λb => (j < Ks.length ∧ f j b) ∨ (j = Ks.length ∧ ∃ i, f (Ks.length + i) b)) = f j := by
        funext b
        apply propext
        constructor
        · rintro (⟨_, h⟩ | ⟨h, _⟩)
          · exact h
          · omega
        · intro h; exact .inl ⟨hj, h⟩
      dsimp only
      rw [e]; exact this
    · by_cases he : j = Ks.length
      · subst he
        have e0 : gt (ofL (Ks ++ [bagA As])) Ks.length = bagA As := gt_right Ks [bagA As] 0
        rw [e0]
        refine ⟨λi => f (Ks.length + i), λi => ?_, λi j b hb hb' => ?_, λi b hb => .inr ⟨rfl, i, hb⟩⟩
        · have := h1 (Ks.length + i)
          rw [gt_right] at this
          show (gt (ofL As) i).holds I (hp w) _
          rw [gt_ofL]; exact this
        · have := h2 _ _ _ hb hb'; omega
      · have e0 : gt (ofL (Ks ++ [bagA As])) j = .emp := by
          rw [gt_ofL, fo_gd, fo_gn (by simp; omega)]; rfl
        rw [e0]; trivial
  · rintro i j b (⟨a1, a2⟩ | ⟨a1, k1, a2⟩) (⟨b1, b2⟩ | ⟨b1, k2, b2⟩)
    · exact h2 _ _ _ a2 b2
    · have := h2 _ _ _ a2 b2; omega
    · have := h2 _ _ _ a2 b2; omega
    · omega
  · rintro j b (⟨_, h⟩ | ⟨_, i, h⟩)
    · exact h3 _ _ h
    · exact h3 _ _ h
theorem Sat.unbagTail {I : Imm} {w : World} {Ks As : List Atom} (h : Sat I (ofL (Ks ++ [bagA As])) w) : Sat I (ofL (Ks ++ As)) w := by
  obtain ⟨⟨f, h1, h2, h3⟩, hi⟩ := h
  have hb := h1 Ks.length
  have e0 : gt (ofL (Ks ++ [bagA As])) Ks.length = bagA As := gt_right Ks [bagA As] 0
  rw [e0] at hb
  obtain ⟨g, g1, g2, g3⟩ := hb
  refine ⟨⟨λj b => (j < Ks.length ∧ f j b) ∨ (Ks.length ≤ j ∧ g (j - Ks.length) b), λj => ?_, ?_, ?_⟩, hi⟩
  · by_cases hj : j < Ks.length
    · have := h1 j
      rw [gt_left hj] at this ⊢
      have e : (λb => (j < Ks.length ∧ f j b) ∨ (Ks.length ≤ j ∧ g (j - Ks.length) b)) = f j := by
        funext b
        apply propext
        constructor
        · rintro (⟨_, h⟩ | ⟨h, _⟩)
          · exact h
          · omega
        · intro h; exact .inl ⟨hj, h⟩
      dsimp only
      rw [e]; exact this
    · obtain ⟨i, rfl⟩ : ∃ i, j = Ks.length + i := ⟨j - Ks.length, by omega⟩
      have := g1 i
      replace this : (gt (ofL As) i).holds I (hp w) (g i) := this
      rw [gt_ofL] at this
      rw [gt_right]
      have e : (λb => (Ks.length + i < Ks.length ∧ f (Ks.length + i) b) ∨ (Ks.length ≤ Ks.length + i ∧ g (Ks.length + i - Ks.length) b)) = g i := by
        funext b
        apply propext
        rw [Nat.add_sub_cancel_left]
        constructor
        · rintro (⟨h, _⟩ | ⟨_, h⟩)
          · omega
          · exact h
        · intro h; exact .inr ⟨Nat.le_add_right _ _, h⟩
      dsimp only
      rw [e]; exact this
  · rintro i j b (⟨a1, a2⟩ | ⟨a1, a2⟩) (⟨b1, b2⟩ | ⟨b1, b2⟩)
    · exact h2 _ _ _ a2 b2
    · have := h2 _ _ _ a2 (g3 _ _ b2); omega
    · have := h2 _ _ _ (g3 _ _ a2) b2; omega
    · have := g2 _ _ _ a2 b2; omega
  · rintro j b (⟨_, h⟩ | ⟨_, h⟩)
    · exact h3 _ _ h
    · exact h3 _ _ (g3 _ _ h)
theorem Ent.bag {S S' : St} (keep bg : List Nat) (hn : nodupB (keep ++ bg) = true) (e : ofL (keep.map (gt S) ++ [bagA (bg.map (gt S))]) = S') : Ent S S' := ⟨λI w h => by
  have h1 := h.pick (keep ++ bg) hn rfl
  rw [List.map_append] at h1
  exact ⟨I, Imm.le_refl I, e ▸ h1.bagTail⟩⟩
theorem Look.bag {As : List Atom} {A : Atom} {a : Addr} {v : Value} (i : Nat) (h : As[i]? = some A) (hl : Look A a v) : Look (bagA As) a v := by
  refine Look.rest (j := i) (by simp) ?_
  rw [gt_ofL, fo_gd, h]; exact hl
theorem sub_bag {As : List Atom} {A : Atom} (i : Nat) (h : As[i]? = some A) : Sub A (bagA As) := by
  refine sub_rest i (by simp) ?_
  rw [gt_ofL, fo_gd, h]; rfl
theorem fo_ep {S S' : St} (l : List Nat) (h1 : nodupB l = true := by exact rfl) (h2 : ofL (l.map (gt S)) = S' := by exact rfl) : Ent S S' := Ent.pick l h1 h2
theorem fo_dn {p : Prop} (h : p := by exact ⟨(), trivial, rfl, Ent.pick [0] rfl rfl⟩) : p := h
theorem fo_sr {S : St} {touch : List Nat} (j : Nat) {A : Atom} (h : j ∉ touch := by simp) (e : gt S j = A := by exact rfl) : Sub A (.pred (rest S touch)) := sub_rest j h e
end
section
open Go
structure SlQX where
  a : Option Addr
  n : Nat
  cap : Nat
  h : Int
def slQ : QCon where
  X := SlQX
  args x := [.slice x.a x.n x.cap, .int .i64 x.h]
  cond x := 0 ≤ x.h ∧ x.h ≤ x.cap
  val x := .slice x.a x.h.toNat x.cap
theorem slq_ok {P : Program} {o : Oper} {t e : TypeId} {x y : Operand} {inf : TypeInfo} (ho : o.op = .slice t x none (some y) none) (ht : P.underlying t = some (.slice e)) (hi : P.info? e = some inf) : QOpOk P o slQ := by
  refine ⟨λq w ρ ha hc => ?_⟩
  obtain ⟨a, n, cap, h⟩ := q
  obtain ⟨h0, h1⟩ := hc
  dsimp only at h0 h1
  simp only [ho, Op.operands, slQ] at ha
  have ha2 : ρ x = .slice a n cap ∧ ρ y = .int .i64 h := by simpa using ha
  obtain ⟨hx, hy⟩ := ha2
  simp [execOp, ho, hx, hy, Instr.sliceAt, Instr.slice, Instr.sliceBounds, Instr.sliceBound, asIntOf, run_underlying ht, run_sizeOf w hi, h0, h1, slQ]
  intro _
  cases a with
  | none => rfl
  | some b => simp [Addr.add]
end
section
open Go
theorem Sat.freeze {I : Imm} {S : St} {w : World} (h : Sat I S w) {j b : Nat} {vs : List Value} {t : TypeId} (hj : gt S j = .cells b vs t) :
    ∃ J, Imm.le I J ∧ J b = some (.cells ⟨vs⟩ t (0, 0)) ∧ Sat J (updS S j .emp) w := by
  obtain ⟨⟨f, h1, h2, h3⟩, hi⟩ := h
  have hb := h1 j
  rw [hj] at hb
  obtain ⟨hfb, hhb⟩ := hb
  have hIb := (h3 j b hfb).1
  refine ⟨λc => if c = b then some (.cells ⟨vs⟩ t (0, 0)) else I c, λc o hc => ?_, by simp, ⟨⟨λi c => i ≠ j ∧ f i c, λi => ?_, λi i' c hc hc' => h2 _ _ _ hc.2 hc'.2, λi c hc => ⟨?_, (h3 i c hc.2).2⟩⟩, λc o hc => ?_⟩⟩
  · by_cases e : c = b
    · subst e; rw [hIb] at hc; cases hc
    · simpa [e] using hc
  · rw [gt_upd]
    by_cases e : i = j
    · simp [e]; trivial
    · have e2 : (λc => i ≠ j ∧ f i c) = f i := by funext c; simp [e]
      simp only [e, if_false]
      rw [show (λc => ¬ i = j ∧ f i c) = f i from e2]
      refine Atom.mono (λc o hc => ?_) (h1 i)
      by_cases e3 : c = b
      · subst e3; rw [hIb] at hc; cases hc
      · simpa [e3] using hc
  · by_cases e : c = b
    · subst e; exact absurd (h2 _ _ _ hc.2 hfb) hc.1
    · simpa [e] using (h3 i c hc.2).1
  · by_cases e : c = b
    · subst e
      simp at hc
      subst hc
      exact hhb
    · simp [e] at hc
      exact hi c o hc
theorem Sat.opn {I : Imm} {S : St} {w : World} {Y : Type} {R : Y → Prop} {B : Y → Atom} (j : Nat) (h : Sat I S w) (hA : ∀ h o, (gt S j).holds I h o → ∃ y, R y ∧ (B y).holds I h o) : ∃ y, R y ∧ Sat I (updS S j (B y)) w := by
  obtain ⟨⟨f, h1, h2, h3⟩, hi⟩ := h
  obtain ⟨y, hy, hB⟩ := hA (hp w) (f j) (h1 j)
  refine ⟨y, hy, ⟨⟨f, λi => ?_, h2, h3⟩, hi⟩⟩
  rw [gt_upd]
  by_cases e : i = j
  · subst e; rw [if_pos rfl]; exact hB
  · rw [if_neg e]; exact h1 i
theorem Sat.shut {I : Imm} {S : St} {w : World} {B : Atom} (j : Nat) (h : Sat I S w) (hA : ∀ h o, (gt S j).holds I h o → B.holds I h o) : Sat I (updS S j B) w := by
  obtain ⟨⟨f, h1, h2, h3⟩, hi⟩ := h
  refine ⟨⟨f, λi => ?_, h2, h3⟩, hi⟩
  rw [gt_upd]
  by_cases e : i = j
  · subst e; rw [if_pos rfl]; exact hA _ _ (h1 i)
  · rw [if_neg e]; exact h1 i
end
section
open Go
def BodyD (P : Program) (N : Nat) (fn : Func) (H : Hints) (rh : List LH) (c : Code) (T : Tm) (S : St) (lv : List (Nat × Value)) (R : Ending → St → Prop) : Prop :=
  E P N H c 0 T S λe T S => match e with
    | .normal => match lv with | [] => True | _ :: _ => rd P S (resSem fn T) rh λv => R (.returned v) S
    | .ret => rd P S (resSem fn T) rh λv => R (.returned v) S
    | .panic ch => Eqs T lv ∧ R (.panicked ch) S
    | _ => False
noncomputable def codeOf (fn : Func) : Code := fn.body.getD .skip
section
variable {P : Program} {N : Nat}
end
end
section
open Go
def Ex.rest {Y : Type} (R : Y → Prop) (B : Y → List Atom) : Pred where
  holds I h o := ∃ y, R y ∧ (bagA (B y)).holds I h o
  loc I h h' o he := λ⟨y, h1, h2⟩ => ⟨y, h1, Atom.local he h2⟩
  mono I J h o hle := λ⟨y, h1, h2⟩ => ⟨y, h1, Atom.mono hle h2⟩
def exA {Y : Type} (R : Y → Prop) (B : Y → List Atom) : Atom := .pred (Ex.rest R B)
theorem Sat.ren {I : Imm} {S S' : St} {w : World} (h : Sat I S w) (g : Nat → Nat) (hg : ∀ i j, g i = g j → i = j) (e : ∀ j, gt S' j = gt S (g j)) : Sat I S' w := by
  obtain ⟨⟨f, h1, h2, h3⟩, hi⟩ := h
  exact ⟨⟨λj => f (g j), λj => by rw [e]; exact h1 (g j), λi j b a c => hg _ _ (h2 _ _ _ a c), λj b hb => h3 _ _ hb⟩, hi⟩
theorem getD_snoc (l : List Atom) (A : Atom) (j : Nat) : (l ++ [A]).getD j .emp = if j < l.length then l.getD j .emp else if j = l.length then A else .emp := by
  simp only [fo_gd]
  by_cases h : j < l.length
  · rw [if_pos h, fo_gl h]
  · rw [if_neg h, fo_gr2 (by omega)]
    by_cases e : j = l.length
    · subst e; simp
    · rw [if_neg e, fo_gn (by simp; omega)] <;> rfl
theorem Sat.rot {I : Imm} {w : World} {A : Atom} {l : List Atom} (h : Sat I (ofL (A :: l)) w) : Sat I (ofL (l ++ [A])) w := by
  refine h.ren (λj => if j < l.length then j + 1 else if j = l.length then 0 else j) (λi j => ?_) λj => ?_
  · repeat' split
    all_goals omega
  · rw [gt_ofL, gt_ofL, getD_snoc]
    split
    · simp
    · split
      · simp
      · rename_i h1 h2
        obtain ⟨k, rfl⟩ : ∃ k, j = k + 1 := ⟨j - 1, by omega⟩
        rw [List.getD_cons_succ, fo_gd, fo_gn (by omega)] <;> rfl
theorem Sat.tor {I : Imm} {w : World} {A : Atom} {l : List Atom} (h : Sat I (ofL (l ++ [A])) w) : Sat I (ofL (A :: l)) w := by
  refine h.ren (λj => if j = 0 then l.length else if j ≤ l.length then j - 1 else j) (λi j => ?_) λj => ?_
  · repeat' split
    all_goals omega
  · rw [gt_ofL, gt_ofL, getD_snoc]
    cases j with
    | zero => simp
    | succ k =>
      rw [if_neg (Nat.succ_ne_zero k), List.getD_cons_succ]
      split
      · rw [if_pos (by omega)] <;> rfl
      · rw [if_neg (by omega), if_neg (by omega), fo_gd, fo_gn (by omega)] <;> rfl
theorem ex_open {Y : Type} {R : Y → Prop} {B : Y → List Atom} {I : Imm} {w : World} {F : Atom} (h : Sat I (ofL [exA R B, F]) w) : ∃ y, R y ∧ Sat I (ofL (B y ++ [F])) w := by
  obtain ⟨y, hy, hs⟩ := h.opn (Y := Y) (R := R) (B := λy => bagA (B y)) 0 λ_ _ ⟨y, h1, h2⟩ => ⟨y, h1, h2⟩
  have h2 : Sat I (ofL ([F] ++ [bagA (B y)])) w := hs.pick [1, 0] rfl rfl
  exact ⟨y, hy, Sat.rot h2.unbagTail⟩
theorem ex_shut {Y : Type} {R : Y → Prop} {B : Y → List Atom} {I : Imm} {w : World} {F : Atom} {y : Y} (hy : R y) (h : Sat I (ofL (B y ++ [F])) w) : Sat I (ofL [exA R B, F]) w := by
  have h2 : Sat I (ofL ([F] ++ B y)) w := Sat.tor h
  have h3 := h2.bagTail.shut (B := exA R B) 1 λ_ _ q => ⟨y, hy, q⟩
  exact h3.pick [1, 0] rfl rfl
def PostLe (l m : List Atom) : Prop := ∀ I w F, Sat I (ofL (l ++ [F])) w → ∃ J, Imm.le I J ∧ Sat J (ofL (m ++ [F])) w
theorem PostLe.ex {Y : Type} {R : Y → Prop} {B : Y → List Atom} {y : Y} (hy : R y) : PostLe (B y) [exA R B] := λI _ _ h => ⟨I, Imm.le_refl I, ex_shut hy h⟩
theorem FnOk.pk {P : Program} {f : FuncId} {C D : Con} {Y : Type} (h : FnOk P f C) (R : D.X → Y → Prop) (B : D.X → Y → List Atom) (hpre : ∀ x, D.pre x = [exA (R x) (B x)]) (g : D.X → Y → C.X)
    (ha : ∀ x y, D.cond x → R x y → C.args (g x y) = D.args x) (hp : ∀ x y, C.pre (g x y) = B x y) (hc : ∀ x y, D.cond x → R x y → C.cond (g x y)) (hr : ∀ x y F, D.cond x → R x y → D.rdc x F → C.rdc (g x y) F)
    (hv : ∀ x y z, D.cond x → R x y → C.rel (g x y) z → ∃ u, D.rel x u ∧ C.val (g x y) z = D.val x u ∧ PostLe (C.post (g x y) z) (D.post x u)) : FnOk P f D := ⟨λx F I w hcx hrx hs => by
  rw [hpre] at hs
  obtain ⟨y, hy, hs⟩ := ex_open hs
  have := h.h (g x y) F I w (hc x y hcx hy) (hr x y F hcx hy hrx) (by rw [hp]; exact hs)
  rw [ha x y hcx hy] at this
  refine this.mono λe w' he => ?_
  obtain ⟨z, J, h1, h2, h3, h4, h5⟩ := he
  obtain ⟨u, k1, k2, k3⟩ := hv x y z hcx hy h1
  obtain ⟨J', l, hs'⟩ := k3 J w' F h4
  exact ⟨u, J', k1, h2.trans k2, Imm.le_trans h3 l, hs', h5⟩⟩
theorem Ent.ex {Y : Type} {R : Y → Prop} {B : Y → List Atom} {S S' : St} (keep bg : List Nat) (y : Y) (hy : R y) (hn : nodupB (keep ++ bg) = true) (eb : bg.map (gt S) = B y) (e : ofL (exA R B :: keep.map (gt S)) = S') : Ent S S' := ⟨λI w h => by
  obtain ⟨J, hle, h2⟩ := (Ent.bag keep bg hn rfl).h I w h
  have h3 := Sat.tor h2
  have h4 := h3.shut (B := exA R B) 0 λ_ _ q => ⟨y, hy, by rw [← eb]; exact q⟩
  refine ⟨J, hle, ?_⟩
  subst e
  refine h4.ren (λj => j) (λ_ _ e => e) λj => ?_
  rw [gt_upd, gt_ofL, gt_ofL]
  cases j with
  | zero => rfl
  | succ k => rfl⟩
end
section
open Go
structure LexD where
  kind : Int
  text : ByteArray
  num : Nat
  pos : Int
  line : Bool
section
variable (L : List LexD) (fin : Int) (numT : Nat → ByteArray) (wide : ByteArray → ByteArray)
end
end
section
open Go
def bt (s : ByteArray) (i : Nat) : Nat := ((s.data[i]?).map UInt8.toNat).getD 0
def btL (l : List Nat) : ByteArray := ⟨⟨l.map λn => UInt8.ofNat n⟩⟩
def nextV (s : ByteArray) (i : Nat) : Option (Nat × Nat) :=
  bif decide (i < s.size) then
    (match Lib.decodeN (s.size - i) (bt s i) (bt s (i + 1)) (bt s (i + 2)) (bt s (i + 3)) with
    | (c, n) => bif c == 65533 && n == 1 then none else some (c, n))
  else none
def wideC (c : Nat) : List Nat :=
  bif decide (c > 65535) then
    let d := c - 65536
    [(55296 + d / 1024) / 256, (55296 + d / 1024) % 256, (56320 + d % 1024) / 256, (56320 + d % 1024) % 256]
  else [c / 256, c % 256]
def wideF (s : ByteArray) : Nat → Nat → List Nat → List Nat
  | 0, _, o => o
  | f + 1, i, o => bif decide (i < s.size) then (match nextV s i with | some (c, n) => wideF s f (i + n) (o ++ wideC c) | none => []) else o
def wideV (s : ByteArray) : ByteArray := btL (wideF s (s.size + 1) 0 [])
def hpV (s : ByteArray) (i : Nat) (t : List Nat) : Bool := decide (i + t.length ≤ s.size) && (List.range t.length).all λk => bt s (i + k) == t.getD k 0
def idxV (s : ByteArray) (t : List Nat) : Nat → Nat → Option Nat
  | 0, _ => none
  | f + 1, i => bif hpV s i t then some i else bif decide (i < s.size) then idxV s t f (i + 1) else none
def runV (s : ByteArray) (p : Nat → Bool) : Nat → Nat → Nat
  | 0, i => i
  | f + 1, i => bif decide (i < s.size) && p (bt s i) then runV s p f (i + 1) else i
def run1 (s : ByteArray) (p : Nat → Bool) (i : Nat) : Nat := runV s p (s.size + 1) i
end
section
open Go
set_option maxHeartbeats 1000000
theorem retI {p q : Int} (h : p = q) : returned (.int .i64 p) = .returned (.int .i64 q) := congrArg (λq => returned (int .i64 q)) h
theorem retB {p q : Bool} (h : p = q) : returned (.bool p) = .returned (.bool q) := congrArg (λq => returned (bool q)) h
theorem or32 {c : Nat} (h : c < 256) : u8.wrap (↑(BitVec.ofInt u8.bits (↑c : Int) ||| BitVec.ofInt u8.bits 32).toNat : Int) = ((c ||| 32 : Nat) : Int) := by
  have : ∀ d : Fin 256, u8.wrap (↑(BitVec.ofInt u8.bits (↑d.val : Int) ||| BitVec.ofInt u8.bits 32).toNat : Int) = ((d.val ||| 32 : Nat) : Int) := by decide
  exact this ⟨c, h⟩
theorem byteAt_bt (s : ByteArray) (i : Int) : byteAt s i = (bt s i.toNat : Int) := by
  unfold byteAt bt
  rw [fo_gd, Array.getElem?_toList]
  cases s.data[i.toNat]? <;> rfl
theorem bt_lt (s : ByteArray) (i : Nat) : bt s i < 256 := by
  unfold bt
  cases h : s.data[i]? with
  | none => show (0 : Nat) < 256; omega
  | some b => exact b.toNat_lt
structure ChX where
  c : Nat
end
end Go.Proofs.YtjdabjmjldiodaaGreatDoor
namespace Go.Proofs
section
open Go.Shelf
def Tryz.lays119_ren : Go.Shelf.Ren := ⟨λ| 119 => 196 | n => n, λ| 21 => 21 | 4 => 4 | n => n, λ| n => n⟩
theorem Tryz.lays119 : Go.Proofs.Lays.n119 Tryz.prog Tryz.lays119_ren := {
  mixed := by kernel_rfl
  f119 := Tryz.func196.trans (congrArg some (by kernel_rfl))
  t4 := Tryz.underlying4
  a4 := Tryz.isAgg4
  z4 := Tryz.sizeOf4
  v4 := Tryz.zeroValue4
  t21 := Tryz.underlying21
  a21 := Tryz.isAgg21
  z21 := Tryz.sizeOf21
  v21 := Tryz.zeroValue21 }
theorem Tryz.utf8_ValidRune (r : Int) (w : World) :
    Calls Tryz.prog 196 #[.int .i32 r] w λe w' => e = .returned (.bool (Lib.validRune r)) ∧ w' = w := Any.utf8_ValidRune Tryz.lays119 r w
def Tryz.lays137_ren : Go.Shelf.Ren := ⟨λ| 137 => 121 | 217 => 173 | 266 => 218 | n => n, λ| 9 => 9 | 5 => 5 | 3 => 3 | n => n, λ| n => n⟩
def Tryz.lays217_ren : Go.Shelf.Ren := ⟨λ| 217 => 173 | 266 => 218 | n => n, λ| 9 => 9 | 5 => 5 | 3 => 3 | n => n, λ| n => n⟩
theorem Tryz.lays217 : Go.Proofs.Lays.n217 Tryz.prog Tryz.lays217_ren := {
  mixed := by kernel_rfl
  f217 := Tryz.func173.trans (congrArg some (by kernel_rfl))
  f266 := Tryz.func218.trans (congrArg some (by kernel_rfl))
  t3 := Tryz.underlying3
  a3 := Tryz.isAgg3
  z3 := Tryz.sizeOf3
  v3 := Tryz.zeroValue3
  t5 := Tryz.underlying5
  a5 := Tryz.isAgg5
  z5 := Tryz.sizeOf5
  v5 := Tryz.zeroValue5
  t9 := Tryz.underlying9
  a9 := Tryz.isAgg9
  z9 := Tryz.sizeOf9
  v9 := Tryz.zeroValue9 }
open Go.RowKit Go.Lib in
theorem Tryz.stringslite_IndexByte (s : ByteArray) (c : Int) (w : World) :
    Calls Tryz.prog 173 #[.string s, .int .u8 c] w λe w' => e = .returned (.int .i64 (Lib.indexByte s.data.toList c.toNat.toUInt8)) ∧ w' = w := Any.stringslite_IndexByte Tryz.lays217 s c w
def Tryz.lays219_ren : Go.Shelf.Ren := ⟨λ| 219 => 138 | 217 => 173 | 225 => 186 | 224 => 187 | 267 => 188 | 266 => 218 | 314 => 230 | n => n, λ| 9 => 9 | 3 => 3 | 4 => 4 | 5 => 5 | 46 => 135 | 146 => 255 | 51 => 191 | n => n, λ| 1 => 3 | n => n⟩
def Tryz.lays143_ren : Go.Shelf.Ren := ⟨λ| 143 => 90 | 219 => 138 | 217 => 173 | 225 => 186 | 224 => 187 | 267 => 188 | 266 => 218 | 314 => 230 | n => n, λ| 9 => 9 | 3 => 3 | 4 => 4 | 5 => 5 | 46 => 135 | 146 => 255 | 51 => 191 | n => n, λ| 1 => 3 | n => n⟩
theorem Tryz.lays143 : Go.Proofs.Lays.n143 Tryz.prog Tryz.lays143_ren := {
  mixed := by kernel_rfl
  f143 := Tryz.func90.trans (congrArg some (by kernel_rfl))
  f217 := Tryz.func173.trans (congrArg some (by kernel_rfl))
  f219 := Tryz.func138.trans (congrArg some (by kernel_rfl))
  f224 := Tryz.func187.trans (congrArg some (by kernel_rfl))
  f225 := Tryz.func186.trans (congrArg some (by kernel_rfl))
  f266 := Tryz.func218.trans (congrArg some (by kernel_rfl))
  f267 := Tryz.func188.trans (congrArg some (by kernel_rfl))
  f314 := Tryz.func230.trans (congrArg some (by kernel_rfl))
  t3 := Tryz.underlying3
  a3 := Tryz.isAgg3
  z3 := Tryz.sizeOf3
  v3 := Tryz.zeroValue3
  t4 := Tryz.underlying4
  a4 := Tryz.isAgg4
  z4 := Tryz.sizeOf4
  v4 := Tryz.zeroValue4
  t5 := Tryz.underlying5
  a5 := Tryz.isAgg5
  z5 := Tryz.sizeOf5
  v5 := Tryz.zeroValue5
  t9 := Tryz.underlying9
  a9 := Tryz.isAgg9
  z9 := Tryz.sizeOf9
  v9 := Tryz.zeroValue9
  t46 := Tryz.underlying135
  a46 := Tryz.isAgg135
  z46 := Tryz.sizeOf135
  v46 := Tryz.zeroValue135
  t51 := Tryz.underlying191
  a51 := Tryz.isAgg191
  z51 := Tryz.sizeOf191
  v51 := Tryz.zeroValue191
  t146 := Tryz.underlying255
  a146 := Tryz.isAgg255
  z146 := Tryz.sizeOf255
  v146 := Tryz.zeroValue255
  g1 := by kernel_rfl }
open Go.RowKit Go.Lib in
theorem Tryz.strings_Index (s sub : ByteArray) (m : Int) (w : World) (hs : s.size < 4294967281) (hm : w.cell? ⟨3, 0, none⟩ = some (.int .i64 m)) :
    Calls Tryz.prog 90 #[.string s, .string sub] w λe w' => e = .returned (.int .i64 (Lib.index s.data.toList sub.data.toList)) ∧ w' = w := Any.strings_Index Tryz.lays143 s sub m w hs hm
def Tryz.lays144_ren : Go.Shelf.Ren := ⟨λ| 144 => 40 | 143 => 90 | 219 => 138 | 217 => 173 | 225 => 186 | 224 => 187 | 267 => 188 | 266 => 218 | 314 => 230 | n => n, λ| 9 => 9 | 4 => 4 | 3 => 3 | 5 => 5 | 46 => 135 | 146 => 255 | 51 => 191 | n => n, λ| 1 => 3 | n => n⟩
theorem Tryz.lays144 : Go.Proofs.Lays.n144 Tryz.prog Tryz.lays144_ren := {
  mixed := by kernel_rfl
  f143 := Tryz.func90.trans (congrArg some (by kernel_rfl))
  f144 := Tryz.func40.trans (congrArg some (by kernel_rfl))
  f217 := Tryz.func173.trans (congrArg some (by kernel_rfl))
  f219 := Tryz.func138.trans (congrArg some (by kernel_rfl))
  f224 := Tryz.func187.trans (congrArg some (by kernel_rfl))
  f225 := Tryz.func186.trans (congrArg some (by kernel_rfl))
  f266 := Tryz.func218.trans (congrArg some (by kernel_rfl))
  f267 := Tryz.func188.trans (congrArg some (by kernel_rfl))
  f314 := Tryz.func230.trans (congrArg some (by kernel_rfl))
  t3 := Tryz.underlying3
  a3 := Tryz.isAgg3
  z3 := Tryz.sizeOf3
  v3 := Tryz.zeroValue3
  t4 := Tryz.underlying4
  a4 := Tryz.isAgg4
  z4 := Tryz.sizeOf4
  v4 := Tryz.zeroValue4
  t5 := Tryz.underlying5
  a5 := Tryz.isAgg5
  z5 := Tryz.sizeOf5
  v5 := Tryz.zeroValue5
  t9 := Tryz.underlying9
  a9 := Tryz.isAgg9
  z9 := Tryz.sizeOf9
  v9 := Tryz.zeroValue9
  t46 := Tryz.underlying135
  a46 := Tryz.isAgg135
  z46 := Tryz.sizeOf135
  v46 := Tryz.zeroValue135
  t51 := Tryz.underlying191
  a51 := Tryz.isAgg191
  z51 := Tryz.sizeOf191
  v51 := Tryz.zeroValue191
  t146 := Tryz.underlying255
  a146 := Tryz.isAgg255
  z146 := Tryz.sizeOf255
  v146 := Tryz.zeroValue255
  g1 := by kernel_rfl }
open Go.RowKit Go.Lib in
theorem Tryz.strings_Contains (s sub : ByteArray) (m : Int) (w : World) (hs : s.size < 4294967281) (hm : w.cell? ⟨3, 0, none⟩ = some (.int .i64 m)) :
    Calls Tryz.prog 40 #[.string s, .string sub] w λe w' => e = .returned (.bool (Lib.contains s.data.toList sub.data.toList)) ∧ w' = w := Any.strings_Contains Tryz.lays144 s sub m w hs hm
def Tryz.lays197_ren : Go.Shelf.Ren := ⟨λ| 197 => 125 | 260 => 178 | n => n, λ| 9 => 9 | 21 => 21 | 3 => 3 | 4 => 4 | 5 => 5 | 105 => 184 | 119 => 153 | 0 => 0 | 46 => 135 | 139 => 156 | 138 => 155 | n => n, λ| 3 => 0 | 4 => 1 | n => n⟩
theorem Tryz.lays197 : Go.Proofs.Lays.n197 Tryz.prog Tryz.lays197_ren := {
  mixed := by kernel_rfl
  f197 := Tryz.func125.trans (congrArg some (by kernel_rfl))
  f260 := Tryz.func178.trans (congrArg some (by kernel_rfl))
  t0 := Tryz.underlying0
  a0 := Tryz.isAgg0
  z0 := Tryz.sizeOf0
  v0 := Tryz.zeroValue0
  t3 := Tryz.underlying3
  a3 := Tryz.isAgg3
  z3 := Tryz.sizeOf3
  v3 := Tryz.zeroValue3
  t4 := Tryz.underlying4
  a4 := Tryz.isAgg4
  z4 := Tryz.sizeOf4
  v4 := Tryz.zeroValue4
  t5 := Tryz.underlying5
  a5 := Tryz.isAgg5
  z5 := Tryz.sizeOf5
  v5 := Tryz.zeroValue5
  t9 := Tryz.underlying9
  a9 := Tryz.isAgg9
  z9 := Tryz.sizeOf9
  v9 := Tryz.zeroValue9
  t21 := Tryz.underlying21
  a21 := Tryz.isAgg21
  z21 := Tryz.sizeOf21
  v21 := Tryz.zeroValue21
  t46 := Tryz.underlying135
  a46 := Tryz.isAgg135
  z46 := Tryz.sizeOf135
  v46 := Tryz.zeroValue135
  t105 := Tryz.underlying184
  a105 := Tryz.isAgg184
  z105 := Tryz.sizeOf184
  v105 := Tryz.zeroValue184
  t119 := Tryz.underlying153
  a119 := Tryz.isAgg153
  z119 := Tryz.sizeOf153
  t138 := Tryz.underlying155
  a138 := Tryz.isAgg155
  z138 := Tryz.sizeOf155
  v138 := Tryz.zeroValue155
  t139 := Tryz.underlying156
  a139 := Tryz.isAgg156
  z139 := Tryz.sizeOf156
  v139 := Tryz.zeroValue156
  g3 := by kernel_rfl
  g4 := by kernel_rfl }
open Go.RowKit Go.Lib in
theorem Tryz.utf8_DecodeRuneInString (s : ByteArray) (w : World) (hT : Lib.Utf8Tabs 0 1 w) :
    Calls Tryz.prog 125 #[.string s] w λe w' => e = .returned (.tuple #[.int .i32 (Lib.decodeGo s).1, .int .i64 (Lib.decodeGo s).2]) ∧ Below w.heap.size w w' := Any.utf8_DecodeRuneInString Tryz.lays197 s w hT
end
end Go.Proofs
namespace Go.Proofs.YtjdabjmjldiodaaGreatDoor
set_option maxRecDepth 100000
open Go.Value (int slice string bool pointer agg tuple func float iface nilIface)
open Go.IntKind (i64 u8 u64 i32 u32 u16 i8 i16)
open Go.FloatKind (f64)
open Go.Ending (returned panicked)
section
def fo_aR (S : List (Nat × Atom)) (l : List Nat) : Atom := .pred (rest S l)
def fo_pn (a b : Int) : Ending := .panicked [{ v := .iface 51 (.agg ⟨[.int .i64 a, .int .i64 b]⟩), recovered := false }]
def fo_sm (b i : Nat) : Prop := Same ⟨b, i, none⟩ b
def fo_rI (z : Int) : Prop := (-9223372036854775808 : Int) ≤ z ∧ z ≤ 9223372036854775807
def fo_s5 (b : Nat) (p : Prop) : Prop := Same ⟨b, 0, none⟩ b ∧ Same ⟨b, 1, none⟩ b ∧ Same ⟨b, 2, none⟩ b ∧ Same ⟨b, 3, none⟩ b ∧ Same ⟨b, 4, none⟩ b ∧ p
abbrev fo_vi (z : Int) : Value := .int .i64 z
abbrev fo_vc (z : Int) : Value := .int .u8 z
abbrev fo_vu (z : Int) : Value := .int .u64 z
abbrev fo_vj (z : Int) : Value := .int .i32 z
abbrev fo_vs (s : ByteArray) : Value := .string s
abbrev fo_vb (b : Bool) : Value := .bool b
abbrev fo_vp (a : Option Addr) : Value := .pointer a
abbrev fo_vl := @Value.slice
abbrev fo_vf := @Value.iface
abbrev fo_cl := @Atom.cells
abbrev fo_ob := @Atom.obj
abbrev fo_pr := @Atom.pred
abbrev fo_em := Atom.emp
def fo_bu (z : Int) := BitVec.ofInt IntKind.u64.bits z
def fo_bi (z : Int) := BitVec.ofInt IntKind.i64.bits z
def fo_wu (z : Int) : Int := IntKind.u64.wrap z
def fo_wi (z : Int) : Int := IntKind.i64.wrap z
def fo_wj (z : Int) : Int := IntKind.i32.wrap z
def fo_Bd (p : Prop) [Decidable p] (a b : Prop) : Prop := Br (decide p) a b
abbrev fo_rt (v : Value) : Ending := .returned v
def fo_vA {X : Type} (p : X → (Nat → Value) → Prop) : Prop := ∀ a j, p a j
section
variable {X : Type} {A : Prop} {aa : List Value} {pp : List Atom} {fa : X → List Value} {fp : X → List Atom} {c r K : X → Prop}
theorem fo_c2 (ok : A) (z : X) (hc : c z) (hr : r z) (k : K z) (ha : aa = fa z := by exact rfl) (hp : pp = fp z := by exact rfl) : A ∧ true = true ∧ ∃ z, aa = fa z ∧ pp = fp z ∧ c z ∧ r z ∧ K z := ⟨ok, rfl, z, ha, hp, hc, hr, k⟩
theorem fo_c1 (ok : A) (z : X) (hc : c z) (k : K z) (ha : aa = fa z := by exact rfl) (hp : pp = fp z := by exact rfl) (hr : r z := by exact trivial) : A ∧ true = true ∧ ∃ z, aa = fa z ∧ pp = fp z ∧ c z ∧ r z ∧ K z := ⟨ok, rfl, z, ha, hp, hc, hr, k⟩
theorem fo_c0 (ok : A) (z : X) (k : K z) (ha : aa = fa z := by exact rfl) (hp : pp = fp z := by exact rfl) (hc : c z := by exact trivial) (hr : r z := by exact trivial) : A ∧ true = true ∧ ∃ z, aa = fa z ∧ pp = fp z ∧ c z ∧ r z ∧ K z := ⟨ok, rfl, z, ha, hp, hc, hr, k⟩
end
def fo_C0 (f : FuncId) (C : Con) (aa : List Value) (k : C.X → C.Y → Prop) := FnOk Tryz.prog f C ∧ true = true ∧ ∃ z, aa = C.args z ∧ [] = C.pre z ∧ True ∧ True ∧ ∀ y, True → k z y
def fo_C1 (f : FuncId) (C : Con) (c : C.X → Prop) (aa : List Value) (k : C.X → C.Y → Prop) := FnOk Tryz.prog f C ∧ true = true ∧ ∃ z, aa = C.args z ∧ [] = C.pre z ∧ c z ∧ True ∧ ∀ y, True → k z y
def fo_C2 (f : FuncId) (C : Con) (c : C.X → Prop) (r : C.X → Atom → Prop) (aa : List Value) (R : Atom) (k : C.X → C.Y → Prop) := FnOk Tryz.prog f C ∧ true = true ∧ ∃ z, aa = C.args z ∧ [] = C.pre z ∧ c z ∧ r z R ∧ ∀ y, True → k z y
def fo_C3 (f : FuncId) (C : Con) (c : C.X → Prop) (aa : List Value) (pp : List Atom) (k : C.X → C.Y → Prop) := FnOk Tryz.prog f C ∧ true = true ∧ ∃ z, aa = C.args z ∧ pp = C.pre z ∧ c z ∧ True ∧ ∀ y, True → k z y
def fo_C4 (f : FuncId) (C : Con) (c : C.X → Prop) (r : C.X → Atom → Prop) (l : C.X → C.Y → Prop) (aa : List Value) (pp : List Atom) (R : Atom) (k : C.X → C.Y → Prop) := FnOk Tryz.prog f C ∧ true = true ∧ ∃ z, aa = C.args z ∧ pp = C.pre z ∧ c z ∧ r z R ∧ ∀ y, l z y → k z y
def fo_C5 (f : FuncId) (C : Con) (c : C.X → Prop) (l : C.X → C.Y → Prop) (aa : List Value) (k : C.X → C.Y → Prop) := FnOk Tryz.prog f C ∧ true = true ∧ ∃ z, aa = C.args z ∧ [] = C.pre z ∧ c z ∧ True ∧ ∀ y, l z y → k z y
def fo_C6 (f : FuncId) (C : Con) (c : C.X → Prop) (l : C.X → C.Y → Prop) (aa : List Value) (pp : List Atom) (k : C.X → C.Y → Prop) := FnOk Tryz.prog f C ∧ true = true ∧ ∃ z, aa = C.args z ∧ pp = C.pre z ∧ c z ∧ True ∧ ∀ y, l z y → k z y
def fo_O0 (o : Oper) (C : Con) (aa : List Value) (k : C.X → C.Y → Prop) := OpOk Tryz.prog o C ∧ true = true ∧ ∃ z, aa = C.args z ∧ [] = C.pre z ∧ True ∧ True ∧ ∀ y, True → k z y
def fo_O1 (o : Oper) (C : Con) (c : C.X → Prop) (aa : List Value) (k : C.X → C.Y → Prop) := OpOk Tryz.prog o C ∧ true = true ∧ ∃ z, aa = C.args z ∧ [] = C.pre z ∧ c z ∧ True ∧ ∀ y, True → k z y
def fo_O2 (o : Oper) (C : Con) (c : C.X → Prop) (r : C.X → Atom → Prop) (aa : List Value) (R : Atom) (k : C.X → C.Y → Prop) := OpOk Tryz.prog o C ∧ true = true ∧ ∃ z, aa = C.args z ∧ [] = C.pre z ∧ c z ∧ r z R ∧ ∀ y, True → k z y
def fo_O3 (o : Oper) (C : Con) (c : C.X → Prop) (aa : List Value) (pp : List Atom) (k : C.X → C.Y → Prop) := OpOk Tryz.prog o C ∧ true = true ∧ ∃ z, aa = C.args z ∧ pp = C.pre z ∧ c z ∧ True ∧ ∀ y, True → k z y
def fo_O4 (o : Oper) (C : Con) (c : C.X → Prop) (r : C.X → Atom → Prop) (l : C.X → C.Y → Prop) (aa : List Value) (pp : List Atom) (R : Atom) (k : C.X → C.Y → Prop) := OpOk Tryz.prog o C ∧ true = true ∧ ∃ z, aa = C.args z ∧ pp = C.pre z ∧ c z ∧ r z R ∧ ∀ y, l z y → k z y
def fo_O5 (o : Oper) (C : Con) (c : C.X → Prop) (l : C.X → C.Y → Prop) (aa : List Value) (k : C.X → C.Y → Prop) := OpOk Tryz.prog o C ∧ true = true ∧ ∃ z, aa = C.args z ∧ [] = C.pre z ∧ c z ∧ True ∧ ∀ y, l z y → k z y
def fo_O6 (o : Oper) (C : Con) (c : C.X → Prop) (l : C.X → C.Y → Prop) (aa : List Value) (pp : List Atom) (k : C.X → C.Y → Prop) := OpOk Tryz.prog o C ∧ true = true ∧ ∃ z, aa = C.args z ∧ pp = C.pre z ∧ c z ∧ True ∧ ∀ y, l z y → k z y
def fo_ha (C : Con) : OH := .c C [] []
def fo_hb (C : Con) : OH := .c C [0] [0]
def fo_hq (n : Nat) : OH := .q [.aq n]
def fo_hz : OH := .q []
def fo_hi : OH := .q [.ex 0 (.int .i64)]
def fo_ho (C : Con) : OH := .o C [0] [0]
theorem fo_hm : Tryz.prog.follows .mixedOrders = true := by kernel_rfl
theorem fo_le {a b : Nat} (h : Nat.ble a b = true) : a ≤ b := Nat.le_of_ble_eq_true h
def fo_i {X : Type} : X → Atom → Nat → Option Inv := λ_ _ _ => none
def fo_o : Nat → List Nat := λ_ => []
abbrev fo_k (f : FuncId) (C : Con) : Prop := FnOk Tryz.prog f C
theorem fo {f : FuncId} {fn : Func} {c : Code} {C : Con} (N : Nat) (hf : Tryz.prog.funcs[f]? = some fn) (o : C.X → Atom → List (Nat × Nat × OH)) (hs : List (Nat × Nat × OH)) (iv ct : C.X → Atom → Nat → Option Inv) (od : Nat → List Nat) (rh : List LH) {v : C.X → Atom → Prop} (h : ∀ x F, C.cond x → C.rdc x F → v x F)
    (hb : fn.body = some c := by exact rfl) (hN : fn.ntmps = N := by kernel_rfl) (hl : ∀ x, (C.args x).length ≤ N := by intro _; exact Nat.le_of_ble_eq_true rfl) (he : ∀ x F, v x F = Body Tryz.prog N fn ⟨hk (o x F ++ hs), iv x F, ct x F, od⟩ rh c (ent (C.args x)) (ofL (C.pre x ++ [F])) (Done C x F) := by intro _ _; kernel_rfl) : FnOk Tryz.prog f C :=
  fnOk fo_hm hf hb hN hl (λx F => ⟨hk (o x F ++ hs), iv x F, ct x F, od⟩) rh λx F h1 h2 => Eq.mp (he x F) (h x F h1 h2)

open Go
set_option maxHeartbeats 1000000
theorem Sat.below {I : Imm} {S : St} {w w' : World} (h : Sat I S w) (hb : RowKit.Below w.heap.size w w') : Sat I S w' := by
  obtain ⟨f, h1, h2, h3⟩ := h.own
  have he : ∀ b, b < w.heap.size → hp w b = hp w' b := λb hlt => (hb.block b hlt).symm
  refine ⟨⟨f, λj => Atom.local (λb hfb => he b (h3 _ _ hfb).2) (h1 j), h2, λj b hfb => ⟨(h3 _ _ hfb).1, Nat.lt_of_lt_of_le (h3 _ _ hfb).2 hb.size⟩⟩, λb o hI => ?_⟩
  have hw := h.imm b o hI
  have hlt : b < w.heap.size := by
    rcases Nat.lt_or_ge b w.heap.size with h' | h'
    · exact h'
    · have : hp w b = none := Array.getElem?_eq_none h'
      rw [this] at hw; cases hw
  rw [← he b hlt]; exact hw
theorem FnOk.ofBelow {P : Program} {f : FuncId} (C : Con) (hpre : ∀ x, C.pre x = []) (y : ∀ x, C.cond x → C.Y) (hrel : ∀ x h, C.rel x (y x h)) (hpost : ∀ x h, C.post x (y x h) = [])
    (h : ∀ (x : C.X) (F : Atom) (I : Imm) (w : World) (hc : C.cond x), C.rdc x F → Sat I (ofL [F]) w → Calls P f ⟨C.args x⟩ w λe w' => e = C.val x (y x hc) ∧ RowKit.Below w.heap.size w w') : FnOk P f C := by
  refine ⟨λx F I w hc hr hs => ?_⟩
  rw [hpre] at hs
  refine (h x F I w hc hr hs).mono ?_
  rintro e w' ⟨he, hb⟩
  exact ⟨y x hc, I, hrel x hc, he, Imm.le_refl I, by rw [hpost]; exact hs.below hb, hb.os, hb.output⟩
theorem Sat.lookF {I : Imm} {F : Atom} {w : World} (h : Sat I (ofL [F]) w) {a : Addr} {v : Value} (hl : Look F a v) : w.cell? a = some v := Sat.look (j := 0) h hl
structure Utf (F : Atom) : Prop where
  first : ∀ c, c < 256 → Look F ⟨0, c, none⟩ (.int .u8 (Lib.firstT c))
  accLo : ∀ i, i < 16 → Look F ⟨1, 2 * i, none⟩ (.int .u8 (Lib.accLo i))
  accHi : ∀ i, i < 16 → Look F ⟨1, 2 * i + 1, none⟩ (.int .u8 (Lib.accHi i))
theorem Utf.sub {A B : Atom} (h : Utf A) (hs : Sub A B) : Utf B := ⟨λc hc => (h.first c hc).sub hs, λi hi => (h.accLo i hi).sub hs, λi hi => (h.accHi i hi).sub hs⟩
theorem Utf.rest {S : St} {touch : List Nat} {j : Nat} (hj : j ∉ touch) (h : Utf (gt S j)) : Utf (.pred (rest S touch)) := ⟨λc hc => (h.first c hc).rest hj, λi hi => (h.accLo i hi).rest hj, λi hi => (h.accHi i hi).rest hj⟩
structure BaX where
  s : ByteArray
abbrev decC : Con where
  X := BaX
  Y := Unit
  args x := [.string x.s]
  pre _ := []
  cond _ := True
  rdc _ F := Utf F
  rel _ _ := True
  val x _ := .returned (.tuple #[.int .i32 (Lib.decodeGo x.s).1, .int .i64 (Lib.decodeGo x.s).2])
  post _ _ := []
  rmono _ _ _ hs h := h.sub hs
theorem dec_ok : FnOk Tryz.prog 125 decC := FnOk.ofBelow decC (λ_ => rfl) (λ_ _ => ()) (λ_ _ => fo_tv) (λ_ _ => rfl) λx F I w _ hr hs =>
  Go.Proofs.Tryz.utf8_DecodeRuneInString x.s w ⟨λc hc => hs.lookF (hr.first c hc), λi hi => ⟨hs.lookF (hr.accLo i hi), hs.lookF (hr.accHi i hi)⟩⟩
theorem get_bt (s : ByteArray) (k : Nat) : (s.get! k).toNat = bt s k := by
  obtain ⟨d⟩ := s
  show (d[k]!).toNat = ((d[k]?).map UInt8.toNat).getD 0
  rw [getElem!_def]
  cases d[k]? <;> rfl
theorem bt_ext (s : ByteArray) (i k : Nat) : bt (s.extract i s.size) k = bt s (i + k) := by
  unfold bt
  by_cases h : i + k < s.size
  · rw [show (s.extract i s.size).data = s.data.extract i s.size from ByteArray.data_extract, Array.getElem?_extract]
    have : k < min s.size s.data.size - i := by
      have : s.data.size = s.size := rfl
      omega
    rw [if_pos this]
  · rw [Array.getElem?_eq_none (show s.data.size ≤ i + k by have : s.data.size = s.size := rfl; omega)]
    rw [Array.getElem?_eq_none (show (s.extract i s.size).data.size ≤ k by have : (s.extract i s.size).data.size = (s.extract i s.size).size := rfl; rw [this, fo_se]; omega)]
theorem decodeN_le (n b0 b1 b2 b3 : Nat) (h0 : b0 < 256) : (Lib.decodeN n b0 b1 b2 b3).1 ≤ 1114111 := by
  unfold Lib.decodeN
  repeat' split
  all_goals (simp only; omega)
theorem dec_le (s : ByteArray) : (Lib.decodeGo s).1 ≤ 1114111 := by
  unfold Lib.decodeGo
  split
  · show (65533 : Nat) ≤ 1114111; omega
  · rw [Lib.decode_at]; exact decodeN_le _ _ _ _ _ (UInt8.toNat_lt _)
theorem nextV_dec {s : ByteArray} {i : Nat} (h : i < s.size) : nextV s i = bif (Lib.decodeGo (s.extract i s.size)).1 == 65533 && (Lib.decodeGo (s.extract i s.size)).2 == 1 then none else some ((Lib.decodeGo (s.extract i s.size)).1, (Lib.decodeGo (s.extract i s.size)).2) := by
  have hsz : (s.extract i s.size).size = s.size - i := by rw [fo_se]; omega
  have he : Lib.decodeGo (s.extract i s.size) = Lib.decodeN (s.size - i) (bt s i) (bt s (i + 1)) (bt s (i + 2)) (bt s (i + 3)) := by
    unfold Lib.decodeGo
    rw [if_neg (by omega), Lib.decode_at, hsz]
    simp only [get_bt, bt_ext, Nat.sub_zero, Nat.add_zero, fo_za]
  unfold nextV
  rw [fo_dt h, he] <;> rfl
theorem decodeN_n (n b0 b1 b2 b3 : Nat) (h : 1 ≤ n) : (Lib.decodeN n b0 b1 b2 b3).2 ≤ n ∧ 1 ≤ (Lib.decodeN n b0 b1 b2 b3).2 := by
  unfold Lib.decodeN
  repeat' split
  all_goals (simp only; omega)
theorem next_facts {s : ByteArray} {i c n : Nat} (h : nextV s i = some (c, n)) : i + n ≤ s.size ∧ 1 ≤ n ∧ c ≤ 1114111 := by
  unfold nextV at h
  by_cases hi : i < s.size
  · rw [fo_dt hi, fo_ct] at h
    have h1 := decodeN_n (s.size - i) (bt s i) (bt s (i + 1)) (bt s (i + 2)) (bt s (i + 3)) (by omega)
    have h2 := decodeN_le (s.size - i) (bt s i) (bt s (i + 1)) (bt s (i + 2)) (bt s (i + 3)) (bt_lt s i)
    revert h h1 h2
    generalize Lib.decodeN (s.size - i) (bt s i) (bt s (i + 1)) (bt s (i + 2)) (bt s (i + 3)) = d
    obtain ⟨c', n'⟩ := d
    intro h h1 h2
    have h' : (bif c' == 65533 && n' == 1 then none else some (c', n')) = some (c, n) := h
    cases hb : (c' == 65533 && n' == 1) with
    | true => rw [hb] at h'; cases h'
    | false => rw [hb] at h'; cases h'; exact ⟨by omega, h1.2, h2⟩
  · rw [fo_df hi] at h; cases h
structure NxX where
  s : ByteArray
  i : Int
def sumS (A B : Type) : Split (A ⊕ B) := ⟨A, B, Sum.inl, Sum.inr, λy => match y with | .inl a => .inl ⟨a, rfl⟩ | .inr b => .inr ⟨b, rfl⟩⟩
abbrev nextC : Con where
  X := NxX
  Y := (Nat × Nat) ⊕ Unit
  args x := [.string x.s, .int .i64 x.i]
  pre _ := []
  cond x := 0 ≤ x.i
  rdc _ F := Utf F
  rel x y := match y with
    | .inl a => nextV x.s x.i.toNat = some (a.1, a.2)
    | .inr _ => nextV x.s x.i.toNat = none
  val _ y := match y with
    | .inl a => .returned (.tuple #[.int .i64 a.1, .int .i64 a.2, .bool true])
    | .inr _ => .returned (.tuple #[.int .i64 0, .int .i64 0, .bool false])
  post _ _ := []
  rmono _ _ _ hs h := h.sub hs
  sum := some (sumS (Nat × Nat) Unit)
def q174 (x : NxX) (F : Atom) := Done nextC x F (fo_rt (tuple ⟨[fo_vi 0, fo_vi 0, fo_vb false]⟩)) [(0, F)]
abbrev q114 (F : Atom) := fo_aR [(0, F)] []
def q165 (b : BaX) (x : NxX) (F : Atom) := fo_rI (↑(Lib.decodeGo b.s).fst : Int) ∧ Done nextC x F (fo_rt (tuple ⟨[fo_vi (↑(Lib.decodeGo b.s).fst : Int), fo_vi (↑(Lib.decodeGo b.s).snd : Int), fo_vb true]⟩)) [(0, F)]
theorem next_vc (x : NxX) (F : Atom) (hc : nextC.cond x) (hr : nextC.rdc x F) :
 fo_Bd (x.i < 0) (q174 x F) (fo_Bd (x.i ≥ x.s.size) (q174 x F) ((0 ≤ x.i ∧ x.i ≤ x.s.size ∧ (x.s.size : Int) ≤ (x.s.size : Int)) ∧ fo_C2 125 decC (λ_ => True) (λ_ => Utf) [fo_vs (x.s.extract x.i.toNat (x.s.size : Int).toNat)] (q114 F) (λb a => Br ((↑(Lib.decodeGo b.s).fst : Int) == 65533) (Br ((↑(Lib.decodeGo b.s).snd : Int) == 1) (q174 x F) (q165 b x F)) (q165 b x F)))) := by
  delta q174 q114 q165 fo_aR fo_rI fo_C2 fo_vi fo_vs fo_vb fo_Bd fo_rt
  have h0 : 0 ≤ x.i := hc
  have no : nextV x.s x.i.toNat = none → Done nextC x F (returned (tuple #[.int .i64 0, .int .i64 0, .bool false])) [(0, F)] := λe => ⟨.inr (), e, rfl, Ent.pick [0] rfl rfl⟩
  refine br_decide (λh => absurd h (by omega)) (λ_ => br_decide (λh => no ?_) (λh => ⟨⟨h0, by omega, fo_ir _⟩, dec_ok, rfl, ⟨x.s.extract x.i.toNat x.s.size⟩, rfl, rfl, fo_tv, Utf.rest (j := 0) (by simp) hr, λ_ _ => ?_⟩))
  · unfold nextV
    rw [fo_df (show ¬ x.i.toNat < x.s.size by omega)] <;> rfl
  dsimp only
  have hv := nextV_dec (s := x.s) (i := x.i.toNat) (by omega)
  have hb := dec_le (x.s.extract x.i.toNat x.s.size)
  revert hv hb
  generalize Lib.decodeGo (x.s.extract x.i.toNat x.s.size) = d
  obtain ⟨c, n⟩ := d
  intro hv hb
  have some' : nextV x.s x.i.toNat = some (c, n) → Done nextC x F (returned (tuple #[.int .i64 c, .int .i64 n, .bool true])) [(0, F)] := λe => ⟨.inl (c, n), e, rfl, Ent.pick [0] rfl rfl⟩
  refine br_intro (λh1 => br_intro (λh2 => no ?_) (λh2 => ⟨⟨by omega, by omega⟩, some' ?_⟩)) (λh1 => ⟨⟨by omega, by omega⟩, some' ?_⟩)
  · have e1 : (c == 65533) = true := by have h : (c : Int) = 65533 := (by simpa using h1); exact beq_iff_eq.2 (by omega)
    have e2 : (n == 1) = true := by have h : (n : Int) = 1 := (by simpa using h2); exact beq_iff_eq.2 (by omega)
    rw [hv]
    simp only [e1, e2]
    rfl
  · have e2 : (n == 1) = false := by have h : ¬ (n : Int) = 1 := (by simpa using h2); exact fo_bf.2 (by omega)
    rw [hv]
    simp only [e2, fo_baf]; rfl
  · have e1 : (c == 65533) = false := by have h : ¬ (c : Int) = 65533 := (by simpa using h1); exact fo_bf.2 (by omega)
    rw [hv]
    simp only [e1, fo_fba]; rfl
theorem next_ok : FnOk Tryz.prog 79 nextC := fo 33 Tryz.func79 (λ_ _ => [(3, 3, .c decC [] [])]) [] fo_i fo_i fo_o [] next_vc
end
section
open Go
set_option maxHeartbeats 1000000
def u8s (l : List Nat) : List Value := l.map λ(n : Nat) => int .u8 (n : Int)
theorem u8s_len (l : List Nat) : (u8s l).length = l.length := by simp [u8s]
theorem u8s_app (a b : List Nat) : u8s (a ++ b) = u8s a ++ u8s b := by simp [u8s]
theorem u8s_one {l : List Nat} {u : Value} (h : u ∈ u8s l) : u.oneCell' = true := by
  obtain ⟨n, _, rfl⟩ := List.mem_map.1 h; rfl
theorem shr8 (u : Nat) : (↑u : Int).fdiv (2 ^ min (Int.toNat 8) i64.bits) = ((u / 256 : Nat) : Int) := by
  show (↑u : Int).fdiv (256 : Int) = _
  rw [Int.fdiv_eq_ediv_of_nonneg _ (by omega)] <;> rfl
theorem wrap8 (u : Nat) : u8.wrap (↑u : Int) = ((u % 256 : Nat) : Int) := by
  simp [IntKind.wrap, IntKind.bits, IntKind.signed]
structure UnX where
  r : Row
  l : List Nat
  u : Nat
abbrev unitC : Con where
  X := UnX
  Y := Row
  args x := [.slice x.r.a x.r.n x.r.cap, .int .i64 x.u]
  pre x := [x.r.A]
  cond x := IsRow 5 1 (u8s x.l) x.r ∧ x.u < 65536 ∧ x.r.n ≤ 4194304
  rdc _ _ := True
  rel x y := IsRow 5 1 (u8s (x.l ++ [x.u / 256, x.u % 256])) y ∧ y.n = x.r.n + 2
  val _ y := .returned (.slice y.a y.n y.cap)
  post _ y := [y.A]
def q293 (w0 : ApX) := ∀(w1 : Value), w1 ∈ w0.ys → w1.oneCell' = true
def q261 (w0 : ApX) := w0.a = none → w0.m = 0 ∧ w0.c = 0
abbrev q135 : ApX → Prop := λw0 => IsRow 5 1 w0.cs w0.r ∧ w0.ys.length = w0.m * 1 ∧ q293 w0 ∧ (w0.r.n + w0.m) * 1 ≤ 140737488355328 ∧ w0.r.n + w0.m ≤ 9223372036854775807 ∧ q261 w0
abbrev q149 : ApX → Atom → Prop := λw0 w2 => (∀(w1 : Addr), w0.a = some w1 → Seg w2 w1 w0.ys)
def T0 (oo : Oper) := fo_O4 oo (apC (5 : TypeId) 1 1) q135 q149 (λw0 w1 => IsRow 5 1 (w0.cs ++ w0.ys) w1 ∧ w1.n = w0.r.n + w0.m ∧ (w0.m = 0 → w1 = w0.r))
abbrev q17 (c : Nat) : Option Addr := some ⟨c, 0, none⟩
abbrev q228 (x : UnX) : List Value := [fo_vc ((x.u : Int).fdiv ((2 : Int) ^ min (Int.toNat (8 : Int)) i64.bits)), fo_vc (u8.wrap (x.u : Int))]
abbrev q137 (a : Row) := fo_rt (fo_vl a.a a.n a.cap)
theorem unit_vc (x : UnX) (F : Atom) (hc : unitC.cond x) (hr : unitC.rdc x F) :
 (0 ≤ (x.u : Int).fdiv ((2 : Int) ^ min (Int.toNat (8 : Int)) i64.bits) ∧ (x.u : Int).fdiv ((2 : Int) ^ min (Int.toNat (8 : Int)) i64.bits) ≤ 255) ∧ ∀(c : Nat), T0 (opIn Tryz.f80 1 7) [fo_vl x.r.a x.r.n x.r.cap, fo_vl (q17 c) 2 2] [x.r.A] (fo_aR [(0, x.r.A), (1, F), (2060, fo_cl c (q228 x) 5)] [0]) (λb a => Done unitC x F (q137 a) [(0, a.A), (1, F), (2060, fo_cl c (q228 x) 5)]) := by
  delta q293 q261 q135 q149 T0 q17 q228 q137 fo_aR fo_O4 fo_vc fo_vl fo_cl fo_rt
  obtain ⟨hrow, hu, hn⟩ := hc
  have e1 : (↑x.u : Int).fdiv (2 ^ min (Int.toNat 8) i64.bits) = ((x.u / 256 : Nat) : Int) := shr8 x.u
  have e2 : u8.wrap (↑x.u : Int) = ((x.u % 256 : Nat) : Int) := wrap8 x.u
  rw [e1, e2]
  refine ⟨⟨by omega, by omega⟩, λb => ⟨append_ok (P := Tryz.prog) 1 1 rfl rfl rfl rfl rfl rfl rfl (by decide), rfl, ⟨x.r, u8s x.l, some ⟨b, 0, none⟩, 2, 2, u8s [x.u / 256, x.u % 256]⟩, rfl, rfl, ⟨hrow, rfl, λ_ h => u8s_one h, by dsimp only; omega, by dsimp only; omega, by simp⟩, ?_, ?_⟩⟩
  · intro a ha
    cases ha
    exact Seg.rest (j := 2060) (by simp) (Seg.cells (λj u hj => by rw [fo_za]; exact hj))
  · rintro y ⟨h1, h2, -⟩
    exact ⟨y, ⟨by rw [u8s_app]; exact h1, h2⟩, rfl, Ent.pick [0, 1] rfl rfl⟩
theorem unit_ok : fo_k 80 unitC := fo 13 Tryz.func80 (λ_ _ => [(1, 5, .q []), (1, 6, .n 2060), (1, 7, .o (apC 5 1 1) [0] [0])]) [] fo_i fo_i fo_o [] unit_vc
structure B2X where
  a : Option Addr
  n : Nat
  cap : Nat
  l : List Nat
abbrev b2sC : Con where
  X := B2X
  Y := Unit
  args x := [.slice x.a x.n x.cap]
  pre _ := []
  cond x := IsSrc 1 (u8s x.l) x.a x.n
  rdc x F := Srcd F x.a (u8s x.l)
  rel _ _ := True
  val x _ := .returned (.string (btL x.l))
  post _ _ := []
  rmono _ _ _ hs h := h.sub hs
theorem fold_btL : ∀ (l : List Nat) (acc : List UInt8), (l.map λ(n : Nat) => (n : Int)).foldl (λ(r : ByteArray) (n : Int) => r.push (UInt8.ofNat n.toNat)) ⟨⟨acc⟩⟩ = ⟨⟨acc ++ l.map λn => UInt8.ofNat n⟩⟩ := by
  intro l
  induction l with
  | nil => intro acc; simp
  | cons n l ih =>
    intro acc
    simp only [List.map_cons, List.foldl_cons]
    have : (⟨⟨acc⟩⟩ : ByteArray).push (UInt8.ofNat ((n : Int)).toNat) = ⟨⟨acc ++ [UInt8.ofNat n]⟩⟩ := by
      show (⟨(⟨acc⟩ : Array UInt8).push _⟩ : ByteArray) = _
      simp
    rw [this, ih]
    simp
theorem b2s_ok {P : Program} {o : Oper} {src dst e : TypeId} {x : Operand} (ho : o.op = .convert src dst x) (hs : P.underlying src = some (.slice e)) (he : P.underlying e = some (.int .u8)) (hd : P.underlying dst = some .string) : OpOk P o b2sC := by
  refine ⟨λy F I w ρ ha hc hr hsat => ?_⟩
  obtain ⟨a, n, cap, l⟩ := y
  have hc : IsSrc 1 (u8s l) a n := hc
  have hr : Srcd F a (u8s l) := hr
  simp only [ho, Op.operands, b2sC] at ha
  have ha2 : ρ x = .slice a n cap := by simpa using ha
  have hrun : (Conv.bytesToString (.slice a n cap)).run P w = .ok (.string (btL l)) w := by
    have hlen := hc.len
    rw [u8s_len] at hlen
    cases ha3 : a with
    | none =>
      subst ha3
      cases hc with
      | nil h => 
        have : l = [] := by cases l with | nil => rfl | cons a l => simp [u8s] at h
        subst this; rfl
    | some ad =>
      subst ha3
      have hcell : ∀ i u, (u8s l)[i]? = some u → w.cell? (ad.add i) = some u := λi u hi => hsat.lookF (hr ad rfl i u hi)
      have hl := run_loadCells_list (P := P) w ad (u8s l) (λj v hj => hcell j v hj)
      rw [u8s_len, hlen, Nat.mul_one] at hl
      have hl' : (loadCells ad n).run P w = .ok ((l.map λ(k : Nat) => (k : Int)).map (int .u8)).toArray w := by
        rw [hl]; simp [u8s, Function.comp_def]
      rw [run_bytesToString w ad n cap _ hl']
      have := fold_btL l []
      rw [List.nil_append] at this
      exact congrArg (λb => Result.ok (string b) w) this
  refine ⟨(), I, w, .string (btL l), fo_tv, .inl ?_, rfl, Imm.le_refl I, hsat, Env.refl w⟩
  simp only [execOp, ho, ha2]
  show ((convert src dst (.slice a n cap)) >>= λv => (pure (Next.value v) : Sem Next)).run P w = _
  rw [Sem.run_bind, run_convert_bytes_string w src dst e a n cap hs he hd, hrun] <;> rfl
theorem and1023 {d : Nat} (h : d < 2 ^ 63) : i64.wrap (↑(BitVec.ofInt i64.bits (d : Int) &&& BitVec.ofInt i64.bits 1023).toNat : Int) = ((d % 1024 : Nat) : Int) := by
  show i64.wrap (↑((BitVec.ofNat 64 d &&& BitVec.ofNat 64 1023 : BitVec 64).toNat) : Int) = _
  have : (BitVec.ofNat 64 d &&& BitVec.ofNat 64 1023).toNat = d % 1024 := by
    rw [BitVec.toNat_and, BitVec.toNat_ofNat, BitVec.toNat_ofNat]
    have h1 : d % 2 ^ 64 = d := Nat.mod_eq_of_lt (by omega)
    rw [h1]
    exact Nat.and_two_pow_sub_one_eq_mod d 10
  rw [this]
  exact wrap_in (i := .i64) ⟨by omega, by omega⟩
theorem decodeN_wide (n b0 b1 b2 b3 : Nat) (h : b0 < 256) : (Lib.decodeN n b0 b1 b2 b3).1 > 65535 → 4 ≤ (Lib.decodeN n b0 b1 b2 b3).2 := by
  unfold Lib.decodeN
  repeat' split
  all_goals (simp only; omega)
theorem next_wide {s : ByteArray} {i c n : Nat} (h : nextV s i = some (c, n)) (hc : c > 65535) : 4 ≤ n := by
  unfold nextV at h
  by_cases hi : i < s.size
  · rw [fo_dt hi, fo_ct] at h
    have h1 := decodeN_wide (s.size - i) (bt s i) (bt s (i + 1)) (bt s (i + 2)) (bt s (i + 3)) (bt_lt s i)
    revert h h1
    generalize Lib.decodeN (s.size - i) (bt s i) (bt s (i + 1)) (bt s (i + 2)) (bt s (i + 3)) = d
    obtain ⟨c', n'⟩ := d
    intro h h1
    have h' : (bif c' == 65533 && n' == 1 then none else some (c', n')) = some (c, n) := h
    cases hb : (c' == 65533 && n' == 1) with
    | true => rw [hb] at h'; cases h'
    | false => rw [hb] at h'; cases h'; exact h1 hc
  · rw [fo_df hi] at h; cases h
structure WdX where
  s : ByteArray
abbrev wdC : Con where
  X := WdX
  Y := Int × Int
  args x := [.string x.s]
  pre _ := []
  cond x := x.s.size ≤ 1048576
  rdc _ F := Utf F
  rel _ _ := True
  val x y := .returned (.tuple #[.string (wideV x.s), .int .i64 y.1, .int .i64 y.2])
  post _ _ := []
  rmono _ _ _ hs h := h.sub hs
abbrev wdsC : Con := { wdC with rel := λx y => wideV x.s ≠ ⟨#[]⟩ → y.2 = 0 }
structure WdS where
  r : Row
  o : List Nat
  i : Nat
  f : Nat
def wdInv (x : WdX) (F : Atom) : Nat → Option Inv := fun
  | 0 => some { X := WdS, P := λd => IsRow 5 1 (u8s d.o) d.r ∧ d.i ≤ x.s.size ∧ d.r.n ≤ 2 * d.i ∧ x.s.size < d.i + d.f ∧ wideF x.s (x.s.size + 1) 0 [] = wideF x.s d.f d.i d.o, mu := λd => x.s.size - d.i, lv := λd => [(0, .string x.s), (5, .slice d.r.a d.r.n d.r.cap), (6, .int .i64 d.i)], st := λd => [d.r.A, F] }
  | _ => none
def T1 (oo : Oper) := fo_O1 oo (mkC (5 : TypeId) [fo_vc 0] 1) (λw0 => 0 ≤ w0.n ∧ w0.n ≤ w0.c ∧ w0.c * (↑(1 : Nat) : Int) ≤ 281474976710656 ∧ w0.c ≤ 9223372036854775807)
def q120 (z : WdS) (e0 : WdX) := IsRow 5 1 (u8s z.o) z.r ∧ z.i ≤ e0.s.size ∧ z.r.n ≤ 2 * z.i ∧ e0.s.size < z.i + z.f ∧ wideF e0.s (e0.s.size + 1) 0 [] = wideF e0.s z.f z.i z.o
def T2 := fo_C6 80 unitC (λw0 => IsRow 5 1 (u8s w0.l) w0.r ∧ w0.u < 65536 ∧ w0.r.n ≤ 4194304) (λw0 w1 => IsRow 5 1 (u8s (w0.l ++ [w0.u / 256, w0.u % 256])) w1 ∧ w1.n = w0.r.n + 2)
def T3 (e0 : WdX) (e1 : Atom) (v0 v1 : Value) (ss : St) (mm : Nat) := ∃ (z : WdS), q120 z e0 ∧ (fo_vs e0.s = fo_vs e0.s ∧ v0 = fo_vl z.r.a z.r.n z.r.cap ∧ v1 = fo_vi ↑z.i ∧ True) ∧ Ent ss [(0, z.r.A), (1, e1)] ∧ e0.s.size - z.i < mm
abbrev q252 (i : WdS) (f : Nat × Nat) (x : WdX) (F : Atom) : UnX → Row → Prop := λc b => fo_rI ((i.i : Int) + (f.snd : Int)) ∧ T3 x F (fo_vl b.a b.n b.cap) (fo_vi ((i.i : Int) + (f.snd : Int))) [(0, b.A), (1, F)] (x.s.size - i.i)
def T4 (oo : Oper) := fo_O2 oo b2sC (λw0 => IsSrc 1 (u8s w0.l) w0.a w0.n) (λw0 w1 => Srcd w1 w0.a (u8s w0.l))
theorem wds_vc (x : WdX) (F : Atom) (hc : wdsC.cond x) (hr : wdsC.rdc x F) :
 fo_rI (2 * (x.s.size : Int)) ∧ T1 (opIn Tryz.f32 1 3) [fo_vi 0, fo_vi (2 * (x.s.size : Int))] (λk j => (∃(a : WdS), q120 a x ∧ (fo_vs x.s = fo_vs x.s ∧ fo_vl (q17 j) k.n.toNat k.c.toNat = fo_vl a.r.a a.r.n a.r.cap ∧ fo_vi 0 = fo_vi ↑a.i ∧ True) ∧ Ent [(0, F), (1, fo_cl j (zeros [fo_vc 0] k.c.toNat) 5)] [(0, a.r.A), (1, F)]) ∧ fo_vA λ(i : WdS) _ => q120 i x → fo_Bd ((i.i : Int) < (x.s.size : Int)) (fo_k 79 nextC ∧ true = true ∧ ∃(g : NxX), [fo_vs x.s, fo_vi ↑i.i] = [fo_vs g.s, fo_vi g.i] ∧ ([] : List Atom) = [] ∧ 0 ≤ g.i ∧ Utf (fo_aR [(0, i.r.A), (1, F)] []) ∧ (∀(f : Nat × Nat), nextV g.s g.i.toNat = some (f.fst, f.snd) → fo_Bd ((f.fst : Int) > 65535) (fo_rI ((f.fst : Int) - 65536) ∧ fo_rI (55296 + ((f.fst : Int) - 65536).fdiv ((2 : Int) ^ min (Int.toNat (10 : Int)) i64.bits)) ∧ T2 [fo_vl i.r.a i.r.n i.r.cap, fo_vi (55296 + ((f.fst : Int) - 65536).fdiv ((2 : Int) ^ min (Int.toNat (10 : Int)) i64.bits))] [i.r.A] (λe d => fo_rI (56320 + fo_wi (↑(fo_bi ((f.fst : Int) - 65536) &&& fo_bi (1023 : Int)).toNat : Int)) ∧ T2 [fo_vl d.a d.n d.cap, fo_vi (56320 + fo_wi (↑(fo_bi ((f.fst : Int) - 65536) &&& fo_bi (1023 : Int)).toNat : Int))] [d.A] (q252 i f x F))) (T2 [fo_vl i.r.a i.r.n i.r.cap, fo_vi ↑f.fst] [i.r.A] (q252 i f x F))) ∧ ∀(a : Unit), nextV g.s g.i.toNat = none → Done wdsC x F (fo_rt (tuple ⟨[fo_vs ⟨#[]⟩, fo_vi ↑i.i, fo_vi 10]⟩)) [(0, i.r.A), (1, F)]) (T4 (opIn Tryz.f32 12 1) [fo_vl i.r.a i.r.n i.r.cap] (fo_aR [(0, i.r.A), (1, F)] []) (λb a => Done wdsC x F (fo_rt (tuple ⟨[fo_vs (btL b.l), fo_vi 0, fo_vi 0]⟩)) [(0, i.r.A), (1, F)]))) := by
  delta T1 q120 q17 T2 T3 q252 T4 fo_aR fo_rI fo_C6 fo_O1 fo_O2 fo_vi fo_vc fo_vs fo_vl fo_cl fo_bi fo_wi fo_Bd fo_rt fo_vA
  have hs : x.s.size ≤ 1048576 := hc
  refine ⟨⟨by omega, by omega⟩, make_ok (P := Tryz.prog) [.int .u8 0] 1 rfl rfl rfl rfl rfl rfl (by simp) rfl, rfl, ⟨0, 2 * x.s.size⟩, rfl, rfl, ⟨fo_ir 0, by dsimp only; omega, by dsimp only; omega, by dsimp only; omega⟩, fo_tv, λb _ => ⟨⟨⟨⟨some ⟨b, 0, none⟩, 0, (2 * (x.s.size : Int)).toNat, .cells b (zeros [.int .u8 0] (2 * (x.s.size : Int)).toNat) 5⟩, [], 0, x.s.size + 1⟩, ⟨.blk b 0 _ (zeros [.int .u8 0] _) rfl (by rw [fo_la, zeros_length]; simp [u8s]) (fo_zl _), fo_zl _, fo_zl _, by dsimp only; omega, rfl⟩, ⟨rfl, rfl, rfl, fo_tv⟩, Ent.pick [1, 0] rfl rfl⟩, ?_⟩⟩
  rintro ⟨r, o, i, f⟩ js ⟨h1, h2, h3, h4, h5⟩
  dsimp only at h1 h2 h3 h4 h5 ⊢
  refine br_decide (λhlt => ⟨next_ok, rfl, ⟨x.s, i⟩, rfl, rfl, by dsimp only; omega, Utf.rest (j := 1) (by simp) hr, ?_, ?_⟩) (λhge => ⟨b2s_ok rfl rfl rfl rfl, rfl, ⟨r.a, r.n, r.cap, o⟩, rfl, rfl, h1.src, row_srcd 0 (by simp) rfl h1, λ_ _ => ⟨(0, 0), λ_ => rfl, ?_, Ent.pick [1] rfl rfl⟩⟩)
  · rintro ⟨c, n⟩ hnx
    have hnx : nextV x.s (i : Int).toNat = some (c, n) := hnx
    rw [fo_tn] at hnx
    obtain ⟨f1, f2, f3⟩ := next_facts hnx
    obtain ⟨f', rfl⟩ : ∃ f', f = f' + 1 := ⟨f - 1, by omega⟩
    have step : wideF x.s (f' + 1) i o = wideF x.s f' (i + n) (o ++ wideC c) := by
      rw [wideF, fo_dt (show i < x.s.size by omega), fo_ct, hnx]
    dsimp only
    refine br_decide (λhc => ?_) (λhc => ?_)
    · have e1 : 55296 + ((↑c : Int) - 65536).fdiv (2 ^ min (Int.toNat 10) i64.bits) = ((55296 + (c - 65536) / 1024 : Nat) : Int) := by
        have : (↑c : Int) - 65536 = ((c - 65536 : Nat) : Int) := by omega
        rw [this]
        show 55296 + ((c - 65536 : Nat) : Int).fdiv (1024 : Int) = _
        rw [Int.fdiv_eq_ediv_of_nonneg _ (by omega)]
        omega
      have e2 : 56320 + i64.wrap (↑(BitVec.ofInt i64.bits ((↑c : Int) - 65536) &&& BitVec.ofInt i64.bits 1023).toNat : Int) = ((56320 + (c - 65536) % 1024 : Nat) : Int) := by
        have : (↑c : Int) - 65536 = ((c - 65536 : Nat) : Int) := by omega
        rw [this, and1023 (by omega)]
        omega
      rw [e1, e2]
      have ew : wideC c = [(55296 + (c - 65536) / 1024) / 256, (55296 + (c - 65536) / 1024) % 256] ++ [(56320 + (c - 65536) % 1024) / 256, (56320 + (c - 65536) % 1024) % 256] := by
        unfold wideC
        rw [fo_dt (show c > 65535 by omega)] <;> rfl
      refine ⟨⟨by omega, by omega⟩, ⟨by omega, by omega⟩, unit_ok, rfl, ⟨r, o, 55296 + (c - 65536) / 1024⟩, rfl, rfl, ⟨h1, by dsimp only; omega, by dsimp only; omega⟩, fo_tv, λy hy => ⟨⟨by omega, by omega⟩, unit_ok, rfl, ⟨y, _, 56320 + (c - 65536) % 1024⟩, rfl, rfl, ⟨hy.1, by dsimp only; omega, by have := hy.2; dsimp only at this ⊢; omega⟩, fo_tv, λy2 hy2 => ⟨⟨by omega, by omega⟩, ⟨y2, o ++ wideC c, i + n, f'⟩, ⟨?_, f1, ?_, by dsimp only; omega, h5.trans step⟩, ⟨rfl, rfl, by rw [Int.natCast_add], fo_tv⟩, Ent.pick [0, 1] rfl rfl, by dsimp only; omega⟩⟩⟩
      · rw [ew, ← fo_aa]; exact hy2.1
      · have n4 : c > 65535 → 4 ≤ n := λh => next_wide hnx h
        have := hy.2; have := hy2.2; have := n4 (by omega); dsimp only at *; omega
    · have ew : wideC c = [c / 256, c % 256] := by
        unfold wideC
        rw [fo_df (show ¬ c > 65535 by omega)] <;> rfl
      refine ⟨unit_ok, rfl, ⟨r, o, c⟩, rfl, rfl, ⟨h1, by dsimp only; omega, by dsimp only; omega⟩, fo_tv, λy hy => ⟨⟨by omega, by omega⟩, ⟨y, o ++ wideC c, i + n, f'⟩, ⟨by rw [ew]; exact hy.1, f1, by have := hy.2; dsimp only at this ⊢; omega, by dsimp only; omega, h5.trans step⟩, ⟨rfl, rfl, by rw [Int.natCast_add], fo_tv⟩, Ent.pick [0, 1] rfl rfl, by dsimp only; omega⟩⟩
  · intro _ hnx
    have hnx : nextV x.s (i : Int).toNat = none := hnx
    rw [fo_tn] at hnx
    obtain ⟨f', rfl⟩ : ∃ f', f = f' + 1 := ⟨f - 1, by omega⟩
    have : wideV x.s = ⟨#[]⟩ := by
      unfold wideV
      rw [h5, wideF, fo_dt (show i < x.s.size by omega), fo_ct, hnx] <;> rfl
    refine ⟨(i, 10), λh => (h this).elim, ?_, Ent.pick [1] rfl rfl⟩
    show returned _ = returned (.tuple #[.string (wideV x.s), _, _])
    rw [this]
  · have : wideV x.s = btL o := by
      unfold wideV
      rw [h5]
      cases f with
      | zero => rfl
      | succ f => rw [wideF, fo_df (show ¬ i < x.s.size by omega)] <;> rfl
    show returned _ = returned (.tuple #[.string (wideV x.s), _, _])
    rw [this]
theorem wds_ok : fo_k 32 wdsC := fo 49 Tryz.func32 (λ_ _ => [(1, 3, .o (mkC 5 [.int .u8 0] 1) [] [1]), (4, 2, .c nextC [] []), (9, 4, .c unitC [0] [0]), (9, 8, .c unitC [0] [0]), (10, 2, .c unitC [0] [0]), (12, 1, .o b2sC [] [])]) [] wdInv fo_i fo_o [] wds_vc
theorem wd_ok : fo_k 32 wdC := ⟨λx F I w hc hr hs => (wds_ok.h x F I w hc hr hs).mono λ_ _ ⟨y, J, _, k2, k3, k4, k5⟩ => ⟨y, J, fo_tv, k2, k3, k4, k5⟩⟩
end
section
open Go
set_option maxHeartbeats 1000000
abbrev wC : Con where
  X := WdX
  Y := Unit
  args x := [.string x.s]
  pre _ := []
  cond x := x.s.size ≤ 1048576
  rdc _ F := Utf F
  rel _ _ := True
  val x _ := .returned (.string (wideV x.s))
  post _ _ := []
  rmono _ _ _ hs h := h.sub hs
def wOv (_x : WdX) (_F : Atom) : List (Nat × Nat × OH) := [(1, 1, .c wdC [] [])]
abbrev q238 : WdX → Prop := λw0 => w0.s.size ≤ 1048576
def T5 := fo_C2 32 wdC q238 (λ_ => Utf)
theorem wl_vc (x : WdX) (F : Atom) (hc : wC.cond x) (hr : wC.rdc x F) :
 T5 [fo_vs x.s] (q114 F) (λb a => Done wC x F (fo_rt (fo_vs (wideV b.s))) [(0, F)]) := by
  delta q238 T5 q114 fo_aR fo_C2 fo_vs fo_rt
  exact ⟨wd_ok, rfl, x, rfl, rfl, hc, Utf.rest (j := 0) (by simp) hr, λ_ _ => ⟨(), fo_tv, rfl, Ent.pick [0] rfl rfl⟩⟩
theorem wl_ok : fo_k 97 wC := fo 13 Tryz.func97 wOv [] fo_i fo_i fo_o [] wl_vc
theorem wp_vc (x : WdX) (F : Atom) (hc : wC.cond x) (hr : wC.rdc x F) :
 T5 [fo_vs x.s] (q114 F) (λb a => Done wC x F (fo_rt (fo_vs (wideV b.s))) [(0, F)]) := by
  delta q238 T5 q114 fo_aR fo_C2 fo_vs fo_rt
  exact ⟨wd_ok, rfl, x, rfl, rfl, hc, Utf.rest (j := 0) (by simp) hr, λ_ _ => ⟨(), fo_tv, rfl, Ent.pick [0] rfl rfl⟩⟩
theorem wp_ok : fo_k 114 wC := fo 13 Tryz.func114 wOv [] fo_i fo_i fo_o [] wp_vc
structure Gl (F : Atom) : Prop where
  utf : Utf F
  mx : ∃ m, Look F ⟨3, 0, none⟩ (.int .i64 m)
theorem Gl.sub {A B : Atom} (h : Gl A) (hs : Sub A B) : Gl B := ⟨h.utf.sub hs, let ⟨m, hm⟩ := h.mx; ⟨m, hm.sub hs⟩⟩
theorem Gl.rest {S : St} {touch : List Nat} {j : Nat} (hj : j ∉ touch) (h : Gl (gt S j)) : Gl (.pred (rest S touch)) := ⟨h.utf.rest hj, let ⟨m, hm⟩ := h.mx; ⟨m, hm.rest hj⟩⟩
structure StrX where
  a : ByteArray
  b : ByteArray
def hpB (s p : ByteArray) : Bool := decide (s.size ≥ p.size) && (s.extract 0 p.size).toList == p.toList
abbrev hpC : Con where
  X := StrX
  Y := Unit
  args x := [.string x.a, .string x.b]
  pre _ := []
  cond _ := True
  rdc _ _ := True
  rel _ _ := True
  val x _ := .returned (.bool (hpB x.a x.b))
  post _ _ := []
abbrev q54 := fo_rt (fo_vb false)
theorem hpi_vc (x : StrX) (F : Atom) (hc : hpC.cond x) (hr : hpC.rdc x F) :
 fo_Bd ((x.a.size : Int) ≥ (x.b.size : Int)) (((0 : Int) ≤ (0 : Int) ∧ 0 ≤ (x.b.size : Int) ∧ (x.b.size : Int) ≤ (x.a.size : Int)) ∧ Done hpC x F (fo_rt (fo_vb ((x.a.extract (Int.toNat (0 : Int)) (x.b.size : Int).toNat).toList == x.b.toList))) [(0, F)]) (Done hpC x F q54 [(0, F)]) := by
  delta q54 fo_vb fo_Bd fo_rt
  have e0 : (↑x.b.size : Int).toNat = x.b.size := fo_tn _
  refine br_decide (λh => ⟨⟨by omega, by omega, by omega⟩, (), fo_tv, retB ?_, Ent.pick [0] rfl rfl⟩) (λh => ⟨(), fo_tv, retB ?_, Ent.pick [0] rfl rfl⟩)
  · unfold hpB
    rw [fo_dt (show x.a.size ≥ x.b.size by omega), e0]
    simp
  · unfold hpB
    rw [fo_df (show ¬ x.a.size ≥ x.b.size by omega)]
    simp
theorem hpi_ok : fo_k 144 hpC := fo 18 Tryz.func144 (λ_ _ => []) [] fo_i fo_i fo_o [] hpi_vc
theorem hp_vc (x : StrX) (F : Atom) (hc : hpC.cond x) (hr : hpC.rdc x F) :
 fo_C0 144 hpC [fo_vs x.a, fo_vs x.b] (λb a => Done hpC x F (fo_rt (fo_vb (hpB b.a b.b))) [(0, F)]) := by
  delta fo_C0 fo_vs fo_vb fo_rt
  exact ⟨hpi_ok, rfl, x, rfl, rfl, fo_tv, fo_tv, λ_ _ => ⟨(), fo_tv, rfl, Ent.pick [0] rfl rfl⟩⟩
theorem hp_ok : fo_k 215 hpC := fo 8 Tryz.func215 (λ_ _ => [(1, 2, .c hpC [] [])]) [] fo_i fo_i fo_o [] hp_vc
abbrev ixC' : Con where
  X := StrX
  Y := Unit
  args x := [.string x.a, .string x.b]
  pre _ := []
  cond x := x.a.size ≤ 1048576
  rdc _ F := Gl F
  rel _ _ := True
  val x _ := .returned (.int .i64 (Lib.index x.a.data.toList x.b.data.toList))
  post _ _ := []
  rmono _ _ _ hs h := h.sub hs
theorem RowKit.Below.of_eq {B : Nat} {w w' : World} (h : w' = w) : RowKit.Below B w w' := h ▸ RowKit.Below.refl B w
theorem ix_ok' : fo_k 90 ixC' := FnOk.ofBelow ixC' (λ_ => rfl) (λ_ _ => ()) (λ_ _ => fo_tv) (λ_ _ => rfl) λx F I w hc hr hs => by
  obtain ⟨m, hm⟩ := hr.mx
  have hc : x.a.size ≤ 1048576 := hc
  exact (Go.Proofs.Tryz.strings_Index x.a x.b m w (by omega) (hs.lookF hm)).mono λe w' h => ⟨h.1, RowKit.Below.of_eq h.2⟩
abbrev coC : Con where
  X := StrX
  Y := Unit
  args x := [.string x.a, .string x.b]
  pre _ := []
  cond x := x.a.size ≤ 1048576
  rdc _ F := Gl F
  rel _ _ := True
  val x _ := .returned (.bool (Lib.contains x.a.data.toList x.b.data.toList))
  post _ _ := []
  rmono _ _ _ hs h := h.sub hs
theorem co_ok : fo_k 40 coC := FnOk.ofBelow coC (λ_ => rfl) (λ_ _ => ()) (λ_ _ => fo_tv) (λ_ _ => rfl) λx F I w hc hr hs => by
  obtain ⟨m, hm⟩ := hr.mx
  have hc : x.a.size ≤ 1048576 := hc
  exact (Go.Proofs.Tryz.strings_Contains x.a x.b m w (by omega) (hs.lookF hm)).mono λe w' h => ⟨h.1, RowKit.Below.of_eq h.2⟩
end
section
open Go
theorem hpB_pre (s p : ByteArray) : hpB s p = p.data.toList.isPrefixOf s.data.toList := by
  unfold hpB
  rw [Bool.eq_iff_iff, List.isPrefixOf_iff_prefix, fo_bae, decide_eq_true_eq, beq_iff_eq]
  have hs : s.data.toList.length = s.size := by simp
  have hp : p.data.toList.length = p.size := by simp
  have e : (s.extract 0 p.size).toList = s.data.toList.take p.size := by rw [ByteArray.toList_eq]; simp
  rw [e, ByteArray.toList_eq, List.prefix_iff_eq_take, hp]
  constructor
  · rintro ⟨_, h⟩; exact h.symm
  · intro h
    refine ⟨?_, h.symm⟩
    have := congrArg List.length h
    rw [List.length_take, hp, hs] at this
    omega
theorem ext_drop (s : ByteArray) (i : Nat) : (s.extract i s.size).data.toList = s.data.toList.drop i := by
  rw [ByteArray.data_extract]
  have : s.data.size = s.size := rfl
  simp only [Array.toList_extract, List.extract_eq_take_drop]
  exact List.take_of_length_le (by simp)
end
section
open Go
theorem str_ne (s : ByteArray) : (!s.toList == (ByteArray.mk #[]).toList) = decide (s.size > 0) := by
  have h : s.toList = s.data.toList := ByteArray.toList_eq s
  have h2 : (ByteArray.mk #[]).toList = [] := by rw [ByteArray.toList_eq]
  have h3 : s.data.toList.length = s.size := by simp
  rw [h, h2, Bool.eq_iff_iff]
  cases hl : s.data.toList with
  | nil => rw [hl] at h3; simp at h3; simp [← h3]
  | cons b l => rw [hl] at h3; simp at h3; simp; omega
end
section
open Go
structure Ctx where
  nv : ByteArray → Nat
  tv : Nat → ByteArray
  rd : Atom → Prop
  mono : ∀ {A B : Atom}, rd A → Sub A B → rd B
  rest : ∀ {S : St} {touch : List Nat} {j : Nat}, j ∉ touch → rd (gt S j) → rd (.pred (rest S touch))
abbrev nnC (K : Ctx) : Con where
  X := WdX
  Y := Unit
  args x := [.string x.s]
  pre _ := []
  cond x := x.s.size ≤ 8388608
  rdc _ F := K.rd F
  rel _ _ := True
  val x _ := .returned (.float .f64 (K.nv x.s))
  post _ _ := []
  rmono _ _ _ hs h := K.mono h hs
theorem eqN {n : Nat} (k : Nat) {v : Bool} (h : ((n : Int) == (k : Int)) = v) : (n == k) = v := by
  rw [← h, Bool.eq_iff_iff, beq_iff_eq, beq_iff_eq]; omega
theorem bt_extr {s : ByteArray} {i j k : Nat} (h : i + k < j) (hj : j ≤ s.size) : bt (s.extract i j) k = bt s (i + k) := by
  unfold bt
  congr 2
  rw [ByteArray.data_extract, Array.getElem?_extract, if_pos (by simp only [ByteArray.size] at hj; omega)]
theorem wideC_len (c : Nat) : (wideC c).length ≤ 4 := by
  unfold wideC
  cases decide (c > 65535) <;> simp
theorem wideF_len (s : ByteArray) : ∀ (f i : Nat) (o : List Nat), (wideF s f i o).length ≤ o.length + 4 * (s.size - i) := by
  intro f
  induction f with
  | zero => intro i o; show o.length ≤ _; omega
  | succ f ih =>
    intro i o
    rw [wideF]
    by_cases hi : i < s.size
    · rw [fo_dt hi, fo_ct]
      cases h : nextV s i with
      | none => exact fo_zl _
      | some cn =>
        obtain ⟨c, n⟩ := cn
        obtain ⟨f1, f2, f3⟩ := next_facts h
        have h1 := ih (i + n) (o ++ wideC c)
        have h2 := wideC_len c
        rw [fo_la] at h1
        show (wideF s f (i + n) (o ++ wideC c)).length ≤ _
        omega
    · rw [fo_df hi]; show o.length ≤ _; omega
theorem wideV_size (s : ByteArray) : (wideV s).size ≤ 4 * s.size := by
  have h := wideF_len s (s.size + 1) 0 []
  have e : (wideV s).size = (wideF s (s.size + 1) 0 []).length := by
    unfold wideV btL ByteArray.size
    simp
  rw [e]; simpa using h
end
section
open Go
theorem strCells_app (p s : ByteArray) : Lib.strCells (p ++ s) = Lib.strCells p ++ Lib.strCells s := by
  unfold Lib.strCells
  rw [ByteArray.data_append, Array.toList_append, List.map_append]
theorem strCells_nil {s : ByteArray} (h : s.size = 0) : Lib.strCells s = [] := List.eq_nil_of_length_eq_zero (by rw [Lib.strCells_length, h])
structure AsX where
  r : Row
  p : ByteArray
  s : ByteArray
def BRow (e : TypeId) (p : ByteArray) (r : Row) : Prop := IsRow e 1 (Lib.strCells p) r ∧ (r.a = none ∨ 0 < r.cap)
abbrev apsC (e : TypeId) : Con where
  X := AsX
  Y := Row
  args x := [.slice x.r.a x.r.n x.r.cap, .string x.s]
  pre x := [x.r.A]
  cond x := BRow e x.p x.r ∧ x.r.n + x.s.size ≤ 140737488355328
  rdc _ _ := True
  rel x r := BRow e (x.p ++ x.s) r
  val _ r := .returned r.v
  post _ r := [r.A]
section
variable {P : Program}
theorem aps_ok {o : Oper} {s x : Operand} {t u e : TypeId} {inf : TypeInfo} {z : Value} (ho : o.op = .call { callee := .builtin .append, args := #[s, x], argTypes := #[t, u] })
    (ht : P.underlying t = some (.slice e)) (hu : P.underlying u = some .string) (hi : P.info? e = some inf) (hz : inf.zero = some z) (hk : inf.size = 1) (hb : inf.bytes = 1) (hzk : z.cells.size = 1) : OpOk P o (apsC e) := by
  refine ⟨λx F I w ρ ha hc hr hs => ?_⟩
  obtain ⟨r, p, str⟩ := x
  obtain ⟨⟨hrow, hcap⟩, hby⟩ := hc
  dsimp only at hrow hby hcap
  simp only [ho, Op.operands, Call.operands, apsC] at ha
  have ha2 : ρ s = .slice r.a r.n r.cap ∧ ρ x = .string str := by simpa using ha
  obtain ⟨hs1, hx1⟩ := ha2
  have hex : ∀ w', (execOp ρ o).run P w' = ((Builtin.append_ #[t, u] o.type #[.slice r.a r.n r.cap, .string str]).run P w').andThen λv w2 => .ok (.value v) w2 := by
    intro w'
    simp [execOp, ho, resolve, invoke, builtin, hs1, hx1]
  have hrl : Lib.strCells str = (str.data.map (λb => int .u8 b.toNat)).toList := by unfold Lib.strCells; simp
  by_cases hm : str.size = 0
  · have hy := strCells_nil hm
    refine ⟨r, I, w, r.v, ⟨by rw [strCells_app, hy, fo_an]; exact hrow, hcap⟩, ?_, rfl, Imm.le_refl I, hs, Env.refl w⟩
    have hle := hrow.le
    rw [hex]
    cases hrow <;> simp [Builtin.append_, run_underlying ht, run_underlying hu, sizeOf, typeInfo, hi, Builtin.lenOf, Builtin.firstCells, storeCells, hle, hm, Row.v]
  clear hr ha
  dsimp only [apsC, List.cons_append, List.nil_append] at hs
  have hsl := Lib.strCells_length str
  cases hrow with
  | nil h =>
    have hrun := run_append_nil_string (P := P) w t u o.type e inf z ht hu hi hz str (by omega) (by omega) (by rw [hb]; dsimp only at hby; omega)
    have hg := grownCap_ge w str.size 0 e
    refine ⟨⟨some ⟨w.heap.size, 0, none⟩, str.size, grownCap w str.size 0 e, .cells w.heap.size (Lib.strCells str ++ (Builtin.zeroCells z.cells (grownCap w str.size 0 e - str.size)).toList) e⟩, I, w.drew.alloc (.cells (str.data.map (λb => int .u8 b.toNat) ++ Builtin.zeroCells z.cells (grownCap w str.size 0 e - str.size)) e), _, ⟨?_, ?_⟩, ?_, rfl, Imm.le_refl I, ?_, ⟨rfl, rfl⟩⟩
    · rw [strCells_app, h, List.nil_append]
      exact .blk _ _ _ _ (by rw [hsl]; omega) (by simp only [fo_la, Array.length_toList, size_zeroCells, hzk, hsl]; omega) hg
    · right; dsimp only; omega
    · left; rw [hex, hrun] <;> rfl
    · have := hs.alloc 0 (str.data.map (λb => int .u8 b.toNat) ++ Builtin.zeroCells z.cells (grownCap w str.size 0 e - str.size)) e
      simpa [apsC, upd0, hrl] using this
  | blk b n cap sp hl hs2 hn =>
    have hblk : w.heap[b]? = some (.cells ⟨Lib.strCells p ++ sp⟩ e (0, 0)) := hs.cells (j := 0) rfl
    dsimp only at hby
    by_cases hroom : n + str.size ≤ cap
    · have hfit : n + str.size ≤ (⟨Lib.strCells p ++ sp⟩ : Array Value).size := by
        show n + str.size ≤ (Lib.strCells p ++ sp).length
        rw [hs2]; omega
      have hrun := Lib.run_append_room_string (P := P) w t u o.type e inf ht hu hi hk b n cap ⟨Lib.strCells p ++ sp⟩ hblk str hroom hfit
      have htake : (Lib.strCells p ++ sp).take n = Lib.strCells p := by rw [show n = (Lib.strCells p).length by omega]; exact List.take_left
      have hlen : (Lib.strCells p ++ Lib.strCells str ++ (Lib.strCells p ++ sp).drop (n + str.size)).length = cap * 1 := by
        simp only [fo_la, List.length_drop] at hs2 ⊢
        omega
      refine ⟨⟨some ⟨b, 0, none⟩, n + str.size, cap, .cells b (Lib.strCells p ++ Lib.strCells str ++ (Lib.strCells p ++ sp).drop (n + str.size)) e⟩, I, w.setRow b ⟨Lib.strCells p ++ Lib.strCells str ++ (Lib.strCells p ++ sp).drop (n + str.size)⟩, _, ⟨?_, ?_⟩, ?_, rfl, Imm.le_refl I, ?_, ⟨rfl, rfl⟩⟩
      · rw [strCells_app]
        exact .blk _ _ _ _ (by rw [fo_la, hl, hsl]; omega) hlen hroom
      · right; dsimp only; omega
      · left; rw [hex, hrun]; simp only [htake]; rfl
      · have := hs.setRow (j := 0) (b := b) (vs := Lib.strCells p ++ sp) (t := e) (vs' := Lib.strCells p ++ Lib.strCells str ++ (Lib.strCells p ++ sp).drop (n + str.size)) rfl
        simpa [apsC, upd0] using this
    · have holds : ∀ j v, (Lib.strCells p)[j]? = some v → w.cell? ((⟨b, 0, none⟩ : Addr).add j) = some v := by
        intro j v hj
        have hlt := (fo_gs.1 hj).1
        rw [addr_add, cell_cells (b := b) ⟨rfl, rfl⟩ hblk]
        simp only [fo_za]
        rw [fo_gl hlt]; exact hj
      have hrun := Lib.run_append_grow_string (P := P) w t u o.type e inf z ht hu hi hz ⟨b, 0, none⟩ n cap (Lib.strCells p) (by rw [hk]; exact hl) holds str (by omega) (by omega) (growslice_fits (by omega) (by rw [hb]; omega))
      have hg := grownCap_ge w (n + str.size) cap e
      refine ⟨⟨some ⟨w.heap.size, 0, none⟩, n + str.size, grownCap w (n + str.size) cap e, .cells w.heap.size (Lib.strCells p ++ Lib.strCells str ++ (Builtin.zeroCells z.cells (grownCap w (n + str.size) cap e - (n + str.size))).toList) e⟩, I, w.drew.alloc (.cells ((Lib.strCells p).toArray ++ (Lib.strCells str).toArray ++ Builtin.zeroCells z.cells (grownCap w (n + str.size) cap e - (n + str.size))) e), _, ⟨?_, ?_⟩, ?_, rfl, Imm.le_refl I, ?_, ⟨rfl, rfl⟩⟩
      · rw [strCells_app]
        refine .blk _ _ _ _ (by rw [fo_la, hl, hsl]; omega) ?_ hg
        simp only [fo_la, hl, hsl, Array.length_toList, size_zeroCells, hzk]
        omega
      · right; dsimp only; omega
      · left; rw [hex, hrun] <;> rfl
      · have := hs.alloc 0 ((Lib.strCells p).toArray ++ (Lib.strCells str).toArray ++ Builtin.zeroCells z.cells (grownCap w (n + str.size) cap e - (n + str.size))) e
        simpa [apsC, upd0] using this
end
end
end Go.Proofs.YtjdabjmjldiodaaGreatDoor
