/- Small laws of states and rows. -/
import Derived.Test.YtkmdgnbfojkcnaaEngI
import Derived.Test.YtkmdgnbfojkcnaaEngJ
set_option linter.all false
namespace Go.Proofs.Ytkmdgnbfojkcnaa
open Go
theorem sub_rest {S : St} {touch : List Nat} {A : Atom} (j : Nat) (hj : j ∉ touch) (e : gt S j = A) : Sub A (.pred (rest S touch)) := by
  intro I h o hA
  obtain ⟨f, h1, _, _⟩ := hA
  have := h1 j
  rw [gt_clr] at this
  simp only [hj, if_false] at this
  rw [e] at this
  exact ⟨_, this⟩
theorem row_srcd {S : St} {touch : List Nat} {e : TypeId} {k : Nat} {cs : List Value} {r : Row} (j : Nat) (hj : j ∉ touch) (e' : gt S j = r.A) (h : IsRow e k cs r) : Srcd (.pred (rest S touch)) r.a cs := Srcd.sub (sub_rest j hj e') h.srcd
theorem br_t {t : Bool} {A B : Prop} (h : t = true) (a : A) : Br t A B := br_intro (fun _ => a) (fun e => by rw [h] at e; cases e)
theorem IsRow.none0 {e : TypeId} {k : Nat} {cs : List Value} {r : Row} (h : IsRow e k cs r) : r.a = none → r.n = 0 ∧ r.cap = 0 := by
  cases h with
  | nil _ => intro _; exact ⟨rfl, rfl⟩
  | blk b n cap sp hl hs hn => intro h; cases h
theorem IsRow.at0 {e : TypeId} {k : Nat} {cs : List Value} {r : Row} (h : IsRow e k cs r) (hn : 0 < r.n) : ∃ b, r.a = some ⟨b, 0, none⟩ := by
  cases h with
  | nil _ => exact absurd hn (Nat.lt_irrefl 0)
  | blk b n cap sp hl hs hn => exact ⟨b, rfl⟩
theorem Sat.congr {I : Imm} {S S' : St} {w : World} (e : ∀ j, gt S' j = gt S j) (h : Sat I S w) : Sat I S' w := by
  obtain ⟨⟨f, h1, h2, h3⟩, hi⟩ := h
  exact ⟨⟨f, fun j => by rw [e]; exact h1 j, h2, h3⟩, hi⟩
/-- Some atoms behind one name. -/
def bagA (As : List Atom) : Atom := .pred (rest (ofL As) [])
theorem gt_left {Ks As : List Atom} {j : Nat} (h : j < Ks.length) : gt (ofL (Ks ++ As)) j = Ks.getD j .emp := by
  rw [gt_ofL, List.getD_eq_getElem?_getD, List.getElem?_append_left h, List.getD_eq_getElem?_getD]
theorem gt_right (Ks As : List Atom) (i : Nat) : gt (ofL (Ks ++ As)) (Ks.length + i) = As.getD i .emp := by
  rw [gt_ofL, List.getD_eq_getElem?_getD, List.getElem?_append_right (by omega), List.getD_eq_getElem?_getD]
  congr 2
  omega
theorem Sat.bagTail {I : Imm} {w : World} {Ks As : List Atom} (h : Sat I (ofL (Ks ++ As)) w) : Sat I (ofL (Ks ++ [bagA As])) w := by
  obtain ⟨⟨f, h1, h2, h3⟩, hi⟩ := h
  refine ⟨⟨fun j b => (j < Ks.length ∧ f j b) ∨ (j = Ks.length ∧ ∃ i, f (Ks.length + i) b), fun j => ?_, ?_, ?_⟩, hi⟩
  · by_cases hj : j < Ks.length
    · rw [gt_left hj]
      have := h1 j
      rw [gt_left hj] at this
      have e : (fun b => (j < Ks.length ∧ f j b) ∨ (j = Ks.length ∧ ∃ i, f (Ks.length + i) b)) = f j := by
        funext b
        apply propext
        constructor
        · rintro (⟨_, h⟩ | ⟨h, _⟩)
          · exact h
          · omega
        · intro h; exact .inl ⟨hj, h⟩
      dsimp only
      rw [e]; exact this
    · by_cases he : j = Ks.length
      · subst he
        have e0 : gt (ofL (Ks ++ [bagA As])) Ks.length = bagA As := gt_right Ks [bagA As] 0
        rw [e0]
        refine ⟨fun i => f (Ks.length + i), fun i => ?_, fun i j b hb hb' => ?_, fun i b hb => .inr ⟨rfl, i, hb⟩⟩
        · have := h1 (Ks.length + i)
          rw [gt_right] at this
          show (gt (ofL As) i).holds I (hp w) _
          rw [gt_ofL]; exact this
        · have := h2 _ _ _ hb hb'; omega
      · have e0 : gt (ofL (Ks ++ [bagA As])) j = .emp := by
          rw [gt_ofL, List.getD_eq_getElem?_getD, List.getElem?_eq_none (by simp; omega)]; rfl
        rw [e0]; trivial
  · rintro i j b (⟨a1, a2⟩ | ⟨a1, k1, a2⟩) (⟨b1, b2⟩ | ⟨b1, k2, b2⟩)
    · exact h2 _ _ _ a2 b2
    · have := h2 _ _ _ a2 b2; omega
    · have := h2 _ _ _ a2 b2; omega
    · omega
  · rintro j b (⟨_, h⟩ | ⟨_, i, h⟩)
    · exact h3 _ _ h
    · exact h3 _ _ h
theorem Sat.unbagTail {I : Imm} {w : World} {Ks As : List Atom} (h : Sat I (ofL (Ks ++ [bagA As])) w) : Sat I (ofL (Ks ++ As)) w := by
  obtain ⟨⟨f, h1, h2, h3⟩, hi⟩ := h
  have hb := h1 Ks.length
  have e0 : gt (ofL (Ks ++ [bagA As])) Ks.length = bagA As := gt_right Ks [bagA As] 0
  rw [e0] at hb
  obtain ⟨g, g1, g2, g3⟩ := hb
  refine ⟨⟨fun j b => (j < Ks.length ∧ f j b) ∨ (Ks.length ≤ j ∧ g (j - Ks.length) b), fun j => ?_, ?_, ?_⟩, hi⟩
  · by_cases hj : j < Ks.length
    · have := h1 j
      rw [gt_left hj] at this ⊢
      have e : (fun b => (j < Ks.length ∧ f j b) ∨ (Ks.length ≤ j ∧ g (j - Ks.length) b)) = f j := by
        funext b
        apply propext
        constructor
        · rintro (⟨_, h⟩ | ⟨h, _⟩)
          · exact h
          · omega
        · intro h; exact .inl ⟨hj, h⟩
      dsimp only
      rw [e]; exact this
    · obtain ⟨i, rfl⟩ : ∃ i, j = Ks.length + i := ⟨j - Ks.length, by omega⟩
      have := g1 i
      replace this : (gt (ofL As) i).holds I (hp w) (g i) := this
      rw [gt_ofL] at this
      rw [gt_right]
      have e : (fun b => (Ks.length + i < Ks.length ∧ f (Ks.length + i) b) ∨ (Ks.length ≤ Ks.length + i ∧ g (Ks.length + i - Ks.length) b)) = g i := by
        funext b
        apply propext
        rw [Nat.add_sub_cancel_left]
        constructor
        · rintro (⟨h, _⟩ | ⟨_, h⟩)
          · omega
          · exact h
        · intro h; exact .inr ⟨Nat.le_add_right _ _, h⟩
      dsimp only
      rw [e]; exact this
  · rintro i j b (⟨a1, a2⟩ | ⟨a1, a2⟩) (⟨b1, b2⟩ | ⟨b1, b2⟩)
    · exact h2 _ _ _ a2 b2
    · have := h2 _ _ _ a2 (g3 _ _ b2); omega
    · have := h2 _ _ _ (g3 _ _ a2) b2; omega
    · have := g2 _ _ _ a2 b2; omega
  · rintro j b (⟨_, h⟩ | ⟨_, h⟩)
    · exact h3 _ _ h
    · exact h3 _ _ (g3 _ _ h)
/-- Some atoms are kept, others go behind one name, at the end. -/
theorem Ent.bag {S S' : St} (keep bg : List Nat) (hn : nodupB (keep ++ bg) = true) (e : ofL (keep.map (gt S) ++ [bagA (bg.map (gt S))]) = S') : Ent S S' := ⟨fun I w h => by
  have h1 := h.pick (keep ++ bg) hn rfl
  rw [List.map_append] at h1
  exact ⟨I, Imm.le_refl I, e ▸ h1.bagTail⟩⟩
theorem Look.bag {As : List Atom} {A : Atom} {a : Addr} {v : Value} (i : Nat) (h : As[i]? = some A) (hl : Look A a v) : Look (bagA As) a v := by
  refine Look.rest (j := i) (by simp) ?_
  rw [gt_ofL, List.getD_eq_getElem?_getD, h]; exact hl
theorem sub_bag {As : List Atom} {A : Atom} (i : Nat) (h : As[i]? = some A) : Sub A (bagA As) := by
  refine sub_rest i (by simp) ?_
  rw [gt_ofL, List.getD_eq_getElem?_getD, h]; rfl
/-- Rows that are owned, side by side. -/
def famA (rs : List Row) : Atom := bagA (rs.map Row.A)
structure ApFX where
  rs : List Row
  p : Nat
  r : Row
  cs : List Value
  a : Option Addr
  m : Nat
  c : Nat
  ys : List Value
/-- append to one row of many. -/
def apF (e : TypeId) (k bytes : Nat) : Con where
  X := ApFX
  Y := Row
  args x := [.slice x.r.a x.r.n x.r.cap, .slice x.a x.m x.c]
  pre x := [famA x.rs]
  cond x := x.rs[x.p]? = some x.r ∧ (apC e k bytes).cond ⟨x.r, x.cs, x.a, x.m, x.c, x.ys⟩
  rdc x F := ∀ a, x.a = some a → Seg F a x.ys
  rel x r := IsRow e k (x.cs ++ x.ys) r ∧ r.n = x.r.n + x.m ∧ (x.m = 0 → r = x.r)
  val _ r := .returned r.v
  post x r := [famA (x.rs.set x.p r)]
  rmono _ _ _ hs h a ha := (h a ha).sub hs
theorem appendF_ok {P : Program} {o : Oper} {e : TypeId} {k bytes : Nat} (hok : OpOk P o (apC e k bytes)) : OpOk P o (apF e k bytes) := by
  refine ⟨fun x F I w ρ ha hc hr hs => ?_⟩
  obtain ⟨rs, p, r, cs, a, m, c, ys⟩ := x
  obtain ⟨hp, hc⟩ := hc
  dsimp only at hp hc
  have hpl : p < rs.length := (List.getElem?_eq_some_iff.1 hp).1
  have h1 : Sat I (ofL ([F] ++ [famA rs])) w := Sat.pick (S := ofL [famA rs, F]) [1, 0] rfl rfl hs
  have h2 := h1.unbagTail
  have eg : gt (ofL ([F] ++ rs.map Row.A)) (p + 1) = r.A := by
    have := gt_right [F] (rs.map Row.A) p
    rw [List.length_singleton, Nat.add_comm] at this
    rw [this, List.getD_eq_getElem?_getD, List.getElem?_map, hp]; rfl
  have h3 := h2.part (touch := [p + 1]) (nodupB_spec rfl)
  rw [List.map_cons, List.map_nil, eg] at h3
  obtain ⟨(r' : Row), J, w', v, hrel, hrun, hv, hle, hs', he⟩ := hok.h ⟨r, cs, a, m, c, ys⟩ _ I w ρ ha hc (fun ad e => Seg.rest (S := ofL ([F] ++ rs.map Row.A)) (touch := [p + 1]) (j := 0) (by simp) (hr ad e)) h3
  refine ⟨r', J, w', v, hrel, hrun, hv, hle, ?_, he⟩
  have h4 := hs'.join (out := [p + 1])
  have h5 : Sat J (ofL ([F] ++ (rs.set p r').map Row.A)) w' := h4.congr fun j => by
    show gt (ofL ([F] ++ (rs.set p r').map Row.A)) j = gt (updS (clr [p + 1] (ofL ([F] ++ rs.map Row.A))) (p + 1) r'.A) j
    rw [gt_upd]
    by_cases hj : j = p + 1
    · subst hj
      rw [if_pos rfl]
      have := gt_right [F] ((rs.set p r').map Row.A) p
      rw [List.length_singleton, Nat.add_comm] at this
      rw [this, List.getD_eq_getElem?_getD, List.getElem?_map, show (rs.set p r')[p]? = some r' from List.getElem?_set_self hpl]; rfl
    · rw [if_neg hj, gt_clr, if_neg (by simpa using hj)]
      cases j with
      | zero => rfl
      | succ i =>
        have a1 := gt_right [F] ((rs.set p r').map Row.A) i
        have a2 := gt_right [F] (rs.map Row.A) i
        rw [List.length_singleton, Nat.add_comm] at a1 a2
        rw [a1, a2, List.getD_eq_getElem?_getD, List.getD_eq_getElem?_getD, List.getElem?_map, List.getElem?_map, List.getElem?_set_ne (by omega)]
  exact Sat.pick (S := ofL ([F] ++ [famA (rs.set p r')])) [1, 0] rfl rfl h5.bagTail
end Go.Proofs.Ytkmdgnbfojkcnaa
