/- The engine, part E2: regions that draw their order, the induction. -/
import Derived.Test.YtmknmibmnidnoaaEngE
set_option linter.all false
namespace Go.Proofs.Ytmknmibmnidnoaa
open Go
section
variable {P : Program} {N : Nat} {H : Nat → OH} {ops : Array Oper} {ms : List Nat}
theorem opStep_step {o : Oper} {h : OH} {T T' : Tm} {S : St} {φ : St → St} {k k' : Tm → St → Prop} {kp kp' : List PanicEntry → Tm → St → Prop} (hsel : isSel o = false)
    (ha : Agr ops o T T') (hφ : Fr φ (allIds (cls (res P o h)))) (hw : Wide φ S) (hr : opStep P N ops o h T S k kp)
    (hk : ∀ v S', Off S S' (idsOf (cls (res P o h))) → k (putT N o.dst v T) S' → k' (putT N o.dst v T') (φ S')) (hp : ∀ ch S', kp ch T S' → kp' ch T' (φ S')) :
    opStep P N ops o h T' (φ S) k' kp' := by
  rw [opStep_gd] at hr ⊢
  rw [← gd_agr ha]
  split at hr
  · exact opRun_step hsel ha.evs hφ hw hr hk hp
  · exact hk _ _ (Off.refl _ _) hr
  · exact hr.elim
theorem wp_inhab {o : Oper} {a : Act} {w : World} {next : Act → World → Prop} (h : o.wp P a w next fun _ _ _ => False) : ∃ a' w', next a' w' := by
  unfold Oper.wp at h
  generalize (execOp a.eval o).run P w = r at h
  cases r with
  | ok n w' =>
    cases n <;> simp only [Oper.upon] at h <;> first
      | exact h.elim
      | exact ⟨_, _, h⟩
      | (obtain ⟨e, w2, fr, hR, _⟩ := h []
         cases e with
         | returned v => exact ⟨_, _, hR⟩
         | panicked ch => exact hR.elim
         | outgrown => obtain ⟨_, _, hf⟩ := hR; exact hf.elim)
      | (obtain ⟨v, w2, hR, _⟩ := h default []
         exact ⟨_, _, hR⟩)
  | halt x w' => cases x <;> simp only [Oper.upon] at h
/-- Where a step that does not panic leads. -/
theorem opStep_out {o : Oper} {h : OH} {T : Tm} {S : St} {k : Tm → St → Prop} {a : Act} {I : Imm} {w : World} {ds : List Deferred} (hsel : isSel o = false)
    (hr : opStep P N ops o h T S k fun _ _ _ => False) (hrel : Rel N T a) (hd : a.defers = ds) (hs : Sat I S w) :
    ∃ v S' J a' w', Off S S' (idsOf (cls (res P o h))) ∧ Rel N (putT N o.dst v T) a' ∧ a'.defers = ds ∧ Sat J S' w' ∧ k (putT N o.dst v T) S' := by
  have h1 : opStep P N ops o h T S (fun T' S' => ∃ v, T' = putT N o.dst v T ∧ Off S S' (idsOf (cls (res P o h))) ∧ k T' S') (fun _ _ _ => False) :=
    opStep_step (φ := fun S => S) hsel (fun _ _ => rfl) (Fr.id _) (Wide.id _) hr (fun v S' ho hk => ⟨v, rfl, ho, hk⟩) (fun _ _ h => h)
  rw [opStep_gd] at h1
  split at h1
  · obtain ⟨a', w', haft⟩ := wp_inhab (opRun_sound (Q := fun _ _ _ => False) h1 hrel hd hs (fun a' w' h => h) (fun ch a' w' h => by obtain ⟨_, _, _, _, _, _, _, _, hf⟩ := h; exact hf))
    obtain ⟨T', S', J, h1, h2, h3, h4, h5, v, rfl, ho, hk⟩ := haft
    exact ⟨v, S', J, a', w', ho, h1, h2, h4, hk⟩
  · obtain ⟨v, e, ho, hk⟩ := h1
    exact ⟨undef, S, I, a.put o.dst undef, w, ho, hrel.put _ _, by rw [put_defers]; exact hd, hs, hk⟩
  · exact h1.elim
theorem sealed_no {i r : Nat} {l : List Nat} (hi : i ∈ l) (hb : (ms.getD i 0).testBit r = false) : sealed ms r l = false := by
  unfold sealed
  cases hs : l.all fun k => (ms.getD k 0).testBit r with
  | false => rfl
  | true =>
    have := List.all_eq_true.1 hs i hi
    rw [hb] at this
    cases this
abbrev cl (P : Program) (H : Nat → OH) (ops : Array Oper) (i : Nat) : Cls := cls (res P (opAt ops i) (H i))
/-- What must hold between 'i' and what stands before it. -/
structure Past (P : Program) (H : Nat → OH) (ops : Array Oper) (ms : List Nat) (i r : Nat) : Prop where
  bit : (ms.getD i 0).testBit r = false
  apart : (opAt ops i).apart ops (opAt ops r) = true
  pass : passes (cl P H ops r) (cl P H ops i) = true
  sel : isSel (opAt ops r) = false
theorem rgD_cons {i : Nat} {l : List Nat} {T : Tm} {S : St} {k : Tm → St → Prop} {kp : List PanicEntry → Tm → St → Prop} :
    rgD P N H ops ms (i :: l) T S k kp = opStep P N ops (opAt ops i) (H i) T S (fun T S => rgD P N H ops ms l T S k kp) (match sealed ms i l with | true => fun ch _ S => ∀ T, kp ch T S | false => fun _ _ _ => False) := rfl
/-- 'i', whose outcome is settled, is taken out from behind what stands before it. -/
theorem drop_at {i : Nat} {R2 : List Nat} {φ : St → St} {v : Value} {k : Tm → St → Prop} {kp : List PanicEntry → Tm → St → Prop} (Good : Tm → St → Prop)
    (hend : ∀ T S K kp', Good T S → opStep P N ops (opAt ops i) (H i) T S K kp' → K (putT N (opAt ops i).dst v T) (φ S)) (hwide : ∀ T S, Good T S → Wide φ S) :
    ∀ (R1 : List Nat) {T : Tm} {S : St}, (∀ r, r ∈ R1 → Past P H ops ms i r ∧ Fr φ (allIds (cl P H ops r)) ∧ ∀ T S u S', Good T S → Off S S' (idsOf (cl P H ops r)) → Good (putT N (opAt ops r).dst u T) S') →
      Good T S → rgD P N H ops ms (R1 ++ i :: R2) T S k kp → rgD P N H ops ms (R1 ++ R2) (putT N (opAt ops i).dst v T) (φ S) k kp := by
  intro R1
  induction R1 with
  | nil =>
    intro T S _ hg hr
    exact hend T S _ _ hg hr
  | cons r R1 ih =>
    intro T S hpast hg hr
    obtain ⟨hp, hφ, hst⟩ := hpast r (List.mem_cons_self ..)
    rw [List.cons_append, rgD_cons] at hr ⊢
    have hun : sealed ms r (R1 ++ i :: R2) = false := sealed_no (List.mem_append_right _ (List.mem_cons_self ..)) hp.bit
    rw [hun] at hr
    refine opStep_step hp.sel (Agr.put hp.apart v T) hφ (hwide T S hg) hr (fun u S' ho hk => ?_) (fun ch S' hf => hf.elim)
    have hg' := hst T S u S' hg ho
    have := ih (fun r hr => hpast r (List.mem_cons_of_mem _ hr)) hg' hk
    rw [putT_comm (x := (opAt ops i).dst) (y := (opAt ops r).dst) (fun d hd => (Oper.apart_spec hp.apart).2.1 d hd)] at this
    exact this
/-- What is seen of 'i' when it comes up in its own place. -/
theorem seen_at {i : Nat} {R2 : List Nat} {ds : List Deferred} {k : Tm → St → Prop} {kp : List PanicEntry → Tm → St → Prop} : ∀ (R1 : List Nat) {T : Tm} {S : St} {a : Act} {I : Imm} {w : World}, (∀ r, r ∈ R1 → Past P H ops ms i r) →
    (∀ r j, r ∈ R1 → j ∈ readsOf (cl P H ops i) → j ∉ idsOf (cl P H ops r)) → rgD P N H ops ms (R1 ++ i :: R2) T S k kp → Rel N T a → a.defers = ds → Sat I S w →
    ∃ T' S' K kp', opStep P N ops (opAt ops i) (H i) T' S' K kp' ∧ Agr ops (opAt ops i) T T' ∧ ∀ j, j ∈ readsOf (cl P H ops i) → gt S' j = gt S j := by
  intro R1
  induction R1 with
  | nil =>
    intro T S a I w _ _ hr _ _ _
    exact ⟨T, S, _, _, hr, fun _ _ => rfl, fun _ _ => rfl⟩
  | cons r R1 ih =>
    intro T S a I w hpast hrd hr hrel hd hs
    have hp := hpast r (List.mem_cons_self ..)
    rw [List.cons_append, rgD_cons] at hr
    have hun : sealed ms r (R1 ++ i :: R2) = false := sealed_no (List.mem_append_right _ (List.mem_cons_self ..)) hp.bit
    rw [hun] at hr
    obtain ⟨v, S', J, a', w', ho, hrel', hd', hs', hk⟩ := opStep_out hp.sel hr hrel hd hs
    obtain ⟨T2, S2, K, kp', h1, h2, h3⟩ := ih (fun r hr => hpast r (List.mem_cons_of_mem _ hr)) (fun r j hr => hrd r j (List.mem_cons_of_mem _ hr)) hk hrel' hd' hs'
    refine ⟨T2, S2, K, kp', h1, fun t ht => ?_, fun j hj => ?_⟩
    · exact ((Agr.put' hp.apart v T) t ht).trans (h2 t ht)
    · rw [h3 j hj]; exact ho j (hrd r j (List.mem_cons_self ..) hj)
theorem opRun_quiet {o : Oper} {h : OH} {T : Tm} {S : St} {k : Tm → St → Prop} {kp : List PanicEntry → Tm → St → Prop} {l : List Nat} (hc : cls (res P o h) = .quiet l) (hr : opRun P N o h T S k kp) :
    qRun P o (res P o h) T S fun v => k (putT N o.dst v T) S := by
  unfold opRun at hr
  generalize res P o h = g at *
  cases g <;> first
    | exact hr
    | exact hr.no.elim
    | cases hc
theorem quiet_opRun {o : Oper} {h : OH} {T : Tm} {S : St} {k : Tm → St → Prop} {kp : List PanicEntry → Tm → St → Prop} {l : List Nat} (hc : cls (res P o h) = .quiet l) (hr : qRun P o (res P o h) T S fun v => k (putT N o.dst v T) S) :
    opRun P N o h T S k kp := by
  unfold opRun
  generalize res P o h = g at *
  cases g <;> first
    | exact hr
    | exact hr.elim
    | cases hc
theorem disj_spec {a b : List Nat} (h : disj a b = true) : ∀ i, i ∈ a → i ∉ b := by
  intro i hi hb
  have := List.all_eq_true.1 (List.all_eq_true.1 h i hi) i hb
  simp at this
/-- 'i' is taken ahead of what stands before it. -/
theorem move {i : Nat} {R1 R2 : List Nat} {T : Tm} {S : St} {a : Act} {I : Imm} {w : World} {ds : List Deferred} {k : Tm → St → Prop} {kp : List PanicEntry → Tm → St → Prop}
    (hsel : isSel (opAt ops i) = false) (hpast : ∀ r, r ∈ R1 → Past P H ops ms i r) (hfresh : ∀ j, cl P H ops i = .new j → gt S j = .emp)
    (hr : rgD P N H ops ms (R1 ++ i :: R2) T S k kp) (hrel : Rel N T a) (hd : a.defers = ds) (hs : Sat I S w) :
    opStep P N ops (opAt ops i) (H i) T S (fun T S => rgD P N H ops ms (R1 ++ R2) T S k kp) (match sealed ms i R2 with | true => fun ch _ S => ∀ T, kp ch T S | false => fun _ _ _ => False) := by
  have hex : ∀ {T T'}, Agr ops (opAt ops i) T T' → execOp (ev T) (opAt ops i) = execOp (ev T') (opAt ops i) := fun h => execOp_congr _ (notSel hsel) h.evs
  rw [opStep_gd]
  have hseen := fun (hrd : ∀ r j, r ∈ R1 → j ∈ readsOf (cl P H ops i) → j ∉ idsOf (cl P H ops r)) => seen_at (ds := ds) R1 hpast hrd hr hrel hd hs
  cases hg : gd ops (opAt ops i) T with
  | none =>
    exfalso
    cases hc : cl P H ops i with
    | quiet l =>
      obtain ⟨T', S', K, kp', h1, h2, _⟩ := hseen (fun r j hr hj => by
        have hp := (hpast r hr).pass
        rw [hc] at hp hj
        revert hp
        cases hcr : cl P H ops r <;> intro hp <;> simp only [passes] at hp <;> simp only [idsOf]
        · simp
        · exact disj_spec hp j hj
        · exact disj_spec hp j hj)
      rw [opStep_gd, ← gd_agr h2, hg] at h1
      exact h1
    | new l =>
      obtain ⟨T', S', K, kp', h1, h2, _⟩ := hseen (fun r j hr hj => by rw [hc] at hj; simp [readsOf] at hj)
      rw [opStep_gd, ← gd_agr h2, hg] at h1
      exact h1
    | eff l =>
      obtain ⟨T', S', K, kp', h1, h2, _⟩ := hseen (fun r j hr hj => by rw [hc] at hj; simp [readsOf] at hj)
      rw [opStep_gd, ← gd_agr h2, hg] at h1
      exact h1
  | some met =>
    cases met with
    | false =>
      refine drop_at (φ := fun S => S) (fun T _ => gd ops (opAt ops i) T = some false) (fun T S K kp' hg h => ?_) (fun _ _ _ => Wide.id _) R1 (fun r hr => ⟨hpast r hr, Fr.id _, fun T S u S' hg _ => ?_⟩) hg hr
      · rw [opStep_gd, hg] at h; exact h
      · rw [← gd_agr (Agr.put' (hpast r hr).apart u T)]; exact hg
    | true =>
      simp only
      cases hc : cl P H ops i with
      | quiet l =>
        have hoff : ∀ r j, r ∈ R1 → j ∈ readsOf (cl P H ops i) → j ∉ idsOf (cl P H ops r) := fun r j hr hj => by
          have hp := (hpast r hr).pass
          rw [hc] at hp hj
          revert hp
          cases hcr : cl P H ops r <;> intro hp <;> simp only [passes] at hp <;> simp only [idsOf]
          · simp
          · exact disj_spec hp j hj
          · exact disj_spec hp j hj
        have hcl : ∀ j, j ∈ readsOf (cls (res P (opAt ops i) (H i))) → j ∈ readsOf (cl P H ops i) := fun j hj => hj
        obtain ⟨T', S', K, kp', h1, h2, h3⟩ := hseen hoff
        rw [opStep_gd, ← gd_agr h2, hg] at h1
        obtain ⟨v, hv, _⟩ := q_eq (opRun_quiet hc h1)
        have hv' : qRun P (opAt ops i) (res P (opAt ops i) (H i)) T S (· = v) := q_congr hsel (fun x hx => (h2.evs x hx).symm) (fun j hj => h3 j hj) hv
        obtain ⟨u, hu, _⟩ := q_val hv' hs
        refine quiet_opRun hc (q_mono hv' fun x e => ?_)
        subst e
        refine drop_at (φ := fun S => S) (fun T S => gd ops (opAt ops i) T = some true ∧ ∀ v', qRun P (opAt ops i) (res P (opAt ops i) (H i)) T S (· = v') → v' = x) (fun T S K kp' hg h => ?_) (fun _ _ _ => Wide.id _) R1
          (fun r hr => ⟨hpast r hr, Fr.id _, fun T S u S' hg ho => ⟨?_, fun v' hv' => ?_⟩⟩) ⟨hg, fun v' hv2 => ?_⟩ hr
        · rw [opStep_gd, hg.1] at h
          obtain ⟨y, hy, hk⟩ := q_eq (opRun_quiet hc h)
          rw [hg.2 y hy] at hk
          exact hk
        · rw [← gd_agr (Agr.put' (hpast r hr).apart u T)]; exact hg.1
        · exact hg.2 v' (q_congr hsel (fun x hx => ((Agr.put' (hpast r hr).apart u T).evs x hx).symm) (fun j hj => ho j (hoff r j hr hj)) hv')
        · obtain ⟨y, hy, e⟩ := q_val hv2 hs
          obtain ⟨z, hz, e2⟩ := q_val hv' hs
          rw [← e, ← e2]
          exact hy.unique hz
      | new j =>
        obtain ⟨T', S', K, kp', h1, h2, _⟩ := hseen (fun r j hr hj => by rw [hc] at hj; simp [readsOf] at hj)
        rw [opStep_gd, ← gd_agr h2, hg] at h1
        have hres : ∃ j', res P (opAt ops i) (H i) = .n j' ∧ j' = j := by
          revert hc
          show cls (res P (opAt ops i) (H i)) = .new j → _
          generalize res P (opAt ops i) (H i) = g
          intro hc
          cases g <;> simp only [cls] at hc <;> first | exact ⟨_, rfl, by simpa using hc⟩ | cases hc
        obtain ⟨j', hres, rfl⟩ := hres
        unfold opRun at h1 ⊢
        rw [hres] at h1 ⊢
        simp only at h1 ⊢
        rw [← hex h2] at h1
        split at h1
        · rename_i ob f hal
          intro b
          have hb := h1 b
          split at hb
          · rename_i v hv
            refine drop_at (φ := fun S => updS S j' (mkAtom b ob)) (fun T S => gd ops (opAt ops i) T = some true ∧ alF P (execOp (ev T) (opAt ops i)) = some (ob, f) ∧ gt S j' = .emp) (fun T S K kp' hg h => ?_) (fun _ _ hg => Wide.upd hg.2.2 _) R1
              (fun r hr => ⟨hpast r hr, Fr.upd (fun hm => ?_) _, fun T S u S' hg ho => ⟨?_, ?_, ?_⟩⟩) ⟨hg, hal, hfresh j' hc⟩ hr
            · rw [opStep_gd, hg.1] at h
              unfold opRun at h
              rw [hres] at h
              simp only [hg.2.1] at h
              have := h b
              rw [hv] at this
              exact this
            · have hp := (hpast r hr).pass
              rw [hc] at hp
              revert hp hm
              cases hcr : cl P H ops r <;> intro hm hp <;> simp only [passes] at hp <;> simp only [allIds, readsOf, idsOf, List.append_nil, List.nil_append] at hm
              · exact disj_spec hp j' hm (by simp)
              · simp only [List.mem_singleton] at hm; subst hm; simp at hp
              · exact disj_spec hp j' (by simp) hm
            · rw [← gd_agr (Agr.put' (hpast r hr).apart u T)]; exact hg.1
            · rw [← hex (Agr.put' (hpast r hr).apart u T)]; exact hg.2.1
            · rw [ho j' (fun hm => ?_)]; exact hg.2.2
              have hp := (hpast r hr).pass
              rw [hc] at hp
              revert hp hm
              cases hcr : cl P H ops r <;> intro hm hp <;> simp only [passes] at hp <;> simp only [idsOf] at hm
              · simp at hm
              · simp only [List.mem_singleton] at hm; subst hm; simp at hp
              · exact disj_spec hp j' (by simp) hm
          · exact hb.elim
        · exact h1.elim
      | eff ids =>
        -- what stands before it is quiet and looks elsewhere
        have hq : ∀ r, r ∈ R1 → ∃ l, cl P H ops r = .quiet l ∧ ∀ j, j ∈ l → j ∉ ids := fun r hr => by
          have hp := (hpast r hr).pass
          rw [hc] at hp
          cases hcr : cl P H ops r with
          | quiet l => rw [hcr] at hp; exact ⟨l, rfl, fun j hj => disj_spec hp j hj⟩
          | new j => rw [hcr] at hp; cases hp
          | eff l => rw [hcr] at hp; cases hp
        clear hseen hfresh hrel hs hd
        induction R1 generalizing T S with
        | nil =>
          have hr' : opStep P N ops (opAt ops i) (H i) T S _ _ := hr
          rw [opStep_gd, hg] at hr'
          exact hr'
        | cons r R1 ih =>
          have hp := hpast r (List.mem_cons_self ..)
          obtain ⟨l, hl, hld⟩ := hq r (List.mem_cons_self ..)
          rw [List.cons_append, rgD_cons] at hr
          have step : ∀ u, rgD P N H ops ms (R1 ++ i :: R2) (putT N (opAt ops r).dst u T) S k kp →
              (∀ v S', Off S S' ids → rgD P N H ops ms (R1 ++ R2) (putT N (opAt ops i).dst v (putT N (opAt ops r).dst u T)) S' k kp → rgD P N H ops ms (r :: (R1 ++ R2)) (putT N (opAt ops i).dst v T) S' k kp) →
              opRun P N (opAt ops i) (H i) T S (fun T S => rgD P N H ops ms (r :: (R1 ++ R2)) T S k kp) (match sealed ms i R2 with | true => fun ch _ S => ∀ T, kp ch T S | false => fun _ _ _ => False) := by
            intro u hk hback
            have ha := Agr.put' (N := N) hp.apart u T
            have := ih (T := putT N (opAt ops r).dst u T) (S := S) (fun r hr => hpast r (List.mem_cons_of_mem _ hr)) hk (by rw [← gd_agr ha]; exact hg) (fun r hr => hq r (List.mem_cons_of_mem _ hr))
            refine opRun_step (φ := fun S => S) hsel (fun x hx => (ha.evs x hx).symm) (Fr.id _) (Wide.id _) this (fun v S' ho hh => hback v S' (ho.mono fun j hj => ?_) hh) (fun ch S' hh => ?_)
            · have : idsOf (cl P H ops i) = ids := by rw [hc]; rfl
              rw [← this]; exact hj
            · revert hh; cases sealed ms i R2 <;> exact fun h => h
          rw [opStep_gd] at hr
          cases hgr : gd ops (opAt ops r) T with
          | none => rw [hgr] at hr; exact hr.elim
          | some met =>
            cases met with
            | false =>
              rw [hgr] at hr
              refine step undef hr fun v S' ho hh => ?_
              rw [rgD_cons, opStep_gd, ← gd_agr (Agr.put hp.apart v T), hgr]
              rw [putT_comm (x := (opAt ops i).dst) (y := (opAt ops r).dst) (fun d hd => (Oper.apart_spec hp.apart).2.1 d hd)] at hh
              exact hh
            | true =>
              rw [hgr] at hr
              obtain ⟨u, hu, hk⟩ := q_eq (opRun_quiet hl hr)
              refine step u hk fun v S' ho hh => ?_
              rw [rgD_cons, opStep_gd, ← gd_agr (Agr.put hp.apart v T), hgr]
              refine quiet_opRun hl ?_
              have hrs : readsOf (cls (res P (opAt ops r) (H r))) = l := by
                have : cls (res P (opAt ops r) (H r)) = .quiet l := hl
                rw [this]; rfl
              refine q_mono (q_congr hp.sel (fun x hx => (Agr.put hp.apart v T).evs x hx) (fun j hj => ?_) hu) (fun x e => ?_)
              · rw [hrs] at hj
                exact (ho j (hld j hj)).symm
              · subst e
                rw [putT_comm (x := (opAt ops i).dst) (y := (opAt ops r).dst) (fun d hd => (Oper.apart_spec hp.apart).2.1 d hd)] at hh
                exact hh
/-! ## the masks -/
theorem foldr_mask {acc : List Nat} {r : Nat} : ∀ (es : List Edge), (es.foldr (fun e s => bif Region.binds .any e then (2 ^ e.on ||| acc.getD e.on 0) ||| s else s) 0).testBit r = true →
    ∃ e, e ∈ es ∧ Region.binds .any e = true ∧ (e.on = r ∨ (acc.getD e.on 0).testBit r = true) := by
  intro es
  induction es with
  | nil => intro h; simp at h
  | cons e es ih =>
    intro h
    simp only [List.foldr_cons] at h
    cases hb : Region.binds .any e with
    | false =>
      rw [hb] at h
      obtain ⟨e', h1, h2⟩ := ih h
      exact ⟨e', List.mem_cons_of_mem _ h1, h2⟩
    | true =>
      rw [hb] at h
      simp only [cond_true, Nat.testBit_or, Bool.or_eq_true, Nat.testBit_two_pow] at h
      rcases h with (h | h) | h
      · exact ⟨e, List.mem_cons_self .., hb, .inl (by simpa using h)⟩
      · exact ⟨e, List.mem_cons_self .., hb, .inr h⟩
      · obtain ⟨e', h1, h2⟩ := ih h
        exact ⟨e', List.mem_cons_of_mem _ h1, h2⟩
theorem mask_foldr {acc : List Nat} : ∀ (es : List Edge) {e : Edge}, e ∈ es → Region.binds .any e = true → (es.foldr (fun e s => bif Region.binds .any e then (2 ^ e.on ||| acc.getD e.on 0) ||| s else s) 0).testBit e.on = true := by
  intro es
  induction es with
  | nil => intro e h; cases h
  | cons x es ih =>
    intro e h hb
    simp only [List.foldr_cons]
    rcases List.mem_cons.1 h with rfl | h
    · rw [hb]; simp [Nat.testBit_or, Nat.testBit_two_pow]
    · have := ih h hb
      cases Region.binds .any x <;> simp only [Nat.testBit_or, this, Bool.or_true, cond_true, cond_false]
/-- 'listed' is closed under what binds. -/
def Closed (ops : Array Oper) (listed : Array Bool) : Prop := ∀ i o, ops[i]? = some o → listed.getD i false = true → ∀ e, e ∈ o.after.toList → Region.binds .any e = true → listed.getD e.on false = true
theorem masks_ok (listed : Array Bool) (hc : Closed ops listed) : ∀ (l : List Oper) (acc : List Nat), (∀ j, l[j]? = ops[acc.length + j]?) →
    (∀ i, i < acc.length → ∀ o, ops[i]? = some o → (∀ e, e ∈ o.after.toList → Region.binds .any e = true → listed.getD e.on false = true) → ∀ r, (acc.getD i 0).testBit r = true → listed.getD r false = true) →
    ∀ i o, ops[i]? = some o → (∀ e, e ∈ o.after.toList → Region.binds .any e = true → listed.getD e.on false = true) → ∀ r, ((masks l acc).getD i 0).testBit r = true → i < acc.length + l.length → listed.getD r false = true := by
  intro l
  induction l with
  | nil =>
    intro acc _ hacc i o ho hpre r hr hi
    exact hacc i (by simpa using hi) o ho hpre r hr
  | cons o l ih =>
    intro acc hl hacc i o' ho hpre r hr hi
    refine ih (acc ++ [mask o acc]) (fun j => ?_) (fun i' hi' o2 ho2 hpre2 r2 hr2 => ?_) i o' ho hpre r hr (by simp at hi ⊢; omega)
    · have := hl (j + 1)
      simp only [List.getElem?_cons_succ] at this
      rw [this]; simp; congr 1; omega
    · by_cases hlt : i' < acc.length
      · refine hacc i' hlt o2 ho2 hpre2 r2 ?_
        rw [List.getD_eq_getElem?_getD, List.getElem?_append_left hlt, ← List.getD_eq_getElem?_getD] at hr2
        exact hr2
      · have hi2 : i' = acc.length := by simp at hi'; omega
        subst hi2
        have ho3 : some o = ops[acc.length]? := by simpa using hl 0
        rw [← ho3] at ho2
        simp only [Option.some.injEq] at ho2
        subst ho2
        rw [List.getD_eq_getElem?_getD, List.getElem?_append_right (Nat.le_refl _)] at hr2
        simp only [Nat.sub_self, List.getElem?_cons_zero, Option.getD_some] at hr2
        obtain ⟨e, h1, h2, h3⟩ := foldr_mask _ hr2
        have hle := hpre2 e h1 h2
        rcases h3 with rfl | h3
        · exact hle
        · by_cases hon : e.on < acc.length
          · have hon' : ∃ o4, ops[e.on]? = some o4 := by
              have hsz : acc.length < ops.size := by
                rcases Nat.lt_or_ge acc.length ops.size with h | h
                · exact h
                · simp [Array.getElem?_eq_none h] at ho3
              exact ⟨ops[e.on], by simp [show e.on < ops.size by omega]⟩
            obtain ⟨o4, ho4⟩ := hon'
            exact hacc e.on hon o4 ho4 (hc e.on o4 ho4 hle) r2 h3
          · rw [List.getD_eq_getElem?_getD, List.getElem?_eq_none (by omega)] at h3
            simp at h3
theorem mask_edge {i : Nat} {o : Oper} (ho : ops[i]? = some o) {e : Edge} (he : e ∈ o.after.toList) (hb : Region.binds .any e = true) : ((masks ops.toList []).getD i 0).testBit e.on = true := by
  have key : ∀ (l : List Oper) (acc : List Nat), (∀ j, l[j]? = ops[acc.length + j]?) → acc.length ≤ i → i < acc.length + l.length → ((masks l acc).getD i 0).testBit e.on = true := by
    intro l
    induction l with
    | nil => intro acc _ h1 h2; simp at h2; omega
    | cons x l ih =>
      intro acc hl h1 h2
      simp only [masks]
      by_cases hi : i = acc.length
      · subst hi
        have hx : x = o := by have := hl 0; simp at this; rw [← this] at ho; simpa using ho
        subst hx
        have keep : ∀ (l : List Oper) (acc : List Nat) (j : Nat), j < acc.length → (masks l acc).getD j 0 = acc.getD j 0 := by
          intro l
          induction l with
          | nil => intro acc j _; rfl
          | cons y l ih =>
            intro acc j hj
            simp only [masks]
            rw [ih _ j (by simp; omega)]
            simp only [List.getD_eq_getElem?_getD, List.getElem?_append_left hj]
        rw [keep l _ _ (by simp)]
        rw [List.getD_eq_getElem?_getD, List.getElem?_append_right (Nat.le_refl _)]
        simp only [Nat.sub_self, List.getElem?_cons_zero, Option.getD_some]
        exact mask_foldr _ he hb
      · refine ih (acc ++ [mask x acc]) (fun j => ?_) (by simp; omega) (by simp at h2 ⊢; omega)
        have := hl (j + 1)
        simp only [List.getElem?_cons_succ] at this
        rw [this]; simp; congr 1; omega
  refine key ops.toList [] (fun j => by simp) (Nat.zero_le _) ?_
  rcases Nat.lt_or_ge i ops.size with h | h
  · simpa using h
  · simp [Array.getElem?_eq_none h] at ho

/-! ## whatever order is drawn -/
theorem pairsOk_split {R1 R2 : List Nat} {i : Nat} (h : pairsOk P H ops ms (R1 ++ i :: R2) = true) : (∀ r, r ∈ R1 → pairOk P H ops ms r i = true) ∧ pairsOk P H ops ms (R1 ++ R2) = true ∧ (∀ r, r ∈ R2 → pairOk P H ops ms i r = true) := by
  induction R1 with
  | nil =>
    simp only [List.nil_append, pairsOk, Bool.and_eq_true, List.all_eq_true] at h ⊢
    exact ⟨fun r hr => (by cases hr), h.2, h.1⟩
  | cons r R1 ih =>
    simp only [List.cons_append, pairsOk, Bool.and_eq_true, List.all_eq_true] at h ⊢
    obtain ⟨h1, h2, h3⟩ := ih h.2
    refine ⟨fun r' hr' => ?_, ⟨fun k hk => h.1 k ?_, h2⟩, h3⟩
    · rcases List.mem_cons.1 hr' with rfl | hr'
      · exact h.1 i (by simp)
      · exact h1 r' hr'
    · rcases List.mem_append.1 hk with hk | hk
      · exact List.mem_append_left _ hk
      · exact List.mem_append_right _ (List.mem_cons_of_mem _ hk)
structure Drawn (P : Program) (N : Nat) (H : Nat → OH) (ops : Array Oper) (ds : List Deferred) (k : Tm → St → Prop) (kp : List PanicEntry → Tm → St → Prop) (listed : Array Bool) (l : List Nat) (T : Tm) (S : St) (I : Imm) (a : Act) (w : World) : Prop where
  size : listed.size = ops.size
  mem : ∀ i, i < ops.size → (i ∈ l ↔ listed.getD i true = false)
  lt : ∀ i, i ∈ l → i < ops.size
  nodup : l.Nodup
  closed : Closed ops listed
  pairs : pairsOk P H ops (masks ops.toList []) l = true
  run : rgD P N H ops (masks ops.toList []) l T S k kp
  fresh : ∀ i j, i ∈ l → cl P H ops i = .new j → gt S j = .emp
  rel : Rel N T a
  defers : a.defers = ds
  sat : Sat I S w
theorem any_sound {ds : List Deferred} {Q : Exit → Act → World → Prop} {k : Tm → St → Prop} {kp : List PanicEntry → Tm → St → Prop} {I0 : Imm} {w0 : World}
    (hsel : ∀ i, i < ops.size → isSel (opAt ops i) = false) (hedge : ∀ (i : Nat) (o : Oper), ops[i]? = some o → ∀ e : Edge, e ∈ o.after.toList → Region.binds .any e = true → e.on < ops.size)
    (hself : ∀ i, i < ops.size → ((masks ops.toList []).getD i 0).testBit i = false)
    (hk : ∀ a' w', Aft N I0 w0 ds k a' w' → Q .normal a' w') (hQ : ∀ ch a' w', Aft N I0 w0 ds (kp ch) a' w' → Q (.panic ch) a' w') :
    ∀ (fuel : Nat) {listed : Array Bool} {l : List Nat} {T : Tm} {S : St} {I : Imm} {a : Act} {w : World}, l.length ≤ fuel → Imm.le I0 I → Env w0 w → Drawn P N H ops ds k kp listed l T S I a w → wpAny P .any ops Q fuel listed a w := by
  intro fuel
  -- the first of what is left is ready
  have head : ∀ {listed : Array Bool} {r : Nat} {l : List Nat} {T : Tm} {S : St} {I : Imm} {a : Act} {w : World}, Drawn P N H ops ds k kp listed (r :: l) T S I a w → r ∈ Region.ready .any ops listed := by
    intro listed r l T S I a w D
    have hr := D.lt r (List.mem_cons_self ..)
    have hrl := (D.mem r hr).1 (List.mem_cons_self ..)
    have hop : ops[r]? = some ops[r] := by simp [hr]
    unfold Region.ready
    refine List.mem_filter.2 ⟨List.mem_range.2 hr, ?_⟩
    simp only [hrl, Bool.not_false, Bool.true_and, hop, Option.map_some, Option.getD_some]
    rw [← Array.all_toList, List.all_eq_true]
    intro e he
    cases hb : Region.binds .any e with
    | false => rfl
    | true =>
      simp only [Bool.not_true, Bool.false_or]
      have hlt := hedge r _ hop e he hb
      have hbit := mask_edge hop he hb
      cases hl : listed.getD e.on true with
      | true =>
        have : e.on < listed.size := by rw [D.size]; exact hlt
        simpa [Array.getD_eq_getD_getElem?, this] using hl
      | false =>
        exfalso
        have hm := (D.mem e.on hlt).2 hl
        rcases List.mem_cons.1 hm with e1 | hm
        · rw [e1, hself r hr] at hbit; cases hbit
        · have hp := D.pairs
          simp only [pairsOk, Bool.and_eq_true, List.all_eq_true] at hp
          have := hp.1 _ hm
          simp only [pairOk, Bool.and_eq_true, Bool.not_eq_true'] at this
          rw [this.1.1] at hbit
          cases hbit
  have done : ∀ {listed : Array Bool} {l : List Nat} {T : Tm} {S : St} {I : Imm} {a : Act} {w : World}, Imm.le I0 I → Env w0 w → Drawn P N H ops ds k kp listed l T S I a w → Region.ready .any ops listed = [] → Q .normal a w := by
    intro listed l T S I a w hle henv D h0
    cases l with
    | nil => exact hk _ _ ⟨T, S, I, D.rel, D.defers, hle, D.sat, henv, D.run⟩
    | cons r l => have := head D; rw [h0] at this; cases this
  induction fuel with
  | zero =>
    intro listed l T S I a w hl hle henv D
    have : l = [] := List.length_eq_zero_iff.1 (Nat.le_zero.1 hl)
    subst this
    have hr : Region.ready .any ops listed = [] := by
      unfold Region.ready
      refine List.filter_eq_nil_iff.2 fun i hi => ?_
      have hi' := List.mem_range.1 hi
      have : listed.getD i true = true := by
        cases hh : listed.getD i true with
        | true => rfl
        | false => have := (D.mem i hi').2 hh; cases this
      simp [this]
    exact ⟨hr, done hle henv D hr⟩
  | succ fuel ih =>
    intro listed l T S I a w hl hle henv D
    refine ⟨done hle henv D, fun i hi => ?_⟩
    obtain ⟨hi1, hi2⟩ := List.mem_filter.1 hi
    have hlt := List.mem_range.1 hi1
    have hop : ops[i]? = some ops[i] := by simp [hlt]
    have hoa : opAt ops i = ops[i] := by simp [opAt, Array.getD_eq_getD_getElem?, hop]
    simp only [Bool.and_eq_true, Bool.not_eq_true', hop, Option.map_some, Option.getD_some] at hi2
    obtain ⟨hnl, hpre⟩ := hi2
    rw [← Array.all_toList, List.all_eq_true] at hpre
    have hpre' : ∀ e, e ∈ ops[i].after.toList → Region.binds .any e = true → listed.getD e.on false = true := fun e he hb => by
      have := hpre e he
      rw [hb] at this
      simpa using this
    have hmem := (D.mem i hlt).2 hnl
    obtain ⟨R1, R2, rfl⟩ := List.append_of_mem hmem
    obtain ⟨hp1, hp2, hp3⟩ := pairsOk_split D.pairs
    have hsz : ∀ r, r < ops.size → listed.getD r true = false → listed.getD r false = false := fun r hr h => by
      have : r < listed.size := by rw [D.size]; exact hr
      simpa [Array.getD_eq_getD_getElem?, this] using h
    have hbit : ∀ r, r ∈ R1 → ((masks ops.toList []).getD i 0).testBit r = false := fun r hr => by
      cases hb : ((masks ops.toList []).getD i 0).testBit r with
      | false => rfl
      | true =>
        have hrm : r ∈ R1 ++ i :: R2 := List.mem_append_left _ hr
        have hrlt := D.lt r hrm
        have := masks_ok listed D.closed ops.toList [] (fun j => by simp) (fun i hi => by simp at hi) i ops[i] hop hpre' r hb (by simpa using hlt)
        rw [hsz r hrlt ((D.mem r hrlt).1 hrm)] at this
        cases this
    have hpast : ∀ r, r ∈ R1 → Past P H ops (masks ops.toList []) i r := fun r hr => by
      have := hp1 r hr
      simp only [pairOk, Bool.and_eq_true, hbit r hr, Bool.false_or] at this
      exact ⟨hbit r hr, this.2.1, this.2.2, hsel r (D.lt r (List.mem_append_left _ hr))⟩
    have hmv := move (kp := kp) (hsel i hlt) hpast (fun j hj => D.fresh i j hmem hj) D.run D.rel D.defers D.sat
    have hnd : (R1 ++ R2).Nodup ∧ i ∉ R1 ++ R2 := by
      have := D.nodup
      rw [List.nodup_append] at this
      obtain ⟨h1, h2, h3⟩ := this
      rw [List.nodup_cons] at h2
      refine ⟨List.nodup_append.2 ⟨h1, h2.2, fun a ha b hb => h3 a ha b (List.mem_cons_of_mem _ hb)⟩, fun hm => ?_⟩
      rcases List.mem_append.1 hm with hm | hm
      · exact h3 i hm i (List.mem_cons_self ..) rfl
      · exact h2.1 hm
    unfold wpOp
    rw [hop]
    simp only
    have hmv' : opStep P N ops (opAt ops i) (H i) T S (fun T' S' => (∀ r j, r ∈ R1 ++ R2 → cl P H ops r = .new j → gt S' j = .emp) ∧ rgD P N H ops (masks ops.toList []) (R1 ++ R2) T' S' k kp)
        (match sealed (masks ops.toList []) i R2 with | true => fun ch _ S => ∀ T, kp ch T S | false => fun _ _ _ => False) := by
      refine opStep_step (φ := fun S => S) (hsel i hlt) (fun _ _ => rfl) (Fr.id _) (Wide.id _) hmv (fun v S' ho hh => ⟨fun r j hr hj => ?_, hh⟩) (fun _ _ h => h)
      have hrm : r ∈ R1 ++ i :: R2 := by
        rcases List.mem_append.1 hr with hr | hr
        · exact List.mem_append_left _ hr
        · exact List.mem_append_right _ (List.mem_cons_of_mem _ hr)
      rw [ho j ?_]
      · exact D.fresh r j hrm hj
      intro hm
      rcases List.mem_append.1 hr with hr | hr
      · -- r stands before i: 'i' may be taken ahead of it
        have hps := (hpast r hr).pass
        rw [hj] at hps
        have hm' : j ∈ idsOf (cl P H ops i) := hm
        revert hps hm'
        cases cl P H ops i <;> intro hps hm' <;> simp only [passes] at hps <;> simp only [idsOf] at hm'
        · simp at hm'
        · simp only [List.mem_singleton] at hm'; subst hm'; simp at hps
        · cases hps
      · -- r stands behind i: its number is unseen there
        have := hp3 r hr
        simp only [pairOk, Bool.and_eq_true] at this
        have hu := this.1.2
        have hjr : cls (res P (opAt ops r) (H r)) = .new j := hj
        rw [hjr] at hu
        exact disj_spec hu j (by simp) (List.mem_append_right _ hm)
    have := opStep_sound (next := wpAny P .any ops Q fuel (listed.setIfInBounds i true)) (Q := Q) hmv' D.rel D.defers D.sat (fun a' w' haft => ?_) (fun ch a' w' haft => ?_)
    · rw [hoa] at this; exact this
    · obtain ⟨T', S', J, h1, h2, h3, h4, h5, hf, h6⟩ := haft
      refine ih (l := R1 ++ R2) (T := T') (S := S') (I := J) (by simp at hl ⊢; omega) (Imm.le_trans hle h3) (henv.trans h5) ?_
      refine ⟨by simpa using D.size, fun j hj => ?_, fun j hj => D.lt j ?_, hnd.1, ?_, hp2, h6, hf, h1, h2, h4⟩
      · have hjs : j < listed.size := by rw [D.size]; exact hj
        by_cases hji : j = i
        · subst hji
          refine ⟨fun hm => absurd hm hnd.2, fun hh => ?_⟩
          simp [Array.getD_eq_getD_getElem?, hjs] at hh
        · have hm := D.mem j hj
          have e1 : (listed.setIfInBounds i true).getD j true = listed.getD j true := by
            simp [Array.getD_eq_getD_getElem?, Array.getElem?_setIfInBounds, show ¬ i = j from fun e => hji e.symm]
          rw [e1, ← hm]
          simp [hji]
      · rcases List.mem_append.1 hj with hj | hj
        · exact List.mem_append_left _ hj
        · exact List.mem_append_right _ (List.mem_cons_of_mem _ hj)
      · intro j o ho hl2 e he hb
        have mono : ∀ x, listed.getD x false = true → (listed.setIfInBounds i true).getD x false = true := fun x hx => by
          by_cases hxi : i = x
          · subst hxi
            have : i < listed.size := by rw [D.size]; exact hlt
            simp [Array.getD_eq_getD_getElem?, this]
          · simpa [Array.getD_eq_getD_getElem?, Array.getElem?_setIfInBounds, hxi] using hx
        by_cases hji : i = j
        · subst hji
          rw [hop] at ho
          simp only [Option.some.injEq] at ho
          subst ho
          exact mono _ (hpre' e he hb)
        · refine mono _ (D.closed j o ho ?_ e he hb)
          simpa [Array.getD_eq_getD_getElem?, Array.getElem?_setIfInBounds, hji] using hl2
    · refine hQ ch a' w' ((haft.from hle henv).mono fun T S h => ?_)
      revert h
      cases sealed (masks ops.toList []) i R2
      · exact fun h => h.elim
      · exact fun h => h T
theorem nodup_le : ∀ (n : Nat) (l : List Nat), l.Nodup → (∀ x, x ∈ l → x < n) → l.length ≤ n := by
  intro n
  induction n with
  | zero =>
    intro l _ h
    cases l with
    | nil => simp
    | cons x r => have := h x (List.mem_cons_self ..); omega
  | succ n ih =>
    intro l hn h
    by_cases hm : n ∈ l
    · have h1 := ih (l.erase n) (hn.erase n) fun x hx => by
        have := (hn.mem_erase_iff).1 hx
        have := h x this.2
        omega
      have h2 := List.length_erase_of_mem hm
      omega
    · have := ih l hn fun x hx => by
        have h1 := h x hx
        have : x ≠ n := fun e => hm (e ▸ hx)
        omega
      omega
theorem draw_sound {l : List Nat} {ds : List Deferred} {Q : Exit → Act → World → Prop} {T : Tm} {S : St} {k : Tm → St → Prop} {kp : List PanicEntry → Tm → St → Prop} {a : Act} {I : Imm} {w : World}
    (hl : (orderOk P H ops l && freshB S (newIds P H ops l)) = true) (hr : rgD P N H ops (masks ops.toList []) l T S k kp) (hrel : Rel N T a) (hd : a.defers = ds) (hs : Sat I S w)
    (hk : ∀ a' w', Aft N I w ds k a' w' → Q .normal a' w') (hQ : ∀ ch a' w', Aft N I w ds (kp ch) a' w' → Q (.panic ch) a' w') :
    wpAny P .any ops Q ops.size (Array.replicate ops.size false) a w := by
  simp only [orderOk, Bool.and_eq_true] at hl
  obtain ⟨⟨⟨⟨⟨h1, h2⟩, h3⟩, h4⟩, h5⟩, h6⟩ := hl
  have hnd := nodupB_spec h2
  have hlen : l.length = ops.size := by simpa using h3
  rw [List.all_eq_true] at h1 h4
  have hlt : ∀ i, i ∈ l → i < ops.size := fun i hi => by
    have := h4 i hi
    simp only [Bool.and_eq_true] at this
    have := this.1
    rw [Nat.blt_eq] at this
    exact this
  have hall : ∀ i, i < ops.size → i ∈ l := by
    intro i hi
    refine Classical.byContradiction fun hni => ?_
    have := nodup_le ops.size (i :: l) (List.nodup_cons.2 ⟨hni, hnd⟩) fun x hx => by
      rcases List.mem_cons.1 hx with rfl | hx
      · exact hi
      · exact hlt x hx
    simp at this
    omega
  have hopm : ∀ i, i < ops.size → opAt ops i ∈ ops.toList := fun i hi => by
    have : opAt ops i = ops[i] := by simp [opAt, Array.getD_eq_getD_getElem?, hi]
    rw [this]; simp
  refine any_sound (k := k) (kp := kp) (H := H) (I0 := I) (w0 := w) (fun i hi => ?_) (fun i o ho e he hb => ?_) (fun i hi => ?_) hk hQ ops.size (l := l) (T := T) (S := S) (I := I) (by omega) (Imm.le_refl I) (Env.refl w)
    ⟨by simp, fun i hi => ?_, hlt, hnd, fun i o _ hli => ?_, h5, hr, fun i j hi hj => ?_, hrel, hd, hs⟩
  · have := h1 _ (hopm i hi)
    simp only [Bool.and_eq_true, Bool.not_eq_true'] at this
    exact this.1
  · have hi : i < ops.size := by
      rcases Nat.lt_or_ge i ops.size with h | h
      · exact h
      · simp [Array.getElem?_eq_none h] at ho
    have := h1 o (by rw [← Array.getElem?_toList] at ho; exact List.mem_of_getElem? ho)
    simp only [Bool.and_eq_true, List.all_eq_true] at this
    have := this.2 e he
    rw [hb] at this
    simp only [Bool.not_true, Bool.false_or] at this
    rw [Nat.blt_eq] at this
    exact this
  · have := h4 i (hall i hi)
    simp only [Bool.and_eq_true, Bool.not_eq_true'] at this
    exact this.2
  · exact ⟨fun _ => by simp [Array.getD_eq_getD_getElem?, hi], fun _ => hall i hi⟩
  · exfalso
    simp [Array.getD_eq_getD_getElem?, Array.getElem?_replicate] at hli
    split at hli <;> simp at hli
  · have hm : j ∈ newIds P H ops l := List.mem_filterMap.2 ⟨i, hi, by
      have : cls (res P (opAt ops i) (H i)) = .new j := hj
      rw [this]⟩
    have := List.all_eq_true.1 h6 j hm
    revert this
    cases gt S j <;> simp
end
end Go.Proofs.Ytmknmibmnidnoaa
