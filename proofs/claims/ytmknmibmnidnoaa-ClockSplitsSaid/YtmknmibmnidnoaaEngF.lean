/- The engine, part F: code, a whole body, a function's contract. -/
import Derived.Test.YtmknmibmnidnoaaEngG
import Derived.Deep.LoopGhost
set_option linter.all false
namespace Go.Proofs.Ytmknmibmnidnoaa
open Go
section
variable {P : Program} {N : Nat}
theorem E_sound (hm : P.follows .mixedOrders = true) (H : Hints) : ∀ (c : Code) {key : Nat} {T : Tm} {S : St} {K : Exit → Tm → St → Prop} {a : Act} {I : Imm} {w : World} {ds : List Deferred} {Q : Exit → Act → World → Prop},
    E P N H c key T S K → Rel N T a → a.defers = ds → Sat I S w → (∀ e a' w', Aft N I w ds (K e) a' w' → Q e a' w') → c.wp P Q a w := by
  intro c
  induction c with
  | skip =>
    intro key T S K a I w ds Q h hrel hd hs hQ
    exact wp_skip (hQ _ _ _ ⟨T, S, I, hrel, hd, Imm.le_refl I, hs, Env.refl w, h⟩)
  | exit id =>
    intro key T S K a I w ds Q h hrel hd hs hQ
    exact wp_exit (hQ _ _ _ ⟨T, S, I, hrel, hd, Imm.le_refl I, hs, Env.refl w, h⟩)
  | ret =>
    intro key T S K a I w ds Q h hrel hd hs hQ
    exact wp_ret (hQ _ _ _ ⟨T, S, I, hrel, hd, Imm.le_refl I, hs, Env.refl w, h⟩)
  | seq x y ihx ihy =>
    intro key T S K a I w ds Q h hrel hd hs hQ
    simp only [E] at h
    refine wp_seq ?_
    split at h
    · refine ihx h hrel hd hs fun e a' w' haft => ?_
      cases e with
      | normal =>
        obtain ⟨T', S', J, h1, h2, h3, h4, h5, h6⟩ := haft
        exact ihy h6 h1 h2 h4 fun e a w h => hQ e a w (h.from h3 h5)
      | _ => exact hQ _ _ _ haft
    · rename_i V hV
      obtain ⟨hx, hy⟩ := h
      refine ihx hx hrel hd hs fun e a' w' haft => ?_
      cases e with
      | normal =>
        obtain ⟨T', S', J, h1, h2, h3, h4, h5, x, hp, he, hent⟩ := haft
        obtain ⟨J', hle, hs'⟩ := hent.h J w' h4
        exact ihy (hy x T'.at hp) (over_rel h1 he) h2 hs' fun e a w h => hQ e a w (h.from (Imm.le_trans h3 hle) h5)
      | _ => exact hQ _ _ _ haft
  | cond x c1 c2 ih1 ih2 =>
    intro key T S K a I w ds Q h hrel hd hs hQ
    simp only [E] at h
    split at h
    · rename_i t ht
      have hc : a.eval x = .bool t := by rw [hrel.eval]; exact ht
      refine wp_cond hc ?_
      rcases Br.cases h with ⟨rfl, hk⟩ | ⟨rfl, hk⟩
      · exact ih1 hk hrel hd hs hQ
      · exact ih2 hk hrel hd hs hQ
    · exact h.elim
  | block id c ih =>
    intro key T S K a I w ds Q h hrel hd hs hQ
    simp only [E] at h
    refine wp_block (ih h hrel hd hs fun e a' w' haft => ?_)
    cases e with
    | exit i =>
      simp only [Exit.inBlock]
      by_cases hi : i = id
      · subst hi
        simp only [if_true]
        refine hQ _ _ _ (haft.mono fun T S h => ?_)
        simpa using h
      · simp only [hi, if_false]
        refine hQ _ _ _ (haft.mono fun T S h => ?_)
        simpa [beq_ne hi] using h
    | _ => exact hQ _ _ _ haft
  | loop c ih =>
    intro key T S K a I w ds Q h hrel hd hs hQ
    simp only [E] at h
    split at h
    · exact h.elim
    · rename_i V hV
      obtain ⟨⟨x0, hp0, he0, hent0⟩, hround⟩ := h
      obtain ⟨J0, hle0, hs0⟩ := hent0.h I w hs
      refine wp_loop_ghost (fun n a' w' => ∃ x js J, V.mu x = n ∧ V.P x ∧ Rel N (over js (V.lv x)) a' ∧ a'.defers = ds ∧ Imm.le I J ∧ Sat J (ofL (V.st x)) w' ∧ Env w w') (V.mu x0)
        ⟨x0, T.at, J0, rfl, hp0, over_rel hrel he0, hd, hle0, hs0, Env.refl w⟩ ?_
      rintro n a' w' ⟨x, js, J, rfl, hp, hrel', hd', hle, hs', henv⟩
      refine ih (hround x js hp) hrel' hd' hs' fun e a2 w2 haft => ?_
      cases e with
      | normal =>
        obtain ⟨T', S', J', h1, h2, h3, h4, h5, y, hpy, hey, henty, hmu⟩ := haft
        obtain ⟨J2, hle2, hs2⟩ := henty.h J' w2 h4
        exact ⟨V.mu y, hmu, y, T'.at, J2, rfl, hpy, over_rel h1 hey, h2, Imm.le_trans hle (Imm.le_trans h3 hle2), hs2, henv.trans h5⟩
      | _ => exact hQ _ _ _ (haft.from hle henv)
  | region id ops draw =>
    intro key T S K a I w ds Q h hrel hd hs hQ
    simp only [E] at h
    split at h
    · exact wp_region (rg_sound _ h hrel hd hs (fun a w h => hQ _ a w h) (fun ch a w h => hQ _ a w h))
    · exact wp_region_any hm (draw_sound h.1 h.2 hrel hd (hs.heap (w' := { w with drawn := w.drawn + 1 }) rfl) (fun a w h => hQ _ a w (h.from (Imm.le_refl _) ⟨rfl, rfl⟩)) (fun ch a w h => hQ _ a w (h.from (Imm.le_refl _) ⟨rfl, rfl⟩)))
  | _ => intro key T S K a I w ds Q h; exact h.elim
theorem results_eq {fn : Func} {T : Tm} {a : Act} (h : Rel N T a) : results fn a.tmps = resSem fn T := by
  unfold results resSem
  congr 1
  congr 1
  funext r
  cases r with
  | tmp t => simp only [h.get]
  | cell x t => simp only [h.get]
theorem body_sound (hm : P.follows .mixedOrders = true) {f : FuncId} {fn : Func} {c : Code} {H : Hints} {rh : List LH} {args : List Value} {S : St} {R : Ending → St → Prop} {I : Imm} {w : World}
    (hf : P.funcs[f]? = some fn) (hb : fn.body = some c) (hN : fn.ntmps = N) (hl : args.length ≤ N) (h : Body P N fn H rh c (ent args) S R) (hs : Sat I S w) :
    Calls P f ⟨args⟩ w fun e w' => ∃ J S', Imm.le I J ∧ Sat J S' w' ∧ Env w w' ∧ R e S' := by
  refine calls_of_wp hf hb ?_
  rw [hN]
  refine E_sound hm H c h (rel_ent args hl) rfl hs fun e a w' haft => ?_
  obtain ⟨T, S', J, h1, h2, h3, h4, h5, h6⟩ := haft
  have fin : rd P S' (resSem fn T) rh (fun v => R (.returned v) S') → a.defers = [] ∧ ∃ v, (results fn a.tmps).run P w' = .ok v w' ∧ ∃ J S', Imm.le I J ∧ Sat J S' w' ∧ Env w w' ∧ R (.returned v) S' := fun h6 => by
    obtain ⟨v, hrun, hR⟩ := rd_sound h4 _ _ _ h6
    exact ⟨h2, v, by rw [results_eq h1]; exact hrun, J, S', h3, h4, h5, hR⟩
  cases e with
  | normal => exact fin h6
  | ret => exact fin h6
  | panic ch => exact ⟨h2, J, S', h3, h4, h5, h6⟩
  | _ => exact h6.elim
theorem fnOk (hm : P.follows .mixedOrders = true) {f : FuncId} {fn : Func} {c : Code} {C : Con} (hf : P.funcs[f]? = some fn) (hb : fn.body = some c) (hN : fn.ntmps = N) (hl : ∀ x, (C.args x).length ≤ N)
    (H : C.X → Atom → Hints) (rh : List LH)
    (h : ∀ x F, C.cond x → C.rdc x F → Body P N fn (H x F) rh c (ent (C.args x)) (ofL (C.pre x ++ [F])) (Done C x F)) : FnOk P f C := by
  refine ⟨fun x F I w hc hr hs => ?_⟩
  refine (body_sound hm hf hb hN (hl x) (h x F hc hr) hs).mono ?_
  rintro e w' ⟨J, S', hle, hs', henv, ⟨y, hrel, rfl, hent⟩⟩
  obtain ⟨J', hle', hs2⟩ := hent.h J w' hs'
  exact ⟨y, J', hrel, rfl, Imm.le_trans hle hle', hs2, henv⟩
theorem FnOk.conseq {f : FuncId} {C C' : Con} (h' : FnOk P f C')
    (h : ∀ x F I w, C.cond x → C.rdc x F → Sat I (ofL (C.pre x ++ [F])) w → ∃ x' J, Imm.le I J ∧ C'.cond x' ∧ C'.rdc x' F ∧ C.args x = C'.args x' ∧ Sat J (ofL (C'.pre x' ++ [F])) w ∧
      ∀ y', C'.rel x' y' → ∃ y, C.rel x y ∧ C'.val x' y' = C.val x y ∧ Ent (ofL (C'.post x' y' ++ [F])) (ofL (C.post x y ++ [F]))) : FnOk P f C := by
  refine ⟨fun x F I w hc hr hs => ?_⟩
  obtain ⟨x', J, hle, hc', hr', ha, hs', hy⟩ := h x F I w hc hr hs
  rw [ha]
  refine (h'.h x' F J w hc' hr' hs').mono ?_
  rintro e w' ⟨y', J', hrel, rfl, hle', hsat, henv⟩
  obtain ⟨y, h1, h2, h3⟩ := hy y' hrel
  obtain ⟨J2, hle2, hs2⟩ := h3.h J' w' hsat
  exact ⟨y, J2, h1, h2, Imm.le_trans hle (Imm.le_trans hle' hle2), hs2, henv⟩
end
end Go.Proofs.Ytmknmibmnidnoaa
