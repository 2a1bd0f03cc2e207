/- A contract at a call from outside: what was there stays. -/
import Derived.Test.YtmknmibmnidnoaaEngJ
import Derived.ProofKit
import Derived.Below
set_option linter.all false
namespace Go.Proofs.Ytmknmibmnidnoaa
open Go
variable {P : Program}
/-- All that was there when the call began. -/
def oldA (W : World) : Atom := .pred { holds := fun I _ _ => Imm.le (hp W) I, loc := fun _ _ _ _ _ h => h, mono := fun _ _ _ _ h k => Imm.le_trans k h }
theorem look_old {W : World} {a : Addr} {v : Value} (h : W.cell? a = some v) : Look (oldA W) a v := ⟨fun I h' o hc hA => by
  have hA : Imm.le (hp W) I := hA
  rw [← cellOf_hp] at h
  unfold cellOf at h ⊢
  cases e : hp W a.block with
  | none => rw [e] at h; simp at h
  | some ob => rw [e] at h; rw [hc _ _ (hA _ _ e)]; exact h⟩
structure Kept (W w' : World) : Prop where
  heap : ∀ b, b < W.heap.size → w'.heap[b]? = W.heap[b]?
  os : w'.os = W.os
  output : w'.output = W.output
theorem entry {f : FuncId} {C : Con} (hok : FnOk P f C) (x : C.X) (W : World) (hpre : C.pre x = []) (hc : C.cond x) (hr : C.rdc x (oldA W)) :
    Calls P f ⟨C.args x⟩ W fun e w' => (∃ y, C.rel x y ∧ e = C.val x y) ∧ Kept W w' := by
  refine (hok.h x (oldA W) (hp W) W hc hr ⟨⟨fun _ _ => False, fun j => ?_, fun _ _ _ h => h.elim, fun _ _ h => h.elim⟩, fun _ _ h => h⟩).mono ?_
  · rw [hpre]
    cases j with
    | zero => exact Imm.le_refl _
    | succ j => trivial
  · rintro e w' ⟨y, J, h1, h2, hle, hsat, henv⟩
    refine ⟨⟨y, h1, h2⟩, fun b hb => ?_, henv.1, henv.2⟩
    have e := hsat.imm b _ (hle b (W.heap[b]) (by simp [hp, hb]))
    rw [show w'.heap[b]? = hp w' b from rfl, e]
    simp [hb]
theorem Kept.keptBut {W w' : World} (h : Kept W w') (may : MemPlace → Prop) : W.keptBut w' may := by
  refine ⟨h.os, h.output, fun i hi => ?_⟩
  rw [h.heap i hi]
  split <;> simp_all
theorem Kept.same {W w' : World} (h : Kept W w') {p : MemPlace} (hp : p.block < W.heap.size) : W.sameAt w' p := by
  cases p with
  | cell b o => exact World.cell?_of_block (w := W) (h.heap b hp)
  | map b => exact h.heap b hp
theorem trodAll_kept {H : Type} {enc : TypeId × Value → H} (hl : laidOutB P = true) {W W' : World} (hk : Kept W W') : ∀ (ts : List TypeId) (vs : List Value) (ds : List (DataW H)) (ps : List MemPlace),
    (ts.all fun t => P.readableRec t && Nat.blt t P.types.size) = true → (∀ p ∈ ps, p.block < W.heap.size) → DataW.TrodAll enc P W 0 (fun _ => true) true ts vs ds ps →
    DataW.TrodAll enc P W' 0 (fun b => decide (b < W.heap.size)) true ts vs ds ps
  | [], [], [], _, _, _, h => h
  | t :: ts, v :: vs, d :: ds, ps, ha, hlt, h => by
    obtain ⟨p, q, h1, h2, rfl⟩ := h
    simp only [List.all_cons, Bool.and_eq_true] at ha
    refine ⟨p, q, WideElems.Trod_stays hl ha.1.1 (Nat.le_of_ble_eq_true ha.1.2) h1 (fun x hx => hk.same (hlt x (by simp [hx]))) (fun x hx => by simpa using hlt x (by simp [hx])), trodAll_kept hl hk ts vs ds q ha.2 (fun x hx => hlt x (by simp [hx])) h2, rfl⟩
  | [], [], _ :: _, _, _, _, h => h.elim
  | [], _ :: _, _, _, _, _, h => by cases h
  | _ :: _, [], _, _, _, _, h => by cases h
  | _ :: _, _ :: _, [], _, _, _, h => by cases h
/-- What a law that answers true and leaves all as it was says behind the call. -/
theorem post_true {H : Type} {enc : TypeId × Value → H} (hl : laidOutB P = true) {f : Func} {s : ChangeSpec} {apart fresh handsOn : Bool} {W W' : World} {args : Array Value} {ds gs : List (DataW H)} {before : List MemPlace}
    (hW : DataW.Whole enc P f.params.toList s.vars apart W args.toList ds gs before) (hv : s.vars = []) (hs : s.fn H (ds ++ gs) = { results := [.lit (.bool true)], args := ds }) (hk : Kept W W')
    {tb : TypeId} (hb : P.underlying tb = some .bool) (hr : f.resultTypes = #[tb]) (hts : (f.params.toList.all fun t => P.readableRec t && Nat.blt t P.types.size) = true) :
    s.post enc P f apart fresh handsOn false W args (.bool true) W' := by
  have hlt := hW.lt
  obtain ⟨p, q, hA, hV, e, _, _⟩ := hW
  have hW : DataW.Whole enc P f.params.toList s.vars apart W args.toList ds gs before := ⟨p, q, hA, hV, e, by assumption, by assumption⟩
  rw [hv] at hV
  obtain ⟨rfl, rfl⟩ := Go.ChangeShapes.trodVars_none hV
  rw [List.append_nil] at e
  subst e
  refine ⟨ds, [], before, [], before, [], hW, ?_, ?_, ?_, hk.keptBut _, fun h => by cases h⟩
  · rw [hs, hr]
    exact Go.ChangeShapes.trodAll_mk1 (⟨1, by simp [DataW.trod, Value.cells, hb]⟩)
  · rw [hs]
    exact trodAll_kept hl hk _ _ _ _ hts hlt hA
  · rw [hs, hv]; rfl
end Go.Proofs.Ytmknmibmnidnoaa
