/- The engine, part C: what the evaluator computes is enough: operations, regions in the text's order, code. -/
import Derived.Test.YtmknmibmnidnoaaEngB
import Derived.Laws.Sem
import Derived.Laws.Entries
import Derived.ChangeKeysEq
set_option linter.all false
namespace Go.Proofs.Ytmknmibmnidnoaa
open Go

/-! ## parts of a state -/
theorem gt_clr (touch : List Nat) (S : St) (j : Nat) : gt (clr touch S) j = if j ∈ touch then .emp else gt S j := by
  induction touch generalizing S with
  | nil => simp [clr]
  | cons k r ih =>
    simp only [clr, ih, gt_upd, List.mem_cons]
    by_cases h1 : j ∈ r <;> by_cases h2 : j = k <;> simp [h1, h2]
theorem nodupB_spec {l : List Nat} (h : nodupB l = true) : l.Nodup := by
  induction l with
  | nil => exact List.nodup_nil
  | cons j r ih =>
    simp only [nodupB, Bool.and_eq_true, List.all_eq_true] at h
    refine List.nodup_cons.2 ⟨fun hm => ?_, ih h.2⟩
    have := h.1 j hm
    simp at this
structure Sat2 (I : Imm) (S : St) (l : List Atom) (w : World) : Prop where
  own : ∃ f g : Nat → Own, (∀ j, (gt S j).holds I (hp w) (f j)) ∧ (∀ i, (l.getD i .emp).holds I (hp w) (g i)) ∧ (∀ i j b, f i b → f j b → i = j) ∧ (∀ i j b, g i b → g j b → i = j) ∧
    (∀ i j b, f i b → g j b → False) ∧ (∀ j b, f j b → I b = none ∧ b < w.heap.size) ∧ (∀ j b, g j b → I b = none ∧ b < w.heap.size)
  imm : Cons I (hp w)
theorem Sat2.nil {I : Imm} {S : St} {l : List Atom} {w : World} (h : Sat2 I S l w) : Sat I S w := by
  obtain ⟨f, g, h1, _, h3, _, _, h6, _⟩ := h.own
  exact ⟨⟨f, h1, h3, h6⟩, h.imm⟩
theorem Sat2.cons {I : Imm} {S : St} {A : Atom} {l : List Atom} {w : World} (h : Sat2 I S (A :: l) w) (j : Nat) : Sat2 I (updS S j A) l w := by
  obtain ⟨f, g, h1, h2, h3, h4, h5, h6, h7⟩ := h.own
  refine ⟨⟨fun i b => if i = j then g 0 b else f i b, fun i b => g (i + 1) b, fun i => ?_, fun i => ?_, fun i i' b hb hb' => ?_, fun i i' b hb hb' => ?_, fun i i' b hb hb' => ?_, fun i b hb => ?_, fun i b hb => h7 _ b hb⟩, h.imm⟩
  · rw [gt_upd]
    by_cases hi : i = j
    · simp only [hi, if_true]; simpa using h2 0
    · simp only [hi, if_false]; exact h1 i
  · simpa using h2 (i + 1)
  · by_cases hi : i = j
    · by_cases hi' : i' = j
      · exact hi.trans hi'.symm
      · simp only [hi, hi', if_true, if_false] at hb hb'; exact (h5 _ _ _ hb' hb).elim
    · by_cases hi' : i' = j
      · simp only [hi, hi', if_true, if_false] at hb hb'; exact (h5 _ _ _ hb hb').elim
      · simp only [hi, hi', if_false] at hb hb'; exact h3 _ _ _ hb hb'
  · have := h4 _ _ _ hb hb'; omega
  · by_cases hi : i = j
    · simp only [hi, if_true] at hb; have := h4 _ _ _ hb hb'; omega
    · simp only [hi, if_false] at hb; exact h5 _ _ _ hb hb'
  · by_cases hi : i = j
    · simp only [hi, if_true] at hb; exact h7 _ b hb
    · simp only [hi, if_false] at hb; exact h6 _ b hb
theorem Sat2.plc {I : Imm} {w : World} (out : List Nat) : ∀ (l : List Atom) (S : St), Sat2 I S l w → Sat I (Go.Proofs.Ytmknmibmnidnoaa.plc out l S) w := by
  induction out with
  | nil => intro l S h; simpa [Go.Proofs.Ytmknmibmnidnoaa.plc] using h.nil
  | cons j r ih =>
    intro l S h
    cases l with
    | nil => simpa [Go.Proofs.Ytmknmibmnidnoaa.plc] using h.nil
    | cons A l => simpa [Go.Proofs.Ytmknmibmnidnoaa.plc] using ih l _ (h.cons j)
/-- What is handed over, and the rest behind one name. -/
theorem Sat.part {I : Imm} {S : St} {w : World} (h : Sat I S w) {touch : List Nat} (hn : touch.Nodup) : Sat I (ofL (touch.map (gt S) ++ [.pred (rest S touch)])) w := by
  obtain ⟨f, h1, h2, h3⟩ := h.own
  have hlen : (touch.map (gt S)).length = touch.length := by simp
  refine ⟨⟨fun i b => (∃ h : i < touch.length, f touch[i] b) ∨ (i = touch.length ∧ ∃ j, j ∉ touch ∧ f j b), fun i => ?_, fun i i' b hb hb' => ?_, fun i b hb => ?_⟩, h.imm⟩
  · rw [gt_ofL, List.getD_eq_getElem?_getD]
    rcases Nat.lt_trichotomy i touch.length with hi | hi | hi
    · rw [List.getElem?_append_left (by simpa using hi)]
      simp only [List.getElem?_map, List.getElem?_eq_getElem hi, Option.map_some, Option.getD_some]
      refine Atom.local (h := hp w) (fun b _ => rfl) ?_
      have := h1 touch[i]
      have e : (fun b => (∃ h : i < touch.length, f touch[i] b) ∨ (i = touch.length ∧ ∃ j, j ∉ touch ∧ f j b)) = f touch[i] := by
        funext b
        refine propext ⟨fun hb => ?_, fun hb => .inl ⟨hi, hb⟩⟩
        rcases hb with ⟨_, hb⟩ | ⟨e, _⟩
        · exact hb
        · omega
      rw [e]; exact this
    · subst hi
      rw [List.getElem?_append_right (by simp)]
      simp only [hlen, Nat.sub_self, List.getElem?_cons_zero, Option.getD_some]
      refine ⟨fun j b => j ∉ touch ∧ f j b, fun j => ?_, fun i j b hb hb' => h2 _ _ _ hb.2 hb'.2, fun j b hb => .inr ⟨by first | rfl | trivial, j, hb.1, hb.2⟩⟩
      rw [gt_clr]
      by_cases hj : j ∈ touch
      · simp only [hj, if_true]; trivial
      · simp only [hj, if_false]
        have e : (fun b => j ∉ touch ∧ f j b) = f j := by funext b; simp [hj]
        simp only [hj, not_false_eq_true, true_and] at e ⊢
        exact h1 j
    · rw [List.getElem?_append_right (by simp; omega)]
      have : i - (touch.map (gt S)).length = (i - touch.length - 1) + 1 := by simp; omega
      rw [this]
      simp
      trivial
  · rcases hb with ⟨hi, hb⟩ | ⟨hi, j, hj, hb⟩ <;> rcases hb' with ⟨hi', hb'⟩ | ⟨hi', j', hj', hb'⟩
    · have := h2 _ _ _ hb hb'
      have hpw := List.pairwise_iff_getElem.1 hn
      rcases Nat.lt_trichotomy i i' with e | e | e
      · exact absurd this (hpw i i' hi hi' e)
      · exact e
      · exact absurd this.symm (hpw i' i hi' hi e)
    · have := h2 _ _ _ hb hb'
      exact absurd (this ▸ List.getElem_mem hi) hj'
    · have := h2 _ _ _ hb hb'
      exact absurd (this ▸ List.getElem_mem hi') hj
    · omega
  · rcases hb with ⟨hi, hb⟩ | ⟨hi, j, hj, hb⟩
    · exact h3 _ _ hb
    · exact h3 _ _ hb
/-- What came back takes its places. -/
theorem Sat.join {J : Imm} {S : St} {w : World} {post : List Atom} {touch out : List Nat} (h : Sat J (ofL (post ++ [.pred (rest S touch)])) w) : Sat J (plc out post (clr touch S)) w := by
  obtain ⟨g, h1, h2, h3⟩ := h.own
  have hr := h1 post.length
  rw [gt_ofL, List.getD_eq_getElem?_getD, List.getElem?_append_right (Nat.le_refl _)] at hr
  simp only [Nat.sub_self, List.getElem?_cons_zero, Option.getD_some] at hr
  obtain ⟨f, f1, f2, f3⟩ := hr
  refine Sat2.plc out post _ ⟨⟨f, fun i b => i < post.length ∧ g i b, f1, fun i => ?_, f2, fun i j b hb hb' => h2 _ _ _ hb.2 hb'.2, fun i j b hb hb' => ?_, fun j b hb => h3 _ _ (f3 j b hb), fun j b hb => h3 _ _ hb.2⟩, h.imm⟩
  · by_cases hi : i < post.length
    · have := h1 i
      rw [gt_ofL, List.getD_eq_getElem?_getD, List.getElem?_append_left hi] at this
      have e : (fun b => i < post.length ∧ g i b) = g i := by funext b; simp [hi]
      show Atom.holds J (hp w) (fun b => i < post.length ∧ g i b) _
      rw [e, List.getD_eq_getElem?_getD]; exact this
    · have e : post.getD i .emp = .emp := by simp [List.getD_eq_getElem?_getD, List.getElem?_eq_none (Nat.le_of_not_lt hi)]
      rw [e]; trivial
  · have := h2 _ _ _ (f3 i b hb) hb'.2
    omega

/-! ## operations -/
section
variable {P : Program} {N : Nat}
theorem useC_calls {f : FuncId} {C : Con} {args : Array Value} {touch out : List Nat} {I : Imm} {S : St} {w : World} {k : Value → St → Prop} {kp : List PanicEntry → St → Prop}
    (hok : FnOk P f C) (hn : nodupB touch = true) (h : Sat I S w) (hu : useC C args.toList touch out S k kp) :
    Calls P f args w fun e w' => ∃ J S', Imm.le I J ∧ Sat J S' w' ∧ Env w w' ∧ match e with | .returned v => k v S' | .panicked ch => kp ch S' | .outgrown => False := by
  obtain ⟨x, ha, hp, hc, hr, hk⟩ := hu
  have hs := h.part (nodupB_spec hn)
  rw [hp] at hs
  have := hok.h x _ I w hc hr hs
  have e : (⟨C.args x⟩ : Array Value) = args := by rw [← ha]
  rw [e] at this
  refine this.mono ?_
  rintro e w' ⟨y, J, hrel, rfl, hle, hsat, henv⟩
  refine ⟨J, _, hle, hsat.join (out := out), henv, ?_⟩
  have := hk y hrel
  cases hv : C.val x y <;> simp only [hv] at this ⊢ <;> exact this
theorem wrap_in {i : IntKind} {n : Int} (hn : inR i n) : i.wrap n = n := by
  cases i <;> simp only [inR] at hn <;> simp only [IntKind.wrap, IntKind.bits, IntKind.signed, Bool.true_and, Bool.false_and, Bool.false_eq_true, if_false, Int.reducePow, Nat.reduceSub] <;>
    first
      | omega
      | (split
         · have := of_decide_eq_true ‹_›; omega
         · rename_i hh
           have : ¬ _ := fun h => hh (decide_eq_true h)
           omega)
theorem i64_max : IntKind.i64.max = 9223372036854775807 := by decide
theorem ck_run {o : Oper} {T : Tm} {k : Value → Prop} (h : ckV P o.op T k) (w : World) : ∃ v, (execOp (ev T) o).run P w = .ok (.value v) w ∧ k v := by
  unfold ckV at h
  split at h
  · rename_i x y _ hop
    split at h
    · rename_i i a j b hx hy
      split at h
      · rename_i hij
        obtain rfl := of_decide_eq_true hij
        obtain ⟨hr, hk⟩ := h
        exact ⟨_, by simp [execOp, hop, hx, hy, eqGuard, binOp, Op.intArith, wrap_in hr, pure, Sem.run, bind, Sem.bind], hk⟩
      · exact h.elim
    · rename_i s t hx hy
      obtain ⟨hr, hk⟩ := h
      have : ¬ ((9223372036854775807 : Int) < (s.size : Int) + t.size) := by omega
      exact ⟨_, by simp [execOp, hop, hx, hy, eqGuard, binOp, Op.stringOp, i64_max, this, pure, Sem.run, bind, Sem.bind], hk⟩
    · exact h.elim
  · rename_i x y _ hop
    split at h
    · rename_i i a j b hx hy
      split at h
      · rename_i hij
        obtain rfl := of_decide_eq_true hij
        obtain ⟨hr, hk⟩ := h
        exact ⟨_, by simp [execOp, hop, hx, hy, eqGuard, binOp, Op.intArith, wrap_in hr, pure, Sem.run, bind, Sem.bind], hk⟩
      · exact h.elim
    · exact h.elim
  · rename_i x y _ hop
    split at h
    · rename_i i a j b hx hy
      split at h
      · rename_i hij
        obtain rfl := of_decide_eq_true hij
        obtain ⟨hr, hk⟩ := h
        exact ⟨_, by simp [execOp, hop, hx, hy, eqGuard, binOp, Op.intArith, wrap_in hr, pure, Sem.run, bind, Sem.bind], hk⟩
      · exact h.elim
    · exact h.elim
  · rename_i x y _ hop
    split at h
    · rename_i i a j b hx hy
      split at h
      · rename_i hij
        obtain rfl := of_decide_eq_true hij
        obtain ⟨hb, hr, hk⟩ := h
        exact ⟨_, by simp [execOp, hop, hx, hy, eqGuard, binOp, Op.intDiv, hb, wrap_in hr, pure, Sem.run, bind, Sem.bind], hk⟩
      · exact h.elim
    · exact h.elim
  · rename_i x y _ hop
    split at h
    · rename_i i a j b hx hy
      split at h
      · rename_i hij
        obtain rfl := of_decide_eq_true hij
        obtain ⟨hb, hk⟩ := h
        exact ⟨_, by simp [execOp, hop, hx, hy, eqGuard, binOp, Op.intDiv, hb, pure, Sem.run, bind, Sem.bind], hk⟩
      · exact h.elim
    · exact h.elim
  · rename_i s d x hop
    split at h
    · rename_i u i j a hs hd hx
      obtain ⟨hr, hk⟩ := h
      exact ⟨_, by simp [execOp, hop, hx, convert, run_underlying hs, run_underlying hd, Conv.intToInt, wrap_in hr, Sem.run], hk⟩
    · exact h.elim
  · exact h.elim
theorem ix_run {o : Oper} {T : Tm} {k : Value → Prop} (h : ixV P o.op T k) (w : World) : ∃ v, (execOp (ev T) o).run P w = .ok (.value v) w ∧ k v := by
  unfold ixV at h
  have hadd : ∀ b off m : Nat, (⟨b, off, none⟩ : Addr).add m = ⟨b, off + m, none⟩ := by
    intro b off m
    unfold Addr.add
    split
    · rename_i e; subst e; rfl
    · rfl
  split at h
  · rename_i t x i hop
    split at h
    · rename_i e ht
      split at h
      · rename_i inf b off len cap kk n hi hx hn
        obtain ⟨⟨h0, h1⟩, hk⟩ := h
        have hsz : P.cellsOf e = inf.size := by unfold Program.cellsOf; simp [hi]
        exact ⟨_, by simp [execOp, hop, hx, hn, Instr.indexAt, asIntOf, run_underlying ht, run_sizeOf w hi, hsz, h0, h1, hadd, Sem.run], hk⟩
      · exact h.elim
    · rename_i m e ht
      split at h
      · rename_i inf b off kk n hi hx hn
        obtain ⟨⟨h0, h1⟩, hk⟩ := h
        have hsz : P.cellsOf e = inf.size := by unfold Program.cellsOf; simp [hi]
        exact ⟨_, by simp [execOp, hop, hx, hn, Instr.indexAt, Instr.sureAddr, asIntOf, run_underlying ht, run_sizeOf w hi, hsz, h0, h1, hadd, Sem.run], hk⟩
      · exact h.elim
    · exact h.elim
  · exact h.elim
theorem si_run {o : Oper} {T : Tm} {k : Value → Prop} (h : siV P o.op T k) (w : World) : ∃ v, (execOp (ev T) o).run P w = .ok (.value v) w ∧ k v := by
  unfold siV at h
  split at h
  · rename_i t x i hop
    split at h
    · rename_i s kk n ht hx hn
      obtain ⟨⟨h0, h1⟩, hk⟩ := h
      have hlt : n.toNat < s.size := by omega
      have hg : s[n.toNat]? = some s[n.toNat] := by simp [hlt]
      have hb : (s[n.toNat].toNat : Int) = byteAt s n := by
        unfold byteAt
        simp [List.getD_eq_getElem?_getD, ByteArray.getElem_eq_getElem_data, Array.getElem?_eq_getElem (show n.toNat < s.data.size from hlt)]
      refine ⟨_, ?_, hk⟩
      rw [← hb]
      simp [execOp, hop, hx, hn, Instr.index, asIntOf, run_underlying ht, h0, hg, Sem.run]
    · exact h.elim
  · exact h.elim
theorem bound_run (v : Value) (kk : IntKind) (n : Int) (hv : v = .int kk n) (y : Nat) (code : BoundsCode) (h0 : 0 ≤ n) (h1 : n ≤ y) (w : World) : (Instr.sliceBound v y code).run P w = .ok n.toNat w := by
  subst hv
  simp [Instr.sliceBound, asIntOf, h0, h1, Sem.run]
theorem optI_spec {T : Tm} {x : Option Operand} {d v : Int} (h : optI T d x = some v) : (x = none ∧ v = d) ∨ ∃ y kk, x = some y ∧ ev T y = .int kk v := by
  cases x with
  | none => simp only [optI, Option.some.injEq] at h; exact .inl ⟨rfl, h.symm⟩
  | some y =>
    simp only [optI] at h
    split at h
    · rename_i kk n hx
      simp only [Option.some.injEq] at h
      subst h
      exact .inr ⟨y, kk, rfl, hx⟩
    · cases h
theorem bounds_run (isS : Bool) {T : Tm} {lo hi : Option Operand} {len cap : Nat} {l h : Int} (hl : optI T 0 lo = some l) (hh : optI T len hi = some h) (h0 : 0 ≤ l) (h1 : l ≤ h) (h2 : h ≤ cap) (w : World) :
    (Instr.sliceBounds isS len cap (lo.map (ev T)) (hi.map (ev T)) none).run P w = .ok (l.toNat, h.toNat, cap) w := by
  have hn : ((h.toNat : Nat) : Int) = h := by omega
  rcases optI_spec hl with ⟨rfl, rfl⟩ | ⟨x, kx, rfl, hx⟩ <;> rcases optI_spec hh with ⟨rfl, rfl⟩ | ⟨y, ky, rfl, hy⟩
  · simp [Instr.sliceBounds, Sem.run]
  · have hb := bound_run (P := P) _ ky h hy cap (if isS then .sliceAcap else .sliceAlen) (by omega) h2 w
    simp [Instr.sliceBounds, Sem.run, hb]
  · have hb := bound_run (P := P) _ kx l hx len .sliceB h0 h1 w
    simp [Instr.sliceBounds, Sem.run, hb]
  · have hb := bound_run (P := P) _ ky h hy cap (if isS then .sliceAcap else .sliceAlen) (by omega) h2 w
    have hc := bound_run (P := P) _ kx l hx h.toNat .sliceB h0 (by omega) w
    simp [Instr.sliceBounds, Sem.run, hb, hc]
theorem sl_run {o : Oper} {T : Tm} {k : Value → Prop} (h : slV P o.op T k) (w : World) : ∃ v, (execOp (ev T) o).run P w = .ok (.value v) w ∧ k v := by
  unfold slV at h
  have hadd : ∀ b off m : Nat, (⟨b, off, none⟩ : Addr).add m = ⟨b, off + m, none⟩ := by
    intro b off m
    unfold Addr.add
    split
    · rename_i e; subst e; rfl
    · rfl
  split at h
  · rename_i t x lo hi hop
    split at h
    · rename_i ht
      split at h
      · rename_i s hx
        split at h
        · rename_i l hh hl hhi
          obtain ⟨⟨h0, h1, h2⟩, hk⟩ := h
          have hb := bounds_run (P := P) false hl hhi h0 h1 h2 w
          refine ⟨_, ?_, hk⟩
          simp [execOp, hop, hx, Instr.sliceAt, Instr.slice, run_underlying ht, hb, Sem.run]
        · exact h.elim
      · exact h.elim
    · rename_i e ht
      split at h
      · rename_i inf b off len cap hi' hx
        split at h
        · rename_i l hh hl hhi
          obtain ⟨⟨h0, h1, h2, hlt⟩, hk⟩ := h
          have hb := bounds_run (P := P) true hl hhi h0 h1 h2 w
          have hsz : P.cellsOf e = inf.size := by unfold Program.cellsOf; simp [hi']
          have hne : ¬ cap = l.toNat := by omega
          refine ⟨_, ?_, hk⟩
          simp [execOp, hop, hx, Instr.sliceAt, Instr.slice, run_underlying ht, hb, run_sizeOf w hi', hsz, hne, hadd, Sem.run]
        · exact h.elim
      · exact h.elim
    · exact h.elim
  · exact h.elim
theorem slu_run {o : Oper} {T : Tm} {k : Value → Prop} (h : sluV P o.op T k) (w : World) : ∃ v, (execOp (ev T) o).run P w = .ok (.value v) w ∧ ∀ v, k v := by
  unfold sluV at h
  split at h
  · rename_i t x lo hi hop
    split at h
    · rename_i e ad len cap ht hx
      split at h
      · rename_i inf l hh hi' hl hhi
        obtain ⟨⟨h0, h1, h2⟩, hk⟩ := h
        have hb := bounds_run (P := P) true hl hhi h0 h1 h2 w
        have hsz : P.cellsOf e = inf.size := by unfold Program.cellsOf; simp [hi']
        refine ⟨.slice (if cap = l.toNat then some ad else some (ad.add (l.toNat * inf.size))) (hh.toNat - l.toNat) (cap - l.toNat), ?_, hk⟩
        simp [execOp, hop, hx, Instr.sliceAt, Instr.slice, run_underlying ht, hb, run_sizeOf w hi', hsz, Sem.run]
      · exact h.elim
    · exact h.elim
  · exact h.elim
end
end Go.Proofs.Ytmknmibmnidnoaa
