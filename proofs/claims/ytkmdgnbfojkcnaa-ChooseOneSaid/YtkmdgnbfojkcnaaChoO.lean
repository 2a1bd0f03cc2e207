/- A map of lists of ints: the lists are never written again. -/
import Derived.Test.YtkmdgnbfojkcnaaChoN
set_option linter.all false
namespace Go.Proofs.Ytkmdgnbfojkcnaa
open Go
theorem Sat.freeze {I : Imm} {S : St} {w : World} (h : Sat I S w) {j b : Nat} {vs : List Value} {t : TypeId} (hj : gt S j = .cells b vs t) :
    ∃ J, Imm.le I J ∧ J b = some (.cells ⟨vs⟩ t (0, 0)) ∧ Sat J (updS S j .emp) w := by
  obtain ⟨⟨f, h1, h2, h3⟩, hi⟩ := h
  have hb := h1 j
  rw [hj] at hb
  obtain ⟨hfb, hhb⟩ := hb
  have hIb := (h3 j b hfb).1
  refine ⟨fun c => if c = b then some (.cells ⟨vs⟩ t (0, 0)) else I c, fun c o hc => ?_, by simp, ⟨⟨fun i c => i ≠ j ∧ f i c, fun i => ?_, fun i i' c hc hc' => h2 _ _ _ hc.2 hc'.2, fun i c hc => ⟨?_, (h3 i c hc.2).2⟩⟩, fun c o hc => ?_⟩⟩
  · by_cases e : c = b
    · subst e; rw [hIb] at hc; cases hc
    · simpa [e] using hc
  · rw [gt_upd]
    by_cases e : i = j
    · simp [e]; trivial
    · have e2 : (fun c => i ≠ j ∧ f i c) = f i := by funext c; simp [e]
      simp only [e, if_false]
      rw [show (fun c => ¬ i = j ∧ f i c) = f i from e2]
      refine Atom.mono (fun c o hc => ?_) (h1 i)
      by_cases e3 : c = b
      · subst e3; rw [hIb] at hc; cases hc
      · simpa [e3] using hc
  · by_cases e : c = b
    · subst e; exact absurd (h2 _ _ _ hc.2 hfb) hc.1
    · simpa [e] using (h3 i c hc.2).1
  · by_cases e : c = b
    · subst e
      simp at hc
      subst hc
      exact hhb
    · simp [e] at hc
      exact hi c o hc
/-- Another atom that says no more. -/
theorem Ent.weak {l l' : List Atom} (h : All2 (fun A B => ∀ I h o, Cons I h → Atom.holds I h o A → Atom.holds I h o B) l l') : Ent (ofL l) (ofL l') := ⟨fun I w hs => by
  obtain ⟨⟨f, h1, h2, h3⟩, hi⟩ := hs
  refine ⟨I, Imm.le_refl I, ⟨⟨f, fun j => ?_, h2, h3⟩, hi⟩⟩
  have := h1 j
  rw [gt_ofL, List.getD_eq_getElem?_getD] at this ⊢
  cases hj : l'[j]? with
  | none => trivial
  | some B =>
    obtain ⟨A, hA, hAB⟩ := h.get j B hj
    rw [hA] at this
    exact hAB I (hp w) (f j) hi this⟩
/-- A slice's ints, in blocks that are never written again. -/
def FzI (I : Imm) (v : Value) (xs : List Int) : Prop := ∃ a n cap, v = .slice a n cap ∧ IsSrc 1 (ints xs) a n ∧ n * 8 ≤ 140737488351232 ∧ ∀ ad, a = some ad → ∀ j u, (ints xs)[j]? = some u → cellOf I (ad.add j) = some u
theorem cell_mono {I J : Imm} (h : Imm.le I J) {a : Addr} {v : Value} (hc : cellOf I a = some v) : cellOf J a = some v := by
  unfold cellOf at hc ⊢
  cases e : I a.block with
  | none => rw [e] at hc; simp at hc
  | some o => rw [e] at hc; rw [h _ _ e]; exact hc
theorem FzI.mono {I J : Imm} (h : Imm.le I J) {v : Value} {xs : List Int} (hf : FzI I v xs) : FzI J v xs := by
  obtain ⟨a, n, cap, h1, h2, h3, h4⟩ := hf
  exact ⟨a, n, cap, h1, h2, h3, fun ad e j u hj => cell_mono h (h4 ad e j u hj)⟩
theorem FzI.nil (I : Imm) : FzI I (.slice none 0 0) [] := ⟨none, 0, 0, rfl, .nil rfl, Nat.zero_le _, fun _ e => by cases e⟩
def Fz.rest (v : Value) (xs : List Int) : Pred where
  holds I _ _ := FzI I v xs
  loc _ _ _ _ _ h := h
  mono _ _ _ _ h k := k.mono h
def fzA (v : Value) (xs : List Int) : Atom := .pred (Fz.rest v xs)
theorem fzA_srcd {a : Option Addr} {n cap : Nat} {xs : List Int} : Srcd (fzA (.slice a n cap) xs) a (ints xs) := fun ad e j u hj => ⟨fun I h o hc hA => by
  obtain ⟨a', n', cap', e1, h2, h3, h4⟩ := (show FzI I (.slice a n cap) xs from hA)
  cases e1
  have hc' : Imm.le I h := hc
  exact cell_mono hc' (h4 ad e j u hj)⟩
def EntR (I : Imm) (kv : List (Int × Value)) (m : List (Int × List Int)) : Prop := All2 (fun p q => p.1 = q.1 ∧ FzI I p.2 q.2) kv m
theorem EntR.mono {I J : Imm} (h : Imm.le I J) {kv : List (Int × Value)} {m : List (Int × List Int)} (hf : EntR I kv m) : EntR J kv m := All2.mono (fun _ _ h2 => ⟨h2.1, h2.2.mono h⟩) hf
/-- A map of lists. -/
def Ex.rest (b : Nat) (m : List (Int × List Int)) : Pred where
  holds I h o := o b ∧ ∃ kv, h b = some (mO kv) ∧ EntR I kv m
  loc I h h' o he hh := ⟨hh.1, by rw [← he b hh.1]; exact hh.2⟩
  mono I J h o hle hh := ⟨hh.1, by obtain ⟨kv, h1, h2⟩ := hh.2; exact ⟨kv, h1, h2.mono hle⟩⟩
def exA (b : Nat) (m : List (Int × List Int)) : Atom := .pred (Ex.rest b m)
theorem ent_fk {I : Imm} (k : Int) : ∀ (kv : List (Int × Value)) (m : List (Int × List Int)) (i : Nat), EntR I kv m → (fk k kv i = none ∧ fk k m i = none) ∨ ∃ j v xs, fk k kv i = some (j, v) ∧ fk k m i = some (j, xs) ∧ FzI I v xs
  | [], [], _, _ => .inl ⟨rfl, rfl⟩
  | [], _ :: _, _, h => h.elim
  | _ :: _, [], _, h => h.elim
  | (p, v) :: kv, (q, xs) :: m, i, h => by
    obtain ⟨⟨h1, h2⟩, h3⟩ := h
    dsimp only at h1 h2
    subst h1
    rw [fk, fk]
    cases hk : (k == p) with
    | true => exact .inr ⟨i, v, xs, rfl, rfl, h2⟩
    | false => exact ent_fk k kv m (i + 1) h3
theorem ent_get {I : Imm} {kv : List (Int × Value)} {m : List (Int × List Int)} (h : EntR I kv m) (k : Int) : FzI I ((getK kv k).getD (.slice none 0 0)) ((getK m k).getD []) ∧ (getK kv k).isSome = (getK m k).isSome := by
  unfold getK
  rcases ent_fk k kv m 0 h with ⟨h1, h2⟩ | ⟨j, v, xs, h1, h2, h3⟩
  · rw [h1, h2]; exact ⟨FzI.nil I, rfl⟩
  · rw [h1, h2]; exact ⟨h3, rfl⟩
theorem put_new {α : Type} {kv : List (Int × α)} {k : Int} {v : α} (h : fk k kv 0 = none) : putK kv k v = kv ++ [(k, v)] := by
  unfold putK; rw [h]
theorem exA_new {b : Nat} : ∀ I h o, Cons I h → Atom.holds I h o (mpA b []) → Atom.holds I h o (exA b []) := fun _ _ _ _ hA => ⟨hA.1, [], hA.2, trivial⟩
section
variable {P : Program}
structure LxX where
  b : Nat
  m : List (Int × List Int)
  k : Int
/-- m[k]: a list, or nil. -/
def lxC (ok : Bool) : Con where
  X := LxX
  Y := Sl
  args x := [.map (some x.b), .int .i64 x.k]
  pre _ := []
  cond _ := True
  rdc x F := Sub (exA x.b x.m) F
  rel x y := IsSrc 1 (ints ((getK x.m x.k).getD [])) y.a y.n ∧ y.n * 8 ≤ 140737488351232
  val x y := .returned (bif ok then .tuple #[.slice y.a y.n y.cap, .bool (getK x.m x.k).isSome] else .slice y.a y.n y.cap)
  post x y := [fzA (.slice y.a y.n y.cap) ((getK x.m x.k).getD [])]
  rmono _ _ _ h hk := fun I h' o hB => by
    obtain ⟨o', hA⟩ := h I h' o hB
    exact hk I h' o' hA
theorem lx_ok {o : Oper} {t kt e : TypeId} {m k : Operand} {inf : TypeInfo} (ok : Bool) (ho : o.op = .lookup t m k ok) (ht : P.underlying t = some (.map kt e)) (hk : P.underlying kt = some (.int .i64)) (hi : P.info? e = some inf) (hz : inf.zero = some (.slice none 0 0)) : OpOk P o (lxC ok) := by
  refine ⟨fun q F I w ρ ha hc hr hs => ?_⟩
  obtain ⟨b, m', key⟩ := q
  replace hs : Sat I (ofL [F]) w := hs
  simp only [ho, Op.operands, lxC] at ha
  have ha2 : ρ m = .map (some b) ∧ ρ k = .int .i64 key := by simpa using ha
  obtain ⟨hm, hkk⟩ := ha2
  obtain ⟨⟨f, h1, h2, h3⟩, hi2⟩ := hs
  obtain ⟨o', hE⟩ := hr I (hp w) (f 0) (h1 0)
  obtain ⟨-, kv, hkv, hent⟩ := hE
  obtain ⟨hf, hsome⟩ := ent_get hent key
  obtain ⟨a, n, cap, he, hsrc, hn, hcells⟩ := hf
  refine ⟨⟨a, n, cap⟩, I, w, _, ⟨hsrc, hn⟩, .inl ?_, rfl, Imm.le_refl I, ⟨⟨fun j => if j = 1 then f 0 else fun _ => False, fun j => ?_, fun i j b ha hb' => ?_, fun j b ha => ?_⟩, hi2⟩, Env.refl w⟩
  · dsimp only
    rw [← he, ← hsome]
    simp [execOp, ho, hm, hkk, lk_run ht hk hi hz hkv]
  · match j with
    | 0 => exact ⟨a, n, cap, rfl, hsrc, hn, hcells⟩
    | 1 => exact h1 0
    | j + 2 => trivial
  · by_cases e1 : i = 1
    · by_cases e2 : j = 1
      · omega
      · simp [e2] at hb'
    · simp [e1] at ha
  · by_cases e1 : j = 1
    · simp only [e1, if_true] at ha
      exact h3 0 b ha
    · simp [e1] at ha
structure UxX where
  b : Nat
  m : List (Int × List Int)
  k : Int
  r : Row
  xs : List Int
/-- m[k] = a list that is owned, and from then on never written again. -/
def uxC : Con where
  X := UxX
  Y := Unit
  args x := [.map (some x.b), .int .i64 x.k, .slice x.r.a x.r.n x.r.cap]
  pre x := [exA x.b x.m, x.r.A]
  cond x := IsRow 3 1 (ints x.xs) x.r ∧ x.r.n * 8 ≤ 140737488351232 ∧ getK x.m x.k = none
  rdc _ _ := True
  rel _ _ := True
  val _ _ := .returned undef
  post x _ := [exA x.b (x.m ++ [(x.k, x.xs)])]
theorem ux_ok {o : Oper} {t kt e : TypeId} {m k x : Operand} (ho : o.op = .mapUpdate t m k x) (ht : P.underlying t = some (.map kt e)) (hk : P.underlying kt = some (.int .i64)) : OpOk P o uxC := by
  refine ⟨fun q F I w ρ ha hc hr hs => ?_⟩
  obtain ⟨b, m', key, r, xs⟩ := q
  obtain ⟨hrow, hn, hnone⟩ := hc
  dsimp only at hrow hn hnone
  replace hs : Sat I (ofL [exA b m', r.A, F]) w := hs
  simp only [ho, Op.operands, uxC] at ha
  have ha2 : ρ m = .map (some b) ∧ ρ k = .int .i64 key ∧ ρ x = .slice r.a r.n r.cap := by simpa using ha
  obtain ⟨hm, hkk, hx⟩ := ha2
  have hsrc := hrow.src
  obtain ⟨J, hle, hfz, hsJ⟩ : ∃ J, Imm.le I J ∧ FzI J (.slice r.a r.n r.cap) xs ∧ Sat J (ofL [exA b m', .emp, F]) w := by
    cases hrow with
    | nil h =>
      have : xs = [] := List.eq_nil_of_length_eq_zero (by rw [← ints_length, h]; rfl)
      subst this
      exact ⟨I, Imm.le_refl I, FzI.nil I, hs⟩
    | blk rb n cap sp hl hsz hncap =>
      obtain ⟨J, hle, hJ, hsJ⟩ := hs.freeze (j := 1) (b := rb) rfl
      refine ⟨J, hle, ⟨_, _, _, rfl, hsrc, hn, fun ad e j u hj => ?_⟩, hsJ⟩
      cases e
      rw [addr_add, cellOf_cells hJ, Nat.zero_add, List.getElem?_append_left (List.getElem?_eq_some_iff.1 hj).1]
      exact hj
  obtain ⟨⟨f, h1, h2, h3⟩, hi2⟩ := hsJ
  obtain ⟨hfb, kv, hkv, hent⟩ := (show Atom.holds J (hp w) (f 0) (exA b m') from h1 0)
  replace hkv : w.heap[b]? = some (mO kv) := hkv
  have hkn : fk key kv 0 = none := by
    unfold getK at hnone
    rcases ent_fk key kv m' 0 hent with ⟨e1, e2⟩ | ⟨j, v, ys, e1, e2, e3⟩
    · exact e1
    · rw [e2] at hnone; cases hnone
  have hblt : b < w.heap.size := (h3 0 b hfb).2
  refine ⟨(), J, { w with heap := w.heap.setIfInBounds b (mO (putK kv key (.slice r.a r.n r.cap))) }, undef, trivial, .inr ⟨?_, rfl⟩, rfl, hle, ?_, ⟨rfl, rfl⟩⟩
  · simp [execOp, ho, hm, hkk, hx, mu_run ht hk hkv]
  · have hw : Sat J (updS (ofL [exA b m', .emp, F]) 0 (exA b (m' ++ [(key, xs)]))) { w with heap := w.heap.setIfInBounds b (mO (putK kv key (.slice r.a r.n r.cap))) } := by
      refine Sat.write ⟨⟨f, h1, h2, h3⟩, hi2⟩ (b := b) (fun o ho => ho.1) (fun c hc => ?_) (by simp) (fun o ho => ?_)
      · have : ¬ b = c := fun e => hc e.symm
        simp [Array.getElem?_setIfInBounds, this]
      · refine ⟨ho.1, putK kv key (.slice r.a r.n r.cap), ?_, ?_⟩
        · show (w.heap.setIfInBounds b _)[b]? = _
          simp [hblt]
        · rw [put_new hkn]
          exact All2.snoc ⟨rfl, hfz⟩ hent
    exact Sat.pick (S := updS (ofL [exA b m', .emp, F]) 0 (exA b (m' ++ [(key, xs)]))) [0, 2] rfl rfl hw
end
end Go.Proofs.Ytkmdgnbfojkcnaa
