/- Maps whose keys are ints, as atoms: update, lookup. -/
import Derived.Test.YtkmdgnbfojkcnaaEngO
import Derived.Maps.Keyed
namespace Go.Proofs.Ytkmdgnbfojkcnaa
open Go
def mEl : Nat → List (Int × Value) → List MapEntry
  | _, [] => []
  | n, (k, v) :: r => ⟨.int .i64 k, v, n⟩ :: mEl (n + 1) r
def mO (kv : List (Int × Value)) : Obj := .map ⟨mEl 0 kv⟩ kv.length
/-- A map that is owned: its entries, in the order in which they came. -/
def mpA (b : Nat) (kv : List (Int × Value)) : Atom := .obj b (mO kv)
def fk {α : Type} (k : Int) : List (Int × α) → Nat → Option (Nat × α)
  | [], _ => none
  | (j, v) :: r, i => bif k == j then some (i, v) else fk k r (i + 1)
def getK {α : Type} (kv : List (Int × α)) (k : Int) : Option α := (fk k kv 0).map (·.2)
def putK {α : Type} (kv : List (Int × α)) (k : Int) (v : α) : List (Int × α) := match fk k kv 0 with | some (i, _) => kv.set i (k, v) | none => kv ++ [(k, v)]
theorem find_now (k : Int) : ∀ (kv : List (Int × Value)) (n i : Nat), Instr.findNow (.int .i64) (.int .i64 k) (mEl n kv) i = some (fk k kv i)
  | [], _, _ => rfl
  | (j, v) :: r, n, i => by
    have ih := find_now k r (n + 1) (i + 1)
    rw [mEl, Instr.findNow, fk]
    simp only [Instr.sameNow, if_true]
    cases hk : (k == j) with
    | true => rfl
    | false => exact ih
theorem fk_spec {α : Type} (k : Int) : ∀ (kv : List (Int × α)) (i : Nat), (fk k kv i = none ∧ ∀ p ∈ kv, p.1 ≠ k) ∨ ∃ j v, fk k kv i = some (i + j, v) ∧ kv[j]? = some (k, v) ∧ ∀ p ∈ kv.take j, p.1 ≠ k
  | [], _ => .inl ⟨rfl, fun p hp => by simp at hp⟩
  | (q, v) :: r, i => by
    rw [fk]
    cases hk : (k == q) with
    | true =>
      have : k = q := by simpa using hk
      subst this
      exact .inr ⟨0, v, rfl, rfl, fun p hp => by simp at hp⟩
    | false =>
      have hne : k ≠ q := by simpa using hk
      rcases fk_spec k r (i + 1) with ⟨h1, h2⟩ | ⟨j, u, h1, h2, h3⟩
      · exact .inl ⟨h1, fun p hp => by
          rcases List.mem_cons.1 hp with rfl | hp
          · exact fun e => hne e.symm
          · exact h2 p hp⟩
      · exact .inr ⟨j + 1, u, by rw [cond_false, h1]; congr 2; omega, by simpa using h2, fun p hp => by
          rw [List.take_succ_cons] at hp
          rcases List.mem_cons.1 hp with rfl | hp
          · exact fun e => hne e.symm
          · exact h3 p hp⟩
theorem mEl_get : ∀ (kv : List (Int × Value)) (n j : Nat), (mEl n kv)[j]? = (kv[j]?).map fun p => ⟨.int .i64 p.1, p.2, n + j⟩
  | [], _, j => by simp [mEl]
  | (k, v) :: r, n, 0 => rfl
  | (k, v) :: r, n, j + 1 => by
    rw [mEl, List.getElem?_cons_succ, List.getElem?_cons_succ, mEl_get r (n + 1) j]
    congr 1
    funext p
    congr 1
    omega
theorem mEl_length : ∀ (kv : List (Int × Value)) (n : Nat), (mEl n kv).length = kv.length
  | [], _ => rfl
  | (k, v) :: r, n => by rw [mEl, List.length_cons, List.length_cons, mEl_length r (n + 1)]
theorem mEl_snoc (k : Int) (v : Value) : ∀ (kv : List (Int × Value)) (n : Nat), mEl n (kv ++ [(k, v)]) = mEl n kv ++ [⟨.int .i64 k, v, n + kv.length⟩]
  | [], _ => rfl
  | (j, u) :: r, n => by
    rw [List.cons_append, mEl, mEl, mEl_snoc k v r (n + 1), List.length_cons, List.cons_append]
    congr 4
    omega
theorem mEl_set (k : Int) (v : Value) (kv : List (Int × Value)) (n j : Nat) (e : MapEntry) (h : (mEl n kv)[j]? = some e) : mEl n (kv.set j (k, v)) = (mEl n kv).set j { e with key := .int .i64 k, val := v } := by
  refine List.ext_getElem? fun i => ?_
  rw [mEl_get, List.getElem?_set, List.getElem?_set, mEl_get]
  rw [mEl_get] at h
  have hj : j < kv.length := by
    cases hk : kv[j]? with
    | none => rw [hk] at h; simp at h
    | some p => exact (List.getElem?_eq_some_iff.1 hk).1
  by_cases e1 : j = i
  · subst e1
    rw [List.getElem?_eq_getElem hj] at h
    simp only [Option.map_some, Option.some.injEq] at h
    subst h
    simp [hj, mEl_length]
  · simp [e1]
structure MapIn (F : Atom) (b : Nat) (kv : List (Int × Value)) : Prop where
  h : ∀ I h o, Cons I h → F.holds I h o → h b = some (mO kv)
theorem MapIn.sub {A B : Atom} {b : Nat} {kv : List (Int × Value)} (hs : Sub A B) (h : MapIn A b kv) : MapIn B b kv := ⟨fun I h' o hc hB => by
  obtain ⟨o', hA⟩ := hs I h' o hB
  exact h.h I h' o' hc hA⟩
theorem MapIn.own {b : Nat} {kv : List (Int × Value)} : MapIn (mpA b kv) b kv := ⟨fun _ _ _ _ h => h.2⟩
theorem Sat.mapIn {I : Imm} {S : St} {w : World} (h : Sat I S w) {j b : Nat} {kv : List (Int × Value)} (hm : MapIn (gt S j) b kv) : w.heap[b]? = some (mO kv) := by
  obtain ⟨f, h1, _, _⟩ := h.own
  exact hm.h I (hp w) (f j) h.imm (h1 j)
section
variable {P : Program}
structure MuX where
  b : Nat
  kv : List (Int × Value)
  k : Int
  v : Value
/-- m[k] = v -/
def muC : Con where
  X := MuX
  Y := Unit
  args x := [.map (some x.b), .int .i64 x.k, x.v]
  pre x := [mpA x.b x.kv]
  cond _ := True
  rdc _ _ := True
  rel _ _ := True
  val _ _ := .returned undef
  post x _ := [mpA x.b (putK x.kv x.k x.v)]
theorem same_bits (k : Int) : Instr.sameBits 10000 (.int .i64 k) (.int .i64 k) = true := by
  unfold Instr.sameBits
  simp
theorem mu_run {t kt e : TypeId} (ht : P.underlying t = some (.map kt e)) (hk : P.underlying kt = some (.int .i64)) {w : World} {b : Nat} {kv : List (Int × Value)} (hb : w.heap[b]? = some (mO kv)) (key : Int) (v : Value) :
    (Instr.mapUpdate t (.map (some b)) (.int .i64 key) v).run P w = .ok () { w with heap := w.heap.setIfInBounds b (mO (putK kv key v)) } := by
  replace hb : w.heap[b]? = some (.map ⟨mEl 0 kv⟩ kv.length) := hb
  have hks : MapKept.IsKey (.int .i64) (.int .i64 key) := rfl
  have hck := MapKept.run_checkKey (P := P) (w := w) hk hks false 9999
  have hfn := find_now key kv 0 0
  have hrf := MapKept.run_findKey (P := P) (w := w) (l := mEl 0 kv) hk hfn
  rcases fk_spec key kv 0 with ⟨h1, h2⟩ | ⟨j, u, h1, h2, h3⟩
  · rw [h1] at hrf
    simp [Instr.mapUpdate, run_underlying ht, MapKept.run_getObj_map hb, hck, hrf, MapKept.run_setObj_map _ hb, Result.andThen, putK, h1, mO, mEl_snoc]
  · rw [h1, Nat.zero_add] at hrf
    rw [Nat.zero_add] at h1
    have hj : (mEl 0 kv)[j]? = some ⟨.int .i64 key, u, j⟩ := by rw [mEl_get, h2]; simp
    have hset : (mEl 0 kv).modify j (fun e => { e with key := .int .i64 key, val := v }) = mEl 0 (kv.set j (key, v)) := by
      rw [ChangeMaps.modify_eq_set _ _ _ _ hj, mEl_set key v kv 0 j _ hj]
    simp [Instr.mapUpdate, run_underlying ht, MapKept.run_getObj_map hb, hck, hrf, hj, Instr.keyThatStays, same_bits, MapKept.run_setObj_map _ hb, Result.andThen, putK, h1, mO, hset]
theorem mu_ok {o : Oper} {t kt e : TypeId} {m k x : Operand} (ho : o.op = .mapUpdate t m k x) (ht : P.underlying t = some (.map kt e)) (hk : P.underlying kt = some (.int .i64)) : OpOk P o muC := by
  refine ⟨fun q F I w ρ ha hc hr hs => ?_⟩
  obtain ⟨b, kv, key, v⟩ := q
  simp only [ho, Op.operands, muC] at ha
  have ha2 : ρ m = .map (some b) ∧ ρ k = .int .i64 key ∧ ρ x = v := by simpa using ha
  obtain ⟨hm, hkk, hx⟩ := ha2
  have hb : w.heap[b]? = some (mO kv) := hs.mapIn (j := 0) MapIn.own
  refine ⟨(), I, { w with heap := w.heap.setIfInBounds b (mO (putK kv key v)) }, undef, trivial, .inr ⟨?_, rfl⟩, rfl, Imm.le_refl I, ?_, ⟨rfl, rfl⟩⟩
  · simp [execOp, ho, hm, hkk, hx, mu_run ht hk hb]
  · exact Sat.setObj hs (j := 0) (b := b) (o := mO kv) rfl (mO (putK kv key v))
structure LkX where
  b : Nat
  kv : List (Int × Value)
  k : Int
/-- m[k], with or without 'ok'; 'z': the zero value. -/
def lkC (z : Value) (ok : Bool) : Con where
  X := LkX
  Y := Unit
  args x := [.map (some x.b), .int .i64 x.k]
  pre _ := []
  cond _ := True
  rdc x F := MapIn F x.b x.kv
  rel _ _ := True
  val x _ := .returned (bif ok then .tuple #[(getK x.kv x.k).getD z, .bool (getK x.kv x.k).isSome] else (getK x.kv x.k).getD z)
  post _ _ := []
  rmono _ _ _ h hk := hk.sub h
theorem lk_run {t kt e : TypeId} {inf : TypeInfo} {z : Value} (ht : P.underlying t = some (.map kt e)) (hk : P.underlying kt = some (.int .i64)) (hi : P.info? e = some inf) (hz : inf.zero = some z) {w : World} {b : Nat} {kv : List (Int × Value)} (hb : w.heap[b]? = some (mO kv)) (key : Int) (ok : Bool) :
    (Instr.lookup t (.map (some b)) (.int .i64 key) ok).run P w = .ok (bif ok then .tuple #[(getK kv key).getD z, .bool (getK kv key).isSome] else (getK kv key).getD z) w := by
  replace hb : w.heap[b]? = some (.map ⟨mEl 0 kv⟩ kv.length) := hb
  have hks : MapKept.IsKey (.int .i64) (.int .i64 key) := rfl
  have hck := fun em => MapKept.run_checkKey (P := P) (w := w) hk hks em 9999
  have hrf := MapKept.run_findKey (P := P) (w := w) (l := mEl 0 kv) hk (find_now key kv 0 0)
  cases hf : fk key kv 0 with
  | none =>
    rw [hf] at hrf
    cases ok <;> simp [Instr.lookup, run_underlying ht, MapKept.run_getObj_map hb, hck, hrf, zeroValue, typeInfo, hi, hz, Result.andThen, getK, hf]
  | some p =>
    rw [hf] at hrf
    obtain ⟨i, v⟩ := p
    cases ok <;> simp [Instr.lookup, run_underlying ht, MapKept.run_getObj_map hb, hck, hrf, Result.andThen, getK, hf]
theorem lk_ok {o : Oper} {t kt e : TypeId} {m k : Operand} {inf : TypeInfo} (z : Value) (ok : Bool) (ho : o.op = .lookup t m k ok) (ht : P.underlying t = some (.map kt e)) (hk : P.underlying kt = some (.int .i64)) (hi : P.info? e = some inf) (hz : inf.zero = some z) : OpOk P o (lkC z ok) := by
  refine ⟨fun q F I w ρ ha hc hr hs => ?_⟩
  obtain ⟨b, kv, key⟩ := q
  simp only [ho, Op.operands, lkC] at ha
  have ha2 : ρ m = .map (some b) ∧ ρ k = .int .i64 key := by simpa using ha
  obtain ⟨hm, hkk⟩ := ha2
  have hb : w.heap[b]? = some (mO kv) := hs.mapIn (j := 0) hr
  refine ⟨(), I, w, _, trivial, .inl ?_, rfl, Imm.le_refl I, hs, Env.refl w⟩
  simp [execOp, ho, hm, hkk, lk_run ht hk hi hz hb]
end
end Go.Proofs.Ytkmdgnbfojkcnaa
