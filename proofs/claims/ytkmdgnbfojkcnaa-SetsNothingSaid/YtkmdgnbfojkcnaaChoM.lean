/- maps.Keys, slices.Sorted and slices.Sort of this program are the library's: what the kit's contracts ask. Maps whose keys are ints, as atoms: update, lookup. maps.Keys and slices.Sorted(maps.Keys(m)): contracts. -/
import Derived.Shelf.SlIterI.Nil
import Derived.Shelf.SortM.Plain
import Derived.Shelf.SortM.SortNone
import Derived.Test.YtkmdgnbfojkcnaaProg
import Derived.Test.YtkmdgnbfojkcnaaEngO
import Derived.Maps.Keyed
import Derived.Test.YtkmdgnbfojkcnaaLatE
set_option linter.all false
namespace Go.Proofs.Ytkmdgnbfojkcnaa
open Go Go.Shelf Go.Proofs
def keysB_ren : Go.Shelf.Ren := ⟨fun | 7 => 94 | 10 => 118 | n => n, fun | 23 => 125 | 26 => 3 | 3 => 4 | 28 => 132 | 0 => 0 | 27 => 131 | 33 => 42 | 4 => 4 | n => n, fun | n => n⟩
theorem keysB : Go.Proofs.SlLaysZI.n7 Try.prog keysB_ren where
  mixed := by kernel_rfl
  f7 := ⟨Try.f94.name, by decide, Try.func94.trans (congrArg some (by kernel_rfl))⟩
  f10 := ⟨Try.f118.name, by decide, Try.func118.trans (congrArg some (by kernel_rfl))⟩
  t0 := Try.underlying0
  a0 := Try.isAgg0
  z0 := Try.sizeOf0
  v0 := Try.zeroValue0
  t4 := Try.underlying4
  a4 := Try.isAgg4
  z4 := Try.sizeOf4
  v4 := Try.zeroValue4
  t23 := Try.underlying125
  a23 := Try.isAgg125
  z23 := Try.sizeOf125
  v23 := Try.zeroValue125
  t26 := Try.underlying3
  a26 := Try.isAgg3
  z26 := Try.sizeOf3
  v26 := Try.zeroValue3
  t27 := Try.underlying131
  a27 := Try.isAgg131
  z27 := Try.sizeOf131
  v27 := Try.zeroValue131
  t28 := Try.underlying132
  a28 := Try.isAgg132
  z28 := Try.sizeOf132
  v28 := Try.zeroValue132
  t33 := Try.underlying42
  a33 := Try.isAgg42
  z33 := Try.sizeOf42
  v33 := Try.zeroValue42
def keysI_ren : Go.Shelf.Ren := ⟨fun | 7 => 93 | 10 => 117 | n => n, fun | 23 => 124 | 26 => 3 | 3 => 3 | 28 => 132 | 0 => 0 | 27 => 131 | 33 => 42 | 4 => 4 | n => n, fun | n => n⟩
theorem keysI : Go.Proofs.SlLaysZI.n7 Try.prog keysI_ren where
  mixed := by kernel_rfl
  f7 := ⟨Try.f93.name, by decide, Try.func93.trans (congrArg some (by kernel_rfl))⟩
  f10 := ⟨Try.f117.name, by decide, Try.func117.trans (congrArg some (by kernel_rfl))⟩
  t0 := Try.underlying0
  a0 := Try.isAgg0
  z0 := Try.sizeOf0
  v0 := Try.zeroValue0
  t4 := Try.underlying4
  a4 := Try.isAgg4
  z4 := Try.sizeOf4
  v4 := Try.zeroValue4
  t23 := Try.underlying124
  a23 := Try.isAgg124
  z23 := Try.sizeOf124
  v23 := Try.zeroValue124
  t26 := Try.underlying3
  a26 := Try.isAgg3
  z26 := Try.sizeOf3
  v26 := Try.zeroValue3
  t27 := Try.underlying131
  a27 := Try.isAgg131
  z27 := Try.sizeOf131
  v27 := Try.zeroValue131
  t28 := Try.underlying132
  a28 := Try.isAgg132
  z28 := Try.sizeOf132
  v28 := Try.zeroValue132
  t33 := Try.underlying42
  a33 := Try.isAgg42
  z33 := Try.sizeOf42
  v33 := Try.zeroValue42
def sortedL_ren : Go.Shelf.Ren := ⟨fun | 6 => 92 | 8 => 115 | 9 => 116 | 11 => 125 | 13 => 127 | 12 => 126 | 23 => 138 | 24 => 139 | 14 => 129 | 15 => 130 | 16 => 131 | 17 => 132 | 18 => 133 | 19 => 134 | 20 => 135 | 21 => 136 | 22 => 137 | 25 => 141 | 26 => 142 | 27 => 143 | 28 => 144 | 29 => 145 | 30 => 146 | 31 => 147 | n => n, fun | 26 => 3 | 28 => 132 | 24 => 29 | 0 => 0 | 3 => 3 | 37 => 152 | 48 => 161 | 50 => 163 | 4 => 4 | 40 => 155 | 39 => 154 | 45 => 80 | 5 => 5 | 9 => 9 | 51 => 164 | 55 => 168 | 57 => 170 | 58 => 171 | 33 => 42 | n => n, fun | n => n⟩
theorem sortedL : Go.Proofs.SlLaysZI.n6 Try.prog sortedL_ren where
  mixed := by kernel_rfl
  f6 := ⟨Try.f92.name, by decide, Try.func92.trans (congrArg some (by kernel_rfl))⟩
  f8 := ⟨Try.f115.name, by decide, Try.func115.trans (congrArg some (by kernel_rfl))⟩
  f11 := ⟨Try.f125.name, by decide, Try.func125.trans (congrArg some (by kernel_rfl))⟩
  t0 := Try.underlying0
  a0 := Try.isAgg0
  z0 := Try.sizeOf0
  v0 := Try.zeroValue0
  t24 := Try.underlying29
  a24 := Try.isAgg29
  z24 := Try.sizeOf29
  v24 := Try.zeroValue29
  t26 := Try.underlying3
  a26 := Try.isAgg3
  z26 := Try.sizeOf3
  v26 := Try.zeroValue3
  t28 := Try.underlying132
  a28 := Try.isAgg132
  z28 := Try.sizeOf132
  v28 := Try.zeroValue132
  i26 := by kernel_rfl
def sortL_ren : Go.Shelf.Ren := ⟨fun | 5 => 116 | 8 => 127 | 7 => 126 | 19 => 138 | 20 => 139 | 10 => 129 | 11 => 130 | 12 => 131 | 13 => 132 | 14 => 133 | 15 => 134 | 16 => 135 | 17 => 136 | 18 => 137 | 30 => 141 | 31 => 142 | 32 => 143 | 33 => 144 | 34 => 145 | 35 => 146 | 40 => 147 | n => n, fun | 23 => 29 | 25 => 3 | 3 => 3 | 32 => 152 | 22 => 29 | 0 => 0 | 44 => 161 | 46 => 163 | 4 => 4 | 36 => 155 | 35 => 154 | 41 => 80 | 5 => 5 | 9 => 9 | 53 => 164 | 57 => 168 | 63 => 170 | 64 => 171 | n => n, fun | n => n⟩
theorem sortL : Go.Proofs.SlLaysM.n5 Try.prog sortL_ren where
  mixed := by kernel_rfl
  f5 := ⟨Try.f116.name, by decide, Try.func116.trans (congrArg some (by kernel_rfl))⟩
  f7 := ⟨Try.f126.name, by decide, Try.func126.trans (congrArg some (by kernel_rfl))⟩
  f8 := Try.func127.trans (congrArg some (by kernel_rfl))
  f10 := ⟨Try.f129.name, by decide, Try.func129.trans (congrArg some (by kernel_rfl))⟩
  f11 := ⟨Try.f130.name, by decide, Try.func130.trans (congrArg some (by kernel_rfl))⟩
  f12 := ⟨Try.f131.name, by decide, Try.func131.trans (congrArg some (by kernel_rfl))⟩
  f13 := ⟨Try.f132.name, by decide, Try.func132.trans (congrArg some (by kernel_rfl))⟩
  f14 := ⟨Try.f133.name, by decide, Try.func133.trans (congrArg some (by kernel_rfl))⟩
  f15 := ⟨Try.f134.name, by decide, Try.func134.trans (congrArg some (by kernel_rfl))⟩
  f16 := ⟨Try.f135.name, by decide, Try.func135.trans (congrArg some (by kernel_rfl))⟩
  f17 := ⟨Try.f136.name, by decide, Try.func136.trans (congrArg some (by kernel_rfl))⟩
  f18 := ⟨Try.f137.name, by decide, Try.func137.trans (congrArg some (by kernel_rfl))⟩
  f19 := Try.func138.trans (congrArg some (by kernel_rfl))
  f20 := Try.func139.trans (congrArg some (by kernel_rfl))
  f30 := ⟨Try.f141.name, by decide, Try.func141.trans (congrArg some (by kernel_rfl))⟩
  f31 := Try.func142.trans (congrArg some (by kernel_rfl))
  f32 := Try.func143.trans (congrArg some (by kernel_rfl))
  f33 := ⟨Try.f144.name, by decide, Try.func144.trans (congrArg some (by kernel_rfl))⟩
  f34 := ⟨Try.f145.name, by decide, Try.func145.trans (congrArg some (by kernel_rfl))⟩
  f35 := ⟨Try.f146.name, by decide, Try.func146.trans (congrArg some (by kernel_rfl))⟩
  f40 := ⟨Try.f147.name, by decide, Try.func147.trans (congrArg some (by kernel_rfl))⟩
  t0 := Try.underlying0
  a0 := Try.isAgg0
  z0 := Try.sizeOf0
  v0 := Try.zeroValue0
  t3 := Try.underlying3
  a3 := Try.isAgg3
  z3 := Try.sizeOf3
  v3 := Try.zeroValue3
  t4 := Try.underlying4
  a4 := Try.isAgg4
  z4 := Try.sizeOf4
  v4 := Try.zeroValue4
  t5 := Try.underlying5
  a5 := Try.isAgg5
  z5 := Try.sizeOf5
  v5 := Try.zeroValue5
  t9 := Try.underlying9
  a9 := Try.isAgg9
  z9 := Try.sizeOf9
  v9 := Try.zeroValue9
  t22 := Try.underlying29
  a22 := Try.isAgg29
  z22 := Try.sizeOf29
  v22 := Try.zeroValue29
  t23 := Try.underlying29
  a23 := Try.isAgg29
  z23 := Try.sizeOf29
  v23 := Try.zeroValue29
  t25 := Try.underlying3
  a25 := Try.isAgg3
  z25 := Try.sizeOf3
  v25 := Try.zeroValue3
  t32 := Try.underlying152
  a32 := Try.isAgg152
  z32 := Try.sizeOf152
  v32 := Try.zeroValue152
  t35 := Try.underlying154
  a35 := Try.isAgg154
  z35 := Try.sizeOf154
  v35 := Try.zeroValue154
  t36 := Try.underlying155
  a36 := Try.isAgg155
  z36 := Try.sizeOf155
  v36 := Try.zeroValue155
  t41 := Try.underlying80
  a41 := Try.isAgg80
  z41 := Try.sizeOf80
  v41 := Try.zeroValue80
  t44 := Try.underlying161
  a44 := Try.isAgg161
  z44 := Try.sizeOf161
  v44 := Try.zeroValue161
  t46 := Try.underlying163
  a46 := Try.isAgg163
  z46 := Try.sizeOf163
  v46 := Try.zeroValue163
  t53 := Try.underlying164
  a53 := Try.isAgg164
  z53 := Try.sizeOf164
  v53 := Try.zeroValue164
  t57 := Try.underlying168
  a57 := Try.isAgg168
  z57 := Try.sizeOf168
  v57 := Try.zeroValue168
  t63 := Try.underlying170
  a63 := Try.isAgg170
  z63 := Try.sizeOf170
  v63 := Try.zeroValue170
  t64 := Try.underlying171
  a64 := Try.isAgg171
  z64 := Try.sizeOf171
  v64 := Try.zeroValue171
end Go.Proofs.Ytkmdgnbfojkcnaa
namespace Go.Proofs.Ytkmdgnbfojkcnaa
open Go
set_option maxHeartbeats 1000000
def mEl : Nat → List (Int × Value) → List MapEntry
  | _, [] => []
  | n, (k, v) :: r => ⟨.int .i64 k, v, n⟩ :: mEl (n + 1) r
def mO (kv : List (Int × Value)) : Obj := .map ⟨mEl 0 kv⟩ kv.length
/-- A map that is owned: its entries, in the order in which they came. -/
def mpA (b : Nat) (kv : List (Int × Value)) : Atom := .obj b (mO kv)
def fk {α : Type} (k : Int) : List (Int × α) → Nat → Option (Nat × α)
  | [], _ => none
  | (j, v) :: r, i => bif k == j then some (i, v) else fk k r (i + 1)
def getK {α : Type} (kv : List (Int × α)) (k : Int) : Option α := (fk k kv 0).map (·.2)
def putK {α : Type} (kv : List (Int × α)) (k : Int) (v : α) : List (Int × α) := match fk k kv 0 with | some (i, _) => kv.set i (k, v) | none => kv ++ [(k, v)]
theorem find_now (k : Int) : ∀ (kv : List (Int × Value)) (n i : Nat), Instr.findNow (.int .i64) (.int .i64 k) (mEl n kv) i = some (fk k kv i)
  | [], _, _ => rfl
  | (j, v) :: r, n, i => by
    have ih := find_now k r (n + 1) (i + 1)
    rw [mEl, Instr.findNow, fk]
    simp only [Instr.sameNow, if_true]
    cases hk : (k == j) with
    | true => rfl
    | false => exact ih
theorem fk_spec {α : Type} (k : Int) : ∀ (kv : List (Int × α)) (i : Nat), (fk k kv i = none ∧ ∀ p ∈ kv, p.1 ≠ k) ∨ ∃ j v, fk k kv i = some (i + j, v) ∧ kv[j]? = some (k, v) ∧ ∀ p ∈ kv.take j, p.1 ≠ k
  | [], _ => .inl ⟨rfl, fun p hp => by simp at hp⟩
  | (q, v) :: r, i => by
    rw [fk]
    cases hk : (k == q) with
    | true =>
      have : k = q := by simpa using hk
      subst this
      exact .inr ⟨0, v, rfl, rfl, fun p hp => by simp at hp⟩
    | false =>
      have hne : k ≠ q := by simpa using hk
      rcases fk_spec k r (i + 1) with ⟨h1, h2⟩ | ⟨j, u, h1, h2, h3⟩
      · exact .inl ⟨h1, fun p hp => by
          rcases List.mem_cons.1 hp with rfl | hp
          · exact fun e => hne e.symm
          · exact h2 p hp⟩
      · exact .inr ⟨j + 1, u, by rw [cond_false, h1]; congr 2; omega, by simpa using h2, fun p hp => by
          rw [List.take_succ_cons] at hp
          rcases List.mem_cons.1 hp with rfl | hp
          · exact fun e => hne e.symm
          · exact h3 p hp⟩
theorem mEl_get : ∀ (kv : List (Int × Value)) (n j : Nat), (mEl n kv)[j]? = (kv[j]?).map fun p => ⟨.int .i64 p.1, p.2, n + j⟩
  | [], _, j => by simp [mEl]
  | (k, v) :: r, n, 0 => rfl
  | (k, v) :: r, n, j + 1 => by
    rw [mEl, List.getElem?_cons_succ, List.getElem?_cons_succ, mEl_get r (n + 1) j]
    congr 1
    funext p
    congr 1
    omega
theorem mEl_length : ∀ (kv : List (Int × Value)) (n : Nat), (mEl n kv).length = kv.length
  | [], _ => rfl
  | (k, v) :: r, n => by rw [mEl, List.length_cons, List.length_cons, mEl_length r (n + 1)]
theorem mEl_snoc (k : Int) (v : Value) : ∀ (kv : List (Int × Value)) (n : Nat), mEl n (kv ++ [(k, v)]) = mEl n kv ++ [⟨.int .i64 k, v, n + kv.length⟩]
  | [], _ => rfl
  | (j, u) :: r, n => by
    rw [List.cons_append, mEl, mEl, mEl_snoc k v r (n + 1), List.length_cons, List.cons_append]
    congr 4
    omega
theorem mEl_set (k : Int) (v : Value) (kv : List (Int × Value)) (n j : Nat) (e : MapEntry) (h : (mEl n kv)[j]? = some e) : mEl n (kv.set j (k, v)) = (mEl n kv).set j { e with key := .int .i64 k, val := v } := by
  refine List.ext_getElem? fun i => ?_
  rw [mEl_get, List.getElem?_set, List.getElem?_set, mEl_get]
  rw [mEl_get] at h
  have hj : j < kv.length := by
    cases hk : kv[j]? with
    | none => rw [hk] at h; simp at h
    | some p => exact (List.getElem?_eq_some_iff.1 hk).1
  by_cases e1 : j = i
  · subst e1
    rw [List.getElem?_eq_getElem hj] at h
    simp only [Option.map_some, Option.some.injEq] at h
    subst h
    simp [hj, mEl_length]
  · simp [e1]
structure MapIn (F : Atom) (b : Nat) (kv : List (Int × Value)) : Prop where
  h : ∀ I h o, Cons I h → F.holds I h o → h b = some (mO kv)
theorem MapIn.sub {A B : Atom} {b : Nat} {kv : List (Int × Value)} (hs : Sub A B) (h : MapIn A b kv) : MapIn B b kv := ⟨fun I h' o hc hB => by
  obtain ⟨o', hA⟩ := hs I h' o hB
  exact h.h I h' o' hc hA⟩
theorem MapIn.own {b : Nat} {kv : List (Int × Value)} : MapIn (mpA b kv) b kv := ⟨fun _ _ _ _ h => h.2⟩
theorem Sat.mapIn {I : Imm} {S : St} {w : World} (h : Sat I S w) {j b : Nat} {kv : List (Int × Value)} (hm : MapIn (gt S j) b kv) : w.heap[b]? = some (mO kv) := by
  obtain ⟨f, h1, _, _⟩ := h.own
  exact hm.h I (hp w) (f j) h.imm (h1 j)
section
variable {P : Program}
structure MuX where
  b : Nat
  kv : List (Int × Value)
  k : Int
  v : Value
/-- m[k] = v -/
def muC : Con where
  X := MuX
  Y := Unit
  args x := [.map (some x.b), .int .i64 x.k, x.v]
  pre x := [mpA x.b x.kv]
  cond _ := True
  rdc _ _ := True
  rel _ _ := True
  val _ _ := .returned undef
  post x _ := [mpA x.b (putK x.kv x.k x.v)]
theorem same_bits (k : Int) : Instr.sameBits 10000 (.int .i64 k) (.int .i64 k) = true := by
  unfold Instr.sameBits
  simp
theorem mu_run {t kt e : TypeId} (ht : P.underlying t = some (.map kt e)) (hk : P.underlying kt = some (.int .i64)) {w : World} {b : Nat} {kv : List (Int × Value)} (hb : w.heap[b]? = some (mO kv)) (key : Int) (v : Value) :
    (Instr.mapUpdate t (.map (some b)) (.int .i64 key) v).run P w = .ok () { w with heap := w.heap.setIfInBounds b (mO (putK kv key v)) } := by
  replace hb : w.heap[b]? = some (.map ⟨mEl 0 kv⟩ kv.length) := hb
  have hks : MapKept.IsKey (.int .i64) (.int .i64 key) := rfl
  have hck := MapKept.run_checkKey (P := P) (w := w) hk hks false 9999
  have hfn := find_now key kv 0 0
  have hrf := MapKept.run_findKey (P := P) (w := w) (l := mEl 0 kv) hk hfn
  rcases fk_spec key kv 0 with ⟨h1, h2⟩ | ⟨j, u, h1, h2, h3⟩
  · rw [h1] at hrf
    simp [Instr.mapUpdate, run_underlying ht, MapKept.run_getObj_map hb, hck, hrf, MapKept.run_setObj_map _ hb, Result.andThen, putK, h1, mO, mEl_snoc]
  · rw [h1, Nat.zero_add] at hrf
    rw [Nat.zero_add] at h1
    have hj : (mEl 0 kv)[j]? = some ⟨.int .i64 key, u, j⟩ := by rw [mEl_get, h2]; simp
    have hset : (mEl 0 kv).modify j (fun e => { e with key := .int .i64 key, val := v }) = mEl 0 (kv.set j (key, v)) := by
      rw [ChangeMaps.modify_eq_set _ _ _ _ hj, mEl_set key v kv 0 j _ hj]
    simp [Instr.mapUpdate, run_underlying ht, MapKept.run_getObj_map hb, hck, hrf, hj, Instr.keyThatStays, same_bits, MapKept.run_setObj_map _ hb, Result.andThen, putK, h1, mO, hset]
theorem mu_ok {o : Oper} {t kt e : TypeId} {m k x : Operand} (ho : o.op = .mapUpdate t m k x) (ht : P.underlying t = some (.map kt e)) (hk : P.underlying kt = some (.int .i64)) : OpOk P o muC := by
  refine ⟨fun q F I w ρ ha hc hr hs => ?_⟩
  obtain ⟨b, kv, key, v⟩ := q
  simp only [ho, Op.operands, muC] at ha
  have ha2 : ρ m = .map (some b) ∧ ρ k = .int .i64 key ∧ ρ x = v := by simpa using ha
  obtain ⟨hm, hkk, hx⟩ := ha2
  have hb : w.heap[b]? = some (mO kv) := hs.mapIn (j := 0) MapIn.own
  refine ⟨(), I, { w with heap := w.heap.setIfInBounds b (mO (putK kv key v)) }, undef, trivial, .inr ⟨?_, rfl⟩, rfl, Imm.le_refl I, ?_, ⟨rfl, rfl⟩⟩
  · simp [execOp, ho, hm, hkk, hx, mu_run ht hk hb]
  · exact Sat.setObj hs (j := 0) (b := b) (o := mO kv) rfl (mO (putK kv key v))
structure LkX where
  b : Nat
  kv : List (Int × Value)
  k : Int
/-- m[k], with or without 'ok'; 'z': the zero value. -/
def lkC (z : Value) (ok : Bool) : Con where
  X := LkX
  Y := Unit
  args x := [.map (some x.b), .int .i64 x.k]
  pre _ := []
  cond _ := True
  rdc x F := MapIn F x.b x.kv
  rel _ _ := True
  val x _ := .returned (bif ok then .tuple #[(getK x.kv x.k).getD z, .bool (getK x.kv x.k).isSome] else (getK x.kv x.k).getD z)
  post _ _ := []
  rmono _ _ _ h hk := hk.sub h
theorem lk_run {t kt e : TypeId} {inf : TypeInfo} {z : Value} (ht : P.underlying t = some (.map kt e)) (hk : P.underlying kt = some (.int .i64)) (hi : P.info? e = some inf) (hz : inf.zero = some z) {w : World} {b : Nat} {kv : List (Int × Value)} (hb : w.heap[b]? = some (mO kv)) (key : Int) (ok : Bool) :
    (Instr.lookup t (.map (some b)) (.int .i64 key) ok).run P w = .ok (bif ok then .tuple #[(getK kv key).getD z, .bool (getK kv key).isSome] else (getK kv key).getD z) w := by
  replace hb : w.heap[b]? = some (.map ⟨mEl 0 kv⟩ kv.length) := hb
  have hks : MapKept.IsKey (.int .i64) (.int .i64 key) := rfl
  have hck := fun em => MapKept.run_checkKey (P := P) (w := w) hk hks em 9999
  have hrf := MapKept.run_findKey (P := P) (w := w) (l := mEl 0 kv) hk (find_now key kv 0 0)
  cases hf : fk key kv 0 with
  | none =>
    rw [hf] at hrf
    cases ok <;> simp [Instr.lookup, run_underlying ht, MapKept.run_getObj_map hb, hck, hrf, zeroValue, typeInfo, hi, hz, Result.andThen, getK, hf]
  | some p =>
    rw [hf] at hrf
    obtain ⟨i, v⟩ := p
    cases ok <;> simp [Instr.lookup, run_underlying ht, MapKept.run_getObj_map hb, hck, hrf, Result.andThen, getK, hf]
theorem lk_ok {o : Oper} {t kt e : TypeId} {m k : Operand} {inf : TypeInfo} (z : Value) (ok : Bool) (ho : o.op = .lookup t m k ok) (ht : P.underlying t = some (.map kt e)) (hk : P.underlying kt = some (.int .i64)) (hi : P.info? e = some inf) (hz : inf.zero = some z) : OpOk P o (lkC z ok) := by
  refine ⟨fun q F I w ρ ha hc hr hs => ?_⟩
  obtain ⟨b, kv, key⟩ := q
  simp only [ho, Op.operands, lkC] at ha
  have ha2 : ρ m = .map (some b) ∧ ρ k = .int .i64 key := by simpa using ha
  obtain ⟨hm, hkk⟩ := ha2
  have hb : w.heap[b]? = some (mO kv) := hs.mapIn (j := 0) hr
  refine ⟨(), I, w, _, trivial, .inl ?_, rfl, Imm.le_refl I, hs, Env.refl w⟩
  simp [execOp, ho, hm, hkk, lk_run ht hk hi hz hb]
end
end Go.Proofs.Ytkmdgnbfojkcnaa
namespace Go.Proofs.Ytkmdgnbfojkcnaa
open Go Go.Shelf Go.Sort
def keyC (g : FuncId) (t : TypeId) : Con where
  X := Nat
  Y := Nat
  args x := [.map (some x)]
  pre _ := []
  cond _ := True
  rdc _ _ := True
  rel _ _ := True
  val _ y := .returned (.func (.func g) #[] #[.pointer (some ⟨y, 0, none⟩)])
  post x y := [.cells y [.map (some x)] t]
def keyOv (_x : Nat) (_F : Atom) : List (Nat × Nat × OH) := [(0, 0, .n 1000)]
noncomputable def keyB_H (x : Con.X (keyC 118 125)) (F : Atom) : Hints where
  op := hk ((keyOv x F) ++ [])
  inv := (fun _ _ _ => none) x F
  cut := (fun _ _ _ => none) x F
  ord := (fun _ => [])
open Go.Value (int slice string bool pointer agg tuple func) in
open Go.IntKind (i64) in
set_option maxRecDepth 100000 in
theorem keyB_vc (x : Nat) (F : Atom) (hc : Con.cond (keyC 118 125) x) (hr : Con.rdc (keyC 118 125) x F) :
  ∀ (b : Nat), Done (keyC (118 : FuncId) (125 : TypeId)) x F (Ending.returned (func (Fn.func 118) { toList := [] } { toList := [pointer (some ⟨b, 0, none⟩)] })) [(0, F), (1000, Atom.cells b [Value.map (some x)] 125)] := by
  exact fun b => ⟨b, trivial, rfl, Ent.pick [1000, 0] rfl rfl⟩
set_option maxRecDepth 100000 in
theorem keyB_ok : FnOk Try.prog 94 (keyC 118 125) :=
  fnOk (N := 4) (by kernel_rfl) Try.func94 rfl (by kernel_rfl) (fun _ => Nat.le_of_ble_eq_true rfl) keyB_H [] fun x F hc hr => Eq.mpr (by kernel_rfl) (keyB_vc x F hc hr)
noncomputable def keyI_H (x : Con.X (keyC 117 124)) (F : Atom) : Hints where
  op := hk ((keyOv x F) ++ [])
  inv := (fun _ _ _ => none) x F
  cut := (fun _ _ _ => none) x F
  ord := (fun _ => [])
open Go.Value (int slice string bool pointer agg tuple func) in
open Go.IntKind (i64) in
set_option maxRecDepth 100000 in
theorem keyI_vc (x : Nat) (F : Atom) (hc : Con.cond (keyC 117 124) x) (hr : Con.rdc (keyC 117 124) x F) :
  ∀ (b : Nat), Done (keyC (117 : FuncId) (124 : TypeId)) x F (Ending.returned (func (Fn.func 117) { toList := [] } { toList := [pointer (some ⟨b, 0, none⟩)] })) [(0, F), (1000, Atom.cells b [Value.map (some x)] 124)] := by
  exact fun b => ⟨b, trivial, rfl, Ent.pick [1000, 0] rfl rfl⟩
set_option maxRecDepth 100000 in
theorem keyI_ok : FnOk Try.prog 93 (keyC 117 124) :=
  fnOk (N := 4) (by kernel_rfl) Try.func93 rfl (by kernel_rfl) (fun _ => Nat.le_of_ble_eq_true rfl) keyI_H [] fun x F hc hr => Eq.mpr (by kernel_rfl) (keyI_vc x F hc hr)
def keysOf {α : Type} (kv : List (Int × α)) : List Int := kv.map (·.1)
def sortI (l : List Int) : List Int := l.mergeSort leI
structure SoX where
  bx : Nat
  b : Nat
  kv : List (Int × Value)
def soC (g : FuncId) : Con where
  X := SoX
  Y := Row
  args x := [.func (.func g) #[] #[.pointer (some ⟨x.bx, 0, none⟩)]]
  pre _ := []
  cond x := (keysOf x.kv).Nodup ∧ (∀ p ∈ x.kv, (Lit.int .i64 p.1).wf = true) ∧ x.kv.length * 8 ≤ 140737488351232
  rdc x F := Look F ⟨x.bx, 0, none⟩ (.map (some x.b)) ∧ MapIn F x.b x.kv
  rel x y := IsRow 3 1 (ints (sortI (keysOf x.kv))) y
  val _ y := .returned (.slice y.a y.n y.cap)
  post _ y := [y.A]
  rmono _ _ _ h hk := ⟨hk.1.sub h, hk.2.sub h⟩
abbrev anyR : Value → Option (DataW Unit × List MemPlace) := fun _ => some (.lit (.bool true), [])
theorem mEl_keys : ∀ (kv : List (Int × Value)) (n : Nat), (mEl n kv).map (·.key) = (keysOf kv).map (Value.int .i64)
  | [], _ => rfl
  | (k, v) :: r, n => by
    rw [mEl, List.map_cons, mEl_keys r (n + 1)]
    rfl
theorem mEl_born : ∀ (kv : List (Int × Value)) (n : Nat), (mEl n kv).map (·.born) = (List.range kv.length).map (n + ·)
  | [], _ => rfl
  | (k, v) :: r, n => by
    rw [mEl, List.map_cons, mEl_born r (n + 1), List.length_cons, List.range_succ_eq_map, List.map_cons, List.map_map]
    congr 1
    refine List.map_congr_left fun a _ => ?_
    show n + 1 + a = n + (a + 1)
    omega
theorem mEl_mem {kv : List (Int × Value)} {n : Nat} {x : MapEntry} (h : x ∈ mEl n kv) : ∃ p ∈ kv, x.key = .int .i64 p.1 ∧ x.val = p.2 ∧ x.born < n + kv.length := by
  obtain ⟨j, hj⟩ := List.getElem?_of_mem h
  rw [mEl_get] at hj
  cases hp : kv[j]? with
  | none => rw [hp] at hj; simp at hj
  | some p =>
    rw [hp] at hj
    simp at hj
    have := (List.getElem?_eq_some_iff.1 hp).1
    exact ⟨p, List.mem_of_getElem? hp, by rw [← hj], by rw [← hj], by rw [← hj]; dsimp only; omega⟩
theorem owns_of {w : World} {b : Nat} {kv : List (Int × Value)} (hb : w.heap[b]? = some (mO kv)) (hn : (keysOf kv).Nodup) (hw : ∀ p ∈ kv, (Lit.int .i64 p.1).wf = true) (hl : kv.length * 8 ≤ 140737488351232) :
    ∃ D0 : DataW Unit, w.ownsMap Try.prog 3 anyR b kv.length D0 ∧ (intKeys D0).Perm (keysOf kv) ∧ Maps.size D0 = kv.length := by
  have hk : Try.prog.underlying 3 = some (.int .i64) := Try.underlying3
  have hrd : ∀ x ∈ mEl 0 kv, ∃ p ∈ kv, WideElems.rd Try.prog 3 anyR x = some (.int .i64 p.1, .lit (.bool true)) ∧ x.key = .int .i64 p.1 := by
    intro x hx
    obtain ⟨p, hp, h1, h2, h3⟩ := mEl_mem hx
    refine ⟨p, hp, ?_, h1⟩
    obtain ⟨xk, xv, xb⟩ := x
    dsimp only at h1
    subst h1
    exact WideElems.rd_mk (R := anyR) (yv := (.lit (.bool true), [])) (Maps.keyOf_int_mk hk (hw p hp)) rfl
  have hrg : (mEl 0 kv).map (WideElems.rg Try.prog 3 anyR) = (keysOf kv).map fun k => (Lit.int .i64 k, (.lit (.bool true) : DataW Unit)) := by
    have e1 : (mEl 0 kv).map (WideElems.rg Try.prog 3 anyR) = ((mEl 0 kv).map (·.key)).map fun v => (match v with | .int q k => (Lit.int q k, (.lit (.bool true) : DataW Unit)) | _ => (.bool false, .nil)) := by
      rw [List.map_map]
      refine List.map_congr_left fun x hx => ?_
      obtain ⟨p, _, h1, h2⟩ := hrd x hx
      rw [WideElems.rg_of h1]
      simp [h2]
    rw [e1, mEl_keys, List.map_map]
    rfl
  have hsz : (mEl 0 kv).length = kv.length := mEl_length kv 0
  refine ⟨_, ⟨⟨mEl 0 kv⟩, kv.length, hb, ⟨?_, ⟨?_, ?_, ?_⟩, ?_⟩, by show (mEl 0 kv).length ≤ _; omega, rfl⟩, ?_, ?_⟩
  · show (mEl 0 kv).length ≤ _
    rw [hsz]
    unfold maxLen
    omega
  · intro x hx
    obtain ⟨p, _, _, _, h⟩ := mEl_mem hx
    omega
  · show ((mEl 0 kv).map (·.born)).Nodup
    rw [mEl_born]
    refine List.Pairwise.map _ (fun a b h => ?_) List.nodup_range
    show ¬ 0 + a = 0 + b
    omega
  · show ((mEl 0 kv).map (·.key)).Nodup
    rw [mEl_keys]
    refine List.Pairwise.map _ (fun a b h => ?_) hn
    intro e
    exact h (by simpa using e)
  · intro x hx
    obtain ⟨p, _, h1, _⟩ := hrd x hx
    exact ⟨_, h1⟩
  · have hp := WideShapes.sorted_perm (H := Unit) ((mEl 0 kv).map (WideElems.rg Try.prog 3 anyR))
    have h2 := hp.map fun p : Lit × DataW Unit => Go.intOf p.1
    refine List.Perm.trans (show (intKeys _).Perm _ from h2) ?_
    rw [hrg, List.map_map]
    have e : (keysOf kv).map ((fun p : Lit × DataW Unit => Go.intOf p.1) ∘ fun k => (Lit.int .i64 k, (.lit (.bool true) : DataW Unit))) = keysOf kv := List.map_id _
    rw [e]
  · have hp := WideShapes.sorted_perm (H := Unit) ((mEl 0 kv).map (WideElems.rg Try.prog 3 anyR))
    show ((((mEl 0 kv).map (WideElems.rg Try.prog 3 anyR)).foldr DataW.insert []).length) = kv.length
    rw [hp.length_eq, List.length_map, hsz]
theorem sat_ownRow {I : Imm} {F : Atom} {w w' : World} {v : Value} {ss : List Int} (hs : Sat I (ofL [F]) w) (hb : Go.RowKit.Below w.heap.size w w') (hrow : w'.ownsRow w.heap.size 3 1 v ss.length (ints ss)) :
    ∃ y : Row, IsRow 3 1 (ints ss) y ∧ v = .slice y.a y.n y.cap ∧ Sat I (ofL [y.A, F]) w' := by
  obtain ⟨⟨f, h1, h2, h3⟩, hi⟩ := hs
  have hlt : ∀ b o, I b = some o → b < w.heap.size := fun b o h => by
    have := hi b o h
    have : w.heap[b]? = some o := this
    exact (Array.getElem?_eq_some_iff.1 this).1
  have hi' : Cons I (hp w') := fun b o h => by
    show w'.heap[b]? = some o
    rw [hb.block b (hlt b o h)]
    exact hi b o h
  have hF : F.holds I (hp w') (f 0) := Atom.local (fun b hb' => (hb.block b (h3 0 b hb').2).symm) (h1 0)
  obtain ⟨hlen, (⟨rfl, hz⟩ | ⟨g, cap, cur, rfl, hg, hgb, r1, r2, r3, r4⟩)⟩ := hrow
  · have : ss = [] := List.eq_nil_of_length_eq_zero hz
    subst this
    refine ⟨nilRow, .nil rfl, rfl, ⟨⟨fun j => if j = 1 then f 0 else fun _ => False, fun j => ?_, fun i j b ha hb' => ?_, fun j b ha => ?_⟩, hi'⟩⟩
    · match j with
      | 0 => trivial
      | 1 => exact hF
      | j + 2 => trivial
    · by_cases e1 : i = 1
      · by_cases e2 : j = 1
        · omega
        · simp [e2] at hb'
      · simp [e1] at ha
    · by_cases e1 : j = 1
      · simp only [e1, if_true] at ha
        exact ⟨(h3 0 b ha).1, Nat.lt_of_lt_of_le (h3 0 b ha).2 hb.size⟩
      · simp [e1] at ha
  · have hcur : cur = ⟨ints ss ++ cur.toList.drop ss.length⟩ := by
      apply Array.ext'
      rw [← r4, Nat.mul_one, List.take_append_drop]
    have hcl : cur.toList.length = cap := by rw [Array.length_toList, r3, Nat.mul_one]
    have hsl : (ints ss).length = ss.length := by unfold ints; simp
    have hgs : g < w'.heap.size := (Array.getElem?_eq_some_iff.1 hgb).1
    refine ⟨⟨some ⟨g, 0, none⟩, ss.length, cap, .cells g (ints ss ++ cur.toList.drop ss.length) 3⟩, .blk g ss.length cap _ (by rw [hsl]; omega) ?_ r1, rfl, ⟨⟨fun j => if j = 0 then fun b => b = g else if j = 1 then f 0 else fun _ => False, fun j => ?_, fun i j b ha hb' => ?_, fun j b ha => ?_⟩, hi'⟩⟩
    · rw [List.length_append, hsl, List.length_drop, hcl]; omega
    · match j with
      | 0 => exact ⟨rfl, by show w'.heap[g]? = _; rw [hgb, ← hcur]⟩
      | 1 => exact hF
      | j + 2 => trivial
    · by_cases e1 : i = 0
      · by_cases e2 : j = 0
        · omega
        · by_cases e3 : j = 1
          · simp [e1] at ha
            simp [e3] at hb'
            have := (h3 0 b hb').2
            omega
          · simp [e2, e3] at hb'
      · by_cases e4 : i = 1
        · by_cases e2 : j = 0
          · simp [e4] at ha
            simp [e2] at hb'
            have := (h3 0 b ha).2
            omega
          · by_cases e3 : j = 1
            · omega
            · simp [e2, e3] at hb'
        · simp [e1, e4] at ha
    · by_cases e1 : j = 0
      · simp [e1] at ha
        subst ha
        refine ⟨?_, hgs⟩
        cases hI : I b with
        | none => rfl
        | some o => have := hlt b o hI; omega
      · by_cases e3 : j = 1
        · simp [e3] at ha
          exact ⟨(h3 0 b ha).1, Nat.lt_of_lt_of_le (h3 0 b ha).2 hb.size⟩
        · simp [e1, e3] at ha
theorem sorts_in (m : Nat) : AnyZI.SortsIn Try.prog sortedL_ren Fence.wide m :=
  ⟨fun blk off cap ss W hH hblk hsz => callsIn_wide.2 (AnyM.slices_Sort_int sortL blk off cap ss W hH hblk hsz),
   fun p cap W => callsIn_wide.2 (AnyM.slices_Sort_int_none sortL p cap W)⟩
theorem soB_ok : FnOk Try.prog 92 (soC 118) := by
  refine ⟨fun x F I w hc hr hs => ?_⟩
  obtain ⟨bx, b, kv⟩ := x
  obtain ⟨hnd, hwf, hl⟩ := hc
  obtain ⟨hr1, hr2⟩ := hr
  dsimp only at hnd hwf hl hr1 hr2
  have hcell : w.cell? ⟨bx, 0, none⟩ = some (.map (some b)) := hs.look (j := 0) hr1
  have hblk : w.heap[b]? = some (mO kv) := hs.mapIn (j := 0) hr2
  have hbx : bx < w.heap.size := by
    unfold World.cell? at hcell
    cases e : w.heap[bx]? with
    | none => dsimp only at hcell; rw [e] at hcell; simp at hcell
    | some o => exact (Array.getElem?_eq_some_iff.1 e).1
  obtain ⟨D0, hown, hperm, hsz⟩ := owns_of hblk hnd hwf hl
  have hmax : Maps.size D0 ≤ maxLen := by rw [hsz]; unfold maxLen; omega
  have hbytes : Maps.size D0 * 8 ≤ 140737488355328 := by rw [hsz]; omega
  have hseq : SeqGives Fence.wide 2 Try.prog 118 #[.pointer (some ⟨bx, 0, none⟩)] encZ (fun ss => ss.Perm (intKeys D0)) (Maps.size D0) w :=
    AnyZI.keys_gives (ρ := keysB_ren) { keysB with } Fence.wide _ trivial rfl (by omega) bx b kv.length D0 w hbx hcell hown
  have cS := AnyZI.sorted_in sortedL Fence.wide 5 trivial trivial trivial trivial rfl (by omega) (sorts_in _) (enters_of Try.func116 (by kernel_rfl) rfl) 118 #[.pointer (some ⟨bx, 0, none⟩)] trivial (enters_of Try.func118 (by kernel_rfl) rfl) _ _ hmax hbytes w hseq
  change CallsIn _ _ Try.prog 92 _ _ _ at cS
  refine (callsIn_wide.1 cS).mono ?_
  rintro e w' ⟨v, ss, rfl, hS, hrow, -, hbel⟩
  have hms : ss.mergeSort (fun x y => decide (x ≤ y)) = sortI (keysOf kv) := mergeSort_of_perm_i (hS.trans hperm)
  rw [hms] at hrow
  have hlen : ss.length = (sortI (keysOf kv)).length := by rw [← hms]; exact (List.mergeSort_perm _ _).length_eq.symm
  rw [hlen] at hrow
  obtain ⟨y, h1, h2, h3⟩ := sat_ownRow hs hbel hrow
  exact ⟨y, I, h1, by rw [h2]; rfl, Imm.le_refl I, h3, hbel.os, hbel.output⟩
theorem soI_ok : FnOk Try.prog 92 (soC 117) := by
  refine ⟨fun x F I w hc hr hs => ?_⟩
  obtain ⟨bx, b, kv⟩ := x
  obtain ⟨hnd, hwf, hl⟩ := hc
  obtain ⟨hr1, hr2⟩ := hr
  dsimp only at hnd hwf hl hr1 hr2
  have hcell : w.cell? ⟨bx, 0, none⟩ = some (.map (some b)) := hs.look (j := 0) hr1
  have hblk : w.heap[b]? = some (mO kv) := hs.mapIn (j := 0) hr2
  have hbx : bx < w.heap.size := by
    unfold World.cell? at hcell
    cases e : w.heap[bx]? with
    | none => dsimp only at hcell; rw [e] at hcell; simp at hcell
    | some o => exact (Array.getElem?_eq_some_iff.1 e).1
  obtain ⟨D0, hown, hperm, hsz⟩ := owns_of hblk hnd hwf hl
  have hmax : Maps.size D0 ≤ maxLen := by rw [hsz]; unfold maxLen; omega
  have hbytes : Maps.size D0 * 8 ≤ 140737488355328 := by rw [hsz]; omega
  have hseq : SeqGives Fence.wide 2 Try.prog 117 #[.pointer (some ⟨bx, 0, none⟩)] encZ (fun ss => ss.Perm (intKeys D0)) (Maps.size D0) w :=
    AnyZI.keys_gives (ρ := keysI_ren) { keysI with } Fence.wide _ trivial rfl (by omega) bx b kv.length D0 w hbx hcell hown
  have cS := AnyZI.sorted_in sortedL Fence.wide 5 trivial trivial trivial trivial rfl (by omega) (sorts_in _) (enters_of Try.func116 (by kernel_rfl) rfl) 117 #[.pointer (some ⟨bx, 0, none⟩)] trivial (enters_of Try.func117 (by kernel_rfl) rfl) _ _ hmax hbytes w hseq
  change CallsIn _ _ Try.prog 92 _ _ _ at cS
  refine (callsIn_wide.1 cS).mono ?_
  rintro e w' ⟨v, ss, rfl, hS, hrow, -, hbel⟩
  have hms : ss.mergeSort (fun x y => decide (x ≤ y)) = sortI (keysOf kv) := mergeSort_of_perm_i (hS.trans hperm)
  rw [hms] at hrow
  have hlen : ss.length = (sortI (keysOf kv)).length := by rw [← hms]; exact (List.mergeSort_perm _ _).length_eq.symm
  rw [hlen] at hrow
  obtain ⟨y, h1, h2, h3⟩ := sat_ownRow hs hbel hrow
  exact ⟨y, I, h1, by rw [h2]; rfl, Imm.le_refl I, h3, hbel.os, hbel.output⟩
end Go.Proofs.Ytkmdgnbfojkcnaa
