/- A part of the proof that pennantlaw23.BasicBack answers true at every input. -/
import Derived.Test.YtjdabjmjldiodaaGreatDoorPBae
set_option linter.all false
namespace Go.Proofs.YtjdabjmjldiodaaGreatDoor
set_option maxRecDepth 100000
open Go.Value (int slice string bool pointer agg tuple func float iface nilIface)
open Go.IntKind (i64 u8 u64 i32 u32 u16 i8 i16)
open Go.FloatKind (f64)
open Go.Ending (returned panicked)
section
open Go
theorem ba_eq (a b : ByteArray) : (a == b) = true ↔ a = b := by
  constructor
  · intro h
    have h : (a.data == b.data) = true := h
    exact ByteArray.ext (by simpa using h)
  · rintro rfl
    show (a.data == a.data) = true
    simp
theorem bEq_eq (a b : ByteArray) : bEq a b = true ↔ a = b := by
  unfold bEq
  rw [beq_iff_eq, ByteArray.toList_eq, ByteArray.toList_eq]
  constructor
  · intro h
    exact ByteArray.ext (Array.toList_inj.1 h)
  · rintro rfl; rfl
def mElS : Nat → List (ByteArray × Value) → List MapEntry
  | _, [] => []
  | n, (k, v) :: r => ⟨.string k, v, n⟩ :: mElS (n + 1) r
def mOS (kv : List (ByteArray × Value)) : Obj := .map ⟨mElS 0 kv⟩ kv.length
def mpAS (b : Nat) (kv : List (ByteArray × Value)) : Atom := .obj b (mOS kv)
def fkS {α : Type} (k : ByteArray) : List (ByteArray × α) → Nat → Option (Nat × α)
  | [], _ => none
  | (j, v) :: r, i => bif k == j then some (i, v) else fkS k r (i + 1)
def getKS {α : Type} (kv : List (ByteArray × α)) (k : ByteArray) : Option α := (fkS k kv 0).map (·.2)
def putKS {α : Type} (kv : List (ByteArray × α)) (k : ByteArray) (v : α) : List (ByteArray × α) := match fkS k kv 0 with | some (i, _) => kv.set i (k, v) | none => kv ++ [(k, v)]
theorem find_nowS (k : ByteArray) : ∀ (kv : List (ByteArray × Value)) (n i : Nat), Instr.findNow .string (.string k) (mElS n kv) i = some (fkS k kv i)
  | [], _, _ => rfl
  | (j, v) :: r, n, i => by
    have ih := find_nowS k r (n + 1) (i + 1)
    rw [mElS, Instr.findNow, fkS]
    simp only [Instr.sameNow, if_true]
    cases hk : (k == j) with
    | true => rfl
    | false => exact ih
theorem fk_specS {α : Type} (k : ByteArray) : ∀ (kv : List (ByteArray × α)) (i : Nat), (fkS k kv i = none ∧ ∀ p ∈ kv, p.1 ≠ k) ∨ ∃ j v, fkS k kv i = some (i + j, v) ∧ kv[j]? = some (k, v) ∧ ∀ p ∈ kv.take j, p.1 ≠ k
  | [], _ => .inl ⟨rfl, λp hp => by simp at hp⟩
  | (q, v) :: r, i => by
    rw [fkS]
    cases hk : (k == q) with
    | true =>
      have : k = q := (ba_eq _ _).1 hk
      subst this
      exact .inr ⟨0, v, rfl, rfl, λp hp => by simp at hp⟩
    | false =>
      have hne : k ≠ q := λe => by rw [(ba_eq _ _).2 e] at hk; cases hk
      rcases fk_specS k r (i + 1) with ⟨h1, h2⟩ | ⟨j, u, h1, h2, h3⟩
      · exact .inl ⟨h1, λp hp => by
          rcases List.mem_cons.1 hp with rfl | hp
          · exact λe => hne e.symm
          · exact h2 p hp⟩
      · exact .inr ⟨j + 1, u, by rw [fo_cf, h1]; congr 2; omega, by simpa using h2, λp hp => by
          rw [List.take_succ_cons] at hp
          rcases List.mem_cons.1 hp with rfl | hp
          · exact λe => hne e.symm
          · exact h3 p hp⟩
theorem mEl_getS : ∀ (kv : List (ByteArray × Value)) (n j : Nat), (mElS n kv)[j]? = (kv[j]?).map λp => ⟨.string p.1, p.2, n + j⟩
  | [], _, j => by simp [mElS]
  | (k, v) :: r, n, 0 => rfl
  | (k, v) :: r, n, j + 1 => by
    rw [mElS, List.getElem?_cons_succ, List.getElem?_cons_succ, mEl_getS r (n + 1) j]
    congr 1
    funext p
    congr 1
    omega
theorem mEl_lengthS : ∀ (kv : List (ByteArray × Value)) (n : Nat), (mElS n kv).length = kv.length
  | [], _ => rfl
  | (k, v) :: r, n => by rw [mElS, fo_lc, fo_lc, mEl_lengthS r (n + 1)]
theorem mEl_snocS (k : ByteArray) (v : Value) : ∀ (kv : List (ByteArray × Value)) (n : Nat), mElS n (kv ++ [(k, v)]) = mElS n kv ++ [⟨.string k, v, n + kv.length⟩]
  | [], _ => rfl
  | (j, u) :: r, n => by
    rw [List.cons_append, mElS, mElS, mEl_snocS k v r (n + 1), fo_lc, List.cons_append]
    congr 4
    omega
theorem mEl_setS (k : ByteArray) (v : Value) (kv : List (ByteArray × Value)) (n j : Nat) (e : MapEntry) (h : (mElS n kv)[j]? = some e) : mElS n (kv.set j (k, v)) = (mElS n kv).set j { e with key := .string k, val := v } := by
  refine List.ext_getElem? λi => ?_
  rw [mEl_getS, List.getElem?_set, List.getElem?_set, mEl_getS]
  rw [mEl_getS] at h
  have hj : j < kv.length := by
    cases hk : kv[j]? with
    | none => rw [hk] at h; simp at h
    | some p => exact (fo_gs.1 hk).1
  by_cases e1 : j = i
  · subst e1
    rw [fo_ge hj] at h
    simp only [Option.map_some, Option.some.injEq] at h
    subst h
    simp [hj, mEl_lengthS]
  · simp [e1]
structure MapInS (F : Atom) (b : Nat) (kv : List (ByteArray × Value)) : Prop where
  h : ∀ I h o, Cons I h → F.holds I h o → h b = some (mOS kv)
theorem MapInS.sub {A B : Atom} {b : Nat} {kv : List (ByteArray × Value)} (hs : Sub A B) (h : MapInS A b kv) : MapInS B b kv := ⟨λI h' o hc hB => by
  obtain ⟨o', hA⟩ := hs I h' o hB
  exact h.h I h' o' hc hA⟩
theorem MapInS.own {b : Nat} {kv : List (ByteArray × Value)} : MapInS (mpAS b kv) b kv := ⟨λ_ _ _ _ h => h.2⟩
theorem Sat.mapInS {I : Imm} {S : St} {w : World} (h : Sat I S w) {j b : Nat} {kv : List (ByteArray × Value)} (hm : MapInS (gt S j) b kv) : w.heap[b]? = some (mOS kv) := by
  obtain ⟨f, h1, _, _⟩ := h.own
  exact hm.h I (hp w) (f j) h.imm (h1 j)
section
variable {P : Program}
structure MuXS where
  b : Nat
  kv : List (ByteArray × Value)
  k : ByteArray
  v : Value
abbrev muCS : Con where
  X := MuXS
  Y := Unit
  args x := [.map (some x.b), .string x.k, x.v]
  pre x := [mpAS x.b x.kv]
  cond _ := True
  rdc _ _ := True
  rel _ _ := True
  val _ _ := .returned undef
  post x _ := [mpAS x.b (putKS x.kv x.k x.v)]
theorem same_bitsS (k : ByteArray) : Instr.sameBits 10000 (.string k) (.string k) = true := by
  unfold Instr.sameBits
  exact (ba_eq k k).2 rfl
theorem mu_runS {t kt e : TypeId} (ht : P.underlying t = some (.map kt e)) (hk : P.underlying kt = some .string) {w : World} {b : Nat} {kv : List (ByteArray × Value)} (hb : w.heap[b]? = some (mOS kv)) (key : ByteArray) (v : Value) :
    (Instr.mapUpdate t (.map (some b)) (.string key) v).run P w = .ok () { w with heap := w.heap.setIfInBounds b (mOS (putKS kv key v)) } := by
  replace hb : w.heap[b]? = some (.map ⟨mElS 0 kv⟩ kv.length) := hb
  have hks : MapKept.IsKey .string (.string key) := fo_tv
  have hck := MapKept.run_checkKey (P := P) (w := w) hk hks false 9999
  have hfn := find_nowS key kv 0 0
  have hrf := MapKept.run_findKey (P := P) (w := w) (l := mElS 0 kv) hk hfn
  rcases fk_specS key kv 0 with ⟨h1, h2⟩ | ⟨j, u, h1, h2, h3⟩
  · rw [h1] at hrf
    simp [Instr.mapUpdate, run_underlying ht, MapKept.run_getObj_map hb, hck, hrf, MapKept.run_setObj_map _ hb, Result.andThen, putKS, h1, mOS, mEl_snocS]
  · rw [h1, fo_za] at hrf
    rw [fo_za] at h1
    have hj : (mElS 0 kv)[j]? = some ⟨.string key, u, j⟩ := by rw [mEl_getS, h2]; simp
    have hset : (mElS 0 kv).modify j (λe => { e with key := .string key, val := v }) = mElS 0 (kv.set j (key, v)) := by
      rw [ChangeMaps.modify_eq_set _ _ _ _ hj, mEl_setS key v kv 0 j _ hj]
    simp [Instr.mapUpdate, run_underlying ht, MapKept.run_getObj_map hb, hck, hrf, hj, Instr.keyThatStays, same_bitsS, MapKept.run_setObj_map _ hb, Result.andThen, putKS, h1, mOS, hset]
theorem mu_okS {o : Oper} {t kt e : TypeId} {m k x : Operand} (ho : o.op = .mapUpdate t m k x) (ht : P.underlying t = some (.map kt e)) (hk : P.underlying kt = some .string) : OpOk P o muCS := by
  refine ⟨λq F I w ρ ha hc hr hs => ?_⟩
  obtain ⟨b, kv, key, v⟩ := q
  simp only [ho, Op.operands, muCS] at ha
  have ha2 : ρ m = .map (some b) ∧ ρ k = .string key ∧ ρ x = v := by simpa using ha
  obtain ⟨hm, hkk, hx⟩ := ha2
  have hb : w.heap[b]? = some (mOS kv) := hs.mapInS (j := 0) MapInS.own
  refine ⟨(), I, { w with heap := w.heap.setIfInBounds b (mOS (putKS kv key v)) }, undef, fo_tv, .inr ⟨?_, rfl⟩, rfl, Imm.le_refl I, ?_, ⟨rfl, rfl⟩⟩
  · simp [execOp, ho, hm, hkk, hx, mu_runS ht hk hb]
  · exact Sat.setObj hs (j := 0) (b := b) (o := mOS kv) rfl (mOS (putKS kv key v))
structure LkXS where
  b : Nat
  kv : List (ByteArray × Value)
  k : ByteArray
abbrev lkCS (z : Value) (ok : Bool) : Con where
  X := LkXS
  Y := Unit
  args x := [.map (some x.b), .string x.k]
  pre _ := []
  cond _ := True
  rdc x F := MapInS F x.b x.kv
  rel _ _ := True
  val x _ := .returned (bif ok then .tuple #[(getKS x.kv x.k).getD z, .bool (getKS x.kv x.k).isSome] else (getKS x.kv x.k).getD z)
  post _ _ := []
  rmono _ _ _ h hk := hk.sub h
theorem lk_runS {t kt e : TypeId} {inf : TypeInfo} {z : Value} (ht : P.underlying t = some (.map kt e)) (hk : P.underlying kt = some .string) (hi : P.info? e = some inf) (hz : inf.zero = some z) {w : World} {b : Nat} {kv : List (ByteArray × Value)} (hb : w.heap[b]? = some (mOS kv)) (key : ByteArray) (ok : Bool) :
    (Instr.lookup t (.map (some b)) (.string key) ok).run P w = .ok (bif ok then .tuple #[(getKS kv key).getD z, .bool (getKS kv key).isSome] else (getKS kv key).getD z) w := by
  replace hb : w.heap[b]? = some (.map ⟨mElS 0 kv⟩ kv.length) := hb
  have hks : MapKept.IsKey .string (.string key) := fo_tv
  have hck := λem => MapKept.run_checkKey (P := P) (w := w) hk hks em 9999
  have hrf := MapKept.run_findKey (P := P) (w := w) (l := mElS 0 kv) hk (find_nowS key kv 0 0)
  cases hf : fkS key kv 0 with
  | none =>
    rw [hf] at hrf
    cases ok <;> simp [Instr.lookup, run_underlying ht, MapKept.run_getObj_map hb, hck, hrf, zeroValue, typeInfo, hi, hz, Result.andThen, getKS, hf]
  | some p =>
    rw [hf] at hrf
    obtain ⟨i, v⟩ := p
    cases ok <;> simp [Instr.lookup, run_underlying ht, MapKept.run_getObj_map hb, hck, hrf, Result.andThen, getKS, hf]
theorem lk_okS {o : Oper} {t kt e : TypeId} {m k : Operand} {inf : TypeInfo} (z : Value) (ok : Bool) (ho : o.op = .lookup t m k ok) (ht : P.underlying t = some (.map kt e)) (hk : P.underlying kt = some .string) (hi : P.info? e = some inf) (hz : inf.zero = some z) : OpOk P o (lkCS z ok) := by
  refine ⟨λq F I w ρ ha hc hr hs => ?_⟩
  obtain ⟨b, kv, key⟩ := q
  simp only [ho, Op.operands, lkCS] at ha
  have ha2 : ρ m = .map (some b) ∧ ρ k = .string key := by simpa using ha
  obtain ⟨hm, hkk⟩ := ha2
  have hb : w.heap[b]? = some (mOS kv) := hs.mapInS (j := 0) hr
  refine ⟨(), I, w, _, fo_tv, .inl ?_, rfl, Imm.le_refl I, hs, Env.refl w⟩
  simp [execOp, ho, hm, hkk, lk_runS ht hk hi hz hb]
end
end
section
open Go
set_option maxHeartbeats 1000000
def blkB (u : Int) : Bool := (decide (u ≥ 9) && decide (u ≤ 13)) || (u == 32 || (u == 160 || u == 65279))
structure IntX where
  u : Int
abbrev bkC : Con where
  X := IntX
  Y := Unit
  args x := [.int .i64 x.u]
  pre _ := []
  cond _ := True
  rdc _ _ := True
  rel _ _ := True
  val x _ := .returned (.bool (blkB x.u))
  post _ _ := []
abbrev q81 := fo_rt (fo_vb true)
def q199 (x : IntX) (F : Atom) := Br (x.u == 32) (Done bkC x F q81 [(0, F)]) (Br (x.u == 160) (Done bkC x F q81 [(0, F)]) (Done bkC x F (fo_rt (fo_vb (x.u == 65279))) [(0, F)]))
theorem bk_vc (x : IntX) (F : Atom) (hc : bkC.cond x) (hr : bkC.rdc x F) :
 fo_Bd (x.u ≥ 9) (fo_Bd (x.u ≤ 13) (Done bkC x F q81 [(0, F)]) (q199 x F)) (q199 x F) := by
  delta q81 q199 fo_vb fo_Bd fo_rt
  obtain ⟨u⟩ := x
  dsimp only
  have fin : ∀ b, blkB u = b → Done bkC ⟨u⟩ F (returned (bool b)) [(0, F)] := λb e =>
    ⟨(), fo_tv, by show returned _ = returned (.bool (blkB u)); rw [e], Ent.pick [0] rfl rfl⟩
  repeat (first
    | exact fin _ (by unfold blkB; simp only [*, fo_dt, fo_df, Bool.true_and, Bool.true_or, fo_fba, Bool.false_or, not_false_eq_true])
    | refine br_intro (λ_ => ?_) (λ_ => ?_))
theorem bk_ok : fo_k 264 bkC := fo 21 Tryz.func264 (λ_ _ => []) [] fo_i fo_i fo_o [] bk_vc
end
section
open Go
set_option maxHeartbeats 1000000
theorem or8 {a b : Nat} (ha : a < 256) (hb : b < 256) : i64.wrap (↑(BitVec.ofInt i64.bits (i64.wrap ((a : Int) * 2 ^ min (Int.toNat 8) i64.bits)) ||| BitVec.ofInt i64.bits (b : Int)).toNat : Int) = ((a * 256 + b : Nat) : Int) := by
  have e1 : ((a : Int) * 2 ^ min (Int.toNat 8) i64.bits) = ((a * 256 : Nat) : Int) := by
    show (a : Int) * 256 = _
    omega
  rw [e1, wrap_in (i := .i64) (n := ((a * 256 : Nat) : Int)) (by simp only [inR]; omega), BitVec.ofInt_natCast, BitVec.ofInt_natCast, BitVec.toNat_or, BitVec.toNat_ofNat, BitVec.toNat_ofNat]
  have e2 : i64.bits = 64 := rfl
  rw [e2, Nat.mod_eq_of_lt (by omega), Nat.mod_eq_of_lt (by omega)]
  have e3 : a * 256 ||| b = a * 256 + b := by
    have := Nat.shiftLeft_add_eq_or_of_lt (i := 8) (b := b) (by omega) a
    rw [Nat.shiftLeft_eq] at this
    exact this.symm
  rw [e3]
  exact wrap_in (by simp only [inR]; omega)
def unitN (s : ByteArray) (i : Nat) : Nat := bif decide (i < s.size / 2) then bt s (2 * i) * 256 + bt s (2 * i + 1) else 0
abbrev lenC : Con where
  X := StrX
  Y := Unit
  args x := [.string x.a]
  pre _ := []
  cond x := x.a.size ≤ 1099511627776
  rdc _ _ := True
  rel _ _ := True
  val x _ := .returned (.int .i64 (x.a.size / 2 : Nat))
  post _ _ := []
theorem len_vc (x : StrX) (F : Atom) (hc : lenC.cond x) (hr : lenC.rdc x F) :
 (2 : Int) ≠ (0 : Int) ∧ fo_rI ((x.a.size : Int).tdiv (2 : Int)) ∧ Done lenC x F (fo_rt (fo_vi ((x.a.size : Int).tdiv (2 : Int)))) [(0, F)] := by
  delta fo_rI fo_vi fo_rt
  have e : (x.a.size : Int).tdiv 2 = ((x.a.size / 2 : Nat) : Int) := by
    rw [Int.tdiv_eq_ediv_of_nonneg (by omega)]; omega
  have hc2 : (x.a.size / 2 : Nat) ≤ 9223372036854775807 := by
    have : x.a.size ≤ 1099511627776 := hc
    omega
  exact ⟨by decide, ⟨by omega, by omega⟩, (), fo_tv, by rw [e] <;> rfl, Ent.pick [0] rfl rfl⟩
theorem len_ok : fo_k 69 lenC := fo 6 Tryz.func69 (λ_ _ => []) [] fo_i fo_i fo_o [] len_vc
structure AtU where
  s : ByteArray
  i : Nat
abbrev atuC : Con where
  X := AtU
  Y := Unit
  args x := [.string x.s, .int .i64 x.i]
  pre _ := []
  cond x := x.s.size ≤ 1099511627776 ∧ x.i ≤ 1099511627776
  rdc _ _ := True
  rel _ _ := True
  val x _ := .returned (.tuple #[.int .i64 (unitN x.s x.i), .bool (decide (x.i < x.s.size / 2))])
  post _ _ := []
def T36 := fo_C1 69 lenC (λw0 => w0.a.size ≤ 1099511627776)
abbrev q340 := fo_rt (tuple ⟨[fo_vi 0, fo_vb false]⟩)
theorem atu_vc (x : AtU) (F : Atom) (hc : atuC.cond x) (hr : atuC.rdc x F) :
 T36 [fo_vs x.s] (λb a => fo_Bd ((x.i : Int) ≥ (↑(b.a.size / 2) : Int)) (Done atuC x F q340 [(0, F)]) (true = true ∧ fo_rI (2 * (x.i : Int)) ∧ ((0 : Int) ≤ 2 * (x.i : Int) ∧ 2 * (x.i : Int) < (x.s.size : Int)) ∧ fo_rI (byteAt x.s (2 * (x.i : Int))) ∧ fo_rI (2 * (x.i : Int)) ∧ fo_rI (2 * (x.i : Int) + 1) ∧ ((0 : Int) ≤ 2 * (x.i : Int) + 1 ∧ 2 * (x.i : Int) + 1 < (x.s.size : Int)) ∧ fo_rI (byteAt x.s (2 * (x.i : Int) + 1)) ∧ Done atuC x F (fo_rt (tuple ⟨[fo_vi (fo_wi (↑(fo_bi (fo_wi (byteAt x.s (2 * (x.i : Int)) * 2 ^ min (Int.toNat (8 : Int)) i64.bits)) ||| fo_bi (byteAt x.s (2 * (x.i : Int) + 1))).toNat : Int)), fo_vb true]⟩)) [(0, F)])) := by
  delta T36 q340 fo_rI fo_C1 fo_vi fo_vs fo_vb fo_bi fo_wi fo_Bd fo_rt
  obtain ⟨s, i⟩ := x
  obtain ⟨h1, h2⟩ := hc
  dsimp only at h1 h2 ⊢
  have fin : ∀ (u : Int) (b : Bool), u = (unitN s i : Int) → b = decide (i < s.size / 2) → Done atuC ⟨s, i⟩ F (returned (tuple #[int i64 u, bool b])) [(0, F)] := λu b e1 e2 =>
    ⟨(), fo_tv, by subst e1 e2; rfl, Ent.pick [0] rfl rfl⟩
  refine ⟨len_ok, rfl, ⟨s, s⟩, rfl, rfl, h1, fo_tv, λ_ _ => br_decide (λh => fin _ _ ?_ ?_) (λh => ?_)⟩
  · dsimp only at h
    unfold unitN
    rw [fo_df (show ¬ i < s.size / 2 by omega)] <;> rfl
  · dsimp only at h
    exact (fo_df (show ¬ i < s.size / 2 by omega)).symm
  · dsimp only at h
    have e0 : byteAt s (2 * (i : Int)) = (bt s (2 * i) : Int) := by rw [byteAt_bt, show (2 * (i : Int)).toNat = 2 * i by omega]
    have e1 : byteAt s (2 * (i : Int) + 1) = (bt s (2 * i + 1) : Int) := by rw [byteAt_bt, show (2 * (i : Int) + 1).toNat = 2 * i + 1 by omega]
    have b0 := bt_lt s (2 * i)
    have b1 := bt_lt s (2 * i + 1)
    rw [e0, e1]
    refine ⟨rfl, ⟨by omega, by omega⟩, ⟨by omega, by omega⟩, ⟨by omega, by omega⟩, ⟨by omega, by omega⟩, ⟨by omega, by omega⟩, ⟨by omega, by omega⟩, ⟨by omega, by omega⟩, fin _ _ ?_ ?_⟩
    · rw [or8 b0 b1]
      unfold unitN
      rw [fo_dt (show i < s.size / 2 by omega)] <;> rfl
    · exact (fo_dt (show i < s.size / 2 by omega)).symm
theorem atu_ok : fo_k 70 atuC := fo 27 Tryz.func70 (λ_ _ => [(1, 5, .c lenC [] [])]) [] fo_i fo_i fo_o [] atu_vc
end
section
open Go
set_option maxHeartbeats 1000000
structure P1X where
  b : Nat
  s : ByteArray
  i : Nat
abbrev p1C : Con where
  X := P1X
  Y := Unit
  args x := [.int .i64 x.i, .pointer (some ⟨x.b, 0, none⟩)]
  pre _ := []
  cond x := x.s.size ≤ 1099511627776 ∧ x.i ≤ 1099511627776
  rdc x F := Look F ⟨x.b, 0, none⟩ (.string x.s)
  rel _ _ := True
  val x _ := .returned (.int .i64 (unitN x.s x.i))
  post _ _ := []
  rmono _ _ _ hs h := h.sub hs
def T37 := fo_C1 70 atuC (λw0 => w0.s.size ≤ 1099511627776 ∧ w0.i ≤ 1099511627776)
abbrev q190 (b : AtU) := fo_vi (↑(unitN b.s b.i) : Int)
theorem p1_vc (x : P1X) (F : Atom) (hc : p1C.cond x) (hr : p1C.rdc x F) :
 T25 F ⟨x.b, 0, none⟩ (λc => T37 [fo_vs c, fo_vi ↑x.i] (λb a => Done p1C x F (fo_rt (q190 b)) [(0, F)])) := by
  delta T25 T37 q190 fo_C1 fo_vi fo_vs fo_rt
  exact ⟨x.s, hr, atu_ok, rfl, ⟨x.s, x.i⟩, rfl, rfl, hc, fo_tv, λ_ _ => ⟨(), fo_tv, rfl, Ent.pick [0] rfl rfl⟩⟩
theorem p1_ok : fo_k 263 p1C := fo 13 Tryz.func263 (λ_ _ => [(1, 0, .q [.ex 0 .str]), (1, 2, .c atuC [] [])]) [] fo_i fo_i fo_o [] p1_vc
def hnV (s : ByteArray) : Nat := s.size / 2
def upV (s : ByteArray) (e : Nat) : Nat → Nat → Nat
  | 0, i => i
  | f + 1, i => bif decide (i < e) && blkB (unitN s i) then upV s e f (i + 1) else i
def dnV (s : ByteArray) (b : Nat) : Nat → Nat → Nat
  | 0, e => e
  | f + 1, e => bif decide (b < e) && blkB (unitN s (e - 1)) then dnV s b f (e - 1) else e
def outV (s : ByteArray) (e : Nat) : Nat → Nat → List Nat → Option (List Nat)
  | 0, _, o => some o
  | f + 1, i, o => bif decide (i < e) then (bif decide (unitN s i > 127) then none else outV s e f (i + 1) (o ++ [unitN s i])) else some o
def begV (s : ByteArray) : Nat := upV s (hnV s) (hnV s + 1) 0
def endV (s : ByteArray) : Nat := dnV s (begV s) (hnV s + 1) (hnV s)
def plainV (s : ByteArray) : Option (List Nat) := outV s (endV s) (endV s + 1) (begV s) []
theorem unitN_lt (s : ByteArray) (i : Nat) : unitN s i < 65536 := by
  unfold unitN
  have b0 := bt_lt s (2 * i)
  have b1 := bt_lt s (2 * i + 1)
  cases decide (i < s.size / 2) with
  | true => show bt s (2 * i) * 256 + bt s (2 * i + 1) < _; omega
  | false => exact (by decide : 0 < 65536)
abbrev plnC : Con where
  X := WdX
  Y := Unit
  args x := [.string x.s]
  pre _ := []
  cond x := x.s.size ≤ 8388608
  rdc _ _ := True
  rel _ _ := True
  val x _ := .returned (.tuple #[.string (btL ((plainV x.s).getD [])), .bool (plainV x.s).isSome])
  post _ _ := []
structure PlS where
  b : Nat
  i : Nat
  e : Nat
  f : Nat
  o : List Nat
  r : Row
def plnInv (x : WdX) (F : Atom) : Nat → Option Inv := fun
  | 0 => some { X := PlS, P := λd => d.i ≤ hnV x.s ∧ hnV x.s < d.i + d.f ∧ begV x.s = upV x.s (hnV x.s) d.f d.i, mu := λd => hnV x.s - d.i, lv := λd => [(4, .int .i64 d.i), (5, .int .i64 (hnV x.s : Nat)), (6, .func (.func 263) #[] #[.pointer (some ⟨d.b, 0, none⟩)])], st := λd => [F, .cells d.b [.string x.s] 9] }
  | 2 => some { X := PlS, P := λd => d.i = begV x.s ∧ d.i ≤ d.e ∧ d.e ≤ hnV x.s ∧ d.e < d.f ∧ endV x.s = dnV x.s d.i d.f d.e, mu := λd => d.e, lv := λd => [(4, .int .i64 d.i), (5, .int .i64 d.e), (6, .func (.func 263) #[] #[.pointer (some ⟨d.b, 0, none⟩)])], st := λd => [F, .cells d.b [.string x.s] 9] }
  | 4 => some { X := PlS, P := λd => d.e = endV x.s ∧ d.i ≤ d.e ∧ d.e ≤ hnV x.s ∧ d.e < d.i + d.f ∧ IsRow 5 1 (u8s d.o) d.r ∧ d.r.n ≤ d.i ∧ plainV x.s = outV x.s d.e d.f d.i d.o, mu := λd => d.e - d.i, lv := λd => [(4, .int .i64 d.i), (5, .int .i64 d.e), (6, .func (.func 263) #[] #[.pointer (some ⟨d.b, 0, none⟩)]), (7, .slice d.r.a d.r.n d.r.cap)], st := λd => [F, .cells d.b [.string x.s] 9, d.r.A] }
  | _ => none
def plnCut (x : WdX) (F : Atom) : Nat → Option Inv := fun
  | 5 => some { X := PlS, P := λd => d.i = begV x.s ∧ d.i ≤ hnV x.s, mu := λ_ => 0, lv := λd => [(4, .int .i64 d.i), (5, .int .i64 (hnV x.s : Nat)), (6, .func (.func 263) #[] #[.pointer (some ⟨d.b, 0, none⟩)])], st := λd => [F, .cells d.b [.string x.s] 9] }
  | 7 => some { X := PlS, P := λd => d.i = begV x.s ∧ d.e = endV x.s ∧ d.i ≤ d.e ∧ d.e ≤ hnV x.s, mu := λ_ => 0, lv := λd => [(4, .int .i64 d.i), (5, .int .i64 d.e), (6, .func (.func 263) #[] #[.pointer (some ⟨d.b, 0, none⟩)])], st := λd => [F, .cells d.b [.string x.s] 9] }
  | _ => none
def q213 (a : PlS) (x : WdX) := a.i ≤ hnV x.s ∧ hnV x.s < a.i + a.f ∧ begV x.s = upV x.s (hnV x.s) a.f a.i
abbrev q64 (z : PlS) : List Value := [fo_vp (some ⟨z.b, 0, none⟩)]
abbrev q66 (e1 : Atom) (z : PlS) (e0 : WdX) := [(0, e1), (1, fo_cl z.b [fo_vs e0.s] 9)]
def T38 := fo_C2 263 p1C (λw0 => w0.s.size ≤ 1099511627776 ∧ w0.i ≤ 1099511627776) (λw0 w1 => Look w1 ⟨w0.b, 0, none⟩ (fo_vs w0.s))
abbrev q268 (g : PlS) : List Value := [fo_vi ↑g.i, fo_vp (some ⟨g.b, 0, none⟩)]
def T39 := fo_C0 264 bkC
def T40 (e0 : WdX) (e1 : Atom) (v0 v1 : Value) (ss : St) := ∃ (z : PlS), (z.i = begV e0.s ∧ z.i ≤ hnV e0.s) ∧ (v0 = fo_vi ↑z.i ∧ fo_vi (↑(hnV e0.s) : Int) = fo_vi (↑(hnV e0.s) : Int) ∧ v1 = func (Fn.func 263) ⟨[]⟩ ⟨q64 z⟩ ∧ True) ∧ Ent ss (q66 e1 z e0)
abbrev q212 (g : PlS) := func (Fn.func 263) ⟨[]⟩ ⟨q64 g⟩
def q183 (a : PlS) (x : WdX) := a.i = begV x.s ∧ a.i ≤ a.e ∧ a.e ≤ hnV x.s ∧ a.e < a.f ∧ endV x.s = dnV x.s a.i a.f a.e
def T41 (e0 : WdX) (e1 : Atom) (v0 v1 v2 : Value) (ss : St) := ∃ (z : PlS), (z.i = begV e0.s ∧ z.e = endV e0.s ∧ z.i ≤ z.e ∧ z.e ≤ hnV e0.s) ∧ (v0 = fo_vi ↑z.i ∧ v1 = fo_vi ↑z.e ∧ v2 = func (Fn.func 263) ⟨[]⟩ ⟨q64 z⟩ ∧ True) ∧ Ent ss (q66 e1 z e0)
def q115 (a : PlS) (x : WdX) := a.e = endV x.s ∧ a.i ≤ a.e ∧ a.e ≤ hnV x.s ∧ a.e < a.i + a.f ∧ IsRow 5 1 (u8s a.o) a.r ∧ a.r.n ≤ a.i ∧ plainV x.s = outV x.s a.e a.f a.i a.o
abbrev q126 (F : Atom) (a : PlS) (x : WdX) := [(0, F), (1, fo_cl a.b [fo_vs x.s] 9), (2, a.r.A)]
def T42 (oo : Oper) := fo_O4 oo (apC (5 : TypeId) 1 1) q135 q149 (λw0 w3 => IsRow 5 1 (w0.cs ++ w0.ys) w3 ∧ w3.n = w0.r.n + w0.m ∧ (w0.m = 0 → w3 = w0.r))
theorem pln_vc (x : WdX) (F : Atom) (hc : plnC.cond x) (hr : plnC.rdc x F) :
 ∀(s : Nat), fo_sm s 0 ∧ T36 [fo_vs x.s] (λr q => ((∃(a : PlS), q213 a x ∧ (fo_vi 0 = fo_vi ↑a.i ∧ fo_vi (↑(r.a.size / 2) : Int) = fo_vi (↑(hnV x.s) : Int) ∧ func (Fn.func 263) ⟨[]⟩ ⟨[fo_vp (q17 s)]⟩ = func (Fn.func 263) ⟨[]⟩ ⟨q64 a⟩ ∧ True) ∧ Ent [(0, F), (1000, fo_cl s [fo_vs x.s] 9)] (q66 F a x)) ∧ fo_vA λ(g : PlS) _ => q213 g x → fo_Bd ((g.i : Int) < (↑(hnV x.s) : Int)) (T38 (q268 g) (fo_aR (q66 F g x) []) (λe d => T39 [fo_vi (↑(unitN e.s e.i) : Int)] (λc b => Br (blkB c.u) (fo_rI ((g.i : Int) + 1) ∧ ∃(a : PlS), q213 a x ∧ (fo_vi ((g.i : Int) + 1) = fo_vi ↑a.i ∧ fo_vi (↑(hnV x.s) : Int) = fo_vi (↑(hnV x.s) : Int) ∧ func (Fn.func 263) ⟨[]⟩ ⟨q64 g⟩ = func (Fn.func 263) ⟨[]⟩ ⟨q64 a⟩ ∧ True) ∧ Ent (q66 F g x) (q66 F a x) ∧ hnV x.s - a.i < hnV x.s - g.i) (T40 x F (fo_vi ↑g.i) (q212 g) (q66 F g x))))) (T40 x F (fo_vi ↑g.i) (q212 g) (q66 F g x))) ∧ fo_vA λ(p : PlS) _ => (p.i = begV x.s ∧ p.i ≤ hnV x.s) → ((∃(a : PlS), q183 a x ∧ (fo_vi ↑p.i = fo_vi ↑a.i ∧ fo_vi (↑(hnV x.s) : Int) = fo_vi ↑a.e ∧ func (Fn.func 263) ⟨[]⟩ ⟨q64 p⟩ = func (Fn.func 263) ⟨[]⟩ ⟨q64 a⟩ ∧ True) ∧ Ent (q66 F p x) (q66 F a x)) ∧ fo_vA λ(g : PlS) _ => q183 g x → fo_Bd ((g.i : Int) < (g.e : Int)) (fo_rI ((g.e : Int) - 1) ∧ T38 [fo_vi ((g.e : Int) - 1), fo_vp (some ⟨g.b, 0, none⟩)] (fo_aR (q66 F g x) []) (λe d => T39 [fo_vi (↑(unitN e.s e.i) : Int)] (λc b => Br (blkB c.u) (fo_rI ((g.e : Int) - 1) ∧ ∃(a : PlS), q183 a x ∧ (fo_vi ↑g.i = fo_vi ↑a.i ∧ fo_vi ((g.e : Int) - 1) = fo_vi ↑a.e ∧ func (Fn.func 263) ⟨[]⟩ ⟨q64 g⟩ = func (Fn.func 263) ⟨[]⟩ ⟨q64 a⟩ ∧ True) ∧ Ent (q66 F g x) (q66 F a x) ∧ a.e < g.e) (T41 x F (fo_vi ↑g.i) (fo_vi ↑g.e) (q212 g) (q66 F g x))))) (T41 x F (fo_vi ↑g.i) (fo_vi ↑g.e) (q212 g) (q66 F g x))) ∧ fo_vA λ(n : PlS) _ => (n.i = begV x.s ∧ n.e = endV x.s ∧ n.i ≤ n.e ∧ n.e ≤ hnV x.s) → fo_rI ((n.e : Int) - (n.i : Int)) ∧ T1 (opIn Tryz.f224 7 3) [fo_vi 0, fo_vi ((n.e : Int) - (n.i : Int))] (λl k => (∃(a : PlS), q115 a x ∧ (fo_vi ↑n.i = fo_vi ↑a.i ∧ fo_vi ↑n.e = fo_vi ↑a.e ∧ func (Fn.func 263) ⟨[]⟩ ⟨q64 n⟩ = func (Fn.func 263) ⟨[]⟩ ⟨q64 a⟩ ∧ fo_vl (q17 k) l.n.toNat l.c.toNat = fo_vl a.r.a a.r.n a.r.cap ∧ True) ∧ Ent [(0, F), (1, fo_cl n.b [fo_vs x.s] 9), (8030, fo_cl k (zeros [fo_vc 0] l.c.toNat) 5)] (q126 F a x)) ∧ fo_vA λ(j : PlS) _ => q115 j x → fo_Bd ((j.i : Int) < (j.e : Int)) (T38 (q268 j) (fo_aR (q126 F j x) []) (λh g => fo_Bd ((↑(unitN h.s h.i) : Int) > 127) (Done plnC x F q107 (q126 F j x)) (T38 (q268 j) (fo_aR (q126 F j x) []) (λf e => (0 ≤ (↑(unitN f.s f.i) : Int) ∧ (↑(unitN f.s f.i) : Int) ≤ 255) ∧ ∀(d : Nat), T42 (opIn Tryz.f224 12 6) [fo_vl j.r.a j.r.n j.r.cap, fo_vl (q17 d) 1 1] [j.r.A] (fo_aR [(0, F), (1, fo_cl j.b [fo_vs x.s] 9), (2, j.r.A), (13050, fo_cl d [fo_vc (↑(unitN f.s f.i) : Int)] 5)] [2]) (λc b => fo_rI ((j.i : Int) + 1) ∧ ∃(a : PlS), q115 a x ∧ (fo_vi ((j.i : Int) + 1) = fo_vi ↑a.i ∧ fo_vi ↑j.e = fo_vi ↑a.e ∧ func (Fn.func 263) ⟨[]⟩ ⟨q64 j⟩ = func (Fn.func 263) ⟨[]⟩ ⟨q64 a⟩ ∧ fo_vl b.a b.n b.cap = fo_vl a.r.a a.r.n a.r.cap ∧ True) ∧ Ent [(0, F), (1, fo_cl j.b [fo_vs x.s] 9), (2, b.A), (13050, fo_cl d [fo_vc (↑(unitN f.s f.i) : Int)] 5)] (q126 F a x) ∧ a.e - a.i < j.e - j.i))))) (T4 (opIn Tryz.f224 13 1) [fo_vl j.r.a j.r.n j.r.cap] (fo_aR (q126 F j x) []) (λb a => Done plnC x F (fo_rt (tuple ⟨[fo_vs (btL b.l), fo_vb true]⟩)) (q126 F j x))))) := by
  delta T36 q213 q17 q64 q66 T38 q268 T39 T40 q212 q183 T41 T1 q115 q126 q107 q293 q261 q135 q149 T42 T4 fo_aR fo_sm fo_rI fo_C0 fo_C1 fo_C2 fo_O1 fo_O2 fo_O4 fo_vi fo_vc fo_vs fo_vb fo_vp fo_vl fo_cl fo_Bd fo_rt fo_vA
  obtain ⟨s⟩ := x
  have hs : s.size ≤ 8388608 := hc
  dsimp only
  have hh : hnV s = s.size / 2 := rfl
  intro b
  refine ⟨⟨rfl, rfl⟩, len_ok, rfl, ⟨s, s⟩, rfl, rfl, by dsimp only; omega, fo_tv, λ_ _ => ⟨⟨⟨⟨b, 0, 0, hnV s + 1, [], nilRow⟩, ⟨fo_zl _, by dsimp only; omega, rfl⟩, ⟨rfl, rfl, rfl, fo_tv⟩, Ent.pick [0, 1000] rfl rfl⟩, ?_⟩, ?_⟩⟩
  · rintro ⟨b, i, _, f, _, _⟩ js ⟨h1, h2, h3⟩
    dsimp only at h1 h2 h3 ⊢
    obtain ⟨f', rfl⟩ : ∃ f', f = f' + 1 := ⟨f - 1, by omega⟩
    have b0 := unitN_lt s i
    have done : begV s = i → ∃ x : PlS, (x.i = begV s ∧ x.i ≤ hnV s) ∧ (int .i64 (i : Int) = .int .i64 (x.i : Int) ∧ int .i64 (hnV s : Int) = .int .i64 (hnV s : Int) ∧ func (.func 263) #[] #[.pointer (some ⟨b, 0, none⟩)] = func (.func 263) #[] #[.pointer (some ⟨x.b, 0, none⟩)] ∧ True) ∧ Ent (ofL [F, .cells b [.string s] 9]) (ofL [F, .cells x.b [.string s] 9]) := λe =>
      ⟨⟨b, i, 0, 0, [], nilRow⟩, ⟨e.symm, h1⟩, ⟨rfl, rfl, rfl, fo_tv⟩, Ent.refl _⟩
    rw [upV] at h3
    refine br_decide (λhlt => ⟨p1_ok, rfl, ⟨b, s, i⟩, rfl, rfl, ⟨by dsimp only; omega, by dsimp only; omega⟩, Look.rest (j := 1) (by simp) (Look.cells rfl), λ_ _ => ⟨bk_ok, rfl, ⟨unitN s i⟩, rfl, rfl, fo_tv, fo_tv, λ_ _ => br_intro (λhb => ?_) (λhb => done ?_)⟩⟩) (λhge => done ?_)
    · have hb : blkB (unitN s i) = true := hb
      rw [fo_dt (show i < hnV s by omega), hb] at h3
      exact ⟨⟨by omega, by omega⟩, ⟨b, i + 1, 0, f', [], nilRow⟩, ⟨by dsimp only; omega, by dsimp only; omega, h3⟩, ⟨rfl, rfl, rfl, fo_tv⟩, Ent.pick [0, 1] rfl rfl, by dsimp only; omega⟩
    · have hb : blkB (unitN s i) = false := hb
      rw [hb, fo_baf] at h3
      exact h3
    · rw [fo_df (show ¬ i < hnV s by omega), fo_fba] at h3
      exact h3
  clear b
  rintro ⟨b, i, _, _, _, _⟩ js ⟨h1, h2⟩
  dsimp only at h1 h2 ⊢
  refine ⟨⟨⟨⟨b, i, hnV s, hnV s + 1, [], nilRow⟩, ⟨h1, h2, fo_nr _, fo_ls _, by dsimp only; rw [h1] <;> rfl⟩, ⟨rfl, rfl, rfl, fo_tv⟩, Ent.pick [0, 1] rfl rfl⟩, ?_⟩, ?_⟩
  · clear h1 h2
    rintro ⟨b, i, e, f, _, _⟩ js ⟨h1, h2, h3, h4, h5⟩
    dsimp only at h1 h2 h3 h4 h5 ⊢
    obtain ⟨f', rfl⟩ : ∃ f', f = f' + 1 := ⟨f - 1, by omega⟩
    have b0 := unitN_lt s (e - 1)
    have done : endV s = e → ∃ x : PlS, (x.i = begV s ∧ x.e = endV s ∧ x.i ≤ x.e ∧ x.e ≤ hnV s) ∧ (int .i64 (i : Int) = .int .i64 (x.i : Int) ∧ int .i64 (e : Int) = .int .i64 (x.e : Int) ∧ func (.func 263) #[] #[.pointer (some ⟨b, 0, none⟩)] = func (.func 263) #[] #[.pointer (some ⟨x.b, 0, none⟩)] ∧ True) ∧ Ent (ofL [F, .cells b [.string s] 9]) (ofL [F, .cells x.b [.string s] 9]) := λe' =>
      ⟨⟨b, i, e, 0, [], nilRow⟩, ⟨h1, e'.symm, h2, h3⟩, ⟨rfl, rfl, rfl, fo_tv⟩, Ent.refl _⟩
    rw [dnV] at h5
    refine br_decide (λhlt => ⟨⟨by omega, by omega⟩, p1_ok, rfl, ⟨b, s, e - 1⟩, by rw [show ((e - 1 : Nat) : Int) = (e : Int) - 1 by omega], rfl, ⟨by dsimp only; omega, by dsimp only; omega⟩, Look.rest (j := 1) (by simp) (Look.cells rfl), λ_ _ => ⟨bk_ok, rfl, ⟨unitN s (e - 1)⟩, rfl, rfl, fo_tv, fo_tv, λ_ _ => br_intro (λhb => ?_) (λhb => done ?_)⟩⟩) (λhge => done ?_)
    · have hb : blkB (unitN s (e - 1)) = true := hb
      rw [fo_dt (show i < e by omega), hb] at h5
      exact ⟨⟨by omega, by omega⟩, ⟨b, i, e - 1, f', [], nilRow⟩, ⟨h1, by dsimp only; omega, by dsimp only; omega, by dsimp only; omega, h5⟩, ⟨rfl, by rw [show ((e - 1 : Nat) : Int) = (e : Int) - 1 by omega], rfl, fo_tv⟩, Ent.pick [0, 1] rfl rfl, by dsimp only; omega⟩
    · have hb : blkB (unitN s (e - 1)) = false := hb
      rw [hb, fo_baf] at h5
      exact h5
    · rw [fo_df (show ¬ i < e by omega), fo_fba] at h5
      exact h5
  clear h1 h2
  rintro ⟨b, i, e, _, _, _⟩ js ⟨h1, h2, h3, h4⟩
  dsimp only at h1 h2 h3 h4 ⊢
  have e0 : ((e : Int) - (i : Int)) = ((e - i : Nat) : Int) := by omega
  rw [e0]
  refine ⟨⟨by omega, by omega⟩, make_ok (P := Tryz.prog) [.int .u8 0] 1 rfl rfl rfl rfl rfl rfl (by simp) rfl, rfl, ⟨0, (e - i : Nat)⟩, rfl, rfl, ⟨fo_ir 0, by dsimp only; omega, by dsimp only; omega, by dsimp only; omega⟩, fo_tv, λbs _ => ⟨⟨⟨b, i, e, e + 1, [], ⟨some ⟨bs, 0, none⟩, 0, ((e - i : Nat) : Int).toNat, .cells bs (zeros [.int .u8 0] ((e - i : Nat) : Int).toNat) 5⟩⟩, ⟨h2, h3, h4, by dsimp only; omega, .blk bs 0 _ (zeros [.int .u8 0] _) rfl (by rw [fo_la, zeros_length]; simp [u8s]) (fo_zl _), fo_zl _, ?_⟩, ⟨rfl, rfl, rfl, rfl, fo_tv⟩, Ent.pick [0, 1, 8030] rfl rfl⟩, ?_⟩⟩
  · dsimp only
    rw [h1, h2] <;> rfl
  clear h1 h2 h3 h4 e0
  rintro ⟨b, i, e, f, o, r⟩ js ⟨h1, h2, h3, h4, h5, h6, h7⟩
  dsimp only at h1 h2 h3 h4 h5 h6 h7 ⊢
  obtain ⟨f', rfl⟩ : ∃ f', f = f' + 1 := ⟨f - 1, by omega⟩
  rw [outV] at h7
  have lk : ∀ {S : St} {touch : List Nat}, (1 : Nat) ∉ touch → gt S 1 = .cells b [.string s] 9 → Look (.pred (rest S touch)) ⟨b, 0, none⟩ (.string s) := λh e => Look.rest h (by rw [e]; exact Look.cells rfl)
  refine br_decide (λhlt => ?_) (λhge => ?_)
  · rw [fo_dt (show i < e by omega), fo_ct] at h7
    refine ⟨p1_ok, rfl, ⟨b, s, i⟩, rfl, rfl, ⟨by dsimp only; omega, by dsimp only; omega⟩, lk (by simp) rfl, λ_ _ => br_decide (λhb => ?_) (λhb => ?_)⟩
    · dsimp only at hb
      rw [fo_dt (show unitN s i > 127 by omega), fo_ct] at h7
      exact ⟨(), fo_tv, by show returned _ = returned (.tuple #[.string (btL ((plainV s).getD [])), .bool (plainV s).isSome]); rw [h7] <;> rfl, Ent.pick [0] rfl rfl⟩
    · dsimp only at hb
      rw [fo_df (show ¬ unitN s i > 127 by omega), fo_cf] at h7
      refine ⟨p1_ok, rfl, ⟨b, s, i⟩, rfl, rfl, ⟨by dsimp only; omega, by dsimp only; omega⟩, lk (by simp) rfl, λ_ _ => ⟨⟨by omega, by dsimp only; omega⟩, λlb => ⟨append_ok (P := Tryz.prog) 1 1 rfl rfl rfl rfl rfl rfl rfl (by decide), rfl, ⟨r, u8s o, some ⟨lb, 0, none⟩, 1, 1, u8s [unitN s i]⟩, rfl, rfl, ⟨h5, rfl, λ_ h => u8s_one h, by dsimp only; omega, by dsimp only; omega, by simp⟩, ?_, ?_⟩⟩⟩
      · intro a ha
        cases ha
        exact Seg.rest (j := 13050) (by simp) (Seg.cells (λj u hj => by rw [fo_za]; exact hj))
      · rintro y ⟨y1, y2, -⟩
        dsimp only at y1 y2
        exact ⟨⟨by omega, by omega⟩, ⟨b, i + 1, e, f', o ++ [unitN s i], y⟩, ⟨h1, by dsimp only; omega, h3, by dsimp only; omega, by rw [u8s_app]; exact y1, by dsimp only; omega, h7⟩, ⟨rfl, rfl, rfl, rfl, fo_tv⟩, Ent.pick [0, 1, 2] rfl rfl, by dsimp only; omega⟩
  · rw [fo_df (show ¬ i < e by omega), fo_cf] at h7
    exact ⟨b2s_ok rfl rfl rfl rfl, rfl, ⟨r.a, r.n, r.cap, o⟩, rfl, rfl, h5.src, row_srcd 2 (by simp) rfl h5, λ_ _ => ⟨(), fo_tv, by show returned _ = returned (.tuple #[.string (btL ((plainV s).getD [])), .bool (plainV s).isSome]); rw [h7] <;> rfl, Ent.pick [0] rfl rfl⟩⟩
theorem pln_ok : fo_k 224 plnC := fo 56 Tryz.func224 (λ_ _ => [(0, 0, .n 1000), (1, 0, .q [.aq 1000]), (1, 1, .c lenC [] []), (3, 6, .c p1C [] []), (3, 7, .c bkC [] []), (5, 7, .c p1C [] []), (5, 8, .c bkC [] []), (7, 3, .o (mkC 5 [.int .u8 0] 1) [] [8030]), (10, 2, .c p1C [] []), (12, 3, .c p1C [] []), (12, 5, .n 13050), (12, 6, .o (apC 5 1 1) [2] [2]), (13, 1, .o b2sC [] [])]) [] plnInv plnCut fo_o [] pln_vc
end
section
open Go
set_option maxHeartbeats 1000000
end
section
open Go
set_option maxHeartbeats 1000000
end
section
open Go
set_option maxHeartbeats 1000000
structure I1X where
  i : Int
end
end Go.Proofs.YtjdabjmjldiodaaGreatDoor
namespace Go.Proofs
section
open Go.Shelf
end
end Go.Proofs
namespace Go.Proofs.YtjdabjmjldiodaaGreatDoor
set_option maxRecDepth 100000
open Go.Value (int slice string bool pointer agg tuple func float iface nilIface)
open Go.IntKind (i64 u8 u64 i32 u32 u16 i8 i16)
open Go.FloatKind (f64)
open Go.Ending (returned panicked)
section
open Go
set_option maxHeartbeats 1000000
end
section
open Go
set_option maxHeartbeats 1000000
end
section
open Go
set_option maxHeartbeats 1000000
end
section
open Go
set_option maxHeartbeats 1000000
def shlQ (k kn : IntKind) : QCon where
  X := Int × Int
  args x := [.int k x.1, .int kn x.2]
  cond x := 0 ≤ x.2
  val x := .int k (k.wrap (x.1 * 2 ^ min x.2.toNat k.bits))
def shrQ (k kn : IntKind) : QCon where
  X := Int × Int
  args x := [.int k x.1, .int kn x.2]
  cond x := 0 ≤ x.2
  val x := .int k (x.1.fdiv (2 ^ min x.2.toNat k.bits))
theorem shl_ok {P : Program} {k kn : IntKind} {o : Oper} {t tn : TypeId} {x y : Operand} (ho : o.op = .binOp .shl t x y tn) : QOpOk P o (shlQ k kn) := by
  refine ⟨λq w ρ ha hc => ?_⟩
  obtain ⟨a, b⟩ := q
  have hc : 0 ≤ b := hc
  simp only [ho, Op.operands, shlQ] at ha
  have ha2 : ρ x = .int k a ∧ ρ y = .int kn b := by simpa using ha
  obtain ⟨hx, hy⟩ := ha2
  have hb : ¬ b < 0 := by omega
  simp [execOp, ho, hx, hy, eqGuard, binOp, Op.shift, shlQ, hb, Sem.run]
theorem shr_ok {P : Program} {k kn : IntKind} {o : Oper} {t tn : TypeId} {x y : Operand} (ho : o.op = .binOp .shr t x y tn) : QOpOk P o (shrQ k kn) := by
  refine ⟨λq w ρ ha hc => ?_⟩
  obtain ⟨a, b⟩ := q
  have hc : 0 ≤ b := hc
  simp only [ho, Op.operands, shrQ] at ha
  have ha2 : ρ x = .int k a ∧ ρ y = .int kn b := by simpa using ha
  obtain ⟨hx, hy⟩ := ha2
  have hb : ¬ b < 0 := by omega
  simp [execOp, ho, hx, hy, eqGuard, binOp, Op.shift, shrQ, hb, Sem.run]
end
section
open Go
variable {P : Program}
def fcV (op : BinOp) (a b : Nat) : Bool :=
  match op with
  | .eql => f64.format.order a b == some .eq
  | .lss => f64.format.order a b == some .lt
  | .gtr => f64.format.order a b == some .gt
  | .neq => f64.format.order a b != some .eq
  | _ => false
def fcQ (op : BinOp) : QCon where
  X := Nat × Nat
  args x := [.float .f64 x.1, .float .f64 x.2]
  cond _ := True
  val x := .bool (fcV op x.1 x.2)
theorem fc_ok {o : Oper} {op : BinOp} {t rt : TypeId} {x y : Operand} (hop : op = .eql ∨ op = .lss ∨ op = .gtr ∨ op = .neq) (ho : o.op = .binOp op t x y rt) : QOpOk P o (fcQ op) := by
  refine ⟨λq w ρ ha _ => ?_⟩
  obtain ⟨a, b⟩ := q
  simp only [ho, Op.operands, fcQ] at ha
  have ha2 : ρ x = .float .f64 a ∧ ρ y = .float .f64 b := by simpa using ha
  obtain ⟨hx, hy⟩ := ha2
  rcases hop with rfl | rfl | rfl | rfl <;> simp [execOp, ho, hx, hy, eqGuard, binOp, Op.floatCmp, fcQ, fcV, Sem.run]
end
section
open Go
set_option maxHeartbeats 1000000
inductive Pv where
  | t (s : ByteArray)
  | n (b : Nat)
def Pv.k : Pv → Int
  | .t _ => 4
  | .n _ => 3
def Pv.f : Pv → Nat
  | .t _ => 0
  | .n b => b
def Pv.s : Pv → ByteArray
  | .t s => s
  | .n _ => ⟨#[]⟩
def Pv.ok : Pv → Prop
  | .t s => s.size % 2 = 0
  | .n _ => True
def Pv.v (p : Pv) : Value := .agg #[.int .i64 p.k, .float .f64 p.f, .string p.s, .int .i64 0]
abbrev ioC : Con where
  X := StX
  Y := Int × Bool
  args x := [.string x.s]
  pre _ := []
  cond x := x.s.size ≤ 1048576
  rdc _ _ := True
  rel _ _ := True
  val _ y := .returned (.tuple #[.int .i64 y.1, .bool y.2])
  post _ _ := []
structure IoS where
  i : Nat
  n : Nat
structure IoS.ok (d : IoS) (s : ByteArray) : Prop where
  s20 : s.size ≤ 20
  i10 : d.i ≤ s.size / 2
  n10 : d.n < 10 ^ d.i
def ioInv (x : StX) (F : Atom) : Nat → Option Inv := fun
  | 0 => some { X := IoS, P := λd => d.ok x.s, mu := λd => x.s.size / 2 - d.i, lv := λd => [(0, .string x.s), (4, .int .i64 d.n), (23, .int .i64 (x.s.size / 2 : Nat)), (24, .int .i64 d.i)], st := λ_ => [F] }
  | _ => none
def q70 (x : StX) (F : Atom) := Done ioC x F q340 [(0, F)]
def T43 (e0 : StX) (e1 : Atom) (v0 v1 : Value) (ss : St) (mm : Nat) := ∃ (z : IoS), z.ok e0.s ∧ (fo_vs e0.s = fo_vs e0.s ∧ v0 = fo_vi ↑z.n ∧ fo_vi (↑(e0.s.size / 2) : Int) = fo_vi (↑(e0.s.size / 2) : Int) ∧ v1 = fo_vi ↑z.i ∧ True) ∧ Ent ss [(0, e1)] ∧ e0.s.size.div 2 - z.i < mm
def q123 (e : IoS) (c : AtU) (x : StX) (F : Atom) := fo_rI ((e.n : Int) * 10) ∧ fo_rI ((e.n : Int) * 10 + (↑(unitN c.s c.i) : Int)) ∧ fo_rI ((e.n : Int) * 10 + (↑(unitN c.s c.i) : Int) - 48) ∧ fo_rI ((e.i : Int) + 1) ∧ T43 x F (fo_vi ((e.n : Int) * 10 + (↑(unitN c.s c.i) : Int) - 48)) (fo_vi ((e.i : Int) + 1)) [(0, F)] (x.s.size.div 2 - e.i)
theorem io_vc (x : StX) (F : Atom) (hc : ioC.cond x) (hr : ioC.rdc x F) :
 (2 : Int) ≠ (0 : Int) ∧ Br ((x.s.size : Int).tmod (2 : Int) != (0 : Int)) (q70 x F) (Br ((x.s.size : Int) == 0) (q70 x F) (fo_Bd ((x.s.size : Int) > 20) (q70 x F) (T36 [fo_vs x.s] (λg f => (∃(a : IoS), a.ok x.s ∧ (fo_vs x.s = fo_vs x.s ∧ fo_vi 0 = fo_vi ↑a.n ∧ fo_vi (↑(g.a.size / 2) : Int) = fo_vi (↑(x.s.size / 2) : Int) ∧ fo_vi 0 = fo_vi ↑a.i ∧ True) ∧ Ent [(0, F)] [(0, F)]) ∧ fo_vA λ(e : IoS) _ => e.ok x.s → fo_Bd ((e.i : Int) < (↑(x.s.size / 2) : Int)) (T37 [fo_vs x.s, fo_vi ↑e.i] (λc b => fo_Bd ((↑(unitN c.s c.i) : Int) < 48) (q70 x F) (fo_Bd ((↑(unitN c.s c.i) : Int) > 57) (q70 x F) (fo_Bd ((e.i : Int) > 0) (Br ((e.n : Int) == 0) (q70 x F) (q123 e c x F)) (q123 e c x F))))) (fo_Bd ((e.n : Int) > 2147483647) (q70 x F) (Done ioC x F (fo_rt (tuple ⟨[fo_vi ↑e.n, fo_vb true]⟩)) [(0, F)])))))) := by
  delta q340 q70 T36 T37 T43 q123 fo_rI fo_C1 fo_vi fo_vs fo_vb fo_Bd fo_rt fo_vA
  have hs : x.s.size ≤ 1048576 := hc
  have fin : ∀ (a : Int) (b : Bool), Done ioC x F (returned (tuple #[int i64 a, bool b])) [(0, F)] := λa b => ⟨(a, b), fo_tv, rfl, Ent.pick [0] rfl rfl⟩
  refine ⟨by decide, br_intro (λ_ => fin _ _) (λ_ => br_intro (λ_ => fin _ _) (λ_ => br_decide (λ_ => fin _ _) (λh20 => ⟨len_ok, rfl, ⟨x.s, x.s⟩, rfl, rfl, by dsimp only; omega, fo_tv, λ_ _ => ⟨⟨⟨0, 0⟩, ⟨by omega, fo_zl _, by decide⟩, ⟨rfl, rfl, rfl, rfl, fo_tv⟩, Ent.pick [0] rfl rfl⟩, ?_⟩⟩)))⟩
  rintro ⟨i, n⟩ js ⟨h1, h2, h3⟩
  dsimp only at h1 h2 h3 ⊢
  have hp : 10 ^ i ≤ 10 ^ 10 := fo_pp (by decide) (by omega)
  have hp2 : 10 ^ (i + 1) = 10 ^ i * 10 := Nat.pow_succ ..
  have h10 : (10 : Nat) ^ 10 = 10000000000 := by decide
  rw [h10] at hp
  refine br_decide (λhlt => ⟨atu_ok, rfl, ⟨x.s, i⟩, rfl, rfl, ⟨by dsimp only; omega, by dsimp only; omega⟩, fo_tv, λ_ _ => ?_⟩) (λ_ => br_decide (λ_ => fin _ _) (λ_ => fin _ _))
  dsimp only
  generalize unitN x.s i = u
  refine br_decide (λ_ => fin _ _) (λg1 => br_decide (λ_ => fin _ _) (λg2 => ?_))
  obtain ⟨v, rfl⟩ : ∃ v, u = v + 48 := ⟨u - 48, by omega⟩
  have key : ((-9223372036854775808 ≤ (n : Int) * 10 ∧ (n : Int) * 10 ≤ 9223372036854775807) ∧ (-9223372036854775808 ≤ (n : Int) * 10 + ((v + 48 : Nat) : Int) ∧ (n : Int) * 10 + ((v + 48 : Nat) : Int) ≤ 9223372036854775807) ∧ (-9223372036854775808 ≤ (n : Int) * 10 + ((v + 48 : Nat) : Int) - 48 ∧ (n : Int) * 10 + ((v + 48 : Nat) : Int) - 48 ≤ 9223372036854775807) ∧ (-9223372036854775808 ≤ (i : Int) + 1 ∧ (i : Int) + 1 ≤ 9223372036854775807) ∧ ∃ (y : IoS), y.ok x.s ∧ (string x.s = string x.s ∧ int i64 ((n : Int) * 10 + ((v + 48 : Nat) : Int) - 48) = int i64 (y.n : Int) ∧ int i64 ((x.s.size / 2 : Nat) : Int) = int i64 ((x.s.size / 2 : Nat) : Int) ∧ int i64 ((i : Int) + 1) = int i64 (y.i : Int) ∧ True) ∧ Ent [(0, F)] [(0, F)] ∧ x.s.size.div 2 - y.i < x.s.size.div 2 - i) := by
    refine ⟨⟨by omega, by omega⟩, ⟨by omega, by omega⟩, ⟨by omega, by omega⟩, ⟨by omega, by omega⟩, ⟨i + 1, n * 10 + v⟩, ⟨h1, by dsimp only; omega, by dsimp only; rw [hp2]; omega⟩, ⟨rfl, by congr 1; dsimp only; omega, rfl, rfl, fo_tv⟩, Ent.pick [0] rfl rfl, ?_⟩
    show x.s.size / 2 - (i + 1) < x.s.size / 2 - i
    omega
  exact br_decide (λ_ => br_intro (λ_ => fin _ _) (λ_ => key)) (λ_ => key)
theorem io_ok : fo_k 24 ioC := fo 56 Tryz.func24 (λ_ _ => [(4, 1, .c lenC [] []), (7, 2, .c atuC [] [])]) [] ioInv fo_i fo_o [] io_vc
abbrev zzC (v : Bool) : Con where
  X := Unit
  Y := Unit
  args _ := [.float .f64 0]
  pre _ := []
  cond _ := True
  rdc _ _ := True
  rel _ _ := True
  val _ _ := .returned (.bool v)
  post _ _ := []
abbrev sbC : Con := zzC false
theorem sb_vc (x : PUnit) (F : Atom) (hc : sbC.cond x) (hr : sbC.rdc x F) :
 fo_rI (↑(0 : Nat) : Int) ∧ Done sbC x F (fo_rt (fo_vb (decide ((↑(0 : Nat) : Int) < 0)))) [(0, F)] := by
  delta fo_rI fo_vb fo_rt
  exact ⟨⟨by decide, by decide⟩, (), fo_tv, rfl, Ent.pick [0] rfl rfl⟩
theorem sb_ok : fo_k 110 sbC := fo 7 Tryz.func110 (λ_ _ => []) [(1, 1, OH.q [])] fo_i fo_i fo_o [] sb_vc
abbrev smC : Con where
  X := Unit
  Y := Unit
  args _ := [.float .f64 0, .float .f64 0]
  pre _ := []
  cond _ := True
  rdc _ _ := True
  rel _ _ := True
  val _ _ := .returned (.bool true)
  post _ _ := []
def T44 (oo : Oper) (aa : List Value) (k0 : Nat × Nat → Prop) := QOpOk Tryz.prog oo (fcQ BinOp.neq) ∧ ∃ (z : Nat × Nat), aa = [float f64 z.fst, float f64 z.snd] ∧ True ∧ k0 z
abbrev q349 : List Value := [float f64 0, float f64 0]
def T45 := fo_C0 110 sbC
theorem sm_vc (x : PUnit) (F : Atom) (hc : smC.cond x) (hr : smC.rdc x F) :
 T44 (opIn Tryz.f66 1 2) q349 (λg => Br (fcV BinOp.neq g.fst g.snd) (Done smC x F q54 [(0, F)]) (T44 (opIn Tryz.f66 1 6) q349 (λf => Br (fcV BinOp.neq f.fst f.snd) (Done smC x F q54 [(0, F)]) (QOpOk Tryz.prog (opIn Tryz.f66 3 2) (fcQ BinOp.eql) ∧ ∃(e : Nat × Nat), q349 = [float f64 e.fst, float f64 e.snd] ∧ True ∧ Br (fcV BinOp.eql e.fst e.snd) (T45 [float f64 0] (λd c => T45 [float f64 0] (λb a => Done smC x F (fo_rt (fo_vb (false == false))) [(0, F)]))) (Done smC x F q54 [(0, F)]))))) := by
  delta T44 q349 q54 T45 fo_C0 fo_vb fo_rt
  refine ⟨fc_ok (by simp) rfl, (0, 0), rfl, fo_tv, br_intro (λh => absurd h (by decide +kernel)) (λ_ => ⟨fc_ok (by simp) rfl, (0, 0), rfl, fo_tv, br_intro (λh => absurd h (by decide +kernel)) (λ_ => ⟨fc_ok (by simp) rfl, (0, 0), rfl, fo_tv, br_intro (λ_ => ?_) (λh => absurd h (by decide +kernel))⟩)⟩)⟩
  exact ⟨sb_ok, rfl, (), rfl, rfl, fo_tv, fo_tv, λ_ _ => ⟨sb_ok, rfl, (), rfl, rfl, fo_tv, fo_tv, λ_ _ => ⟨(), fo_tv, rfl, Ent.pick [0] rfl rfl⟩⟩⟩
theorem sm_ok : fo_k 66 smC := fo 31 Tryz.func66 (λ_ _ => [(1, 2, .qo (fcQ .neq)), (1, 6, .qo (fcQ .neq)), (3, 2, .qo (fcQ .eql)), (3, 5, .c sbC [] []), (3, 7, .c sbC [] [])]) [] fo_i fo_i fo_o [] sm_vc
structure RiX where
  b : Nat
  p : Pv
abbrev riC : Con where
  X := RiX
  Y := Unit
  args x := [.pointer (some ⟨x.b, 0, none⟩), x.p.v]
  pre _ := []
  cond x := x.p.ok
  rdc _ _ := True
  rel _ _ := True
  val _ _ := .returned (.bool true)
  post _ _ := []
abbrev q236 := fo_rt (fo_vb ((0 : Int) == (0 : Int)))
abbrev q96 (F : Atom) (c : Nat) (x : RiX) := [(0, F), (1000, fo_cl c [fo_vi x.p.k, float f64 x.p.f, fo_vs x.p.s, fo_vi 0] 30)]
def T46 := fo_C0 66 smC
def q26 (x : RiX) (c : Nat) (F : Atom) := Br (x.p.k == 2) (fo_sm c 1 ∧ False) (Br (x.p.k == 3) (fo_sm c 2 ∧ Br (x.p.s.toList == q59.toList) (fo_sm c 3 ∧ Done riC x F q236 (q96 F c x)) (Done riC x F q54 (q96 F c x))) (Br (x.p.k == 4) (fo_sm c 1 ∧ T46 [float f64 x.p.f, float f64 0] (λb a => fo_sm c 3 ∧ fo_sm c 2 ∧ (2 : Int) ≠ (0 : Int) ∧ Done riC x F (fo_rt (fo_vb ((x.p.s.size : Int).tmod (2 : Int) == (0 : Int)))) (q96 F c x))) (Br (x.p.k == 5) (Br (x.p.k == 5) (true = true ∧ fo_sm c 1 ∧ False) (Done riC x F q54 (q96 F c x))) (Br (x.p.k == 6) (true = true ∧ fo_sm c 1 ∧ False) (Done riC x F q54 (q96 F c x))))))
theorem ri_vc (x : RiX) (F : Atom) (hc : riC.cond x) (hr : riC.rdc x F) :
 ∀(c : Nat), fo_sm c 0 ∧ Br (x.p.k == 0) (Br (x.p.k == 0) (fo_sm c 1 ∧ False) (q26 x c F)) (Br (x.p.k == 1) (fo_sm c 1 ∧ False) (q26 x c F)) := by
  delta q59 q236 q96 q54 T46 q26 fo_sm fo_C0 fo_vi fo_vs fo_vb fo_cl fo_rt
  obtain ⟨hb, p⟩ := x
  have hc : p.ok := hc
  dsimp only
  intro b
  refine ⟨⟨rfl, rfl⟩, ?_⟩
  have f4 : ∀ k : Int, k ≠ 4 → ((4 : Int) == k) = true → False := λk h e => h (beq_iff_eq.1 e).symm
  have f3 : ∀ k : Int, k ≠ 3 → ((3 : Int) == k) = true → False := λk h e => h (beq_iff_eq.1 e).symm
  cases p with
  | t s =>
    have hc : s.size % 2 = 0 := hc
    refine br_intro (λh => (f4 0 (by decide) h).elim) (λ_ => br_intro (λh => (f4 1 (by decide) h).elim) (λ_ => br_intro (λh => (f4 2 (by decide) h).elim) (λ_ => br_intro (λh => (f4 3 (by decide) h).elim) (λ_ => br_intro (λ_ => ?_) (λh => absurd (show ((4 : Int) == 4) = false from h) (by decide))))))
    refine ⟨⟨rfl, rfl⟩, sm_ok, rfl, (), rfl, rfl, fo_tv, fo_tv, λ_ _ => ⟨⟨rfl, rfl⟩, ⟨rfl, rfl⟩, by decide, (), fo_tv, retB ?_, Ent.pick [0] rfl rfl⟩⟩
    show (((s.size : Int).tmod 2) == 0) = true
    rw [Int.tmod_eq_emod_of_nonneg (by omega)]
    simp
    omega
  | n v =>
    refine br_intro (λh => (f3 0 (by decide) h).elim) (λ_ => br_intro (λh => (f3 1 (by decide) h).elim) (λ_ => br_intro (λh => (f3 2 (by decide) h).elim) (λ_ => br_intro (λ_ => ?_) (λh => absurd (show ((3 : Int) == 3) = false from h) (by decide)))))
    exact ⟨⟨rfl, rfl⟩, br_intro (λ_ => ⟨⟨rfl, rfl⟩, (), fo_tv, rfl, Ent.pick [0] rfl rfl⟩) (λh => by rw [show ((Pv.n v).s.toList == (ByteArray.mk #[]).toList) = true from by rw [str_e0] <;> rfl] at h; cases h)⟩
theorem ri_ok : fo_k 21 riC := fo 101 Tryz.func21 (λ_ _ => [(0, 0, .n 1000), (10, 2, .c smC [] [])]) [(1, 1, OH.q [LH.aq (1000 : Nat)]), (4, 1, OH.q [LH.aq (1000 : Nat)]), (6, 1, OH.q [LH.aq (1000 : Nat)]), (8, 1, OH.q [LH.aq (1000 : Nat)]), (10, 1, OH.q [LH.aq (1000 : Nat)]), (13, 1, OH.q [LH.aq (1000 : Nat)]), (4, 2, OH.q []), (6, 2, OH.q []), (8, 5, OH.q [LH.aq (1000 : Nat)]), (10, 5, OH.q [LH.aq (1000 : Nat)]), (13, 2, OH.q []), (10, 10, OH.q [LH.aq (1000 : Nat)])] fo_i fo_i fo_o [] ri_vc
end
section
open Go
set_option maxHeartbeats 1000000
abbrev KVs := List (ByteArray × Pv)
def mL (l : KVs) : List (ByteArray × Value) := l.map λp => (p.1, p.2.v)
def ksL (l : KVs) : List Value := strs (l.map (·.1))
def ho0 (b : Nat) (left : Int) : Atom := .cells b [.slice none 0 0, .int .i64 left] 60
abbrev nwC (n : Int) : Con where
  X := Unit
  Y := Nat
  args _ := [.int .i64 n]
  pre _ := []
  cond _ := True
  rdc _ _ := True
  rel _ _ := True
  val _ y := .returned (.pointer (some ⟨y, 0, none⟩))
  post _ y := [ho0 y n]
def nwOv (_x : Unit) (_F : Atom) : List (Nat × Nat × OH) := [(1, 4, .n 2040)]
abbrev nwaC : Con := nwC 10000
abbrev q233 (a : Nat) := fo_vp (q17 a)
theorem nwa_vc (x : PUnit) (F : Atom) (hc : nwaC.cond x) (hr : nwaC.rdc x F) :
 ∀(a : Nat), Done nwaC x F (fo_rt (q233 a)) [(0, F), (2040, fo_cl a [fo_vl none 0 0, fo_vi (if 10000 < if (0 : Int) > (10000 : Int) then (0 : Int) else (10000 : Int) then (10000 : Int) else if (0 : Int) > (10000 : Int) then (0 : Int) else (10000 : Int))] 60)] := by
  delta q17 q233 fo_vi fo_vp fo_vl fo_cl fo_rt
  exact λb => ⟨b, fo_tv, rfl, Ent.pick [2040, 0] rfl rfl⟩
theorem nwa_ok : fo_k 6 nwaC := fo 8 Tryz.func6 nwOv [] fo_i fo_i fo_o [] nwa_vc
abbrev nwzC : Con := nwC 0
theorem nwz_vc (x : PUnit) (F : Atom) (hc : nwzC.cond x) (hr : nwzC.rdc x F) :
 ∀(a : Nat), Done nwzC x F (fo_rt (q233 a)) [(0, F), (2040, fo_cl a [fo_vl none 0 0, fo_vi (if 10000 < if (0 : Int) > (0 : Int) then (0 : Int) else (0 : Int) then (10000 : Int) else if (0 : Int) > (0 : Int) then (0 : Int) else (0 : Int))] 60)] := by
  delta q17 q233 fo_vi fo_vp fo_vl fo_cl fo_rt
  exact λb => ⟨b, fo_tv, rfl, Ent.pick [2040, 0] rfl rfl⟩
theorem nwz_ok : fo_k 6 nwzC := fo 8 Tryz.func6 nwOv [] fo_i fo_i fo_o [] nwz_vc
structure HoY where
  br : Nat
  cap : Nat
  sp : List Value
  bo : Nat
  bm : Nat
  kr : Row
def hoR (l : KVs) (y : HoY) : Prop := IsRow 9 1 (ksL l) y.kr
def hoB (b : Nat) (left : Int) (l : KVs) (y : HoY) : List Atom := [.cells b [.slice (some ⟨y.br, 0, none⟩) 1 y.cap, .int .i64 left] 60, .cells y.br (.pointer (some ⟨y.bo, 0, none⟩) :: y.sp) 61, .cells y.bo [.int .i64 1, .int .i64 (-1), .int .i64 0, .int .i64 0, .int .i64 0, .slice y.kr.a y.kr.n y.kr.cap, .map (some y.bm), .slice none 0 0] 68, y.kr.A, mpAS y.bm (mL l)]
def hoA (b : Nat) (left : Int) (l : KVs) : Atom := exA (hoR l) (hoB b left l)
structure AtX where
  b : Nat
  a : Nat
  n : Nat
  c : Nat
  p : Nat
abbrev at0C : Con where
  X := AtX
  Y := Unit
  args x := [.pointer (some ⟨x.b, 0, none⟩), .int .i64 0]
  pre _ := []
  cond x := 0 < x.n
  rdc x F := Look F ⟨x.b, 0, none⟩ (.slice (some ⟨x.a, 0, none⟩) x.n x.c) ∧ Look F ⟨x.a, 0, none⟩ (.pointer (some ⟨x.p, 0, none⟩))
  rel _ _ := True
  val x _ := .returned (.pointer (some ⟨x.p, 0, none⟩))
  post _ _ := []
  rmono _ _ _ hs h := ⟨h.1.sub hs, h.2.sub hs⟩
def T47 (aa : Atom) (ad : Addr) (k0 : Option Addr → Nat → Nat → Prop) := ∃ (z0 : Option Addr), ∃ (z1 : Nat), ∃ (z2 : Nat), Look aa ad (fo_vl z0 z1 z2) ∧ k0 z0 z1 z2
def T48 (oo : Oper) (aa : List Value) (k0 : IxQX → Prop) := QOpOk Tryz.prog oo (ixQ 1) ∧ ∃ (z : IxQX), aa = (q175 z) ∧ (0 ≤ z.n ∧ z.n < z.len) ∧ k0 z
theorem at0_vc (x : AtX) (F : Atom) (hc : at0C.cond x) (hr : at0C.rdc x F) :
 T47 F ⟨x.b, 0, none⟩ (λh g f => fo_Bd (0 ≥ (g : Int)) (Done at0C x F (fo_rt (fo_vp none)) [(0, F)]) (T47 F ⟨x.b, 0, none⟩ (λe d c => T48 (opIn Tryz.f18 3 5) [fo_vl e d c, fo_vi 0] (λb => ∃(a : Option Addr), Look F ⟨b.b, b.o + b.n.toNat * 1, none⟩ (fo_vp a) ∧ Done at0C x F (fo_rt (fo_vp a)) [(0, F)])))) := by
  delta T47 q175 T48 fo_vi fo_vp fo_vl fo_Bd fo_rt
  obtain ⟨b, a, n, c, p⟩ := x
  have hn : 0 < n := hc
  obtain ⟨h1, h2⟩ := hr
  exact ⟨some ⟨a, 0, none⟩, n, c, h1, br_decide (λh => absurd h (by omega)) (λ_ => ⟨some ⟨a, 0, none⟩, n, c, h1, ixq_ok 1 rfl rfl rfl rfl, ⟨a, 0, n, c, 0⟩, rfl, ⟨fo_ir _, by dsimp only; omega⟩, some ⟨p, 0, none⟩, h2, (), fo_tv, rfl, Ent.pick [0] rfl rfl⟩)⟩
theorem at0_ok : fo_k 18 at0C := fo 23 Tryz.func18 (λ_ _ => [(1, 7, .q [.ex 0 .slice]), (3, 3, .q [.ex 0 .slice]), (3, 5, .qo (ixQ 1)), (3, 6, .q [.ex 0 .ptr])]) [] fo_i fo_i fo_o [] at0_vc
structure AdhX where
  b : Nat
  left : Int
  bo : Nat
abbrev adhC : Con where
  X := AdhX
  Y := HoY
  args x := [.pointer (some ⟨x.b, 0, none⟩), .pointer (some ⟨x.bo, 0, none⟩), .int .i64 1]
  pre x := [ho0 x.b x.left, .cells x.bo [.int .i64 1, .int .i64 (-1), .int .i64 0, .int .i64 0, .int .i64 0, .slice none 0 0, .map none, .slice none 0 0] 68]
  cond x := 1 ≤ x.left ∧ x.left ≤ 10000
  rdc _ _ := True
  rel _ y := y.kr = nilRow
  val _ _ := .returned (.tuple #[.int .i64 0, .int .i64 0])
  post x y := [.cells x.b [.slice (some ⟨y.br, 0, none⟩) 1 y.cap, .int .i64 (x.left - 1)] 60, .cells y.br (.pointer (some ⟨x.bo, 0, none⟩) :: y.sp) 61, .cells x.bo [.int .i64 1, .int .i64 (-1), .int .i64 0, .int .i64 0, .int .i64 0, .slice none 0 0, .map (some y.bm), .slice none 0 0] 68, .emp, mpAS y.bm []]
abbrev q235 : List Value := [fo_vi 1, fo_vi (-1), fo_vi 0, fo_vi 0, fo_vi 0, fo_vl none 0 0, Value.map none, fo_vl none 0 0]
abbrev q241 (d : Nat) : List Value := [fo_vi 1, fo_vi (-1), fo_vi 0, fo_vi 0, fo_vi 0, fo_vl none 0 0, Value.map (some d), fo_vl none 0 0]
theorem adh_vc (x : AdhX) (F : Atom) (hc : adhC.cond x) (hr : adhC.rdc x F) :
 fo_sm x.b 1 ∧ fo_Bd (x.left < 1) (Done adhC x F (fo_rt (tuple ⟨[fo_vi 0, fo_vi 112]⟩)) [(0, fo_cl x.b [fo_vl none 0 0, fo_vi x.left] 60), (1, fo_cl x.bo q235 68), (2, F)]) (fo_sm x.b 1 ∧ fo_rI (x.left - 1) ∧ fo_sm x.b 1 ∧ ∀(d : Nat), fo_sm x.bo 6 ∧ fo_sm x.b 0 ∧ ∀(c : Nat), fo_O4 (opIn Tryz.f19 5 7) (apB (61 : TypeId) 1 8) (λb => IsRow 61 1 b.cs b.r ∧ b.ys.length = b.m * 1 ∧ q169 b ∧ (b.r.n + b.m) * 8 ≤ 140737488355328 ∧ b.r.n + b.m ≤ 9223372036854775807 ∧ 0 < b.m ∧ (b.a = none → b.m = 0)) q345 (λb a => (b.cs ++ b.ys ++ a.sp).length = a.cap * 1 ∧ b.r.n + b.m ≤ a.cap) [fo_vl none 0 0, fo_vl (q17 c) 1 1] [fo_em] (fo_aR [(0, fo_cl x.b [fo_vl none 0 0, fo_vi (x.left - 1)] 60), (1, fo_cl x.bo (q241 d) 68), (2, F), (5010, fo_ob d (Obj.map ⟨[]⟩ 0)), (6060, fo_cl c [fo_vp (some ⟨x.bo, 0, none⟩)] 61)] [999]) (λb a => fo_sm x.b 0 ∧ fo_sm x.b 0 ∧ fo_rI ((↑(b.r.n + b.m) : Int) - 1) ∧ Done adhC x F (fo_rt (tuple ⟨[fo_vi ((↑(b.r.n + b.m) : Int) - 1), fo_vi 0]⟩)) [(0, fo_cl x.b [fo_vl (some ⟨a.b, 0, none⟩) (b.r.n + b.m) a.cap, fo_vi (x.left - 1)] 60), (1, fo_cl x.bo (q241 d) 68), (2, F), (999, fo_em), (5010, fo_ob d (Obj.map ⟨[]⟩ 0)), (6060, fo_cl c [fo_vp (some ⟨x.bo, 0, none⟩)] 61), (6070, fo_cl a.b (b.cs ++ b.ys ++ a.sp) 61)])) := by
  delta q235 q169 q206 q345 q17 q241 fo_aR fo_sm fo_rI fo_O4 fo_vi fo_vp fo_vl fo_cl fo_ob fo_em fo_Bd fo_rt
  obtain ⟨b, left, bo⟩ := x
  obtain ⟨h1, h2⟩ := hc
  dsimp only at h1 h2 ⊢
  refine ⟨⟨rfl, rfl⟩, br_decide (λh => absurd h (by omega)) (λ_ => ⟨⟨rfl, rfl⟩, ⟨by omega, by omega⟩, ⟨rfl, rfl⟩, λbm => ⟨⟨rfl, rfl⟩, ⟨rfl, rfl⟩, λd => ⟨appendB_ok (append_ok (P := Tryz.prog) 1 8 rfl rfl rfl rfl rfl rfl rfl (by decide)), rfl, ⟨nilRow, [], some ⟨d, 0, none⟩, 1, 1, [.pointer (some ⟨bo, 0, none⟩)]⟩, rfl, rfl, ⟨.nil rfl, rfl, λu hu => by rw [List.mem_singleton.1 hu] <;> rfl, by dsimp only [nilRow]; omega, by dsimp only [nilRow]; omega, Nat.one_pos, by simp⟩, ?_, ?_⟩⟩⟩)⟩
  · intro a ha
    cases ha
    exact Seg.rest (j := 6060) (by simp) (Seg.cells (λj u hj => by rw [fo_za]; exact hj))
  · rintro ⟨br, cap, sp⟩ ⟨g1, g2⟩
    exact ⟨⟨rfl, rfl⟩, ⟨rfl, rfl⟩, ⟨by dsimp only [nilRow]; omega, by dsimp only [nilRow]; omega⟩, ⟨br, cap, sp, bo, bm, nilRow⟩, rfl, rfl, Ent.pick [0, 6070, 1, 999, 5010, 2] rfl rfl⟩
theorem adh_ok : fo_k 19 adhC := fo 42 Tryz.func19 (λ_ _ => [(4, 1, .n 5010), (5, 6, .n 6060), (5, 7, .o (apB 61 1 8) [999] [6070])]) [(1, 3, OH.q [LH.aq (0 : Nat)]), (3, 3, OH.q [LH.aq (0 : Nat)]), (3, 8, OH.w [LH.aq (0 : Nat)]), (4, 4, OH.w [LH.aq (1 : Nat)]), (5, 4, OH.q [LH.aq (0 : Nat)]), (5, 10, OH.w [LH.aq (0 : Nat)]), (6, 3, OH.q [LH.aq (0 : Nat)])] fo_i fo_i fo_o [] adh_vc
structure PlX where
  b : Nat
  left : Int
abbrev plC : Con where
  X := PlX
  Y := Unit
  args x := [.pointer (some ⟨x.b, 0, none⟩), .int .i64 (-1)]
  pre x := [ho0 x.b x.left]
  cond x := 1 ≤ x.left ∧ x.left ≤ 10000
  rdc _ _ := True
  rel _ _ := True
  val _ _ := .returned (.tuple #[.int .i64 0, .int .i64 0])
  post x _ := [hoA x.b (x.left - 1) []]
abbrev q344 := fo_rt (tuple ⟨[fo_vi 0, fo_vi 0]⟩)
theorem plh_vc (x : PlX) (F : Atom) (hc : plC.cond x) (hr : plC.rdc x F) :
 ∀(c : Nat), fo_C6 19 adhC (λb => 1 ≤ b.left ∧ b.left ≤ 10000) (λ_ a => a.kr = nilRow) [fo_vp (some ⟨x.b, 0, none⟩), fo_vp (q17 c), fo_vi 1] [fo_cl x.b [fo_vl none 0 0, fo_vi x.left] 60, fo_cl c q235 68] (λb a => Done plC x F q344 [(0, fo_cl b.b [fo_vl (some ⟨a.br, 0, none⟩) 1 a.cap, fo_vi (b.left - 1)] 60), (1, F), (4001, fo_cl a.br (fo_vp (some ⟨b.bo, 0, none⟩) :: a.sp) 61), (4002, fo_em), (4003, fo_ob a.bm (Obj.map ⟨[]⟩ 0)), (4030, fo_cl b.bo [fo_vi 1, fo_vi (-1), fo_vi 0, fo_vi 0, fo_vi 0, fo_vl none 0 0, Value.map (some a.bm), fo_vl none 0 0] 68)]) := by
  delta q17 q235 q344 fo_C6 fo_vi fo_vp fo_vl fo_cl fo_ob fo_em fo_rt
  intro bo
  exact ⟨adh_ok, rfl, ⟨x.b, x.left, bo⟩, rfl, rfl, hc, fo_tv, λy _ => ⟨(), fo_tv, rfl, Ent.ex [1] [0, 4001, 4030, 4002, 4003] (R := hoR []) (B := hoB x.b (x.left - 1) []) ⟨y.br, y.cap, y.sp, bo, y.bm, nilRow⟩ (.nil rfl) rfl rfl rfl⟩⟩
theorem plh_ok : fo_k 8 plC := fo 21 Tryz.func8 (λ_ _ => [(3, 3, .n 4030), (3, 4, .c adhC [0, 4030] [0, 4001, 4030, 4002, 4003])]) [] fo_i fo_i fo_o [] plh_vc
def zV : Value := .agg #[.int .i64 0, .float .f64 0, .string ⟨#[]⟩, .int .i64 0]
def hasK (k : ByteArray) (l : KVs) : Bool := l.any λp => bEq p.1 k
def lftV (k : ByteArray) (l : KVs) (left : Int) : Int := bif hasK k l then left else left - 1
def getV (k : ByteArray) (l : KVs) : Option Pv := (l.find? λp => bEq p.1 k).map (·.2)
theorem fk_getV (k : ByteArray) : ∀ (l : KVs) (i : Nat), ((fkS k (mL l) i).map (·.2)) = (getV k l).map Pv.v
  | [], _ => rfl
  | (j, v) :: r, i => by
    have ih := fk_getV k r (i + 1)
    show ((fkS k ((j, v.v) :: mL r) i).map (·.2)) = _
    rw [fkS]
    unfold getV
    have hb : (k == j) = bEq j k := by rw [Bool.eq_iff_iff, ba_eq, bEq_eq]; exact eq_comm
    rw [hb, List.find?_cons]
    cases h : bEq j k with
    | true => rfl
    | false => exact ih
structure LpY where
  k : Int
  f : Nat
  s : ByteArray
  ok : Bool
def lpOf : Option Pv → LpY
  | some p => ⟨p.k, p.f, p.s, true⟩
  | none => ⟨0, 0, ⟨#[]⟩, false⟩
structure LpX where
  b : Nat
  l : KVs
  k : ByteArray
abbrev lkpC : Con where
  X := LpX
  Y := LpY
  args x := [.map (some x.b), .string x.k]
  pre _ := []
  cond _ := True
  rdc x F := MapInS F x.b (mL x.l)
  rel x y := y = lpOf (getV x.k x.l)
  val _ y := .returned (.tuple #[.agg #[.int .i64 y.k, .float .f64 y.f, .string y.s, .int .i64 0], .bool y.ok])
  post _ _ := []
  rmono _ _ _ h hk := hk.sub h
theorem lkp_ok {P : Program} {o : Oper} {t kt e : TypeId} {m k : Operand} {inf : TypeInfo} (ho : o.op = .lookup t m k true) (ht : P.underlying t = some (.map kt e)) (hk : P.underlying kt = some .string) (hi : P.info? e = some inf) (hz : inf.zero = some zV) : OpOk P o lkpC :=
  (lk_okS zV true ho ht hk hi hz).conseq λx F _ hr => ⟨⟨x.b, mL x.l, x.k⟩, fo_tv, hr, rfl, rfl, λ_ _ => by
    have h : getKS (mL x.l) x.k = (getV x.k x.l).map Pv.v := fk_getV x.k x.l 0
    cases hg : getV x.k x.l with
    | none =>
      rw [hg] at h
      exact ⟨⟨0, 0, ⟨#[]⟩, false⟩, by show _ = lpOf (getV x.k x.l); rw [hg] <;> rfl, by show returned (.tuple #[(getKS (mL x.l) x.k).getD zV, .bool (getKS (mL x.l) x.k).isSome]) = _; rw [h] <;> rfl, rfl⟩
    | some p =>
      rw [hg] at h
      exact ⟨⟨p.k, p.f, p.s, true⟩, by show _ = lpOf (getV x.k x.l); rw [hg] <;> rfl, by show returned (.tuple #[(getKS (mL x.l) x.k).getD zV, .bool (getKS (mL x.l) x.k).isSome]) = _; rw [h] <;> rfl, rfl⟩⟩
theorem has_getV (k : ByteArray) (l : KVs) : (getV k l).isSome = hasK k l := by
  unfold getV hasK
  rw [Option.isSome_map, Bool.eq_iff_iff, List.find?_isSome, List.any_eq_true]
theorem lp_ok (k : ByteArray) (l : KVs) : (lpOf (getV k l)).ok = hasK k l := by
  rw [← has_getV]
  cases getV k l <;> rfl
theorem put_new {k : ByteArray} (v : Pv) : ∀ {l : KVs}, hasK k l = false → putV k v l = l ++ [(k, v)]
  | [], _ => rfl
  | (j, u) :: r, h => by
    have h : (bEq j k || hasK k r) = false := h
    rw [Bool.or_eq_false_iff] at h
    have h1 : (j.toList == k.toList) = false := h.1
    rw [putV, h1, fo_cf, put_new v h.2] <;> rfl
theorem put_keys {k : ByteArray} (v : Pv) : ∀ {l : KVs}, hasK k l = true → (putV k v l).map (·.1) = l.map (·.1)
  | [], h => by cases h
  | (j, u) :: r, h => by
    have h : (bEq j k || hasK k r) = true := h
    rw [putV]
    cases h1 : (j.toList == k.toList) with
    | true => rfl
    | false =>
      have h2 : bEq j k = false := h1
      rw [h2, Bool.false_or] at h
      rw [fo_cf, List.map_cons, put_keys v h] <;> rfl
theorem fkS_shift (k : ByteArray) : ∀ (kv : List (ByteArray × Value)) (i : Nat), fkS k kv (i + 1) = (fkS k kv i).map λp => (p.1 + 1, p.2)
  | [], _ => rfl
  | (j, v) :: r, i => by
    rw [fkS, fkS]
    cases (k == j) with
    | true => rfl
    | false => exact fkS_shift k r (i + 1)
theorem put_map (k : ByteArray) (v : Pv) : ∀ (l : KVs), putKS (mL l) k v.v = mL (putV k v l)
  | [] => rfl
  | (j, u) :: r => by
    have ih := put_map k v r
    have hb : (k == j) = (j.toList == k.toList) := by
      have : (j.toList == k.toList) = bEq j k := rfl
      rw [this, Bool.eq_iff_iff, ba_eq, bEq_eq]
      exact eq_comm
    show putKS ((j, u.v) :: mL r) k v.v = _
    unfold putKS at ih ⊢
    rw [fkS, hb, putV]
    cases h : (j.toList == k.toList) with
    | true =>
      have e : j = k := (bEq_eq j k).1 h
      subst e
      rfl
    | false =>
      rw [fo_cf, fo_cf]
      have hs := fkS_shift k (mL r) 0
      rw [hs]
      cases hf : fkS k (mL r) 0 with
      | none => rw [hf] at ih; exact congrArg ((j, u.v) :: ·) ih
      | some p => rw [hf] at ih; exact congrArg ((j, u.v) :: ·) ih
structure PuX where
  b : Nat
  left : Int
  l : KVs
  y : HoY
  k : ByteArray
  v : Pv
structure PuX.ok (x : PuX) : Prop where
  h1 : 1 ≤ x.left
  h2 : x.left ≤ 10000
  hk : x.k.size ≤ 1048576
  hv : x.v.ok
  hl : x.l.length ≤ 10000
abbrev puoC : Con where
  X := PuX
  Y := HoY
  args x := [.pointer (some ⟨x.b, 0, none⟩), .int .i64 0, .string x.k, x.v.v]
  pre x := hoB x.b x.left x.l x.y
  cond x := x.ok ∧ hoR x.l x.y
  rdc _ _ := True
  rel x y := hoR (putV x.k x.v x.l) y
  val _ _ := .returned (.int .i64 0)
  post x y := hoB x.b (lftV x.k x.l x.left) (putV x.k x.v x.l) y
structure Pu2 where
  b : Nat
def puCut (x : PuX) (F : Atom) : Nat → Option Inv := fun
  | 18 => some { X := Pu2, P := λ_ => True, mu := λ_ => 0, lv := λd => [(0, .pointer (some ⟨x.b, 0, none⟩)), (2, .string x.k), (7, .pointer (some ⟨d.b, 0, none⟩)), (9, .pointer (some ⟨x.y.bo, 0, none⟩))], st := λd => hoB x.b x.left x.l x.y ++ [F, .cells d.b [.int .i64 x.v.k, .float .f64 x.v.f, .string x.v.s, .int .i64 0] 30] }
  | _ => none
abbrev q339 (w0 : AtX) := fo_vp (some ⟨w0.p, 0, none⟩)
def T49 := fo_C2 18 at0C (λw0 => 0 < w0.n) (λw0 w1 => Look w1 ⟨w0.b, 0, none⟩ (fo_vl (some ⟨w0.a, 0, none⟩) w0.n w0.c) ∧ Look w1 ⟨w0.a, 0, none⟩ (q339 w0))
abbrev q171 (e0 : PuX) : List Value := [fo_vl (some ⟨e0.y.br, 0, none⟩) 1 e0.y.cap, fo_vi e0.left]
abbrev q140 (e0 : PuX) := fo_vp (some ⟨e0.y.bo, 0, none⟩) :: e0.y.sp
abbrev q44 (x : PuX) : List Value := [fo_vi 1, fo_vi (-1), fo_vi 0, fo_vi 0, fo_vi 0, fo_vl x.y.kr.a x.y.kr.n x.y.kr.cap, Value.map (some x.y.bm), fo_vl none 0 0]
abbrev q63 (x : PuX) : List Value := [fo_vi x.v.k, float f64 x.v.f, fo_vs x.v.s, fo_vi 0]
abbrev q16 (x : PuX) (F : Atom) (p : Nat) := [(0, fo_cl x.b (q171 x) 60), (1, fo_cl x.y.br (q140 x) 61), (2, fo_cl x.y.bo (q44 x) 68), (3, x.y.kr.A), (4, fo_ob x.y.bm (Obj.map ⟨mElS 0 (mL x.l)⟩ (mL x.l).length)), (5, F), (1000, fo_cl p (q63 x) 30)]
abbrev q178 (o : AtX) : List Value := [fo_vp (some ⟨o.p, 0, none⟩), fo_vp none]
abbrev q102 (e0 : PuX) (e1 : Atom) (z : Pu2) := [(0, fo_cl e0.b (q171 e0) 60), (1, fo_cl e0.y.br (q140 e0) 61), (2, fo_cl e0.y.bo (q44 e0) 68), (3, e0.y.kr.A), (4, fo_ob e0.y.bm (Obj.map ⟨mElS 0 (mL e0.l)⟩ (mL e0.l).length)), (5, e1), (6, fo_cl z.b (q63 e0) 30)]
def T50 (e0 : PuX) (e1 : Atom) (v0 v1 : Value) (ss : St) := ∃ (z : Pu2), True ∧ (fo_vp (some ⟨e0.b, 0, none⟩) = fo_vp (some ⟨e0.b, 0, none⟩) ∧ fo_vs e0.k = fo_vs e0.k ∧ v0 = fo_vp (some ⟨z.b, 0, none⟩) ∧ v1 = fo_vp (some ⟨e0.y.bo, 0, none⟩) ∧ True) ∧ Ent ss (q102 e0 e1 z)
def T51 (oo : Oper) := fo_O4 oo lkpC (λ_ => True) (λw1 w2 => MapInS w2 w1.b (mL w1.l)) (λw1 w3 => w3 = lpOf (getV w1.k w1.l))
abbrev q58 (g : LpY) : List Value := [fo_vi g.k, float f64 g.f, fo_vs g.s, fo_vi 0]
def T52 (oo : Oper) := fo_O4 oo (apC (9 : TypeId) 1 16) (λw0 => IsRow 9 1 w0.cs w0.r ∧ w0.ys.length = w0.m * 1 ∧ q293 w0 ∧ (w0.r.n + w0.m) * 16 ≤ 140737488355328 ∧ w0.r.n + w0.m ≤ 9223372036854775807 ∧ q261 w0) q149 (λw0 w3 => IsRow 9 1 (w0.cs ++ w0.ys) w3 ∧ w3.n = w0.r.n + w0.m ∧ (w0.m = 0 → w3 = w0.r))
abbrev q331 (x : PuX) : List Value := [fo_vl (some ⟨x.y.br, 0, none⟩) 1 x.y.cap, fo_vi (x.left - 1)]
def T53 (oo : Oper) := fo_O3 oo muCS (λ_ => True)
theorem pu_vc (x : PuX) (F : Atom) (hc : puoC.cond x) (hr : puoC.rdc x F) :
 ∀(p : Nat), T49 [fo_vp (some ⟨x.b, 0, none⟩), fo_vi 0] (fo_aR (q16 x F p) []) (λo n => T6 (opIn Tryz.f10 2 1) (q178 o) (λm => Br m.a.isNone (Done puoC x F (fo_rt (fo_vi 3)) (q16 x F p)) (fo_sm p 0 ∧ fo_sm p 1 ∧ fo_sm p 2 ∧ fo_sm p 3 ∧ fo_C1 21 riC (λl => l.p.ok) [fo_vp (some ⟨x.b, 0, none⟩), agg ⟨q63 x⟩] (λl k => Same ⟨o.p, 0, none⟩ x.y.bo ∧ fo_C1 24 ioC (λc => c.s.size ≤ 1048576) [fo_vs x.k] (λc b => Br b.snd (Same ⟨o.p, 0, none⟩ x.y.bo ∧ T50 x F (q233 p) (q339 o) (q16 x F p)) (T50 x F (q233 p) (q339 o) (q16 x F p))) ∧ fo_vA λ(j : Pu2) _ => True → fo_sm x.y.bo 6 ∧ T51 ⟨some 101, Op.lookup 65 (Operand.tmp 99) (Operand.tmp 100) true, 76, "esheap.go:226", ⟨[⟨3, Ground.data⟩, ⟨4, Ground.data⟩]⟩, none⟩ [Value.map (some x.y.bm), fo_vs x.k] ([] : List Atom) (fo_aR (q102 x F j) []) (λh g => ∀(f : Nat), fo_sm f 0 ∧ fo_sm f 1 ∧ fo_sm f 2 ∧ fo_sm f 3 ∧ Br (!g.ok) (fo_sm x.b 1 ∧ fo_Bd (x.left < 1) (Done puoC x F (fo_rt (fo_vi 112)) [(0, fo_cl x.b (q171 x) 60), (1, fo_cl x.y.br (q140 x) 61), (2, fo_cl x.y.bo (q44 x) 68), (3, x.y.kr.A), (4, fo_ob x.y.bm (Obj.map ⟨mElS 0 (mL x.l)⟩ (mL x.l).length)), (5, F), (6, fo_cl j.b (q63 x) 30), (19090, fo_cl f (q58 g) 30)]) (fo_sm x.b 1 ∧ fo_rI (x.left - 1) ∧ fo_sm x.b 1 ∧ fo_sm x.y.bo 5 ∧ ∀(e : Nat), T52 (opIn Tryz.f10 23 7) [fo_vl x.y.kr.a x.y.kr.n x.y.kr.cap, fo_vl (q17 e) 1 1] [x.y.kr.A] (fo_aR [(0, fo_cl x.b (q331 x) 60), (1, fo_cl x.y.br (q140 x) 61), (2, fo_cl x.y.bo (q44 x) 68), (3, x.y.kr.A), (4, fo_ob x.y.bm (Obj.map ⟨mElS 0 (mL x.l)⟩ (mL x.l).length)), (5, F), (6, fo_cl j.b (q63 x) 30), (19090, fo_cl f (q58 g) 30), (24060, fo_cl e [fo_vs x.k] 9)] [3]) (λd c => fo_sm x.y.bo 5 ∧ true = true ∧ fo_sm x.y.bo 6 ∧ fo_sm j.b 0 ∧ fo_sm j.b 1 ∧ fo_sm j.b 2 ∧ fo_sm j.b 3 ∧ T53 ⟨none, Op.mapUpdate 65 (Operand.tmp 131) (Operand.tmp 132) (Operand.tmp 133), 0, "esheap.go:233", ⟨[⟨3, Ground.data⟩, ⟨4, Ground.data⟩, ⟨5, Ground.data⟩, ⟨0, Ground.phase⟩, ⟨1, Ground.phase⟩, ⟨2, Ground.phase⟩, ⟨3, Ground.phase⟩, ⟨4, Ground.phase⟩, ⟨5, Ground.phase⟩]⟩, none⟩ [Value.map (some x.y.bm), fo_vs x.k, agg ⟨q63 x⟩] [fo_ob x.y.bm (Obj.map ⟨mElS 0 (mL x.l)⟩ (mL x.l).length)] (λb a => Done puoC x F (fo_rt (fo_vi 0)) [(0, fo_cl x.b (q331 x) 60), (1, fo_cl x.y.br (q140 x) 61), (2, fo_cl x.y.bo [fo_vi 1, fo_vi (-1), fo_vi 0, fo_vi 0, fo_vi 0, fo_vl c.a c.n c.cap, Value.map (some x.y.bm), fo_vl none 0 0] 68), (3, c.A), (4, fo_ob b.b (Obj.map ⟨mElS 0 (putKS b.kv b.k b.v)⟩ (putKS b.kv b.k b.v).length)), (5, F), (6, fo_cl j.b (q63 x) 30), (19090, fo_cl f (q58 g) 30), (24060, fo_cl e [fo_vs x.k] 9)])))) (true = true ∧ fo_sm x.y.bo 6 ∧ fo_sm j.b 0 ∧ fo_sm j.b 1 ∧ fo_sm j.b 2 ∧ fo_sm j.b 3 ∧ T53 ⟨none, Op.mapUpdate 65 (Operand.tmp 131) (Operand.tmp 132) (Operand.tmp 133), 0, "esheap.go:233", ⟨[⟨3, Ground.data⟩, ⟨4, Ground.data⟩, ⟨5, Ground.data⟩, ⟨0, Ground.phase⟩, ⟨1, Ground.phase⟩, ⟨2, Ground.phase⟩, ⟨3, Ground.phase⟩, ⟨4, Ground.phase⟩, ⟨5, Ground.phase⟩]⟩, none⟩ [Value.map (some x.y.bm), fo_vs x.k, agg ⟨q63 x⟩] [fo_ob x.y.bm (Obj.map ⟨mElS 0 (mL x.l)⟩ (mL x.l).length)] (λb a => Done puoC x F (fo_rt (fo_vi 0)) [(0, fo_cl x.b (q171 x) 60), (1, fo_cl x.y.br (q140 x) 61), (2, fo_cl x.y.bo (q44 x) 68), (3, x.y.kr.A), (4, fo_ob b.b (Obj.map ⟨mElS 0 (putKS b.kv b.k b.v)⟩ (putKS b.kv b.k b.v).length)), (5, F), (6, fo_cl j.b (q63 x) 30), (19090, fo_cl f (q58 g) 30)]))))))) := by
  delta q339 T49 q171 q140 q44 q63 q16 T6 q178 q102 T50 q17 q233 T51 q58 q293 q261 q149 T52 q331 T53 fo_aR fo_sm fo_rI fo_C1 fo_C2 fo_O3 fo_O4 fo_vi fo_vs fo_vp fo_vl fo_cl fo_ob fo_Bd fo_rt fo_vA
  obtain ⟨b, left, l, ⟨br, cap, sp, bo, bm, kr⟩, k, v⟩ := x
  obtain ⟨⟨h1, h2, h3, h4, h5⟩, hR⟩ := hc
  have hR : IsRow 9 1 (ksL l) kr := hR
  dsimp only at h1 h2 h3 h4 h5 ⊢
  have hn := hR.len
  rw [show (ksL l).length = l.length by unfold ksL; rw [strs_length, List.length_map]] at hn
  intro d
  refine ⟨at0_ok, rfl, ⟨b, br, 1, cap, bo⟩, rfl, rfl, Nat.one_pos, ⟨Look.rest (j := 0) (by simp) (Look.cells rfl), Look.rest (j := 1) (by simp) (Look.cells rfl)⟩, λ_ _ => ⟨pn_ok rfl rfl, ⟨some ⟨bo, 0, none⟩⟩, rfl, fo_tv, br_intro (λh => by cases h) (λ_ => ⟨⟨rfl, rfl⟩, ⟨rfl, rfl⟩, ⟨rfl, rfl⟩, ⟨rfl, rfl⟩, ri_ok, rfl, ⟨b, v⟩, rfl, rfl, h4, fo_tv, λ_ _ => ⟨⟨rfl, rfl⟩, ⟨io_ok, rfl, ⟨k⟩, rfl, rfl, h3, fo_tv, λy _ => br_intro (λ_ => ⟨⟨rfl, rfl⟩, ⟨d⟩, fo_tv, ⟨rfl, rfl, rfl, rfl, fo_tv⟩, Ent.pick [0, 1, 2, 3, 4, 5, 1000] rfl rfl⟩) (λ_ => ⟨⟨d⟩, fo_tv, ⟨rfl, rfl, rfl, rfl, fo_tv⟩, Ent.pick [0, 1, 2, 3, 4, 5, 1000] rfl rfl⟩)⟩, ?_⟩⟩)⟩⟩
  rintro ⟨d⟩ js _
  refine ⟨⟨rfl, rfl⟩, lkp_ok rfl rfl rfl rfl (by kernel_rfl), rfl, ⟨bm, l, k⟩, rfl, rfl, fo_tv, ⟨λ_ _ _ _ h => ?_⟩, λy hy => ?_⟩
  · obtain ⟨f, g, _⟩ := h
    have := g 4
    exact this.2
  have hmap := put_map k v l
  have hyok : y.ok = hasK k l := by rw [show y = lpOf (getV k l) from hy]; exact lp_ok k l
  intro c
  refine ⟨⟨rfl, rfl⟩, ⟨rfl, rfl⟩, ⟨rfl, rfl⟩, ⟨rfl, rfl⟩, br_intro (λe => ⟨⟨rfl, rfl⟩, br_decide (λq => absurd q (by omega)) (λ_ => ⟨⟨rfl, rfl⟩, ⟨by omega, by omega⟩, ⟨rfl, rfl⟩, ⟨rfl, rfl⟩, λg => ⟨append_ok (P := Tryz.prog) 1 16 rfl rfl rfl rfl rfl rfl rfl (by decide), rfl, ⟨kr, ksL l, some ⟨g, 0, none⟩, 1, 1, [.string k]⟩, rfl, rfl, ⟨hR, rfl, λu hu => by rw [List.mem_singleton.1 hu] <;> rfl, by dsimp only; omega, by dsimp only; omega, by simp⟩, ?_, ?_⟩⟩)⟩) (λe => ?_)⟩
  · intro a ha
    cases ha
    exact Seg.rest (j := 24060) (by simp) (Seg.cells (λj u hj => by rw [fo_za]; exact hj))
  · rintro y2 ⟨g1, g2, -⟩
    have hno : hasK k l = false := by rw [← hyok]; simpa using e
    have hk : ksL l ++ [string k] = ksL (putV k v l) := by rw [put_new v hno]; unfold ksL strs; simp
    have hlf : lftV k l left = left - 1 := by unfold lftV; rw [hno] <;> rfl
    have g1 : IsRow 9 1 (ksL l ++ [string k]) y2 := g1
    rw [hk] at g1
    exact ⟨⟨rfl, rfl⟩, rfl, ⟨rfl, rfl⟩, ⟨rfl, rfl⟩, ⟨rfl, rfl⟩, ⟨rfl, rfl⟩, ⟨rfl, rfl⟩, mu_okS rfl rfl rfl, rfl, ⟨bm, mL l, k, v.v⟩, rfl, rfl, fo_tv, fo_tv, λ_ _ => ⟨⟨br, cap, sp, bo, bm, y2⟩, g1, rfl, Ent.pick [0, 1, 2, 3, 4, 5] rfl (by simp only [puoC, hoB, hlf, ← hmap]; rfl)⟩⟩
  · have hyes : hasK k l = true := by rw [← hyok]; simpa using e
    have hk : ksL l = ksL (putV k v l) := by unfold ksL; rw [put_keys v hyes]
    have hlf : lftV k l left = left := by unfold lftV; rw [hyes] <;> rfl
    rw [hk] at hR
    exact ⟨rfl, ⟨rfl, rfl⟩, ⟨rfl, rfl⟩, ⟨rfl, rfl⟩, ⟨rfl, rfl⟩, ⟨rfl, rfl⟩, mu_okS rfl rfl rfl, rfl, ⟨bm, mL l, k, v.v⟩, rfl, rfl, fo_tv, fo_tv, λ_ _ => ⟨⟨br, cap, sp, bo, bm, kr⟩, hR, rfl, Ent.pick [0, 1, 2, 3, 4, 5] rfl (by simp only [puoC, hoB, hlf, ← hmap]; rfl)⟩⟩
theorem pu_ok : fo_k 10 puoC := fo 134 Tryz.func10 (λ_ _ => [(0, 0, .n 1000), (1, 2, .c at0C [] []), (2, 1, .qo pnC), (4, 1, .q [.aq 1000, .aq 1000, .aq 1000, .aq 1000]), (4, 2, .c riC [] []), (6, 3, .q [.aq 2]), (10, 1, .c ioC [] []), (11, 5, .q [.aq 2]), (18, 3, .q [.aq 2]), (18, 5, .o lkpC [] []), (18, 9, .n 19090), (18, 10, .w [.aq 19090, .aq 19090, .aq 19090, .aq 19090]), (20, 3, .q [.aq 0]), (22, 3, .q [.aq 0]), (22, 7, .w [.aq 0]), (23, 4, .q [.aq 2]), (23, 6, .n 24060), (23, 7, .o (apC 9 1 16) [3] [3]), (24, 3, .q [.aq 2]), (24, 5, .q [.aq 6, .aq 6, .aq 6, .aq 6]), (24, 6, .o muCS [4] [4])]) [(23, 10, OH.w [LH.aq (2 : Nat)])] fo_i puCut fo_o [] pu_vc
end
section
open Go
set_option maxHeartbeats 1000000
structure Blk4 (F : Atom) (b : Nat) (t : TypeId) : Prop where
  h : ∀ (I : Imm) (m : Hp) (o : Own), F.holds I m o → ∃ vs : List Value, m b = some (.cells ⟨vs⟩ t (0, 0)) ∧ vs.length = 4
theorem Blk4.sub {A B : Atom} {b : Nat} {t : TypeId} (hs : Sub A B) (h : Blk4 A b t) : Blk4 B b t := ⟨λI m o hB => let ⟨o', hA⟩ := hs I m o hB; h.h I m o' hA⟩
theorem Blk4.cells {b : Nat} {t : TypeId} (u v w z : Value) : Blk4 (.cells b [u, v, w, z] t) b t := ⟨λ_ _ _ h => ⟨_, h.2, rfl⟩⟩
theorem Blk4.get {I : Imm} {S : St} {w : World} {j b : Nat} {t : TypeId} (h : Blk4 (gt S j) b t) (hs : Sat I S w) : ∃ vs : List Value, w.heap[b]? = some (.cells ⟨vs⟩ t (0, 0)) ∧ vs.length = 4 := by
  obtain ⟨f, h1, _⟩ := hs.own
  exact h.h _ _ _ (h1 j)
abbrev cv4C (t : TypeId) : Con where
  X := BdX
  Y := Unit
  args x := [.pointer (some ⟨x.b, 1, none⟩)]
  pre _ := []
  cond _ := True
  rdc x F := Blk4 F x.b t
  rel _ _ := True
  val x _ := .returned (.pointer (some ⟨x.b, 1, none⟩))
  post _ _ := []
  rmono _ _ _ hs h := h.sub hs
section
variable {P : Program}
theorem cv4U_ok {o : Oper} {src dst t u : TypeId} {j : TypeInfo} {x : Operand} (ho : o.op = .convert src dst x) (hs : P.underlying src = some (.pointer t)) (hd : P.underlying dst = some .unsafePointer) (ht : P.info? t = some j) (hj : j.size ≠ 0) : OpOk P o (cv4C u) := by
  refine ⟨λy F I w ρ ha hc hr hsat => ?_⟩
  obtain ⟨b⟩ := y
  simp only [ho, Op.operands, cv4C] at ha
  have ha2 : ρ x = .pointer (some ⟨b, 1, none⟩) := by simpa using ha
  obtain ⟨vs, hblk, hc⟩ := Blk4.get (j := 0) (show Blk4 (gt (ofL [F]) 0) b u from hr) hsat
  have hrun := Lib.run_to_unsafe (P := P) w ⟨b, 1, none⟩ hs hd ht hj (e := u) (cells := 4) (by simp [World.shape?, hblk, hc]) (show (1 : Nat) < 4 by decide)
  refine ⟨(), I, w, _, fo_tv, .inl ?_, rfl, Imm.le_refl I, hsat, Env.refl w⟩
  simp only [execOp, ho, ha2]
  show ((convert src dst _) >>= λv => (pure (Next.value v) : Sem Next)).run P w = _
  rw [Sem.run_bind, hrun] <;> rfl
theorem cv4B_ok {o : Oper} {src dst t u : TypeId} {j : TypeInfo} {x : Operand} (ho : o.op = .convert src dst x) (hs : P.underlying src = some .unsafePointer) (hd : P.underlying dst = some (.pointer t)) (ht : P.info? t = some j) (hl : liesAt P P.depth u (4 / P.cellsOf u) 1 t 1 = true) : OpOk P o (cv4C u) := by
  refine ⟨λy F I w ρ ha hc hr hsat => ?_⟩
  obtain ⟨b⟩ := y
  simp only [ho, Op.operands, cv4C] at ha
  have ha2 : ρ x = .pointer (some ⟨b, 1, none⟩) := by simpa using ha
  obtain ⟨vs, hblk, hc⟩ := Blk4.get (j := 0) (show Blk4 (gt (ofL [F]) 0) b u from hr) hsat
  have hrun := Lib.run_from_unsafe (P := P) w ⟨b, 1, none⟩ hs hd ht (e := u) (cells := 4) (by simp [World.shape?, hblk, hc]) hl
  refine ⟨(), I, w, _, fo_tv, .inl ?_, rfl, Imm.le_refl I, hsat, Env.refl w⟩
  simp only [execOp, ho, ha2]
  show ((convert src dst _) >>= λv => (pure (Next.value v) : Sem Next)).run P w = _
  rw [Sem.run_bind, hrun] <;> rfl
end
structure Cc4X where
  b : Nat
  u : Value
  p : Option Addr
  v : Value
  z : Value
abbrev cc4C : Con where
  X := Cc4X
  Y := Unit
  args x := [.pointer (some ⟨x.b, 1, none⟩)]
  pre x := [.cells x.b [x.u, .pointer x.p, x.v, x.z] 84]
  cond x := x.p = none ∨ x.p = some ⟨x.b, 1, none⟩
  rdc _ _ := True
  rel _ _ := True
  val _ _ := .returned (.tuple #[])
  post x _ := [.cells x.b [x.u, .pointer (some ⟨x.b, 1, none⟩), x.v, x.z] 84]
def T54 (oo : Oper) := fo_O2 oo (cv4C (84 : TypeId)) (λ_ => True) (λw1 w2 => Blk4 w2 w1.b 84)
abbrev q287 (x : Cc4X) (F : Atom) := [(0, fo_cl x.b [x.u, fo_vp x.p, x.v, x.z] 84), (1, F)]
theorem cc4_vc (x : Cc4X) (F : Atom) (hc : cc4C.cond x) (hr : cc4C.rdc x F) :
 fo_sm x.b 1 ∧ T6 (opIn Tryz.f167 0 4) [fo_vp x.p, fo_vp none] (λf => Br f.a.isNone (T54 (opIn Tryz.f167 1 2) [fo_vp (some ⟨x.b, 1, none⟩)] (fo_aR (q287 x F) []) (λe d => T8 (opIn Tryz.f167 1 3) [func (Fn.func 206) ⟨[]⟩ ⟨[]⟩, fo_vp (some ⟨e.b, 1, none⟩)] (λc => T54 (opIn Tryz.f167 1 4) [fo_vp c.a] (fo_aR (q287 x F) []) (λb a => fo_sm x.b 1 ∧ Done cc4C x F q74 [(0, fo_cl x.b [x.u, fo_vp (some ⟨b.b, 1, none⟩), x.v, x.z] 84), (1, F)])))) (fo_sm x.b 1 ∧ T9 (opIn Tryz.f167 2 5) [fo_vp x.p, fo_vp (some ⟨x.b, 1, none⟩)] (λa => Done cc4C x F q74 (q287 x F)))) := by
  delta T6 T54 q287 T8 q74 T9 fo_aR fo_sm fo_O2 fo_vp fo_cl fo_rt
  have hb2 : Blk4 (.pred (rest [(0, Atom.cells x.b [x.u, pointer x.p, x.v, x.z] 84), (1, F)] [])) x.b 84 := (Blk4.cells _ _ _ _).sub (sub_rest 0 (by simp) rfl)
  refine ⟨⟨rfl, rfl⟩, pn_ok rfl rfl, ⟨x.p⟩, rfl, fo_tv, br_intro (λh => ?_) (λh => ?_)⟩
  · exact ⟨cv4U_ok rfl rfl rfl rfl (by decide), rfl, ⟨x.b⟩, rfl, rfl, fo_tv, hb2, λ_ _ => ⟨ne_ok rfl rfl rfl rfl rfl (by kernel_rfl), ⟨some ⟨x.b, 1, none⟩⟩, rfl, fo_tv, cv4B_ok rfl rfl rfl rfl (by kernel_rfl), rfl, ⟨x.b⟩, rfl, rfl, fo_tv, hb2, λ_ _ => ⟨⟨rfl, rfl⟩, (), fo_tv, rfl, Ent.pick [0, 1] rfl rfl⟩⟩⟩
  · have hp : x.p = some ⟨x.b, 1, none⟩ := by
      rcases hc with hc | hc
      · rw [show x.p = none from hc] at h; cases h
      · exact hc
    exact ⟨⟨rfl, rfl⟩, ps_ok rfl rfl rfl, ⟨⟨x.b, 1, none⟩⟩, by rw [hp], fo_tv, (), fo_tv, rfl, Ent.pick [0, 1] rfl (by rw [hp] <;> rfl)⟩
theorem cc4_ok : fo_k 167 cc4C := fo 20 Tryz.func167 (λ_ _ => [(0, 4, .qo pnC), (2, 5, .qo psC), (1, 2, .o (cv4C 84) [] []), (1, 3, .qo (neC 206)), (1, 4, .o (cv4C 84) [] [])]) [(0, 3, OH.q [LH.aq (0 : Nat)]), (1, 7, OH.w [LH.aq (0 : Nat)]), (2, 3, OH.q [LH.aq (0 : Nat)])] fo_i fo_i fo_o [] cc4_vc
structure Bw4X where
  b : Nat
  u : Value
  p : Option Addr
  r : Row
  z : Value
  t : ByteArray
  s : ByteArray
abbrev ws4C : Con where
  X := Bw4X
  Y := Row
  args x := [.pointer (some ⟨x.b, 1, none⟩), .string x.s]
  pre x := [.cells x.b [x.u, .pointer x.p, .slice x.r.a x.r.n x.r.cap, x.z] 84, x.r.A]
  cond x := (x.p = none ∨ x.p = some ⟨x.b, 1, none⟩) ∧ BRow 5 x.t x.r ∧ x.r.n + x.s.size ≤ 140737488355328
  rdc _ _ := True
  rel x r := BRow 5 (x.t ++ x.s) r
  val x _ := .returned (.tuple #[.int .i64 x.s.size, .nilIface])
  post x r := [.cells x.b [x.u, .pointer (some ⟨x.b, 1, none⟩), .slice r.a r.n r.cap, x.z] 84, r.A]
def ws4Cut (x : Bw4X) (F : Atom) : Nat → Option Inv := fun
  | 2 => some { X := Unit, P := λ_ => True, mu := λ_ => 0, lv := λ_ => [(0, .pointer (some ⟨x.b, 1, none⟩)), (1, .string x.s)], st := λ_ => [.cells x.b [x.u, .pointer (some ⟨x.b, 1, none⟩), .slice x.r.a x.r.n x.r.cap, x.z] 84, x.r.A, F] }
  | _ => none
abbrev q313 (x : Bw4X) : Option Addr := some ⟨x.b, 1, none⟩
theorem ws4_vc (x : Bw4X) (F : Atom) (hc : ws4C.cond x) (hr : ws4C.rdc x F) :
 fo_C3 167 cc4C (λc => (c.p = none ∨ c.p = some ⟨c.b, 1, none⟩)) [fo_vp (q313 x)] [fo_cl x.b [x.u, fo_vp x.p, fo_vl x.r.a x.r.n x.r.cap, x.z] 84] (λc b => ∃(a : Unit), True ∧ (fo_vp (q313 x) = fo_vp (q313 x) ∧ fo_vs x.s = fo_vs x.s ∧ True) ∧ Ent [(0, fo_cl c.b [c.u, fo_vp (some ⟨c.b, 1, none⟩), c.v, c.z] 84), (1, x.r.A), (2, F)] [(0, fo_cl x.b [x.u, fo_vp (q313 x), fo_vl x.r.a x.r.n x.r.cap, x.z] 84), (1, x.r.A), (2, F)]) ∧ fo_vA λ(d : Unit) _ => True → fo_sm x.b 2 ∧ T11 (opIn Tryz.f113 2 6) [fo_vl x.r.a x.r.n x.r.cap, fo_vs x.s] [x.r.A] (λb a => fo_sm x.b 2 ∧ Done ws4C x F (fo_rt (tuple ⟨[fo_vi ↑x.s.size, nilIface]⟩)) [(0, fo_cl x.b [x.u, fo_vp (q313 x), fo_vl a.a a.n a.cap, x.z] 84), (1, a.A), (2, F)]) := by
  delta q313 T11 fo_sm fo_C3 fo_O6 fo_vi fo_vs fo_vp fo_vl fo_cl fo_rt fo_vA
  obtain ⟨hp, hrow, hs⟩ := hc
  refine ⟨⟨cc4_ok, rfl, ⟨x.b, x.u, x.p, .slice x.r.a x.r.n x.r.cap, x.z⟩, rfl, rfl, hp, fo_tv, λ_ _ => ⟨(), fo_tv, ⟨rfl, rfl, fo_tv⟩, Ent.pick [0, 1, 2] rfl rfl⟩⟩, ?_⟩
  intro _ js _
  exact ⟨⟨rfl, rfl⟩, aps_ok rfl rfl rfl rfl rfl rfl rfl rfl, rfl, ⟨x.r, x.t, x.s⟩, rfl, rfl, ⟨hrow, hs⟩, fo_tv, λr hr => ⟨⟨rfl, rfl⟩, r, hr, rfl, Ent.pick [0, 1, 2] rfl rfl⟩⟩
theorem ws4_ok : fo_k 113 ws4C := fo 19 Tryz.func113 (λ_ _ => [(1, 1, .c cc4C [0] [0]), (2, 6, .o (apsC 5) [1] [1])]) [(2, 4, OH.q [LH.aq (0 : Nat)]), (2, 9, OH.w [LH.aq (0 : Nat)])] fo_i ws4Cut fo_o [] ws4_vc
abbrev bs4C : Con where
  X := Bw4X
  Y := Unit
  args x := [.pointer (some ⟨x.b, 1, none⟩)]
  pre x := [.cells x.b [x.u, .pointer x.p, .slice x.r.a x.r.n x.r.cap, x.z] 84, x.r.A]
  cond x := BRow 5 x.t x.r ∧ x.t.size ≤ 140737488355328
  rdc _ _ := True
  rel _ _ := True
  val x _ := .returned (.string x.t)
  post x _ := [.cells x.b [x.u, .pointer x.p, .slice x.r.a x.r.n x.r.cap, x.z] 84, .emp]
theorem bs4_vc (x : Bw4X) (F : Atom) (hc : bs4C.cond x) (hr : bs4C.rdc x F) :
 true = true ∧ fo_sm x.b 2 ∧ T12 (opIn Tryz.f29 1 4) [fo_vl x.r.a x.r.n x.r.cap] (λc => fo_sm x.b 2 ∧ T13 (opIn Tryz.f29 1 10) [fo_vp c.a, fo_vi ↑x.r.n] [x.r.A] (λb a => Done bs4C x F (fo_rt (fo_vs b.p)) [(0, fo_cl x.b [x.u, fo_vp x.p, fo_vl x.r.a x.r.n x.r.cap, x.z] 84), (1, fo_em), (2, F)])) := by
  delta T12 T13 fo_sm fo_O3 fo_vi fo_vs fo_vp fo_vl fo_cl fo_em fo_rt
  obtain ⟨hrow, hs⟩ := hc
  exact ⟨rfl, ⟨rfl, rfl⟩, usd_ok rfl, ⟨x.r.a, x.r.n, x.r.cap⟩, rfl, hrow.2, ⟨rfl, rfl⟩, ust_ok rfl rfl (by kernel_rfl), rfl, ⟨x.r, x.t⟩, rfl, rfl, ⟨hrow, by dsimp only; omega⟩, fo_tv, λ_ _ => ⟨(), fo_tv, rfl, Ent.pick [0, 1, 2] rfl rfl⟩⟩
theorem bs4_ok : fo_k 29 bs4C := fo 14 Tryz.func29 (λ_ _ => [(1, 4, .qo usdC), (1, 10, .o (ustC 5) [1] [1])]) [(1, 3, OH.q [LH.aq (0 : Nat)]), (1, 8, OH.q [LH.aq (0 : Nat)])] fo_i fo_i fo_o [] bs4_vc
abbrev ln4C : Con where
  X := Bw4X
  Y := Unit
  args x := [.pointer (some ⟨x.b, 1, none⟩)]
  pre x := [.cells x.b [x.u, .pointer x.p, .slice x.r.a x.r.n x.r.cap, x.z] 84, x.r.A]
  cond x := BRow 5 x.t x.r
  rdc _ _ := True
  rel _ _ := True
  val x _ := .returned (.int .i64 x.t.size)
  post x _ := [.cells x.b [x.u, .pointer x.p, .slice x.r.a x.r.n x.r.cap, x.z] 84, x.r.A]
theorem ln4_vc (x : Bw4X) (F : Atom) (hc : ln4C.cond x) (hr : ln4C.rdc x F) :
 fo_sm x.b 2 ∧ Done ln4C x F (fo_rt (fo_vi ↑x.r.n)) [(0, fo_cl x.b [x.u, fo_vp x.p, fo_vl x.r.a x.r.n x.r.cap, x.z] 84), (1, x.r.A), (2, F)] := by
  delta fo_sm fo_vi fo_vp fo_vl fo_cl fo_rt
  have hc : BRow 5 x.t x.r := hc
  exact ⟨⟨rfl, rfl⟩, (), fo_tv, retI (by rw [hc.size]), Ent.pick [0, 1, 2] rfl rfl⟩
theorem ln4_ok : fo_k 115 ln4C := fo 8 Tryz.func115 (λ_ _ => []) [(1, 3, OH.q [LH.aq (0 : Nat)])] fo_i fo_i fo_o [] ln4_vc
structure JwY where
  p : Option Addr
  r : Row
structure JwX where
  b : Nat
  h : Addr
  a : Option Addr
  n : Nat
  c : Nat
def JwX.R (x : JwX) (t : ByteArray) (y : JwY) : Prop := (y.p = none ∨ y.p = some ⟨x.b, 1, none⟩) ∧ BRow 5 t y.r
def JwX.B (x : JwX) (y : JwY) : List Atom := [.cells x.b [.pointer (some x.h), .pointer y.p, .slice y.r.a y.r.n y.r.cap, .slice x.a x.n x.c] 84, y.r.A]
def jwA (x : JwX) (t : ByteArray) : Atom := exA (x.R t) x.B
theorem ex_look {Y : Type} {R : Y → Prop} {B : Y → List Atom} {a : Addr} {v : Value} (i : Nat) (h : ∀ y, ∃ A, (B y)[i]? = some A ∧ Look A a v) : Look (exA R B) a v := ⟨λI h' o hc ⟨y, _, hB⟩ => by
  obtain ⟨A, h1, h2⟩ := h y
  exact (Look.bag i h1 h2).h I h' o hc hB⟩
theorem jw_look0 (x : JwX) (t : ByteArray) : Look (jwA x t) ⟨x.b, 0, none⟩ (.pointer (some x.h)) := ex_look 0 λ_ => ⟨_, rfl, Look.cells rfl⟩
theorem jw_look3 (x : JwX) (t : ByteArray) : Look (jwA x t) ⟨x.b, 3, none⟩ (.slice x.a x.n x.c) := ex_look 0 λ_ => ⟨_, rfl, Look.cells rfl⟩
structure SjX where
  j : JwX
  t : ByteArray
  a : Option Addr
  n : Nat
  c : Nat
abbrev stJ : Con where
  X := SjX
  Y := Unit
  args x := [.pointer (some ⟨x.j.b, 3, none⟩), .slice x.a x.n x.c]
  pre x := [jwA x.j x.t]
  cond _ := True
  rdc _ _ := True
  rel _ _ := True
  val _ _ := .returned undef
  post x _ := [jwA { x.j with a := x.a, n := x.n, c := x.c } x.t]
theorem stj_ok {P : Program} {o : Oper} {a v : Operand} {t : TypeId} {inf : TypeInfo} (ho : o.op = .store t a v) (hi : P.info? t = some inf) (hk : inf.size = 1) : OpOk P o stJ := by
  refine ⟨λx F I w ρ ha hc hr hs => ?_⟩
  obtain ⟨j, tx, sa, sn, sc⟩ := x
  simp only [ho, Op.operands, stJ] at ha
  have ha2 : ρ a = .pointer (some ⟨j.b, 3, none⟩) ∧ ρ v = .slice sa sn sc := by simpa using ha
  obtain ⟨y, hy, hs⟩ := ex_open (show Sat I (ofL [exA (j.R tx) j.B, F]) w from hs)
  have hs : Sat I (ofL [.cells j.b [.pointer (some j.h), .pointer y.p, .slice y.r.a y.r.n y.r.cap, .slice j.a j.n j.c] 84, y.r.A, F]) w := hs
  have hblk := hs.cells (j := 0) rfl
  have hst := run_storeCells_at P j.b 3 84 [.slice sa sn sc] 0 ⟨[.pointer (some j.h), .pointer y.p, .slice y.r.a y.r.n y.r.cap, .slice j.a j.n j.c]⟩ w hblk (by simp) (by simp [Value.oneCell'])
  simp only [Nat.add_zero, fo_l1] at hst
  have h2 := hs.setRow (j := 0) (b := j.b) (vs' := [.pointer (some j.h), .pointer y.p, .slice y.r.a y.r.n y.r.cap, .slice sa sn sc]) rfl
  have h3 : Sat I (ofL ([.cells j.b [.pointer (some j.h), .pointer y.p, .slice y.r.a y.r.n y.r.cap, .slice sa sn sc] 84, y.r.A] ++ [F])) (w.setRow j.b ⟨[.pointer (some j.h), .pointer y.p, .slice y.r.a y.r.n y.r.cap, .slice sa sn sc]⟩) := h2.pick [0, 1, 2] rfl rfl
  refine ⟨(), I, _, undef, fo_tv, .inr ⟨?_, rfl⟩, rfl, Imm.le_refl I, ex_shut (R := JwX.R { j with a := sa, n := sn, c := sc } tx) (B := JwX.B { j with a := sa, n := sn, c := sc }) (y := y) hy h3, rfl, rfl⟩
  simp [execOp, ho, ha2.1, ha2.2, Instr.storeAt, Instr.sureAddr, storeVar, sizeOf, typeInfo, hi, hk, Value.cells, hst]
end
end Go.Proofs.YtjdabjmjldiodaaGreatDoor
