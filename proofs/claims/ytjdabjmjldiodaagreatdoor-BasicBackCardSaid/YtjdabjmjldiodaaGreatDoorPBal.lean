/- A part of the proof that pennantlaw23.BasicBack answers true at every input. -/
import Derived.Test.YtjdabjmjldiodaaGreatDoorPBak
set_option linter.all false
namespace Go.Proofs.YtjdabjmjldiodaaGreatDoor
set_option maxRecDepth 100000
open Go.Value (int slice string bool pointer agg tuple func float iface nilIface)
open Go.IntKind (i64 u8 u64 i32 u32 u16 i8 i16)
open Go.FloatKind (f64)
open Go.Ending (returned panicked)
section
open Go
set_option maxHeartbeats 1000000
def hexU (n : Nat) : Nat := bif decide (n < 10) then 48 + n else 55 + n
def cdK (c : Nat) : Bool := ((decide (97 ≤ c) && decide (c ≤ 122)) || (decide (65 ≤ c) && decide (c ≤ 90))) || ((decide (48 ≤ c) && decide (c ≤ 57)) || (c == 42 || (c == 45 || (c == 46 || c == 95))))
def cdB (c : Nat) : List Nat := bif cdK c then [c] else bif c == 32 then [43] else [37, hexU (c / 16), hexU (c % 16)]
def cdF (s : ByteArray) : Nat → ByteArray
  | 0 => ⟨#[]⟩
  | i + 1 => cdF s i ++ btL (cdB (bt s i))
def cdV (s : ByteArray) : ByteArray := cdF s s.size
theorem cdF_size (s : ByteArray) : ∀ i, (cdF s i).size ≤ 3 * i
  | 0 => fo_nr _
  | i + 1 => by
    have h := cdF_size s i
    have h2 : (cdB (bt s i)).length ≤ 3 := by
      unfold cdB
      cases cdK (bt s i) with
      | true => exact (by decide : 1 ≤ 3)
      | false =>
        cases (bt s i == 32) with
        | true => exact (by decide : 1 ≤ 3)
        | false => exact fo_nr _
    rw [cdF, sz_app]
    omega
def hxcT : ByteArray := ⟨#[48, 49, 50, 51, 52, 53, 54, 55, 56, 57, 65, 66, 67, 68, 69, 70]⟩
theorem hxcT_at : ∀ n : Fin 16, (hxcT.extract n.val (n.val + 1)).data.toList = (btL [hexU n.val]).data.toList := by decide +kernel
theorem hxcT_ext {n : Nat} (h : n < 16) : hxcT.extract n (n + 1) = btL [hexU n] := ba_list (hxcT_at ⟨n, h⟩)
theorem cd_hi : ∀ c : Fin 256, (c.val : Int).fdiv (2 ^ min (Int.toNat 4) u8.bits) = ((c.val / 16 : Nat) : Int) ∧ u8.wrap (((c.val / 16 : Nat) : Int) + 1) = ((c.val / 16 + 1 : Nat) : Int) ∧ u8.wrap (↑(BitVec.ofInt u8.bits (c.val : Int) &&& BitVec.ofInt u8.bits 15).toNat : Int) = ((c.val % 16 : Nat) : Int) ∧ u8.wrap (((c.val % 16 : Nat) : Int) + 1) = ((c.val % 16 + 1 : Nat) : Int) := by decide +kernel
theorem cd_ib : ∀ c : Fin 256, decide (Lib.indexByte [42, 45, 46, 95] (UInt8.ofNat c.val) ≥ 0) = (c.val == 42 || (c.val == 45 || (c.val == 46 || c.val == 95))) := by decide +kernel
theorem cdK1 {c : Nat} (a : 97 ≤ c) (b : c ≤ 122) : cdK c = true := by unfold cdK; rw [fo_dt a, fo_dt b] <;> rfl
theorem cdK2 {c : Nat} (a : 65 ≤ c) (b : c ≤ 90) : cdK c = true := by unfold cdK; rw [fo_dt a, fo_dt b]; simp
theorem cdK3 {c : Nat} (a : 48 ≤ c) (b : c ≤ 57) : cdK c = true := by unfold cdK; rw [fo_dt a, fo_dt b]; simp
theorem cdK4 {c : Nat} (hc : c < 256) (a : ¬ (97 ≤ c ∧ c ≤ 122)) (b : ¬ (65 ≤ c ∧ c ≤ 90)) (d : ¬ (48 ≤ c ∧ c ≤ 57)) : decide (Lib.indexByte [42, 45, 46, 95] (UInt8.ofNat c) ≥ 0) = cdK c := by
  rw [cd_ib ⟨c, hc⟩]
  unfold cdK
  have a : (decide (97 ≤ c) && decide (c ≤ 122)) = false := by simpa using a
  have b : (decide (65 ≤ c) && decide (c ≤ 90)) = false := by simpa using b
  have d : (decide (48 ≤ c) && decide (c ≤ 57)) = false := by simpa using d
  rw [a, b, d] <;> rfl
abbrev cdC : Con where
  X := StX
  Y := Unit
  args x := [.string x.s]
  pre _ := []
  cond x := x.s.size ≤ 1048576
  rdc _ _ := True
  rel _ _ := True
  val x _ := .returned (.string (cdV x.s))
  post _ _ := []
structure CdS where
  b : Nat
  i : Nat
def cdG : (T : Type) × (CdS → T) := ⟨CdS, λd => d⟩
def cdInv (x : StX) (F : Atom) : Nat → Option Inv := fun
  | 0 => some { X := CdS, P := λd => d.i ≤ x.s.size, mu := λd => x.s.size - d.i, lv := λd => [(0, .string x.s), (3, .pointer (some ⟨d.b, 0, none⟩)), (7, .int .i64 x.s.size), (8, .int .i64 d.i)], st := λd => [bdA d.b (cdF x.s d.i), F] }
  | _ => none
def cdCut (x : StX) (F : Atom) : Nat → Option Inv := fun
  | 8 => some { X := CdS, P := λd => d.i < x.s.size, mu := λ_ => 0, lv := λd => [(0, .string x.s), (3, .pointer (some ⟨d.b, 0, none⟩)), (5, .int .u8 (bt x.s d.i : Nat)), (7, .int .i64 x.s.size), (8, .int .i64 d.i), (29, .bool (cdK (bt x.s d.i)))], st := λd => [bdA d.b (cdF x.s d.i), F], gh := some cdG }
  | _ => none
abbrev q160 (h : CdS) : Option Addr := some ⟨h.b, 0, none⟩
abbrev q152 (h : CdS) (x : StX) (F : Atom) := [(0, fo_pr (Ex.rest (bdR h.b (cdF x.s h.i)) (bdB h.b))), (1, F)]
def T108 (e0 : StX) (e1 : CdS) (e2 : Atom) (v0 v1 v2 v3 : Value) (ss : St) := ∃ (z : CdS), (z.i < e0.s.size ∧ cdG.snd z = e1) ∧ (fo_vs e0.s = fo_vs e0.s ∧ v0 = fo_vp (q160 z) ∧ v1 = fo_vc (↑(bt e0.s z.i) : Int) ∧ fo_vi ↑e0.s.size = fo_vi ↑e0.s.size ∧ v2 = fo_vi ↑z.i ∧ v3 = fo_vb (cdK (bt e0.s z.i)) ∧ True) ∧ Ent ss (q152 z e0 e2)
def q56 (x : StX) (f : CdS) (F : Atom) (h : CdS) := T108 x f F (fo_vp (q160 h)) (fo_vc (byteAt x.s (h.i : Int))) (fo_vi ↑h.i) (fo_vb true) (q152 h x F)
def q94 (x : StX) (h f : CdS) (F : Atom) := T14 [fo_vs ⟨#[42, 45, 46, 95]⟩, fo_vc (byteAt x.s (h.i : Int))] (λc b => T108 x f F (fo_vp (q160 h)) (fo_vc (byteAt x.s (h.i : Int))) (fo_vi ↑h.i) (fo_vb (decide (Lib.indexByte c.s.data.toList (UInt8.ofNat c.c) ≥ 0))) (q152 h x F))
def q5 (x : StX) (h f : CdS) (F : Atom) := fo_Bd (byteAt x.s (h.i : Int) ≥ 48) (fo_Bd (byteAt x.s (h.i : Int) ≤ 57) (q56 x f F h) (q94 x h f F)) (q94 x h f F)
def q257 (x : StX) (h f : CdS) (F : Atom) := fo_Bd (byteAt x.s (h.i : Int) ≥ 65) (fo_Bd (byteAt x.s (h.i : Int) ≤ 90) (q56 x f F h) (q5 x h f F)) (q5 x h f F)
def T109 (e0 : StX) (e1 : Atom) (v0 v1 : Value) (ss : St) (mm : Nat) := ∃ (z : CdS), z.i ≤ e0.s.size ∧ (fo_vs e0.s = fo_vs e0.s ∧ v0 = fo_vp (q160 z) ∧ fo_vi ↑e0.s.size = fo_vi ↑e0.s.size ∧ v1 = fo_vi ↑z.i ∧ True) ∧ Ent ss (q152 z e0 e1) ∧ e0.s.size - z.i < mm
abbrev q295 (e : CdS) (x : StX) (F : Atom) (h : CdS) : BpX → Unit → Prop := λc b => fo_rI ((e.i : Int) + 1) ∧ T109 x F (fo_vp (q160 e)) (fo_vi ((e.i : Int) + 1)) (q125 c F) (x.s.size - h.i)
abbrev q69 : ByteArray := ByteArray.mk #[48, 49, 50, 51, 52, 53, 54, 55, 56, 57, 65, 66, 67, 68, 69, 70]
theorem cd_vc (x : StX) (F : Atom) (hc : cdC.cond x) (hr : cdC.rdc x F) :
 ∀(i : Nat), (∃(a : CdS), a.i ≤ x.s.size ∧ (fo_vs x.s = fo_vs x.s ∧ fo_vp (q17 i) = fo_vp (q160 a) ∧ fo_vi ↑x.s.size = fo_vi ↑x.s.size ∧ fo_vi 0 = fo_vi ↑a.i ∧ True) ∧ Ent [(0, F), (1000, fo_cl i q350 81)] (q152 a x F)) ∧ fo_vA λ(h : CdS) _ => h.i ≤ x.s.size → fo_Bd ((h.i : Int) < (x.s.size : Int)) ((0 ≤ (h.i : Int) ∧ (h.i : Int) < (x.s.size : Int)) ∧ ∃(f : CdS), fo_Bd (byteAt x.s (h.i : Int) ≥ 97) (fo_Bd (byteAt x.s (h.i : Int) ≤ 122) (q56 x f F h) (q257 x h f F)) (q257 x h f F) ∧ fo_vA λ(e : CdS) _ => (e.i < x.s.size ∧ cdG.snd e = f) → Br (cdK (bt x.s e.i)) (T15 [fo_vp (q160 e), fo_vc (↑(bt x.s e.i) : Int)] [fo_pr (Ex.rest (bdR e.b (cdF x.s e.i)) (bdB e.b))] (q295 e x F h)) (Br ((↑(bt x.s e.i) : Int) == 32) (T15 [fo_vp (q160 e), fo_vc 43] [fo_pr (Ex.rest (bdR e.b (cdF x.s e.i)) (bdB e.b))] (q295 e x F h)) (true = true ∧ (0 ≤ (↑(bt x.s e.i) : Int).fdiv ((2 : Int) ^ min (Int.toNat (4 : Int)) u8.bits) ∧ (↑(bt x.s e.i) : Int).fdiv ((2 : Int) ^ min (Int.toNat (4 : Int)) u8.bits) ≤ u8.wrap ((↑(bt x.s e.i) : Int).fdiv ((2 : Int) ^ min (Int.toNat (4 : Int)) u8.bits) + 1) ∧ u8.wrap ((↑(bt x.s e.i) : Int).fdiv ((2 : Int) ^ min (Int.toNat (4 : Int)) u8.bits) + 1) ≤ (↑q69.size : Int)) ∧ 1 + (q69.extract ((↑(bt x.s e.i) : Int).fdiv ((2 : Int) ^ min (Int.toNat (4 : Int)) u8.bits)).toNat (u8.wrap ((↑(bt x.s e.i) : Int).fdiv ((2 : Int) ^ min (Int.toNat (4 : Int)) u8.bits) + 1)).toNat).size ≤ 9223372036854775807 ∧ (0 ≤ u8.wrap (↑(BitVec.ofInt u8.bits (↑(bt x.s e.i) : Int) &&& BitVec.ofInt u8.bits (15 : Int)).toNat : Int) ∧ u8.wrap (↑(BitVec.ofInt u8.bits (↑(bt x.s e.i) : Int) &&& BitVec.ofInt u8.bits (15 : Int)).toNat : Int) ≤ u8.wrap (u8.wrap (↑(BitVec.ofInt u8.bits (↑(bt x.s e.i) : Int) &&& BitVec.ofInt u8.bits (15 : Int)).toNat : Int) + 1) ∧ u8.wrap (u8.wrap (↑(BitVec.ofInt u8.bits (↑(bt x.s e.i) : Int) &&& BitVec.ofInt u8.bits (15 : Int)).toNat : Int) + 1) ≤ (↑q69.size : Int)) ∧ ((ByteArray.mk #[37]) ++ q69.extract ((↑(bt x.s e.i) : Int).fdiv ((2 : Int) ^ min (Int.toNat (4 : Int)) u8.bits)).toNat (u8.wrap ((↑(bt x.s e.i) : Int).fdiv ((2 : Int) ^ min (Int.toNat (4 : Int)) u8.bits) + 1)).toNat).size + (q69.extract (u8.wrap (↑(BitVec.ofInt u8.bits (↑(bt x.s e.i) : Int) &&& BitVec.ofInt u8.bits (15 : Int)).toNat : Int)).toNat (u8.wrap (u8.wrap (↑(BitVec.ofInt u8.bits (↑(bt x.s e.i) : Int) &&& BitVec.ofInt u8.bits (15 : Int)).toNat : Int) + 1)).toNat).size ≤ 9223372036854775807 ∧ fo_C3 113 wsP (λc => c.t.size + c.s.size ≤ 140737488355328) [fo_vp (q160 e), fo_vs ((ByteArray.mk #[37]) ++ q69.extract ((↑(bt x.s e.i) : Int).fdiv ((2 : Int) ^ min (Int.toNat (4 : Int)) u8.bits)).toNat (u8.wrap ((↑(bt x.s e.i) : Int).fdiv ((2 : Int) ^ min (Int.toNat (4 : Int)) u8.bits) + 1)).toNat ++ q69.extract (u8.wrap (↑(BitVec.ofInt u8.bits (↑(bt x.s e.i) : Int) &&& BitVec.ofInt u8.bits (15 : Int)).toNat : Int)).toNat (u8.wrap (u8.wrap (↑(BitVec.ofInt u8.bits (↑(bt x.s e.i) : Int) &&& BitVec.ofInt u8.bits (15 : Int)).toNat : Int) + 1)).toNat)] [fo_pr (Ex.rest (bdR e.b (cdF x.s e.i)) (bdB e.b))] (λc b => fo_rI ((e.i : Int) + 1) ∧ T109 x F (fo_vp (q160 e)) (fo_vi ((e.i : Int) + 1)) [(0, fo_pr (Ex.rest (bdR c.b (c.t ++ c.s)) (bdB c.b))), (1, F)] (x.s.size - h.i))))) (T18 [fo_vp (q160 h)] [fo_pr (Ex.rest (bdR h.b (cdF x.s h.i)) (bdB h.b))] (λb a => Done cdC x F (fo_rt (fo_vs b.t)) [(0, fo_em), (1, F)])) := by
  delta q17 q160 q350 q152 T108 q56 T14 q94 q5 q257 T15 T109 q125 q295 q69 T18 fo_rI fo_C1 fo_C3 fo_vi fo_vc fo_vs fo_vb fo_vp fo_vl fo_cl fo_pr fo_em fo_Bd fo_rt fo_vA
  have hs : x.s.size ≤ 1048576 := hc
  intro b
  refine ⟨⟨⟨b, 0⟩, fo_zl _, ⟨rfl, rfl, rfl, rfl, fo_tv⟩, Ent.ex [0] [1000, 999] ⟨none, nilRow⟩ (bd_new b) rfl rfl rfl⟩, ?_⟩
  clear b
  rintro ⟨b, i⟩ js hi
  dsimp only at hi ⊢
  have hz := cdF_size x.s i
  refine br_decide (λhlt => ⟨⟨by omega, hlt⟩, ⟨b, i⟩, ?_, ?_⟩) (λhge => ?_)
  · have hlt : i < x.s.size := by omega
    have eNul : byteAt x.s (i : Int) = (bt x.s i : Int) := by rw [byteAt_bt, fo_tn]
    rw [eNul]
    have fin : ∀ t : Bool, t = cdK (bt x.s i) → ∃ d : CdS, (d.i < x.s.size ∧ cdG.snd d = ⟨b, i⟩) ∧ (string x.s = string x.s ∧ pointer (some ⟨b, 0, none⟩) = pointer (some ⟨d.b, 0, none⟩) ∧ int .u8 (bt x.s i : Int) = int .u8 (bt x.s d.i : Int) ∧ int .i64 (x.s.size : Int) = int .i64 (x.s.size : Int) ∧ int .i64 (i : Int) = int .i64 (d.i : Int) ∧ bool t = bool (cdK (bt x.s d.i)) ∧ True) ∧ Ent [(0, bdA b (cdF x.s i)), (1, F)] [(0, bdA d.b (cdF x.s d.i)), (1, F)] := λt e =>
      ⟨⟨b, i⟩, ⟨hlt, rfl⟩, ⟨rfl, rfl, rfl, rfl, rfl, by rw [e], fo_tv⟩, Ent.pick [0, 1] rfl rfl⟩
    exact br_decide (λa => br_decide (λb => fin _ (cdK1 (by omega) (by omega)).symm) (λb => (br_decide (λc => br_decide (λd => fin _ (cdK2 (by omega) (by omega)).symm) (λd => (br_decide (λe => br_decide (λf => fin _ (cdK3 (by omega) (by omega)).symm) (λf => ⟨ib_ok, rfl, ⟨⟨#[42, 45, 46, 95]⟩, bt x.s i⟩, rfl, rfl, bt_lt _ _, fo_tv, λ_ _ => fin _ (cdK4 (c := bt x.s i) (bt_lt _ _) (by omega) (by omega) (by omega))⟩)) (λe => ⟨ib_ok, rfl, ⟨⟨#[42, 45, 46, 95]⟩, bt x.s i⟩, rfl, rfl, bt_lt _ _, fo_tv, λ_ _ => fin _ (cdK4 (c := bt x.s i) (bt_lt _ _) (by omega) (by omega) (by omega))⟩)))) (λc => (br_decide (λe => br_decide (λf => fin _ (cdK3 (by omega) (by omega)).symm) (λf => ⟨ib_ok, rfl, ⟨⟨#[42, 45, 46, 95]⟩, bt x.s i⟩, rfl, rfl, bt_lt _ _, fo_tv, λ_ _ => fin _ (cdK4 (c := bt x.s i) (bt_lt _ _) (by omega) (by omega) (by omega))⟩)) (λe => ⟨ib_ok, rfl, ⟨⟨#[42, 45, 46, 95]⟩, bt x.s i⟩, rfl, rfl, bt_lt _ _, fo_tv, λ_ _ => fin _ (cdK4 (c := bt x.s i) (bt_lt _ _) (by omega) (by omega) (by omega))⟩)))))) (λa => (br_decide (λc => br_decide (λd => fin _ (cdK2 (by omega) (by omega)).symm) (λd => (br_decide (λe => br_decide (λf => fin _ (cdK3 (by omega) (by omega)).symm) (λf => ⟨ib_ok, rfl, ⟨⟨#[42, 45, 46, 95]⟩, bt x.s i⟩, rfl, rfl, bt_lt _ _, fo_tv, λ_ _ => fin _ (cdK4 (c := bt x.s i) (bt_lt _ _) (by omega) (by omega) (by omega))⟩)) (λe => ⟨ib_ok, rfl, ⟨⟨#[42, 45, 46, 95]⟩, bt x.s i⟩, rfl, rfl, bt_lt _ _, fo_tv, λ_ _ => fin _ (cdK4 (c := bt x.s i) (bt_lt _ _) (by omega) (by omega) (by omega))⟩)))) (λc => (br_decide (λe => br_decide (λf => fin _ (cdK3 (by omega) (by omega)).symm) (λf => ⟨ib_ok, rfl, ⟨⟨#[42, 45, 46, 95]⟩, bt x.s i⟩, rfl, rfl, bt_lt _ _, fo_tv, λ_ _ => fin _ (cdK4 (c := bt x.s i) (bt_lt _ _) (by omega) (by omega) (by omega))⟩)) (λe => ⟨ib_ok, rfl, ⟨⟨#[42, 45, 46, 95]⟩, bt x.s i⟩, rfl, rfl, bt_lt _ _, fo_tv, λ_ _ => fin _ (cdK4 (c := bt x.s i) (bt_lt _ _) (by omega) (by omega) (by omega))⟩)))))
  · rintro ⟨b', i'⟩ js ⟨hlt, e⟩
    have e : CdS.mk b' i' = ⟨b, i⟩ := e
    cases e
    dsimp only at hlt ⊢
    have hc := bt_lt x.s i
    have step : ∀ l : List Nat, cdB (bt x.s i) = l → cdF x.s i ++ btL l = cdF x.s (i + 1) := λl e => by rw [cdF, e]
    refine br_intro (λk => ?_) (λk => br_intro (λk2 => ?_) (λk2 => ?_))
    · refine ⟨wbp_ok, rfl, ⟨b, cdF x.s i, ⟨#[]⟩, bt x.s i⟩, rfl, rfl, ⟨by dsimp only; omega, hc⟩, fo_tv, λ_ _ => ⟨⟨by omega, by omega⟩, ⟨b, i + 1⟩, hlt, ⟨rfl, rfl, rfl, rfl, fo_tv⟩, Ent.pick [0, 1] rfl ?_, by dsimp only; omega⟩⟩
      have h := step [bt x.s i] (by unfold cdB; rw [k] <;> rfl)
      dsimp only
      rw [h] <;> rfl
    · refine ⟨wbp_ok, rfl, ⟨b, cdF x.s i, ⟨#[]⟩, 43⟩, rfl, rfl, ⟨by dsimp only; omega, (by dsimp only; decide)⟩, fo_tv, λ_ _ => ⟨⟨by omega, by omega⟩, ⟨b, i + 1⟩, hlt, ⟨rfl, rfl, rfl, rfl, fo_tv⟩, Ent.pick [0, 1] rfl ?_, by dsimp only; omega⟩⟩
      have h := step [43] (by unfold cdB; rw [k, eqN 32 k2] <;> rfl)
      dsimp only
      rw [h] <;> rfl
    · obtain ⟨q1, q2, q3, q4⟩ := cd_hi ⟨bt x.s i, hc⟩
      dsimp only at q1 q2 q3 q4
      rw [q1, q3, q2, q4]
      rw [fo_tn, fo_tn, fo_tn, fo_tn]
      have g1 := hxcT_ext (n := bt x.s i / 16) (by omega)
      have g2 := hxcT_ext (n := bt x.s i % 16) (by omega)
      unfold hxcT at g1 g2
      rw [g1, g2]
      have h := step [37, hexU (bt x.s i / 16), hexU (bt x.s i % 16)] (by unfold cdB; rw [k, eqN 32 k2] <;> rfl)
      have z1 : ∀ n, (btL [n]).size = 1 := λn => by rw [btL_size] <;> rfl
      have e3 : (⟨#[37]⟩ : ByteArray) ++ btL [hexU (bt x.s i / 16)] ++ btL [hexU (bt x.s i % 16)] = btL [37, hexU (bt x.s i / 16), hexU (bt x.s i % 16)] := rfl
      rw [e3]
      refine ⟨rfl, ⟨by omega, by omega, by show ((bt x.s i / 16 + 1 : Nat) : Int) ≤ 16; omega⟩, by rw [z1]; omega, ⟨by omega, by omega, by show ((bt x.s i % 16 + 1 : Nat) : Int) ≤ 16; omega⟩, ?_, wsp_ok, rfl, ⟨b, cdF x.s i, btL [37, hexU (bt x.s i / 16), hexU (bt x.s i % 16)], 0⟩, rfl, rfl, ?_, fo_tv, λ_ _ => ⟨⟨by omega, by omega⟩, ⟨b, i + 1⟩, hlt, ⟨rfl, rfl, rfl, rfl, fo_tv⟩, Ent.pick [0, 1] rfl ?_, by dsimp only; omega⟩⟩
      · rw [fo_sa, z1, z1]; show 1 + 1 + 1 ≤ _; omega
      · dsimp only
        rw [btL_size]
        simp only [fo_lc, List.length_nil]
        omega
      · dsimp only
        rw [h] <;> rfl
  · have hi : i = x.s.size := by omega
    exact ⟨bsp_ok, rfl, ⟨b, cdF x.s i, ⟨#[]⟩, 0⟩, rfl, rfl, by dsimp only; omega, fo_tv, λ_ _ => ⟨(), fo_tv, by rw [hi] <;> rfl, Ent.pick [1] rfl rfl⟩⟩
theorem cd_ok : fo_k 88 cdC := fo 65 Tryz.func88 (λ_ _ => [(1, 0, .n 1000), (7, 24, .c ibC [] []), (8, 1, .c wbP [0] [0]), (10, 0, .c wbP [0] [0]), (6, 1, .q []), (6, 3, .q []), (6, 4, .q []), (6, 8, .q []), (6, 10, .q []), (6, 11, .q []), (6, 14, .c wsP [0] [0]), (12, 0, .c bsP [0] [])]) [] cdInv cdCut fo_o [] cd_vc
end
section
open Go
set_option maxHeartbeats 1000000
def jnB (l : List ByteArray) (sep : ByteArray) : ByteArray := ⟨(Lib.join (l.map (·.data.toList)) sep.data.toList).toArray⟩
structure JnX where
  xs : List ByteArray
  a : Option Addr
  c : Nat
  sep : ByteArray
abbrev jnC : Con where
  X := JnX
  Y := Unit
  args x := [.slice x.a x.xs.length x.c, .string x.sep]
  pre _ := []
  cond x := IsSrc 1 (strs x.xs) x.a x.xs.length ∧ x.xs.length ≤ 4096 ∧ x.xs.length ≤ x.c ∧ (jnB x.xs x.sep).size ≤ 140737488355328
  rdc x F := Srcd F x.a (strs x.xs)
  rel _ _ := True
  val x _ := .returned (.string (jnB x.xs x.sep))
  post _ _ := []
  rmono _ _ _ hs h := h.sub hs
theorem jn_ok : fo_k 89 jnC := FnOk.ofBelow jnC (λ_ => rfl) (λ_ _ => ()) (λ_ _ => fo_tv) (λ_ _ => rfl) λx F I w hc hr hs => by
  obtain ⟨xs, a, c, sep⟩ := x
  obtain ⟨h1, h2, h3, h4⟩ := hc
  dsimp only at h1 h2 h3 h4 hr
  cases xs with
  | nil => exact (Go.Proofs.Tryz.strings_Join_none a c sep w).mono λe w' h => ⟨h.1, h.2 ▸ RowKit.Below.refl _ _⟩
  | cons x0 r =>
    obtain ⟨b, o, rfl⟩ := h1.some (by simp)
    have hr' : Srcd F (some ⟨b, o, none⟩) (strs (x0 :: r)) := hr
    have hcell : ∀ (j : Nat) x, (x0 :: r)[j]? = some x → w.cell? ⟨b, o + j, none⟩ = some (.string x) := λj x hx => by
      exact hs.lookF (hr'.look (j := j) (v := .string x) (by unfold strs; rw [fo_gm, hx] <;> rfl))
    have hb : b < w.heap.size := by
      have h := hcell 0 x0 rfl
      rcases Nat.lt_or_ge b w.heap.size with hl | hl
      · exact hl
      · exfalso
        unfold World.cell? at h
        rw [show w.heap[(⟨b, o + 0, none⟩ : Addr).block]? = none from by simp [hl]] at h
        cases h
    exact (Go.Proofs.Tryz.strings_Join b o c (x0 :: r) sep w hcell hb (by omega) h3 h4).mono λe w' h => h
def fpV (l : List Fld) : List ByteArray := l.map λf => cdV f.1 ++ ⟨#[61]⟩ ++ cdV f.2
def fwB (l : List Fld) : ByteArray := jnB (fpV l) ⟨#[38]⟩
def fwV (l : List Fld) : ByteArray := bif decide (l.length > 32) then ⟨#[]⟩ else bif decide ((fwB l).size > 4096) then ⟨#[]⟩ else fwB l
def fwE (l : List Fld) : Int := bif decide (l.length > 32) then 4 else bif decide ((fwB l).size > 4096) then 2 else 0
theorem lens_le {M : Nat} : ∀ l : List (List UInt8), (∀ x ∈ l, x.length ≤ M) → Lib.lens l ≤ l.length * M
  | [], _ => fo_zl _
  | a :: l, h => by
    have h1 := lens_le l λx hx => h x (fo_mm _ hx)
    have h2 := h a fo_mc
    rw [fo_lc, Nat.succ_mul]
    show (a :: l |>.map List.length).sum ≤ _
    rw [List.map_cons, List.sum_cons]
    have h1 : (l.map List.length).sum ≤ l.length * M := h1
    omega
theorem jnB_size {M : Nat} (l : List ByteArray) (sep : ByteArray) (h : ∀ x ∈ l, x.size ≤ M) : (jnB l sep).size ≤ l.length * (M + sep.size) := by
  cases l with
  | nil => exact fo_zl _
  | cons x r =>
    show (Lib.join ((x :: r).map (·.data.toList)) sep.data.toList).length ≤ _
    rw [List.map_cons, Lib.join_length]
    have h1 : Lib.lens (x.data.toList :: r.map (·.data.toList)) ≤ ((x :: r).map (·.data.toList)).length * M := lens_le (M := M) ((x :: r).map λz : ByteArray => z.data.toList) λy hy => by
      obtain ⟨z, hz, rfl⟩ := List.mem_map.1 hy
      exact h z hz
    rw [List.length_map] at h1 ⊢
    have h2 : sep.data.toList.length = sep.size := rfl
    rw [h2, Nat.mul_add, fo_lc]
    rw [fo_lc] at h1
    have h3 : sep.size * r.length ≤ (r.length + 1) * sep.size := by rw [Nat.mul_comm]; exact Nat.mul_le_mul_right _ (Nat.le_succ _)
    omega
theorem cdV_size (s : ByteArray) : (cdV s).size ≤ 3 * s.size := cdF_size s s.size
theorem fpV_size {l : List Fld} (h : ∀ f ∈ l, f.1.size ≤ 1048576 ∧ f.2.size ≤ 1048576) : ∀ x ∈ fpV l, x.size ≤ 6291457 := by
  intro x hx
  obtain ⟨f, hf, rfl⟩ := List.mem_map.1 hx
  have h1 := cdV_size f.1
  have h2 := cdV_size f.2
  have h3 := h f hf
  rw [fo_sa, fo_sa]
  have : (⟨#[61]⟩ : ByteArray).size = 1 := rfl
  omega
theorem fpV_len (l : List Fld) : (fpV l).length = l.length := List.length_map _
structure FwX where
  l : List Fld
  a : Option Addr
  n : Nat
  c : Nat
abbrev fwC : Con where
  X := FwX
  Y := Unit
  args x := [.slice x.a x.n x.c]
  pre _ := []
  cond x := IsSrc 2 (fCs x.l) x.a x.n ∧ x.n ≤ 1000000 ∧ ∀ f ∈ x.l, f.1.size ≤ 1048576 ∧ f.2.size ≤ 1048576
  rdc x F := Srcd F x.a (fCs x.l)
  rel _ _ := True
  val x _ := .returned (.tuple #[.string (fwV x.l), .int .i64 (fwE x.l)])
  post _ _ := []
  rmono _ _ _ hs h := h.sub hs
structure FwS where
  i : Nat
  r : Row
def fwInv (x : FwX) (F : Atom) : Nat → Option Inv := fun
  | 0 => some { X := FwS, P := λd => d.i ≤ x.l.length ∧ x.l.length ≤ 32 ∧ IsRow 9 1 (strs (fpV (x.l.take d.i))) d.r ∧ d.r.n = d.i, mu := λd => x.l.length - d.i, lv := λd => [(4, .slice d.r.a d.r.n d.r.cap), (11, .slice x.a x.n x.c), (12, .int .i64 x.n), (13, .int .i64 d.i)], st := λd => [F, d.r.A] }
  | _ => none
def q154 (a : FwS) (x : FwX) := a.i ≤ x.l.length ∧ x.l.length ≤ 32 ∧ IsRow 9 1 (strs (fpV (List.take a.i x.l))) a.r ∧ a.r.n = a.i
def T110 := fo_C1 88 cdC q237
theorem fw_vc (x : FwX) (F : Atom) (hc : fwC.cond x) (hr : fwC.rdc x F) :
 fo_Bd ((x.n : Int) > 32) (Done fwC x F (fo_rt (tuple ⟨[fo_vs ⟨#[]⟩, fo_vi 4]⟩)) [(0, F)]) ((∃(a : FwS), q154 a x ∧ (fo_vl none 0 0 = fo_vl a.r.a a.r.n a.r.cap ∧ fo_vl x.a x.n x.c = fo_vl x.a x.n x.c ∧ fo_vi ↑x.n = fo_vi ↑x.n ∧ fo_vi 0 = fo_vi ↑a.i ∧ True) ∧ Ent [(0, F)] [(0, F), (1, a.r.A)]) ∧ fo_vA λ(n : FwS) _ => q154 n x → fo_Bd ((n.i : Int) < (x.n : Int)) (T30 (opIn Tryz.f39 6 0) [fo_vl x.a x.n x.c, fo_vi ↑n.i] (λl => T25 F ⟨l.b, l.o + l.n.toNat * 2, none⟩ (λk => T25 F ⟨l.b, l.o + l.n.toNat * 2 + 1, none⟩ (λj => ∀(i : Nat), fo_sm i 0 ∧ fo_sm i 1 ∧ true = true ∧ fo_sm i 0 ∧ T110 [fo_vs k] (λh g => (cdV h.s).size + 1 ≤ 9223372036854775807 ∧ fo_sm i 1 ∧ T110 [fo_vs j] (λf e => (cdV h.s ++ (ByteArray.mk #[61])).size + (cdV f.s).size ≤ 9223372036854775807 ∧ ∀(d : Nat), T52 (opIn Tryz.f39 7 10) [fo_vl n.r.a n.r.n n.r.cap, fo_vl (q17 d) 1 1] [n.r.A] (fo_aR [(0, F), (1, n.r.A), (6020, fo_cl i (q210 k j) 36), (7090, fo_cl d [fo_vs (cdV h.s ++ (ByteArray.mk #[61]) ++ cdV f.s)] 9)] [1]) (λc b => fo_rI ((n.i : Int) + 1) ∧ ∃(a : FwS), q154 a x ∧ (fo_vl b.a b.n b.cap = fo_vl a.r.a a.r.n a.r.cap ∧ fo_vl x.a x.n x.c = fo_vl x.a x.n x.c ∧ fo_vi ↑x.n = fo_vi ↑x.n ∧ fo_vi ((n.i : Int) + 1) = fo_vi ↑a.i ∧ True) ∧ Ent [(0, F), (1, b.A), (6020, fo_cl i (q210 k j) 36), (7090, fo_cl d [fo_vs (cdV h.s ++ (ByteArray.mk #[61]) ++ cdV f.s)] 9)] [(0, F), (1, a.r.A)] ∧ x.l.length - a.i < x.l.length - n.i))))))) (fo_C2 89 jnC (λb => IsSrc 1 (strs b.xs) b.a b.xs.length ∧ b.xs.length ≤ 4096 ∧ b.xs.length ≤ b.c ∧ (jnB b.xs b.sep).size ≤ 140737488355328) (λb rr => Srcd rr b.a (strs b.xs)) [fo_vl n.r.a n.r.n n.r.cap, fo_vs ⟨#[38]⟩] (fo_aR [(0, F), (1, n.r.A)] []) (λb a => fo_Bd ((↑(jnB b.xs b.sep).size : Int) > 4096) (Done fwC x F (fo_rt (tuple ⟨[fo_vs ⟨#[]⟩, fo_vi 2]⟩)) [(0, F), (1, n.r.A)]) (Done fwC x F (fo_rt (tuple ⟨[fo_vs (jnB b.xs b.sep), fo_vi 0]⟩)) [(0, F), (1, n.r.A)])))) := by
  delta q154 q175 T30 T25 q237 T110 q293 q261 q149 T52 q17 q210 fo_aR fo_sm fo_rI fo_C1 fo_C2 fo_O4 fo_vi fo_vs fo_vl fo_cl fo_Bd fo_rt fo_vA
  obtain ⟨l, a, n, c⟩ := x
  obtain ⟨hsrc, hn, hsz⟩ := hc
  have hr : Srcd F a (fCs l) := hr
  dsimp only at hsrc hn hsz ⊢
  have hnl := hsrc.len
  rw [fCs_length] at hnl
  refine br_decide (λh => ?_) (λh => ?_)
  · refine ⟨(), fo_tv, ?_, Ent.pick [0] rfl rfl⟩
    show _ = returned (.tuple #[.string (fwV l), .int .i64 (fwE l)])
    unfold fwV fwE
    rw [fo_dt (show l.length > 32 by omega)] <;> rfl
  have hl : l.length ≤ 32 := by omega
  refine ⟨⟨⟨0, nilRow⟩, ⟨fo_zl _, hl, .nil rfl, rfl⟩, ⟨rfl, rfl, rfl, rfl, fo_tv⟩, Ent.pick [0, 999] rfl rfl⟩, ?_⟩
  rintro ⟨i, r⟩ js ⟨h1, -, hrow, hrn⟩
  dsimp only at h1 hrow hrn ⊢
  refine br_decide (λhlt => ?_) (λhge => ?_)
  · have hlt : i < l.length := by omega
    obtain ⟨c2, o, rfl⟩ := hsrc.some (by omega)
    obtain ⟨q, hq⟩ : ∃ q, l[i]? = some q := ⟨l[i], fo_ge hlt⟩
    obtain ⟨g1, g2⟩ := fCs_get hq
    have hz := hsz q (fo_mg hq)
    have z1 := cdV_size q.1
    have z2 := cdV_size q.2
    refine ⟨ixq_ok 2 rfl rfl rfl rfl, ⟨c2, o, n, c, i⟩, rfl, ⟨by dsimp only; omega, by dsimp only; omega⟩, q.1, ?_, q.2, ?_, λd => ⟨⟨rfl, rfl⟩, ⟨rfl, rfl⟩, rfl, ⟨rfl, rfl⟩, cd_ok, rfl, ⟨q.1⟩, rfl, rfl, hz.1, fo_tv, λ_ _ => ⟨by dsimp only; omega, ⟨rfl, rfl⟩, cd_ok, rfl, ⟨q.2⟩, rfl, rfl, hz.2, fo_tv, λ_ _ => ⟨?_, λe => ⟨append_ok (P := Tryz.prog) 1 16 rfl rfl rfl rfl rfl rfl rfl (by decide), rfl, ⟨r, strs (fpV (l.take i)), some ⟨e, 0, none⟩, 1, 1, [.string (cdV q.1 ++ ⟨#[61]⟩ ++ cdV q.2)]⟩, rfl, rfl, ⟨hrow, rfl, λu hu => by rw [List.mem_singleton.1 hu] <;> rfl, by dsimp only; omega, by dsimp only; omega, λh => nomatch h⟩, ?_, λr2 h2 => ?_⟩⟩⟩⟩⟩
    · have := Srcd.look hr g1
      dsimp only
      rw [fo_tn, Nat.mul_comm]
      exact this
    · have := Srcd.look hr g2
      dsimp only
      rw [fo_tn, Nat.mul_comm i 2, Nat.add_assoc]
      exact this
    · rw [fo_sa]
      have : (⟨#[61]⟩ : ByteArray).size = 1 := rfl
      dsimp only
      omega
    · intro a ha
      cases ha
      exact Seg.rest (j := 7090) (by simp) (Seg.cells (λj u hj => by rw [fo_za]; exact hj))
    · obtain ⟨k1, k2, -⟩ := h2
      dsimp only at k1 k2
      refine ⟨⟨by omega, by omega⟩, ⟨i + 1, r2⟩, ⟨hlt, hl, ?_, by dsimp only; omega⟩, ⟨rfl, rfl, rfl, rfl, fo_tv⟩, Ent.pick [0, 1] rfl rfl, by dsimp only; omega⟩
      dsimp only
      have e2 : strs (fpV (l.take (i + 1))) = strs (fpV (l.take i)) ++ [.string (cdV q.1 ++ ⟨#[61]⟩ ++ cdV q.2)] := by
        rw [List.take_add_one, hq, Option.toList_some]
        unfold fpV strs
        rw [List.map_append, List.map_append] <;> rfl
      rw [e2]
      exact k1
  · have hi : i = l.length := by omega
    rw [hi, List.take_length] at hrow
    have hsrc2 := hrow.src
    have hle := hrow.le
    have hrn2 : r.n = (fpV l).length := by rw [fpV_len]; omega
    have hb := jnB_size (M := 6291457) (fpV l) ⟨#[38]⟩ (fpV_size hsz)
    rw [fpV_len] at hb
    have hb2 : (jnB (fpV l) ⟨#[38]⟩).size ≤ 32 * (6291457 + 1) := fo_lt hb (Nat.mul_le_mul_right _ hl)
    refine ⟨jn_ok, rfl, ⟨fpV l, r.a, r.cap, ⟨#[38]⟩⟩, by rw [hrn2], rfl, ⟨by rw [← hrn2]; exact hsrc2, by dsimp only; rw [fpV_len]; omega, by dsimp only; omega, by dsimp only; omega⟩, row_srcd 1 (by simp) rfl hrow, λ_ _ => br_decide (λh => ⟨(), fo_tv, ?_, Ent.pick [0] rfl rfl⟩) (λh => ⟨(), fo_tv, ?_, Ent.pick [0] rfl rfl⟩)⟩
    · have h : (fwB l).size > 4096 := by have h : ((fwB l).size : Int) > 4096 := h; omega
      show _ = returned (.tuple #[.string (fwV l), .int .i64 (fwE l)])
      unfold fwV fwE
      rw [fo_df (show ¬ l.length > 32 by omega), fo_dt h] <;> rfl
    · have h : ¬ (fwB l).size > 4096 := by have h : ¬ ((fwB l).size : Int) > 4096 := h; omega
      show _ = returned (.tuple #[.string (fwV l), .int .i64 (fwE l)])
      unfold fwV fwE
      rw [fo_df (show ¬ l.length > 32 by omega), fo_df h] <;> rfl
theorem fw_ok : fo_k 39 fwC := fo 35 Tryz.func39 (λ_ _ => [(6, 0, .qo (ixQ 2)), (6, 1, .q [.ex 0 .str, .ex 0 .str]), (6, 2, .n 6020), (6, 3, .w [.aq 6020, .aq 6020]), (7, 2, .q [.aq 6020]), (7, 3, .c cdC [] []), (7, 6, .q [.aq 6020]), (7, 7, .c cdC [] []), (7, 9, .n 7090), (7, 10, .o (apC 9 1 16) [1] [1]), (9, 1, .c jnC [] [])]) [] fwInv fo_i fo_o [] fw_vc
end
section
open Go
set_option maxHeartbeats 1000000
def tkS : ByteArray := ⟨#[33, 35, 36, 37, 38, 39, 42, 43, 45, 46, 94, 95, 96, 124, 126]⟩
def tkI (c : Nat) : Bool := decide (Lib.indexByte tkS.data.toList (UInt8.ofNat c) ≥ 0)
def tkK (c : Nat) : Bool := (decide (97 ≤ (c ||| 32)) && decide ((c ||| 32) ≤ 122)) || ((decide (48 ≤ c) && decide (c ≤ 57)) || tkI c)
theorem tkK1 {c : Nat} (a : 97 ≤ (c ||| 32)) (b : (c ||| 32) ≤ 122) : tkK c = true := by unfold tkK; rw [fo_dt a, fo_dt b] <;> rfl
theorem tkK2 {c : Nat} (a : 48 ≤ c) (b : c ≤ 57) : tkK c = true := by unfold tkK; rw [fo_dt a, fo_dt b]; simp
theorem tkK3 {c : Nat} (a : ¬ (97 ≤ (c ||| 32) ∧ (c ||| 32) ≤ 122)) (b : ¬ (48 ≤ c ∧ c ≤ 57)) : tkI c = tkK c := by
  unfold tkK
  have a : (decide (97 ≤ (c ||| 32)) && decide ((c ||| 32) ≤ 122)) = false := by simpa using a
  have b : (decide (48 ≤ c) && decide (c ≤ 57)) = false := by simpa using b
  rw [a, b] <;> rfl
def allF (k : Nat → Bool) (s : ByteArray) : Nat → Nat → Bool
  | 0, _ => true
  | f + 1, i => bif decide (i < s.size) then (bif k (bt s i) then allF k s f (i + 1) else false) else true
def allV (k : Nat → Bool) (s : ByteArray) : Bool := allF k s (s.size + 1) 0
def tokV (s : ByteArray) : Bool := allV tkK s && (decide (s.size ≠ 0) && decide (s.size ≤ 64))
abbrev tokC : Con where
  X := StX
  Y := Unit
  args x := [.string x.s]
  pre _ := []
  cond x := x.s.size ≤ 1048576
  rdc _ _ := True
  rel _ _ := True
  val x _ := .returned (.bool (tokV x.s))
  post _ _ := []
theorem bEq_nil (s : ByteArray) : bEq s ⟨#[]⟩ = decide (s.size = 0) := by
  rw [Bool.eq_iff_iff, bEq_eq, decide_eq_true_iff]
  constructor
  · intro h; rw [h] <;> rfl
  · intro h; exact ByteArray.ext (Array.eq_empty_of_size_eq_zero h)
theorem allF_go {k : Nat → Bool} {s : ByteArray} {f i : Nat} (hi : i < s.size) (h : allV k s = allF k s (f + 1) i) : allV k s = bif k (bt s i) then allF k s f (i + 1) else false := by rw [h, allF, fo_dt hi, fo_ct]
theorem allF_end {k : Nat → Bool} {s : ByteArray} {f i : Nat} (hi : ¬ i < s.size) (h : allV k s = allF k s (f + 1) i) : allV k s = true := by rw [h, allF, fo_df hi, fo_cf]
structure AlS where
  i : Nat
  f : Nat
def AlS.ok (k : Nat → Bool) (s : ByteArray) (d : AlS) : Prop := d.i ≤ s.size ∧ s.size < d.i + d.f ∧ allV k s = allF k s d.f d.i
def alG : (T : Type) × (AlS → T) := ⟨AlS, λd => d⟩
def tokInv (x : StX) (F : Atom) : Nat → Option Inv := fun
  | 0 => some { X := AlS, P := λd => d.ok tkK x.s, mu := λd => x.s.size - d.i, lv := λd => [(0, .string x.s), (6, .int .i64 x.s.size), (7, .int .i64 d.i)], st := λ_ => [F] }
  | _ => none
def tokCut (x : StX) (F : Atom) : Nat → Option Inv := fun
  | 6 => some { X := AlS, P := λd => d.ok tkK x.s ∧ d.i < x.s.size, mu := λ_ => 0, lv := λd => [(0, .string x.s), (6, .int .i64 x.s.size), (7, .int .i64 d.i), (34, .bool (!tkK (bt x.s d.i)))], st := λ_ => [F], gh := some alG }
  | 8 => some { X := Unit, P := λ_ => allV tkK x.s = true, mu := λ_ => 0, lv := λ_ => [(0, .string x.s)], st := λ_ => [F] }
  | _ => none
def q163 (x : StX) (a : AlS) := fo_vs x.s = fo_vs x.s ∧ fo_vi ↑x.s.size = fo_vi ↑x.s.size ∧ fo_vi 0 = fo_vi ↑a.i ∧ True
def q150 (f : AlS) (x : StX) := 0 ≤ (f.i : Int) ∧ (f.i : Int) < (x.s.size : Int)
def T111 (e0 : StX) (e1 : AlS) (e2 : Atom) (v0 v1 : Value) (ss : St) := ∃ (z : AlS), ((AlS.ok tkK e0.s z ∧ z.i < e0.s.size) ∧ alG.snd z = e1) ∧ (fo_vs e0.s = fo_vs e0.s ∧ fo_vi ↑e0.s.size = fo_vi ↑e0.s.size ∧ v0 = fo_vi ↑z.i ∧ v1 = fo_vb !tkK (bt e0.s z.i) ∧ True) ∧ Ent ss [(0, e2)]
def q43 (x : StX) (f d : AlS) (F : Atom) := T14 [fo_vs ⟨#[33, 35, 36, 37, 38, 39, 42, 43, 45, 46, 94, 95, 96, 124, 126]⟩, fo_vc (byteAt x.s (f.i : Int))] (λc b => T111 x d F (fo_vi ↑f.i) (fo_vb !decide (Lib.indexByte c.s.data.toList (UInt8.ofNat c.c) ≥ 0)) [(0, F)])
def q205 (x : StX) (f d : AlS) (F : Atom) := fo_Bd (byteAt x.s (f.i : Int) ≥ 48) (fo_Bd (byteAt x.s (f.i : Int) ≤ 57) (T111 x d F (fo_vi ↑f.i) (fo_vb !true) [(0, F)]) (q43 x f d F)) (q43 x f d F)
def q153 (x : StX) (c a : AlS) := fo_vs x.s = fo_vs x.s ∧ fo_vi ↑x.s.size = fo_vi ↑x.s.size ∧ fo_vi ((c.i : Int) + 1) = fo_vi ↑a.i ∧ True
theorem tok_vc (x : StX) (F : Atom) (hc : tokC.cond x) (hr : tokC.rdc x F) :
 ((∃(a : AlS), AlS.ok tkK x.s a ∧ q163 x a ∧ Ent [(0, F)] [(0, F)]) ∧ fo_vA λ(f : AlS) _ => AlS.ok tkK x.s f → fo_Bd ((f.i : Int) < (x.s.size : Int)) (q150 f x ∧ ∃(d : AlS), fo_Bd (u8.wrap (↑(BitVec.ofInt u8.bits (byteAt x.s (f.i : Int)) ||| BitVec.ofInt u8.bits (32 : Int)).toNat : Int) ≥ 97) (fo_Bd (u8.wrap (↑(BitVec.ofInt u8.bits (byteAt x.s (f.i : Int)) ||| BitVec.ofInt u8.bits (32 : Int)).toNat : Int) ≤ 122) (T111 x d F (fo_vi ↑f.i) (fo_vb !true) [(0, F)]) (q205 x f d F)) (q205 x f d F) ∧ fo_vA λ(c : AlS) _ => ((AlS.ok tkK x.s c ∧ c.i < x.s.size) ∧ alG.snd c = d) → Br (!tkK (bt x.s c.i)) (Done tokC x F q54 [(0, F)]) (fo_rI ((c.i : Int) + 1) ∧ ∃(a : AlS), AlS.ok tkK x.s a ∧ q153 x c a ∧ Ent [(0, F)] [(0, F)] ∧ x.s.size - a.i < x.s.size - f.i)) (∃(a : Unit), allV tkK x.s = true ∧ (fo_vs x.s = fo_vs x.s ∧ True) ∧ Ent [(0, F)] [(0, F)])) ∧ fo_vA λ(b : Unit) _ => allV tkK x.s = true → Br (!x.s.toList == q59.toList) (Done tokC x F (fo_rt (fo_vb (decide ((x.s.size : Int) ≤ 64)))) [(0, F)]) (Done tokC x F q54 [(0, F)]) := by
  delta q163 q150 T111 T14 q43 q205 q54 q153 q59 fo_rI fo_C1 fo_vi fo_vc fo_vs fo_vb fo_Bd fo_rt fo_vA
  have hs : x.s.size ≤ 1048576 := hc
  refine ⟨⟨⟨⟨0, x.s.size + 1⟩, ⟨fo_zl _, by dsimp only; omega, rfl⟩, ⟨rfl, rfl, rfl, fo_tv⟩, Ent.pick [0] rfl rfl⟩, ?_⟩, ?_⟩
  rintro ⟨i, f⟩ js ⟨h1, h2, h3⟩
  dsimp only at h1 h2 h3 ⊢
  refine br_decide (λhlt => ⟨⟨by omega, hlt⟩, ⟨i, f⟩, ?_, ?_⟩) (λhge => ?_)
  · have hlt : i < x.s.size := by omega
    have eNul : byteAt x.s (i : Int) = (bt x.s i : Int) := by rw [byteAt_bt, fo_tn]
    rw [eNul, or32 (bt_lt x.s i)]
    have fin : ∀ t : Bool, t = (!tkK (bt x.s i)) → ∃ d : AlS, ((d.ok tkK x.s ∧ d.i < x.s.size) ∧ alG.snd d = ⟨i, f⟩) ∧ (string x.s = string x.s ∧ int .i64 (x.s.size : Int) = int .i64 (x.s.size : Int) ∧ int .i64 (i : Int) = int .i64 (d.i : Int) ∧ bool t = bool (!tkK (bt x.s d.i)) ∧ True) ∧ Ent [(0, F)] [(0, F)] := λt e =>
      ⟨⟨i, f⟩, ⟨⟨⟨h1, h2, h3⟩, hlt⟩, rfl⟩, ⟨rfl, rfl, rfl, by rw [e], fo_tv⟩, Ent.pick [0] rfl rfl⟩
    exact br_decide (λa => br_decide (λb => fin _ (by rw [tkK1 (c := bt x.s i) (by omega) (by omega)])) (λb => (br_decide (λc => br_decide (λd => fin _ (by rw [tkK2 (c := bt x.s i) (by omega) (by omega)])) (λd => ⟨ib_ok, rfl, ⟨tkS, bt x.s i⟩, rfl, rfl, bt_lt _ _, fo_tv, λ_ _ => fin _ (congrArg Bool.not (tkK3 (c := bt x.s i) (by omega) (by omega)))⟩)) (λc => ⟨ib_ok, rfl, ⟨tkS, bt x.s i⟩, rfl, rfl, bt_lt _ _, fo_tv, λ_ _ => fin _ (congrArg Bool.not (tkK3 (c := bt x.s i) (by omega) (by omega)))⟩)))) (λa => (br_decide (λc => br_decide (λd => fin _ (by rw [tkK2 (c := bt x.s i) (by omega) (by omega)])) (λd => ⟨ib_ok, rfl, ⟨tkS, bt x.s i⟩, rfl, rfl, bt_lt _ _, fo_tv, λ_ _ => fin _ (congrArg Bool.not (tkK3 (c := bt x.s i) (by omega) (by omega)))⟩)) (λc => ⟨ib_ok, rfl, ⟨tkS, bt x.s i⟩, rfl, rfl, bt_lt _ _, fo_tv, λ_ _ => fin _ (congrArg Bool.not (tkK3 (c := bt x.s i) (by omega) (by omega)))⟩)))
  · rintro ⟨i', f2⟩ js ⟨⟨⟨h1, h2, h3⟩, hlt⟩, e⟩
    have e : AlS.mk i' f2 = ⟨i, f⟩ := e
    cases e
    dsimp only at h1 h2 h3 hlt ⊢
    obtain ⟨f', rfl⟩ : ∃ f', f = f' + 1 := ⟨f - 1, by omega⟩
    have h4 := allF_go hlt h3
    refine br_intro (λk => ?_) (λk => ?_)
    · have k : tkK (bt x.s i) = false := by simpa using k
      rw [k, fo_cf] at h4
      exact ⟨(), fo_tv, by show _ = returned (.bool (tokV x.s)); unfold tokV; rw [h4] <;> rfl, Ent.pick [0] rfl rfl⟩
    · have k : tkK (bt x.s i) = true := by simpa using k
      rw [k, fo_ct] at h4
      exact ⟨⟨by omega, by omega⟩, ⟨i + 1, f'⟩, ⟨hlt, by dsimp only; omega, h4⟩, ⟨rfl, rfl, rfl, fo_tv⟩, Ent.pick [0] rfl rfl, by dsimp only; omega⟩
  · have hi : ¬ i < x.s.size := by omega
    obtain ⟨f', rfl⟩ : ∃ f', f = f' + 1 := ⟨f - 1, by omega⟩
    exact ⟨(), allF_end hi h3, ⟨rfl, fo_tv⟩, Ent.pick [0] rfl rfl⟩
  intro _ js h
  have h : allV tkK x.s = true := h
  have e : (!x.s.toList == (⟨#[]⟩ : ByteArray).toList) = decide (x.s.size ≠ 0) := by
    have := bEq_nil x.s
    unfold bEq at this
    rw [this]; simp
  rw [e]
  have v : tokV x.s = (decide (x.s.size ≠ 0) && decide (x.s.size ≤ 64)) := by unfold tokV; rw [h, Bool.true_and]
  have e2 : decide ((x.s.size : Int) ≤ 64) = decide (x.s.size ≤ 64) := by rw [decide_eq_decide]; omega
  rw [e2]
  refine br_intro (λk => ⟨(), fo_tv, ?_, Ent.pick [0] rfl rfl⟩) (λk => ⟨(), fo_tv, ?_, Ent.pick [0] rfl rfl⟩)
  · show _ = returned (.bool (tokV x.s))
    rw [v, k, Bool.true_and]
  · show _ = returned (.bool (tokV x.s))
    rw [v, k, fo_fba]
theorem tok_ok : fo_k 189 tokC := fo 43 Tryz.func189 (λ_ _ => [(5, 1, .q []), (5, 5, .q []), (5, 18, .c ibC [] [])]) [] tokInv tokCut fo_o [] tok_vc
def txK (c : Nat) : Bool := !((decide (c < 32) && !(c == 9)) || (c == 127))
def thV (s : ByteArray) : Bool := allV txK s
abbrev thC : Con where
  X := StX
  Y := Unit
  args x := [.string x.s]
  pre _ := []
  cond x := x.s.size ≤ 1048576
  rdc _ _ := True
  rel _ _ := True
  val x _ := .returned (.bool (thV x.s))
  post _ _ := []
def thInv (x : StX) (F : Atom) : Nat → Option Inv := fun
  | 0 => some { X := AlS, P := λd => d.ok txK x.s, mu := λd => x.s.size - d.i, lv := λd => [(0, .string x.s), (5, .int .i64 x.s.size), (6, .int .i64 d.i)], st := λ_ => [F] }
  | _ => none
def thCut (x : StX) (F : Atom) : Nat → Option Inv := fun
  | 5 => some { X := AlS, P := λd => d.ok txK x.s ∧ d.i < x.s.size, mu := λ_ => 0, lv := λd => [(0, .string x.s), (5, .int .i64 x.s.size), (6, .int .i64 d.i), (24, .bool (!txK (bt x.s d.i)))], st := λ_ => [F], gh := some alG }
  | _ => none
def T112 (e0 : StX) (e1 : AlS) (e2 : Atom) (v0 v1 : Value) (ss : St) := ∃ (z : AlS), ((AlS.ok txK e0.s z ∧ z.i < e0.s.size) ∧ alG.snd z = e1) ∧ (fo_vs e0.s = fo_vs e0.s ∧ fo_vi ↑e0.s.size = fo_vi ↑e0.s.size ∧ v0 = fo_vi ↑z.i ∧ v1 = fo_vb !txK (bt e0.s z.i) ∧ True) ∧ Ent ss [(0, e2)]
theorem th_vc (x : StX) (F : Atom) (hc : thC.cond x) (hr : thC.rdc x F) :
 (∃(a : AlS), AlS.ok txK x.s a ∧ q163 x a ∧ Ent [(0, F)] [(0, F)]) ∧ fo_vA λ(f : AlS) _ => AlS.ok txK x.s f → fo_Bd ((f.i : Int) < (x.s.size : Int)) (∃(d : AlS), (q150 f x ∧ fo_Bd (byteAt x.s (f.i : Int) < 32) (q150 f x ∧ Br (byteAt x.s (f.i : Int) != 9) (T112 x d F (fo_vi ↑f.i) (fo_vb true) [(0, F)]) (q150 f x ∧ T112 x d F (fo_vi ↑f.i) (fo_vb (byteAt x.s (f.i : Int) == 127)) [(0, F)])) (q150 f x ∧ T112 x d F (fo_vi ↑f.i) (fo_vb (byteAt x.s (f.i : Int) == 127)) [(0, F)])) ∧ fo_vA λ(c : AlS) _ => ((AlS.ok txK x.s c ∧ c.i < x.s.size) ∧ alG.snd c = d) → Br (!txK (bt x.s c.i)) (Done thC x F q54 [(0, F)]) (fo_rI ((c.i : Int) + 1) ∧ ∃(a : AlS), AlS.ok txK x.s a ∧ q153 x c a ∧ Ent [(0, F)] [(0, F)] ∧ x.s.size - a.i < x.s.size - f.i)) (Done thC x F q81 [(0, F)]) := by
  delta q163 q150 T112 q54 q153 q81 fo_rI fo_vi fo_vs fo_vb fo_Bd fo_rt fo_vA
  have hs : x.s.size ≤ 1048576 := hc
  refine ⟨⟨⟨0, x.s.size + 1⟩, ⟨fo_zl _, by dsimp only; omega, rfl⟩, ⟨rfl, rfl, rfl, fo_tv⟩, Ent.pick [0] rfl rfl⟩, ?_⟩
  rintro ⟨i, f⟩ js ⟨h1, h2, h3⟩
  dsimp only at h1 h2 h3 ⊢
  refine br_decide (λhlt => ⟨⟨i, f⟩, ⟨⟨by omega, hlt⟩, ?_⟩, ?_⟩) (λhge => ?_)
  · have hlt2 := hlt
    have hlt : i < x.s.size := by omega
    have eNul : byteAt x.s (i : Int) = (bt x.s i : Int) := by rw [byteAt_bt, fo_tn]
    rw [eNul]
    have fin : ∀ t : Bool, t = (!txK (bt x.s i)) → ∃ d : AlS, ((d.ok txK x.s ∧ d.i < x.s.size) ∧ alG.snd d = ⟨i, f⟩) ∧ (string x.s = string x.s ∧ int .i64 (x.s.size : Int) = int .i64 (x.s.size : Int) ∧ int .i64 (i : Int) = int .i64 (d.i : Int) ∧ bool t = bool (!txK (bt x.s d.i)) ∧ True) ∧ Ent [(0, F)] [(0, F)] := λt e =>
      ⟨⟨i, f⟩, ⟨⟨⟨h1, h2, h3⟩, hlt⟩, rfl⟩, ⟨rfl, rfl, rfl, by rw [e], fo_tv⟩, Ent.pick [0] rfl rfl⟩
    have e127 : ((bt x.s i : Int) == 127) = (bt x.s i == 127) := by rw [Bool.eq_iff_iff, beq_iff_eq, beq_iff_eq]; omega
    refine br_decide (λa => ⟨⟨by omega, hlt2⟩, br_intro (λb => fin _ ?_) (λb => ⟨⟨by omega, hlt2⟩, fin _ ?_⟩)⟩) (λa => ⟨⟨by omega, hlt2⟩, fin _ ?_⟩)
    · have b : bt x.s i ≠ 9 := by
        intro h; rw [h] at b; cases b
      unfold txK
      rw [fo_dt (show bt x.s i < 32 by omega), beq_false_of_ne b] <;> rfl
    · have b : bt x.s i = 9 := by
        have b : ((bt x.s i : Int) != 9) = false := b
        have : (bt x.s i : Int) = 9 := by simpa using b
        omega
      rw [e127, b] <;> rfl
    · rw [e127]
      unfold txK
      rw [fo_df (show ¬ bt x.s i < 32 by omega)]
      simp
  · rintro ⟨i', f2⟩ js ⟨⟨⟨h1, h2, h3⟩, hlt⟩, e⟩
    have e : AlS.mk i' f2 = ⟨i, f⟩ := e
    cases e
    dsimp only at h1 h2 h3 hlt ⊢
    obtain ⟨f', rfl⟩ : ∃ f', f = f' + 1 := ⟨f - 1, by omega⟩
    have h4 := allF_go hlt h3
    refine br_intro (λk => ?_) (λk => ?_)
    · have k : txK (bt x.s i) = false := by simpa using k
      rw [k, fo_cf] at h4
      exact ⟨(), fo_tv, by show _ = returned (.bool (allV txK x.s)); rw [h4], Ent.pick [0] rfl rfl⟩
    · have k : txK (bt x.s i) = true := by simpa using k
      rw [k, fo_ct] at h4
      exact ⟨⟨by omega, by omega⟩, ⟨i + 1, f'⟩, ⟨hlt, by dsimp only; omega, h4⟩, ⟨rfl, rfl, rfl, fo_tv⟩, Ent.pick [0] rfl rfl, by dsimp only; omega⟩
  · have hi : ¬ i < x.s.size := by omega
    obtain ⟨f', rfl⟩ : ∃ f', f = f' + 1 := ⟨f - 1, by omega⟩
    exact ⟨(), fo_tv, by show _ = returned (.bool (allV txK x.s)); rw [allF_end hi h3], Ent.pick [0] rfl rfl⟩
theorem th_ok : fo_k 190 thC := fo 26 Tryz.func190 (λ_ _ => []) [] thInv thCut fo_o [] th_vc
end
section
open Go
set_option maxHeartbeats 1000000
def tgK (c : Nat) : Bool := !(decide (c < 33) || decide (c > 126))
def tgtV (s : ByteArray) : Bool := allV tgK s && (hpB s ⟨#[47]⟩ && decide (s.size ≤ 256))
abbrev tgtC : Con where
  X := StX
  Y := Unit
  args x := [.string x.s]
  pre _ := []
  cond x := x.s.size ≤ 1048576
  rdc _ _ := True
  rel _ _ := True
  val x _ := .returned (.bool (tgtV x.s))
  post _ _ := []
def tgtInv (x : StX) (F : Atom) : Nat → Option Inv := fun
  | 0 => some { X := AlS, P := λd => d.ok tgK x.s, mu := λd => x.s.size - d.i, lv := λd => [(0, .string x.s), (5, .int .i64 x.s.size), (6, .int .i64 d.i)], st := λ_ => [F] }
  | _ => none
def tgtCut (x : StX) (F : Atom) : Nat → Option Inv := fun
  | 5 => some { X := AlS, P := λd => d.ok tgK x.s ∧ d.i < x.s.size, mu := λ_ => 0, lv := λd => [(0, .string x.s), (5, .int .i64 x.s.size), (6, .int .i64 d.i), (18, .bool (!tgK (bt x.s d.i)))], st := λ_ => [F], gh := some alG }
  | _ => none
def T113 (e0 : StX) (e1 : AlS) (e2 : Atom) (v0 v1 : Value) (ss : St) := ∃ (z : AlS), ((AlS.ok tgK e0.s z ∧ z.i < e0.s.size) ∧ alG.snd z = e1) ∧ (fo_vs e0.s = fo_vs e0.s ∧ fo_vi ↑e0.s.size = fo_vi ↑e0.s.size ∧ v0 = fo_vi ↑z.i ∧ v1 = fo_vb !tgK (bt e0.s z.i) ∧ True) ∧ Ent ss [(0, e2)]
theorem tgt_vc (x : StX) (F : Atom) (hc : tgtC.cond x) (hr : tgtC.rdc x F) :
 (∃(a : AlS), AlS.ok tgK x.s a ∧ q163 x a ∧ Ent [(0, F)] [(0, F)]) ∧ fo_vA λ(f : AlS) _ => AlS.ok tgK x.s f → fo_Bd ((f.i : Int) < (x.s.size : Int)) (∃(d : AlS), (q150 f x ∧ fo_Bd (byteAt x.s (f.i : Int) < 33) (T113 x d F (fo_vi ↑f.i) (fo_vb true) [(0, F)]) (q150 f x ∧ T113 x d F (fo_vi ↑f.i) (fo_vb (decide (byteAt x.s (f.i : Int) > 126))) [(0, F)])) ∧ fo_vA λ(c : AlS) _ => ((AlS.ok tgK x.s c ∧ c.i < x.s.size) ∧ alG.snd c = d) → Br (!tgK (bt x.s c.i)) (Done tgtC x F q54 [(0, F)]) (fo_rI ((c.i : Int) + 1) ∧ ∃(a : AlS), AlS.ok tgK x.s a ∧ q153 x c a ∧ Ent [(0, F)] [(0, F)] ∧ x.s.size - a.i < x.s.size - f.i)) (fo_C0 215 hpC [fo_vs x.s, fo_vs ⟨#[47]⟩] (λb a => Br (hpB b.a b.b) (Done tgtC x F (fo_rt (fo_vb (decide ((x.s.size : Int) ≤ 256)))) [(0, F)]) (Done tgtC x F q54 [(0, F)]))) := by
  delta q163 q150 T113 q54 q153 fo_rI fo_C0 fo_vi fo_vs fo_vb fo_Bd fo_rt fo_vA
  have hs : x.s.size ≤ 1048576 := hc
  refine ⟨⟨⟨0, x.s.size + 1⟩, ⟨fo_zl _, by dsimp only; omega, rfl⟩, ⟨rfl, rfl, rfl, fo_tv⟩, Ent.pick [0] rfl rfl⟩, ?_⟩
  rintro ⟨i, f⟩ js ⟨h1, h2, h3⟩
  dsimp only at h1 h2 h3 ⊢
  refine br_decide (λhlt => ⟨⟨i, f⟩, ⟨⟨by omega, hlt⟩, ?_⟩, ?_⟩) (λhge => ?_)
  · have hlt2 := hlt
    have hlt : i < x.s.size := by omega
    have eNul : byteAt x.s (i : Int) = (bt x.s i : Int) := by rw [byteAt_bt, fo_tn]
    rw [eNul]
    have fin : ∀ t : Bool, t = (!tgK (bt x.s i)) → ∃ d : AlS, ((d.ok tgK x.s ∧ d.i < x.s.size) ∧ alG.snd d = ⟨i, f⟩) ∧ (string x.s = string x.s ∧ int .i64 (x.s.size : Int) = int .i64 (x.s.size : Int) ∧ int .i64 (i : Int) = int .i64 (d.i : Int) ∧ bool t = bool (!tgK (bt x.s d.i)) ∧ True) ∧ Ent [(0, F)] [(0, F)] := λt e =>
      ⟨⟨i, f⟩, ⟨⟨⟨h1, h2, h3⟩, hlt⟩, rfl⟩, ⟨rfl, rfl, rfl, by rw [e], fo_tv⟩, Ent.pick [0] rfl rfl⟩
    refine br_decide (λa => fin _ ?_) (λa => ⟨⟨by omega, hlt2⟩, fin _ ?_⟩)
    · unfold tgK
      rw [fo_dt (show bt x.s i < 33 by omega)] <;> rfl
    · unfold tgK
      rw [fo_df (show ¬ bt x.s i < 33 by omega), Bool.false_or, Bool.not_not, decide_eq_decide]
      omega
  · rintro ⟨i', f2⟩ js ⟨⟨⟨h1, h2, h3⟩, hlt⟩, e⟩
    have e : AlS.mk i' f2 = ⟨i, f⟩ := e
    cases e
    dsimp only at h1 h2 h3 hlt ⊢
    obtain ⟨f', rfl⟩ : ∃ f', f = f' + 1 := ⟨f - 1, by omega⟩
    have h4 := allF_go hlt h3
    refine br_intro (λk => ?_) (λk => ?_)
    · have k : tgK (bt x.s i) = false := by simpa using k
      rw [k, fo_cf] at h4
      exact ⟨(), fo_tv, by show _ = returned (.bool (tgtV x.s)); unfold tgtV; rw [h4] <;> rfl, Ent.pick [0] rfl rfl⟩
    · have k : tgK (bt x.s i) = true := by simpa using k
      rw [k, fo_ct] at h4
      exact ⟨⟨by omega, by omega⟩, ⟨i + 1, f'⟩, ⟨hlt, by dsimp only; omega, h4⟩, ⟨rfl, rfl, rfl, fo_tv⟩, Ent.pick [0] rfl rfl, by dsimp only; omega⟩
  · have hi : ¬ i < x.s.size := by omega
    obtain ⟨f', rfl⟩ : ∃ f', f = f' + 1 := ⟨f - 1, by omega⟩
    have hv := allF_end hi h3
    have e2 : decide ((x.s.size : Int) ≤ 256) = decide (x.s.size ≤ 256) := by rw [decide_eq_decide]; omega
    rw [e2]
    refine ⟨hp_ok, rfl, ⟨x.s, ⟨#[47]⟩⟩, rfl, rfl, fo_tv, fo_tv, λ_ _ => br_intro (λk => ⟨(), fo_tv, ?_, Ent.pick [0] rfl rfl⟩) (λk => ⟨(), fo_tv, ?_, Ent.pick [0] rfl rfl⟩)⟩
    · have k : hpB x.s ⟨#[47]⟩ = true := k
      show _ = returned (.bool (tgtV x.s))
      unfold tgtV
      rw [hv, k] <;> rfl
    · have k : hpB x.s ⟨#[47]⟩ = false := k
      show _ = returned (.bool (tgtV x.s))
      unfold tgtV
      rw [hv, k] <;> rfl
theorem tgt_ok : fo_k 192 tgtC := fo 27 Tryz.func192 (λ_ _ => [(7, 1, .c hpC [] [])]) [] tgtInv tgtCut fo_o [] tgt_vc
def ctnS (nm : ByteArray) (p : Nat × ByteArray) (f : Fld) : Nat × ByteArray := bif bEq f.1 nm then (p.1 + 1, bif p.1 == 0 then f.2 else p.2) else p
def ctnV (nm : ByteArray) (l : List Fld) : Nat × ByteArray := l.foldl (ctnS nm) (0, ⟨#[]⟩)
theorem ctnV_take {nm : ByteArray} {l : List Fld} {i : Nat} {q : Fld} (h : l[i]? = some q) : ctnV nm (l.take (i + 1)) = ctnS nm (ctnV nm (l.take i)) q := by
  unfold ctnV
  rw [List.take_add_one, h, Option.toList_some, List.foldl_append] <;> rfl
theorem ctn_le (nm : ByteArray) (l : List Fld) : (ctnV nm l).1 ≤ l.length := by
  have : ∀ (l : List Fld) (a : Nat × ByteArray), (l.foldl (ctnS nm) a).1 ≤ a.1 + l.length := by
    intro l
    induction l with
    | nil => intro a; exact fo_nr _
    | cons f l ih =>
      intro a
      rw [List.foldl_cons]
      have h1 := ih (ctnS nm a f)
      have h2 : (ctnS nm a f).1 ≤ a.1 + 1 := by
        unfold ctnS
        cases bEq f.1 nm with
        | true => exact fo_nr _
        | false => exact Nat.le_succ _
      rw [fo_lc]
      omega
  have h := this l (0, ⟨#[]⟩)
  rw [fo_za] at h
  exact h
structure CtnX where
  b : Nat
  a : Option Addr
  n : Nat
  c : Nat
  l : List Fld
  nm : ByteArray
abbrev ctnC : Con where
  X := CtnX
  Y := Unit
  args x := [.pointer (some ⟨x.b, 0, none⟩), .string x.nm]
  pre _ := []
  cond x := IsSrc 2 (fCs x.l) x.a x.n ∧ x.n ≤ 1000000
  rdc x F := Look F ⟨x.b, 1, none⟩ (.slice x.a x.n x.c) ∧ Srcd F x.a (fCs x.l)
  rel _ _ := True
  val x _ := .returned (.tuple #[.int .i64 (ctnV x.nm x.l).1, .string (ctnV x.nm x.l).2])
  post _ _ := []
  rmono _ _ _ hs h := ⟨h.1.sub hs, h.2.sub hs⟩
structure CtnS where
  i : Nat
def ctnInv (x : CtnX) (F : Atom) : Nat → Option Inv := fun
  | 0 => some { X := CtnS, P := λd => d.i ≤ x.l.length, mu := λd => x.l.length - d.i, lv := λd => [(1, .string x.nm), (6, .int .i64 (ctnV x.nm (x.l.take d.i)).1), (7, .string (ctnV x.nm (x.l.take d.i)).2), (13, .slice x.a x.n x.c), (14, .int .i64 x.n), (15, .int .i64 d.i)], st := λ_ => [F] }
  | _ => none
def ctnOv (x : CtnX) (_F : Atom) : List (Nat × Nat × OH) := [(2, 3, .q [.ex 0 (.is (.slice x.a x.n x.c))]), (4, 0, .qo (ixQ 2)), (4, 1, .q [.ex 0 .str, .ex 0 .str]), (4, 2, .n 4020), (4, 3, .w [.aq 4020, .aq 4020]), (5, 1, .q [.aq 4020]), (7, 1, .q [.aq 4020])]
def T114 (e0 : CtnX) (e1 : Atom) (v0 v1 v2 : Value) (ss : St) (mm : Nat) := ∃ (z : CtnS), z.i ≤ e0.l.length ∧ (fo_vs e0.nm = fo_vs e0.nm ∧ v0 = fo_vi (↑(ctnV e0.nm (List.take z.i e0.l)).fst : Int) ∧ v1 = fo_vs (ctnV e0.nm (List.take z.i e0.l)).snd ∧ fo_vl e0.a e0.n e0.c = fo_vl e0.a e0.n e0.c ∧ fo_vi ↑e0.n = fo_vi ↑e0.n ∧ v2 = fo_vi ↑z.i ∧ True) ∧ Ent ss [(0, e1)] ∧ e0.l.length - z.i < mm
theorem ctn_vc (x : CtnX) (F : Atom) (hc : ctnC.cond x) (hr : ctnC.rdc x F) :
 Look F ⟨x.b, 1, none⟩ (fo_vl x.a x.n x.c) ∧ (∃(a : CtnS), a.i ≤ x.l.length ∧ (fo_vs x.nm = fo_vs x.nm ∧ fo_vi 0 = fo_vi (↑(ctnV x.nm (List.take a.i x.l)).fst : Int) ∧ fo_vs ⟨#[]⟩ = fo_vs (ctnV x.nm (List.take a.i x.l)).snd ∧ fo_vl x.a x.n x.c = fo_vl x.a x.n x.c ∧ fo_vi ↑x.n = fo_vi ↑x.n ∧ fo_vi 0 = fo_vi ↑a.i ∧ True) ∧ Ent [(0, F)] [(0, F)]) ∧ fo_vA λ(g : CtnS) _ => g.i ≤ x.l.length → fo_Bd ((g.i : Int) < (x.n : Int)) (T30 (opIn Tryz.f143 4 0) [fo_vl x.a x.n x.c, fo_vi ↑g.i] (λe => T25 F ⟨e.b, e.o + e.n.toNat * 2, none⟩ (λd => T25 F ⟨e.b, e.o + e.n.toNat * 2 + 1, none⟩ (λc => ∀(b : Nat), fo_sm b 0 ∧ fo_sm b 1 ∧ fo_sm b 0 ∧ Br (d.toList == x.nm.toList) (Br ((↑(ctnV x.nm (List.take g.i x.l)).fst : Int) == 0) (fo_sm b 1 ∧ fo_rI ((↑(ctnV x.nm (List.take g.i x.l)).fst : Int) + 1) ∧ fo_rI ((g.i : Int) + 1) ∧ T114 x F (fo_vi ((↑(ctnV x.nm (List.take g.i x.l)).fst : Int) + 1)) (fo_vs c) (fo_vi ((g.i : Int) + 1)) (q324 F b d c) (x.l.length - g.i)) (fo_rI ((↑(ctnV x.nm (List.take g.i x.l)).fst : Int) + 1) ∧ fo_rI ((g.i : Int) + 1) ∧ T114 x F (fo_vi ((↑(ctnV x.nm (List.take g.i x.l)).fst : Int) + 1)) (fo_vs (ctnV x.nm (List.take g.i x.l)).snd) (fo_vi ((g.i : Int) + 1)) (q324 F b d c) (x.l.length - g.i))) (fo_rI ((g.i : Int) + 1) ∧ T114 x F (fo_vi (↑(ctnV x.nm (List.take g.i x.l)).fst : Int)) (fo_vs (ctnV x.nm (List.take g.i x.l)).snd) (fo_vi ((g.i : Int) + 1)) (q324 F b d c) (x.l.length - g.i)))))) (Done ctnC x F (fo_rt (tuple ⟨[fo_vi (↑(ctnV x.nm (List.take g.i x.l)).fst : Int), fo_vs (ctnV x.nm (List.take g.i x.l)).snd]⟩)) [(0, F)]) := by
  delta q175 T30 T25 T114 q210 q324 fo_sm fo_rI fo_vi fo_vs fo_vl fo_cl fo_Bd fo_rt fo_vA
  obtain ⟨b, a, n, c, l, nm⟩ := x
  obtain ⟨hsrc, hn⟩ := hc
  obtain ⟨hl, hr⟩ := hr
  have hr : Srcd F a (fCs l) := hr
  dsimp only at hsrc hn hl ⊢
  have hnl := hsrc.len
  rw [fCs_length] at hnl
  refine ⟨hl, ⟨⟨0⟩, fo_zl _, ⟨rfl, rfl, rfl, rfl, rfl, rfl, fo_tv⟩, Ent.pick [0] rfl rfl⟩, ?_⟩
  rintro ⟨i⟩ js h1
  dsimp only at h1 ⊢
  have hle := ctn_le nm (l.take i)
  rw [List.length_take] at hle
  refine br_decide (λhlt => ?_) (λhge => ?_)
  · have hlt : i < l.length := by omega
    obtain ⟨c2, o, rfl⟩ := hsrc.some (by omega)
    obtain ⟨q, hq⟩ : ∃ q, l[i]? = some q := ⟨l[i], fo_ge hlt⟩
    obtain ⟨g1, g2⟩ := fCs_get hq
    have ht := ctnV_take (nm := nm) hq
    have fin : ∀ (u : Int) (s : ByteArray) (b : Nat), u = ((ctnS nm (ctnV nm (l.take i)) q).1 : Int) → s = (ctnS nm (ctnV nm (l.take i)) q).2 → ∃ y : CtnS, y.i ≤ l.length ∧ (string nm = string nm ∧ int .i64 u = int .i64 ((ctnV nm (l.take y.i)).1 : Int) ∧ string s = string (ctnV nm (l.take y.i)).2 ∧ slice (some ⟨c2, o, none⟩) n c = slice (some ⟨c2, o, none⟩) n c ∧ int .i64 (n : Int) = int .i64 (n : Int) ∧ int .i64 ((i : Int) + 1) = int .i64 (y.i : Int) ∧ True) ∧ Ent [(0, F), (4020, .cells b [.string q.1, .string q.2] 36)] [(0, F)] ∧ l.length - y.i < l.length - i := λu s b e1 e2 =>
      ⟨⟨i + 1⟩, hlt, ⟨rfl, by dsimp only; rw [ht, e1], by dsimp only; rw [ht, e2], rfl, rfl, rfl, fo_tv⟩, Ent.pick [0] rfl rfl, by dsimp only; omega⟩
    refine ⟨ixq_ok 2 rfl rfl rfl rfl, ⟨c2, o, n, c, i⟩, rfl, ⟨by dsimp only; omega, by dsimp only; omega⟩, q.1, ?_, q.2, ?_, λd => ⟨⟨rfl, rfl⟩, ⟨rfl, rfl⟩, ⟨rfl, rfl⟩, br_intro (λk => br_intro (λk2 => ⟨⟨rfl, rfl⟩, ⟨by omega, by omega⟩, ⟨by omega, by omega⟩, fin _ _ d ?_ ?_⟩) (λk2 => ⟨⟨by omega, by omega⟩, ⟨by omega, by omega⟩, fin _ _ d ?_ ?_⟩)) (λk => ⟨⟨by omega, by omega⟩, fin _ _ d ?_ ?_⟩)⟩⟩
    · have := Srcd.look hr g1
      dsimp only
      rw [fo_tn, Nat.mul_comm]
      exact this
    · have := Srcd.look hr g2
      dsimp only
      rw [fo_tn, Nat.mul_comm i 2, Nat.add_assoc]
      exact this
    all_goals
      unfold ctnS
      have k : bEq q.1 nm = _ := k
      rw [k]
    · rfl
    · rw [eqN 0 k2] <;> rfl
    · rfl
    · rw [eqN 0 k2] <;> rfl
    · rfl
    · rfl
  · have hi : i = l.length := by omega
    rw [hi, List.take_length]
    exact ⟨(), fo_tv, rfl, Ent.pick [0] rfl rfl⟩
theorem ctn_ok : fo_k 143 ctnC := fo 32 Tryz.func143 ctnOv [] ctnInv fo_i fo_o [] ctn_vc
end
section
open Go
set_option maxHeartbeats 1000000
def spW (p s : ByteArray) : List ByteArray := Lib.splitB p 0 (Lib.countB s p) s
theorem splitB_size (sep : ByteArray) (save : Nat) : ∀ (k : Nat) (s x : ByteArray), x ∈ Lib.splitB sep save k s → x.size ≤ s.size
  | 0, s, x, h => by
    rw [Lib.splitB_zero, List.mem_singleton] at h
    rw [h]; exact fo_nr _
  | k + 1, s, x, h => by
    unfold Lib.splitB at h
    split at h
    · rw [List.mem_singleton] at h
      rw [h]; exact fo_nr _
    · rcases List.mem_cons.1 h with rfl | h
      · rw [fo_se]; omega
      · have := splitB_size sep save k _ x h
        rw [fo_se] at this
        omega
theorem spW_size {p s x : ByteArray} (h : x ∈ spW p s) : x.size ≤ s.size := splitB_size p 0 _ s x h
def sHt11 : ByteArray := ⟨#[72, 84, 84, 80, 47, 49, 46, 49]⟩
def rqlL : List ByteArray → ByteArray × ByteArray × Bool
  | [a, b, c] => bif tokV a && (tgtV b && bEq c sHt11) then (a, b, true) else (⟨#[]⟩, ⟨#[]⟩, false)
  | _ => (⟨#[]⟩, ⟨#[]⟩, false)
def rqlV (s : ByteArray) : ByteArray × ByteArray × Bool := rqlL (spW ⟨#[32]⟩ s)
abbrev rqC : Con where
  X := StX
  Y := Unit
  args x := [.string x.s]
  pre _ := []
  cond x := x.s.size ≤ 1048576
  rdc _ F := Gl F
  rel _ _ := True
  val x _ := .returned (.tuple #[.string (rqlV x.s).1, .string (rqlV x.s).2.1, .bool (rqlV x.s).2.2])
  post _ _ := []
  rmono _ _ _ hs h := h.sub hs
def q101 (x : StX) (F : Atom) (o : Row) := Done rqC x F (fo_rt (tuple ⟨[fo_vs ⟨#[]⟩, fo_vs ⟨#[]⟩, fo_vb false]⟩)) [(0, F), (1, o.A)]
def T115 := fo_C1 189 tokC q237
theorem rq_vc (x : StX) (F : Atom) (hc : rqC.cond x) (hr : rqC.rdc x F) :
 T24 [fo_vs x.s, fo_vs ⟨#[32]⟩] ([] : List Atom) (q114 F) (λp o => Br ((o.n : Int) != 3) (q101 x F o) (T48 (opIn Tryz.f141 2 5) [fo_vl o.a o.n o.cap, fo_vi 0] (λn => T25 o.A ⟨n.b, n.o + n.n.toNat * 1, none⟩ (λm => T115 [fo_vs m] (λl k => Br (!tokV l.s) (q101 x F o) (T48 (opIn Tryz.f141 2 12) [fo_vl o.a o.n o.cap, fo_vi 1] (λj => T25 o.A ⟨j.b, j.o + j.n.toNat * 1, none⟩ (λi => fo_C1 192 tgtC (λh => h.s.size ≤ 1048576) [fo_vs i] (λh g => Br (!tgtV h.s) (q101 x F o) (T48 (opIn Tryz.f141 2 19) [fo_vl o.a o.n o.cap, fo_vi 2] (λf => T25 o.A ⟨f.b, f.o + f.n.toNat * 1, none⟩ (λe => Br (!e.toList == (ByteArray.mk #[72, 84, 84, 80, 47, 49, 46, 49]).toList) (q101 x F o) (true = true ∧ T48 (opIn Tryz.f141 4 1) [fo_vl o.a o.n o.cap, fo_vi 0] (λd => T25 o.A ⟨d.b, d.o + d.n.toNat * 1, none⟩ (λc => T48 (opIn Tryz.f141 4 4) [fo_vl o.a o.n o.cap, fo_vi 1] (λb => T25 o.A ⟨b.b, b.o + b.n.toNat * 1, none⟩ (λa => Done rqC x F (fo_rt (tuple ⟨[fo_vs c, fo_vs a, fo_vb true]⟩)) [(0, F), (1, o.A)]))))))))))))))))) := by
  delta T24 q114 q101 q175 T48 T25 q237 T115 fo_aR fo_C1 fo_C4 fo_vi fo_vs fo_vb fo_vl fo_rt
  have hs : x.s.size ≤ 1048576 := hc
  have hr : Gl F := hr
  refine ⟨spl_ok, rfl, ⟨x.s, ⟨#[32]⟩⟩, rfl, rfl, ⟨hs, (by dsimp only; decide)⟩, hr.sub (sub_rest (A := F) 0 (by simp) rfl), λy hy => ?_⟩
  obtain ⟨hrow, -⟩ := hy
  have hrow : IsRow 9 1 (strs (spW ⟨#[32]⟩ x.s)) y := hrow
  have hz : ∀ z ∈ spW ⟨#[32]⟩ x.s, z.size ≤ 1048576 := λz h => fo_lt (spW_size h) hs
  have hV : rqlV x.s = rqlL (spW ⟨#[32]⟩ x.s) := rfl
  have hlen := hrow.len
  rw [strs_length] at hlen
  revert hrow hz hV hlen
  generalize spW ⟨#[32]⟩ x.s = L
  intro hrow hz hV hlen
  have no : rqlV x.s = (⟨#[]⟩, ⟨#[]⟩, false) → Done rqC x F (returned (tuple #[.string ⟨#[]⟩, .string ⟨#[]⟩, .bool false])) [(0, F), (1, y.A)] := λe =>
    ⟨(), fo_tv, by show _ = returned (.tuple #[.string (rqlV x.s).1, .string (rqlV x.s).2.1, .bool (rqlV x.s).2.2]); rw [e], Ent.pick [0] rfl rfl⟩
  refine br_intro (λh => no ?_) (λh => ?_)
  · have h : L.length ≠ 3 := by
      intro e
      rw [show y.n = 3 by omega] at h
      cases h
    rw [hV]
    match L, h with
    | [], _ => rfl
    | [_], _ => rfl
    | [_, _], _ => rfl
    | [_, _, _], h => exact absurd rfl h
    | _ :: _ :: _ :: _ :: _, _ => rfl
  have h3 : y.n = 3 := by
    have h : ((y.n : Int) != 3) = false := h
    have : (y.n : Int) = 3 := by simpa using h
    omega
  obtain ⟨a, c, d, rfl⟩ : ∃ a c d, L = [a, c, d] := by
    match L, (show L.length = 3 by omega) with
    | [a, c, d], _ => exact ⟨a, c, d, rfl⟩
  obtain ⟨b, hb⟩ := hrow.at0 (by omega)
  have hsr := hrow.srcd
  rw [hb] at hsr
  rw [hb, h3]
  have k0 : Look y.A ⟨b, 0 + (0 : Int).toNat * 1, none⟩ (.string a) := hsr.look (j := 0) rfl
  have k1 : Look y.A ⟨b, 0 + (1 : Int).toNat * 1, none⟩ (.string c) := hsr.look (j := 1) rfl
  have k2 : Look y.A ⟨b, 0 + (2 : Int).toNat * 1, none⟩ (.string d) := hsr.look (j := 2) rfl
  have za := hz a (by simp)
  have zc := hz c (by simp)
  have hV : rqlV x.s = bif tokV a && (tgtV c && bEq d sHt11) then (a, c, true) else (⟨#[]⟩, ⟨#[]⟩, false) := hV
  refine ⟨ixq_ok 1 rfl rfl rfl rfl, ⟨b, 0, 3, y.cap, 0⟩, rfl, ⟨by dsimp only; omega, by dsimp only; omega⟩, a, k0, tok_ok, rfl, ⟨a⟩, rfl, rfl, za, fo_tv, λ_ _ => br_intro (λq => no ?_) (λq => ⟨ixq_ok 1 rfl rfl rfl rfl, ⟨b, 0, 3, y.cap, 1⟩, rfl, ⟨by dsimp only; omega, by dsimp only; omega⟩, c, k1, tgt_ok, rfl, ⟨c⟩, rfl, rfl, zc, fo_tv, λ_ _ => br_intro (λq2 => no ?_) (λq2 => ⟨ixq_ok 1 rfl rfl rfl rfl, ⟨b, 0, 3, y.cap, 2⟩, rfl, ⟨by dsimp only; omega, by dsimp only; omega⟩, d, k2, br_intro (λq3 => no ?_) (λq3 => ⟨rfl, ixq_ok 1 rfl rfl rfl rfl, ⟨b, 0, 3, y.cap, 0⟩, rfl, ⟨by dsimp only; omega, by dsimp only; omega⟩, a, k0, ixq_ok 1 rfl rfl rfl rfl, ⟨b, 0, 3, y.cap, 1⟩, rfl, ⟨by dsimp only; omega, by dsimp only; omega⟩, c, k1, (), fo_tv, ?_, Ent.pick [0] rfl rfl⟩)⟩)⟩)⟩
  · have q : tokV a = false := by simpa using q
    rw [hV, q] <;> rfl
  · have q2 : tgtV c = false := by simpa using q2
    rw [hV, q2, fo_fba, fo_baf] <;> rfl
  · have q3 : (!bEq d sHt11) = true := q3
    have q3 : bEq d sHt11 = false := by simpa using q3
    rw [hV, q3, fo_baf, fo_baf] <;> rfl
  · have q : tokV a = true := by simpa using q
    have q2 : tgtV c = true := by simpa using q2
    have q3 : (!bEq d sHt11) = false := q3
    have q3 : bEq d sHt11 = true := by simpa using q3
    show _ = returned (.tuple #[.string (rqlV x.s).1, .string (rqlV x.s).2.1, .bool (rqlV x.s).2.2])
    rw [hV, q, q2, q3] <;> rfl
theorem rq_ok : fo_k 141 rqC := fo 37 Tryz.func141 (λ_ _ => [(1, 1, .c splC [] [1]), (2, 5, .qo (ixQ 1)), (2, 6, .q [.ex 1 .str]), (2, 7, .c tokC [] []), (2, 12, .qo (ixQ 1)), (2, 13, .q [.ex 1 .str]), (2, 14, .c tgtC [] []), (2, 19, .qo (ixQ 1)), (2, 20, .q [.ex 1 .str]), (4, 1, .qo (ixQ 1)), (4, 2, .q [.ex 1 .str]), (4, 4, .qo (ixQ 1)), (4, 5, .q [.ex 1 .str])]) [] fo_i fo_i fo_o [] rq_vc
abbrev rqfC : Con where
  X := StX
  Y := Unit
  args x := [.string x.s]
  pre _ := []
  cond x := x.s.size ≤ 1048576
  rdc _ F := Gl F
  rel _ _ := True
  val x _ := .returned (.bool (rqlV x.s).2.2)
  post _ _ := []
  rmono _ _ _ hs h := h.sub hs
def T116 := fo_C2 141 rqC q237 (λ_ => Gl)
theorem rqf_vc (x : StX) (F : Atom) (hc : rqfC.cond x) (hr : rqfC.rdc x F) :
 T116 [fo_vs x.s] (q114 F) (λb a => Done rqfC x F (fo_rt (fo_vb (rqlV b.s).snd.snd)) [(0, F)]) := by
  delta q237 T116 q114 fo_aR fo_C2 fo_vs fo_vb fo_rt
  exact ⟨rq_ok, rfl, ⟨x.s⟩, rfl, rfl, hc, Gl.sub (A := F) hr (sub_rest (A := F) 0 (by simp) rfl), λ_ _ => ⟨(), fo_tv, rfl, Ent.pick [0] rfl rfl⟩⟩
theorem rqf_ok : fo_k 140 rqfC := fo 13 Tryz.func140 (λ_ _ => [(1, 1, .c rqC [] [])]) [] fo_i fo_i fo_o [] rqf_vc
end
section
open Go
set_option maxHeartbeats 1000000
structure AuOk (s : ByteArray) : Prop where
  lo : 1 ≤ s.size
  hi : s.size ≤ 9
  dig : ∀ i : Nat, i < s.size → 48 ≤ byteAt s i ∧ byteAt s i ≤ 57
abbrev auC : Con where
  X := ZsX
  Y := Unit
  args x := [.string x.s]
  pre _ := []
  cond x := AuOk x.s
  rdc _ _ := True
  rel _ _ := True
  val x _ := .returned (.tuple #[.int .i64 (atN x.s x.s.size), .nilIface])
  post _ _ := []
def auSt (x : ZsX) (F : Atom) (d : AtS) : List Atom := [F, .obj d.b (.cells (sbRow x.s d.c) 5 ((sbRow x.s d.c).size, (sbRow x.s d.c).size + 1))]
def auInv (x : ZsX) (F : Atom) : Nat → Option Inv := fun
  | 0 => some { X := AtS, P := λd => d.i ≤ x.s.size ∧ x.s.size ≤ d.c, mu := λd => 10 - d.i, lv := λd => [(5, .string x.s), (6, .int .i64 (atN x.s d.i)), (47, .slice (some ⟨d.b, 0, none⟩) x.s.size d.c), (48, .int .i64 x.s.size), (49, .int .i64 d.i)], st := λd => auSt x F d }
  | _ => none
def auCut (x : ZsX) (F : Atom) : Nat → Option Inv := fun
  | 8 => some { X := Unit, P := λ_ => True, mu := λ_ => 0, lv := λ_ => [(0, .string x.s), (5, .string x.s)], st := λ_ => [F] }
  | _ => none
def T117 (e0 : Atom) (e1 : ZsX) (v0 : Value) (ss : St) := ∃ (z : Unit), True ∧ (v0 = fo_vs e1.s ∧ fo_vs e1.s = fo_vs e1.s ∧ True) ∧ Ent ss [(0, e0)]
def q83 (x : ZsX) (F : Atom) := q300 x ∧ Br (q279 x) (Done auC x F q155 [(0, F)]) (T117 F x (q327 x) [(0, F)])
abbrev q62 (F : Atom) (a : AtS) (x : ZsX) := [(0, F), (1, fo_ob a.b (Obj.cells (sbRow x.s a.c) 5 ((sbRow x.s a.c).size, (sbRow x.s a.c).size + 1)))]
theorem aui_vc (x : ZsX) (F : Atom) (hc : auC.cond x) (hr : auC.rdc x F) :
 fo_Bd (0 < (x.s.size : Int)) (fo_Bd ((x.s.size : Int) < 19) ((q170 x ∧ Br (q290 x) (q83 x F) (q170 x ∧ Br (byteAt x.s (0 : Int) == (43 : Int)) (q83 x F) (∃(a : Unit), True ∧ (fo_vs x.s = fo_vs x.s ∧ fo_vs x.s = fo_vs x.s ∧ True) ∧ Ent [(0, F)] [(0, F)]))) ∧ fo_vA λ(i : Unit) _ => True → T66 (opIn Tryz.f169 9 1) [fo_vs x.s] (λg f => (∃(a : AtS), (a.i ≤ x.s.size ∧ x.s.size ≤ a.c) ∧ (fo_vs x.s = fo_vs x.s ∧ fo_vi 0 = fo_vi (atN x.s a.i) ∧ fo_vl (some ⟨f.b, 0, none⟩) g.s.size f.c = fo_vl (q221 a) x.s.size a.c ∧ fo_vi ↑g.s.size = fo_vi ↑x.s.size ∧ fo_vi 0 = fo_vi ↑a.i ∧ True) ∧ Ent (q320 F f g) (q62 F a x)) ∧ fo_vA λ(e : AtS) _ => (e.i ≤ x.s.size ∧ x.s.size ≤ e.c) → fo_Bd ((e.i : Int) < (x.s.size : Int)) (T48 (opIn Tryz.f169 11 0) [fo_vl (q221 e) x.s.size e.c, fo_vi ↑e.i] (λc => T67 (fo_ob e.b (Obj.cells (sbRow x.s e.c) 5 ((sbRow x.s e.c).size, (sbRow x.s e.c).size + 1))) ⟨c.b, c.o + c.n.toNat * 1, none⟩ (λb => fo_Bd (u8.wrap (b - 48) > 9) (Done auC x F q155 (q62 F e x)) (fo_rI (atN x.s e.i * 10) ∧ fo_rI (u8.wrap (b - 48)) ∧ fo_rI (atN x.s e.i * 10 + u8.wrap (b - 48)) ∧ fo_rI ((e.i : Int) + 1) ∧ ∃(a : AtS), (a.i ≤ x.s.size ∧ x.s.size ≤ a.c) ∧ (fo_vs x.s = fo_vs x.s ∧ fo_vi (atN x.s e.i * 10 + u8.wrap (b - 48)) = fo_vi (atN x.s a.i) ∧ fo_vl (q221 e) x.s.size e.c = fo_vl (q221 a) x.s.size a.c ∧ fo_vi ↑x.s.size = fo_vi ↑x.s.size ∧ fo_vi ((e.i : Int) + 1) = fo_vi ↑a.i ∧ True) ∧ Ent (q62 F e x) (q62 F a x) ∧ 10 - a.i < 10 - e.i)))) (q170 x ∧ Br (q290 x) (Done auC x F (fo_rt (tuple ⟨[fo_vi (fo_wi ((0 : Int) - atN x.s e.i)), nilIface]⟩)) (q62 F e x)) (Done auC x F (fo_rt (tuple ⟨[fo_vi (atN x.s e.i), nilIface]⟩)) (q62 F e x))))) False) False := by
  delta q170 q290 q300 q279 q155 T117 q327 q83 T66 q221 q320 q62 q175 T48 T67 fo_rI fo_O5 fo_vi fo_vc fo_vs fo_vl fo_vf fo_ob fo_wi fo_Bd fo_rt fo_vA
  obtain ⟨s⟩ := x
  obtain ⟨h1, h2, h4⟩ := (hc : AuOk s)
  dsimp only at h1 h2 h4 ⊢
  have P0 : Ent [(0, F)] [(0, F)] := Ent.pick [0] rfl rfl
  have rng : ∀ i, i ≤ s.size → 0 ≤ atN s i ∧ atN s i < 10 ^ i := by
    intro i
    induction i with
    | zero => intro _; exact ⟨fo_ir 0, by show (0 : Int) < 10 ^ 0; decide⟩
    | succ i ih =>
      intro hi
      obtain ⟨a, b⟩ := ih (by omega)
      have := h4 i (by omega)
      rw [atN, Int.pow_succ]
      omega
  have d0 := h4 0 (by omega)
  have d0 : 48 ≤ byteAt s 0 ∧ byteAt s 0 ≤ 57 := d0
  have n45 : (byteAt s 0 == 45) = false := beq_false_of_ne (by omega)
  have n43 : (byteAt s 0 == 43) = false := beq_false_of_ne (by omega)
  refine br_decide (λ_ => br_decide (λ_ => ⟨⟨⟨fo_ir _, by omega⟩, br_intro (λq => by rw [n45] at q; cases q) (λq => ⟨⟨fo_ir _, by omega⟩, br_intro (λq2 => by rw [n43] at q2; cases q2) (λq2 => ⟨(), fo_tv, ⟨rfl, rfl, fo_tv⟩, P0⟩)⟩)⟩, ?_⟩) (λq => (q (by omega)).elim)) (λq => (q (by omega)).elim)
  rintro _ js -
  refine ⟨s2b_ok rfl rfl rfl rfl, rfl, ⟨s⟩, rfl, rfl, fo_tv, fo_tv, λy hy => ⟨⟨⟨0, y.b, y.c⟩, ⟨fo_zl _, hy⟩, ⟨rfl, rfl, rfl, rfl, rfl, fo_tv⟩, Ent.pick [0, 5000] rfl rfl⟩, ?_⟩⟩
  rintro ⟨i, b, c⟩ js ⟨g1, g2⟩
  dsimp only at g1 g2 ⊢
  obtain ⟨r1, r2⟩ := rng i g1
  have r3 : (10 : Int) ^ i ≤ 1000000000 := by
    have a : 10 ^ i ≤ 10 ^ 9 := fo_pp (by decide) (by omega)
    have b : (10 : Int) ^ i = ((10 ^ i : Nat) : Int) := by rw [Int.natCast_pow] <;> rfl
    have e : (10 : Nat) ^ 9 = 1000000000 := by decide
    omega
  refine br_decide (λq => ⟨ixq_ok 1 rfl rfl rfl rfl, ⟨b, 0, s.size, c, i⟩, rfl, ⟨by dsimp only; omega, by dsimp only; omega⟩, byteAt s i, ?_, ?_⟩) (λq => ?_)
  · rw [show 0 + ((i : Nat) : Int).toNat * 1 = i by omega]
    exact Look.objc (vs := (sbRow s c).toList) (sbRow_get (by omega))
  · have hd := h4 i (by omega)
    rw [wrap_in (i := .u8) (n := byteAt s i - 48) ⟨by omega, by omega⟩]
    refine br_decide (λq2 => absurd q2 (by omega)) (λ_ => ⟨⟨by omega, by omega⟩, ⟨by omega, by omega⟩, ⟨by omega, by omega⟩, ⟨by omega, by omega⟩, ⟨i + 1, b, c⟩, ⟨by dsimp only; omega, g2⟩, ⟨rfl, rfl, rfl, rfl, ?_, fo_tv⟩, Ent.pick [0, 1] rfl rfl, by dsimp only; omega⟩)
    exact congrArg _ (by dsimp only; omega)
  · have hi : i = s.size := by omega
    subst hi
    refine ⟨⟨fo_ir _, by omega⟩, br_intro (λq => by rw [n45] at q; cases q) (λq => ⟨(), fo_tv, rfl, Ent.pick [0] rfl rfl⟩)⟩
theorem aui_ok : fo_k 169 auC := fo 77 Tryz.func169 (λ_ _ => [(9, 1, .o (s2bC 5) [] [5000]), (11, 0, .qo (ixQ 1)), (11, 1, .q [.ex 1 (.int .u8)]), (12, 1, .q []), (13, 1, .q [])]) [(20, 1, OH.q [])] auInv auCut fo_o [] aui_vc
theorem auo_vc (x : ZsX) (F : Atom) (hc : auC.cond x) (hr : auC.rdc x F) :
 fo_C1 169 auC (λb => AuOk b.s) [fo_vs x.s] (λb a => Done auC x F (fo_rt (tuple ⟨[fo_vi (atN b.s b.s.size), nilIface]⟩)) [(0, F)]) := by
  delta fo_C1 fo_vi fo_vs fo_rt
  exact ⟨aui_ok, rfl, ⟨x.s⟩, rfl, rfl, hc, fo_tv, λ_ _ => ⟨(), fo_tv, rfl, Ent.pick [0] rfl rfl⟩⟩
theorem auo_ok : fo_k 118 auC := fo 18 Tryz.func118 (λ_ _ => [(1, 1, .c auC [] [])]) [] fo_i fo_i fo_o [] auo_vc
end
end Go.Proofs.YtjdabjmjldiodaaGreatDoor
namespace Go.Proofs
section
open Go.Shelf Go.RowKit Go.Lib
def Tryz.laysMap_ren : Go.Shelf.Ren := ⟨λ| 230 => 231 | 197 => 125 | 118 => 266 | 165 => 137 | 166 => 113 | 168 => 267 | 270 => 268 | 167 => 136 | 169 => 29 | 260 => 178 | 240 => 167 | 241 => 185 | 242 => 87 | 276 => 206 | 277 => 229 | 278 => 135 | n => n, λ| 107 => 258 | 9 => 9 | 72 => 81 | 0 => 0 | 4 => 4 | 3 => 3 | 21 => 21 | 105 => 184 | 76 => 174 | 5 => 5 | 75 => 173 | 70 => 78 | 20 => 20 | 37 => 79 | 127 => 130 | 119 => 153 | 46 => 135 | 139 => 156 | 138 => 155 | 164 => 234 | 51 => 191 | 80 => 86 | n => n, λ| 3 => 0 | 4 => 1 | n => n⟩
theorem Tryz.laysMap : Go.Proofs.Lays.n230 Tryz.prog Tryz.laysMap_ren := {
  mixed := by kernel_rfl
  f118 := Tryz.func266.trans (congrArg some (by kernel_rfl))
  f165 := Tryz.func137.trans (congrArg some (by kernel_rfl))
  f166 := Tryz.func113.trans (congrArg some (by kernel_rfl))
  f167 := Tryz.func136.trans (congrArg some (by kernel_rfl))
  f168 := Tryz.func267.trans (congrArg some (by kernel_rfl))
  f169 := Tryz.func29.trans (congrArg some (by kernel_rfl))
  f197 := Tryz.func125.trans (congrArg some (by kernel_rfl))
  f230 := Tryz.func231.trans (congrArg some (by kernel_rfl))
  f240 := Tryz.func167.trans (congrArg some (by kernel_rfl))
  f241 := Tryz.func185.trans (congrArg some (by kernel_rfl))
  f242 := Tryz.func87.trans (congrArg some (by kernel_rfl))
  f260 := Tryz.func178.trans (congrArg some (by kernel_rfl))
  f270 := Tryz.func268.trans (congrArg some (by kernel_rfl))
  f276 := Tryz.func206.trans (congrArg some (by kernel_rfl))
  f277 := Tryz.func229.trans (congrArg some (by kernel_rfl))
  f278 := Tryz.func135.trans (congrArg some (by kernel_rfl))
  t0 := Tryz.underlying0
  a0 := Tryz.isAgg0
  z0 := Tryz.sizeOf0
  v0 := Tryz.zeroValue0
  t3 := Tryz.underlying3
  a3 := Tryz.isAgg3
  z3 := Tryz.sizeOf3
  v3 := Tryz.zeroValue3
  t4 := Tryz.underlying4
  a4 := Tryz.isAgg4
  z4 := Tryz.sizeOf4
  v4 := Tryz.zeroValue4
  t5 := Tryz.underlying5
  a5 := Tryz.isAgg5
  z5 := Tryz.sizeOf5
  v5 := Tryz.zeroValue5
  t9 := Tryz.underlying9
  a9 := Tryz.isAgg9
  z9 := Tryz.sizeOf9
  v9 := Tryz.zeroValue9
  t20 := Tryz.underlying20
  a20 := Tryz.isAgg20
  z20 := Tryz.sizeOf20
  v20 := Tryz.zeroValue20
  t21 := Tryz.underlying21
  a21 := Tryz.isAgg21
  z21 := Tryz.sizeOf21
  v21 := Tryz.zeroValue21
  t37 := Tryz.underlying79
  a37 := Tryz.isAgg79
  z37 := Tryz.sizeOf79
  v37 := Tryz.zeroValue79
  t46 := Tryz.underlying135
  a46 := Tryz.isAgg135
  z46 := Tryz.sizeOf135
  v46 := Tryz.zeroValue135
  t51 := Tryz.underlying191
  a51 := Tryz.isAgg191
  z51 := Tryz.sizeOf191
  v51 := Tryz.zeroValue191
  t70 := Tryz.underlying78
  a70 := Tryz.isAgg78
  z70 := Tryz.sizeOf78
  v70 := Tryz.zeroValue78
  t72 := Tryz.underlying81
  a72 := Tryz.isAgg81
  z72 := Tryz.sizeOf81
  v72 := Tryz.zeroValue81
  t75 := Tryz.underlying173
  a75 := Tryz.isAgg173
  z75 := Tryz.sizeOf173
  v75 := Tryz.zeroValue173
  t76 := Tryz.underlying174
  a76 := Tryz.isAgg174
  z76 := Tryz.sizeOf174
  v76 := Tryz.zeroValue174
  t105 := Tryz.underlying184
  a105 := Tryz.isAgg184
  z105 := Tryz.sizeOf184
  v105 := Tryz.zeroValue184
  t107 := Tryz.underlying258
  a107 := Tryz.isAgg258
  z107 := Tryz.sizeOf258
  v107 := Tryz.zeroValue258
  t119 := Tryz.underlying153
  a119 := Tryz.isAgg153
  z119 := Tryz.sizeOf153
  t127 := Tryz.underlying130
  a127 := Tryz.isAgg130
  z127 := Tryz.sizeOf130
  v127 := Tryz.zeroValue130
  t138 := Tryz.underlying155
  a138 := Tryz.isAgg155
  z138 := Tryz.sizeOf155
  v138 := Tryz.zeroValue155
  t139 := Tryz.underlying156
  a139 := Tryz.isAgg156
  z139 := Tryz.sizeOf156
  v139 := Tryz.zeroValue156
  t164 := Tryz.underlying234
  a164 := Tryz.isAgg234
  z164 := Tryz.sizeOf234
  v164 := Tryz.zeroValue234
  g3 := by kernel_rfl
  g4 := by kernel_rfl
}
theorem Tryz.extraMap : Builder.Extra Tryz.prog Tryz.laysMap_ren := {
  sizeBuilder := by kernel_rfl
  liesBuilder := by kernel_rfl
  t5 := Tryz.laysMap.t5
  a5 := Tryz.laysMap.a5
  z5 := Tryz.laysMap.z5
  v5 := Tryz.laysMap.v5
  infoByte := by kernel_rfl
  cellsByte := by kernel_rfl
  sizeByte := by kernel_rfl
  neB5 := by decide }
theorem Tryz.strings_Map (g : Nat) (eg : ∀ args w, (callFunc g args).run Tryz.prog w = .ok (.enter g args) w) (f : Int → Int) (s : ByteArray) (w : World) (hs : s.size < 35184372088832)
    (hf : MapAtRunes Tryz.prog g #[] f w) (hnn : ∀ x : Nat, x ≤ 1114111 → 0 ≤ f x ∧ f x ≤ 2147483647) (hT : Lib.Utf8Tabs 0 1 w) :
    Calls Tryz.prog 231 #[.func (.func g) #[] #[], .string s] w λe w' => e = .returned (.string ⟨(Lib.mapD f s.data.toList).toArray⟩) ∧ Below w.heap.size w w' := Any.strings_Map_runes Tryz.laysMap Tryz.extraMap g #[] eg f s w hs hf hnn hT
end
end Go.Proofs
namespace Go.Proofs.YtjdabjmjldiodaaGreatDoor
set_option maxRecDepth 100000
open Go.Value (int slice string bool pointer agg tuple func float iface nilIface)
open Go.IntKind (i64 u8 u64 i32 u32 u16 i8 i16)
open Go.FloatKind (f64)
open Go.Ending (returned panicked)
section
open Go
set_option maxHeartbeats 1000000
def loR (r : Int) : Int := bif decide (r ≥ 65) then (bif decide (r ≤ 90) then r + 32 else r) else r
def smV (s : ByteArray) : ByteArray := ⟨(Lib.mapD loR s.data.toList).toArray⟩
set_option maxRecDepth 1000000 in
theorem sm1 (w : World) : MapAtRunes Tryz.prog 232 #[] loR w := by
  intro W x hx hb
  show Calls Tryz.prog 232 #[.int .i32 (x : Int)] W _
  unfold loR
  cases h1 : decide ((x : Int) ≥ 65) <;> cases h2 : decide ((x : Int) ≤ 90)
  all_goals
    go_enter Tryz.func232, Tryz.ntmps232
    go_wp2
    go_ret
    exact ⟨rfl, 0, rfl⟩
theorem loR_rng (x : Nat) (hx : x ≤ 1114111) : 0 ≤ loR x ∧ loR x ≤ 2147483647 := by
  unfold loR
  cases h1 : decide ((x : Int) ≥ 65) <;> cases h2 : decide ((x : Int) ≤ 90) <;> simp only [fo_ct, fo_cf] <;> omega
abbrev mapC : Con where
  X := StX
  Y := Unit
  args x := [.func (.func 232) #[] #[], .string x.s]
  pre _ := []
  cond x := x.s.size ≤ 1048576
  rdc _ F := Utf F
  rel _ _ := True
  val x _ := .returned (.string (smV x.s))
  post _ _ := []
  rmono _ _ _ hs h := h.sub hs
theorem map_ok : fo_k 231 mapC := FnOk.ofBelow mapC (λ_ => rfl) (λ_ _ => ()) (λ_ _ => fo_tv) (λ_ _ => rfl) λx F I w hc hr hs =>
  Go.Proofs.Tryz.strings_Map 232 (enters_of Tryz.func232 (by kernel_rfl) rfl) loR x.s w (by have hc : x.s.size ≤ 1048576 := hc; omega) (sm1 w) loR_rng ⟨λc hc => hs.lookF (hr.first c hc), λi hi => ⟨hs.lookF (hr.accLo i hi), hs.lookF (hr.accHi i hi)⟩⟩
abbrev smlC : Con where
  X := StX
  Y := Unit
  args x := [.string x.s]
  pre _ := []
  cond x := x.s.size ≤ 1048576
  rdc _ F := Utf F
  rel _ _ := True
  val x _ := .returned (.string (smV x.s))
  post _ _ := []
  rmono _ _ _ hs h := h.sub hs
theorem sml_vc (x : StX) (F : Atom) (hc : smlC.cond x) (hr : smlC.rdc x F) :
 fo_C2 231 mapC (λb => b.s.size ≤ 1048576) (λ_ => Utf) [func (Fn.func 232) ⟨[]⟩ ⟨[]⟩, fo_vs x.s] (q114 F) (λb a => Done smlC x F (fo_rt (fo_vs (smV b.s))) [(0, F)]) := by
  delta q114 fo_aR fo_C2 fo_vs fo_rt
  exact ⟨map_ok, rfl, ⟨x.s⟩, rfl, rfl, hc, Utf.rest (j := 0) (by simp) hr, λ_ _ => ⟨(), fo_tv, rfl, Ent.pick [0] rfl rfl⟩⟩
theorem sml_ok : fo_k 191 smlC := fo 5 Tryz.func191 (λ_ _ => [(1, 1, .c mapC [] [])]) [] fo_i fo_i fo_o [] sml_vc
end
end Go.Proofs.YtjdabjmjldiodaaGreatDoor
