/- A part of the proof that pennantlaw23.BasicHears answers true at every input. -/
import Derived.Test.YtjdabjmjldiodaaGreatDoorPHak
set_option linter.all false
namespace Go.Proofs.YtjdabjmjldiodaaGreatDoor
set_option maxRecDepth 100000
open Go.Value (int slice string bool pointer agg tuple func float iface nilIface)
open Go.IntKind (i64 u8 u64 i32 u32 u16 i8 i16)
open Go.FloatKind (f64)
open Go.Ending (returned panicked)
section
open Go
set_option maxHeartbeats 1000000
def tkS : ByteArray := ⟨#[33, 35, 36, 37, 38, 39, 42, 43, 45, 46, 94, 95, 96, 124, 126]⟩
def tkI (c : Nat) : Bool := decide (Lib.indexByte tkS.data.toList (UInt8.ofNat c) ≥ 0)
def tkK (c : Nat) : Bool := (decide (97 ≤ (c ||| 32)) && decide ((c ||| 32) ≤ 122)) || ((decide (48 ≤ c) && decide (c ≤ 57)) || tkI c)
theorem tkK1 {c : Nat} (a : 97 ≤ (c ||| 32)) (b : (c ||| 32) ≤ 122) : tkK c = true := by unfold tkK; rw [fo_dt a, fo_dt b] <;> rfl
theorem tkK2 {c : Nat} (a : 48 ≤ c) (b : c ≤ 57) : tkK c = true := by unfold tkK; rw [fo_dt a, fo_dt b]; simp
theorem tkK3 {c : Nat} (a : ¬ (97 ≤ (c ||| 32) ∧ (c ||| 32) ≤ 122)) (b : ¬ (48 ≤ c ∧ c ≤ 57)) : tkI c = tkK c := by
  unfold tkK
  have a : (decide (97 ≤ (c ||| 32)) && decide ((c ||| 32) ≤ 122)) = false := by simpa using a
  have b : (decide (48 ≤ c) && decide (c ≤ 57)) = false := by simpa using b
  rw [a, b] <;> rfl
def allF (k : Nat → Bool) (s : ByteArray) : Nat → Nat → Bool
  | 0, _ => true
  | f + 1, i => bif decide (i < s.size) then (bif k (bt s i) then allF k s f (i + 1) else false) else true
def allV (k : Nat → Bool) (s : ByteArray) : Bool := allF k s (s.size + 1) 0
def tokV (s : ByteArray) : Bool := allV tkK s && (decide (s.size ≠ 0) && decide (s.size ≤ 64))
abbrev tokC : Con where
  X := StX
  Y := Unit
  args x := [.string x.s]
  pre _ := []
  cond x := x.s.size ≤ 1048576
  rdc _ _ := True
  rel _ _ := True
  val x _ := .returned (.bool (tokV x.s))
  post _ _ := []
theorem bEq_nil (s : ByteArray) : bEq s ⟨#[]⟩ = decide (s.size = 0) := by
  rw [Bool.eq_iff_iff, bEq_eq, decide_eq_true_iff]
  constructor
  · intro h; rw [h] <;> rfl
  · intro h; exact ByteArray.ext (Array.eq_empty_of_size_eq_zero h)
theorem allF_go {k : Nat → Bool} {s : ByteArray} {f i : Nat} (hi : i < s.size) (h : allV k s = allF k s (f + 1) i) : allV k s = bif k (bt s i) then allF k s f (i + 1) else false := by rw [h, allF, fo_dt hi, fo_ct]
theorem allF_end {k : Nat → Bool} {s : ByteArray} {f i : Nat} (hi : ¬ i < s.size) (h : allV k s = allF k s (f + 1) i) : allV k s = true := by rw [h, allF, fo_df hi, fo_cf]
structure AlS where
  i : Nat
  f : Nat
def AlS.ok (k : Nat → Bool) (s : ByteArray) (d : AlS) : Prop := d.i ≤ s.size ∧ s.size < d.i + d.f ∧ allV k s = allF k s d.f d.i
def alG : (T : Type) × (AlS → T) := ⟨AlS, λd => d⟩
def tokInv (x : StX) (F : Atom) : Nat → Option Inv := fun
  | 0 => some { X := AlS, P := λd => d.ok tkK x.s, mu := λd => x.s.size - d.i, lv := λd => [(0, .string x.s), (6, .int .i64 x.s.size), (7, .int .i64 d.i)], st := λ_ => [F] }
  | _ => none
def tokCut (x : StX) (F : Atom) : Nat → Option Inv := fun
  | 6 => some { X := AlS, P := λd => d.ok tkK x.s ∧ d.i < x.s.size, mu := λ_ => 0, lv := λd => [(0, .string x.s), (6, .int .i64 x.s.size), (7, .int .i64 d.i), (34, .bool (!tkK (bt x.s d.i)))], st := λ_ => [F], gh := some alG }
  | 8 => some { X := Unit, P := λ_ => allV tkK x.s = true, mu := λ_ => 0, lv := λ_ => [(0, .string x.s)], st := λ_ => [F] }
  | _ => none
def q178 (x : StX) (a : AlS) := fo_vs x.s = fo_vs x.s ∧ fo_vi ↑x.s.size = fo_vi ↑x.s.size ∧ fo_vi 0 = fo_vi ↑a.i ∧ True
def q165 (f : AlS) (x : StX) := 0 ≤ (f.i : Int) ∧ (f.i : Int) < (x.s.size : Int)
def T106 (e0 : StX) (e1 : AlS) (e2 : Atom) (v0 v1 : Value) (ss : St) := ∃ (z : AlS), ((AlS.ok tkK e0.s z ∧ z.i < e0.s.size) ∧ alG.snd z = e1) ∧ (fo_vs e0.s = fo_vs e0.s ∧ fo_vi ↑e0.s.size = fo_vi ↑e0.s.size ∧ v0 = fo_vi ↑z.i ∧ v1 = fo_vb !tkK (bt e0.s z.i) ∧ True) ∧ Ent ss [(0, e2)]
def q35 (x : StX) (f d : AlS) (F : Atom) := T14 [fo_vs ⟨#[33, 35, 36, 37, 38, 39, 42, 43, 45, 46, 94, 95, 96, 124, 126]⟩, fo_vc (byteAt x.s (f.i : Int))] (λc b => T106 x d F (fo_vi ↑f.i) (fo_vb !decide (Lib.indexByte c.s.data.toList (UInt8.ofNat c.c) ≥ 0)) [(0, F)])
def q222 (x : StX) (f d : AlS) (F : Atom) := fo_Bd (byteAt x.s (f.i : Int) ≥ 48) (fo_Bd (byteAt x.s (f.i : Int) ≤ 57) (T106 x d F (fo_vi ↑f.i) (fo_vb !true) [(0, F)]) (q35 x f d F)) (q35 x f d F)
def q168 (x : StX) (c a : AlS) := fo_vs x.s = fo_vs x.s ∧ fo_vi ↑x.s.size = fo_vi ↑x.s.size ∧ fo_vi ((c.i : Int) + 1) = fo_vi ↑a.i ∧ True
theorem tok_vc (x : StX) (F : Atom) (hc : tokC.cond x) (hr : tokC.rdc x F) :
 ((∃(a : AlS), AlS.ok tkK x.s a ∧ q178 x a ∧ Ent [(0, F)] [(0, F)]) ∧ fo_vA λ(f : AlS) _ => AlS.ok tkK x.s f → fo_Bd ((f.i : Int) < (x.s.size : Int)) (q165 f x ∧ ∃(d : AlS), fo_Bd (u8.wrap (↑(BitVec.ofInt u8.bits (byteAt x.s (f.i : Int)) ||| BitVec.ofInt u8.bits (32 : Int)).toNat : Int) ≥ 97) (fo_Bd (u8.wrap (↑(BitVec.ofInt u8.bits (byteAt x.s (f.i : Int)) ||| BitVec.ofInt u8.bits (32 : Int)).toNat : Int) ≤ 122) (T106 x d F (fo_vi ↑f.i) (fo_vb !true) [(0, F)]) (q222 x f d F)) (q222 x f d F) ∧ fo_vA λ(c : AlS) _ => ((AlS.ok tkK x.s c ∧ c.i < x.s.size) ∧ alG.snd c = d) → Br (!tkK (bt x.s c.i)) (Done tokC x F q87 [(0, F)]) (fo_rI ((c.i : Int) + 1) ∧ ∃(a : AlS), AlS.ok tkK x.s a ∧ q168 x c a ∧ Ent [(0, F)] [(0, F)] ∧ x.s.size - a.i < x.s.size - f.i)) (∃(a : Unit), allV tkK x.s = true ∧ (fo_vs x.s = fo_vs x.s ∧ True) ∧ Ent [(0, F)] [(0, F)])) ∧ fo_vA λ(b : Unit) _ => allV tkK x.s = true → Br (!x.s.toList == q34.toList) (Done tokC x F (fo_rt (fo_vb (decide ((x.s.size : Int) ≤ 64)))) [(0, F)]) (Done tokC x F q87 [(0, F)]) := by
  delta q178 q165 T106 T14 q35 q222 q87 q168 q34 fo_rI fo_C1 fo_vi fo_vc fo_vs fo_vb fo_Bd fo_rt fo_vA
  have hs : x.s.size ≤ 1048576 := hc
  refine ⟨⟨⟨⟨0, x.s.size + 1⟩, ⟨fo_zl _, by dsimp only; omega, rfl⟩, ⟨rfl, rfl, rfl, fo_tv⟩, Ent.pick [0] rfl rfl⟩, ?_⟩, ?_⟩
  rintro ⟨i, f⟩ js ⟨h1, h2, h3⟩
  dsimp only at h1 h2 h3 ⊢
  refine br_decide (λhlt => ⟨⟨by omega, hlt⟩, ⟨i, f⟩, ?_, ?_⟩) (λhge => ?_)
  · have hlt : i < x.s.size := by omega
    have eNul : byteAt x.s (i : Int) = (bt x.s i : Int) := by rw [byteAt_bt, fo_tn]
    rw [eNul, or32 (bt_lt x.s i)]
    have fin : ∀ t : Bool, t = (!tkK (bt x.s i)) → ∃ d : AlS, ((d.ok tkK x.s ∧ d.i < x.s.size) ∧ alG.snd d = ⟨i, f⟩) ∧ (string x.s = string x.s ∧ int .i64 (x.s.size : Int) = int .i64 (x.s.size : Int) ∧ int .i64 (i : Int) = int .i64 (d.i : Int) ∧ bool t = bool (!tkK (bt x.s d.i)) ∧ True) ∧ Ent [(0, F)] [(0, F)] := λt e =>
      ⟨⟨i, f⟩, ⟨⟨⟨h1, h2, h3⟩, hlt⟩, rfl⟩, ⟨rfl, rfl, rfl, by rw [e], fo_tv⟩, Ent.pick [0] rfl rfl⟩
    exact br_decide (λa => br_decide (λb => fin _ (by rw [tkK1 (c := bt x.s i) (by omega) (by omega)])) (λb => (br_decide (λc => br_decide (λd => fin _ (by rw [tkK2 (c := bt x.s i) (by omega) (by omega)])) (λd => ⟨ib_ok, rfl, ⟨tkS, bt x.s i⟩, rfl, rfl, bt_lt _ _, fo_tv, λ_ _ => fin _ (congrArg Bool.not (tkK3 (c := bt x.s i) (by omega) (by omega)))⟩)) (λc => ⟨ib_ok, rfl, ⟨tkS, bt x.s i⟩, rfl, rfl, bt_lt _ _, fo_tv, λ_ _ => fin _ (congrArg Bool.not (tkK3 (c := bt x.s i) (by omega) (by omega)))⟩)))) (λa => (br_decide (λc => br_decide (λd => fin _ (by rw [tkK2 (c := bt x.s i) (by omega) (by omega)])) (λd => ⟨ib_ok, rfl, ⟨tkS, bt x.s i⟩, rfl, rfl, bt_lt _ _, fo_tv, λ_ _ => fin _ (congrArg Bool.not (tkK3 (c := bt x.s i) (by omega) (by omega)))⟩)) (λc => ⟨ib_ok, rfl, ⟨tkS, bt x.s i⟩, rfl, rfl, bt_lt _ _, fo_tv, λ_ _ => fin _ (congrArg Bool.not (tkK3 (c := bt x.s i) (by omega) (by omega)))⟩)))
  · rintro ⟨i', f2⟩ js ⟨⟨⟨h1, h2, h3⟩, hlt⟩, e⟩
    have e : AlS.mk i' f2 = ⟨i, f⟩ := e
    cases e
    dsimp only at h1 h2 h3 hlt ⊢
    obtain ⟨f', rfl⟩ : ∃ f', f = f' + 1 := ⟨f - 1, by omega⟩
    have h4 := allF_go hlt h3
    refine br_intro (λk => ?_) (λk => ?_)
    · have k : tkK (bt x.s i) = false := by simpa using k
      rw [k, fo_cf] at h4
      exact ⟨(), fo_tv, by show _ = returned (.bool (tokV x.s)); unfold tokV; rw [h4] <;> rfl, Ent.pick [0] rfl rfl⟩
    · have k : tkK (bt x.s i) = true := by simpa using k
      rw [k, fo_ct] at h4
      exact ⟨⟨by omega, by omega⟩, ⟨i + 1, f'⟩, ⟨hlt, by dsimp only; omega, h4⟩, ⟨rfl, rfl, rfl, fo_tv⟩, Ent.pick [0] rfl rfl, by dsimp only; omega⟩
  · have hi : ¬ i < x.s.size := by omega
    obtain ⟨f', rfl⟩ : ∃ f', f = f' + 1 := ⟨f - 1, by omega⟩
    exact ⟨(), allF_end hi h3, ⟨rfl, fo_tv⟩, Ent.pick [0] rfl rfl⟩
  intro _ js h
  have h : allV tkK x.s = true := h
  have e : (!x.s.toList == (⟨#[]⟩ : ByteArray).toList) = decide (x.s.size ≠ 0) := by
    have := bEq_nil x.s
    unfold bEq at this
    rw [this]; simp
  rw [e]
  have v : tokV x.s = (decide (x.s.size ≠ 0) && decide (x.s.size ≤ 64)) := by unfold tokV; rw [h, Bool.true_and]
  have e2 : decide ((x.s.size : Int) ≤ 64) = decide (x.s.size ≤ 64) := by rw [decide_eq_decide]; omega
  rw [e2]
  refine br_intro (λk => ⟨(), fo_tv, ?_, Ent.pick [0] rfl rfl⟩) (λk => ⟨(), fo_tv, ?_, Ent.pick [0] rfl rfl⟩)
  · show _ = returned (.bool (tokV x.s))
    rw [v, k, Bool.true_and]
  · show _ = returned (.bool (tokV x.s))
    rw [v, k, fo_fba]
theorem tok_ok : fo_k 189 tokC := fo 43 Tryz.func189 (λ_ _ => [(5, 1, .q []), (5, 5, .q []), (5, 18, .c ibC [] [])]) [] tokInv tokCut fo_o [] tok_vc
def txK (c : Nat) : Bool := !((decide (c < 32) && !(c == 9)) || (c == 127))
def thV (s : ByteArray) : Bool := allV txK s
abbrev thC : Con where
  X := StX
  Y := Unit
  args x := [.string x.s]
  pre _ := []
  cond x := x.s.size ≤ 1048576
  rdc _ _ := True
  rel _ _ := True
  val x _ := .returned (.bool (thV x.s))
  post _ _ := []
def thInv (x : StX) (F : Atom) : Nat → Option Inv := fun
  | 0 => some { X := AlS, P := λd => d.ok txK x.s, mu := λd => x.s.size - d.i, lv := λd => [(0, .string x.s), (5, .int .i64 x.s.size), (6, .int .i64 d.i)], st := λ_ => [F] }
  | _ => none
def thCut (x : StX) (F : Atom) : Nat → Option Inv := fun
  | 5 => some { X := AlS, P := λd => d.ok txK x.s ∧ d.i < x.s.size, mu := λ_ => 0, lv := λd => [(0, .string x.s), (5, .int .i64 x.s.size), (6, .int .i64 d.i), (24, .bool (!txK (bt x.s d.i)))], st := λ_ => [F], gh := some alG }
  | _ => none
def T107 (e0 : StX) (e1 : AlS) (e2 : Atom) (v0 v1 : Value) (ss : St) := ∃ (z : AlS), ((AlS.ok txK e0.s z ∧ z.i < e0.s.size) ∧ alG.snd z = e1) ∧ (fo_vs e0.s = fo_vs e0.s ∧ fo_vi ↑e0.s.size = fo_vi ↑e0.s.size ∧ v0 = fo_vi ↑z.i ∧ v1 = fo_vb !txK (bt e0.s z.i) ∧ True) ∧ Ent ss [(0, e2)]
theorem th_vc (x : StX) (F : Atom) (hc : thC.cond x) (hr : thC.rdc x F) :
 (∃(a : AlS), AlS.ok txK x.s a ∧ q178 x a ∧ Ent [(0, F)] [(0, F)]) ∧ fo_vA λ(f : AlS) _ => AlS.ok txK x.s f → fo_Bd ((f.i : Int) < (x.s.size : Int)) (∃(d : AlS), (q165 f x ∧ fo_Bd (byteAt x.s (f.i : Int) < 32) (q165 f x ∧ Br (byteAt x.s (f.i : Int) != 9) (T107 x d F (fo_vi ↑f.i) (fo_vb true) [(0, F)]) (q165 f x ∧ T107 x d F (fo_vi ↑f.i) (fo_vb (byteAt x.s (f.i : Int) == 127)) [(0, F)])) (q165 f x ∧ T107 x d F (fo_vi ↑f.i) (fo_vb (byteAt x.s (f.i : Int) == 127)) [(0, F)])) ∧ fo_vA λ(c : AlS) _ => ((AlS.ok txK x.s c ∧ c.i < x.s.size) ∧ alG.snd c = d) → Br (!txK (bt x.s c.i)) (Done thC x F q87 [(0, F)]) (fo_rI ((c.i : Int) + 1) ∧ ∃(a : AlS), AlS.ok txK x.s a ∧ q168 x c a ∧ Ent [(0, F)] [(0, F)] ∧ x.s.size - a.i < x.s.size - f.i)) (Done thC x F q285 [(0, F)]) := by
  delta q178 q165 T107 q87 q168 q285 fo_rI fo_vi fo_vs fo_vb fo_Bd fo_rt fo_vA
  have hs : x.s.size ≤ 1048576 := hc
  refine ⟨⟨⟨0, x.s.size + 1⟩, ⟨fo_zl _, by dsimp only; omega, rfl⟩, ⟨rfl, rfl, rfl, fo_tv⟩, Ent.pick [0] rfl rfl⟩, ?_⟩
  rintro ⟨i, f⟩ js ⟨h1, h2, h3⟩
  dsimp only at h1 h2 h3 ⊢
  refine br_decide (λhlt => ⟨⟨i, f⟩, ⟨⟨by omega, hlt⟩, ?_⟩, ?_⟩) (λhge => ?_)
  · have hlt2 := hlt
    have hlt : i < x.s.size := by omega
    have eNul : byteAt x.s (i : Int) = (bt x.s i : Int) := by rw [byteAt_bt, fo_tn]
    rw [eNul]
    have fin : ∀ t : Bool, t = (!txK (bt x.s i)) → ∃ d : AlS, ((d.ok txK x.s ∧ d.i < x.s.size) ∧ alG.snd d = ⟨i, f⟩) ∧ (string x.s = string x.s ∧ int .i64 (x.s.size : Int) = int .i64 (x.s.size : Int) ∧ int .i64 (i : Int) = int .i64 (d.i : Int) ∧ bool t = bool (!txK (bt x.s d.i)) ∧ True) ∧ Ent [(0, F)] [(0, F)] := λt e =>
      ⟨⟨i, f⟩, ⟨⟨⟨h1, h2, h3⟩, hlt⟩, rfl⟩, ⟨rfl, rfl, rfl, by rw [e], fo_tv⟩, Ent.pick [0] rfl rfl⟩
    have e127 : ((bt x.s i : Int) == 127) = (bt x.s i == 127) := by rw [Bool.eq_iff_iff, beq_iff_eq, beq_iff_eq]; omega
    refine br_decide (λa => ⟨⟨by omega, hlt2⟩, br_intro (λb => fin _ ?_) (λb => ⟨⟨by omega, hlt2⟩, fin _ ?_⟩)⟩) (λa => ⟨⟨by omega, hlt2⟩, fin _ ?_⟩)
    · have b : bt x.s i ≠ 9 := by
        intro h; rw [h] at b; cases b
      unfold txK
      rw [fo_dt (show bt x.s i < 32 by omega), beq_false_of_ne b] <;> rfl
    · have b : bt x.s i = 9 := by
        have b : ((bt x.s i : Int) != 9) = false := b
        have : (bt x.s i : Int) = 9 := by simpa using b
        omega
      rw [e127, b] <;> rfl
    · rw [e127]
      unfold txK
      rw [fo_df (show ¬ bt x.s i < 32 by omega)]
      simp
  · rintro ⟨i', f2⟩ js ⟨⟨⟨h1, h2, h3⟩, hlt⟩, e⟩
    have e : AlS.mk i' f2 = ⟨i, f⟩ := e
    cases e
    dsimp only at h1 h2 h3 hlt ⊢
    obtain ⟨f', rfl⟩ : ∃ f', f = f' + 1 := ⟨f - 1, by omega⟩
    have h4 := allF_go hlt h3
    refine br_intro (λk => ?_) (λk => ?_)
    · have k : txK (bt x.s i) = false := by simpa using k
      rw [k, fo_cf] at h4
      exact ⟨(), fo_tv, by show _ = returned (.bool (allV txK x.s)); rw [h4], Ent.pick [0] rfl rfl⟩
    · have k : txK (bt x.s i) = true := by simpa using k
      rw [k, fo_ct] at h4
      exact ⟨⟨by omega, by omega⟩, ⟨i + 1, f'⟩, ⟨hlt, by dsimp only; omega, h4⟩, ⟨rfl, rfl, rfl, fo_tv⟩, Ent.pick [0] rfl rfl, by dsimp only; omega⟩
  · have hi : ¬ i < x.s.size := by omega
    obtain ⟨f', rfl⟩ : ∃ f', f = f' + 1 := ⟨f - 1, by omega⟩
    exact ⟨(), fo_tv, by show _ = returned (.bool (allV txK x.s)); rw [allF_end hi h3], Ent.pick [0] rfl rfl⟩
theorem th_ok : fo_k 190 thC := fo 26 Tryz.func190 (λ_ _ => []) [] thInv thCut fo_o [] th_vc
end
section
open Go
set_option maxHeartbeats 1000000
def tgK (c : Nat) : Bool := !(decide (c < 33) || decide (c > 126))
def tgtV (s : ByteArray) : Bool := allV tgK s && (hpB s ⟨#[47]⟩ && decide (s.size ≤ 256))
abbrev tgtC : Con where
  X := StX
  Y := Unit
  args x := [.string x.s]
  pre _ := []
  cond x := x.s.size ≤ 1048576
  rdc _ _ := True
  rel _ _ := True
  val x _ := .returned (.bool (tgtV x.s))
  post _ _ := []
def tgtInv (x : StX) (F : Atom) : Nat → Option Inv := fun
  | 0 => some { X := AlS, P := λd => d.ok tgK x.s, mu := λd => x.s.size - d.i, lv := λd => [(0, .string x.s), (5, .int .i64 x.s.size), (6, .int .i64 d.i)], st := λ_ => [F] }
  | _ => none
def tgtCut (x : StX) (F : Atom) : Nat → Option Inv := fun
  | 5 => some { X := AlS, P := λd => d.ok tgK x.s ∧ d.i < x.s.size, mu := λ_ => 0, lv := λd => [(0, .string x.s), (5, .int .i64 x.s.size), (6, .int .i64 d.i), (18, .bool (!tgK (bt x.s d.i)))], st := λ_ => [F], gh := some alG }
  | _ => none
def T108 (e0 : StX) (e1 : AlS) (e2 : Atom) (v0 v1 : Value) (ss : St) := ∃ (z : AlS), ((AlS.ok tgK e0.s z ∧ z.i < e0.s.size) ∧ alG.snd z = e1) ∧ (fo_vs e0.s = fo_vs e0.s ∧ fo_vi ↑e0.s.size = fo_vi ↑e0.s.size ∧ v0 = fo_vi ↑z.i ∧ v1 = fo_vb !tgK (bt e0.s z.i) ∧ True) ∧ Ent ss [(0, e2)]
theorem tgt_vc (x : StX) (F : Atom) (hc : tgtC.cond x) (hr : tgtC.rdc x F) :
 (∃(a : AlS), AlS.ok tgK x.s a ∧ q178 x a ∧ Ent [(0, F)] [(0, F)]) ∧ fo_vA λ(f : AlS) _ => AlS.ok tgK x.s f → fo_Bd ((f.i : Int) < (x.s.size : Int)) (∃(d : AlS), (q165 f x ∧ fo_Bd (byteAt x.s (f.i : Int) < 33) (T108 x d F (fo_vi ↑f.i) (fo_vb true) [(0, F)]) (q165 f x ∧ T108 x d F (fo_vi ↑f.i) (fo_vb (decide (byteAt x.s (f.i : Int) > 126))) [(0, F)])) ∧ fo_vA λ(c : AlS) _ => ((AlS.ok tgK x.s c ∧ c.i < x.s.size) ∧ alG.snd c = d) → Br (!tgK (bt x.s c.i)) (Done tgtC x F q87 [(0, F)]) (fo_rI ((c.i : Int) + 1) ∧ ∃(a : AlS), AlS.ok tgK x.s a ∧ q168 x c a ∧ Ent [(0, F)] [(0, F)] ∧ x.s.size - a.i < x.s.size - f.i)) (fo_C0 215 hpC [fo_vs x.s, fo_vs ⟨#[47]⟩] (λb a => Br (hpB b.a b.b) (Done tgtC x F (fo_rt (fo_vb (decide ((x.s.size : Int) ≤ 256)))) [(0, F)]) (Done tgtC x F q87 [(0, F)]))) := by
  delta q178 q165 T108 q87 q168 fo_rI fo_C0 fo_vi fo_vs fo_vb fo_Bd fo_rt fo_vA
  have hs : x.s.size ≤ 1048576 := hc
  refine ⟨⟨⟨0, x.s.size + 1⟩, ⟨fo_zl _, by dsimp only; omega, rfl⟩, ⟨rfl, rfl, rfl, fo_tv⟩, Ent.pick [0] rfl rfl⟩, ?_⟩
  rintro ⟨i, f⟩ js ⟨h1, h2, h3⟩
  dsimp only at h1 h2 h3 ⊢
  refine br_decide (λhlt => ⟨⟨i, f⟩, ⟨⟨by omega, hlt⟩, ?_⟩, ?_⟩) (λhge => ?_)
  · have hlt2 := hlt
    have hlt : i < x.s.size := by omega
    have eNul : byteAt x.s (i : Int) = (bt x.s i : Int) := by rw [byteAt_bt, fo_tn]
    rw [eNul]
    have fin : ∀ t : Bool, t = (!tgK (bt x.s i)) → ∃ d : AlS, ((d.ok tgK x.s ∧ d.i < x.s.size) ∧ alG.snd d = ⟨i, f⟩) ∧ (string x.s = string x.s ∧ int .i64 (x.s.size : Int) = int .i64 (x.s.size : Int) ∧ int .i64 (i : Int) = int .i64 (d.i : Int) ∧ bool t = bool (!tgK (bt x.s d.i)) ∧ True) ∧ Ent [(0, F)] [(0, F)] := λt e =>
      ⟨⟨i, f⟩, ⟨⟨⟨h1, h2, h3⟩, hlt⟩, rfl⟩, ⟨rfl, rfl, rfl, by rw [e], fo_tv⟩, Ent.pick [0] rfl rfl⟩
    refine br_decide (λa => fin _ ?_) (λa => ⟨⟨by omega, hlt2⟩, fin _ ?_⟩)
    · unfold tgK
      rw [fo_dt (show bt x.s i < 33 by omega)] <;> rfl
    · unfold tgK
      rw [fo_df (show ¬ bt x.s i < 33 by omega), Bool.false_or, Bool.not_not, decide_eq_decide]
      omega
  · rintro ⟨i', f2⟩ js ⟨⟨⟨h1, h2, h3⟩, hlt⟩, e⟩
    have e : AlS.mk i' f2 = ⟨i, f⟩ := e
    cases e
    dsimp only at h1 h2 h3 hlt ⊢
    obtain ⟨f', rfl⟩ : ∃ f', f = f' + 1 := ⟨f - 1, by omega⟩
    have h4 := allF_go hlt h3
    refine br_intro (λk => ?_) (λk => ?_)
    · have k : tgK (bt x.s i) = false := by simpa using k
      rw [k, fo_cf] at h4
      exact ⟨(), fo_tv, by show _ = returned (.bool (tgtV x.s)); unfold tgtV; rw [h4] <;> rfl, Ent.pick [0] rfl rfl⟩
    · have k : tgK (bt x.s i) = true := by simpa using k
      rw [k, fo_ct] at h4
      exact ⟨⟨by omega, by omega⟩, ⟨i + 1, f'⟩, ⟨hlt, by dsimp only; omega, h4⟩, ⟨rfl, rfl, rfl, fo_tv⟩, Ent.pick [0] rfl rfl, by dsimp only; omega⟩
  · have hi : ¬ i < x.s.size := by omega
    obtain ⟨f', rfl⟩ : ∃ f', f = f' + 1 := ⟨f - 1, by omega⟩
    have hv := allF_end hi h3
    have e2 : decide ((x.s.size : Int) ≤ 256) = decide (x.s.size ≤ 256) := by rw [decide_eq_decide]; omega
    rw [e2]
    refine ⟨hp_ok, rfl, ⟨x.s, ⟨#[47]⟩⟩, rfl, rfl, fo_tv, fo_tv, λ_ _ => br_intro (λk => ⟨(), fo_tv, ?_, Ent.pick [0] rfl rfl⟩) (λk => ⟨(), fo_tv, ?_, Ent.pick [0] rfl rfl⟩)⟩
    · have k : hpB x.s ⟨#[47]⟩ = true := k
      show _ = returned (.bool (tgtV x.s))
      unfold tgtV
      rw [hv, k] <;> rfl
    · have k : hpB x.s ⟨#[47]⟩ = false := k
      show _ = returned (.bool (tgtV x.s))
      unfold tgtV
      rw [hv, k] <;> rfl
theorem tgt_ok : fo_k 192 tgtC := fo 27 Tryz.func192 (λ_ _ => [(7, 1, .c hpC [] [])]) [] tgtInv tgtCut fo_o [] tgt_vc
def ctnS (nm : ByteArray) (p : Nat × ByteArray) (f : Fld) : Nat × ByteArray := bif bEq f.1 nm then (p.1 + 1, bif p.1 == 0 then f.2 else p.2) else p
def ctnV (nm : ByteArray) (l : List Fld) : Nat × ByteArray := l.foldl (ctnS nm) (0, ⟨#[]⟩)
theorem ctnV_take {nm : ByteArray} {l : List Fld} {i : Nat} {q : Fld} (h : l[i]? = some q) : ctnV nm (l.take (i + 1)) = ctnS nm (ctnV nm (l.take i)) q := by
  unfold ctnV
  rw [List.take_add_one, h, Option.toList_some, List.foldl_append] <;> rfl
theorem ctn_le (nm : ByteArray) (l : List Fld) : (ctnV nm l).1 ≤ l.length := by
  have : ∀ (l : List Fld) (a : Nat × ByteArray), (l.foldl (ctnS nm) a).1 ≤ a.1 + l.length := by
    intro l
    induction l with
    | nil => intro a; exact fo_nr _
    | cons f l ih =>
      intro a
      rw [List.foldl_cons]
      have h1 := ih (ctnS nm a f)
      have h2 : (ctnS nm a f).1 ≤ a.1 + 1 := by
        unfold ctnS
        cases bEq f.1 nm with
        | true => exact fo_nr _
        | false => exact Nat.le_succ _
      rw [fo_lc]
      omega
  have h := this l (0, ⟨#[]⟩)
  rw [fo_za] at h
  exact h
structure CtnX where
  b : Nat
  a : Option Addr
  n : Nat
  c : Nat
  l : List Fld
  nm : ByteArray
abbrev ctnC : Con where
  X := CtnX
  Y := Unit
  args x := [.pointer (some ⟨x.b, 0, none⟩), .string x.nm]
  pre _ := []
  cond x := IsSrc 2 (fCs x.l) x.a x.n ∧ x.n ≤ 1000000
  rdc x F := Look F ⟨x.b, 1, none⟩ (.slice x.a x.n x.c) ∧ Srcd F x.a (fCs x.l)
  rel _ _ := True
  val x _ := .returned (.tuple #[.int .i64 (ctnV x.nm x.l).1, .string (ctnV x.nm x.l).2])
  post _ _ := []
  rmono _ _ _ hs h := ⟨h.1.sub hs, h.2.sub hs⟩
structure CtnS where
  i : Nat
def ctnInv (x : CtnX) (F : Atom) : Nat → Option Inv := fun
  | 0 => some { X := CtnS, P := λd => d.i ≤ x.l.length, mu := λd => x.l.length - d.i, lv := λd => [(1, .string x.nm), (6, .int .i64 (ctnV x.nm (x.l.take d.i)).1), (7, .string (ctnV x.nm (x.l.take d.i)).2), (13, .slice x.a x.n x.c), (14, .int .i64 x.n), (15, .int .i64 d.i)], st := λ_ => [F] }
  | _ => none
def ctnOv (x : CtnX) (_F : Atom) : List (Nat × Nat × OH) := [(2, 3, .q [.ex 0 (.is (.slice x.a x.n x.c))]), (4, 0, .qo (ixQ 2)), (4, 1, .q [.ex 0 .str, .ex 0 .str]), (4, 2, .n 4020), (4, 3, .w [.aq 4020, .aq 4020]), (5, 1, .q [.aq 4020]), (7, 1, .q [.aq 4020])]
def T109 (e0 : CtnX) (e1 : Atom) (v0 v1 v2 : Value) (ss : St) (mm : Nat) := ∃ (z : CtnS), z.i ≤ e0.l.length ∧ (fo_vs e0.nm = fo_vs e0.nm ∧ v0 = fo_vi (↑(ctnV e0.nm (List.take z.i e0.l)).fst : Int) ∧ v1 = fo_vs (ctnV e0.nm (List.take z.i e0.l)).snd ∧ fo_vl e0.a e0.n e0.c = fo_vl e0.a e0.n e0.c ∧ fo_vi ↑e0.n = fo_vi ↑e0.n ∧ v2 = fo_vi ↑z.i ∧ True) ∧ Ent ss [(0, e1)] ∧ e0.l.length - z.i < mm
theorem ctn_vc (x : CtnX) (F : Atom) (hc : ctnC.cond x) (hr : ctnC.rdc x F) :
 Look F ⟨x.b, 1, none⟩ (fo_vl x.a x.n x.c) ∧ (∃(a : CtnS), a.i ≤ x.l.length ∧ (fo_vs x.nm = fo_vs x.nm ∧ fo_vi 0 = fo_vi (↑(ctnV x.nm (List.take a.i x.l)).fst : Int) ∧ fo_vs ⟨#[]⟩ = fo_vs (ctnV x.nm (List.take a.i x.l)).snd ∧ fo_vl x.a x.n x.c = fo_vl x.a x.n x.c ∧ fo_vi ↑x.n = fo_vi ↑x.n ∧ fo_vi 0 = fo_vi ↑a.i ∧ True) ∧ Ent [(0, F)] [(0, F)]) ∧ fo_vA λ(g : CtnS) _ => g.i ≤ x.l.length → fo_Bd ((g.i : Int) < (x.n : Int)) (T30 (opIn Tryz.f143 4 0) [fo_vl x.a x.n x.c, fo_vi ↑g.i] (λe => T25 F ⟨e.b, e.o + e.n.toNat * 2, none⟩ (λd => T25 F ⟨e.b, e.o + e.n.toNat * 2 + 1, none⟩ (λc => ∀(b : Nat), fo_sm b 0 ∧ fo_sm b 1 ∧ fo_sm b 0 ∧ Br (d.toList == x.nm.toList) (Br ((↑(ctnV x.nm (List.take g.i x.l)).fst : Int) == 0) (fo_sm b 1 ∧ fo_rI ((↑(ctnV x.nm (List.take g.i x.l)).fst : Int) + 1) ∧ fo_rI ((g.i : Int) + 1) ∧ T109 x F (fo_vi ((↑(ctnV x.nm (List.take g.i x.l)).fst : Int) + 1)) (fo_vs c) (fo_vi ((g.i : Int) + 1)) (q358 F b d c) (x.l.length - g.i)) (fo_rI ((↑(ctnV x.nm (List.take g.i x.l)).fst : Int) + 1) ∧ fo_rI ((g.i : Int) + 1) ∧ T109 x F (fo_vi ((↑(ctnV x.nm (List.take g.i x.l)).fst : Int) + 1)) (fo_vs (ctnV x.nm (List.take g.i x.l)).snd) (fo_vi ((g.i : Int) + 1)) (q358 F b d c) (x.l.length - g.i))) (fo_rI ((g.i : Int) + 1) ∧ T109 x F (fo_vi (↑(ctnV x.nm (List.take g.i x.l)).fst : Int)) (fo_vs (ctnV x.nm (List.take g.i x.l)).snd) (fo_vi ((g.i : Int) + 1)) (q358 F b d c) (x.l.length - g.i)))))) (Done ctnC x F (fo_rt (tuple ⟨[fo_vi (↑(ctnV x.nm (List.take g.i x.l)).fst : Int), fo_vs (ctnV x.nm (List.take g.i x.l)).snd]⟩)) [(0, F)]) := by
  delta q116 T30 T25 T109 q253 q358 fo_sm fo_rI fo_vi fo_vs fo_vl fo_cl fo_Bd fo_rt fo_vA
  obtain ⟨b, a, n, c, l, nm⟩ := x
  obtain ⟨hsrc, hn⟩ := hc
  obtain ⟨hl, hr⟩ := hr
  have hr : Srcd F a (fCs l) := hr
  dsimp only at hsrc hn hl ⊢
  have hnl := hsrc.len
  rw [fCs_length] at hnl
  refine ⟨hl, ⟨⟨0⟩, fo_zl _, ⟨rfl, rfl, rfl, rfl, rfl, rfl, fo_tv⟩, Ent.pick [0] rfl rfl⟩, ?_⟩
  rintro ⟨i⟩ js h1
  dsimp only at h1 ⊢
  have hle := ctn_le nm (l.take i)
  rw [List.length_take] at hle
  refine br_decide (λhlt => ?_) (λhge => ?_)
  · have hlt : i < l.length := by omega
    obtain ⟨c2, o, rfl⟩ := hsrc.some (by omega)
    obtain ⟨q, hq⟩ : ∃ q, l[i]? = some q := ⟨l[i], fo_ge hlt⟩
    obtain ⟨g1, g2⟩ := fCs_get hq
    have ht := ctnV_take (nm := nm) hq
    have fin : ∀ (u : Int) (s : ByteArray) (b : Nat), u = ((ctnS nm (ctnV nm (l.take i)) q).1 : Int) → s = (ctnS nm (ctnV nm (l.take i)) q).2 → ∃ y : CtnS, y.i ≤ l.length ∧ (string nm = string nm ∧ int .i64 u = int .i64 ((ctnV nm (l.take y.i)).1 : Int) ∧ string s = string (ctnV nm (l.take y.i)).2 ∧ slice (some ⟨c2, o, none⟩) n c = slice (some ⟨c2, o, none⟩) n c ∧ int .i64 (n : Int) = int .i64 (n : Int) ∧ int .i64 ((i : Int) + 1) = int .i64 (y.i : Int) ∧ True) ∧ Ent [(0, F), (4020, .cells b [.string q.1, .string q.2] 36)] [(0, F)] ∧ l.length - y.i < l.length - i := λu s b e1 e2 =>
      ⟨⟨i + 1⟩, hlt, ⟨rfl, by dsimp only; rw [ht, e1], by dsimp only; rw [ht, e2], rfl, rfl, rfl, fo_tv⟩, Ent.pick [0] rfl rfl, by dsimp only; omega⟩
    refine ⟨ixq_ok 2 rfl rfl rfl rfl, ⟨c2, o, n, c, i⟩, rfl, ⟨by dsimp only; omega, by dsimp only; omega⟩, q.1, ?_, q.2, ?_, λd => ⟨⟨rfl, rfl⟩, ⟨rfl, rfl⟩, ⟨rfl, rfl⟩, br_intro (λk => br_intro (λk2 => ⟨⟨rfl, rfl⟩, ⟨by omega, by omega⟩, ⟨by omega, by omega⟩, fin _ _ d ?_ ?_⟩) (λk2 => ⟨⟨by omega, by omega⟩, ⟨by omega, by omega⟩, fin _ _ d ?_ ?_⟩)) (λk => ⟨⟨by omega, by omega⟩, fin _ _ d ?_ ?_⟩)⟩⟩
    · have := Srcd.look hr g1
      dsimp only
      rw [fo_tn, Nat.mul_comm]
      exact this
    · have := Srcd.look hr g2
      dsimp only
      rw [fo_tn, Nat.mul_comm i 2, Nat.add_assoc]
      exact this
    all_goals
      unfold ctnS
      have k : bEq q.1 nm = _ := k
      rw [k]
    · rfl
    · rw [eqN 0 k2] <;> rfl
    · rfl
    · rw [eqN 0 k2] <;> rfl
    · rfl
    · rfl
  · have hi : i = l.length := by omega
    rw [hi, List.take_length]
    exact ⟨(), fo_tv, rfl, Ent.pick [0] rfl rfl⟩
theorem ctn_ok : fo_k 143 ctnC := fo 32 Tryz.func143 ctnOv [] ctnInv fo_i fo_o [] ctn_vc
end
section
open Go
set_option maxHeartbeats 1000000
def spW (p s : ByteArray) : List ByteArray := Lib.splitB p 0 (Lib.countB s p) s
theorem splitB_size (sep : ByteArray) (save : Nat) : ∀ (k : Nat) (s x : ByteArray), x ∈ Lib.splitB sep save k s → x.size ≤ s.size
  | 0, s, x, h => by
    rw [Lib.splitB_zero, List.mem_singleton] at h
    rw [h]; exact fo_nr _
  | k + 1, s, x, h => by
    unfold Lib.splitB at h
    split at h
    · rw [List.mem_singleton] at h
      rw [h]; exact fo_nr _
    · rcases List.mem_cons.1 h with rfl | h
      · rw [fo_se]; omega
      · have := splitB_size sep save k _ x h
        rw [fo_se] at this
        omega
theorem spW_size {p s x : ByteArray} (h : x ∈ spW p s) : x.size ≤ s.size := splitB_size p 0 _ s x h
def sHt11 : ByteArray := ⟨#[72, 84, 84, 80, 47, 49, 46, 49]⟩
def rqlL : List ByteArray → ByteArray × ByteArray × Bool
  | [a, b, c] => bif tokV a && (tgtV b && bEq c sHt11) then (a, b, true) else (⟨#[]⟩, ⟨#[]⟩, false)
  | _ => (⟨#[]⟩, ⟨#[]⟩, false)
def rqlV (s : ByteArray) : ByteArray × ByteArray × Bool := rqlL (spW ⟨#[32]⟩ s)
abbrev rqC : Con where
  X := StX
  Y := Unit
  args x := [.string x.s]
  pre _ := []
  cond x := x.s.size ≤ 1048576
  rdc _ F := Gl F
  rel _ _ := True
  val x _ := .returned (.tuple #[.string (rqlV x.s).1, .string (rqlV x.s).2.1, .bool (rqlV x.s).2.2])
  post _ _ := []
  rmono _ _ _ hs h := h.sub hs
def q105 (x : StX) (F : Atom) (o : Row) := Done rqC x F (fo_rt (tuple ⟨[fo_vs ⟨#[]⟩, fo_vs ⟨#[]⟩, fo_vb false]⟩)) [(0, F), (1, o.A)]
abbrev q335 (o : Row) : List Value := [fo_vl o.a o.n o.cap, fo_vi 0]
def T110 := fo_C1 189 tokC q135
theorem rq_vc (x : StX) (F : Atom) (hc : rqC.cond x) (hr : rqC.rdc x F) :
 T24 [fo_vs x.s, fo_vs ⟨#[32]⟩] ([] : List Atom) (q112 F) (λp o => Br ((o.n : Int) != 3) (q105 x F o) (T47 (opIn Tryz.f141 2 5) (q335 o) (λn => T25 o.A ⟨n.b, n.o + n.n.toNat * 1, none⟩ (λm => T110 [fo_vs m] (λl k => Br (!tokV l.s) (q105 x F o) (T47 (opIn Tryz.f141 2 12) [fo_vl o.a o.n o.cap, fo_vi 1] (λj => T25 o.A ⟨j.b, j.o + j.n.toNat * 1, none⟩ (λi => fo_C1 192 tgtC (λh => h.s.size ≤ 1048576) [fo_vs i] (λh g => Br (!tgtV h.s) (q105 x F o) (T47 (opIn Tryz.f141 2 19) [fo_vl o.a o.n o.cap, fo_vi 2] (λf => T25 o.A ⟨f.b, f.o + f.n.toNat * 1, none⟩ (λe => Br (!e.toList == (ByteArray.mk #[72, 84, 84, 80, 47, 49, 46, 49]).toList) (q105 x F o) (true = true ∧ T47 (opIn Tryz.f141 4 1) (q335 o) (λd => T25 o.A ⟨d.b, d.o + d.n.toNat * 1, none⟩ (λc => T47 (opIn Tryz.f141 4 4) [fo_vl o.a o.n o.cap, fo_vi 1] (λb => T25 o.A ⟨b.b, b.o + b.n.toNat * 1, none⟩ (λa => Done rqC x F (fo_rt (tuple ⟨[fo_vs c, fo_vs a, fo_vb true]⟩)) [(0, F), (1, o.A)]))))))))))))))))) := by
  delta T24 q112 q105 q116 T47 q335 T25 q135 T110 fo_aR fo_C1 fo_C4 fo_vi fo_vs fo_vb fo_vl fo_rt
  have hs : x.s.size ≤ 1048576 := hc
  have hr : Gl F := hr
  refine ⟨spl_ok, rfl, ⟨x.s, ⟨#[32]⟩⟩, rfl, rfl, ⟨hs, (by dsimp only; decide)⟩, hr.sub (sub_rest (A := F) 0 (by simp) rfl), λy hy => ?_⟩
  obtain ⟨hrow, -⟩ := hy
  have hrow : IsRow 9 1 (strs (spW ⟨#[32]⟩ x.s)) y := hrow
  have hz : ∀ z ∈ spW ⟨#[32]⟩ x.s, z.size ≤ 1048576 := λz h => fo_lt (spW_size h) hs
  have hV : rqlV x.s = rqlL (spW ⟨#[32]⟩ x.s) := rfl
  have hlen := hrow.len
  rw [strs_length] at hlen
  revert hrow hz hV hlen
  generalize spW ⟨#[32]⟩ x.s = L
  intro hrow hz hV hlen
  have no : rqlV x.s = (⟨#[]⟩, ⟨#[]⟩, false) → Done rqC x F (returned (tuple #[.string ⟨#[]⟩, .string ⟨#[]⟩, .bool false])) [(0, F), (1, y.A)] := λe =>
    ⟨(), fo_tv, by show _ = returned (.tuple #[.string (rqlV x.s).1, .string (rqlV x.s).2.1, .bool (rqlV x.s).2.2]); rw [e], Ent.pick [0] rfl rfl⟩
  refine br_intro (λh => no ?_) (λh => ?_)
  · have h : L.length ≠ 3 := by
      intro e
      rw [show y.n = 3 by omega] at h
      cases h
    rw [hV]
    match L, h with
    | [], _ => rfl
    | [_], _ => rfl
    | [_, _], _ => rfl
    | [_, _, _], h => exact absurd rfl h
    | _ :: _ :: _ :: _ :: _, _ => rfl
  have h3 : y.n = 3 := by
    have h : ((y.n : Int) != 3) = false := h
    have : (y.n : Int) = 3 := by simpa using h
    omega
  obtain ⟨a, c, d, rfl⟩ : ∃ a c d, L = [a, c, d] := by
    match L, (show L.length = 3 by omega) with
    | [a, c, d], _ => exact ⟨a, c, d, rfl⟩
  obtain ⟨b, hb⟩ := hrow.at0 (by omega)
  have hsr := hrow.srcd
  rw [hb] at hsr
  rw [hb, h3]
  have k0 : Look y.A ⟨b, 0 + (0 : Int).toNat * 1, none⟩ (.string a) := hsr.look (j := 0) rfl
  have k1 : Look y.A ⟨b, 0 + (1 : Int).toNat * 1, none⟩ (.string c) := hsr.look (j := 1) rfl
  have k2 : Look y.A ⟨b, 0 + (2 : Int).toNat * 1, none⟩ (.string d) := hsr.look (j := 2) rfl
  have za := hz a (by simp)
  have zc := hz c (by simp)
  have hV : rqlV x.s = bif tokV a && (tgtV c && bEq d sHt11) then (a, c, true) else (⟨#[]⟩, ⟨#[]⟩, false) := hV
  refine ⟨ixq_ok 1 rfl rfl rfl rfl, ⟨b, 0, 3, y.cap, 0⟩, rfl, ⟨by dsimp only; omega, by dsimp only; omega⟩, a, k0, tok_ok, rfl, ⟨a⟩, rfl, rfl, za, fo_tv, λ_ _ => br_intro (λq => no ?_) (λq => ⟨ixq_ok 1 rfl rfl rfl rfl, ⟨b, 0, 3, y.cap, 1⟩, rfl, ⟨by dsimp only; omega, by dsimp only; omega⟩, c, k1, tgt_ok, rfl, ⟨c⟩, rfl, rfl, zc, fo_tv, λ_ _ => br_intro (λq2 => no ?_) (λq2 => ⟨ixq_ok 1 rfl rfl rfl rfl, ⟨b, 0, 3, y.cap, 2⟩, rfl, ⟨by dsimp only; omega, by dsimp only; omega⟩, d, k2, br_intro (λq3 => no ?_) (λq3 => ⟨rfl, ixq_ok 1 rfl rfl rfl rfl, ⟨b, 0, 3, y.cap, 0⟩, rfl, ⟨by dsimp only; omega, by dsimp only; omega⟩, a, k0, ixq_ok 1 rfl rfl rfl rfl, ⟨b, 0, 3, y.cap, 1⟩, rfl, ⟨by dsimp only; omega, by dsimp only; omega⟩, c, k1, (), fo_tv, ?_, Ent.pick [0] rfl rfl⟩)⟩)⟩)⟩
  · have q : tokV a = false := by simpa using q
    rw [hV, q] <;> rfl
  · have q2 : tgtV c = false := by simpa using q2
    rw [hV, q2, fo_fba, fo_baf] <;> rfl
  · have q3 : (!bEq d sHt11) = true := q3
    have q3 : bEq d sHt11 = false := by simpa using q3
    rw [hV, q3, fo_baf, fo_baf] <;> rfl
  · have q : tokV a = true := by simpa using q
    have q2 : tgtV c = true := by simpa using q2
    have q3 : (!bEq d sHt11) = false := q3
    have q3 : bEq d sHt11 = true := by simpa using q3
    show _ = returned (.tuple #[.string (rqlV x.s).1, .string (rqlV x.s).2.1, .bool (rqlV x.s).2.2])
    rw [hV, q, q2, q3] <;> rfl
theorem rq_ok : fo_k 141 rqC := fo 37 Tryz.func141 (λ_ _ => [(1, 1, .c splC [] [1]), (2, 5, .qo (ixQ 1)), (2, 6, .q [.ex 1 .str]), (2, 7, .c tokC [] []), (2, 12, .qo (ixQ 1)), (2, 13, .q [.ex 1 .str]), (2, 14, .c tgtC [] []), (2, 19, .qo (ixQ 1)), (2, 20, .q [.ex 1 .str]), (4, 1, .qo (ixQ 1)), (4, 2, .q [.ex 1 .str]), (4, 4, .qo (ixQ 1)), (4, 5, .q [.ex 1 .str])]) [] fo_i fo_i fo_o [] rq_vc
abbrev rqfC : Con where
  X := StX
  Y := Unit
  args x := [.string x.s]
  pre _ := []
  cond x := x.s.size ≤ 1048576
  rdc _ F := Gl F
  rel _ _ := True
  val x _ := .returned (.bool (rqlV x.s).2.2)
  post _ _ := []
  rmono _ _ _ hs h := h.sub hs
def T111 := fo_C2 141 rqC q135 (λ_ => Gl)
theorem rqf_vc (x : StX) (F : Atom) (hc : rqfC.cond x) (hr : rqfC.rdc x F) :
 T111 [fo_vs x.s] (q112 F) (λb a => Done rqfC x F (fo_rt (fo_vb (rqlV b.s).snd.snd)) [(0, F)]) := by
  delta q135 T111 q112 fo_aR fo_C2 fo_vs fo_vb fo_rt
  exact ⟨rq_ok, rfl, ⟨x.s⟩, rfl, rfl, hc, Gl.sub (A := F) hr (sub_rest (A := F) 0 (by simp) rfl), λ_ _ => ⟨(), fo_tv, rfl, Ent.pick [0] rfl rfl⟩⟩
theorem rqf_ok : fo_k 140 rqfC := fo 13 Tryz.func140 (λ_ _ => [(1, 1, .c rqC [] [])]) [] fo_i fo_i fo_o [] rqf_vc
end
section
open Go
set_option maxHeartbeats 1000000
structure AuOk (s : ByteArray) : Prop where
  lo : 1 ≤ s.size
  hi : s.size ≤ 9
  dig : ∀ i : Nat, i < s.size → 48 ≤ byteAt s i ∧ byteAt s i ≤ 57
abbrev auC : Con where
  X := ZsX
  Y := Unit
  args x := [.string x.s]
  pre _ := []
  cond x := AuOk x.s
  rdc _ _ := True
  rel _ _ := True
  val x _ := .returned (.tuple #[.int .i64 (atN x.s x.s.size), .nilIface])
  post _ _ := []
def auSt (x : ZsX) (F : Atom) (d : AtS) : List Atom := [F, .obj d.b (.cells (sbRow x.s d.c) 5 ((sbRow x.s d.c).size, (sbRow x.s d.c).size + 1))]
def auInv (x : ZsX) (F : Atom) : Nat → Option Inv := fun
  | 0 => some { X := AtS, P := λd => d.i ≤ x.s.size ∧ x.s.size ≤ d.c, mu := λd => 10 - d.i, lv := λd => [(5, .string x.s), (6, .int .i64 (atN x.s d.i)), (47, .slice (some ⟨d.b, 0, none⟩) x.s.size d.c), (48, .int .i64 x.s.size), (49, .int .i64 d.i)], st := λd => auSt x F d }
  | _ => none
def auCut (x : ZsX) (F : Atom) : Nat → Option Inv := fun
  | 8 => some { X := Unit, P := λ_ => True, mu := λ_ => 0, lv := λ_ => [(0, .string x.s), (5, .string x.s)], st := λ_ => [F] }
  | _ => none
def T112 (e0 : Atom) (e1 : ZsX) (v0 : Value) (ss : St) := ∃ (z : Unit), True ∧ (v0 = fo_vs e1.s ∧ fo_vs e1.s = fo_vs e1.s ∧ True) ∧ Ent ss [(0, e0)]
def q85 (x : ZsX) (F : Atom) := q334 x ∧ Br (q305 x) (Done auC x F q172 [(0, F)]) (T112 F x (q361 x) [(0, F)])
abbrev q59 (F : Atom) (a : AtS) (x : ZsX) := [(0, F), (1, fo_ob a.b (Obj.cells (sbRow x.s a.c) 5 ((sbRow x.s a.c).size, (sbRow x.s a.c).size + 1)))]
theorem aui_vc (x : ZsX) (F : Atom) (hc : auC.cond x) (hr : auC.rdc x F) :
 fo_Bd (0 < (x.s.size : Int)) (fo_Bd ((x.s.size : Int) < 19) ((q185 x ∧ Br (q314 x) (q85 x F) (q185 x ∧ Br (byteAt x.s (0 : Int) == (43 : Int)) (q85 x F) (∃(a : Unit), True ∧ (fo_vs x.s = fo_vs x.s ∧ fo_vs x.s = fo_vs x.s ∧ True) ∧ Ent [(0, F)] [(0, F)]))) ∧ fo_vA λ(i : Unit) _ => True → T65 (opIn Tryz.f169 9 1) [fo_vs x.s] (λg f => (∃(a : AtS), (a.i ≤ x.s.size ∧ x.s.size ≤ a.c) ∧ (fo_vs x.s = fo_vs x.s ∧ fo_vi 0 = fo_vi (atN x.s a.i) ∧ fo_vl (some ⟨f.b, 0, none⟩) g.s.size f.c = fo_vl (q243 a) x.s.size a.c ∧ fo_vi ↑g.s.size = fo_vi ↑x.s.size ∧ fo_vi 0 = fo_vi ↑a.i ∧ True) ∧ Ent (q354 F f g) (q59 F a x)) ∧ fo_vA λ(e : AtS) _ => (e.i ≤ x.s.size ∧ x.s.size ≤ e.c) → fo_Bd ((e.i : Int) < (x.s.size : Int)) (T47 (opIn Tryz.f169 11 0) [fo_vl (q243 e) x.s.size e.c, fo_vi ↑e.i] (λc => T66 (fo_ob e.b (Obj.cells (sbRow x.s e.c) 5 ((sbRow x.s e.c).size, (sbRow x.s e.c).size + 1))) ⟨c.b, c.o + c.n.toNat * 1, none⟩ (λb => fo_Bd (u8.wrap (b - 48) > 9) (Done auC x F q172 (q59 F e x)) (fo_rI (atN x.s e.i * 10) ∧ fo_rI (u8.wrap (b - 48)) ∧ fo_rI (atN x.s e.i * 10 + u8.wrap (b - 48)) ∧ fo_rI ((e.i : Int) + 1) ∧ ∃(a : AtS), (a.i ≤ x.s.size ∧ x.s.size ≤ a.c) ∧ (fo_vs x.s = fo_vs x.s ∧ fo_vi (atN x.s e.i * 10 + u8.wrap (b - 48)) = fo_vi (atN x.s a.i) ∧ fo_vl (q243 e) x.s.size e.c = fo_vl (q243 a) x.s.size a.c ∧ fo_vi ↑x.s.size = fo_vi ↑x.s.size ∧ fo_vi ((e.i : Int) + 1) = fo_vi ↑a.i ∧ True) ∧ Ent (q59 F e x) (q59 F a x) ∧ 10 - a.i < 10 - e.i)))) (q185 x ∧ Br (q314 x) (Done auC x F (fo_rt (tuple ⟨[fo_vi (fo_wi ((0 : Int) - atN x.s e.i)), nilIface]⟩)) (q59 F e x)) (Done auC x F (fo_rt (tuple ⟨[fo_vi (atN x.s e.i), nilIface]⟩)) (q59 F e x))))) False) False := by
  delta q185 q314 q334 q305 q172 T112 q361 q85 T65 q243 q354 q59 q116 T47 T66 fo_rI fo_O5 fo_vi fo_vc fo_vs fo_vl fo_vf fo_ob fo_wi fo_Bd fo_rt fo_vA
  obtain ⟨s⟩ := x
  obtain ⟨h1, h2, h4⟩ := (hc : AuOk s)
  dsimp only at h1 h2 h4 ⊢
  have P0 : Ent [(0, F)] [(0, F)] := Ent.pick [0] rfl rfl
  have rng : ∀ i, i ≤ s.size → 0 ≤ atN s i ∧ atN s i < 10 ^ i := by
    intro i
    induction i with
    | zero => intro _; exact ⟨fo_ir 0, by show (0 : Int) < 10 ^ 0; decide⟩
    | succ i ih =>
      intro hi
      obtain ⟨a, b⟩ := ih (by omega)
      have := h4 i (by omega)
      rw [atN, Int.pow_succ]
      omega
  have d0 := h4 0 (by omega)
  have d0 : 48 ≤ byteAt s 0 ∧ byteAt s 0 ≤ 57 := d0
  have n45 : (byteAt s 0 == 45) = false := beq_false_of_ne (by omega)
  have n43 : (byteAt s 0 == 43) = false := beq_false_of_ne (by omega)
  refine br_decide (λ_ => br_decide (λ_ => ⟨⟨⟨fo_ir _, by omega⟩, br_intro (λq => by rw [n45] at q; cases q) (λq => ⟨⟨fo_ir _, by omega⟩, br_intro (λq2 => by rw [n43] at q2; cases q2) (λq2 => ⟨(), fo_tv, ⟨rfl, rfl, fo_tv⟩, P0⟩)⟩)⟩, ?_⟩) (λq => (q (by omega)).elim)) (λq => (q (by omega)).elim)
  rintro _ js -
  refine ⟨s2b_ok rfl rfl rfl rfl, rfl, ⟨s⟩, rfl, rfl, fo_tv, fo_tv, λy hy => ⟨⟨⟨0, y.b, y.c⟩, ⟨fo_zl _, hy⟩, ⟨rfl, rfl, rfl, rfl, rfl, fo_tv⟩, Ent.pick [0, 5000] rfl rfl⟩, ?_⟩⟩
  rintro ⟨i, b, c⟩ js ⟨g1, g2⟩
  dsimp only at g1 g2 ⊢
  obtain ⟨r1, r2⟩ := rng i g1
  have r3 : (10 : Int) ^ i ≤ 1000000000 := by
    have a : 10 ^ i ≤ 10 ^ 9 := fo_pp (by decide) (by omega)
    have b : (10 : Int) ^ i = ((10 ^ i : Nat) : Int) := by rw [Int.natCast_pow] <;> rfl
    have e : (10 : Nat) ^ 9 = 1000000000 := by decide
    omega
  refine br_decide (λq => ⟨ixq_ok 1 rfl rfl rfl rfl, ⟨b, 0, s.size, c, i⟩, rfl, ⟨by dsimp only; omega, by dsimp only; omega⟩, byteAt s i, ?_, ?_⟩) (λq => ?_)
  · rw [show 0 + ((i : Nat) : Int).toNat * 1 = i by omega]
    exact Look.objc (vs := (sbRow s c).toList) (sbRow_get (by omega))
  · have hd := h4 i (by omega)
    rw [wrap_in (i := .u8) (n := byteAt s i - 48) ⟨by omega, by omega⟩]
    refine br_decide (λq2 => absurd q2 (by omega)) (λ_ => ⟨⟨by omega, by omega⟩, ⟨by omega, by omega⟩, ⟨by omega, by omega⟩, ⟨by omega, by omega⟩, ⟨i + 1, b, c⟩, ⟨by dsimp only; omega, g2⟩, ⟨rfl, rfl, rfl, rfl, ?_, fo_tv⟩, Ent.pick [0, 1] rfl rfl, by dsimp only; omega⟩)
    exact congrArg _ (by dsimp only; omega)
  · have hi : i = s.size := by omega
    subst hi
    refine ⟨⟨fo_ir _, by omega⟩, br_intro (λq => by rw [n45] at q; cases q) (λq => ⟨(), fo_tv, rfl, Ent.pick [0] rfl rfl⟩)⟩
theorem aui_ok : fo_k 169 auC := fo 77 Tryz.func169 (λ_ _ => [(9, 1, .o (s2bC 5) [] [5000]), (11, 0, .qo (ixQ 1)), (11, 1, .q [.ex 1 (.int .u8)]), (12, 1, .q []), (13, 1, .q [])]) [(20, 1, OH.q [])] auInv auCut fo_o [] aui_vc
theorem auo_vc (x : ZsX) (F : Atom) (hc : auC.cond x) (hr : auC.rdc x F) :
 fo_C1 169 auC (λb => AuOk b.s) [fo_vs x.s] (λb a => Done auC x F (fo_rt (tuple ⟨[fo_vi (atN b.s b.s.size), nilIface]⟩)) [(0, F)]) := by
  delta fo_C1 fo_vi fo_vs fo_rt
  exact ⟨aui_ok, rfl, ⟨x.s⟩, rfl, rfl, hc, fo_tv, λ_ _ => ⟨(), fo_tv, rfl, Ent.pick [0] rfl rfl⟩⟩
theorem auo_ok : fo_k 118 auC := fo 18 Tryz.func118 (λ_ _ => [(1, 1, .c auC [] [])]) [] fo_i fo_i fo_o [] auo_vc
end
end Go.Proofs.YtjdabjmjldiodaaGreatDoor
namespace Go.Proofs
section
open Go.Shelf Go.RowKit Go.Lib
def Tryz.laysMap_ren : Go.Shelf.Ren := ⟨λ| 230 => 231 | 197 => 125 | 118 => 266 | 165 => 137 | 166 => 113 | 168 => 267 | 270 => 268 | 167 => 136 | 169 => 29 | 260 => 178 | 240 => 167 | 241 => 185 | 242 => 87 | 276 => 206 | 277 => 229 | 278 => 135 | n => n, λ| 107 => 258 | 9 => 9 | 72 => 81 | 0 => 0 | 4 => 4 | 3 => 3 | 21 => 21 | 105 => 184 | 76 => 174 | 5 => 5 | 75 => 173 | 70 => 78 | 20 => 20 | 37 => 79 | 127 => 130 | 119 => 153 | 46 => 135 | 139 => 156 | 138 => 155 | 164 => 234 | 51 => 191 | 80 => 86 | n => n, λ| 3 => 0 | 4 => 1 | n => n⟩
theorem Tryz.laysMap : Go.Proofs.Lays.n230 Tryz.prog Tryz.laysMap_ren := {
  mixed := by kernel_rfl
  f118 := Tryz.func266.trans (congrArg some (by kernel_rfl))
  f165 := Tryz.func137.trans (congrArg some (by kernel_rfl))
  f166 := Tryz.func113.trans (congrArg some (by kernel_rfl))
  f167 := Tryz.func136.trans (congrArg some (by kernel_rfl))
  f168 := Tryz.func267.trans (congrArg some (by kernel_rfl))
  f169 := Tryz.func29.trans (congrArg some (by kernel_rfl))
  f197 := Tryz.func125.trans (congrArg some (by kernel_rfl))
  f230 := Tryz.func231.trans (congrArg some (by kernel_rfl))
  f240 := Tryz.func167.trans (congrArg some (by kernel_rfl))
  f241 := Tryz.func185.trans (congrArg some (by kernel_rfl))
  f242 := Tryz.func87.trans (congrArg some (by kernel_rfl))
  f260 := Tryz.func178.trans (congrArg some (by kernel_rfl))
  f270 := Tryz.func268.trans (congrArg some (by kernel_rfl))
  f276 := Tryz.func206.trans (congrArg some (by kernel_rfl))
  f277 := Tryz.func229.trans (congrArg some (by kernel_rfl))
  f278 := Tryz.func135.trans (congrArg some (by kernel_rfl))
  t0 := Tryz.underlying0
  a0 := Tryz.isAgg0
  z0 := Tryz.sizeOf0
  v0 := Tryz.zeroValue0
  t3 := Tryz.underlying3
  a3 := Tryz.isAgg3
  z3 := Tryz.sizeOf3
  v3 := Tryz.zeroValue3
  t4 := Tryz.underlying4
  a4 := Tryz.isAgg4
  z4 := Tryz.sizeOf4
  v4 := Tryz.zeroValue4
  t5 := Tryz.underlying5
  a5 := Tryz.isAgg5
  z5 := Tryz.sizeOf5
  v5 := Tryz.zeroValue5
  t9 := Tryz.underlying9
  a9 := Tryz.isAgg9
  z9 := Tryz.sizeOf9
  v9 := Tryz.zeroValue9
  t20 := Tryz.underlying20
  a20 := Tryz.isAgg20
  z20 := Tryz.sizeOf20
  v20 := Tryz.zeroValue20
  t21 := Tryz.underlying21
  a21 := Tryz.isAgg21
  z21 := Tryz.sizeOf21
  v21 := Tryz.zeroValue21
  t37 := Tryz.underlying79
  a37 := Tryz.isAgg79
  z37 := Tryz.sizeOf79
  v37 := Tryz.zeroValue79
  t46 := Tryz.underlying135
  a46 := Tryz.isAgg135
  z46 := Tryz.sizeOf135
  v46 := Tryz.zeroValue135
  t51 := Tryz.underlying191
  a51 := Tryz.isAgg191
  z51 := Tryz.sizeOf191
  v51 := Tryz.zeroValue191
  t70 := Tryz.underlying78
  a70 := Tryz.isAgg78
  z70 := Tryz.sizeOf78
  v70 := Tryz.zeroValue78
  t72 := Tryz.underlying81
  a72 := Tryz.isAgg81
  z72 := Tryz.sizeOf81
  v72 := Tryz.zeroValue81
  t75 := Tryz.underlying173
  a75 := Tryz.isAgg173
  z75 := Tryz.sizeOf173
  v75 := Tryz.zeroValue173
  t76 := Tryz.underlying174
  a76 := Tryz.isAgg174
  z76 := Tryz.sizeOf174
  v76 := Tryz.zeroValue174
  t105 := Tryz.underlying184
  a105 := Tryz.isAgg184
  z105 := Tryz.sizeOf184
  v105 := Tryz.zeroValue184
  t107 := Tryz.underlying258
  a107 := Tryz.isAgg258
  z107 := Tryz.sizeOf258
  v107 := Tryz.zeroValue258
  t119 := Tryz.underlying153
  a119 := Tryz.isAgg153
  z119 := Tryz.sizeOf153
  t127 := Tryz.underlying130
  a127 := Tryz.isAgg130
  z127 := Tryz.sizeOf130
  v127 := Tryz.zeroValue130
  t138 := Tryz.underlying155
  a138 := Tryz.isAgg155
  z138 := Tryz.sizeOf155
  v138 := Tryz.zeroValue155
  t139 := Tryz.underlying156
  a139 := Tryz.isAgg156
  z139 := Tryz.sizeOf156
  v139 := Tryz.zeroValue156
  t164 := Tryz.underlying234
  a164 := Tryz.isAgg234
  z164 := Tryz.sizeOf234
  v164 := Tryz.zeroValue234
  g3 := by kernel_rfl
  g4 := by kernel_rfl
}
theorem Tryz.extraMap : Builder.Extra Tryz.prog Tryz.laysMap_ren := {
  sizeBuilder := by kernel_rfl
  liesBuilder := by kernel_rfl
  t5 := Tryz.laysMap.t5
  a5 := Tryz.laysMap.a5
  z5 := Tryz.laysMap.z5
  v5 := Tryz.laysMap.v5
  infoByte := by kernel_rfl
  cellsByte := by kernel_rfl
  sizeByte := by kernel_rfl
  neB5 := by decide }
theorem Tryz.strings_Map (g : Nat) (eg : ∀ args w, (callFunc g args).run Tryz.prog w = .ok (.enter g args) w) (f : Int → Int) (s : ByteArray) (w : World) (hs : s.size < 35184372088832)
    (hf : MapAtRunes Tryz.prog g #[] f w) (hnn : ∀ x : Nat, x ≤ 1114111 → 0 ≤ f x ∧ f x ≤ 2147483647) (hT : Lib.Utf8Tabs 0 1 w) :
    Calls Tryz.prog 231 #[.func (.func g) #[] #[], .string s] w λe w' => e = .returned (.string ⟨(Lib.mapD f s.data.toList).toArray⟩) ∧ Below w.heap.size w w' := Any.strings_Map_runes Tryz.laysMap Tryz.extraMap g #[] eg f s w hs hf hnn hT
end
end Go.Proofs
namespace Go.Proofs.YtjdabjmjldiodaaGreatDoor
set_option maxRecDepth 100000
open Go.Value (int slice string bool pointer agg tuple func float iface nilIface)
open Go.IntKind (i64 u8 u64 i32 u32 u16 i8 i16)
open Go.FloatKind (f64)
open Go.Ending (returned panicked)
section
open Go
set_option maxHeartbeats 1000000
def loR (r : Int) : Int := bif decide (r ≥ 65) then (bif decide (r ≤ 90) then r + 32 else r) else r
def smV (s : ByteArray) : ByteArray := ⟨(Lib.mapD loR s.data.toList).toArray⟩
set_option maxRecDepth 1000000 in
theorem sm1 (w : World) : MapAtRunes Tryz.prog 232 #[] loR w := by
  intro W x hx hb
  show Calls Tryz.prog 232 #[.int .i32 (x : Int)] W _
  unfold loR
  cases h1 : decide ((x : Int) ≥ 65) <;> cases h2 : decide ((x : Int) ≤ 90)
  all_goals
    go_enter Tryz.func232, Tryz.ntmps232
    go_wp2
    go_ret
    exact ⟨rfl, 0, rfl⟩
theorem loR_rng (x : Nat) (hx : x ≤ 1114111) : 0 ≤ loR x ∧ loR x ≤ 2147483647 := by
  unfold loR
  cases h1 : decide ((x : Int) ≥ 65) <;> cases h2 : decide ((x : Int) ≤ 90) <;> simp only [fo_ct, fo_cf] <;> omega
abbrev mapC : Con where
  X := StX
  Y := Unit
  args x := [.func (.func 232) #[] #[], .string x.s]
  pre _ := []
  cond x := x.s.size ≤ 1048576
  rdc _ F := Utf F
  rel _ _ := True
  val x _ := .returned (.string (smV x.s))
  post _ _ := []
  rmono _ _ _ hs h := h.sub hs
theorem map_ok : fo_k 231 mapC := FnOk.ofBelow mapC (λ_ => rfl) (λ_ _ => ()) (λ_ _ => fo_tv) (λ_ _ => rfl) λx F I w hc hr hs =>
  Go.Proofs.Tryz.strings_Map 232 (enters_of Tryz.func232 (by kernel_rfl) rfl) loR x.s w (by have hc : x.s.size ≤ 1048576 := hc; omega) (sm1 w) loR_rng ⟨λc hc => hs.lookF (hr.first c hc), λi hi => ⟨hs.lookF (hr.accLo i hi), hs.lookF (hr.accHi i hi)⟩⟩
abbrev smlC : Con where
  X := StX
  Y := Unit
  args x := [.string x.s]
  pre _ := []
  cond x := x.s.size ≤ 1048576
  rdc _ F := Utf F
  rel _ _ := True
  val x _ := .returned (.string (smV x.s))
  post _ _ := []
  rmono _ _ _ hs h := h.sub hs
theorem sml_vc (x : StX) (F : Atom) (hc : smlC.cond x) (hr : smlC.rdc x F) :
 fo_C2 231 mapC (λb => b.s.size ≤ 1048576) (λ_ => Utf) [func (Fn.func 232) ⟨[]⟩ ⟨[]⟩, fo_vs x.s] (q112 F) (λb a => Done smlC x F (fo_rt (fo_vs (smV b.s))) [(0, F)]) := by
  delta q112 fo_aR fo_C2 fo_vs fo_rt
  exact ⟨map_ok, rfl, ⟨x.s⟩, rfl, rfl, hc, Utf.rest (j := 0) (by simp) hr, λ_ _ => ⟨(), fo_tv, rfl, Ent.pick [0] rfl rfl⟩⟩
theorem sml_ok : fo_k 191 smlC := fo 5 Tryz.func191 (λ_ _ => [(1, 1, .c mapC [] [])]) [] fo_i fo_i fo_o [] sml_vc
end
section
open Go
set_option maxHeartbeats 1000000
def sCRLF : ByteArray := ⟨#[13, 10]⟩
def sEnd : ByteArray := ⟨#[13, 10, 13, 10]⟩
def sTab : ByteArray := ⟨#[32, 9]⟩
def sDig : ByteArray := ⟨#[48, 49, 50, 51, 52, 53, 54, 55, 56, 57]⟩
def nmCL : ByteArray := ⟨#[99, 111, 110, 116, 101, 110, 116, 45, 108, 101, 110, 103, 116, 104]⟩
def nmHo : ByteArray := ⟨#[104, 111, 115, 116]⟩
def nmTE : ByteArray := ⟨#[116, 114, 97, 110, 115, 102, 101, 114, 45, 101, 110, 99, 111, 100, 105, 110, 103]⟩
def hvV (x : ByteArray) : ByteArray := trmV (inS' sTab) (cutB x 58)
def hfV (x : ByteArray) : Fld := (smV (cutA x 58), hvV x)
def sh1 (a : Option Addr) (cap : Nat) : Option Addr := if cap = 1 then a else a.map (·.add 1)
structure S1X where
  a : Option Addr
  n : Nat
  cap : Nat
def s1Q : QCon where
  X := S1X
  args x := [.slice x.a x.n x.cap, .int .i64 1]
  cond x := 1 ≤ x.n
  val x := .slice (sh1 x.a x.cap) (x.n - 1) (x.cap - 1)
theorem s1q_ok {P : Program} {o : Oper} {t e : TypeId} {x y : Operand} {inf : TypeInfo} (ho : o.op = .slice t x (some y) none none) (ht : P.underlying t = some (.slice e)) (hi : P.info? e = some inf) (h1 : inf.size = 1) : QOpOk P o s1Q := by
  refine ⟨λq w ρ ha hc => ?_⟩
  obtain ⟨a, n, cap⟩ := q
  have hc : 1 ≤ n := hc
  simp only [ho, Op.operands, s1Q] at ha
  have ha2 : ρ x = .slice a n cap ∧ ρ y = .int .i64 1 := by simpa using ha
  obtain ⟨hx, hy⟩ := ha2
  have hn : (1 : Int) ≤ n := by omega
  have hsz : P.cellsOf e = 1 := by unfold Program.cellsOf; simp [hi, h1]
  simp [execOp, ho, hx, hy, Instr.sliceAt, Instr.slice, Instr.sliceBounds, Instr.sliceBound, asIntOf, run_underlying ht, run_sizeOf w hi, hsz, hn, s1Q, sh1]
structure RdX where
  s : ByteArray
  i : Nat
  l0 : ByteArray
  ls : List ByteArray
  n : Nat
def RdX.fs (x : RdX) : List Fld := x.ls.map hfV
structure RdX.ok (x : RdX) : Prop where
  s : x.s.size ≤ 1048576
  i : Lib.index x.s.data.toList sEnd.data.toList = x.i
  i2 : x.i + 4 ≤ 4096
  ll : x.ls.length ≤ 1000000
  l : spW sCRLF (x.s.extract 0 x.i) = x.l0 :: x.ls
  r : (rqlV x.l0).2.2 = true
  f : ∀ z ∈ x.ls, atV z 58 0 < z.size ∧ tokV (cutA z 58) = true ∧ thV (hvV z) = true
  c1 : (ctnV nmCL x.fs).1 = 1
  c2 : (ctnV nmHo x.fs).1 = 1
  c3 : (ctnV nmTE x.fs).1 = 0
  v : AuOk (ctnV nmCL x.fs).2
  v2 : trmV (inS' sDig) (ctnV nmCL x.fs).2 = ⟨#[]⟩
  v3 : atN (ctnV nmCL x.fs).2 (ctnV nmCL x.fs).2.size = x.n
  n : x.n ≤ 4096
  e : x.i + 4 + x.n ≤ x.s.size
structure RdY where
  m : Nat
  r : Row
def rdMsg (x : RdX) (y : RdY) : List Value := [.string x.l0, .slice y.r.a y.r.n y.r.cap, .string (x.s.extract (x.i + 4) (x.i + 4 + x.n)), .int .i64 ((x.i + 4 + x.n : Nat) : Int)]
abbrev rdsC : Con where
  X := RdX
  Y := RdY
  args x := [.string x.s, .func (.func 140) #[] #[], .bool true]
  pre _ := []
  cond x := x.ok
  rdc _ F := Gl F
  rel x y := IsRow 36 2 (fCs x.fs) y.r
  val _ y := .returned (.tuple #[.pointer (some ⟨y.m, 0, none⟩), .nilIface])
  post x y := [.cells y.m (rdMsg x y) 199, y.r.A]
  rmono _ _ _ hs h := h.sub hs
structure RdS where
  m : Nat
  y : Row
  i : Nat
  r : Row
theorem cutA_size (s : ByteArray) (c : Nat) : (cutA s c).size ≤ s.size := by
  unfold cutA
  rw [fo_se]; omega
theorem cutB_size (s : ByteArray) (c : Nat) : (cutB s c).size ≤ s.size := by
  unfold cutB
  rw [fo_se]; omega
theorem trmV_size (p : Nat → Bool) (s : ByteArray) : (trmV p s).size ≤ s.size := by
  unfold trmV
  rw [fo_se]; omega
theorem ascTab : asc sTab := by unfold asc; decide
theorem ascDig : asc sDig := by unfold asc; decide
structure RdS.ok (x : RdX) (d : RdS) : Prop where
  i : d.i ≤ x.ls.length
  y : IsRow 9 1 (strs (x.l0 :: x.ls)) d.y
  r : IsRow 36 2 (fCs ((x.ls.take d.i).map hfV)) d.r
  n : d.r.n = d.i
structure IxkiX where
  s : ByteArray
  p : ByteArray
  i : Nat
abbrev ixkiC : Con where
  X := IxkiX
  Y := Unit
  args x := [.string x.s, .string x.p]
  pre _ := []
  cond x := x.s.size ≤ 1048576 ∧ Lib.index x.s.data.toList x.p.data.toList = x.i
  rdc _ F := Gl F
  rel _ _ := True
  val x _ := .returned (.int .i64 x.i)
  post _ _ := []
  rmono _ _ _ hs h := h.sub hs
theorem ixki_ok : fo_k 90 ixkiC := ⟨λx F I w hc hr hs => (ix_ok'.h ⟨x.s, x.p⟩ F I w hc.1 hr hs).mono λe w' ⟨z, J, k1, k2, k3, k4, k5⟩ => ⟨z, J, k1, by rw [k2]; show returned (.int .i64 (Lib.index x.s.data.toList x.p.data.toList)) = returned (.int .i64 x.i); rw [hc.2], k3, k4, k5⟩⟩
abbrev ctkC (k : Nat) : Con where
  X := CtnX
  Y := Unit
  args x := [.pointer (some ⟨x.b, 0, none⟩), .string x.nm]
  pre _ := []
  cond x := (IsSrc 2 (fCs x.l) x.a x.n ∧ x.n ≤ 1000000) ∧ (ctnV x.nm x.l).1 = k
  rdc x F := Look F ⟨x.b, 1, none⟩ (.slice x.a x.n x.c) ∧ Srcd F x.a (fCs x.l)
  rel _ _ := True
  val x _ := .returned (.tuple #[.int .i64 k, .string (ctnV x.nm x.l).2])
  post _ _ := []
  rmono _ _ _ hs h := ⟨h.1.sub hs, h.2.sub hs⟩
theorem ctk_ok {k : Nat} : fo_k 143 (ctkC k) := ⟨λx F I w hc hr hs => (ctn_ok.h x F I w hc.1 hr hs).mono λe w' ⟨z, J, k1, k2, k3, k4, k5⟩ => ⟨z, J, k1, by rw [k2]; show returned (.tuple #[.int .i64 (ctnV x.nm x.l).1, .string (ctnV x.nm x.l).2]) = returned (.tuple #[.int .i64 k, .string (ctnV x.nm x.l).2]); rw [hc.2], k3, k4, k5⟩⟩
structure AukX where
  s : ByteArray
  n : Nat
abbrev aukC : Con where
  X := AukX
  Y := Unit
  args x := [.string x.s]
  pre _ := []
  cond x := AuOk x.s ∧ atN x.s x.s.size = x.n
  rdc _ _ := True
  rel _ _ := True
  val x _ := .returned (.tuple #[.int .i64 x.n, .nilIface])
  post _ _ := []
theorem auk_ok : fo_k 118 aukC := ⟨λx F I w hc hr hs => (auo_ok.h ⟨x.s⟩ F I w hc.1 hr hs).mono λe w' ⟨z, J, k1, k2, k3, k4, k5⟩ => ⟨z, J, k1, by rw [k2]; show returned (.tuple #[.int .i64 (atN x.s x.s.size), .nilIface]) = returned (.tuple #[.int .i64 x.n, .nilIface]); rw [hc.2], k3, k4, k5⟩⟩
def rdsInv (x : RdX) (F : Atom) : Nat → Option Inv := fun
  | 0 => some { X := RdS, P := λd => d.ok x, mu := λd => x.ls.length - d.i, lv := λd => [(0, .string x.s), (2, .bool true), (10, .pointer (some ⟨d.m, 0, none⟩)), (61, .slice (sh1 d.y.a d.y.cap) x.ls.length (d.y.cap - 1)), (62, .int .i64 x.ls.length), (63, .int .i64 d.i)], st := λd => [F, d.y.A, .cells d.m [.string x.l0, .slice d.r.a d.r.n d.r.cap, .string ⟨#[]⟩, .int .i64 ((x.i + 4 : Nat) : Int)] 199, d.r.A] }
  | _ => none
def rdsCut (x : RdX) (F : Atom) : Nat → Option Inv := fun
  | 19 => some { X := RdY, P := λd => IsRow 36 2 (fCs x.fs) d.r, mu := λ_ => 0, lv := λd => [(0, .string x.s), (2, .bool true), (10, .pointer (some ⟨d.m, 0, none⟩))], st := λd => [F, .cells d.m [.string x.l0, .slice d.r.a d.r.n d.r.cap, .string ⟨#[]⟩, .int .i64 ((x.i + 4 : Nat) : Int)] 199, d.r.A] }
  | _ => none
abbrev q220 (F : Atom) (z : Row) (v : Nat) (w : ByteArray) (C : IxkiX) := [(0, F), (1, z.A), (7060, fo_cl v [fo_vs w, fo_vl none 0 0, fo_vs ⟨#[]⟩, fo_vi ((C.i : Int) + 4)] 199)]
abbrev q155 := fo_rt (tuple ⟨[fo_vp none, fo_vf 32 (fo_vi 220)]⟩)
abbrev q360 (x : RdX) (a : RdS) : List Value := [fo_vs x.l0, fo_vl a.r.a a.r.n a.r.cap, fo_vs ⟨#[]⟩, fo_vi (↑(x.i + 4) : Int)]
abbrev q26 (F : Atom) (a : RdS) (x : RdX) := [(0, F), (1, a.y.A), (2, fo_cl a.m (q360 x a) 199), (3, a.r.A)]
abbrev q272 (a : RdY) : Option Addr := some ⟨a.m, 0, none⟩
abbrev q24 (F : Atom) (a : RdY) (x : RdX) := [(0, F), (1, fo_cl a.m [fo_vs x.l0, fo_vl a.r.a a.r.n a.r.cap, fo_vs ⟨#[]⟩, fo_vi (↑(x.i + 4) : Int)] 199), (2, a.r.A)]
def q336 (w0 : CtnX) := IsSrc 2 (fCs w0.l) w0.a w0.n ∧ w0.n ≤ 1000000
def q257 (w1 : Atom) (w0 : CtnX) := Look w1 ⟨w0.b, 1, none⟩ (fo_vl w0.a w0.n w0.c) ∧ Srcd w1 w0.a (fCs w0.l)
def T113 := fo_C2 143 (ctkC 1) (λw0 => q336 w0 ∧ (ctnV w0.nm w0.l).fst = 1) (λw0 w1 => q257 w1 w0)
def q122 (x : RdX) (F : Atom) (l : RdY) := Done rdsC x F (fo_rt (tuple ⟨[fo_vp none, fo_vf 32 (fo_vi 222)]⟩)) (q24 F l x)
theorem rds_vc (x : RdX) (F : Atom) (hc : rdsC.cond x) (hr : rdsC.rdc x F) :
 fo_C2 90 ixkiC (λC => C.s.size ≤ 1048576 ∧ Lib.index C.s.data.toList C.p.data.toList = C.i) (λ_ => Gl) [fo_vs x.s, fo_vs ⟨#[13, 10, 13, 10]⟩] (q112 F) (λC B => fo_rI ((C.i : Int) + 4) ∧ fo_Bd ((C.i : Int) + 4 > (4096 : Int)) (Done rdsC x F (fo_rt (tuple ⟨[fo_vp none, fo_vf 32 (fo_vi 2)]⟩)) [(0, F)]) (((0 : Int) ≤ (0 : Int) ∧ 0 ≤ (C.i : Int) ∧ (C.i : Int) ≤ (x.s.size : Int)) ∧ T24 [fo_vs (x.s.extract (Int.toNat (0 : Int)) (C.i : Int).toNat), fo_vs ⟨#[13, 10]⟩] ([] : List Atom) (q112 F) (λA z => T47 (opIn Tryz.f139 7 1) (q335 z) (λy => T25 z.A ⟨y.b, y.o + y.n.toNat * 1, none⟩ (λw => fo_rI ((C.i : Int) + 4) ∧ ∀(v : Nat), fo_sm v 0 ∧ fo_C2 140 rqfC (λu => u.s.size ≤ 1048576) (λ_ => Gl) [fo_vs w] (fo_aR (q220 F z v w C) []) (λu t => Br (!(rqlV u.s).snd.snd) (Done rdsC x F q155 (q220 F z v w C)) ((QOpOk Tryz.prog (opIn Tryz.f139 10 1) s1Q ∧ ∃(s : S1X), [fo_vl z.a z.n z.cap, fo_vi 1] = [fo_vl s.a s.n s.cap, fo_vi 1] ∧ 1 ≤ s.n ∧ (∃(a : RdS), RdS.ok x a ∧ (fo_vs x.s = fo_vs x.s ∧ fo_vb true = fo_vb true ∧ fo_vp (q13 v) = fo_vp (some ⟨a.m, 0, none⟩) ∧ fo_vl (sh1 s.a s.cap) (s.n - 1) (s.cap - 1) = fo_vl (sh1 a.y.a a.y.cap) x.ls.length (a.y.cap - 1) ∧ fo_vi (↑(s.n - 1) : Int) = fo_vi ↑x.ls.length ∧ fo_vi 0 = fo_vi ↑a.i ∧ True) ∧ Ent (q220 F z v w C) (q26 F a x)) ∧ fo_vA λ(r : RdS) _ => RdS.ok x r → fo_Bd ((r.i : Int) < (x.ls.length : Int)) (T47 (opIn Tryz.f139 12 0) [fo_vl (sh1 r.y.a r.y.cap) x.ls.length (r.y.cap - 1), fo_vi ↑r.i] (λp => T25 r.y.A ⟨p.b, p.o + p.n.toNat * 1, none⟩ (λo => T27 [fo_vs o, fo_vs ⟨#[58]⟩] (fo_aR (q26 F r x) []) (λn m => T31 [fo_vs (cutB n.s n.c), fo_vs ⟨#[32, 9]⟩] (λl k => Br (!decide (atV n.s n.c 0 < n.s.size)) (Done rdsC x F q155 (q26 F r x)) (T110 [fo_vs (cutA n.s n.c)] (λj i => Br (!tokV j.s) (Done rdsC x F q155 (q26 F r x)) (fo_C1 190 thC (λh => h.s.size ≤ 1048576) [fo_vs (trmV (inS' l.t) l.s)] (λh g => Br (!thV h.s) (Done rdsC x F q155 (q26 F r x)) (true = true ∧ fo_sm r.m 1 ∧ fo_C2 191 smlC (λf => f.s.size ≤ 1048576) (λ_ => Utf) [fo_vs (cutA n.s n.c)] (fo_aR (q26 F r x) []) (λf e => ∀(d : Nat), T29 (opIn Tryz.f139 17 10) [fo_vl r.r.a r.r.n r.r.cap, fo_vl (q13 d) 1 1] [r.r.A] (fo_aR [(0, F), (1, r.y.A), (2, fo_cl r.m (q360 x r) 199), (3, r.r.A), (17090, fo_cl d [fo_vs (smV f.s), fo_vs (trmV (inS' l.t) l.s)] 36)] [3]) (λc b => fo_sm r.m 1 ∧ fo_rI ((r.i : Int) + 1) ∧ ∃(a : RdS), RdS.ok x a ∧ (fo_vs x.s = fo_vs x.s ∧ fo_vb true = fo_vb true ∧ fo_vp (some ⟨r.m, 0, none⟩) = fo_vp (some ⟨a.m, 0, none⟩) ∧ fo_vl (sh1 r.y.a r.y.cap) x.ls.length (r.y.cap - 1) = fo_vl (sh1 a.y.a a.y.cap) x.ls.length (a.y.cap - 1) ∧ fo_vi ↑x.ls.length = fo_vi ↑x.ls.length ∧ fo_vi ((r.i : Int) + 1) = fo_vi ↑a.i ∧ True) ∧ Ent [(0, F), (1, r.y.A), (2, fo_cl r.m [fo_vs x.l0, fo_vl b.a b.n b.cap, fo_vs ⟨#[]⟩, fo_vi (↑(x.i + 4) : Int)] 199), (3, b.A), (17090, fo_cl d [fo_vs (smV f.s), fo_vs (trmV (inS' l.t) l.s)] 36)] (q26 F a x) ∧ x.ls.length - a.i < x.ls.length - r.i)))))))))))) (∃(a : RdY), IsRow 36 2 (fCs x.fs) a.r ∧ (fo_vs x.s = fo_vs x.s ∧ fo_vb true = fo_vb true ∧ fo_vp (some ⟨r.m, 0, none⟩) = fo_vp (q272 a) ∧ True) ∧ Ent (q26 F r x) (q24 F a x))) ∧ fo_vA λ(l : RdY) _ => IsRow 36 2 (fCs x.fs) l.r → T113 [fo_vp (q272 l), fo_vs ⟨#[99, 111, 110, 116, 101, 110, 116, 45, 108, 101, 110, 103, 116, 104]⟩] (fo_aR (q24 F l x) []) (λj i => T113 [fo_vp (q272 l), fo_vs ⟨#[104, 111, 115, 116]⟩] (fo_aR (q24 F l x) []) (λh g => Br ((ctnV j.nm j.l).snd.toList == q34.toList) (q122 x F l) (fo_Bd ((↑(ctnV j.nm j.l).snd.size : Int) > 9) (q122 x F l) (T31 [fo_vs (ctnV j.nm j.l).snd, fo_vs ⟨#[48, 49, 50, 51, 52, 53, 54, 55, 56, 57]⟩] (λf e => Br (!(trmV (inS' f.t) f.s).toList == q34.toList) (q122 x F l) (fo_C1 118 aukC (λd => AuOk d.s ∧ atN d.s d.s.size = d.n) [fo_vs (ctnV j.nm j.l).snd] (λd c => fo_C2 143 (ctkC 0) (λb => q336 b ∧ (ctnV b.nm b.l).fst = 0) (λb rr => q257 rr b) [fo_vp (q272 l), fo_vs ⟨#[116, 114, 97, 110, 115, 102, 101, 114, 45, 101, 110, 99, 111, 100, 105, 110, 103]⟩] (fo_aR (q24 F l x) []) (λb a => fo_Bd ((d.n : Int) > 4096) (q122 x F l) (fo_sm l.m 3 ∧ fo_rI ((x.s.size : Int) - (↑(x.i + 4) : Int)) ∧ fo_Bd ((x.s.size : Int) - (↑(x.i + 4) : Int) < (d.n : Int)) (Done rdsC x F (fo_rt (tuple ⟨[fo_vp none, fo_vf 32 (fo_vi 3)]⟩)) (q24 F l x)) (true = true ∧ fo_sm l.m 3 ∧ fo_sm l.m 3 ∧ fo_rI ((↑(x.i + 4) : Int) + (d.n : Int)) ∧ (0 ≤ (↑(x.i + 4) : Int) ∧ (↑(x.i + 4) : Int) ≤ (↑(x.i + 4) : Int) + (d.n : Int) ∧ (↑(x.i + 4) : Int) + (d.n : Int) ≤ (x.s.size : Int)) ∧ fo_sm l.m 2 ∧ fo_sm l.m 3 ∧ fo_rI ((↑(x.i + 4) : Int) + (d.n : Int)) ∧ fo_sm l.m 3 ∧ Done rdsC x F (fo_rt (tuple ⟨[fo_vp (q272 l), nilIface]⟩)) [(0, F), (1, fo_cl l.m [fo_vs x.l0, fo_vl l.r.a l.r.n l.r.cap, fo_vs (x.s.extract (↑(x.i + 4) : Int).toNat ((↑(x.i + 4) : Int) + (d.n : Int)).toNat), fo_vi ((↑(x.i + 4) : Int) + (d.n : Int))] 199), (2, l.r.A)]))))))))))))))))) := by
  delta q112 T24 q116 T47 q335 T25 q220 q155 q13 q360 q26 T27 q254 T31 q135 T110 q258 q247 q114 T29 q272 q24 q336 q257 T113 q34 q122 fo_aR fo_sm fo_rI fo_C1 fo_C2 fo_C4 fo_O4 fo_vi fo_vs fo_vb fo_vp fo_vl fo_vf fo_cl fo_Bd fo_rt fo_vA
  have hr : Gl F := hr
  have hc : x.ok := hc
  have gl0 : ∀ (S : St), gt S 0 = F → Gl (.pred (rest S [])) := λS e => hr.sub (sub_rest (A := F) 0 (by simp) e)
  have hs := hc.s
  have hi2 := hc.i2
  have he := hc.e
  have hll := hc.ll
  refine ⟨ixki_ok, rfl, ⟨x.s, sEnd, x.i⟩, rfl, rfl, ⟨hs, hc.i⟩, gl0 _ rfl, λ_ _ => ⟨⟨by dsimp only; omega, by dsimp only; omega⟩, br_decide (λh => absurd h (by dsimp only; omega)) (λ_ => ⟨⟨by omega, by omega, by dsimp only; omega⟩, spl_ok, rfl, ⟨x.s.extract 0 x.i, sCRLF⟩, rfl, rfl, ⟨by rw [fo_se]; omega, (by decide : 1 ≤ sCRLF.size)⟩, gl0 _ rfl, λy hy => ?_⟩)⟩⟩
  obtain ⟨hy, -⟩ := hy
  have hy : IsRow 9 1 (strs (spW sCRLF (x.s.extract 0 x.i))) y := hy
  have hz : ∀ z ∈ x.l0 :: x.ls, z.size ≤ 1048576 := λz h => by
    rw [← hc.l] at h
    have h1 := spW_size h
    rw [fo_se] at h1
    omega
  rw [hc.l] at hy
  have hyl := hy.len
  rw [strs_length, fo_lc, Nat.mul_one] at hyl
  obtain ⟨yb, hyb⟩ := hy.at0 (by omega)
  have hysr := hy.srcd
  rw [hyb] at hysr
  have z0 := hz x.l0 fo_mc
  have hle := hy.le
  refine ⟨ixq_ok 1 rfl rfl rfl rfl, ⟨yb, 0, y.n, y.cap, 0⟩, by rw [hyb], ⟨by dsimp only; omega, by dsimp only; omega⟩, x.l0, hysr.look (j := 0) rfl, ⟨by dsimp only; omega, by dsimp only; omega⟩, λm => ⟨⟨rfl, rfl⟩, rqf_ok, rfl, ⟨x.l0⟩, rfl, rfl, z0, gl0 _ rfl, λ_ _ => br_intro (λh => ?_) (λh => ⟨⟨s1q_ok rfl rfl rfl rfl, ⟨y.a, y.n, y.cap⟩, rfl, by dsimp only; omega, ⟨⟨m, y, 0, nilRow⟩, ⟨fo_zl _, hy, .nil rfl, rfl⟩, ⟨rfl, rfl, rfl, ?_, ?_, rfl, fo_tv⟩, Ent.pick [0, 1, 7060, 999] rfl rfl⟩, ?_⟩, ?_⟩)⟩⟩
  · have h : (!(rqlV x.l0).2.2) = true := h
    rw [hc.r] at h; cases h
  · dsimp only; rw [show y.n - 1 = x.ls.length by omega]
  · dsimp only; rw [show y.n - 1 = x.ls.length by omega]
  · clear h
    rintro ⟨m, y, i, r⟩ js ⟨g1, g2, g3, g4⟩
    dsimp only at g1 g2 g3 g4 ⊢
    have g2l := g2.len
    rw [strs_length, fo_lc, Nat.mul_one] at g2l
    refine br_decide (λhlt => ?_) (λhge => ?_)
    · have hlt : i < x.ls.length := by omega
      obtain ⟨q, hq⟩ : ∃ q, x.ls[i]? = some q := ⟨x.ls[i], fo_ge hlt⟩
      have hqm := fo_mg hq
      have zq := hz q (fo_mm _ hqm)
      obtain ⟨f1, f2, f3⟩ := hc.f q hqm
      obtain ⟨b, hb⟩ := g2.at0 (by omega)
      have hsr := g2.srcd
      rw [hb] at hsr
      have hcap := g2.le
      have hsh : sh1 y.a y.cap = some ⟨b, 1, none⟩ := by
        unfold sh1
        rw [if_neg (by omega), hb] <;> rfl
      have za := cutA_size q 58
      have zb := cutB_size q 58
      have zt := trmV_size (inS' sTab) (cutB q 58)
      have zt2 : (trmV (inS' sTab) (cutB q 58)).size ≤ 1048576 := by omega
      have f3 : thV (trmV (inS' sTab) (cutB q 58)) = true := f3
      refine ⟨ixq_ok 1 rfl rfl rfl rfl, ⟨b, 1, x.ls.length, y.cap - 1, i⟩, by rw [hsh], ⟨by dsimp only; omega, by dsimp only; omega⟩, q, ?_, ct_ok, rfl, ⟨q, 58⟩, rfl, rfl, ⟨zq, (by decide : (58 : Nat) < 256)⟩, gl0 _ rfl, λ_ _ => ⟨tm_ok, rfl, ⟨cutB q 58, sTab⟩, rfl, rfl, ⟨by dsimp only; omega, (by decide : sTab.size ≤ 1048576), (by decide : 2 ≤ sTab.size), ascTab⟩, fo_tv, λ_ _ => ?_⟩⟩
      · have := hsr.look (j := i + 1) (v := .string q) (by unfold strs; rw [List.map_cons, List.getElem?_cons_succ, fo_gm, hq] <;> rfl)
        dsimp only
        rw [fo_tn, Nat.mul_one, Nat.add_comm 1 i]
        rw [fo_za] at this
        exact this
      dsimp only
      have hfq : hfV q = (smV (cutA q 58), trmV (inS' sTab) (cutB q 58)) := rfl
      generalize trmV (inS' sTab) (cutB q 58) = t at *
      rw [fo_dt f1, Bool.not_true, br_false]
      refine ⟨tok_ok, rfl, ⟨cutA q 58⟩, rfl, rfl, by dsimp only; omega, fo_tv, λ_ _ => ?_⟩
      dsimp only
      rw [f2, Bool.not_true, br_false]
      refine ⟨th_ok, rfl, ⟨t⟩, rfl, rfl, zt2, fo_tv, λ_ _ => ?_⟩
      dsimp only
      rw [f3, Bool.not_true, br_false]
      refine ⟨rfl, ⟨rfl, rfl⟩, sml_ok, rfl, ⟨cutA q 58⟩, rfl, rfl, by dsimp only; omega, Utf.rest (j := 0) (by simp) hr.utf, λ_ _ e => ⟨append_ok (P := Tryz.prog) 2 32 rfl rfl rfl rfl rfl rfl rfl (by decide), rfl, ⟨r, fCs ((x.ls.take i).map hfV), some ⟨e, 0, none⟩, 1, 1, [.string (smV (cutA q 58)), .string t]⟩, rfl, rfl, ⟨g3, rfl, λu hu => ?_, by dsimp only; omega, by dsimp only; omega, λh => nomatch h⟩, ?_, λr2 h2 => ?_⟩⟩
      · simp only [List.mem_cons, List.not_mem_nil, or_false] at hu
        rcases hu with rfl | rfl <;> rfl
      · intro a ha
        cases ha
        exact Seg.rest (j := 17090) (by simp) (Seg.cells (λj u hj => by rw [fo_za]; exact hj))
      · obtain ⟨k1, k2, -⟩ := h2
        dsimp only at k1 k2
        refine ⟨⟨rfl, rfl⟩, ⟨by omega, by omega⟩, ⟨m, y, i + 1, r2⟩, ⟨hlt, g2, ?_, by dsimp only; omega⟩, ⟨rfl, rfl, rfl, rfl, rfl, rfl, fo_tv⟩, Ent.pick [0, 1, 2, 3] rfl rfl, by dsimp only; omega⟩
        dsimp only
        rw [List.take_add_one, hq, Option.toList_some, List.map_append, List.map_singleton, hfq]
        unfold fCs at k1 ⊢
        rw [List.flatMap_append]
        exact k1
    · have hi : i = x.ls.length := by omega
      rw [hi, List.take_length] at g3
      exact ⟨⟨m, r⟩, g3, ⟨rfl, rfl, rfl, fo_tv⟩, Ent.pick [0, 2, 3] rfl rfl⟩
  · rintro ⟨m, r⟩ js hr2
    have hr2 : IsRow 36 2 (fCs x.fs) r := hr2
    dsimp only
    have hrs := hr2.src
    have hrl := hr2.len
    rw [fCs_length] at hrl
    have hfl : x.fs.length = x.ls.length := List.length_map _
    have hrn : r.n ≤ 1000000 := by omega
    have hv := hc.v
    have hvlo := hv.lo
    have hvhi := hv.hi
    have hn := hc.n
    refine ⟨ctk_ok, rfl, ⟨m, r.a, r.n, r.cap, x.fs, nmCL⟩, rfl, rfl, ⟨⟨hrs, hrn⟩, hc.c1⟩, ⟨Look.rest (j := 1) (by simp) (Look.cells rfl), row_srcd 2 (by simp) rfl hr2⟩, λ_ _ => ⟨ctk_ok, rfl, ⟨m, r.a, r.n, r.cap, x.fs, nmHo⟩, rfl, rfl, ⟨⟨hrs, hrn⟩, hc.c2⟩, ⟨Look.rest (j := 1) (by simp) (Look.cells rfl), row_srcd 2 (by simp) rfl hr2⟩, λ_ _ => br_intro (λh => ?_) (λ_ => br_decide (λh => ?_) (λ_ => ⟨tm_ok, rfl, ⟨(ctnV nmCL x.fs).2, sDig⟩, rfl, rfl, ⟨by dsimp only; omega, (by decide : sDig.size ≤ 1048576), (by decide : 2 ≤ sDig.size), ascDig⟩, fo_tv, λ_ _ => br_intro (λh => ?_) (λ_ => ⟨auk_ok, rfl, ⟨(ctnV nmCL x.fs).2, x.n⟩, rfl, rfl, ⟨hv, hc.v3⟩, fo_tv, λ_ _ => ⟨ctk_ok, rfl, ⟨m, r.a, r.n, r.cap, x.fs, nmTE⟩, rfl, rfl, ⟨⟨hrs, hrn⟩, hc.c3⟩, ⟨Look.rest (j := 1) (by simp) (Look.cells rfl), row_srcd 2 (by simp) rfl hr2⟩, λ_ _ => br_decide (λh => absurd h (by dsimp only; omega)) (λ_ => ⟨⟨rfl, rfl⟩, ⟨by omega, by omega⟩, br_decide (λh => absurd h (by dsimp only; omega)) (λ_ => ⟨rfl, ⟨rfl, rfl⟩, ⟨rfl, rfl⟩, ⟨by omega, by omega⟩, ⟨by omega, by omega, by omega⟩, ⟨rfl, rfl⟩, ⟨rfl, rfl⟩, ⟨by omega, by omega⟩, ⟨rfl, rfl⟩, ⟨m, r⟩, hr2, rfl, Ent.pick [1, 2, 0] rfl ?_⟩)⟩)⟩⟩)⟩))⟩⟩
    · have h : bEq (ctnV nmCL x.fs).2 ⟨#[]⟩ = true := h
      rw [bEq_nil, fo_df (by omega)] at h
      cases h
    · have h : ((ctnV nmCL x.fs).2.size : Int) > 9 := h
      omega
    · have h : (!bEq (trmV (inS' sDig) (ctnV nmCL x.fs).2) ⟨#[]⟩) = true := h
      rw [hc.v2, (bEq_eq _ _).2 rfl] at h
      cases h
    · show _ = ofL [.cells m (rdMsg x ⟨m, r⟩) 199, r.A, F]
      unfold rdMsg
      have e1 : ((x.i + 4 : Nat) : Int).toNat = x.i + 4 := fo_tn _
      have e2 : (((x.i + 4 : Nat) : Int) + (x.n : Int)) = ((x.i + 4 + x.n : Nat) : Int) := by omega
      dsimp only
      rw [e2, e1, fo_tn] <;> rfl
theorem rds_ok : fo_k 139 rdsC := fo 188 Tryz.func139 (λ_ _ => [(1, 1, .c ixkiC [] []), (6, 3, .c splC [] [1]), (7, 1, .qo (ixQ 1)), (7, 2, .q [.ex 1 .str]), (7, 6, .n 7060), (8, 5, .c rqfC [] []), (10, 1, .qo s1Q), (12, 0, .qo (ixQ 1)), (12, 1, .q [.ex 1 .str]), (13, 1, .c ctC [] []), (14, 1, .c tmC [] []), (15, 4, .c tokC [] []), (15, 9, .c thC [] []), (17, 6, .c smlC [] []), (17, 9, .n 17090), (17, 10, .o (apC 36 2 32) [3] [3]), (19, 1, .c (ctkC 1) [] []), (20, 1, .c (ctkC 1) [] []), (25, 9, .c tmC [] []), (27, 1, .c aukC [] []), (28, 1, .c (ctkC 0) [] [])]) [(8, 4, OH.q [LH.aq (7060 : Nat)]), (17, 4, OH.q [LH.aq (2 : Nat)]), (31, 5, OH.q [LH.aq (1 : Nat)]), (17, 13, OH.w [LH.aq (2 : Nat)]), (33, 5, OH.q [LH.aq (1 : Nat)]), (33, 9, OH.q [LH.aq (1 : Nat)]), (33, 15, OH.w [LH.aq (1 : Nat)]), (34, 3, OH.q [LH.aq (1 : Nat)]), (34, 8, OH.w [LH.aq (1 : Nat)])] rdsInv rdsCut fo_o [] rds_vc
end
section
open Go
set_option maxHeartbeats 1000000
def nmCT : ByteArray := ⟨#[99, 111, 110, 116, 101, 110, 116, 45, 116, 121, 112, 101]⟩
def rrL (x : RdX) : List Value := [.string (rqlV x.l0).1, .string (rqlV x.l0).2.1, .string (ctnV nmHo x.fs).2, .string (ctnV nmCT x.fs).2, .string (x.s.extract (x.i + 4) (x.i + 4 + x.n))]
abbrev rrqC : Con where
  X := RdX
  Y := Unit
  args x := [.string x.s]
  pre _ := []
  cond x := x.ok
  rdc _ F := Gl F
  rel _ _ := True
  val x _ := .returned (.tuple #[.agg (rrL x).toArray, .int .i64 ((x.i + 4 + x.n : Nat) : Int), .int .i64 0])
  post _ _ := []
  rmono _ _ _ hs h := h.sub hs
abbrev q11 : List Value := [fo_vs ⟨#[]⟩, fo_vs ⟨#[]⟩, fo_vs ⟨#[]⟩, fo_vs ⟨#[]⟩, fo_vs ⟨#[]⟩]
abbrev q91 (i : RdX) (h : RdY) : List Value := [fo_vs i.l0, fo_vl h.r.a h.r.n h.r.cap, fo_vs (i.s.extract (i.i + 4) (i.i + 4 + i.n)), fo_vi (↑(i.i + 4 + i.n) : Int)]
def T114 := fo_C2 143 ctnC (λw0 => q336 w0) (λw0 w1 => q257 w1 w0)
abbrev q118 (f : StX) (d b : CtnX) (i : RdX) : List Value := [fo_vs (rqlV f.s).fst, fo_vs (rqlV f.s).snd.fst, fo_vs (ctnV d.nm d.l).snd, fo_vs (ctnV b.nm b.l).snd, fo_vs (i.s.extract (i.i + 4) (i.i + 4 + i.n))]
theorem rrq_vc (x : RdX) (F : Atom) (hc : rrqC.cond x) (hr : rrqC.rdc x F) :
 ∀(j : Nat), fo_C4 139 rdsC (λi => i.ok) (λ_ => Gl) (λi h => IsRow 36 2 (fCs i.fs) h.r) [fo_vs x.s, func (Fn.func 140) ⟨[]⟩ ⟨[]⟩, fo_vb true] ([] : List Atom) (fo_aR [(0, F), (1000, fo_cl j q11 45)] []) (λi h => fo_sm h.m 2 ∧ ∀(g : Nat), fo_s5 g (fo_sm h.m 0 ∧ T111 [fo_vs i.l0] (fo_aR [(0, F), (1000, fo_cl j q11 45), (1011, fo_cl h.m (q91 i h) 199), (1012, h.r.A), (4050, fo_cl g [fo_vs ⟨#[]⟩, fo_vs ⟨#[]⟩, fo_vs ⟨#[]⟩, fo_vs ⟨#[]⟩, fo_vs (i.s.extract (i.i + 4) (i.i + 4 + i.n))] 45)] []) (λf e => fo_sm g 0 ∧ fo_sm g 1 ∧ T114 [fo_vp (q272 h), fo_vs ⟨#[104, 111, 115, 116]⟩] (fo_aR [(0, F), (1000, fo_cl j q11 45), (1011, fo_cl h.m (q91 i h) 199), (1012, h.r.A), (4050, fo_cl g [fo_vs (rqlV f.s).fst, fo_vs (rqlV f.s).snd.fst, fo_vs ⟨#[]⟩, fo_vs ⟨#[]⟩, fo_vs (i.s.extract (i.i + 4) (i.i + 4 + i.n))] 45)] []) (λd c => fo_sm g 2 ∧ T114 [fo_vp (q272 h), fo_vs ⟨#[99, 111, 110, 116, 101, 110, 116, 45, 116, 121, 112, 101]⟩] (fo_aR [(0, F), (1000, fo_cl j q11 45), (1011, fo_cl h.m (q91 i h) 199), (1012, h.r.A), (4050, fo_cl g [fo_vs (rqlV f.s).fst, fo_vs (rqlV f.s).snd.fst, fo_vs (ctnV d.nm d.l).snd, fo_vs ⟨#[]⟩, fo_vs (i.s.extract (i.i + 4) (i.i + 4 + i.n))] 45)] []) (λb a => fo_sm g 3 ∧ true = true ∧ fo_s5 g (fo_sm h.m 3 ∧ fo_s5 j (fo_s5 j (Done rrqC x F (fo_rt (tuple ⟨[agg ⟨q118 f d b i⟩, fo_vi (↑(i.i + 4 + i.n) : Int), fo_vi 0]⟩)) [(0, F), (1000, fo_cl j (q118 f d b i) 45), (1011, fo_cl h.m (q91 i h) 199), (1012, h.r.A), (4050, fo_cl g (q118 f d b i) 45)])))))))) := by
  delta q11 q135 T111 q91 q336 q257 T114 q272 q118 fo_aR fo_sm fo_s5 fo_C2 fo_C4 fo_vi fo_vs fo_vb fo_vp fo_vl fo_cl fo_rt
  have hr : Gl F := hr
  have hc : x.ok := hc
  have gl0 : ∀ (S : St), gt S 0 = F → Gl (.pred (rest S [])) := λS e => hr.sub (sub_rest (A := F) 0 (by simp) e)
  have hll := hc.ll
  have z0 : x.l0.size ≤ 1048576 := by
    have h1 : x.l0 ∈ spW sCRLF (x.s.extract 0 x.i) := by rw [hc.l]; exact fo_mc
    have h2 := spW_size h1
    have h3 := hc.s
    rw [fo_se] at h2
    omega
  refine λb => ⟨rds_ok, rfl, x, rfl, rfl, hc, gl0 _ rfl, λy hy => ?_⟩
  have hy : IsRow 36 2 (fCs x.fs) y.r := hy
  have hrs := hy.src
  have hrl := hy.len
  rw [fCs_length] at hrl
  have hfl : x.fs.length = x.ls.length := List.length_map _
  have hrn : y.r.n ≤ 1000000 := by omega
  exact ⟨⟨rfl, rfl⟩, λb1 => ⟨⟨rfl, rfl⟩, ⟨rfl, rfl⟩, ⟨rfl, rfl⟩, ⟨rfl, rfl⟩, ⟨rfl, rfl⟩, ⟨rfl, rfl⟩, rq_ok, rfl, ⟨x.l0⟩, rfl, rfl, z0, gl0 _ rfl, λ_ _ => ⟨⟨rfl, rfl⟩, ⟨rfl, rfl⟩, ctn_ok, rfl, ⟨y.m, y.r.a, y.r.n, y.r.cap, x.fs, nmHo⟩, rfl, rfl, ⟨hrs, hrn⟩, ⟨Look.rest (j := 1011) (by simp) (Look.cells rfl), row_srcd 1012 (by simp) rfl hy⟩, λ_ _ => ⟨⟨rfl, rfl⟩, ctn_ok, rfl, ⟨y.m, y.r.a, y.r.n, y.r.cap, x.fs, nmCT⟩, rfl, rfl, ⟨hrs, hrn⟩, ⟨Look.rest (j := 1011) (by simp) (Look.cells rfl), row_srcd 1012 (by simp) rfl hy⟩, λ_ _ => ⟨⟨rfl, rfl⟩, rfl, ⟨rfl, rfl⟩, ⟨rfl, rfl⟩, ⟨rfl, rfl⟩, ⟨rfl, rfl⟩, ⟨rfl, rfl⟩, ⟨rfl, rfl⟩, ⟨rfl, rfl⟩, ⟨rfl, rfl⟩, ⟨rfl, rfl⟩, ⟨rfl, rfl⟩, ⟨rfl, rfl⟩, ⟨rfl, rfl⟩, ⟨rfl, rfl⟩, ⟨rfl, rfl⟩, ⟨rfl, rfl⟩, ⟨rfl, rfl⟩, (), fo_tv, rfl, Ent.pick [0] rfl rfl⟩⟩⟩⟩⟩
theorem rrq_ok : fo_k 91 rrqC := fo 51 Tryz.func91 (λ_ _ => [(0, 0, .n 1000), (1, 1, .c rdsC [] [1011, 1012]), (4, 5, .n 4050), (4, 6, .w (at5 4050)), (5, 4, .c rqC [] []), (6, 1, .c ctnC [] []), (7, 1, .c ctnC [] []), (4, 3, .q [.aq 1011]), (5, 3, .q [.aq 1011]), (8, 0, .q (at5 4050)), (8, 4, .q [.aq 1011]), (8, 5, .w (at5 1000))]) [(5, 10, OH.w [LH.aq (4050 : Nat)]), (5, 12, OH.w [LH.aq (4050 : Nat)]), (6, 6, OH.w [LH.aq (4050 : Nat)]), (7, 6, OH.w [LH.aq (4050 : Nat)])] fo_i fo_i fo_o (at5 1000) rrq_vc
end
section
open Go
set_option maxHeartbeats 1000000
structure WqX where
  m : ByteArray
  t : ByteArray
  h : ByteArray
  c : ByteArray
  b : ByteArray
  x : RdX
def wqT (q : WqX) : ByteArray := q.m ++ ⟨#[32]⟩ ++ q.t ++ ⟨#[32, 72, 84, 84, 80, 47, 49, 46, 49]⟩ ++ ⟨#[13, 10]⟩ ++ ⟨#[72, 111, 115, 116, 58, 32]⟩ ++ q.h ++ ⟨#[13, 10]⟩ ++ (⟨#[67, 111, 110, 116, 101, 110, 116, 45, 84, 121, 112, 101, 58, 32]⟩ ++ q.c ++ ⟨#[13, 10]⟩) ++ (⟨#[67, 111, 110, 116, 101, 110, 116, 45, 76, 101, 110, 103, 116, 104, 58, 32]⟩ ++ ⟨(Lib.itoa (q.b.size : Nat)).toArray⟩ ++ ⟨#[13, 10]⟩ ++ ⟨#[13, 10]⟩ ++ q.b)
def wqA (q : WqX) : Value := .agg #[.string q.m, .string q.t, .string q.h, .string q.c, .string q.b]
def neqR : QCon where
  X := WqX
  args q := [wqA q, wqA q]
  cond _ := True
  val _ := .bool false
theorem neqR_ok {o : Oper} {x y : Operand} {rt : TypeId} (ho : o.op = .binOp .neq 45 x y rt) : QOpOk Tryz.prog o neqR := by
  refine ⟨λX w ρ ha hc => ?_⟩
  simp only [ho, Op.operands, neqR] at ha
  obtain ⟨hx, hy⟩ : ρ x = wqA X ∧ ρ y = wqA X := by simpa using ha
  have hS : Tryz.prog.underlying 45 = some (.struct (Tryz.prog.fieldsOf 45)) := by kernel_rfl
  have hp : Tryz.prog.stoodInHeld 45 = false := by kernel_rfl
  have hg : Tryz.prog.eqGuardType Tryz.prog.depth 45 = false := by kernel_rfl
  unfold wqA at hx hy
  have he : (Op.equalIn (9999 + 1) 45 (.agg #[.string X.m, .string X.t, .string X.h, .string X.c, .string X.b]) (.agg #[.string X.m, .string X.t, .string X.h, .string X.c, .string X.b])).run Tryz.prog w = .ok true w := by
    rw [run_equalIn_agg w 9999 45 _ _ hS hp]
    have hf : ((Tryz.prog.fieldsOf 45).toList.map λf => (f.name, f.type, f.offset)) = [("Method", 9, 0), ("Target", 9, 1), ("Host", 9, 2), ("Type", 9, 3), ("Body", 9, 4)] := by kernel_rfl
    have h9 : Tryz.prog.underlying 9 = some .string := by kernel_rfl
    revert hf
    generalize (Tryz.prog.fieldsOf 45).toList = fs
    intro hf
    rcases fs with _ | ⟨f1, _ | ⟨f2, _ | ⟨f3, _ | ⟨f4, _ | ⟨f5, _ | ⟨f6, r⟩⟩⟩⟩⟩⟩ <;> simp at hf
    obtain ⟨⟨n1, t1, o1⟩, ⟨n2, t2, o2⟩, ⟨n3, t3, o3⟩, ⟨n4, t4, o4⟩, ⟨n5, t5, o5⟩⟩ := hf
    simp only [Op.eqFields, n1, t1, o1, n2, t2, o2, n3, t3, o3, n4, t4, o4, n5, t5, o5]
    have e9 : ∀ (a b : ByteArray) (w : World), (Op.equalIn 9999 9 (.string a) (.string b)).run Tryz.prog w = .ok (a.toList == b.toList) w := λa b w => run_equalIn_string w 9998 9 a b h9
    go_simp
  simp [execOp, ho, hx, hy, run_eqGuard_agg _ _ _ _ _ _ _ hg, run_neq_struct, he, neqR]
structure WqX.ok (q : WqX) : Prop where
  x : q.x.ok
  s : q.x.s = wqT q
  r : rrL q.x = [.string q.m, .string q.t, .string q.h, .string q.c, .string q.b]
  e : q.x.i + 4 + q.x.n = q.x.s.size
  c : q.c.size ≠ 0
abbrev wqC : Con where
  X := WqX
  Y := Unit
  args q := [.agg #[.string q.m, .string q.t, .string q.h, .string q.c, .string q.b]]
  pre _ := []
  cond q := q.ok
  rdc _ F := Gl F ∧ TxG F
  rel _ _ := True
  val q _ := .returned (.tuple #[.string q.x.s, .int .i64 0])
  post _ _ := []
  rmono _ _ _ hs h := ⟨h.1.sub hs, h.2.sub hs⟩
def wqCut (q : WqX) (F : Atom) : Nat → Option Inv := fun
  | 5 => some { X := Nat, P := λ_ => True, mu := λ_ => 0, lv := λd => [(1, .pointer (some ⟨d, 0, none⟩)), (4, .string q.x.s)], st := λd => [F, .cells d [.string q.m, .string q.t, .string q.h, .string q.c, .string q.b] 45] }
  | _ => none
def wqOv (_q : WqX) (_F : Atom) : List (Nat × Nat × OH) := [(0, 0, .n 1000), (4, 4, .c itCq [] []), (5, 1, .c rrqC [] []), (5, 6, .n 5060), (5, 7, .w (at5 5060)), (6, 9, .q (at5 5060)), (6, 10, .q (at5 1)), (6, 11, .qo neqR)]
abbrev q182 : ByteArray := ByteArray.mk #[32]
abbrev q83 : ByteArray := ByteArray.mk #[32, 72, 84, 84, 80, 47, 49, 46, 49]
abbrev q46 : ByteArray := ByteArray.mk #[13, 10]
abbrev q140 : ByteArray := ByteArray.mk #[72, 111, 115, 116, 58, 32]
abbrev q146 : ByteArray := ByteArray.mk #[67, 111, 110, 116, 101, 110, 116, 45, 84, 121, 112, 101, 58, 32]
def T115 := fo_C2 31 itCq (λw0 => (-9223372036854775808 : Int) ≤ w0.i ∧ w0.i ≤ 9223372036854775807) (λ_ => TxG)
abbrev q44 (x : WqX) : List Value := [fo_vs x.m, fo_vs x.t, fo_vs x.h, fo_vs x.c, fo_vs x.b]
abbrev q379 (F : Atom) (g : Nat) (x : WqX) := [(0, F), (1000, fo_cl g (q44 x) 45)]
abbrev q76 (c : I1X) : ByteArray := ByteArray.mk (Lib.itoa c.i).toArray
abbrev q33 : ByteArray := ByteArray.mk #[67, 111, 110, 116, 101, 110, 116, 45, 76, 101, 110, 103, 116, 104, 58, 32]
def T116 (e0 : Atom) (e1 : WqX) (v0 v1 : Value) (ss : St) := ∃ (z : Nat), True ∧ (v0 = fo_vp (q13 z) ∧ v1 = fo_vs e1.x.s ∧ True) ∧ Ent ss [(0, e0), (1, fo_cl z (q44 e1) 45)]
def T117 := fo_C2 91 rrqC (λw0 => w0.ok) (λ_ => Gl)
abbrev q96 (d : RdX) : List Value := [fo_vs (rqlV d.l0).fst, fo_vs (rqlV d.l0).snd.fst, fo_vs (ctnV nmHo d.fs).snd, fo_vs (ctnV nmCT d.fs).snd, fo_vs (d.s.extract (d.i + 4) (d.i + 4 + d.n))]
def T118 (oo : Oper) (aa : List Value) (k0 : WqX → Prop) := QOpOk Tryz.prog oo neqR ∧ ∃ (z : WqX), aa = [agg ⟨q44 z⟩, agg ⟨q44 z⟩] ∧ True ∧ k0 z
abbrev q20 (x : WqX) (F : Atom) (f : Nat) : RdX → Unit → Prop := λd c => ∀(b : Nat), fo_s5 b (Br ((↑(d.i + 4 + d.n) : Int) != (x.x.s.size : Int)) (Done wqC x F (fo_rt (tuple ⟨[fo_vs ⟨#[]⟩, fo_vi 1]⟩)) [(0, F), (1, fo_cl f (q44 x) 45), (5060, fo_cl b (q96 d) 45)]) (fo_s5 b (fo_s5 f (T118 (opIn Tryz.f41 6 11) [agg ⟨q96 d⟩, agg ⟨q44 x⟩] (λa => Done wqC x F (fo_rt (tuple ⟨[fo_vs x.x.s, fo_vi 0]⟩)) [(0, F), (1, fo_cl f (q44 x) 45), (5060, fo_cl b (q96 d) 45)])))))
theorem wq_vc (x : WqX) (F : Atom) (hc : wqC.cond x) (hr : wqC.rdc x F) :
 ∀(g : Nat), fo_sm g 0 ∧ x.m.size + 1 ≤ 9223372036854775807 ∧ fo_sm g 1 ∧ (x.m ++ q182).size + x.t.size ≤ 9223372036854775807 ∧ (x.m ++ q182 ++ x.t).size + 9 ≤ 9223372036854775807 ∧ (x.m ++ q182 ++ x.t ++ q83).size + 2 ≤ 9223372036854775807 ∧ (x.m ++ q182 ++ x.t ++ q83 ++ q46).size + 6 ≤ 9223372036854775807 ∧ fo_sm g 2 ∧ (x.m ++ q182 ++ x.t ++ q83 ++ q46 ++ q140).size + x.h.size ≤ 9223372036854775807 ∧ (x.m ++ q182 ++ x.t ++ q83 ++ q46 ++ q140 ++ x.h).size + 2 ≤ 9223372036854775807 ∧ fo_sm g 3 ∧ Br (!x.c.toList == q34.toList) (fo_sm g 3 ∧ 14 + x.c.size ≤ 9223372036854775807 ∧ (q146 ++ x.c).size + 2 ≤ 9223372036854775807 ∧ (x.m ++ q182 ++ x.t ++ q83 ++ q46 ++ q140 ++ x.h ++ q46).size + (q146 ++ x.c ++ q46).size ≤ 9223372036854775807 ∧ (true = true ∧ fo_sm g 4 ∧ T115 [fo_vi ↑x.b.size] (fo_aR (q379 F g x) []) (λc b => 16 + (q76 c).size ≤ 9223372036854775807 ∧ (q33 ++ (q76 c)).size + 2 ≤ 9223372036854775807 ∧ (q33 ++ (q76 c) ++ q46).size + 2 ≤ 9223372036854775807 ∧ fo_sm g 4 ∧ (q33 ++ (q76 c) ++ q46 ++ q46).size + x.b.size ≤ 9223372036854775807 ∧ (x.m ++ q182 ++ x.t ++ q83 ++ q46 ++ q140 ++ x.h ++ q46 ++ (q146 ++ x.c ++ q46)).size + (q33 ++ (q76 c) ++ q46 ++ q46 ++ x.b).size ≤ 9223372036854775807 ∧ T116 F x (q263 g) (fo_vs (x.m ++ q182 ++ x.t ++ q83 ++ q46 ++ q140 ++ x.h ++ q46 ++ (q146 ++ x.c ++ q46) ++ (q33 ++ (q76 c) ++ q46 ++ q46 ++ x.b))) (q379 F g x))) ∧ fo_vA λ(f : Nat) _ => True → T117 [fo_vs x.x.s] (fo_aR [(0, F), (1, fo_cl f (q44 x) 45)] []) (q20 x F f)) ((true = true ∧ fo_sm g 4 ∧ T115 [fo_vi ↑x.b.size] (fo_aR (q379 F g x) []) (λc b => 16 + (q76 c).size ≤ 9223372036854775807 ∧ (q33 ++ (q76 c)).size + 2 ≤ 9223372036854775807 ∧ (q33 ++ (q76 c) ++ q46).size + 2 ≤ 9223372036854775807 ∧ fo_sm g 4 ∧ (q33 ++ (q76 c) ++ q46 ++ q46).size + x.b.size ≤ 9223372036854775807 ∧ (x.m ++ q182 ++ x.t ++ q83 ++ q46 ++ q140 ++ x.h ++ q46).size + (q33 ++ (q76 c) ++ q46 ++ q46 ++ x.b).size ≤ 9223372036854775807 ∧ T116 F x (q263 g) (fo_vs (x.m ++ q182 ++ x.t ++ q83 ++ q46 ++ q140 ++ x.h ++ q46 ++ (q33 ++ (q76 c) ++ q46 ++ q46 ++ x.b))) (q379 F g x))) ∧ fo_vA λ(f : Nat) _ => True → T117 [fo_vs x.x.s] (fo_aR [(0, F), (1, fo_cl f (q44 x) 45)] []) (q20 x F f)) := by
  delta q182 q83 q46 q140 q34 q146 T115 q44 q379 q76 q33 q13 T116 q263 T117 q96 T118 q20 fo_aR fo_sm fo_s5 fo_C2 fo_vi fo_vs fo_vp fo_cl fo_rt fo_vA
  obtain ⟨hr, hx⟩ := hr
  have hr : Gl F := hr
  have hx : TxG F := hx
  have hc : x.ok := hc
  have hz : (wqT x).size ≤ 1048576 := by rw [← hc.s]; exact hc.x.s
  have hT := hc.s
  unfold wqT at hz hT
  have hcs := hc.c
  have eC : (!bEq x.c ⟨#[]⟩) = true := by rw [bEq_nil, fo_df hcs] <;> rfl
  intro b
  generalize hI : (⟨(Lib.itoa (x.b.size : Nat)).toArray⟩ : ByteArray) = I at hz hT
  have l1 : (⟨#[32]⟩ : ByteArray).size = 1 := rfl
  have l2 : (⟨#[13, 10]⟩ : ByteArray).size = 2 := rfl
  have l6 : (⟨#[72, 111, 115, 116, 58, 32]⟩ : ByteArray).size = 6 := rfl
  have l9 : (⟨#[32, 72, 84, 84, 80, 47, 49, 46, 49]⟩ : ByteArray).size = 9 := rfl
  have l14 : (⟨#[67, 111, 110, 116, 101, 110, 116, 45, 84, 121, 112, 101, 58, 32]⟩ : ByteArray).size = 14 := rfl
  have l16 : (⟨#[67, 111, 110, 116, 101, 110, 116, 45, 76, 101, 110, 103, 116, 104, 58, 32]⟩ : ByteArray).size = 16 := rfl
  simp only [fo_sa, l1, l2, l6, l9, l14, l16] at hz
  refine ⟨⟨rfl, rfl⟩, ?_, ⟨rfl, rfl⟩, ?_, ?_, ?_, ?_, ⟨rfl, rfl⟩, ?_, ?_, ⟨rfl, rfl⟩, br_intro (λ_ => ⟨⟨rfl, rfl⟩, ?_, ?_, ?_, ⟨rfl, ⟨rfl, rfl⟩, it_okq, rfl, ⟨(x.b.size : Nat)⟩, rfl, rfl, ?_, TxG.sub hx (sub_rest (A := F) 0 (by simp) rfl), λ_ _ => ?a⟩, ?b⟩) (λh => ?c)⟩
  case a =>
    dsimp only
    rw [hI]
    refine ⟨?_, ?_, ?_, ⟨rfl, rfl⟩, ?_, ?_, b, fo_tv, ⟨rfl, by rw [hT], fo_tv⟩, Ent.pick [0, 1000] rfl rfl⟩
    all_goals
      try simp only [fo_sa, l1, l2, l6, l9, l14, l16]
      omega
  case c =>
    have h : (!bEq x.c ⟨#[]⟩) = false := h
    rw [eC] at h; cases h
  case b =>
    rintro d js -
    have hc5 := hc.r
    unfold rrL at hc5
    have he := hc.e
    refine ⟨rrq_ok, rfl, x.x, rfl, rfl, hc.x, hr.sub (sub_rest (A := F) 0 (by simp) rfl), λ_ _ e => ⟨⟨rfl, rfl⟩, ⟨rfl, rfl⟩, ⟨rfl, rfl⟩, ⟨rfl, rfl⟩, ⟨rfl, rfl⟩, ?_⟩⟩
    have hb : (((x.x.i + 4 + x.x.n : Nat) : Int) != (x.x.s.size : Int)) = false := by rw [he]; simp
    rw [hb, br_false]
    refine ⟨⟨rfl, rfl⟩, ⟨rfl, rfl⟩, ⟨rfl, rfl⟩, ⟨rfl, rfl⟩, ⟨rfl, rfl⟩, ⟨rfl, rfl⟩, ⟨rfl, rfl⟩, ⟨rfl, rfl⟩, ⟨rfl, rfl⟩, ⟨rfl, rfl⟩, neqR_ok rfl, x, ?_, fo_tv, (), fo_tv, rfl, Ent.pick [0] rfl rfl⟩
    have := congrArg (λl => agg l.toArray) hc5
    exact congrArg (λv => [v, wqA x]) this
  all_goals
    try dsimp only
    try simp only [fo_sa, l1, l2, l6, l9, l14, l16]
    omega
theorem wq_ok : fo_k 41 wqC := fo 62 Tryz.func41 wqOv [(1, 1, OH.q [LH.aq (1000 : Nat)]), (1, 4, OH.q [LH.aq (1000 : Nat)]), (1, 10, OH.q [LH.aq (1000 : Nat)]), (2, 1, OH.q [LH.aq (1000 : Nat)]), (3, 2, OH.q [LH.aq (1000 : Nat)]), (4, 2, OH.q [LH.aq (1000 : Nat)]), (4, 9, OH.q [LH.aq (1000 : Nat)])] fo_i wqCut fo_o [] wq_vc
end
section
open Go
set_option maxHeartbeats 1000000
end
end Go.Proofs.YtjdabjmjldiodaaGreatDoor
