/- A part of the proof that pennantlaw23.BasicBack answers true at every input. -/
import Derived.Test.YtjdabjmjldiodaaGreatDoorPBan
set_option linter.all false
namespace Go.Proofs.YtjdabjmjldiodaaGreatDoor
set_option maxRecDepth 100000
open Go.Value (int slice string bool pointer agg tuple func float iface nilIface)
open Go.IntKind (i64 u8 u64 i32 u32 u16 i8 i16)
open Go.FloatKind (f64)
open Go.Ending (returned panicked)
section
open Go
set_option maxHeartbeats 1000000
theorem quo_run {P : Program} {o : Oper} {t tn : TypeId} {x y : Operand} {ρ : Operand → Value} {i : IntKind} {a b : Int} (ho : o.op = .binOp .quo t x y tn) (hx : ρ x = .int i a) (hy : ρ y = .int i b) (hb : b ≠ 0) (hr : inR i (a.tdiv b)) (w : World) : (execOp ρ o).run P w = .ok (.value (.int i (a.tdiv b))) w := by
  simp [execOp, ho, hx, hy, eqGuard, binOp, Op.intDiv, hb, wrap_in hr, pure, Sem.run, bind, Sem.bind]
theorem rem_run {P : Program} {o : Oper} {t tn : TypeId} {x y : Operand} {ρ : Operand → Value} {i : IntKind} {a b : Int} (ho : o.op = .binOp .rem t x y tn) (hx : ρ x = .int i a) (hy : ρ y = .int i b) (hb : b ≠ 0) (w : World) : (execOp ρ o).run P w = .ok (.value (.int i (a.tmod b))) w := by
  simp [execOp, ho, hx, hy, eqGuard, binOp, Op.intDiv, hb, pure, Sem.run, bind, Sem.bind]
def dvN (m : Nat) : QCon where
  X := Nat
  args x := [.int .i64 x, .int .i64 m]
  cond x := x < 4611686018427387904 ∧ 0 < m
  val x := .int .i64 (x / m : Nat)
theorem dvn_ok {P : Program} {m : Nat} {o : Oper} {t tn : TypeId} {x y : Operand} (ho : o.op = .binOp .quo t x y tn) : QOpOk P o (dvN m) := by
  refine ⟨λ(a : Nat) w ρ ha hc => ?_⟩
  have hc : a < 4611686018427387904 ∧ 0 < m := hc
  simp only [ho, Op.operands, dvN] at ha
  have ha2 : ρ x = .int .i64 a ∧ ρ y = .int .i64 m := by simpa using ha
  refine quo_run ho ha2.1 ha2.2 (by omega) ?_ w
  have hd : a / m ≤ a := Nat.div_le_self a m
  show inR .i64 ((a / m : Nat) : Int)
  generalize a / m = q at hd
  simp only [inR]; omega
def mdN (m : Nat) : QCon where
  X := Nat
  args x := [.int .i64 x, .int .i64 m]
  cond x := 0 < m
  val x := .int .i64 (x % m : Nat)
theorem mdn_ok {P : Program} {m : Nat} {o : Oper} {t tn : TypeId} {x y : Operand} (ho : o.op = .binOp .rem t x y tn) : QOpOk P o (mdN m) := by
  refine ⟨λ(a : Nat) w ρ ha hc => ?_⟩
  have hc : 0 < m := hc
  simp only [ho, Op.operands, mdN] at ha
  have ha2 : ρ x = .int .i64 a ∧ ρ y = .int .i64 m := by simpa using ha
  exact rem_run ho ha2.1 ha2.2 (by omega) w
structure UntX where
  u : Nat
abbrev unC : Con where
  X := UntX
  Y := Unit
  args x := [.int .i64 x.u]
  pre _ := []
  cond x := x.u < 65536
  rdc _ _ := True
  rel _ _ := True
  val x _ := .returned (.string (btL [x.u / 256, x.u % 256]))
  post _ _ := []
theorem un_vc (x : UntX) (F : Atom) (hc : unC.cond x) (hr : unC.rdc x F) :
 QOpOk Tryz.prog (opIn Tryz.f65 1 1) (dvN 256) ∧ ∃(g : Nat), [fo_vi ↑x.u, fo_vi 256] = [fo_vi ↑g, fo_vi (↑(256 : Nat) : Int)] ∧ (g < 4611686018427387904 ∧ 0 < 256) ∧ T96 (opIn Tryz.f65 1 2) [fo_vi (↑(g / 256) : Int)] (λf => QOpOk Tryz.prog (opIn Tryz.f65 1 4) (mdN 256) ∧ ∃(e : Nat), [fo_vi ↑x.u, fo_vi 256] = [fo_vi ↑e, fo_vi (↑(256 : Nat) : Int)] ∧ 0 < 256 ∧ T96 (opIn Tryz.f65 1 5) [fo_vi (↑(e % 256) : Int)] (λd => ∀(c : Nat), T4 (opIn Tryz.f65 1 7) [fo_vl (q17 c) 2 2] (fo_aR [(0, F), (2060, fo_cl c (q227 f d) 5)] []) (λb a => Done unC x F (q225 b) [(0, F), (2060, fo_cl c (q227 f d) 5)]))) := by
  delta T96 T4 q17 q227 q225 fo_aR fo_O2 fo_vi fo_vc fo_vs fo_vl fo_cl fo_rt
  have hu : x.u < 65536 := hc
  have e1 : x.u / 256 % 256 = x.u / 256 := Nat.mod_eq_of_lt (by omega)
  have e2 : x.u % 256 % 256 = x.u % 256 := Nat.mod_eq_of_lt (by omega)
  refine ⟨dvn_ok rfl, x.u, rfl, ⟨by omega, by decide⟩, cv_u8 rfl rfl rfl, x.u / 256, rfl, fo_tv, mdn_ok rfl, x.u, rfl, by decide, cv_u8 rfl rfl rfl, x.u % 256, rfl, fo_tv, λb => ⟨b2s_ok rfl rfl rfl rfl, rfl, ⟨some ⟨b, 0, none⟩, 2, 2, [x.u / 256, x.u % 256]⟩, rfl, rfl, .blk b 0 2 rfl, ?_, λ_ _ => ⟨(), fo_tv, rfl, Ent.pick [0] rfl rfl⟩⟩⟩
  dsimp only
  rw [e1, e2]
  exact λa ha => by
    cases ha
    exact Seg.rest (j := 2060) (by simp) (Seg.cells (λj u hj => by rw [fo_za]; exact hj))
theorem un_ok : fo_k 65 unC := fo 11 Tryz.func65 (λ_ _ => [(1, 1, .qo (dvN 256)), (1, 2, .qo (cvQ .i64 .u8 256)), (1, 4, .qo (mdN 256)), (1, 5, .qo (cvQ .i64 .u8 256)), (1, 6, .n 2060), (1, 7, .o b2sC [] [])]) [] fo_i fo_i fo_o [] un_vc
structure CrX where
  s : ByteArray
  i : Nat
abbrev crC : Con where
  X := CrX
  Y := Unit
  args x := [.string x.s, .int .i64 x.i]
  pre _ := []
  cond x := x.s.size ≤ 1048576 ∧ x.i ≤ x.s.size
  rdc _ _ := True
  rel _ _ := True
  val x _ := .returned (.tuple #[.int .i64 ((chV x.s x.i).getD (0, 0)).1, .int .i64 ((chV x.s x.i).getD (0, 0)).2])
  post _ _ := []
structure CrS where
  k : Nat
  c : Nat
  f : Nat
structure CrS.ok (d : CrS) (x : CrX) : Prop where
  k1 : 1 ≤ d.k
  kn : d.k ≤ (chL (bt x.s x.i)).1
  hf : (chL (bt x.s x.i)).1 ≤ d.k + d.f
  hc : d.c < 64 ^ d.k
  he : chT x.s x.i (chL (bt x.s x.i)).1 (chL (bt x.s x.i)).2.2 4 1 (chL (bt x.s x.i)).2.1 = chT x.s x.i (chL (bt x.s x.i)).1 (chL (bt x.s x.i)).2.2 d.f d.k d.c
def crV (x : CrX) : Nat × Nat × Nat := chL (bt x.s x.i)
structure crP (x : CrX) : Prop where
  hi : x.i < x.s.size
  h8 : 128 ≤ bt x.s x.i
  hn : (crV x).1 ≠ 0
def crInv (x : CrX) (F : Atom) : Nat → Option Inv := fun
  | 0 => some { X := CrS, P := λd => d.ok x ∧ crP x ∧ x.i + (crV x).1 ≤ x.s.size, mu := λd => (crV x).1 - d.k, lv := λd => [(0, .string x.s), (1, .int .i64 x.i), (7, .int .i64 (crV x).1), (8, .int .i64 d.c), (9, .int .i64 (crV x).2.2), (10, .int .i64 d.k)], st := λ_ => [F] }
  | _ => none
def crCut (x : CrX) (F : Atom) : Nat → Option Inv := fun
  | 14 => some { X := Unit, P := λ_ => crP x, mu := λ_ => 0, lv := λ_ => [(0, .string x.s), (1, .int .i64 x.i), (7, .int .i64 (crV x).1), (8, .int .i64 (crV x).2.1), (9, .int .i64 (crV x).2.2)], st := λ_ => [F] }
  | _ => none
theorem chL2 {b : Nat} (h : 192 ≤ b ∧ b < 224) : chL b = (2, b - 192, 128) := by unfold chL; rw [fo_dt h.1, fo_dt h.2] <;> rfl
theorem chL3 {b : Nat} (h : 224 ≤ b ∧ b < 240) : chL b = (3, b - 224, 2048) := by unfold chL; rw [fo_df (show ¬ b < 224 by omega), fo_baf, fo_dt h.1, fo_dt h.2] <;> rfl
theorem chL4 {b : Nat} (h : 240 ≤ b ∧ b < 248) : chL b = (4, b - 240, 65536) := by unfold chL; rw [fo_df (show ¬ b < 224 by omega), fo_baf, fo_df (show ¬ b < 240 by omega), fo_baf, fo_dt h.1, fo_dt h.2] <;> rfl
theorem chL0 {b : Nat} (h : b < 192 ∨ 248 ≤ b) : chL b = (0, 0, 0) := by
  unfold chL
  rcases h with h | h
  · rw [fo_df (show ¬ 192 ≤ b by omega), fo_df (show ¬ 224 ≤ b by omega), fo_df (show ¬ 240 ≤ b by omega)] <;> rfl
  · rw [fo_df (show ¬ b < 224 by omega), fo_baf, fo_df (show ¬ b < 240 by omega), fo_baf, fo_df (show ¬ b < 248 by omega), fo_baf] <;> rfl
theorem chL_le (b : Nat) : (chL b).1 ≤ 4 ∧ (b < 256 → (chL b).2.1 < 64) ∧ (chL b).2.2 ≤ 65536 := by
  by_cases h2 : 192 ≤ b ∧ b < 224
  · rw [chL2 h2]; dsimp only; omega
  by_cases h3 : 224 ≤ b ∧ b < 240
  · rw [chL3 h3]; dsimp only; omega
  by_cases h4 : 240 ≤ b ∧ b < 248
  · rw [chL4 h4]; dsimp only; omega
  · rw [chL0 (by omega)]; dsimp only; omega
theorem chV_end {s : ByteArray} {i : Nat} (h : ¬ i < s.size) : chV s i = none := by unfold chV; rw [fo_df h] <;> rfl
theorem chV_asc {s : ByteArray} {i : Nat} (h : i < s.size) (h8 : bt s i < 128) : chV s i = some (bt s i, 1) := by unfold chV; rw [fo_dt h, fo_ct, fo_dt h8, fo_ct]
theorem chV_hi {s : ByteArray} {i : Nat} (h : i < s.size) (h8 : 128 ≤ bt s i) : chV s i = bif (chL (bt s i)).1 == 0 then none
    else bif decide (i + (chL (bt s i)).1 > s.size) then none
    else (chT s i (chL (bt s i)).1 (chL (bt s i)).2.2 4 1 (chL (bt s i)).2.1).map λc => (c, (chL (bt s i)).1) := by unfold chV; rw [fo_dt h, fo_ct, fo_df (show ¬ bt s i < 128 by omega), fo_cf]
def q52 (x : CrX) (F : Atom) := Done crC x F q344 [(0, F)]
def T126 (e0 : CrX) (e1 : Atom) (v0 v1 v2 : Value) (ss : St) := ∃ (z : Unit), crP e0 ∧ (fo_vs e0.s = fo_vs e0.s ∧ fo_vi ↑e0.i = fo_vi ↑e0.i ∧ v0 = fo_vi (↑(crV e0).fst : Int) ∧ v1 = fo_vi (↑(crV e0).snd.fst : Int) ∧ v2 = fo_vi (↑(crV e0).snd.snd : Int) ∧ True) ∧ Ent ss [(0, e1)]
def q27 (x : CrX) (F : Atom) := fo_Bd (byteAt x.s (x.i : Int) ≥ 240) (fo_Bd (byteAt x.s (x.i : Int) < 248) (fo_rI (byteAt x.s (x.i : Int) - 240) ∧ T126 x F (fo_vi 4) (fo_vi (byteAt x.s (x.i : Int) - 240)) (fo_vi 65536) [(0, F)]) (q52 x F)) (q52 x F)
def q130 (x : CrX) (F : Atom) := fo_Bd (byteAt x.s (x.i : Int) ≥ 224) (fo_Bd (byteAt x.s (x.i : Int) < 240) (fo_rI (byteAt x.s (x.i : Int) - 224) ∧ T126 x F (fo_vi 3) (fo_vi (byteAt x.s (x.i : Int) - 224)) (fo_vi 2048) [(0, F)]) (q27 x F)) (q27 x F)
def q309 (a : CrS) (x : CrX) := a.ok x ∧ crP x ∧ x.i + (crV x).fst ≤ x.s.size
def q299 (x : CrX) (F : Atom) (c : CrS) := Done crC x F (fo_rt (tuple ⟨[fo_vi ↑c.c, fo_vi (↑(crV x).fst : Int)]⟩)) [(0, F)]
theorem cr_vc (x : CrX) (F : Atom) (hc : crC.cond x) (hr : crC.rdc x F) :
 fo_Bd ((x.i : Int) ≥ (x.s.size : Int)) (q52 x F) ((0 ≤ (x.i : Int) ∧ (x.i : Int) < (x.s.size : Int)) ∧ fo_rI (byteAt x.s (x.i : Int)) ∧ fo_Bd (byteAt x.s (x.i : Int) < 128) (Done crC x F (fo_rt (tuple ⟨[fo_vi (byteAt x.s (x.i : Int)), fo_vi 1]⟩)) [(0, F)]) (fo_Bd (byteAt x.s (x.i : Int) ≥ 192) (fo_Bd (byteAt x.s (x.i : Int) < 224) (fo_rI (byteAt x.s (x.i : Int) - 192) ∧ T126 x F (fo_vi 2) (fo_vi (byteAt x.s (x.i : Int) - 192)) (fo_vi 128) [(0, F)]) (q130 x F)) (q130 x F) ∧ fo_vA λ(e : Unit) _ => crP x → fo_rI ((x.i : Int) + (↑(crV x).fst : Int)) ∧ fo_Bd ((x.i : Int) + (↑(crV x).fst : Int) > (x.s.size : Int)) (q52 x F) ((∃(a : CrS), q309 a x ∧ (fo_vs x.s = fo_vs x.s ∧ fo_vi ↑x.i = fo_vi ↑x.i ∧ fo_vi (↑(crV x).fst : Int) = fo_vi (↑(crV x).fst : Int) ∧ fo_vi (↑(crV x).snd.fst : Int) = fo_vi ↑a.c ∧ fo_vi (↑(crV x).snd.snd : Int) = fo_vi (↑(crV x).snd.snd : Int) ∧ fo_vi 1 = fo_vi ↑a.k ∧ True) ∧ Ent [(0, F)] [(0, F)]) ∧ fo_vA λ(c : CrS) _ => q309 c x → fo_Bd ((c.k : Int) < (↑(crV x).fst : Int)) (fo_rI ((x.i : Int) + (c.k : Int)) ∧ (0 ≤ (x.i : Int) + (c.k : Int) ∧ (x.i : Int) + (c.k : Int) < (x.s.size : Int)) ∧ fo_rI (byteAt x.s ((x.i : Int) + (c.k : Int))) ∧ fo_Bd (byteAt x.s ((x.i : Int) + (c.k : Int)) < 128) (q52 x F) (fo_Bd (byteAt x.s ((x.i : Int) + (c.k : Int)) ≥ 192) (q52 x F) (fo_rI ((c.c : Int) * 64) ∧ fo_rI ((c.c : Int) * 64 + byteAt x.s ((x.i : Int) + (c.k : Int))) ∧ fo_rI ((c.c : Int) * 64 + byteAt x.s ((x.i : Int) + (c.k : Int)) - 128) ∧ fo_rI ((c.k : Int) + 1) ∧ ∃(a : CrS), q309 a x ∧ (fo_vs x.s = fo_vs x.s ∧ fo_vi ↑x.i = fo_vi ↑x.i ∧ fo_vi (↑(crV x).fst : Int) = fo_vi (↑(crV x).fst : Int) ∧ fo_vi ((c.c : Int) * 64 + byteAt x.s ((x.i : Int) + (c.k : Int)) - 128) = fo_vi ↑a.c ∧ fo_vi (↑(crV x).snd.snd : Int) = fo_vi (↑(crV x).snd.snd : Int) ∧ fo_vi ((c.k : Int) + 1) = fo_vi ↑a.k ∧ True) ∧ Ent [(0, F)] [(0, F)] ∧ (crV x).fst - a.k < (crV x).fst - c.k))) (fo_Bd ((c.c : Int) < (↑(crV x).snd.snd : Int)) (q52 x F) (fo_Bd ((c.c : Int) > 1114111) (q52 x F) (fo_Bd ((c.c : Int) ≥ 55296) (fo_Bd ((c.c : Int) < 57344) (q52 x F) (q299 x F c)) (q299 x F c))))))) := by
  delta q344 q52 T126 q27 q130 q309 q299 fo_rI fo_vi fo_vs fo_Bd fo_rt fo_vA
  obtain ⟨s, i⟩ := x
  obtain ⟨hs, hi⟩ := hc
  dsimp only at hs hi ⊢
  have eNul : ∀ k : Nat, byteAt s (k : Int) = (bt s k : Int) := λk => by rw [byteAt_bt, fo_tn]
  have e1 : ∀ k : Nat, byteAt s ((i : Int) + (k : Int)) = (bt s (i + k) : Int) := λk => by rw [byteAt_bt, show ((i : Int) + (k : Int)).toNat = i + k by omega]
  have fin : ∀ (p : Option (Nat × Nat)), chV s i = p → Done crC ⟨s, i⟩ F (returned (tuple #[.int .i64 (p.getD (0, 0)).1, .int .i64 (p.getD (0, 0)).2])) [(0, F)] := λp h => ⟨(), fo_tv, by subst h; rfl, Ent.pick [0] rfl rfl⟩
  rw [eNul]
  refine br_decide (λh => fin none (chV_end (by omega))) (λh => ⟨⟨by omega, by omega⟩, ⟨by have := bt_lt' s i; omega, by have := bt_lt' s i; omega⟩, br_decide (λh8 => fin (some (bt s i, 1)) (chV_asc (by omega) (by omega))) (λh8 => ⟨?_, ?_⟩)⟩)
  · have hlt : i < s.size := by omega
    have h8 : 128 ≤ bt s i := by omega
    have hhi := chV_hi hlt h8
    have hb := bt_lt' s i
    have leaf : ∀ (N c L : Nat) (C : Int), chL (bt s i) = (N, c, L) → N ≠ 0 → C = (c : Int) → ∃ (_ : Unit), crP ⟨s, i⟩ ∧ (string s = string s ∧ int .i64 (i : Int) = int .i64 (i : Int) ∧ int .i64 (N : Int) = int .i64 ((crV ⟨s, i⟩).1 : Int) ∧ int .i64 C = int .i64 ((crV ⟨s, i⟩).2.1 : Int) ∧ int .i64 (L : Int) = int .i64 ((crV ⟨s, i⟩).2.2 : Int) ∧ True) ∧ Ent [(0, F)] [(0, F)] := by
      intro N c L C h1 h2 h3
      have h1 : crV ⟨s, i⟩ = (N, c, L) := h1
      exact ⟨(), ⟨hlt, h8, by rw [h1]; exact h2⟩, ⟨rfl, rfl, by rw [h1], by rw [h1, h3], by rw [h1], fo_tv⟩, Ent.pick [0] rfl rfl⟩
    have none' : chL (bt s i) = (0, 0, 0) → chV s i = none := λh => by rw [hhi, h] <;> rfl
    repeat' refine br_decide (λ_ => ?_) (λ_ => ?_)
    all_goals first
      | exact ⟨⟨by omega, by omega⟩, leaf 2 _ 128 _ (chL2 (by omega)) (by decide) (by omega)⟩
      | exact ⟨⟨by omega, by omega⟩, leaf 3 _ 2048 _ (chL3 (by omega)) (by decide) (by omega)⟩
      | exact ⟨⟨by omega, by omega⟩, leaf 4 _ 65536 _ (chL4 (by omega)) (by decide) (by omega)⟩
      | exact fin none (none' (chL0 (by omega)))
  rintro _ js ⟨hlt, h8, hn⟩
  dsimp only at hlt h8
  have hhi := chV_hi hlt h8
  obtain ⟨l1, l2, l3⟩ := chL_le (bt s i)
  have l2 := l2 (bt_lt' s i)
  have hP : crP ⟨s, i⟩ := ⟨hlt, h8, hn⟩
  have hn0 : ((chL (bt s i)).1 == 0) = false := fo_bf.2 hn
  rw [hn0, fo_cf] at hhi
  have hcr : crV ⟨s, i⟩ = chL (bt s i) := rfl
  rw [hcr]
  refine ⟨⟨by omega, by omega⟩, br_decide (λh => fin none (by rw [hhi, fo_dt (show i + (chL (bt s i)).1 > s.size by omega)] <;> rfl)) (λh => ?_)⟩
  have hle : i + (chL (bt s i)).1 ≤ s.size := by omega
  rw [fo_df (show ¬ i + (chL (bt s i)).1 > s.size by omega), fo_cf] at hhi
  refine ⟨⟨⟨1, (chL (bt s i)).2.1, 4⟩, ⟨⟨fo_nr _, Nat.pos_of_ne_zero hn, by dsimp only; omega, l2, rfl⟩, hP, hle⟩, ⟨rfl, rfl, rfl, rfl, rfl, rfl, fo_tv⟩, Ent.pick [0] rfl rfl⟩, ?_⟩
  rintro ⟨k, c, f⟩ js ⟨⟨k1, kn, hf, hc, he⟩, -, -⟩
  dsimp only at k1 kn hf hc he ⊢
  rw [he] at hhi
  have hk4 : 64 ^ k ≤ 64 ^ 4 := fo_pp (by decide) (by omega)
  have h64 : (64 : Nat) ^ 4 = 16777216 := by decide
  rw [h64] at hk4
  have hp : 64 ^ (k + 1) = 64 ^ k * 64 := Nat.pow_succ ..
  have hx := bt_lt' s (i + k)
  rw [e1]
  refine br_decide (λh => ⟨⟨by omega, by omega⟩, ⟨by omega, by omega⟩, ⟨by omega, by omega⟩, ?_⟩) (λh => ?_)
  · obtain ⟨f', rfl⟩ : ∃ f', f = f' + 1 := ⟨f - 1, by omega⟩
    have st : chT s i (chL (bt s i)).1 (chL (bt s i)).2.2 (f' + 1) k c = bif decide (bt s (i + k) < 128) || decide (192 ≤ bt s (i + k)) then none else chT s i (chL (bt s i)).1 (chL (bt s i)).2.2 f' (k + 1) (c * 64 + bt s (i + k) - 128) := by
      rw [chT, fo_dt (show k < (chL (bt s i)).1 by omega), fo_ct]
    rw [st] at hhi he
    refine br_decide (λh1 => fin none (by rw [hhi, fo_dt (show bt s (i + k) < 128 by omega)] <;> rfl)) (λh1 => br_decide (λh2 => fin none (by rw [hhi, fo_dt (show 192 ≤ bt s (i + k) by omega), fo_bot] <;> rfl)) (λh2 => ?_))
    rw [fo_df (show ¬ bt s (i + k) < 128 by omega), fo_df (show ¬ 192 ≤ bt s (i + k) by omega), Bool.or_false, fo_cf] at he
    exact ⟨⟨by omega, by omega⟩, ⟨by omega, by omega⟩, ⟨by omega, by omega⟩, ⟨by omega, by omega⟩, ⟨k + 1, c * 64 + bt s (i + k) - 128, f'⟩, ⟨⟨by dsimp only; omega, by dsimp only; omega, by dsimp only; omega, by dsimp only; omega, he⟩, hP, hle⟩, ⟨rfl, rfl, rfl, by dsimp only; congr 1; omega, rfl, rfl, fo_tv⟩, Ent.pick [0] rfl rfl, by dsimp only; omega⟩
  · have hk : k = (chL (bt s i)).1 := by omega
    have hT : chT s i (chL (bt s i)).1 (chL (bt s i)).2.2 f k c = chE (chL (bt s i)).2.2 c := by
      cases f with
      | zero => rfl
      | succ f => rw [chT, fo_df (show ¬ k < (chL (bt s i)).1 by omega), fo_cf]
    rw [hT] at hhi
    have bad : chE (chL (bt s i)).2.2 c = none → chV s i = none := λh => by rw [hhi, h] <;> rfl
    have good : chE (chL (bt s i)).2.2 c = some c → chV s i = some (c, (chL (bt s i)).1) := λh => by rw [hhi, h] <;> rfl
    generalize hB : decide ((c : Int) > 1114111) = bB
    generalize hG : decide ((c : Int) ≥ 55296) = bG
    generalize hD : decide ((c : Int) < 57344) = bD
    refine br_decide (λa => fin none (bad (chE_lt (by omega)))) (λa => ?_)
    cases bB with
    | true => have hB := fo_od1 hB; rw [br_true]; exact fin none (bad (chE_gt (by omega)))
    | false =>
      have hB := fo_od0 hB
      rw [br_false]
      cases bG with
      | false => have hG := fo_od0 hG; rw [br_false]; exact fin _ (good (chE_ok (by omega)))
      | true =>
        have hG := fo_od1 hG
        rw [br_true]
        cases bD with
        | true => have hD := fo_od1 hD; rw [br_true]; exact fin none (bad (chE_su (by omega)))
        | false => have hD := fo_od0 hD; rw [br_false]; exact fin _ (good (chE_ok (by omega)))
theorem cr_ok : fo_k 64 crC := fo 96 Tryz.func64 (λ_ _ => []) [] crInv crCut fo_o [] cr_vc
end
section
open Go
set_option maxHeartbeats 1000000
abbrev wdrC : Con where
  X := WdX
  Y := Int
  args x := [.string x.s]
  pre _ := []
  cond x := x.s.size ≤ 262144
  rdc _ _ := True
  rel _ _ := True
  val x y := .returned (.tuple #[.string (wideV x.s), .int .i64 y, .int .i64 (bif okV x.s then 0 else 10)])
  post _ _ := []
structure WrS where
  i : Nat
  f : Nat
  o : List Nat
structure WrS.ok (d : WrS) (s : ByteArray) : Prop where
  hi : d.i ≤ s.size
  hf : s.size < d.i + d.f
  hz : d.o.length ≤ 4 * d.i
  hw : wideV s = btL (wideF s d.f d.i d.o)
  hv : okV s = okF s d.f d.i
def wdrInv (x : WdX) (F : Atom) : Nat → Option Inv := fun
  | 0 => some { X := WrS, P := λd => d.ok x.s, mu := λd => x.s.size - d.i, lv := λd => [(0, .string x.s), (5, .string (btL d.o)), (6, .int .i64 d.i)], st := λ_ => [F] }
  | _ => none
theorem okF_end {s : ByteArray} {f i : Nat} (h : ¬ i < s.size) : okF s f i = true := by
  cases f with
  | zero => rfl
  | succ f => rw [okF, fo_df h] <;> rfl
theorem wideF_end {s : ByteArray} {f i : Nat} {o : List Nat} (h : ¬ i < s.size) : wideF s f i o = o := by
  cases f with
  | zero => rfl
  | succ f => rw [wideF, fo_df h] <;> rfl
abbrev q308 (i : CrX) : List Value := [fo_vi ((↑((chV i.s i.i).getD (0, 0)).fst : Int) - 65536), fo_vi 1024]
def T127 := fo_C1 65 unC (λw0 => w0.u < 65536)
def T128 (e0 : WdX) (e1 : Atom) (v0 v1 : Value) (ss : St) (mm : Nat) := ∃ (z : WrS), z.ok e0.s ∧ (fo_vs e0.s = fo_vs e0.s ∧ v0 = fo_vs (btL z.o) ∧ v1 = fo_vi ↑z.i ∧ True) ∧ Ent ss [(0, e1)] ∧ e0.s.size - z.i < mm
theorem wdr_vc (x : WdX) (F : Atom) (hc : wdrC.cond x) (hr : wdrC.rdc x F) :
 (∃(a : WrS), a.ok x.s ∧ (fo_vs x.s = fo_vs x.s ∧ fo_vs ⟨#[]⟩ = fo_vs (btL a.o) ∧ fo_vi 0 = fo_vi ↑a.i ∧ True) ∧ Ent [(0, F)] [(0, F)]) ∧ fo_vA λ(k : WrS) _ => k.ok x.s → fo_Bd ((k.i : Int) < (x.s.size : Int)) (fo_C1 64 crC (λi => i.s.size ≤ 1048576 ∧ i.i ≤ i.s.size) [fo_vs x.s, fo_vi ↑k.i] (λi h => Br ((↑((chV i.s i.i).getD (0, 0)).snd : Int) == 0) (Done wdrC x F (fo_rt (tuple ⟨[fo_vs ⟨#[]⟩, fo_vi ↑k.i, fo_vi 10]⟩)) [(0, F)]) (fo_Bd ((↑((chV i.s i.i).getD (0, 0)).fst : Int) ≥ 65536) (fo_rI ((↑((chV i.s i.i).getD (0, 0)).fst : Int) - 65536) ∧ QOpOk Tryz.prog (opIn Tryz.f20 8 3) (dvN 1024) ∧ ∃(g : Nat), (q308 i) = [fo_vi ↑g, fo_vi (↑(1024 : Nat) : Int)] ∧ (g < 4611686018427387904 ∧ 0 < 1024) ∧ fo_rI (55296 + (↑(g / 1024) : Int)) ∧ T127 [fo_vi (55296 + (↑(g / 1024) : Int))] (λf e => (btL k.o).size + (btL [f.u / 256, f.u % 256]).size ≤ 9223372036854775807 ∧ fo_rI ((↑((chV i.s i.i).getD (0, 0)).fst : Int) - 65536) ∧ QOpOk Tryz.prog (opIn Tryz.f20 8 9) (mdN 1024) ∧ ∃(d : Nat), (q308 i) = [fo_vi ↑d, fo_vi (↑(1024 : Nat) : Int)] ∧ 0 < 1024 ∧ fo_rI (56320 + (↑(d % 1024) : Int)) ∧ T127 [fo_vi (56320 + (↑(d % 1024) : Int))] (λc b => (btL k.o ++ btL [f.u / 256, f.u % 256]).size + (btL [c.u / 256, c.u % 256]).size ≤ 9223372036854775807 ∧ fo_rI ((k.i : Int) + (↑((chV i.s i.i).getD (0, 0)).snd : Int)) ∧ T128 x F (fo_vs (btL k.o ++ btL [f.u / 256, f.u % 256] ++ btL [c.u / 256, c.u % 256])) (fo_vi ((k.i : Int) + (↑((chV i.s i.i).getD (0, 0)).snd : Int))) [(0, F)] (x.s.size - k.i)))) (T127 [fo_vi (↑((chV i.s i.i).getD (0, 0)).fst : Int)] (λc b => (btL k.o).size + (btL [c.u / 256, c.u % 256]).size ≤ 9223372036854775807 ∧ fo_rI ((k.i : Int) + (↑((chV i.s i.i).getD (0, 0)).snd : Int)) ∧ T128 x F (fo_vs (btL k.o ++ btL [c.u / 256, c.u % 256])) (fo_vi ((k.i : Int) + (↑((chV i.s i.i).getD (0, 0)).snd : Int))) [(0, F)] (x.s.size - k.i)))))) (Done wdrC x F (fo_rt (tuple ⟨[fo_vs (btL k.o), fo_vi 0, fo_vi 0]⟩)) [(0, F)]) := by
  delta q308 T127 T128 fo_rI fo_C1 fo_vi fo_vs fo_Bd fo_rt fo_vA
  obtain ⟨s⟩ := x
  have hs : s.size ≤ 262144 := hc
  dsimp only
  have fin : ∀ (w : ByteArray) (y : Int) (v : Bool), wideV s = w → okV s = v → Done wdrC ⟨s⟩ F (returned (tuple #[.string w, .int .i64 y, .int .i64 (bif v then 0 else 10)])) [(0, F)] := λw y v h1 h2 => by
    exact ⟨y, fo_tv, by subst h1 h2; rfl, Ent.pick [0] rfl rfl⟩
  refine ⟨⟨⟨0, s.size + 1, []⟩, ⟨fo_zl _, by dsimp only; omega, fo_nr _, rfl, rfl⟩, ⟨rfl, rfl, rfl, fo_tv⟩, Ent.pick [0] rfl rfl⟩, ?_⟩
  rintro ⟨i, f, o⟩ js ⟨hi, hf, hz, hw, hv⟩
  dsimp only at hi hf hz hw hv ⊢
  obtain ⟨f', rfl⟩ : ∃ f', f = f' + 1 := ⟨f - 1, by omega⟩
  have hsz := btL_size o
  refine br_decide (λh => ?_) (λh => ?_)
  · have hlt : i < s.size := by omega
    rw [wideF, fo_dt hlt, fo_ct] at hw
    rw [okF, fo_dt hlt, fo_ct] at hv
    refine ⟨cr_ok, rfl, ⟨s, i⟩, rfl, rfl, ⟨by dsimp only; omega, hi⟩, fo_tv, λ_ _ => ?_⟩
    rw [chV_next]
    have hnx := λc n => next_facts (s := s) (i := i) (c := c) (n := n)
    revert hw hv hnx
    generalize nextV s i = p
    intro hw hv hnx
    cases p with
    | none => exact br_intro (λ_ => fin _ _ false hw hv) (λq => by cases q)
    | some p =>
      obtain ⟨c, n⟩ := p
      obtain ⟨g1, g2, g3⟩ := hnx c n rfl
      dsimp only [Option.getD] at hw hv ⊢
      have hwc : c ≥ 65536 → wideC c = [(55296 + (c - 65536) / 1024) / 256, (55296 + (c - 65536) / 1024) % 256] ++ [(56320 + (c - 65536) % 1024) / 256, (56320 + (c - 65536) % 1024) % 256] := λq => by
        unfold wideC; rw [fo_dt (show c > 65535 by omega)] <;> rfl
      have hwd : ¬ c ≥ 65536 → wideC c = [c / 256, c % 256] := λq => by
        unfold wideC; rw [fo_df (show ¬ c > 65535 by omega)] <;> rfl
      have hl := (wdC_len c).1
      refine br_intro (λq => ?_) (λ_ => ?_)
      · rw [beq_iff_eq] at q; omega
      generalize hB : decide ((c : Int) ≥ 65536) = bB
      cases bB with
      | true =>
        have hB := fo_od1 hB
        rw [br_true]
        have hwc := hwc (by omega)
        rw [hwc] at hw hl
        have ec : (c : Int) - 65536 = ((c - 65536 : Nat) : Int) := by omega
        rw [ec]
        have d1 : (c - 65536) / 1024 ≤ 1024 := by omega
        have d2 : (c - 65536) % 1024 < 1024 := Nat.mod_lt _ (by decide)
        refine ⟨⟨by omega, by omega⟩, dvn_ok rfl, c - 65536, rfl, ⟨by omega, by decide⟩, ⟨by omega, by omega⟩, un_ok, rfl, ⟨55296 + (c - 65536) / 1024⟩, by congr 2, rfl, by dsimp only; omega, fo_tv, λ_ _ => ⟨by rw [hsz, btL_size]; simp only [fo_lc, List.length_nil]; omega, ⟨by omega, by omega⟩, mdn_ok rfl, c - 65536, rfl, by decide, ⟨by omega, by omega⟩, un_ok, rfl, ⟨56320 + (c - 65536) % 1024⟩, by congr 2, rfl, by dsimp only; omega, fo_tv, λ_ _ => ⟨by rw [fo_sa, hsz, btL_size, btL_size]; simp only [fo_lc, List.length_nil]; omega, ⟨by omega, by omega⟩, ⟨i + n, f', o ++ ([(55296 + (c - 65536) / 1024) / 256, (55296 + (c - 65536) / 1024) % 256] ++ [(56320 + (c - 65536) % 1024) / 256, (56320 + (c - 65536) % 1024) % 256])⟩, ⟨g1, by dsimp only; omega, by rw [fo_la]; dsimp only; omega, hw, hv⟩, ⟨rfl, by dsimp only; rw [btL_app, btL_app, fo_aa], rfl, fo_tv⟩, Ent.pick [0] rfl rfl, by dsimp only; omega⟩⟩⟩
      | false =>
        have hB := fo_od0 hB
        rw [br_false]
        have hwd := hwd (by omega)
        rw [hwd] at hw hl
        exact ⟨un_ok, rfl, ⟨c⟩, rfl, rfl, by dsimp only; omega, fo_tv, λ_ _ => ⟨by rw [hsz, btL_size]; simp only [fo_lc, List.length_nil]; omega, ⟨by omega, by omega⟩, ⟨i + n, f', o ++ [c / 256, c % 256]⟩, ⟨g1, by dsimp only; omega, by rw [fo_la]; dsimp only; omega, hw, hv⟩, ⟨rfl, by dsimp only; rw [btL_app], rfl, fo_tv⟩, Ent.pick [0] rfl rfl, by dsimp only; omega⟩⟩
  · exact fin _ _ true (by rw [hw, wideF_end (by omega)]) (by rw [hv, okF_end (by omega)])
theorem wdr_ok : fo_k 20 wdrC := fo 45 Tryz.func20 (λ_ _ => [(4, 2, .c crC [] []), (8, 3, .qo (dvN 1024)), (8, 5, .c unC [] []), (8, 9, .qo (mdN 1024)), (8, 11, .c unC [] []), (9, 2, .c unC [] [])]) [] wdrInv fo_i fo_o [] wdr_vc
end
section
open Go
set_option maxHeartbeats 1000000
end
section
open Go
set_option maxHeartbeats 1000000
end
section
open Go
set_option maxHeartbeats 1000000
end
section
open Go
set_option maxHeartbeats 1000000
end
section
open Go
set_option maxHeartbeats 1000000
def atrV (w : ByteArray) (i : Nat) : Int := bif decide (i < w.size / 2) then (unitN w i : Int) else -1
abbrev atrC : Con where
  X := CrX
  Y := Unit
  args x := [.string x.s, .int .i64 x.i]
  pre _ := []
  cond x := x.s.size ≤ 1048576 ∧ x.i ≤ 1048576
  rdc _ _ := True
  rel _ _ := True
  val x _ := .returned (.int .i64 (atrV x.s x.i))
  post _ _ := []
def T129 (oo : Oper) (aa : List Value) (k0 : Nat → Prop) := QOpOk Tryz.prog oo (dvN 2) ∧ ∃ (z : Nat), aa = [fo_vi ↑z, fo_vi (↑(2 : Nat) : Int)] ∧ (z < 4611686018427387904 ∧ 0 < 2) ∧ k0 z
theorem atr_vc (x : CrX) (F : Atom) (hc : atrC.cond x) (hr : atrC.rdc x F) :
 T129 (opIn Tryz.f76 1 6) [fo_vi ↑x.s.size, fo_vi 2] (λa => fo_rI ((↑(a / 2) : Int) - 1) ∧ fo_Bd ((x.i : Int) > (↑(a / 2) : Int) - 1) (Done atrC x F q173 [(0, F)]) (true = true ∧ fo_rI (2 * (x.i : Int)) ∧ ((0 : Int) ≤ 2 * (x.i : Int) ∧ 2 * (x.i : Int) < (x.s.size : Int)) ∧ fo_rI (byteAt x.s (2 * (x.i : Int))) ∧ fo_rI (byteAt x.s (2 * (x.i : Int)) * 256) ∧ fo_rI (2 * (x.i : Int)) ∧ fo_rI (2 * (x.i : Int) + 1) ∧ ((0 : Int) ≤ 2 * (x.i : Int) + 1 ∧ 2 * (x.i : Int) + 1 < (x.s.size : Int)) ∧ fo_rI (byteAt x.s (2 * (x.i : Int) + 1)) ∧ fo_rI (byteAt x.s (2 * (x.i : Int)) * 256 + byteAt x.s (2 * (x.i : Int) + 1)) ∧ Done atrC x F (fo_rt (fo_vi (byteAt x.s (2 * (x.i : Int)) * 256 + byteAt x.s (2 * (x.i : Int) + 1)))) [(0, F)])) := by
  delta T129 q173 fo_rI fo_vi fo_Bd fo_rt
  obtain ⟨w, i⟩ := x
  obtain ⟨hw, hi⟩ := hc
  dsimp only at hw hi ⊢
  have eNul : byteAt w (2 * (i : Int)) = (bt w (2 * i) : Int) := by rw [byteAt_bt, show (2 * (i : Int)).toNat = 2 * i by omega]
  have e1 : byteAt w (2 * (i : Int) + 1) = (bt w (2 * i + 1) : Int) := by rw [byteAt_bt, show (2 * (i : Int) + 1).toNat = 2 * i + 1 by omega]
  have b0 := bt_lt' w (2 * i)
  have b1 := bt_lt' w (2 * i + 1)
  have fin : ∀ v : Int, atrV w i = v → Done atrC ⟨w, i⟩ F (returned (int .i64 v)) [(0, F)] := λv h => ⟨(), fo_tv, by subst h; rfl, Ent.pick [0] rfl rfl⟩
  refine ⟨dvn_ok rfl, w.size, rfl, ⟨by omega, by decide⟩, ⟨by omega, by omega⟩, br_decide (λh => fin (-1) ?_) (λh => ?_)⟩
  · unfold atrV; rw [fo_df (show ¬ i < w.size / 2 by omega)] <;> rfl
  · rw [eNul, e1]
    refine ⟨rfl, ⟨by omega, by omega⟩, ⟨by omega, by omega⟩, ⟨by omega, by omega⟩, ⟨by omega, by omega⟩, ⟨by omega, by omega⟩, ⟨by omega, by omega⟩, ⟨by omega, by omega⟩, ⟨by omega, by omega⟩, ⟨by omega, by omega⟩, fin _ ?_⟩
    unfold atrV unitN; rw [fo_dt (show i < w.size / 2 by omega)] <;> rfl
theorem atr_ok : fo_k 76 atrC := fo 28 Tryz.func76 (λ_ _ => [(1, 6, .qo (dvN 2))]) [] fo_i fo_i fo_o [] atr_vc
theorem srcd_n {F : Atom} {j b : Nat} {l : List Nat} {t : TypeId} (hj : j ≠ 0) : Srcd (.pred (rest [(0, F), (j, Atom.cells b (u8s l) t)] [])) (some ⟨b, 0, none⟩) (u8s l) := λa ha => by
  cases ha
  refine Seg.rest (j := j) (by simp) ?_
  have e : gt [(0, F), (j, Atom.cells b (u8s l) t)] j = Atom.cells b (u8s l) t := by
    show lkp [(0, F), (j, Atom.cells b (u8s l) t)] j .emp = _
    rw [lkp, beq_ne hj, fo_cf, lkp, Nat.beq_refl, fo_ct]
  rw [e]
  exact Seg.cells (λj u hj => by rw [fo_za]; exact hj)
structure ByX2 where
  c : Nat
abbrev bysC : Con where
  X := ByX2
  Y := Unit
  args x := [.int .i64 x.c]
  pre _ := []
  cond x := Sc x.c
  rdc _ _ := True
  rel _ _ := True
  val x _ := .returned (.string (Utf8.encode (x.c : Int)))
  post _ _ := []
def T130 (oo : Oper) (aa : List Value) (k0 : Nat → Prop) := QOpOk Tryz.prog oo (dvN 64) ∧ ∃ (z : Nat), aa = [fo_vi ↑z, fo_vi (↑(64 : Nat) : Int)] ∧ (z < 4611686018427387904 ∧ 0 < 64) ∧ k0 z
abbrev q246 (x : ByX2) : List Value := [fo_vi ↑x.c, fo_vi 64]
def T131 (oo : Oper) (aa : List Value) (k0 : Nat → Prop) := QOpOk Tryz.prog oo (mdN 64) ∧ ∃ (z : Nat), aa = [fo_vi ↑z, fo_vi (↑(64 : Nat) : Int)] ∧ 0 < 64 ∧ k0 z
def q106 (d : Nat) := (0 : Int) ≤ 128 + (↑(d % 64) : Int) ∧ 128 + (↑(d % 64) : Int) ≤ 255
def T132 (oo : Oper) (aa : List Value) (k0 : Nat → Prop) := QOpOk Tryz.prog oo (dvN 4096) ∧ ∃ (z : Nat), aa = [fo_vi ↑z, fo_vi (↑(4096 : Nat) : Int)] ∧ (z < 4611686018427387904 ∧ 0 < 4096) ∧ k0 z
abbrev q323 (g e d : Nat) : List Value := [fo_vc (224 + (↑(g / 4096) : Int)), fo_vc (128 + (↑(e % 64) : Int)), fo_vc (128 + (↑(d % 64) : Int))]
abbrev q275 (i g e d : Nat) : List Value := [fo_vc (240 + (↑(i / 262144) : Int)), fo_vc (128 + (↑(g % 64) : Int)), fo_vc (128 + (↑(e % 64) : Int)), fo_vc (128 + (↑(d % 64) : Int))]
theorem bys_vc (x : ByX2) (F : Atom) (hc : bysC.cond x) (hr : bysC.rdc x F) :
 fo_Bd ((x.c : Int) < 128) ((0 ≤ (x.c : Int) ∧ (x.c : Int) ≤ 255) ∧ ∀(c : Nat), T4 (opIn Tryz.f77 2 3) [fo_vl (q17 c) 1 1] (fo_aR [(0, F), (3020, fo_cl c [fo_vc ↑x.c] 5)] []) (λb a => Done bysC x F (q225 b) [(0, F), (3020, fo_cl c [fo_vc ↑x.c] 5)])) (fo_Bd ((x.c : Int) < 2048) (T130 (opIn Tryz.f77 4 1) (q246 x) (λe => fo_rI (192 + (↑(e / 64) : Int)) ∧ ((0 : Int) ≤ 192 + (↑(e / 64) : Int) ∧ 192 + (↑(e / 64) : Int) ≤ 255) ∧ T131 (opIn Tryz.f77 4 5) (q246 x) (λd => fo_rI (128 + (↑(d % 64) : Int)) ∧ q106 d ∧ ∀(c : Nat), T4 (opIn Tryz.f77 4 9) [fo_vl (q17 c) 2 2] (fo_aR [(0, F), (5080, fo_cl c [fo_vc (192 + (↑(e / 64) : Int)), fo_vc (128 + (↑(d % 64) : Int))] 5)] []) (λb a => Done bysC x F (q225 b) [(0, F), (5080, fo_cl c [fo_vc (192 + (↑(e / 64) : Int)), fo_vc (128 + (↑(d % 64) : Int))] 5)])))) (fo_Bd ((x.c : Int) < 65536) (T132 (opIn Tryz.f77 6 1) [fo_vi ↑x.c, fo_vi 4096] (λg => fo_rI (224 + (↑(g / 4096) : Int)) ∧ ((0 : Int) ≤ 224 + (↑(g / 4096) : Int) ∧ 224 + (↑(g / 4096) : Int) ≤ 255) ∧ T130 (opIn Tryz.f77 6 5) (q246 x) (λf => T131 (opIn Tryz.f77 6 6) [fo_vi (↑(f / 64) : Int), fo_vi 64] (λe => fo_rI (128 + (↑(e % 64) : Int)) ∧ q106 e ∧ T131 (opIn Tryz.f77 6 10) (q246 x) (λd => fo_rI (128 + (↑(d % 64) : Int)) ∧ q106 d ∧ ∀(c : Nat), T4 (opIn Tryz.f77 6 14) [fo_vl (q17 c) 3 3] (fo_aR [(0, F), (7130, fo_cl c (q323 g e d) 5)] []) (λb a => Done bysC x F (q225 b) [(0, F), (7130, fo_cl c (q323 g e d) 5)])))))) (QOpOk Tryz.prog (opIn Tryz.f77 7 1) (dvN 262144) ∧ ∃(i : Nat), [fo_vi ↑x.c, fo_vi 262144] = [fo_vi ↑i, fo_vi (↑(262144 : Nat) : Int)] ∧ (i < 4611686018427387904 ∧ 0 < 262144) ∧ fo_rI (240 + (↑(i / 262144) : Int)) ∧ ((0 : Int) ≤ 240 + (↑(i / 262144) : Int) ∧ 240 + (↑(i / 262144) : Int) ≤ 255) ∧ T132 (opIn Tryz.f77 7 5) [fo_vi ↑x.c, fo_vi 4096] (λh => T131 (opIn Tryz.f77 7 6) [fo_vi (↑(h / 4096) : Int), fo_vi 64] (λg => fo_rI (128 + (↑(g % 64) : Int)) ∧ q106 g ∧ T130 (opIn Tryz.f77 7 10) (q246 x) (λf => T131 (opIn Tryz.f77 7 11) [fo_vi (↑(f / 64) : Int), fo_vi 64] (λe => fo_rI (128 + (↑(e % 64) : Int)) ∧ q106 e ∧ T131 (opIn Tryz.f77 7 15) (q246 x) (λd => fo_rI (128 + (↑(d % 64) : Int)) ∧ q106 d ∧ ∀(c : Nat), T4 (opIn Tryz.f77 7 19) [fo_vl (q17 c) 4 4] (fo_aR [(0, F), (8180, fo_cl c (q275 i g e d) 5)] []) (λb a => Done bysC x F (q225 b) [(0, F), (8180, fo_cl c (q275 i g e d) 5)]))))))))) := by
  delta T4 q17 q225 T130 q246 T131 q106 T132 q323 q275 fo_aR fo_rI fo_O2 fo_vi fo_vc fo_vs fo_vl fo_cl fo_Bd fo_rt
  obtain ⟨c⟩ := x
  have hs : Sc c := hc
  have hle : c ≤ 1114111 := by unfold Sc at hs; omega
  dsimp only
  have fin : ∀ (S : St) (l : List Nat), encL c = l → Ent S (ofL [F]) → Done bysC ⟨c⟩ F (returned (string (btL l))) S := λS l h h2 => ⟨(), fo_tv, by show _ = returned (.string (Utf8.encode (c : Int))); rw [enc_btL hs, h], h2⟩
  refine br_decide (λh => ?_) (λh => br_decide (λh2 => ?_) (λh2 => ?_))
  · exact ⟨⟨by omega, by omega⟩, λb => ⟨b2s_ok rfl rfl rfl rfl, rfl, ⟨some ⟨b, 0, none⟩, 1, 1, [c]⟩, rfl, rfl, .blk b 0 1 rfl, srcd_n (by decide), λ_ _ => fin _ _ (by unfold encL; rw [if_pos (by omega)]) (Ent.pick [0] rfl rfl)⟩⟩
  · have g1 : c / 64 < 64 := by omega
    have g2 := Nat.mod_lt c (show 64 > 0 by decide)
    exact ⟨dvn_ok rfl, c, rfl, ⟨by omega, by decide⟩, ⟨by omega, by omega⟩, ⟨by omega, by omega⟩, mdn_ok rfl, c, rfl, by decide, ⟨by omega, by omega⟩, ⟨by omega, by omega⟩, λb => ⟨b2s_ok rfl rfl rfl rfl, rfl, ⟨some ⟨b, 0, none⟩, 2, 2, [192 + c / 64, 128 + c % 64]⟩, rfl, rfl, .blk b 0 2 rfl, srcd_n (by decide), λ_ _ => fin _ _ (by unfold encL; rw [if_neg (by omega), if_pos (by omega)]) (Ent.pick [0] rfl rfl)⟩⟩
  generalize hq : decide ((c : Int) < 65536) = bq
  cases bq with
  | true =>
    have h3 := fo_od1 hq
    rw [br_true]
    have g1 : c / 4096 < 16 := by omega
    have g2 := Nat.mod_lt c (show 64 > 0 by decide)
    have g3 := Nat.mod_lt (c / 64) (show 64 > 0 by decide)
    have g4 : c / 64 ≤ c := Nat.div_le_self _ _
    exact ⟨dvn_ok rfl, c, rfl, ⟨by omega, by decide⟩, ⟨by omega, by omega⟩, ⟨by omega, by omega⟩, dvn_ok rfl, c, rfl, ⟨by omega, by decide⟩, mdn_ok rfl, c / 64, rfl, by decide, ⟨by omega, by omega⟩, ⟨by omega, by omega⟩, mdn_ok rfl, c, rfl, by decide, ⟨by omega, by omega⟩, ⟨by omega, by omega⟩, λb => ⟨b2s_ok rfl rfl rfl rfl, rfl, ⟨some ⟨b, 0, none⟩, 3, 3, [224 + c / 4096, 128 + c / 64 % 64, 128 + c % 64]⟩, rfl, rfl, .blk b 0 3 rfl, srcd_n (by decide), λ_ _ => fin _ _ (by unfold encL; rw [if_neg (by omega), if_neg (by omega), if_pos (by omega)]) (Ent.pick [0] rfl rfl)⟩⟩
  | false =>
    have h3 := fo_od0 hq
    rw [br_false]
    have g1 : c / 262144 < 8 := by omega
    have g2 := Nat.mod_lt c (show 64 > 0 by decide)
    have g3 := Nat.mod_lt (c / 64) (show 64 > 0 by decide)
    have g5 := Nat.mod_lt (c / 4096) (show 64 > 0 by decide)
    exact ⟨dvn_ok rfl, c, rfl, ⟨by omega, by decide⟩, ⟨by omega, by omega⟩, ⟨by omega, by omega⟩, dvn_ok rfl, c, rfl, ⟨by omega, by decide⟩, mdn_ok rfl, c / 4096, rfl, by decide, ⟨by omega, by omega⟩, ⟨by omega, by omega⟩, dvn_ok rfl, c, rfl, ⟨by omega, by decide⟩, mdn_ok rfl, c / 64, rfl, by decide, ⟨by omega, by omega⟩, ⟨by omega, by omega⟩, mdn_ok rfl, c, rfl, by decide, ⟨by omega, by omega⟩, ⟨by omega, by omega⟩, λb => ⟨b2s_ok rfl rfl rfl rfl, rfl, ⟨some ⟨b, 0, none⟩, 4, 4, [240 + c / 262144, 128 + c / 4096 % 64, 128 + c / 64 % 64, 128 + c % 64]⟩, rfl, rfl, .blk b 0 4 rfl, srcd_n (by decide), λ_ _ => fin _ _ (by unfold encL; rw [if_neg (by omega), if_neg (by omega), if_neg (by omega)]) (Ent.pick [0] rfl rfl)⟩⟩
theorem bys_ok : fo_k 77 bysC := fo 58 Tryz.func77 (λ_ _ => [(2, 2, .n 3020), (2, 3, .o b2sC [] []), (4, 1, .qo (dvN 64)), (4, 5, .qo (mdN 64)), (4, 8, .n 5080), (4, 9, .o b2sC [] []), (6, 1, .qo (dvN 4096)), (6, 5, .qo (dvN 64)), (6, 6, .qo (mdN 64)), (6, 10, .qo (mdN 64)), (6, 13, .n 7130), (6, 14, .o b2sC [] []), (7, 1, .qo (dvN 262144)), (7, 5, .qo (dvN 4096)), (7, 6, .qo (mdN 64)), (7, 10, .qo (dvN 64)), (7, 11, .qo (mdN 64)), (7, 15, .qo (mdN 64)), (7, 18, .n 8180), (7, 19, .o b2sC [] [])]) [] fo_i fo_i fo_o [] bys_vc
structure NwS where
  i : Nat
  f : Nat
  o : ByteArray
structure NwS.ok (d : NwS) (w : ByteArray) : Prop where
  hi : d.i ≤ w.size / 2
  hf : w.size / 2 < d.i + d.f
  he : nrF w (w.size / 2 + 1) 0 ⟨#[]⟩ = nrF w d.f d.i d.o
  hz : d.o.size ≤ 4 * d.i
  hv : w.size % 2 = 0
def nrrInv (x : WdX) (F : Atom) : Nat → Option Inv := fun
  | 0 => some { X := NwS, P := λd => d.ok x.s, mu := λd => x.s.size / 2 - d.i, lv := λd => [(0, .string x.s), (4, .string d.o), (5, .int .i64 d.i)], st := λ_ => [F] }
  | _ => none
def T133 := fo_C1 76 atrC (λw0 => w0.s.size ≤ 1048576 ∧ w0.i ≤ 1048576)
def T134 := fo_C1 77 bysC (λw0 => Sc w0.c)
def T135 (e0 : WdX) (e1 : Atom) (v0 v1 : Value) (ss : St) (mm : Nat) := ∃ (z : NwS), z.ok e0.s ∧ (fo_vs e0.s = fo_vs e0.s ∧ v0 = fo_vs z.o ∧ v1 = fo_vi ↑z.i ∧ True) ∧ Ent ss [(0, e1)] ∧ e0.s.size.div 2 - z.i < mm
abbrev q73 (j : NwS) (x : WdX) (F : Atom) : ByX2 → Unit → Prop := λc b => j.o.size + (Utf8.encode (c.c : Int)).size ≤ 9223372036854775807 ∧ fo_rI ((j.i : Int) + 1) ∧ T135 x F (fo_vs (j.o ++ Utf8.encode (c.c : Int))) (fo_vi ((j.i : Int) + 1)) [(0, F)] (x.s.size.div 2 - j.i)
def q7 (g : CrX) (j : NwS) (x : WdX) (F : Atom) := fo_Bd (atrV g.s g.i ≥ 55296) (fo_Bd (atrV g.s g.i ≤ 57343) (T134 [fo_vi 65533] (q73 j x F)) (T134 [fo_vi (atrV g.s g.i)] (q73 j x F))) (T134 [fo_vi (atrV g.s g.i)] (q73 j x F))
theorem nrr_vc (x : WdX) (F : Atom) (hc : nrnC.cond x) (hr : nrnC.rdc x F) :
 QOpOk Tryz.prog (opIn Tryz.f30 1 2) (mdN 2) ∧ ∃(k : Nat), [fo_vi ↑x.s.size, fo_vi 2] = [fo_vi ↑k, fo_vi (↑(2 : Nat) : Int)] ∧ 0 < 2 ∧ Br ((↑(k % 2) : Int) == 1) (q319 x F) ((∃(a : NwS), a.ok x.s ∧ (fo_vs x.s = fo_vs x.s ∧ fo_vs ⟨#[]⟩ = fo_vs a.o ∧ fo_vi 0 = fo_vi ↑a.i ∧ True) ∧ Ent [(0, F)] [(0, F)]) ∧ fo_vA λ(j : NwS) _ => j.ok x.s → T129 (opIn Tryz.f30 5 3) [fo_vi ↑x.s.size, fo_vi 2] (λh => fo_Bd ((j.i : Int) < (↑(h / 2) : Int)) (T133 [fo_vs x.s, fo_vi ↑j.i] (λg f => fo_rI ((j.i : Int) + 1) ∧ T133 [fo_vs x.s, fo_vi ((j.i : Int) + 1)] (λe d => fo_Bd (atrV g.s g.i ≥ 55296) (fo_Bd (atrV g.s g.i ≤ 56319) (fo_Bd (atrV e.s e.i ≥ 56320) (fo_Bd (atrV e.s e.i ≤ 57343) (fo_rI (atrV g.s g.i - 55296) ∧ fo_rI ((atrV g.s g.i - 55296) * 1024) ∧ fo_rI (65536 + (atrV g.s g.i - 55296) * 1024) ∧ fo_rI (65536 + (atrV g.s g.i - 55296) * 1024 + atrV e.s e.i) ∧ fo_rI (65536 + (atrV g.s g.i - 55296) * 1024 + atrV e.s e.i - 56320) ∧ T134 [fo_vi (65536 + (atrV g.s g.i - 55296) * 1024 + atrV e.s e.i - 56320)] (λc b => j.o.size + (Utf8.encode (c.c : Int)).size ≤ 9223372036854775807 ∧ fo_rI ((j.i : Int) + 1) ∧ fo_rI ((j.i : Int) + 1 + (1 : Int)) ∧ T135 x F (fo_vs (j.o ++ Utf8.encode (c.c : Int))) (fo_vi ((j.i : Int) + 1 + (1 : Int))) [(0, F)] (x.s.size.div 2 - j.i))) (q7 g j x F)) (q7 g j x F)) (q7 g j x F)) (q7 g j x F)))) (Done nrnC x F (fo_rt (tuple ⟨[fo_vs j.o, fo_vi 0]⟩)) [(0, F)]))) := by
  delta q319 T129 T133 T134 T135 q73 q7 fo_rI fo_C1 fo_vi fo_vs fo_Bd fo_rt fo_vA
  obtain ⟨w⟩ := x
  have hc : w.size ≤ 1048576 := hc
  dsimp only
  refine ⟨mdn_ok rfl, w.size, rfl, by decide, br_intro (λh => ?_) (λh => ?_)⟩
  · have h : (((w.size % 2 : Nat) : Int) == 1) = true := h
    have h2 : w.size % 2 = 1 := by rw [beq_iff_eq] at h; omega
    refine ⟨(), fo_tv, ?_, Ent.pick [0] rfl rfl⟩
    show _ = returned (.tuple #[.string (nrV w), .int .i64 (nrE w)])
    unfold nrV nrE
    rw [h2] <;> rfl
  have h : (((w.size % 2 : Nat) : Int) == 1) = false := h
  have hev : w.size % 2 = 0 := by rw [fo_bf] at h; omega
  refine ⟨⟨⟨0, w.size / 2 + 1, ⟨#[]⟩⟩, ⟨fo_zl _, by dsimp only; omega, rfl, fo_zl _, hev⟩, ⟨rfl, rfl, rfl, fo_tv⟩, Ent.pick [0] rfl rfl⟩, ?_⟩
  rintro ⟨i, f, o⟩ js ⟨hi, hf, he, hz, -⟩
  dsimp only at hi hf he hz ⊢
  obtain ⟨f', rfl⟩ : ∃ f', f = f' + 1 := ⟨f - 1, by omega⟩
  refine ⟨dvn_ok rfl, w.size, rfl, ⟨by omega, by decide⟩, br_decide (λhlt => ?_) (λhge => ?_)⟩
  rotate_left
  · have hn : ¬ i < w.size / 2 := by omega
    refine ⟨(), fo_tv, ?_, Ent.pick [0] rfl rfl⟩
    show _ = returned (.tuple #[.string (nrV w), .int .i64 (nrE w)])
    have h2 : (w.size % 2 == 0) = true := by simpa using hev
    unfold nrV nrE
    rw [h2, fo_ct, fo_ct, he, nrF, fo_df hn] <;> rfl
  have hlt : i < w.size / 2 := by omega
  refine ⟨atr_ok, rfl, ⟨w, i⟩, rfl, rfl, ⟨hc, by dsimp only; omega⟩, fo_tv, λ_ _ => ⟨⟨by omega, by omega⟩, atr_ok, rfl, ⟨w, i + 1⟩, rfl, rfl, ⟨hc, by dsimp only; omega⟩, fo_tv, λ_ _ => ?_⟩⟩
  have hnx : ∀ (ch n : Nat), nrC w i = (ch, n) → nrF w (f' + 1) i o = nrF w f' (i + n) (o ++ Utf8.encode (ch : Int)) := λch n q => by rw [nrF, fo_dt hlt, fo_ct, q]
  have hC : nrC w i = bif decide (55296 ≤ unitN w i) && decide (unitN w i < 57344) then (bif decide (unitN w i < 56320) && (decide (i + 1 < w.size / 2) && (decide (56320 ≤ unitN w (i + 1)) && decide (unitN w (i + 1) < 57344))) then (65536 + (unitN w i - 55296) * 1024 + (unitN w (i + 1) - 56320), 2) else (65533, 1)) else (unitN w i, 1) := rfl
  have u1 := unitN_lt w i
  have u2 := unitN_lt w (i + 1)
  have hA : atrV w i = (unitN w i : Int) := by unfold atrV; rw [fo_dt hlt] <;> rfl
  have hB : atrV w (i + 1) = bif decide (i + 1 < w.size / 2) then (unitN w (i + 1) : Int) else -1 := rfl
  have leaf : ∀ (ch : Nat) (C : Int), nrC w i = (ch, 1) → C = (ch : Int) → Sc ch → (fo_k 77 bysC ∧ true = true ∧ ∃ (x_6 : ByX2), [int .i64 C] = [int .i64 (x_6.c : Int)] ∧ ([] : List Atom) = [] ∧ Sc x_6.c ∧ True ∧ ∀ (y : Unit), True → o.size + (Utf8.encode (x_6.c : Int)).size ≤ 9223372036854775807 ∧ (-9223372036854775808 ≤ (i : Int) + 1 ∧ (i : Int) + 1 ≤ 9223372036854775807) ∧ ∃ (y : NwS), y.ok w ∧ (string w = string w ∧ string (o ++ Utf8.encode (x_6.c : Int)) = string y.o ∧ int .i64 ((i : Int) + 1) = int .i64 (y.i : Int) ∧ True) ∧ Ent [(0, F)] [(0, F)] ∧ w.size / 2 - y.i < w.size / 2 - i) := by
    intro ch C q1 q2 q3
    subst q2
    have hz4 := enc_size4 ch
    exact ⟨bys_ok, rfl, ⟨ch⟩, rfl, rfl, q3, fo_tv, λ_ _ => ⟨by dsimp only; omega, ⟨by omega, by omega⟩, ⟨i + 1, f', o ++ Utf8.encode (ch : Int)⟩, ⟨hlt, by dsimp only; omega, he.trans (hnx ch 1 q1), by rw [fo_sa]; dsimp only; omega, hev⟩, ⟨rfl, rfl, rfl, fo_tv⟩, Ent.pick [0] rfl rfl, by dsimp only; omega⟩⟩
  dsimp only
  rw [hA]
  generalize hu : unitN w i = u at *
  generalize hv : unitN w (i + 1) = v at *
  have q1 : Sc 65533 := .inr ⟨by decide, by decide⟩
  have lone : ¬ (55296 ≤ u ∧ u < 57344) → nrC w i = (u, 1) := λh => by rw [hC, ← Bool.decide_and, fo_df h] <;> rfl
  have bad : (55296 ≤ u ∧ u < 57344) → ¬ (u < 56320 ∧ i + 1 < w.size / 2 ∧ 56320 ≤ v ∧ v < 57344) → nrC w i = (65533, 1) := λh h2 => by rw [hC, fo_dt h.1, fo_dt h.2, ← Bool.decide_and, ← Bool.decide_and, ← Bool.decide_and, fo_df h2] <;> rfl
  have pair : (55296 ≤ u ∧ u < 56320 ∧ i + 1 < w.size / 2 ∧ 56320 ≤ v ∧ v < 57344) → nrC w i = (65536 + (u - 55296) * 1024 + (v - 56320), 2) := λ⟨h1, h2, h3, h4, h5⟩ => by rw [hC, fo_dt h1, fo_dt (show u < 57344 by omega), fo_dt h2, fo_dt h3, fo_dt h4, fo_dt h5] <;> rfl
  obtain ⟨d, hd⟩ : ∃ d, d = atrV w (i + 1) := ⟨_, rfl⟩
  rw [← hd]
  have hd2 : (i + 1 < w.size / 2 ∧ d = (v : Int)) ∨ (¬ i + 1 < w.size / 2 ∧ d = -1) := by
    by_cases g : i + 1 < w.size / 2
    · exact .inl ⟨g, by rw [hd, hB, fo_dt g] <;> rfl⟩
    · exact .inr ⟨g, by rw [hd, hB, fo_df g] <;> rfl⟩
  clear hd hB hC
  generalize g1 : decide ((u : Int) ≥ 55296) = c1
  generalize g2 : decide ((u : Int) ≤ 56319) = c2
  generalize g3 : decide (d ≥ 56320) = c3
  generalize g4 : decide (d ≤ 57343) = c4
  generalize g5 : decide ((u : Int) ≤ 57343) = c5
  have t1 : c1 = true → (u : Int) ≥ 55296 := λe => fo_od1 (g1.trans e)
  have t2 : c2 = true → (u : Int) ≤ 56319 := λe => fo_od1 (g2.trans e)
  have t3 : c3 = true → d ≥ 56320 := λe => fo_od1 (g3.trans e)
  have t4 : c4 = true → d ≤ 57343 := λe => fo_od1 (g4.trans e)
  have t5 : c5 = true → (u : Int) ≤ 57343 := λe => fo_od1 (g5.trans e)
  have n1 : c1 = false → ¬ (u : Int) ≥ 55296 := λe => fo_od0 (g1.trans e)
  have n2 : c2 = false → ¬ (u : Int) ≤ 56319 := λe => fo_od0 (g2.trans e)
  have n3 : c3 = false → ¬ d ≥ 56320 := λe => fo_od0 (g3.trans e)
  have n4 : c4 = false → ¬ d ≤ 57343 := λe => fo_od0 (g4.trans e)
  have n5 : c5 = false → ¬ (u : Int) ≤ 57343 := λe => fo_od0 (g5.trans e)
  clear g1 g2 g3 g4 g5
  have rest : (c1 = true → c2 = true → c3 = true → c4 = true → False) → Br c1 (Br c5 (fo_k 77 bysC ∧ true = true ∧ ∃ (x_6 : ByX2), [int .i64 65533] = [int .i64 (x_6.c : Int)] ∧ ([] : List Atom) = [] ∧ Sc x_6.c ∧ True ∧ ∀ (y : Unit), True → o.size + (Utf8.encode (x_6.c : Int)).size ≤ 9223372036854775807 ∧ (-9223372036854775808 ≤ (i : Int) + 1 ∧ (i : Int) + 1 ≤ 9223372036854775807) ∧ ∃ (y : NwS), y.ok w ∧ (string w = string w ∧ string (o ++ Utf8.encode (x_6.c : Int)) = string y.o ∧ int .i64 ((i : Int) + 1) = int .i64 (y.i : Int) ∧ True) ∧ Ent [(0, F)] [(0, F)] ∧ w.size / 2 - y.i < w.size / 2 - i) _) _ := λhno => by
    cases c1 with
    | false => have := n1 rfl; rw [br_false]; exact leaf u _ (lone (by omega)) rfl (.inl (by omega))
    | true =>
      have := t1 rfl
      rw [br_true]
      cases c5 with
      | false => have := n5 rfl; rw [br_false]; exact leaf u _ (lone (by omega)) rfl (.inr ⟨by omega, by omega⟩)
      | true =>
        have := t5 rfl
        rw [br_true]
        refine leaf 65533 _ (bad ⟨by omega, by omega⟩ λ⟨a1, a2, a3, a4⟩ => ?_) rfl q1
        have hdv : d = (v : Int) := by rcases hd2 with h | h; exact h.2; exact absurd a2 h.1
        exact hno rfl (by cases c2; exact absurd (n2 rfl) (by omega); rfl) (by cases c3; exact absurd (n3 rfl) (by omega); rfl) (by cases c4; exact absurd (n4 rfl) (by omega); rfl)
  cases c1 with
  | false => rw [br_false]; exact rest (λh => by cases h)
  | true =>
    rw [br_true]
    cases c2 with
    | false => rw [br_false]; exact rest (λ_ h => by cases h)
    | true =>
      rw [br_true]
      cases c3 with
      | false => rw [br_false]; exact rest (λ_ _ h => by cases h)
      | true =>
        rw [br_true]
        cases c4 with
        | false => rw [br_false]; exact rest (λ_ _ _ h => by cases h)
        | true =>
          rw [br_true]
          have a1 := t1 rfl
          have a2 := t2 rfl
          have a3 := t3 rfl
          have a4 := t4 rfl
          obtain ⟨hi1, rfl⟩ : i + 1 < w.size / 2 ∧ d = (v : Int) := by rcases hd2 with h | h; exact h; omega
          have hz4 := enc_size4 (65536 + (u - 55296) * 1024 + (v - 56320))
          refine ⟨⟨by omega, by omega⟩, ⟨by omega, by omega⟩, ⟨by omega, by omega⟩, ⟨by omega, by omega⟩, ⟨by omega, by omega⟩, bys_ok, rfl, ⟨65536 + (u - 55296) * 1024 + (v - 56320)⟩, by dsimp only; congr 2; omega, rfl, .inr ⟨by dsimp only; omega, by dsimp only; omega⟩, fo_tv, λ_ _ => ⟨by dsimp only; omega, ⟨by omega, by omega⟩, ⟨by omega, by omega⟩, ⟨i + 2, f', o ++ Utf8.encode ((65536 + (u - 55296) * 1024 + (v - 56320) : Nat) : Int)⟩, ⟨by dsimp only; omega, by dsimp only; omega, he.trans (hnx _ 2 (pair ⟨by omega, by omega, hi1, by omega, by omega⟩)), by rw [fo_sa]; dsimp only; omega, hev⟩, ⟨rfl, rfl, rfl, fo_tv⟩, Ent.pick [0] rfl rfl, show w.size / 2 - (i + 2) < w.size / 2 - i by omega⟩⟩
theorem nrr_ok : fo_k 30 nrnC := fo 66 Tryz.func30 (λ_ _ => [(1, 2, .qo (mdN 2)), (5, 3, .qo (dvN 2)), (7, 2, .c atrC [] []), (7, 6, .c atrC [] []), (9, 8, .c bysC [] []), (12, 1, .c bysC [] []), (13, 2, .c bysC [] [])]) [] nrrInv fo_i fo_o [] nrr_vc
end
section
open Go
set_option maxHeartbeats 1000000
end
section
open Go
set_option maxHeartbeats 1000000
end
section
open Go
set_option maxHeartbeats 1000000
end
section
open Go
set_option maxHeartbeats 1000000
end
section
open Go
set_option maxHeartbeats 1000000
end
section
open Go
set_option maxHeartbeats 1000000
end
section
open Go
set_option maxHeartbeats 1000000
end
section
open Go
set_option maxHeartbeats 1000000
end
section
open Go
set_option maxHeartbeats 6000000
end
section
open Go
set_option maxHeartbeats 1000000
abbrev hrG (a : List Value) (v : Value) : Con where
  X := Unit
  Y := Unit
  args _ := a
  pre _ := []
  cond _ := True
  rdc _ F := Gl F
  rel _ _ := True
  val _ _ := .returned v
  post _ _ := []
  rmono _ _ _ hs h := h.sub hs
def hq1 : Req := ⟨sPost, ⟨#[47, 115, 48]⟩, ⟨#[]⟩, sForm, ⟨#[95, 115, 99, 120, 109, 108, 101, 118, 101, 110, 116, 110, 97, 109, 101, 61, 103, 111, 38, 97, 61, 49]⟩⟩
def hq2 : Req := ⟨⟨#[80, 85, 84]⟩, ⟨#[47, 115, 48]⟩, ⟨#[]⟩, ⟨#[]⟩, ⟨#[]⟩⟩
abbrev hg1 : Con := hrG [.agg #[.string sPost, .string ⟨#[47, 115, 48]⟩, .string ⟨#[]⟩, .string sForm, .string hq1.b]] (.tuple #[.string ⟨#[115, 48]⟩, .agg #[.string ⟨#[103, 111]⟩, .string sExt, .string ⟨#[]⟩, .string ⟨#[]⟩, .string sTyp, .string ⟨#[]⟩, .string ⟨#[123, 34, 97, 34, 58, 34, 49, 34, 125]⟩], .int .i64 200])
abbrev hg2 : Con := hrG [.agg #[.string ⟨#[80, 85, 84]⟩, .string ⟨#[47, 115, 48]⟩, .string ⟨#[]⟩, .string ⟨#[]⟩, .string ⟨#[]⟩]] (.tuple #[.string ⟨#[]⟩, .agg #[.string ⟨#[]⟩, .string ⟨#[]⟩, .string ⟨#[]⟩, .string ⟨#[]⟩, .string ⟨#[]⟩, .string ⟨#[]⟩, .string ⟨#[]⟩], .int .i64 405])
theorem hg1_ok : fo_k 15 hg1 := ⟨λ_ F I w _ hr hs =>
  (hear_ok.h ⟨hq1⟩ F I w ⟨⟨by decide, by decide, by decide, by decide, by decide⟩, by decide⟩ hr hs).mono λ_ _ ⟨y, J, k1, k2, k3, k4, k5⟩ => ⟨y, J, k1, k2.trans (by kernel_rfl), k3, k4, k5⟩⟩
theorem hg2_ok : fo_k 15 hg2 := ⟨λ_ F I w _ hr hs =>
  (hear_ok.h ⟨hq2⟩ F I w ⟨⟨by decide, by decide, by decide, by decide, by decide⟩, by decide⟩ hr hs).mono λ_ _ ⟨y, J, k1, k2, k3, k4, k5⟩ => ⟨y, J, k1, k2.trans (by kernel_rfl), k3, k4, k5⟩⟩
abbrev awhC : Con where
  X := Unit
  Y := Unit
  args _ := []
  pre _ := []
  cond _ := True
  rdc _ F := RqG F
  rel _ _ := True
  val _ _ := .returned (.bool true)
  post _ _ := []
  rmono _ _ _ hs h := h.sub hs
def at7' (j : Nat) : List LH := [.aq j, .aq j, .aq j, .aq j, .aq j, .aq j, .aq j]
abbrev q90 : List Value := [fo_vs ⟨#[103, 111]⟩, fo_vs sExt, fo_vs ⟨#[]⟩, fo_vs ⟨#[]⟩, fo_vs sTyp, fo_vs ⟨#[]⟩, fo_vs ⟨#[123, 34, 97, 34, 58, 34, 49, 34, 125]⟩]
theorem awh_vc (x : PUnit) (F : Atom) (hc : awhC.cond x) (hr : awhC.rdc x F) :
 fo_C2 15 hg1 q76 (λ_ => Gl) [agg { toList := [fo_vs ⟨#[80, 79, 83, 84]⟩, fo_vs ⟨#[47, 115, 48]⟩, fo_vs ⟨#[]⟩, fo_vs ⟨#[97, 112, 112, 108, 105, 99, 97, 116, 105, 111, 110, 47, 120, 45, 119, 119, 119, 45, 102, 111, 114, 109, 45, 117, 114, 108, 101, 110, 99, 111, 100, 101, 100]⟩, fo_vs ⟨#[95, 115, 99, 120, 109, 108, 101, 118, 101, 110, 116, 110, 97, 109, 101, 61, 103, 111, 38, 97, 61, 49]⟩] }] (q114 F) (λi h => ∀(g : Nat), fo_s5 g (fo_sm g 5 ∧ fo_sm g 6 ∧ fo_C2 15 hg2 q76 (λ_ => Gl) [agg ⟨[fo_vs ⟨#[80, 85, 84]⟩, fo_vs ⟨#[47, 115, 48]⟩, fo_vs ⟨#[]⟩, fo_vs ⟨#[]⟩, fo_vs ⟨#[]⟩]⟩] (fo_aR [(0, F), (1, fo_cl g q90 51)] []) (λf e => ∀(d : Nat), fo_s5 d (fo_sm d 5 ∧ fo_sm d 6 ∧ fo_C2 14 reqI q76 (λ_ => RqG) [agg ⟨[fo_vi 0, fo_vi 0, fo_vi 6, fo_vs ⟨#[]⟩, fo_vs ⟨#[104]⟩, fo_vi 81, fo_vs ⟨#[47, 120]⟩, fo_vs ⟨#[101]⟩, fo_vs ⟨#[]⟩, fo_vs ⟨#[]⟩, fo_vs ⟨#[]⟩, fo_vs ⟨#[]⟩, fo_vs ⟨#[]⟩, fo_vs ⟨#[123, 34, 97, 34, 58, 49, 125]⟩]⟩] (fo_aR [(0, F), (1, fo_cl g q90 51), (2, fo_cl d q6 51)] []) (λc b => ∀(a : Nat), fo_s5 a (fo_sm g 0 ∧ fo_sm g 6 ∧ fo_sm a 2 ∧ fo_sm a 4 ∧ Done awhC x F (fo_rt (fo_vb (uBd.toList == (ByteArray.mk #[95, 115, 99, 120, 109, 108, 101, 118, 101, 110, 116, 110, 97, 109, 101, 61, 101, 38, 97, 61, 49]).toList))) [(0, F), (1, fo_cl g q90 51), (2, fo_cl d q6 51), (3, fo_cl a [fo_vs ⟨#[80, 79, 83, 84]⟩, fo_vs ⟨#[47, 120]⟩, fo_vs ⟨#[104, 58, 56, 49]⟩, fo_vs uFm, fo_vs uBd] 45)])))))) := by
  delta q76 q114 q90 q6 fo_aR fo_sm fo_s5 fo_C2 fo_vi fo_vs fo_vb fo_cl fo_rt
  have hr : RqG F := hr
  have fr : ∀ (S : St) (touch : List Nat), 0 ∉ touch → gt S 0 = F → RqG (.pred (rest S touch)) := λS touch h e => hr.sub (sub_rest (A := F) 0 h e)
  exact ⟨hg1_ok, rfl, (), rfl, rfl, fo_tv, (fr _ _ (by simp) rfl).gl, λ_ _ b => ⟨⟨rfl, rfl⟩, ⟨rfl, rfl⟩, ⟨rfl, rfl⟩, ⟨rfl, rfl⟩, ⟨rfl, rfl⟩, ⟨rfl, rfl⟩, ⟨rfl, rfl⟩, hg2_ok, rfl, (), rfl, rfl, fo_tv, (fr _ _ (by simp) rfl).gl, λ_ _ b1 => ⟨⟨rfl, rfl⟩, ⟨rfl, rfl⟩, ⟨rfl, rfl⟩, ⟨rfl, rfl⟩, ⟨rfl, rfl⟩, ⟨rfl, rfl⟩, ⟨rfl, rfl⟩, req_ok, rfl, (), rfl, rfl, fo_tv, (fr _ _ (by simp) rfl), λ_ _ b2 => ⟨⟨rfl, rfl⟩, ⟨rfl, rfl⟩, ⟨rfl, rfl⟩, ⟨rfl, rfl⟩, ⟨rfl, rfl⟩, ⟨rfl, rfl⟩, ⟨rfl, rfl⟩, ⟨rfl, rfl⟩, ⟨rfl, rfl⟩, (), fo_tv, by kernel_rfl, Ent.pick [0] rfl rfl⟩⟩⟩⟩
theorem awh_ok : fo_k 5 awhC := fo 62 Tryz.func5 (λ_ _ => [(1, 1, .c hg1 [] []), (1, 6, .n 1), (1, 8, .w (at7' 1)), (2, 1, .c hg2 [] []), (2, 6, .n 2), (2, 8, .w (at7' 2)), (3, 3, .c reqI [] []), (3, 7, .n 3), (3, 8, .w (at5 3)), (4, 4, .q [.aq 1]), (4, 9, .q [.aq 1]), (4, 26, .q [.aq 3]), (4, 31, .q [.aq 3])]) [] fo_i fo_i fo_o [] awh_vc
end
section
open Go
set_option maxHeartbeats 1000000
structure ChX2 where
  cs : List Nat
abbrev wdOC : Con where
  X := ChX2
  Y := Int
  args x := [.string (utf x.cs)]
  pre _ := []
  cond x := Scs x.cs ∧ x.cs ≠ [] ∧ (utf x.cs).size ≤ 1048576
  rdc _ F := Utf F
  rel _ _ := True
  val x y := .returned (.tuple #[.string (wid x.cs), .int .i64 y, .int .i64 0])
  post _ _ := []
  rmono _ _ _ hs h := h.sub hs
theorem wid_ne {cs : List Nat} (h : cs ≠ []) : wid cs ≠ ⟨#[]⟩ := by
  intro e
  have h1 := wid_size cs
  rw [e] at h1
  have h1 : 0 = 2 * (unL cs).length := h1
  cases cs with
  | nil => exact h rfl
  | cons c cs =>
    rw [unL_cons, fo_la] at h1
    have := unC_pos c
    omega
theorem wdO_ok : fo_k 32 wdOC := ⟨λx F I w hc hr hs =>
  (wds_ok.h ⟨utf x.cs⟩ F I w hc.2.2 hr hs).mono λe w' ⟨y, J, k1, k2, k3, k4, k5⟩ => ⟨y.1, J, fo_tv, by
    have hw : wideV (utf x.cs) = wid x.cs := wide_utf hc.1
    have h : y.2 = 0 := k1 (by rw [show (WdX.mk (utf x.cs)).s = utf x.cs from rfl, hw]; exact wid_ne hc.2.1)
    rw [k2]
    show returned (.tuple #[.string (wideV (utf x.cs)), .int .i64 y.1, .int .i64 y.2]) = .returned (.tuple #[.string (wid x.cs), .int .i64 y.1, .int .i64 0])
    rw [hw, h], k3, k4, k5⟩⟩
theorem k2_ok (h : fo_k 180 (esfC escE)) : k2.ok := ⟨h, nui_K⟩
structure ObjC where
  b : Nat
  l : Cvs
structure ObjC.ok (x : ObjC) : Prop where
  s : ScKv x.l
  z : (wid (obX x.l)).size ≤ 16384
  p : ∀ p ∈ x.l, (unL p.1).length + (unL p.2).length ≤ 60
  n : ((kvW x.l).map (·.1)).Nodup
  l : x.l.length ≤ 20
theorem wid_le {cs : List Nat} {n : Nat} (h : (unL cs).length ≤ n) : (wid cs).size ≤ 2 * n ∧ (wid cs).size % 2 = 0 := by
  rw [wid_size]; omega
abbrev pzOC : Con where
  X := ObjC
  Y := Int
  args x := [.pointer (some ⟨x.b, 0, none⟩), .string (wid (obX x.l))]
  pre x := [ho0 x.b 10000]
  cond x := x.ok
  rdc _ F := gN.ok F ∧ Utf F
  rel _ _ := True
  val _ _ := .returned (.tuple #[.agg #[.int .i64 5, .float .f64 0, .string ⟨#[]⟩, .int .i64 0], .int .i64 0])
  post x y := [hoA x.b y (kvT x.l)]
  rmono _ _ _ hs h := ⟨λb i v e => (h.1 b i v e).sub hs, h.2.sub hs⟩
theorem pzO_x {x : ObjC} (h : x.ok) : (PzX.mk k2 x.b (wid (obX x.l)) (kvT x.l) ((wid (obX x.l)).size / 2)).ok := by
  have hw : (wid (obX x.l)).size ≤ 1048576 := by have := h.z; omega
  have ha := wid_at (obC_sc h.s)
  have hz : (wid (obX x.l)).size / 2 = (unL (obX x.l)).length := by rw [wid_size]; omega
  have e : unL (obX x.l) = 123 :: (unL (obM x.l true) ++ [125]) := by
    unfold obX
    rw [unL_app, unL_app] <;> rfl
  rw [e] at ha hz
  have hj : (wid (obX x.l)).size / 2 = 1 + (unL (obM x.l true)).length + 1 := by
    rw [hz, fo_lc, fo_la, fo_l1]; omega
  refine ⟨hw, k2_ok esc_ok, ha.pk, ?_, by dsimp only; omega, jpk_end (fo_nr _), by
    show (kvT x.l).length ≤ 9990
    unfold kvT
    rw [List.length_map]
    have := h.l
    omega, λp hp => ?_⟩
  · show ObA k2 (wid (obX x.l)) 1 (kvT x.l) ((wid (obX x.l)).size / 2)
    have ha1 := ha.tl
    rw [hj]
    by_cases hl : x.l = []
    · refine .inr ⟨by rw [hl] <;> rfl, ?_, by rw [hl] <;> rfl⟩
      rw [hl] at ha1 ⊢
      exact ha1.pk
    · exact .inl (ob_at hw x.l 1 hl h.s ha1)
  · obtain ⟨q, hq, rfl⟩ := List.mem_map.1 hp
    have h1 := h.p q hq
    have a := wid_le (cs := q.1) (n := 60) (by omega)
    have b := wid_le (cs := q.2) (n := 60) (by omega)
    exact ⟨by dsimp only; omega, b.2⟩
theorem pzO_ok : fo_k 33 pzOC := ⟨λx F I w hc hr hs => by
  have hc : x.ok := hc
  refine (prz_ok.h ⟨k2, x.b, wid (obX x.l), kvT x.l, (wid (obX x.l)).size / 2⟩ F I w (pzO_x hc) hr hs).mono λe w' ⟨y, J, _, k2, k3, k4, k5⟩ => ⟨y, J, fo_tv, k2, k3, ?_, k5⟩
  have e : kvP (kvT x.l) = kvT x.l := kvP_T hc.n
  have k4 : Sat J (ofL [hoA x.b y (kvP (kvT x.l)), F]) w' := k4
  rw [e] at k4
  exact k4⟩
structure TxX2 where
  b : Nat
  cs : List Nat
structure TxX2.ok (x : TxX2) : Prop where
  s : Scs x.cs
  z : (wid (qxC x.cs)).size ≤ 16384
abbrev ptOC : Con where
  X := TxX2
  Y := Unit
  args x := [.pointer (some ⟨x.b, 0, none⟩), .string (wid (qxC x.cs))]
  pre x := [ho0 x.b 10000]
  cond x := x.ok
  rdc _ F := gN.ok F ∧ Utf F
  rel _ _ := True
  val x _ := .returned (.tuple #[.agg #[.int .i64 4, .float .f64 0, .string (wid x.cs), .int .i64 0], .int .i64 0])
  post x _ := [ho0 x.b 10000]
  rmono _ _ _ hs h := ⟨λb i v e => (h.1 b i v e).sub hs, h.2.sub hs⟩
theorem ptO_x {x : TxX2} (h : x.ok) : (PzT.mk k2 x.b (wid (qxC x.cs)) (wid x.cs) ((wid (qxC x.cs)).size / 2)).ok := by
  have hw : (wid (qxC x.cs)).size ≤ 1048576 := by have := h.z; omega
  have ha := wid_at (quC_sc h.s)
  have hz : (wid (qxC x.cs)).size / 2 = (unL (qxC x.cs)).length := by rw [wid_size]; omega
  rw [quC_un] at ha hz
  have q := qu_at (r := []) hw h.s (by rw [fo_an]; exact ha)
  have q2 := q.2
  rw [show 0 + (quU (unL x.cs)).length = (wid (qxC x.cs)).size / 2 by omega] at q2
  exact ⟨hw, k2_ok esc_ok, q.1, q2, by dsimp only; omega, jpk_end (fo_nr _)⟩
theorem ptO_ok : fo_k 33 ptOC := ⟨λx F I w hc hr hs => prt_ok.h ⟨k2, x.b, wid (qxC x.cs), wid x.cs, (wid (qxC x.cs)).size / 2⟩ F I w (ptO_x hc) hr hs⟩
structure OwX2 where
  b : Nat
  n : Int
  l : Cvs
  p : List Nat × List Nat
abbrev owOC : Con where
  X := OwX2
  Y := Unit
  args x := [.pointer (some ⟨x.b, 0, none⟩), .int .i64 0, .string (wid x.p.1)]
  pre x := [hoA x.b x.n (kvT x.l)]
  cond x := x.p ∈ x.l ∧ ((kvW x.l).map (·.1)).Nodup
  rdc _ _ := True
  rel _ _ := True
  val x _ := .returned (.tuple #[.agg #[.int .i64 4, .float .f64 0, .string (wid x.p.2), .int .i64 0], .bool true])
  post x _ := [hoA x.b x.n (kvT x.l)]
theorem getV_mem : ∀ {l : Cvs} {p : List Nat × List Nat}, p ∈ l → ((kvW l).map (·.1)).Nodup → getV (wid p.1) (kvT l) = some (.t (wid p.2))
  | [], _, h, _ => by cases h
  | q :: l, p, h, hn => by
    have hn : ((wid q.1) :: (kvW l).map (·.1)).Nodup := hn
    rw [List.nodup_cons] at hn
    unfold getV
    show ((List.find? _ ((wid q.1, Pv.t (wid q.2)) :: kvT l)).map _) = _
    rw [List.find?_cons]
    rcases List.mem_cons.1 h with rfl | h
    · rw [show bEq (wid p.1, Pv.t (wid p.2)).1 (wid p.1) = true from (bEq_eq _ _).2 rfl] <;> rfl
    · have hb : bEq (wid q.1, Pv.t (wid q.2)).1 (wid p.1) = false := by
        cases e : bEq (wid q.1, Pv.t (wid q.2)).1 (wid p.1) with
        | false => rfl
        | true =>
          have e : wid q.1 = wid p.1 := (bEq_eq _ _).1 e
          exact (hn.1 (e ▸ List.mem_map.2 ⟨(wid p.1, wid p.2), List.mem_map.2 ⟨p, h, rfl⟩, rfl⟩)).elim
      rw [hb]
      exact getV_mem h hn.2
theorem owO_ok : fo_k 36 owOC := ⟨λx F I w hc _ hs =>
  (owh_ok.h ⟨x.b, x.n, kvT x.l, wid x.p.1⟩ F I w trivial trivial hs).mono λe w' ⟨y, J, k1, k2, k3, k4, k5⟩ => ⟨(), J, fo_tv, by
    have h : y = lpOf (getV (wid x.p.1) (kvT x.l)) := k1
    rw [getV_mem hc.1 hc.2] at h
    subst h
    exact k2, k3, k4, k5⟩⟩
structure FoX where
  n : ByteArray
  l : Cvs
  r : Row
def foL (n : ByteArray) (l : Cvs) : List Fld := flA n (kvU l)
structure FoOk (x : FoX) : Prop where
  n : NmOk x.n
  l : x.l.length ≤ 20
  z : ∀ f ∈ foL x.n x.l, f.1.size ≤ 1048576 ∧ f.2.size ≤ 1048576
  s : IsSrc 2 (fCs (foL x.n x.l)) x.r.a x.r.n
  r : x.r.n ≤ 1000000
structure FoRd (x : FoX) (F : Atom) : Prop where
  s : Srcd F x.r.a (fCs (foL x.n x.l))
abbrev fwOC : Con where
  X := FoX
  Y := Bool
  args x := [.slice x.r.a x.r.n x.r.cap]
  pre _ := []
  cond x := FoOk x
  rdc x F := FoRd x F
  rel x y := y = decide ((fwB (foL x.n x.l)).size > 4096)
  val x y := .returned (.tuple #[.string (bif y then ⟨#[]⟩ else fwB (foL x.n x.l)), .int .i64 (bif y then 2 else 0)])
  post _ _ := []
  rmono _ _ _ hs h := ⟨h.s.sub hs⟩
theorem fwO_ok : fo_k 39 fwOC := ⟨λx F I w hc hr hs => by
  obtain ⟨h1, h2, h3, h4, h5⟩ := hc
  refine (fw_ok.h ⟨foL x.n x.l, x.r.a, x.r.n, x.r.cap⟩ F I w ⟨h4, h5, h3⟩ hr.s hs).mono λe w' ⟨y, J, k1, k2, k3, k4, k5⟩ => ⟨decide ((fwB (foL x.n x.l)).size > 4096), J, rfl, ?_, k3, k4, k5⟩
  rw [k2]
  have hl : (foL x.n x.l).length ≤ 32 := by
    unfold foL flA kvU
    rw [fo_lc, List.length_map]; omega
  show returned (.tuple #[.string (fwV (foL x.n x.l)), .int .i64 (fwE (foL x.n x.l))]) = _
  unfold fwV fwE
  rw [fo_df (show ¬ (foL x.n x.l).length > 32 by omega)]
  rfl⟩
theorem utC_le4 : ∀ cs : List Nat, (utC cs).length ≤ 4 * cs.length
  | [] => fo_nr _
  | c :: cs => by
    rw [utC_cons, fo_la, fo_lc]
    have := encL_len (c := c)
    have := utC_le4 cs
    omega
theorem len_unL : ∀ cs : List Nat, cs.length ≤ (unL cs).length
  | [] => fo_nr _
  | c :: cs => by
    rw [unL_cons, fo_la, fo_lc]
    have := unC_pos c
    have := len_unL cs
    omega
theorem utf_le {cs : List Nat} {n : Nat} (h : (unL cs).length ≤ n) : (utf cs).size ≤ 4 * n := by
  unfold utf
  rw [btL_size]
  have := utC_le4 cs
  have := len_unL cs
  omega
theorem fo_size {n : ByteArray} {l : Cvs} (hn : NmOk n) (h : ∀ p ∈ l, (unL p.1).length + (unL p.2).length ≤ 60) : ∀ f ∈ foL n l, f.1.size ≤ 1048576 ∧ f.2.size ≤ 1048576 := λf hf => by
  rcases List.mem_cons.1 hf with rfl | hf
  · have := hn.hi
    exact ⟨by show sName.size ≤ 1048576; decide, by dsimp only; omega⟩
  · obtain ⟨p, hp, rfl⟩ := List.mem_map.1 hf
    have h1 := h p hp
    have a := utf_le (cs := p.1) (n := 60) (by omega)
    have b := utf_le (cs := p.2) (n := 60) (by omega)
    exact ⟨by dsimp only; omega, by dsimp only; omega⟩
structure FwtX where
  n : ByteArray
  r : Row
structure FtOk (x : FwtX) : Prop where
  n : NmOk x.n
  s : IsSrc 2 (fCs (foL x.n [])) x.r.a x.r.n
  r : x.r.n ≤ 1000000
abbrev fwTC : Con where
  X := FwtX
  Y := Unit
  args x := [.slice x.r.a x.r.n x.r.cap]
  pre _ := []
  cond x := FtOk x
  rdc x F := FoRd ⟨x.n, [], x.r⟩ F
  rel _ _ := True
  val x _ := .returned (.tuple #[.string (fwB (foL x.n [])), .int .i64 0])
  post _ _ := []
  rmono _ _ _ hs h := ⟨h.s.sub hs⟩
theorem fwT_ok : fo_k 39 fwTC := ⟨λx F I w hc hr hs => by
  obtain ⟨h1, h4, h5⟩ := hc
  have hz := fwA_size h1
  refine (fwO_ok.h ⟨x.n, [], x.r⟩ F I w ⟨h1, fo_zl _, fo_size h1 (λ_ h => nomatch h), h4, h5⟩ hr hs).mono λe w' ⟨y, J, k1, k2, k3, k4, k5⟩ => ⟨(), J, fo_tv, ?_, k3, k4, k5⟩
  have k1 : y = decide ((fwB (foL x.n [])).size > 4096) := k1
  have e : foL x.n [] = flA x.n [] := rfl
  rw [e, fo_df (by omega)] at k1
  subst k1
  exact k2⟩
structure WoX where
  t : List Nat
  c : List Nat
  b : List Nat
abbrev wqOC : Con where
  X := WoX
  Y := ByteArray
  args x := [.agg #[.string ⟨#[80, 79, 83, 84]⟩, .string (btL x.t), .string ⟨#[104]⟩, .string (btL x.c), .string (btL x.b)]]
  pre _ := []
  cond x := TgOk x.t ∧ CtOk x.c ∧ Bys x.b ∧ x.b.length ≤ 4096
  rdc _ F := Gl F ∧ TxG F
  rel _ _ := True
  val _ y := .returned (.tuple #[.string y, .int .i64 0])
  post _ _ := []
  rmono _ _ _ hs h := ⟨h.1.sub hs, h.2.sub hs⟩
theorem wqO_ok : fo_k 41 wqOC := ⟨λx F I w hc hr hs => (wq_ok.h (wqQ x.t x.c x.b) F I w (wqQ_ok hc.1 hc.2.1 hc.2.2.1 hc.2.2.2) hr hs).mono λe w' ⟨y, J, _, k2, k3, k4, k5⟩ => ⟨_, J, fo_tv, k2, k3, k4, k5⟩⟩
abbrev coI : Con := hrG [.string ⟨#[47, 115, 48]⟩, .string ⟨#[63]⟩] (.bool false)
theorem coI_ok : fo_k 40 coI := ⟨λ_ F I w _ hr hs =>
  (co_ok.h ⟨⟨#[47, 115, 48]⟩, ⟨#[63]⟩⟩ F I w (by decide : 3 ≤ 1048576) hr hs).mono λ_ _ ⟨y, J, k1, k2, k3, k4, k5⟩ => ⟨y, J, k1, k2.trans (by kernel_rfl), k3, k4, k5⟩⟩
def poL (n d : ByteArray) : List Value := [.int .i64 0, .int .i64 0, .int .i64 6, .string ⟨#[]⟩, .string ⟨#[104]⟩, .int .i64 80, .string ⟨#[47, 115, 48]⟩, .string n, .string ⟨#[]⟩, .string ⟨#[]⟩, .string ⟨#[]⟩, .string ⟨#[]⟩, .string ⟨#[]⟩, .string d]
end
section
open Go
set_option maxHeartbeats 1000000
structure RoX where
  n : ByteArray
  l : Cvs
structure RoX.ok (x : RoX) : Prop where
  n : NmOk x.n
  o : ∀ b, (ObjC.mk b x.l).ok
abbrev broC : Con where
  X := RoX
  Y := Bool
  args x := [.agg (poL x.n (utf (obX x.l))).toArray]
  pre _ := []
  cond x := x.ok
  rdc _ F := RqG F
  rel x y := y = decide ((fwB (foL x.n x.l)).size > 4096)
  val x y := .returned (.tuple #[.agg #[.string (bif y then ⟨#[]⟩ else ⟨#[80, 79, 83, 84]⟩), .string (bif y then ⟨#[]⟩ else ⟨#[47, 115, 48]⟩), .string (bif y then ⟨#[]⟩ else ⟨#[104]⟩), .string (bif y then ⟨#[]⟩ else uFm), .string (bif y then ⟨#[]⟩ else fwB (foL x.n x.l))], .int .i64 (bif y then 2 else 0)])
  post _ _ := []
  rmono _ _ _ hs h := h.sub hs
structure RoC where
  b1 : Nat
  b2 : Nat
  b3 : Nat
  h : Nat
  y : Int
structure RoS where
  i : Nat
  r : Row
  k : Row
  b1 : Nat
  b2 : Nat
  b5 : Nat
  h : Nat
  n : Int
structure RoS.ok (x : RoX) (d : RoS) : Prop where
  i : d.i ≤ x.l.length
  r : IsRow 36 2 (fCs (foL x.n (x.l.take d.i))) d.r
  n : d.r.n = d.i + 1
  k : IsRow 9 1 (ksL (kvT x.l)) d.k
  m : d.k.n = x.l.length
def q5o (b : Nat) : Atom := .cells b [.string ⟨#[80, 79, 83, 84]⟩, .string ⟨#[47, 115, 48]⟩, .string ⟨#[104]⟩, .string ⟨#[]⟩, .string ⟨#[]⟩] 45
def broCut (x : RoX) (F : Atom) : Nat → Option Inv := fun
  | 9 => some { X := RoC, P := λ_ => True, mu := λ_ => 0, lv := λd => [(2, .pointer (some ⟨d.b1, 0, none⟩)), (4, .pointer (some ⟨d.b2, 0, none⟩)), (5, .slice (some ⟨d.b3, 0, none⟩) 1 1), (6, .pointer (some ⟨d.h, 0, none⟩)), (7, .string (wid (obX x.l))), (9, .int .i64 0)], st := λd => [F, eFvv d.b1, q5o d.b2, .cells d.b3 [.string uNm, .string x.n] 36, ho0 d.h 10000] }
  | _ => none
def broInv (x : RoX) (F : Atom) : Nat → Option Inv := fun
  | 0 => some { X := RoS, P := λd => d.ok x, mu := λd => x.l.length - d.i, lv := λd => [(2, .pointer (some ⟨d.b1, 0, none⟩)), (4, .pointer (some ⟨d.b2, 0, none⟩)), (5, .slice d.r.a d.r.n d.r.cap), (6, .pointer (some ⟨d.h, 0, none⟩)), (9, .int .i64 0), (10, .pointer (some ⟨d.b5, 0, none⟩)), (11, .int .i64 0), (12, .bool true), (91, .slice d.k.a d.k.n d.k.cap), (92, .int .i64 x.l.length), (93, .int .i64 d.i)], st := λd => [F, eFvv d.b1, q5o d.b2, d.r.A, hoA d.h d.n (kvT x.l), .cells d.b5 [.int .i64 5, .float .f64 0, .string ⟨#[]⟩, .int .i64 0] 30, d.k.A] }
  | _ => none
def T136 := fo_C2 32 wdOC (λw0 => Scs w0.cs ∧ w0.cs ≠ [] ∧ (utf w0.cs).size ≤ 1048576) (λ_ => Utf)
abbrev q14 : List Value := [fo_vs ⟨#[80, 79, 83, 84]⟩, fo_vs ⟨#[47, 115, 48]⟩, fo_vs ⟨#[104]⟩, fo_vs ⟨#[]⟩, fo_vs ⟨#[]⟩]
abbrev q71 (F : Atom) (E : Nat) (x : RoX) (D C B z : Nat) := [(0, F), (1000, fo_cl E [fo_vi 0, fo_vi 0, fo_vi 6, fo_vs ⟨#[]⟩, fo_vs ⟨#[104]⟩, fo_vi 80, fo_vs ⟨#[47, 115, 48]⟩, fo_vs x.n, fo_vs ⟨#[]⟩, fo_vs ⟨#[]⟩, fo_vs ⟨#[]⟩, fo_vs ⟨#[]⟩, fo_vs ⟨#[]⟩, fo_vs (utf (obX x.l))] 53), (1001, fo_cl D q4 45), (1002, fo_cl C q14 45), (1003, fo_cl B [fo_vs ⟨#[95, 115, 99, 120, 109, 108, 101, 118, 101, 110, 116, 110, 97, 109, 101]⟩, fo_vs x.n] 36), (1004, fo_cl z q23 60)]
abbrev q304 (a : RoC) : Option Addr := some ⟨a.h, 0, none⟩
abbrev q245 (F : Atom) (a : RoC) (x : RoX) := [(0, F), (1, fo_cl a.b1 q4 45), (2, fo_cl a.b2 q14 45), (3, fo_cl a.b3 [fo_vs uNm, fo_vs x.n] 36), (4, fo_cl a.h q23 60)]
abbrev q305 (a : RoS) : Option Addr := some ⟨a.h, 0, none⟩
abbrev q55 (F : Atom) (a : RoS) (x : RoX) := [(0, F), (1, fo_cl a.b1 q4 45), (2, fo_cl a.b2 q14 45), (3, a.r.A), (4, fo_pr (Ex.rest (hoR (kvT x.l)) (hoB a.h a.n (kvT x.l)))), (5, fo_cl a.b5 q12 30), (6, a.k.A)]
def T137 := fo_C1 38 bvtC (λw0 => w0.s.size ≤ 1048576)
abbrev q248 (k : OwX2) : List Value := [fo_vi 4, float f64 0, fo_vs (wid k.p.snd), fo_vi 0]
def T138 := fo_C2 41 wqOC (λw0 => TgOk w0.t ∧ CtOk w0.c ∧ Bys w0.b ∧ w0.b.length ≤ 4096) (λ_ w2 => Gl w2 ∧ TxG w2)
abbrev q22 (c : Bool) (d : FoX) : List Value := [fo_vs ⟨#[80, 79, 83, 84]⟩, fo_vs ⟨#[47, 115, 48]⟩, fo_vs ⟨#[104]⟩, fo_vs ⟨#[97, 112, 112, 108, 105, 99, 97, 116, 105, 111, 110, 47, 120, 45, 119, 119, 119, 45, 102, 111, 114, 109, 45, 117, 114, 108, 101, 110, 99, 111, 100, 101, 100]⟩, fo_vs (bif c then q59 else fwB (foL d.n d.l))]
theorem bro_vc (x : RoX) (F : Atom) (hc : broC.cond x) (hr : broC.rdc x F) :
 ∀(E D : Nat), fo_sm E 2 ∧ fo_sm E 6 ∧ fo_sm E 4 ∧ ∀(C : Nat), fo_s5 C (fo_sm E 5 ∧ fo_sm E 7 ∧ ∀(B : Nat), T83 [fo_vi 10000] (λA z => (fo_sm E 13 ∧ T136 [fo_vs (utf (obX x.l))] (fo_aR (q71 F E x D C B z) []) (λc b => ∃(a : RoC), True ∧ (fo_vp (q17 D) = fo_vp (some ⟨a.b1, 0, none⟩) ∧ fo_vp (q17 C) = fo_vp (some ⟨a.b2, 0, none⟩) ∧ fo_vl (q17 B) 1 1 = fo_vl (some ⟨a.b3, 0, none⟩) 1 1 ∧ fo_vp (q17 z) = fo_vp (q304 a) ∧ fo_vs (wid c.cs) = fo_vs (wid (obX x.l)) ∧ fo_vi 0 = fo_vi 0 ∧ True) ∧ Ent (q71 F E x D C B z) (q245 F a x))) ∧ fo_vA λ(y : RoC) _ => True → fo_C4 33 pzOC (λv => v.ok) (λ_ rr => gN.ok rr ∧ Utf rr) (λ_ _ => True) [fo_vp (q304 y), fo_vs (wid (obX x.l))] [fo_cl y.h q23 60] (fo_aR (q245 F y x) [4]) (λv u => ∀(t : Nat), fo_sm t 0 ∧ fo_sm t 1 ∧ fo_sm t 2 ∧ fo_sm t 3 ∧ fo_sm t 0 ∧ fo_sm t 3 ∧ fo_C3 34 kihC (λ_ => True) [fo_vp (q304 y), fo_vi 0] [fo_pr (Ex.rest (hoR (kvT v.l)) (hoB v.b u (kvT v.l)))] (λs r => fo_sm t 3 ∧ fo_C6 35 kehC (λq => List.length q.l ≤ 10000) (λq p => IsRow 9 1 (ksL q.l) p ∧ p.n = List.length q.l) [fo_vp (q304 y), fo_vi 0] [fo_pr (Ex.rest (hoR s.l) (hoB s.b s.n s.l))] (λq p => (∃(a : RoS), RoS.ok x a ∧ (fo_vp (some ⟨y.b1, 0, none⟩) = fo_vp (some ⟨a.b1, 0, none⟩) ∧ fo_vp (some ⟨y.b2, 0, none⟩) = fo_vp (some ⟨a.b2, 0, none⟩) ∧ fo_vl (some ⟨y.b3, 0, none⟩) 1 1 = fo_vl a.r.a a.r.n a.r.cap ∧ fo_vp (q304 y) = fo_vp (q305 a) ∧ fo_vi 0 = fo_vi 0 ∧ fo_vp (q17 t) = fo_vp (some ⟨a.b5, 0, none⟩) ∧ fo_vi 0 = fo_vi 0 ∧ fo_vb ((1 : Int) == (1 : Int)) = fo_vb true ∧ fo_vl p.a p.n p.cap = fo_vl a.k.a a.k.n a.k.cap ∧ fo_vi ↑p.n = fo_vi (↑(List.length x.l) : Int) ∧ fo_vi 0 = fo_vi ↑a.i ∧ True) ∧ Ent [(0, F), (1, fo_cl y.b1 q4 45), (2, fo_cl y.b2 q14 45), (3, fo_cl y.b3 [fo_vs uNm, fo_vs x.n] 36), (4, fo_pr (Ex.rest (hoR q.l) (hoB q.b q.n q.l))), (1005, fo_cl t q12 30), (1006, p.A)] (q55 F a x)) ∧ fo_vA λ(o : RoS) _ => RoS.ok x o → fo_Bd ((o.i : Int) < (↑(List.length x.l) : Int)) (T48 (opIn Tryz.f14 14 0) [fo_vl o.k.a o.k.n o.k.cap, fo_vi ↑o.i] (λm => T25 o.k.A ⟨m.b, m.o + m.n.toNat * 1, none⟩ (λl => fo_sm o.b5 3 ∧ fo_C3 36 owOC (λk => k.p ∈ k.l ∧ (List.map (λ(a : ByteArray × ByteArray) => a.fst) (kvW k.l)).Nodup) [fo_vp (q305 o), fo_vi 0, fo_vs l] [fo_pr (Ex.rest (hoR (kvT x.l)) (hoB o.h o.n (kvT x.l)))] (λk j => ∀(i : Nat), fo_sm i 0 ∧ fo_sm i 1 ∧ fo_sm i 2 ∧ fo_sm i 3 ∧ T82 [fo_vs l] (λh g => fo_sm i 0 ∧ fo_sm i 1 ∧ fo_sm i 2 ∧ fo_sm i 3 ∧ T137 [fo_vp (q305 o), agg ⟨q248 k⟩] (λf e => ∀(d : Nat), T29 (opIn Tryz.f14 17 7) [fo_vl o.r.a o.r.n o.r.cap, fo_vl (q17 d) 1 1] [o.r.A] (fo_aR [(0, F), (1, fo_cl o.b1 q4 45), (2, fo_cl o.b2 q14 45), (3, o.r.A), (4, fo_pr (Ex.rest (hoR (kvT k.l)) (hoB k.b k.n (kvT k.l)))), (5, fo_cl o.b5 q12 30), (6, o.k.A), (2007, fo_cl i (q248 k) 30), (2008, fo_cl d [fo_vs (nrV h.s), fo_vs (nrV f.s)] 36)] [3]) (λc b => fo_rI ((o.i : Int) + 1) ∧ ∃(a : RoS), RoS.ok x a ∧ (fo_vp (some ⟨o.b1, 0, none⟩) = fo_vp (some ⟨a.b1, 0, none⟩) ∧ fo_vp (some ⟨o.b2, 0, none⟩) = fo_vp (some ⟨a.b2, 0, none⟩) ∧ fo_vl b.a b.n b.cap = fo_vl a.r.a a.r.n a.r.cap ∧ fo_vp (q305 o) = fo_vp (q305 a) ∧ fo_vi 0 = fo_vi 0 ∧ fo_vp (some ⟨o.b5, 0, none⟩) = fo_vp (some ⟨a.b5, 0, none⟩) ∧ fo_vi 0 = fo_vi 0 ∧ fo_vb true = fo_vb true ∧ fo_vl o.k.a o.k.n o.k.cap = fo_vl a.k.a a.k.n a.k.cap ∧ fo_vi (↑(List.length x.l) : Int) = fo_vi (↑(List.length x.l) : Int) ∧ fo_vi ((o.i : Int) + 1) = fo_vi ↑a.i ∧ True) ∧ Ent [(0, F), (1, fo_cl o.b1 q4 45), (2, fo_cl o.b2 q14 45), (3, b.A), (4, fo_pr (Ex.rest (hoR (kvT k.l)) (hoB k.b k.n (kvT k.l)))), (5, fo_cl o.b5 q12 30), (6, o.k.A), (2007, fo_cl i (q248 k) 30), (2008, fo_cl d [fo_vs (nrV h.s), fo_vs (nrV f.s)] 36)] (q55 F a x) ∧ List.length x.l - a.i < List.length x.l - o.i))))))) (fo_C4 39 fwOC FoOk FoRd (λd c => c = decide ((fwB (foL d.n d.l)).size > 4096)) [fo_vl o.r.a o.r.n o.r.cap] ([] : List Atom) (fo_aR (q55 F o x) []) (λd c => Br ((bif c then (2 : Int) else (0 : Int)) != 0) (fo_s5 o.b1 (fo_s5 o.b1 (Done broC x F (fo_rt (tuple ⟨[agg ⟨q4⟩, fo_vi (bif c then (2 : Int) else (0 : Int))]⟩)) (q55 F o x)))) (fo_sm o.b2 3 ∧ fo_sm o.b2 4 ∧ fo_s5 o.b2 (T138 [agg ⟨q22 c d⟩] (fo_aR [(0, F), (1, fo_cl o.b1 q4 45), (2, fo_cl o.b2 (q22 c d) 45), (3, o.r.A), (4, fo_pr (Ex.rest (hoR (kvT x.l)) (hoB o.h o.n (kvT x.l)))), (5, fo_cl o.b5 q12 30), (6, o.k.A)] []) (λb a => fo_s5 o.b2 (fo_s5 o.b1 (fo_s5 o.b1 (Done broC x F (fo_rt (tuple { toList := [agg { toList := (q22 c d) }, fo_vi 0] })) [(0, F), (1, fo_cl o.b1 (q22 c d) 45), (2, fo_cl o.b2 (q22 c d) 45), (3, o.r.A), (4, fo_pr (Ex.rest (hoR (kvT x.l)) (hoB o.h o.n (kvT x.l)))), (5, fo_cl o.b5 q12 30), (6, o.k.A)]))))))))))))) := by
  delta T83 T136 q4 q14 q23 q71 q17 q304 q245 q305 q12 q55 q175 T48 T25 q238 T82 T137 q248 q293 q261 q149 T29 T138 q59 q22 fo_aR fo_sm fo_rI fo_s5 fo_C0 fo_C1 fo_C2 fo_C3 fo_C4 fo_C6 fo_O4 fo_vi fo_vs fo_vb fo_vp fo_vl fo_cl fo_pr fo_Bd fo_rt fo_vA
  have hr : RqG F := hr
  have fr : ∀ (S : St) (touch : List Nat), 0 ∉ touch → gt S 0 = F → RqG (.pred (rest S touch)) := λS touch h e => hr.sub (sub_rest (A := F) 0 h e)
  obtain ⟨n, l⟩ := x
  obtain ⟨hn, hob⟩ := hc
  have ho := hob 0
  have hos : ScKv l := ho.s
  have hop : ∀ p ∈ l, (unL p.1).length + (unL p.2).length ≤ 60 := ho.p
  have hon : ((kvW l).map (·.1)).Nodup := ho.n
  have hol : l.length ≤ 20 := ho.l
  have hoz : (wid (obX l)).size ≤ 16384 := ho.z
  have hkl : (kvT l).length = l.length := by unfold kvT; rw [List.length_map]
  dsimp only at hn ⊢
  have hne : obX l ≠ [] := by unfold obX; simp
  have hdz : (utf (obX l)).size ≤ 1048576 := by
    have := utf_le (cs := obX l) (n := 8192) (by have := wid_size (obX l); omega)
    omega
  intro b b1
  refine ⟨⟨rfl, rfl⟩, ⟨rfl, rfl⟩, ⟨rfl, rfl⟩, λb2 => ?_⟩
  iterate 7 refine ⟨⟨rfl, rfl⟩, ?_⟩
  refine λb3 => ⟨nwa_ok, rfl, (), rfl, rfl, fo_tv, fo_tv, λh _ => ⟨⟨⟨rfl, rfl⟩, wdO_ok, rfl, ⟨obX l⟩, rfl, rfl, ⟨obC_sc hos, hne, hdz⟩, (fr _ _ (by simp) rfl).ut, λy _ => ⟨⟨b1, b2, b3, h, y⟩, fo_tv, ⟨rfl, rfl, rfl, rfl, rfl, rfl, fo_tv⟩, Ent.pick [0, 1001, 1002, 1003, 1004] rfl rfl⟩⟩, ?_⟩⟩
  clear b b1
  rintro ⟨b1, b2, b3, h, _⟩ js -
  refine ⟨pzO_ok, rfl, ⟨h, l⟩, rfl, rfl, hob h, ⟨(fr _ _ (by simp) rfl).gn, (fr _ _ (by simp) rfl).ut⟩, λm _ b5 => ?_⟩
  iterate 6 refine ⟨⟨rfl, rfl⟩, ?_⟩
  refine ⟨kih_ok, rfl, ⟨h, m, kvT l, ⟨#[]⟩⟩, rfl, rfl, fo_tv, fo_tv, λ_ _ => ⟨⟨rfl, rfl⟩, keh_ok, rfl, ⟨h, m, kvT l, ⟨#[]⟩⟩, rfl, rfl, by dsimp only; omega, fo_tv, λk ⟨k1, k2⟩ => ⟨⟨⟨0, ⟨some ⟨b3, 0, none⟩, 1, 1, .cells b3 [.string uNm, .string n] 36⟩, k, b1, b2, b5, h, m⟩, ⟨fo_zl _, .blk b3 1 1 [] rfl rfl (by decide), rfl, k1, by dsimp only; rw [k2, hkl]⟩, ⟨rfl, rfl, rfl, rfl, rfl, rfl, rfl, rfl, rfl, by rw [k2, hkl], rfl, fo_tv⟩, Ent.pick [0, 1, 2, 3, 4, 1005, 1006] rfl rfl⟩, ?_⟩⟩⟩
  clear b2 b3
  rintro ⟨i, r, k, b1, b2, b5, h, m⟩ js ⟨g1, g2, g3, g4, g5⟩
  dsimp only at g1 g2 g3 g4 g5 ⊢
  refine br_decide (λq => ?_) (λq => ?_)
  · have hlt : i < l.length := by omega
    obtain ⟨p, hp⟩ : ∃ p, l[i]? = some p := ⟨l[i], fo_ge hlt⟩
    have hm := fo_mg hp
    have hpp := hop p hm
    have hsc := hos p hm
    obtain ⟨c, hka⟩ := g4.at0 (by omega)
    have hs := g4.srcd
    rw [hka] at hs ⊢
    have hkq : (ksL (kvT l))[i]? = some (.string (wid p.1)) := by
      unfold ksL strs kvT
      rw [List.map_map, List.map_map, fo_gm, hp] <;> rfl
    have w1 := wid_le (cs := p.1) (n := 60) (by omega)
    have w2 := wid_le (cs := p.2) (n := 60) (by omega)
    have et : fCs (foL n (l.take (i + 1))) = fCs (foL n (l.take i)) ++ fCs [(nrV (wid p.1), nrV (wid p.2))] := by
      rw [nr_wid hsc.1, nr_wid hsc.2, List.take_add_one, hp, Option.toList_some]
      unfold foL flA kvU
      rw [List.map_append, ← List.cons_append]
      unfold fCs
      rw [List.flatMap_append] <;> rfl
    refine ⟨ixq_ok 1 rfl rfl rfl rfl, ⟨c, 0, k.n, k.cap, i⟩, rfl, ⟨by dsimp only; omega, by dsimp only; omega⟩, wid p.1, ?_, ⟨rfl, rfl⟩, owO_ok, rfl, ⟨h, m, l, p⟩, rfl, rfl, ⟨hm, hon⟩, fo_tv, λ_ _ bb => ?_⟩
    · have := Srcd.look hs hkq
      dsimp only
      rw [fo_tn, Nat.mul_one]
      exact this
    iterate 4 refine ⟨⟨rfl, rfl⟩, ?_⟩
    refine ⟨nrn_ok, rfl, ⟨wid p.1⟩, rfl, rfl, by dsimp only; omega, fo_tv, λ_ _ => ?_⟩
    iterate 4 refine ⟨⟨rfl, rfl⟩, ?_⟩
    refine ⟨bvt_ok, rfl, ⟨some ⟨h, 0, none⟩, wid p.2⟩, rfl, rfl, by dsimp only; omega, fo_tv, λ_ _ b4 => ⟨append_ok (P := Tryz.prog) 2 32 rfl rfl rfl rfl rfl rfl rfl (by decide), rfl, ⟨r, fCs (foL n (l.take i)), some ⟨b4, 0, none⟩, 1, 1, fCs [(nrV (wid p.1), nrV (wid p.2))]⟩, rfl, rfl, ⟨g2, rfl, λu hu => fCs_one hu, by dsimp only; omega, by dsimp only; omega, λe => by cases e⟩, λa ha => ?_, λy ⟨y1, y2, _⟩ => ⟨⟨by omega, by omega⟩, ⟨i + 1, y, k, b1, b2, b5, h, m⟩, ⟨hlt, ?_, ?_, g4, g5⟩, ⟨rfl, rfl, rfl, rfl, rfl, rfl, rfl, rfl, by rw [hka], rfl, rfl, fo_tv⟩, Ent.pick [0, 1, 2, 3, 4, 5, 6] rfl rfl, by dsimp only; omega⟩⟩⟩
    · cases ha
      exact Seg.rest (j := 2008) (by simp) (Seg.cells (λj u hj => by rw [fo_za]; exact hj))
    · dsimp only
      rw [et]
      exact y1
    · dsimp only at y2 ⊢
      omega
  · have hi : i = l.length := by omega
    rw [hi, List.take_length] at g2
    refine ⟨fwO_ok, rfl, ⟨n, l, r⟩, rfl, rfl, ⟨hn, hol, fo_size hn hop, g2.src, by dsimp only; omega⟩, ⟨row_srcd 3 (by simp) rfl g2⟩, λy hy => ?_⟩
    have hy : y = decide ((fwB (foL n l)).size > 4096) := hy
    cases y with
    | true =>
      refine br_intro (λ_ => ?_) (λe => absurd e (by decide))
      iterate 10 refine ⟨⟨rfl, rfl⟩, ?_⟩
      exact ⟨true, hy, rfl, Ent.pick [0] rfl rfl⟩
    | false =>
      have hsz := fo_od0 hy.symm
      rw [fwB_L, btL_size] at hsz
      refine br_intro (λe => absurd e (by decide)) (λ_ => ?_)
      iterate 7 refine ⟨⟨rfl, rfl⟩, ?_⟩
      refine ⟨wqO_ok, rfl, ⟨tS0, cFm, fmL (foL n l)⟩, ?_, rfl, ⟨tS0_ok, cFm_ok, fmL_lt _, by dsimp only; omega⟩, ⟨(fr _ _ (by simp) rfl).gl, (fr _ _ (by simp) rfl).tx⟩, λy _ => ?_⟩
      · dsimp only
        rw [← fwB_L] <;> rfl
      iterate 15 refine ⟨⟨rfl, rfl⟩, ?_⟩
      exact ⟨false, hy, rfl, Ent.pick [0] rfl rfl⟩
theorem bro_ok : fo_k 14 broC := fo 172 Tryz.func14 (λ_ _ => [(0, 0, .n 1000), (0, 1, .n 1001), (1, 2, .q [.aq 1000]), (3, 2, .q [.aq 1000]), (3, 5, .q [.aq 1000]), (3, 7, .n 1002), (3, 8, .w (at5 1002)), (4, 2, .q [.aq 1000]), (6, 2, .q [.aq 1000]), (6, 4, .n 1003), (7, 0, .c nwaC [] [1004]), (8, 2, .q [.aq 1000]), (8, 3, .c wdOC [] []), (9, 2, .c pzOC [4] [4]), (9, 6, .n 1005), (9, 7, .w (at4u 1005)), (10, 7, .q [.aq 1005]), (10, 13, .q [.aq 1005]), (10, 15, .c kihC [4] [4]), (12, 2, .q [.aq 1005]), (12, 3, .c kehC [4] [4, 1006]), (14, 0, .qo (ixQ 1)), (14, 1, .q [.ex 6 .str]), (15, 2, .q [.aq 5]), (15, 4, .c owOC [4] [4]), (15, 8, .n 2007), (15, 9, .w (at4u 2007)), (16, 1, .c nrnC [] []), (17, 3, .q (at4u 2007)), (17, 4, .c bvtC [] []), (17, 6, .n 2008), (17, 7, .o (apC 36 2 32) [3] [3]), (19, 1, .c fwOC [] []), (23, 2, .w [.aq 2]), (23, 4, .w [.aq 2]), (21, 2, .w (at5 1)), (31, 0, .q (at5 2)), (31, 1, .c wqOC [] []), (34, 0, .q (at5 2)), (34, 1, .w (at5 1))]) [(10, 8, OH.q [LH.aq (1005 : Nat)]), (10, 14, OH.q [LH.aq (1005 : Nat)])] broInv broCut fo_o (at5 1) bro_vc
end
end Go.Proofs.YtjdabjmjldiodaaGreatDoor
