/- A part of the proof that pennantlaw23.BasicHears answers true at every input. -/
import Derived.Test.YtjdabjmjldiodaaGreatDoorPHan
set_option linter.all false
namespace Go.Proofs.YtjdabjmjldiodaaGreatDoor
set_option maxRecDepth 100000
open Go.Value (int slice string bool pointer agg tuple func float iface nilIface)
open Go.IntKind (i64 u8 u64 i32 u32 u16 i8 i16)
open Go.FloatKind (f64)
open Go.Ending (returned panicked)
section
open Go
set_option maxHeartbeats 1000000
abbrev dgC : Con where
  X := UntX
  Y := ByteArray
  args x := [.int .i64 x.u]
  pre _ := []
  cond x := x.u ≤ 2147483647
  rdc _ _ := True
  rel x y := y.size ≤ 10
  val _ y := .returned (.string y)
  post _ _ := []
structure DgS where
  n : Nat
  s : ByteArray
def dgInv (x : UntX) (F : Atom) : Nat → Option Inv := fun
  | 0 => some { X := DgS, P := λd => d.n * 10 ^ d.s.size ≤ 2147483647 ∧ (d.s.size > 0 → d.n > 0), mu := λd => d.n, lv := λd => [(0, .int .i64 d.n), (3, .string d.s), (4, .string ⟨#[]⟩)], st := λ_ => [F] }
  | _ => none
def q242 (a : DgS) := a.n * Nat.pow 10 a.s.size ≤ 2147483647 ∧ (a.s.size > 0 → a.n > 0)
theorem dg_vc (x : UntX) (F : Atom) (hc : dgC.cond x) (hr : dgC.rdc x F) :
 (∃(a : DgS), q242 a ∧ (fo_vi ↑x.u = fo_vi ↑a.n ∧ fo_vs ⟨#[]⟩ = fo_vs a.s ∧ fo_vs ⟨#[]⟩ = fo_vs ⟨#[]⟩ ∧ True) ∧ Ent [(0, F)] [(0, F)]) ∧ fo_vA λ(i : DgS) _ => q242 i → QOpOk Tryz.prog (opIn Tryz.f199 5 1) (mdN 10) ∧ ∃(g : Nat), [fo_vi ↑i.n, fo_vi 10] = [fo_vi ↑g, fo_vi (↑(10 : Nat) : Int)] ∧ 0 < 10 ∧ fo_rI (48 + (↑(g % 10) : Int)) ∧ T93 (opIn Tryz.f199 8 2) [fo_vi (48 + (↑(g % 10) : Int))] (λf => ∀(e : Nat), T4 (opIn Tryz.f199 8 4) [fo_vl (q13 e) 1 1] (fo_aR [(0, F), (9030, fo_cl e (q323 f) 5)] []) (λd c => (btL d.l).size + i.s.size ≤ 9223372036854775807 ∧ QOpOk Tryz.prog (opIn Tryz.f199 9 1) (dvN 10) ∧ ∃(b : Nat), [fo_vi ↑i.n, fo_vi 10] = [fo_vi ↑b, fo_vi (↑(10 : Nat) : Int)] ∧ (b < 4611686018427387904 ∧ 0 < 10) ∧ Br ((↑(b / 10) : Int) == 0) (0 + (btL d.l ++ i.s).size ≤ 9223372036854775807 ∧ Done dgC x F (fo_rt (fo_vs (q34 ++ (btL d.l ++ i.s)))) [(0, F), (9030, fo_cl e (q323 f) 5)]) (∃(a : DgS), q242 a ∧ (fo_vi (↑(b / 10) : Int) = fo_vi ↑a.n ∧ fo_vs (btL d.l ++ i.s) = fo_vs a.s ∧ fo_vs ⟨#[]⟩ = fo_vs ⟨#[]⟩ ∧ True) ∧ Ent [(0, F), (9030, fo_cl e (q323 f) 5)] [(0, F)] ∧ a.n < i.n))) := by
  delta q242 T93 T4 q13 q323 q34 fo_aR fo_rI fo_O2 fo_vi fo_vc fo_vs fo_vl fo_cl fo_rt fo_vA
  obtain ⟨u⟩ := x
  have hu : u ≤ 2147483647 := hc
  dsimp only
  refine ⟨⟨⟨u, ⟨#[]⟩⟩, ⟨by show u * 10 ^ 0 ≤ 2147483647; omega, λh => absurd h (Nat.lt_irrefl 0)⟩, ⟨rfl, rfl, rfl, fo_tv⟩, Ent.pick [0] rfl rfl⟩, ?_⟩
  rintro ⟨n, s⟩ js ⟨h1, h2⟩
  have h1 : n * 10 ^ s.size ≤ 2147483647 := h1
  dsimp only at h2 ⊢
  have hs : s.size ≤ 9 := by
    rcases Nat.lt_or_ge 9 s.size with h | h
    · exfalso
      have hp : 10 ^ 10 ≤ 10 ^ s.size := fo_pp (by decide) h
      have h10 : (10 : Nat) ^ 10 = 10000000000 := by decide
      rw [h10] at hp
      have := Nat.mul_le_mul (h2 (by omega)) hp
      have : 1 * 10000000000 ≤ n * 10 ^ s.size := this
      omega
    · exact h
  have hn : n ≤ 2147483647 := by
    have : 1 ≤ 10 ^ s.size := Nat.one_le_pow _ _ (by decide)
    have := Nat.mul_le_mul (fo_nr n) this
    omega
  have hm := Nat.mod_lt n (show 10 > 0 by decide)
  have e : (48 + n % 10) % 256 = 48 + n % 10 := Nat.mod_eq_of_lt (by omega)
  refine ⟨mdn_ok rfl, n, rfl, by decide, ⟨by omega, by omega⟩, cv_u8 rfl rfl rfl, 48 + n % 10, rfl, fo_tv, λb => ⟨b2s_ok rfl rfl rfl rfl, rfl, ⟨some ⟨b, 0, none⟩, 1, 1, [48 + n % 10]⟩, rfl, rfl, .blk b 0 1 rfl, ?_, λ_ _ => ⟨?_, dvn_ok rfl, n, rfl, ⟨by omega, by decide⟩, br_intro (λq => ?_) (λq => ?_)⟩⟩⟩
  · rw [e]; exact srcd_n (by decide)
  · rw [btL_size]; simp only [fo_l1]; omega
  · have hz : (btL [48 + n % 10] ++ s).size ≤ 10 := by rw [fo_sa, btL_size]; simp only [fo_l1]; omega
    refine ⟨by dsimp only; omega, (⟨#[]⟩ ++ (btL [48 + n % 10] ++ s)), ?_, rfl, Ent.pick [0] rfl rfl⟩
    show ((⟨#[]⟩ : ByteArray) ++ (btL [48 + n % 10] ++ s)).size ≤ 10
    rw [fo_sa]
    show 0 + _ ≤ 10
    omega
  · have q : (((n / 10 : Nat) : Int) == 0) = false := q
    rw [fo_bf] at q
    have hz : (btL [48 + n % 10] ++ s).size = s.size + 1 := by rw [fo_sa, btL_size]; simp only [fo_l1]; omega
    refine ⟨⟨n / 10, btL [48 + n % 10] ++ s⟩, ⟨?_, λ_ => by dsimp only; omega⟩, ⟨rfl, rfl, rfl, fo_tv⟩, Ent.pick [0] rfl rfl, by dsimp only; omega⟩
    show n / 10 * 10 ^ (btL [48 + n % 10] ++ s).size ≤ 2147483647
    rw [hz, Nat.pow_succ, Nat.mul_comm (10 ^ s.size) 10, ← Nat.mul_assoc]
    exact fo_lt (Nat.mul_le_mul (Nat.div_mul_le_self n 10) (fo_nr _)) h1
theorem dg_ok : fo_k 199 dgC := fo 28 Tryz.func199 (λ_ _ => [(5, 1, .qo (mdN 10)), (8, 2, .qo (cvQ .i64 .u8 256)), (8, 3, .n 9030), (8, 4, .o b2sC [] []), (9, 1, .qo (dvN 10))]) [] dgInv fo_i fo_o [] dg_vc
abbrev kyC : Con where
  X := UntX
  Y := ByteArray
  args x := [.int .i64 x.u]
  pre _ := []
  cond x := x.u ≤ 2147483647
  rdc _ _ := True
  rel x y := True
  val _ y := .returned (.string y)
  post _ _ := []
theorem ky_vc (x : UntX) (F : Atom) (hc : kyC.cond x) (hr : kyC.rdc x F) :
 fo_C5 199 dgC (λd => d.u ≤ 2147483647) (λ_ c => c.size ≤ 10) [fo_vi ↑x.u] (λd c => T124 [fo_vs c] (λb a => Done kyC x F (fo_rt (fo_vs (ofV b.s))) [(0, F)])) := by
  delta q223 T124 fo_C1 fo_C5 fo_vi fo_vs fo_rt
  exact ⟨dg_ok, rfl, x, rfl, rfl, hc, fo_tv, λy hy => ⟨of_ok, rfl, ⟨y⟩, rfl, rfl, fo_lt hy (by decide), fo_tv, λ_ _ => ⟨ofV y, fo_tv, rfl, Ent.pick [0] rfl rfl⟩⟩⟩
theorem ky_ok : fo_k 161 kyC := fo 6 Tryz.func161 (λ_ _ => [(1, 1, .c dgC [] []), (1, 2, .c ofC [] [])]) [] fo_i fo_i fo_o [] ky_vc
abbrev irC : Con where
  X := StX
  Y := Int
  args x := [.string x.s]
  pre _ := []
  cond x := x.s.size ≤ 1048576
  rdc _ _ := True
  rel _ _ := True
  val _ y := .returned (.int .i64 y)
  post _ _ := []
def irInv (x : StX) (F : Atom) : Nat → Option Inv := fun
  | 0 => some { X := IoS, P := λd => d.ok x.s, mu := λd => x.s.size / 2 - d.i, lv := λd => [(0, .string x.s), (3, .int .i64 d.n), (4, .int .i64 d.i)], st := λ_ => [F] }
  | _ => none
def q262 (x : StX) (F : Atom) := Done irC x F q79 [(0, F)]
theorem ir_vc (x : StX) (F : Atom) (hc : irC.cond x) (hr : irC.rdc x F) :
 Br (x.s.toList == q34.toList) (q262 x F) (T143 (opIn Tryz.f106 2 5) [fo_vi ↑x.s.size, fo_vi 2] (λg => Br ((↑(g % 2) : Int) == 1) (q262 x F) (fo_Bd ((x.s.size : Int) > 20) (q262 x F) ((∃(a : IoS), a.ok x.s ∧ (fo_vs x.s = fo_vs x.s ∧ fo_vi 0 = fo_vi ↑a.n ∧ fo_vi 0 = fo_vi ↑a.i ∧ True) ∧ Ent [(0, F)] [(0, F)]) ∧ fo_vA λ(f : IoS) _ => f.ok x.s → T139 (opIn Tryz.f106 5 3) [fo_vi ↑x.s.size, fo_vi 2] (λd => fo_Bd ((f.i : Int) < (↑(d / 2) : Int)) (T144 [fo_vs x.s, fo_vi ↑f.i] (λc b => fo_Bd (atrV c.s c.i < 48) (q262 x F) (fo_Bd (atrV c.s c.i > 57) (q262 x F) (fo_rI ((f.n : Int) * 10) ∧ fo_rI ((f.n : Int) * 10 + atrV c.s c.i) ∧ fo_rI ((f.n : Int) * 10 + atrV c.s c.i - 48) ∧ fo_rI ((f.i : Int) + 1) ∧ ∃(a : IoS), a.ok x.s ∧ (fo_vs x.s = fo_vs x.s ∧ fo_vi ((f.n : Int) * 10 + atrV c.s c.i - 48) = fo_vi ↑a.n ∧ fo_vi ((f.i : Int) + 1) = fo_vi ↑a.i ∧ True) ∧ Ent [(0, F)] [(0, F)] ∧ x.s.size.div 2 - a.i < x.s.size.div 2 - f.i)))) (fo_Bd ((f.n : Int) > 2147483647) (q262 x F) (fo_C1 161 kyC (λb => b.u ≤ 2147483647) [fo_vi ↑f.n] (λb a => Br (!a.toList == x.s.toList) (q262 x F) (Done irC x F (fo_rt (fo_vi ↑f.n)) [(0, F)]))))))))) := by
  delta q34 q79 q262 T143 T139 T144 fo_rI fo_C1 fo_vi fo_vs fo_Bd fo_rt fo_vA
  obtain ⟨s⟩ := x
  have hs : s.size ≤ 1048576 := hc
  dsimp only
  have fin : ∀ (a : Int), Done irC ⟨s⟩ F (returned (int .i64 a)) [(0, F)] := λa => ⟨a, fo_tv, rfl, Ent.pick [0] rfl rfl⟩
  refine br_intro (λ_ => fin _) (λ_ => ⟨mdn_ok rfl, s.size, rfl, by decide, br_intro (λ_ => fin _) (λ_ => br_decide (λ_ => fin _) (λh20 => ⟨⟨⟨0, 0⟩, ⟨by omega, fo_zl _, Nat.one_pos⟩, ⟨rfl, rfl, rfl, fo_tv⟩, Ent.pick [0] rfl rfl⟩, ?_⟩))⟩)
  rintro ⟨i, n⟩ js ⟨h1, h2, h3⟩
  dsimp only at h1 h2 h3 ⊢
  have hp : 10 ^ i ≤ 10 ^ 10 := fo_pp (by decide) (by omega)
  have hp2 : 10 ^ (i + 1) = 10 ^ i * 10 := Nat.pow_succ ..
  have h10 : (10 : Nat) ^ 10 = 10000000000 := by decide
  rw [h10] at hp
  refine ⟨dvn_ok rfl, s.size, rfl, ⟨by omega, by decide⟩, br_decide (λhlt => ⟨atr_ok, rfl, ⟨s, i⟩, rfl, rfl, ⟨hs, by dsimp only; omega⟩, fo_tv, λ_ _ => ?_⟩) (λ_ => ?_)⟩
  · dsimp only
    generalize atrV s i = u
    refine br_decide (λ_ => fin _) (λg1 => br_decide (λ_ => fin _) (λg2 => ?_))
    obtain ⟨v, rfl⟩ : ∃ v : Nat, u = v + 48 := ⟨(u - 48).toNat, by omega⟩
    exact ⟨⟨by omega, by omega⟩, ⟨by omega, by omega⟩, ⟨by omega, by omega⟩, ⟨by omega, by omega⟩, ⟨i + 1, n * 10 + v⟩, ⟨h1, by dsimp only; omega, by dsimp only; rw [hp2]; omega⟩, ⟨rfl, by congr 1; dsimp only; omega, rfl, fo_tv⟩, Ent.pick [0] rfl rfl, show s.size / 2 - (i + 1) < s.size / 2 - i by omega⟩
  · generalize hq : decide ((n : Int) > 2147483647) = bq
    cases bq with
    | true => rw [br_true]; exact fin _
    | false =>
      have hq := fo_od0 hq
      rw [br_false]
      exact ⟨ky_ok, rfl, ⟨n⟩, rfl, rfl, by dsimp only; omega, fo_tv, λy _ => br_intro (λ_ => fin _) (λ_ => fin _)⟩
theorem ir_ok : fo_k 106 irC := fo 49 Tryz.func106 (λ_ _ => [(2, 5, .qo (mdN 2)), (5, 3, .qo (dvN 2)), (7, 2, .c atrC [] []), (11, 4, .c kyC [] [])]) [] irInv fo_i fo_o [] ir_vc
end
section
open Go
set_option maxHeartbeats 1000000
structure StnX where
  r : Row
  cs : List Value
  b : Nat
  o : Nat
  us : List Value
abbrev stnC (e : TypeId) (k : Nat) : Con where
  X := StnX
  Y := Row
  args x := [.pointer (some ⟨x.b, x.o, none⟩), .agg ⟨x.us⟩]
  pre x := [x.r.A]
  cond x := IsRow e k x.cs x.r ∧ x.r.a = some ⟨x.b, 0, none⟩ ∧ x.o + x.us.length ≤ x.cs.length ∧ ∀ u ∈ x.us, u.oneCell' = true
  rdc _ _ := True
  rel x y := IsRow e k (x.cs.take x.o ++ x.us ++ x.cs.drop (x.o + x.us.length)) y ∧ y.a = x.r.a ∧ y.n = x.r.n ∧ y.cap = x.r.cap
  val _ _ := .returned undef
  post _ y := [y.A]
theorem storen_ok {P : Program} {o : Oper} {a v : Operand} {t e : TypeId} {inf : TypeInfo} (k : Nat) (ho : o.op = .store t a v) (hi : P.info? t = some inf) (hk : inf.size = 4) : OpOk P o { stnC e k with cond := λx => (stnC e k).cond x ∧ x.us.length = 4 } := by
  refine ⟨λx F I w ρ ha hc hr hs => ?_⟩
  obtain ⟨r, cs, b, off, us⟩ := x
  obtain ⟨⟨hrow, hra, hlt, h1⟩, h4⟩ := hc
  dsimp only at hrow hra hlt h1 h4
  have hcl : (agg ⟨us⟩).cells = ⟨us⟩ := rfl
  simp only [ho, Op.operands, stnC] at ha
  have ha2 : ρ a = .pointer (some ⟨b, off, none⟩) ∧ ρ v = .agg ⟨us⟩ := by simpa using ha
  obtain ⟨hp, hu⟩ := ha2
  cases hrow with
  | nil h => cases hra
  | blk b' n cap sp hl hsz hle =>
    simp only [Option.some.injEq, Addr.mk.injEq, and_true] at hra
    subst hra
    have hblk : w.heap[b']? = some (.cells ⟨cs ++ sp⟩ e (0, 0)) := hs.cells (j := 0) rfl
    have hst := run_storeCells_at P b' off e us 0 ⟨cs ++ sp⟩ w hblk (by simp; omega) h1
    have hset : (cs ++ sp).take off ++ us ++ (cs ++ sp).drop (off + us.length) = cs.take off ++ us ++ cs.drop (off + us.length) ++ sp := by
      rw [List.take_append_of_le_length (by omega), List.drop_append_of_le_length (by omega)]
      simp
    simp only [Nat.add_zero] at hst
    rw [hset] at hst
    have hlen : (cs.take off ++ us ++ cs.drop (off + us.length)).length = cs.length := by simp; omega
    refine ⟨⟨some ⟨b', 0, none⟩, n, cap, .cells b' (cs.take off ++ us ++ cs.drop (off + us.length) ++ sp) e⟩, I, w.setRow b' ⟨cs.take off ++ us ++ cs.drop (off + us.length) ++ sp⟩, undef, ⟨.blk b' n cap sp (by rw [hlen]; exact hl) (by rw [fo_la, hlen, ← fo_la]; exact hsz) hle, rfl, rfl, rfl⟩, .inr ⟨?_, rfl⟩, rfl, Imm.le_refl I, ?_, ⟨rfl, rfl⟩⟩
    · have hz : us.length = inf.size := h4.trans hk.symm
      simp [execOp, ho, hp, hu, Instr.storeAt, Instr.sureAddr, storeVar, sizeOf, typeInfo, hi, hcl, hz, hst]
    · have := hs.setRow (j := 0) (b := b') (vs := cs ++ sp) (t := e) (vs' := cs.take off ++ us ++ cs.drop (off + us.length) ++ sp) rfl
      simpa [stnC, upd0] using this
abbrev st4C (e : TypeId) (k : Nat) : Con := { stnC e k with cond := λx => (stnC e k).cond x ∧ x.us.length = 4 }
def rho0 (b : Nat) (left : Int) : Atom := .cells b [.slice none 0 0, .int .i64 left] 159
abbrev rnwC : Con where
  X := Unit
  Y := Nat
  args _ := [.int .i64 10000]
  pre _ := []
  cond _ := True
  rdc _ _ := True
  rel _ _ := True
  val _ y := .returned (.pointer (some ⟨y, 0, none⟩))
  post _ y := [rho0 y 10000]
theorem rnw_vc (x : PUnit) (F : Atom) (hc : rnwC.cond x) (hr : rnwC.rdc x F) :
 ∀(a : Nat), Done rnwC x F (fo_rt (q263 a)) [(0, F), (2040, fo_cl a q169 159)] := by
  delta q13 q263 q169 fo_vi fo_vp fo_vl fo_cl fo_rt
  exact λb => ⟨b, fo_tv, rfl, Ent.pick [2040, 0] rfl rfl⟩
theorem rnw_ok : fo_k 57 rnwC := fo 8 Tryz.func57 (λ_ _ => [(1, 4, .n 2040)]) [] fo_i fo_i fo_o [] rnw_vc
structure HsX where
  b : Nat
  a : Option Addr
  n : Nat
  c : Nat
abbrev hsC : Con where
  X := HsX
  Y := Unit
  args x := [.pointer (some ⟨x.b, 0, none⟩), .int .i64 0]
  pre _ := []
  cond _ := True
  rdc x F := Look F ⟨x.b, 0, none⟩ (.slice x.a x.n x.c)
  rel _ _ := True
  val x _ := .returned (.bool (decide (0 < x.n)))
  post _ _ := []
  rmono _ _ _ hs h := h.sub hs
theorem hs_vc (x : HsX) (F : Atom) (hc : hsC.cond x) (hr : hsC.rdc x F) :
 T46 F ⟨x.b, 0, none⟩ (λc b a => Done hsC x F (fo_rt (fo_vb (decide (0 < (b : Int))))) [(0, F)]) := by
  delta T46 fo_vb fo_vl fo_rt
  exact ⟨x.a, x.n, x.c, hr, (), fo_tv, retB (decide_eq_decide.2 (by omega)), Ent.pick [0] rfl rfl⟩
theorem hs_ok : fo_k 101 hsC := fo 16 Tryz.func101 (λ_ _ => [(1, 7, .q [.ex 0 .slice])]) [] fo_i fo_i fo_o [] hs_vc
def obL (p : Row) : List Value := [.int .i64 1, .int .i64 (-1), .int .i64 0, .int .i64 0, .int .i64 0, .slice p.a p.n p.cap, .slice none 0 0]
structure RhY where
  br : Nat
  cap : Nat
  sp : List Value
  pr : Row
def pCs (l : TVs) : List Value := l.flatMap λp => [.string p.1, .int .i64 4, .float .f64 0, .string p.2, .int .i64 0]
def rhR (l : TVs) (y : RhY) : Prop := IsRow 168 5 (pCs l) y.pr
def rhB (b : Nat) (left : Int) (l : TVs) (y : RhY) : List Atom := [.cells b [.slice (some ⟨y.br, 0, none⟩) 1 y.cap, .int .i64 left] 159, .cells y.br (.int .i64 1 :: .int .i64 (-1) :: .int .i64 0 :: .int .i64 0 :: .int .i64 0 :: .slice y.pr.a y.pr.n y.pr.cap :: .slice none 0 0 :: y.sp) 164, y.pr.A]
def rhA (b : Nat) (left : Int) (l : TVs) : Atom := exA (rhR l) (rhB b left l)
structure RaX where
  b : Nat
  left : Int
abbrev radC : Con where
  X := RaX
  Y := RhY
  args x := [.pointer (some ⟨x.b, 0, none⟩), .agg #[.int .i64 1, .int .i64 (-1), .int .i64 0, .int .i64 0, .int .i64 0, .slice none 0 0, .slice none 0 0], .int .i64 1]
  pre x := [rho0 x.b x.left]
  cond x := 1 ≤ x.left ∧ x.left ≤ 10000
  rdc _ _ := True
  rel _ y := y.pr = nilRow
  val _ _ := .returned (.tuple #[.int .i64 0, .int .i64 0])
  post x y := [.cells x.b [.slice (some ⟨y.br, 0, none⟩) 1 y.cap, .int .i64 (x.left - 1)] 159, .cells y.br (.int .i64 1 :: .int .i64 (-1) :: .int .i64 0 :: .int .i64 0 :: .int .i64 0 :: .slice none 0 0 :: .slice none 0 0 :: y.sp) 164]
abbrev rp7 (j : Nat) : List LH := [.aq j, .aq j, .aq j, .aq j, .aq j, .aq j, .aq j]
abbrev q62 : List Value := [fo_vi 1, fo_vi (-1), fo_vi 0, fo_vi 0, fo_vi 0, fo_vl none 0 0, fo_vl none 0 0]
theorem rad_vc (x : RaX) (F : Atom) (hc : radC.cond x) (hr : radC.rdc x F) :
 ∀(d : Nat), fo_sm x.b 1 ∧ fo_Bd (1 > x.left) (Done radC x F q377 [(0, fo_cl x.b [fo_vl none 0 0, fo_vi x.left] 159), (1, F), (900, fo_cl d q62 164)]) (fo_sm x.b 1 ∧ fo_rI (x.left - 1) ∧ fo_sm x.b 1 ∧ true = true ∧ fo_sm x.b 0 ∧ fo_s5 d (fo_sm d 5 ∧ fo_sm d 6 ∧ ∀(c : Nat), fo_O4 (opIn Tryz.f102 4 7) (apB (164 : TypeId) 7 88) (λb => IsRow 164 7 b.cs b.r ∧ b.ys.length = b.m * 7 ∧ q134 b ∧ (b.r.n + b.m) * 88 ≤ 140737488355328 ∧ b.r.n + b.m ≤ 9223372036854775807 ∧ 0 < b.m ∧ (b.a = none → b.m = 0)) q132 (λb a => (b.cs ++ b.ys ++ a.sp).length = a.cap * 7 ∧ b.r.n + b.m ≤ a.cap) [fo_vl none 0 0, fo_vl (q13 c) 1 1] [fo_em] (fo_aR [(0, fo_cl x.b [fo_vl none 0 0, fo_vi (x.left - 1)] 159), (1, F), (900, fo_cl d q62 164), (910, fo_cl c q62 164)] [999]) (λb a => fo_sm x.b 0 ∧ fo_sm x.b 0 ∧ fo_rI ((↑(b.r.n + b.m) : Int) - 1) ∧ Done radC x F (q344 b) [(0, fo_cl x.b [fo_vl (some ⟨a.b, 0, none⟩) (b.r.n + b.m) a.cap, fo_vi (x.left - 1)] 159), (1, F), (900, fo_cl d q62 164), (910, fo_cl c q62 164), (920, fo_cl a.b (b.cs ++ b.ys ++ a.sp) 164), (999, fo_em)]))) := by
  delta q377 q62 q134 q318 q132 q13 q344 fo_aR fo_sm fo_rI fo_s5 fo_O4 fo_vi fo_vl fo_cl fo_em fo_Bd fo_rt
  obtain ⟨b, left⟩ := x
  obtain ⟨h1, h2⟩ := hc
  dsimp only at h1 h2 ⊢
  intro d
  refine ⟨⟨rfl, rfl⟩, br_decide (λh => absurd h (by omega)) (λ_ => ⟨⟨rfl, rfl⟩, ⟨by omega, by omega⟩, ⟨rfl, rfl⟩, rfl, ⟨rfl, rfl⟩, ⟨rfl, rfl⟩, ⟨rfl, rfl⟩, ⟨rfl, rfl⟩, ⟨rfl, rfl⟩, ⟨rfl, rfl⟩, ⟨rfl, rfl⟩, ⟨rfl, rfl⟩, λg => ⟨appendB_ok (append_ok (P := Tryz.prog) 7 88 rfl rfl rfl rfl rfl rfl rfl (by decide)), rfl, ⟨nilRow, [], some ⟨g, 0, none⟩, 1, 1, obL nilRow⟩, rfl, rfl, ⟨.nil rfl, rfl, λu hu => ?_, by dsimp only [nilRow]; omega, by dsimp only [nilRow]; omega, Nat.one_pos, by simp⟩, ?_, ?_⟩⟩)⟩
  · have hu : u ∈ obL nilRow := hu
    unfold obL at hu
    simp only [List.mem_cons, List.not_mem_nil, or_false] at hu
    rcases hu with h | h | h | h | h | h | h <;> subst h <;> rfl
  · intro a ha
    cases ha
    exact Seg.rest (j := 910) (by simp) (Seg.cells (λj u hj => by rw [fo_za]; exact hj))
  · rintro ⟨br, cap, sp⟩ ⟨g1, g2⟩
    exact ⟨⟨rfl, rfl⟩, ⟨rfl, rfl⟩, ⟨by dsimp only [nilRow]; omega, by dsimp only [nilRow]; omega⟩, ⟨br, cap, sp, nilRow⟩, rfl, rfl, Ent.pick [0, 920, 1] rfl rfl⟩
theorem rad_ok : fo_k 102 radC := fo 39 Tryz.func102 (λ_ _ => [(0, 0, .n 900), (1, 4, .q [.aq 0]), (3, 4, .q [.aq 0]), (3, 9, .w [.aq 0]), (4, 4, .q [.aq 0]), (4, 5, .q (rp7 900)), (4, 6, .n 910), (4, 7, .o (apB 164 7 88) [999] [920]), (4, 10, .w [.aq 0]), (5, 3, .q [.aq 0])]) [] fo_i fo_i fo_o [] rad_vc
abbrev rplC : Con where
  X := RaX
  Y := Unit
  args x := [.pointer (some ⟨x.b, 0, none⟩), .int .i64 (-1)]
  pre x := [rho0 x.b x.left]
  cond x := 1 ≤ x.left ∧ x.left ≤ 10000
  rdc _ _ := True
  rel _ _ := True
  val _ _ := .returned (.tuple #[.int .i64 0, .int .i64 0])
  post x _ := [rhA x.b (x.left - 1) []]
theorem rpl_vc (x : RaX) (F : Atom) (hc : rplC.cond x) (hr : rplC.rdc x F) :
 fo_C6 102 radC (λb => 1 ≤ b.left ∧ b.left ≤ 10000) (λ_ a => a.pr = nilRow) [fo_vp (some ⟨x.b, 0, none⟩), agg ⟨q62⟩, fo_vi 1] [fo_cl x.b [fo_vl none 0 0, fo_vi x.left] 159] (λb a => Done rplC x F q275 [(0, fo_cl b.b [fo_vl (some ⟨a.br, 0, none⟩) 1 a.cap, fo_vi (b.left - 1)] 159), (1, F), (4001, fo_cl a.br (fo_vi 1 :: fo_vi (-1) :: fo_vi 0 :: fo_vi 0 :: fo_vi 0 :: fo_vl none 0 0 :: fo_vl none 0 0 :: a.sp) 164)]) := by
  delta q62 q275 fo_C6 fo_vi fo_vp fo_vl fo_cl fo_rt
  exact ⟨rad_ok, rfl, ⟨x.b, x.left⟩, rfl, rfl, hc, fo_tv, λy _ => ⟨(), fo_tv, rfl, Ent.ex [1] [0, 4001, 999] (R := rhR []) (B := rhB x.b (x.left - 1) []) ⟨y.br, y.cap, y.sp, nilRow⟩ (.nil rfl) rfl rfl rfl⟩⟩
theorem rpl_ok : fo_k 58 rplC := fo 20 Tryz.func58 (λ_ _ => [(3, 3, .c radC [0] [0, 4001])]) [] fo_i fo_i fo_o [] rpl_vc
structure RrX where
  b : Nat
  s : ByteArray
abbrev rriC : Con where
  X := RrX
  Y := Unit
  args x := [.pointer (some ⟨x.b, 0, none⟩), .agg #[.int .i64 4, .float .f64 0, .string x.s, .int .i64 0]]
  pre _ := []
  cond x := x.s.size % 2 = 0
  rdc _ _ := True
  rel _ _ := True
  val _ _ := .returned (.bool true)
  post _ _ := []
theorem rri_vc (x : RrX) (F : Atom) (hc : rriC.cond x) (hr : rriC.rdc x F) :
 ∀(d : Nat), fo_sm d 1 ∧ fo_C0 159 smC q288 (λc b => fo_sm d 0 ∧ fo_sm d 3 ∧ fo_sm d 2 ∧ T143 (opIn Tryz.f103 11 10) [fo_vi ↑x.s.size, fo_vi 2] (λa => Done rriC x F (fo_rt (fo_vb ((↑(a % 2) : Int) == 0))) [(0, F), (1000, fo_cl d [fo_vi 4, float f64 0, fo_vs x.s, fo_vi 0] 30)])) := by
  delta q288 T143 fo_sm fo_C0 fo_vi fo_vs fo_vb fo_cl fo_rt
  have hc : x.s.size % 2 = 0 := hc
  intro b
  refine ⟨⟨rfl, rfl⟩, sm4_ok, rfl, (), rfl, rfl, fo_tv, fo_tv, λ_ _ => ⟨⟨rfl, rfl⟩, ⟨rfl, rfl⟩, ⟨rfl, rfl⟩, mdn_ok rfl, x.s.size, rfl, by decide, (), fo_tv, retB ?_, Ent.pick [0] rfl rfl⟩⟩
  show (((x.s.size % 2 : Nat) : Int) == 0) = true
  rw [hc] <;> rfl
theorem rri_ok : fo_k 103 rriC := fo 95 Tryz.func103 (λ_ _ => [(0, 0, .n 1000), (1, 1, .q [.aq 1000]), (1, 2, .c smC [] []), (2, 1, .q [.aq 1000]), (11, 3, .q [.aq 1000]), (11, 8, .q [.aq 1000]), (11, 10, .qo (mdN 2))]) [] fo_i fo_i fo_o [] rri_vc
end
section
open Go
set_option maxHeartbeats 1000000
theorem pCs_length (l : TVs) : (pCs l).length = l.length * 5 := by
  unfold pCs
  induction l with
  | nil => rfl
  | cons a l ih => rw [List.flatMap_cons, fo_la, ih, fo_lc]; simp; omega
theorem pCs_app (l m : TVs) : pCs (l ++ m) = pCs l ++ pCs m := by unfold pCs; rw [List.flatMap_append]
theorem pCs_one {l : TVs} {u : Value} (h : u ∈ pCs l) : u.oneCell' = true := by
  unfold pCs at h
  obtain ⟨f, _, hf⟩ := List.mem_flatMap.1 h
  simp only [List.mem_cons, List.not_mem_nil, or_false] at hf
  rcases hf with h | h | h | h | h <;> subst h <;> rfl
theorem pCs_get {l : TVs} {j : Nat} {f : ByteArray × ByteArray} (h : l[j]? = some f) : ∀ (i : Nat) (v : Value), ([.string f.1, .int .i64 4, .float .f64 0, .string f.2, .int .i64 0] : List Value)[i]? = some v → (pCs l)[5 * j + i]? = some v := by
  unfold pCs
  induction l generalizing j with
  | nil => simp at h
  | cons a l ih =>
    intro i v hv
    rw [List.flatMap_cons]
    have hi : i < 5 := (fo_gs.1 hv).1
    cases j with
    | zero => simp at h; subst h; rw [Nat.mul_zero, fo_za, fo_gl hi]; exact hv
    | succ j =>
      have := ih (j := j) (by simpa using h) i v hv
      rw [fo_gr2 (by simp; omega)]
      rw [show 5 * (j + 1) + i - ([string a.1, .int .i64 4, .float .f64 0, .string a.2, .int .i64 0] : List Value).length = 5 * j + i by simp; omega]
      exact this
theorem pCs_set : ∀ {l : TVs} {j : Nat} {k u v : ByteArray}, l[j]? = some (k, u) → (pCs l).take (j * 5 + 1) ++ [.int .i64 4, .float .f64 0, .string v, .int .i64 0] ++ (pCs l).drop (j * 5 + 1 + 4) = pCs (l.set j (k, v))
  | [], j, k, u, v, h => by cases h
  | a :: l, 0, k, u, v, h => by
    cases h
    rfl
  | a :: l, j + 1, k, u, v, h => by
    have ih := pCs_set (l := l) (j := j) (k := k) (u := u) (v := v) h
    have e : pCs (a :: l) = [.string a.1, .int .i64 4, .float .f64 0, .string a.2, .int .i64 0] ++ pCs l := rfl
    have e2 : pCs ((a :: l).set (j + 1) (k, v)) = [.string a.1, .int .i64 4, .float .f64 0, .string a.2, .int .i64 0] ++ pCs (l.set j (k, v)) := rfl
    have aux : ∀ (A B m : List Value) (n : Nat), A.length = 5 → (A ++ B).take (5 + n) ++ m ++ (A ++ B).drop (5 + (n + 4)) = A ++ (B.take n ++ m ++ B.drop (n + 4)) := λA B m n h => by
      rw [List.take_append, List.drop_append, List.take_of_length_le (by omega), List.drop_eq_nil_of_le (by omega), h, Nat.add_sub_cancel_left, Nat.add_sub_cancel_left]
      simp
    rw [e, e2, ← ih, show (j + 1) * 5 + 1 = 5 + (j * 5 + 1) by omega, show 5 + (j * 5 + 1) + 4 = 5 + (j * 5 + 1 + 4) by omega]
    exact aux _ _ _ _ rfl
def pixV (k : ByteArray) : TVs → Option Nat
  | [] => none
  | (j, _) :: r => bif bEq j k then some 0 else (pixV k r).map (· + 1)
def pixI (o : Option Nat) : Int := match o with | some i => (i : Int) | none => -1
theorem pix_first {k : ByteArray} : ∀ {l : TVs} {i : Nat} {p : ByteArray × ByteArray}, l[i]? = some p → bEq p.1 k = true → (∀ (j : Nat) (q : ByteArray × ByteArray), j < i → l[j]? = some q → bEq q.1 k = false) → pixV k l = some i
  | [], i, p, h, _, _ => by cases h
  | (a, b) :: l, 0, p, h, h1, _ => by
    cases h
    rw [pixV, h1] <;> rfl
  | (a, b) :: l, i + 1, p, h, h1, h2 => by
    have h0 := h2 0 (a, b) (Nat.succ_pos _) rfl
    have := pix_first (l := l) (i := i) h h1 λj q hj hq => h2 (j + 1) q (Nat.succ_lt_succ hj) hq
    rw [pixV, h0, fo_cf, this] <;> rfl
theorem pix_none {k : ByteArray} : ∀ {l : TVs}, (∀ (j : Nat) (q : ByteArray × ByteArray), l[j]? = some q → bEq q.1 k = false) → pixV k l = none
  | [], _ => rfl
  | (a, b) :: l, h => by
    rw [pixV, h 0 (a, b) rfl, fo_cf, pix_none (l := l) λj q hq => h (j + 1) q hq] <;> rfl
theorem pix_put {k v : ByteArray} : ∀ {l : TVs}, (match pixV k l with | some i => ∃ u, l[i]? = some (k, u) ∧ putV k v l = l.set i (k, v) | none => putV k v l = l ++ [(k, v)])
  | [] => rfl
  | (a, b) :: l => by
    have ih := pix_put (k := k) (v := v) (l := l)
    rw [pixV, putV]
    cases hb : bEq a k with
    | true =>
      have e : a = k := (bEq_eq a k).1 hb
      subst e
      have hb : (a.toList == a.toList) = true := hb
      rw [hb]
      exact ⟨b, rfl, rfl⟩
    | false =>
      have hb : (a.toList == k.toList) = false := hb
      rw [hb, fo_cf, fo_cf]
      revert ih
      cases pixV k l with
      | none => intro ih; exact congrArg ((a, b) :: ·) ih
      | some i => intro ⟨u, h1, h2⟩; exact ⟨u, h1, congrArg ((a, b) :: ·) h2⟩
structure RiY where
  br : Nat
  cap : Nat
  pa : Option Addr
  pn : Nat
  pc : Nat
structure RhIn (y : RiY) (b : Nat) (l : TVs) (F : Atom) : Prop where
  l0 : Look F ⟨b, 0, none⟩ (.slice (some ⟨y.br, 0, none⟩) 1 y.cap)
  c0 : Look F ⟨y.br, 0, none⟩ (.int .i64 1)
  c1 : Look F ⟨y.br, 1, none⟩ (.int .i64 (-1))
  c2 : Look F ⟨y.br, 2, none⟩ (.int .i64 0)
  c3 : Look F ⟨y.br, 3, none⟩ (.int .i64 0)
  c4 : Look F ⟨y.br, 4, none⟩ (.int .i64 0)
  c5 : Look F ⟨y.br, 5, none⟩ (.slice y.pa y.pn y.pc)
  c6 : Look F ⟨y.br, 6, none⟩ (.slice none 0 0)
  src : IsSrc 5 (pCs l) y.pa y.pn
  srd : Srcd F y.pa (pCs l)
theorem RhIn.sub {y : RiY} {b : Nat} {l : TVs} {A B : Atom} (hs : Sub A B) (h : RhIn y b l A) : RhIn y b l B := ⟨h.l0.sub hs, h.c0.sub hs, h.c1.sub hs, h.c2.sub hs, h.c3.sub hs, h.c4.sub hs, h.c5.sub hs, h.c6.sub hs, h.src, h.srd.sub hs⟩
def RhY.i (y : RhY) : RiY := ⟨y.br, y.cap, y.pr.a, y.pr.n, y.pr.cap⟩
structure PcX where
  y : RiY
  b : Nat
  l : TVs
  k : ByteArray
abbrev pcC : Con where
  X := PcX
  Y := Unit
  args x := [.pointer (some ⟨x.b, 0, none⟩), .int .i64 0, .string x.k]
  pre _ := []
  cond x := x.l.length ≤ 10000
  rdc x F := RhIn x.y x.b x.l F
  rel _ _ := True
  val x _ := .returned (.int .i64 (pixI (pixV x.k x.l)))
  post _ _ := []
  rmono _ _ _ hs h := h.sub hs
def pcInv (x : PcX) (F : Atom) : Nat → Option Inv := fun
  | 0 => some { X := Nat, P := λi => i ≤ x.y.pn ∧ ∀ j q, j < i → x.l[j]? = some q → bEq q.1 x.k = false, mu := λi => x.y.pn - i, lv := λi => [(0, .pointer (some ⟨x.b, 0, none⟩)), (1, .int .i64 0), (2, .string x.k), (7, .int .i64 i)], st := λ_ => [F] }
  | _ => none
def pcOv (x : PcX) (_F : Atom) : List (Nat × Nat × OH) := [(2, 4, .q [.ex 0 (.is (.slice (some ⟨x.y.br, 0, none⟩) 1 x.y.cap))]), (2, 8, .q [.ex 0 (.is (.slice x.y.pa x.y.pn x.y.pc))]), (4, 3, .q [.ex 0 (.is (.slice (some ⟨x.y.br, 0, none⟩) 1 x.y.cap))]), (4, 7, .q [.ex 0 (.is (.slice x.y.pa x.y.pn x.y.pc))]), (4, 9, .qo (ixQ 5)), (4, 11, .q [.ex 0 .str])]
def q177 (c : Nat) (x : PcX) := c ≤ x.y.pn ∧ ∀(b : Nat) (a : ByteArray × ByteArray), b < c → x.l[b]? = some a → bEq a.fst x.k = false
def q78 := (0 : Int) ≤ (0 : Int) ∧ 0 < (↑(1 : Nat) : Int)
def T152 (oo : Oper) (aa : List Value) (k0 : IxQX → Prop) := QOpOk Tryz.prog oo (ixQ 5) ∧ ∃ (z : IxQX), aa = (q116 z) ∧ (0 ≤ z.n ∧ z.n < z.len) ∧ k0 z
theorem pc_vc (x : PcX) (F : Atom) (hc : pcC.cond x) (hr : pcC.rdc x F) :
 (∃(c : Nat), q177 c x ∧ (fo_vp (some ⟨x.b, 0, none⟩) = fo_vp (some ⟨x.b, 0, none⟩) ∧ fo_vi 0 = fo_vi 0 ∧ fo_vs x.k = fo_vs x.k ∧ fo_vi 0 = fo_vi ↑c ∧ True) ∧ Ent [(0, F)] [(0, F)]) ∧ fo_vA λ(g : Nat) _ => q177 g x → Look F ⟨x.b, 0, none⟩ (fo_vl (some ⟨x.y.br, 0, none⟩) 1 x.y.cap) ∧ q78 ∧ Look F ⟨x.y.br, 5, none⟩ (fo_vl x.y.pa x.y.pn x.y.pc) ∧ fo_Bd ((g : Int) < (x.y.pn : Int)) (Look F ⟨x.b, 0, none⟩ (fo_vl (some ⟨x.y.br, 0, none⟩) 1 x.y.cap) ∧ q78 ∧ Look F ⟨x.y.br, 5, none⟩ (fo_vl x.y.pa x.y.pn x.y.pc) ∧ T152 (opIn Tryz.f107 4 9) [fo_vl x.y.pa x.y.pn x.y.pc, fo_vi ↑g] (λe => T25 F ⟨e.b, e.o + e.n.toNat * 5, none⟩ (λd => Br (d.toList == x.k.toList) (Done pcC x F (fo_rt (fo_vi ↑g)) [(0, F)]) (fo_rI ((g : Int) + (1 : Int)) ∧ ∃(c : Nat), q177 c x ∧ (fo_vp (some ⟨x.b, 0, none⟩) = fo_vp (some ⟨x.b, 0, none⟩) ∧ fo_vi 0 = fo_vi 0 ∧ fo_vs x.k = fo_vs x.k ∧ fo_vi ((g : Int) + (1 : Int)) = fo_vi ↑c ∧ True) ∧ Ent [(0, F)] [(0, F)] ∧ x.y.pn - c < x.y.pn - g)))) (Done pcC x F q79 [(0, F)]) := by
  delta q177 q78 q116 T152 T25 q79 fo_rI fo_vi fo_vs fo_vp fo_vl fo_Bd fo_rt fo_vA
  obtain ⟨⟨br, cap, pa, pn, pc⟩, b, l, k⟩ := x
  have hl : l.length ≤ 10000 := hc
  have hr : RhIn ⟨br, cap, pa, pn, pc⟩ b l F := hr
  have hsrc := hr.src
  have hsrd := hr.srd
  dsimp only at hsrc hsrd ⊢
  have hn := hsrc.len
  rw [pCs_length] at hn
  have fin : ∀ o : Option Nat, pixV k l = o → Done pcC ⟨⟨br, cap, pa, pn, pc⟩, b, l, k⟩ F (returned (int .i64 (pixI o))) [(0, F)] := λo h => ⟨(), fo_tv, by subst h; rfl, Ent.pick [0] rfl rfl⟩
  refine ⟨⟨0, ⟨fo_zl _, λj q h => absurd h (Nat.not_lt_zero _)⟩, ⟨rfl, rfl, rfl, rfl, fo_tv⟩, Ent.pick [0] rfl rfl⟩, ?_⟩
  rintro i js ⟨h1, h2⟩
  refine ⟨hr.l0, ⟨by omega, by omega⟩, hr.c5, br_decide (λh => ?_) (λh => fin none (pix_none λj q hq => h2 j q (by have := (fo_gs.1 hq).1; omega) hq))⟩
  have hlt : i < l.length := by omega
  obtain ⟨c, o, rfl⟩ := hsrc.some (by omega)
  obtain ⟨q, hq⟩ : ∃ q, l[i]? = some q := ⟨l[i], fo_ge hlt⟩
  have hg := pCs_get hq 0 (.string q.1) rfl
  refine ⟨hr.l0, ⟨by omega, by omega⟩, hr.c5, ixq_ok 5 rfl rfl rfl rfl, ⟨c, o, pn, pc, i⟩, rfl, ⟨by dsimp only; omega, h⟩, q.1, ?_, br_intro (λe => fin (some i) (pix_first hq e h2)) (λe => ⟨⟨by omega, by omega⟩, i + 1, ⟨by omega, λj q2 hj hq2 => ?_⟩, ⟨rfl, rfl, rfl, rfl, fo_tv⟩, Ent.pick [0] rfl rfl, by omega⟩)⟩
  · have := Srcd.look hsrd hg
    dsimp only
    rw [fo_tn, Nat.mul_comm i 5]
    exact this
  · by_cases e2 : j = i
    · subst e2
      rw [hq] at hq2
      cases hq2
      exact e
    · exact h2 j q2 (by omega) hq2
theorem pc_ok : fo_k 107 pcC := fo 36 Tryz.func107 pcOv [] pcInv fo_i fo_o [] pc_vc
end
section
open Go
set_option maxHeartbeats 1000000
theorem rhIn_of {b : Nat} {left : Int} {l : TVs} {y : RhY} {S : St} {t : List Nat} (h : rhR l y) (h0 : 0 ∉ t) (h1 : 1 ∉ t) (h2 : 2 ∉ t) (eNul : gt S 0 = .cells b [.slice (some ⟨y.br, 0, none⟩) 1 y.cap, .int .i64 left] 159)
    (e1 : gt S 1 = .cells y.br (.int .i64 1 :: .int .i64 (-1) :: .int .i64 0 :: .int .i64 0 :: .int .i64 0 :: .slice y.pr.a y.pr.n y.pr.cap :: .slice none 0 0 :: y.sp) 164) (e2 : gt S 2 = y.pr.A) : RhIn y.i b l (.pred (rest S t)) where
  l0 := Look.rest (j := 0) h0 (by rw [eNul]; exact Look.cells rfl)
  c0 := Look.rest (j := 1) h1 (by rw [e1]; exact Look.cells rfl)
  c1 := Look.rest (j := 1) h1 (by rw [e1]; exact Look.cells rfl)
  c2 := Look.rest (j := 1) h1 (by rw [e1]; exact Look.cells rfl)
  c3 := Look.rest (j := 1) h1 (by rw [e1]; exact Look.cells rfl)
  c4 := Look.rest (j := 1) h1 (by rw [e1]; exact Look.cells rfl)
  c5 := Look.rest (j := 1) h1 (by rw [e1]; exact Look.cells rfl)
  c6 := Look.rest (j := 1) h1 (by rw [e1]; exact Look.cells rfl)
  src := h.src
  srd := row_srcd 2 h2 e2 h
structure RpX where
  b : Nat
  left : Int
  l : TVs
  y : RhY
  k : ByteArray
  v : ByteArray
structure RpX.ok (x : RpX) : Prop where
  h1 : 1 ≤ x.left
  h2 : x.left ≤ 10000
  hk : x.k.size ≤ 1048576
  hv : x.v.size % 2 = 0
  hl : x.l.length ≤ 10000
def lfr (k : ByteArray) (l : TVs) (left : Int) : Int := bif (pixV k l).isSome then left else left - 1
abbrev rpuC : Con where
  X := RpX
  Y := RhY
  args x := [.pointer (some ⟨x.b, 0, none⟩), .int .i64 0, .string x.k, .agg #[.int .i64 4, .float .f64 0, .string x.v, .int .i64 0]]
  pre x := rhB x.b x.left x.l x.y
  cond x := x.ok ∧ rhR x.l x.y
  rdc _ _ := True
  rel x y := rhR (putV x.k x.v x.l) y
  val _ _ := .returned (.int .i64 0)
  post x y := rhB x.b (lfr x.k x.l x.left) (putV x.k x.v x.l) y
def T153 := fo_C2 101 hsC (λ_ => True) (λw1 w2 => Look w2 ⟨w1.b, 0, none⟩ (fo_vl w1.a w1.n w1.c))
abbrev q121 (x : RpX) := fo_vi 1 :: fo_vi (-1) :: fo_vi 0 :: fo_vi 0 :: fo_vi 0 :: fo_vl x.y.pr.a x.y.pr.n x.y.pr.cap :: fo_vl none 0 0 :: x.y.sp
abbrev q159 (x : RpX) : List Value := [fo_vi 4, float f64 0, fo_vs x.v, fo_vi 0]
abbrev q23 (x : RpX) (F : Atom) (l : Nat) := [(0, fo_cl x.b [fo_vl (some ⟨x.y.br, 0, none⟩) 1 x.y.cap, fo_vi x.left] 159), (1, fo_cl x.y.br (q121 x) 164), (2, x.y.pr.A), (3, F), (900, fo_cl l (q159 x) 30)]
def T154 := fo_C1 106 irC q135
def T155 := fo_C2 107 pcC (λw0 => List.length w0.l ≤ 10000) (λw0 w1 => RhIn w0.y w0.b w0.l w1)
abbrev q369 (x : RpX) : List Value := [fo_vl (some ⟨x.y.br, 0, none⟩) 1 x.y.cap, fo_vi (x.left - 1)]
theorem rpu_vc (x : RpX) (F : Atom) (hc : rpuC.cond x) (hr : rpuC.rdc x F) :
 ∀(l : Nat), T153 [fo_vp (some ⟨x.b, 0, none⟩), fo_vi 0] (fo_aR (q23 x F l) []) (λk j => Br (!decide (0 < k.n)) (Done rpuC x F (fo_rt (fo_vi 3)) (q23 x F l)) (fo_sm l 0 ∧ fo_sm l 1 ∧ fo_sm l 2 ∧ fo_sm l 3 ∧ fo_C1 103 rriC (λi => i.s.size.mod 2 = 0) [fo_vp (some ⟨x.b, 0, none⟩), agg ⟨q159 x⟩] (λi h => fo_sm x.b 0 ∧ q78 ∧ fo_sm x.y.br 0 ∧ T154 [fo_vs x.k] (λg f => T155 [fo_vp (some ⟨x.b, 0, none⟩), fo_vi 0, fo_vs x.k] (fo_aR (q23 x F l) []) (λe d => fo_Bd (pixI (pixV e.k e.l) ≥ 0) (true = true ∧ fo_sm x.b 0 ∧ q78 ∧ fo_sm x.y.br 5 ∧ fo_sm l 0 ∧ fo_sm l 1 ∧ fo_sm l 2 ∧ fo_sm l 3 ∧ T152 (opIn Tryz.f60 20 10) [fo_vl x.y.pr.a x.y.pr.n x.y.pr.cap, fo_vi (pixI (pixV e.k e.l))] (λc => fo_O6 (opIn Tryz.f60 20 12) (st4C (168 : TypeId) 5) (λb => (IsRow 168 5 b.cs b.r ∧ b.r.a = some ⟨b.b, 0, none⟩ ∧ b.o + b.us.length ≤ b.cs.length ∧ ∀(a : Value), a ∈ b.us → a.oneCell' = true) ∧ b.us.length = 4) (λb a => IsRow 168 5 (List.take b.o b.cs ++ b.us ++ List.drop (b.o + b.us.length) b.cs) a ∧ a.a = b.r.a ∧ a.n = b.r.n ∧ a.cap = b.r.cap) [fo_vp (some ⟨c.b, c.o + c.n.toNat * 5 + 1, none⟩), agg ⟨q159 x⟩] [x.y.pr.A] (λb a => Done rpuC x F q278 [(0, fo_cl x.b [fo_vl (some ⟨x.y.br, 0, none⟩) 1 x.y.cap, fo_vi x.left] 159), (1, fo_cl x.y.br (q121 x) 164), (2, a.A), (3, F), (900, fo_cl l (q159 x) 30)]))) (fo_sm x.b 1 ∧ Br (x.left == 0) (Done rpuC x F (fo_rt (fo_vi 112)) (q23 x F l)) (fo_sm x.b 1 ∧ fo_rI (x.left - 1) ∧ fo_sm x.b 1 ∧ true = true ∧ fo_sm x.b 0 ∧ fo_sm x.b 0 ∧ q78 ∧ fo_sm x.y.br 5 ∧ fo_sm l 0 ∧ fo_sm l 1 ∧ fo_sm l 2 ∧ fo_sm l 3 ∧ ∀(c : Nat), fo_O4 (opIn Tryz.f60 25 17) (apC (168 : TypeId) 5 56) (λb => IsRow 168 5 b.cs b.r ∧ b.ys.length = b.m * 5 ∧ q134 b ∧ (b.r.n + b.m) * 56 ≤ 140737488355328 ∧ b.r.n + b.m ≤ 9223372036854775807 ∧ q247 b) q132 (λb a => IsRow 168 5 (b.cs ++ b.ys) a ∧ a.n = b.r.n + b.m ∧ (b.m = 0 → a = b.r)) [fo_vl x.y.pr.a x.y.pr.n x.y.pr.cap, fo_vl (q13 c) 1 1] [x.y.pr.A] (fo_aR [(0, fo_cl x.b (q369 x) 159), (1, fo_cl x.y.br (q121 x) 164), (2, x.y.pr.A), (3, F), (900, fo_cl l (q159 x) 30), (910, fo_cl c [fo_vs x.k, fo_vi 4, float f64 0, fo_vs x.v, fo_vi 0] 168)] [2]) (λb a => q78 ∧ fo_sm x.y.br 5 ∧ Done rpuC x F q278 [(0, fo_cl x.b (q369 x) 159), (1, fo_cl x.y.br (fo_vi 1 :: fo_vi (-1) :: fo_vi 0 :: fo_vi 0 :: fo_vi 0 :: fo_vl a.a a.n a.cap :: fo_vl none 0 0 :: x.y.sp) 164), (2, a.A), (3, F), (900, fo_cl l (q159 x) 30), (910, fo_cl c [fo_vs x.k, fo_vi 4, float f64 0, fo_vs x.v, fo_vi 0] 168)])))))))) := by
  delta T153 q121 q159 q23 q78 q135 T154 T155 q116 T152 q278 q134 q247 q318 q132 q13 q369 fo_aR fo_sm fo_rI fo_C1 fo_C2 fo_O4 fo_O6 fo_vi fo_vs fo_vp fo_vl fo_cl fo_Bd fo_rt
  obtain ⟨b, left, l, ⟨br, cap, sp, pr⟩, k, v⟩ := x
  obtain ⟨⟨h1, h2, h3, h4, h5⟩, hR⟩ := hc
  have hR : IsRow 168 5 (pCs l) pr := hR
  dsimp only at h1 h2 h3 h4 h5 ⊢
  have hn := hR.len
  rw [pCs_length] at hn
  have hput := pix_put (k := k) (v := v) (l := l)
  have hlf : lfr k l left = bif (pixV k l).isSome then left else left - 1 := rfl
  intro d
  refine ⟨hs_ok, rfl, ⟨b, some ⟨br, 0, none⟩, 1, cap⟩, rfl, rfl, fo_tv, Look.rest (j := 0) (by simp) (Look.cells rfl), λ_ _ => br_intro (λq => by cases q) (λ_ => ⟨⟨rfl, rfl⟩, ⟨rfl, rfl⟩, ⟨rfl, rfl⟩, ⟨rfl, rfl⟩, rri_ok, rfl, ⟨b, v⟩, rfl, rfl, h4, fo_tv, λ_ _ => ⟨⟨rfl, rfl⟩, ⟨by omega, by omega⟩, ⟨rfl, rfl⟩, ir_ok, rfl, ⟨k⟩, rfl, rfl, h3, fo_tv, λ_ _ => ⟨pc_ok, rfl, ⟨⟨br, cap, pr.a, pr.n, pr.cap⟩, b, l, k⟩, rfl, rfl, h5, rhIn_of (y := ⟨br, cap, sp, pr⟩) hR (by simp) (by simp) (by simp) rfl rfl rfl, λ_ _ => ?_⟩⟩⟩)⟩
  dsimp only
  revert hput hlf
  generalize pixV k l = o
  intro hput hlf
  cases o with
  | some i =>
    obtain ⟨u, hu, hpv⟩ := hput
    have hil := (fo_gs.1 hu).1
    obtain ⟨c, hpa⟩ := hR.at0 (by omega)
    refine br_intro (λ_ => ⟨rfl, ⟨rfl, rfl⟩, ⟨by omega, by omega⟩, ⟨rfl, rfl⟩, ⟨rfl, rfl⟩, ⟨rfl, rfl⟩, ⟨rfl, rfl⟩, ⟨rfl, rfl⟩, ixq_ok 5 rfl rfl rfl rfl, ⟨c, 0, pr.n, pr.cap, i⟩, by rw [hpa] <;> rfl, ⟨by dsimp only; omega, by dsimp only; omega⟩, storen_ok 5 rfl rfl rfl, rfl, ⟨pr, pCs l, c, i * 5 + 1, [.int .i64 4, .float .f64 0, .string v, .int .i64 0]⟩, ?_, rfl, ⟨⟨hR, hpa, by rw [pCs_length]; simp only [fo_lc, List.length_nil]; omega, λw hw => ?_⟩, rfl⟩, fo_tv, ?_⟩) (λq => absurd q ?_)
    · dsimp only
      rw [fo_tn, fo_za]
    · simp only [List.mem_cons, List.not_mem_nil, or_false] at hw
      rcases hw with h | h | h | h <;> subst h <;> rfl
    · rintro y ⟨g1, g2, g3, g4⟩
      have g1 : IsRow 168 5 ((pCs l).take (i * 5 + 1) ++ [.int .i64 4, .float .f64 0, .string v, .int .i64 0] ++ (pCs l).drop (i * 5 + 1 + 4)) y := g1
      rw [pCs_set hu, ← hpv] at g1
      have g2 : y.a = pr.a := g2
      have g3 : y.n = pr.n := g3
      have g4 : y.cap = pr.cap := g4
      have hlf : lfr k l left = left := hlf
      exact ⟨⟨br, cap, sp, y⟩, g1, rfl, Ent.pick [0, 1, 2, 3] rfl (by simp only [rpuC, rhB, hlf, g2, g3, g4]; rfl)⟩
    · show ¬ (decide ((i : Int) ≥ 0) = false)
      rw [fo_dt (show (i : Int) ≥ 0 by omega)]
      exact λh => by cases h
  | none =>
    have hpv : putV k v l = l ++ [(k, v)] := hput
    have hlf : lfr k l left = left - 1 := hlf
    refine br_intro (λq => absurd q (by decide)) (λ_ => ⟨⟨rfl, rfl⟩, br_intro (λq => ?_) (λ_ => ⟨⟨rfl, rfl⟩, ⟨by omega, by omega⟩, ⟨rfl, rfl⟩, rfl, ⟨rfl, rfl⟩, ⟨rfl, rfl⟩, ⟨by omega, by omega⟩, ⟨rfl, rfl⟩, ⟨rfl, rfl⟩, ⟨rfl, rfl⟩, ⟨rfl, rfl⟩, ⟨rfl, rfl⟩, λg => ⟨append_ok (P := Tryz.prog) 5 56 rfl rfl rfl rfl rfl rfl rfl (by decide), rfl, ⟨pr, pCs l, some ⟨g, 0, none⟩, 1, 1, pCs [(k, v)]⟩, rfl, rfl, ⟨hR, rfl, λ_ h => pCs_one h, by dsimp only; omega, by dsimp only; omega, by simp⟩, ?_, ?_⟩⟩)⟩)
    · have q : (left == 0) = true := q
      rw [beq_iff_eq] at q; omega
    · intro a ha
      cases ha
      exact Seg.rest (j := 910) (by simp) (Seg.cells (λj u hj => by rw [fo_za]; exact hj))
    · rintro y ⟨g1, g2, -⟩
      have g1 : IsRow 168 5 (pCs l ++ pCs [(k, v)]) y := g1
      rw [← pCs_app, ← hpv] at g1
      exact ⟨⟨by omega, by omega⟩, ⟨rfl, rfl⟩, ⟨br, cap, sp, y⟩, g1, rfl, Ent.pick [0, 1, 2, 3] rfl (by simp only [rpuC, rhB, hlf]; rfl)⟩
theorem rpu_ok : fo_k 60 rpuC := fo 152 Tryz.func60 (λ_ _ => [(0, 0, .n 900), (1, 2, .c hsC [] []), (3, 1, .q (at4 900)), (3, 2, .c rriC [] []), (5, 3, .q [.aq 0]), (5, 7, .q [.aq 1]), (10, 1, .c irC [] []), (18, 3, .c pcC [] []), (20, 3, .q [.aq 0]), (20, 7, .q [.aq 1]), (20, 9, .q (at4 900)), (20, 10, .qo (ixQ 5)), (20, 12, .o (st4C 168 5) [2] [2]), (22, 3, .q [.aq 0]), (24, 3, .q [.aq 0]), (24, 7, .w [.aq 0]), (25, 3, .q [.aq 0]), (25, 8, .q [.aq 0]), (25, 12, .q [.aq 1]), (25, 14, .q (at4 900)), (25, 16, .n 910), (25, 17, .o (apC 168 5 56) [2] [2]), (25, 20, .w [.aq 1])]) [] fo_i fo_i fo_o [] rpu_vc
end
section
open Go
set_option maxHeartbeats 1000000
structure RrY where
  y : RiY
  b : Nat
  l : TVs
abbrev kdrC : Con where
  X := RrY
  Y := Unit
  args x := [.pointer (some ⟨x.b, 0, none⟩), .int .i64 0]
  pre _ := []
  cond _ := True
  rdc x F := RhIn x.y x.b x.l F
  rel _ _ := True
  val _ _ := .returned (.int .i64 1)
  post _ _ := []
  rmono _ _ _ hs h := h.sub hs
abbrev lhB (y : RiY) : LH := .ex 0 (.is (.slice (some ⟨y.br, 0, none⟩) 1 y.cap))
abbrev lhP (y : RiY) : LH := .ex 0 (.is (.slice y.pa y.pn y.pc))
abbrev lhI (n : Int) : LH := .ex 0 (.is (.int .i64 n))
def kdrOv (x : RrY) (_F : Atom) : List (Nat × Nat × OH) := [(1, 2, .c hsC [] []), (3, 3, .q [lhB x.y]), (3, 7, .q [lhI 1])]
abbrev q225 (x : RrY) : Option Addr := some ⟨x.b, 0, none⟩
abbrev q232 (x : RrY) := fo_vl (some ⟨x.y.br, 0, none⟩) 1 x.y.cap
theorem kdr_vc (x : RrY) (F : Atom) (hc : kdrC.cond x) (hr : kdrC.rdc x F) :
 T153 [fo_vp (q225 x), fo_vi 0] (q112 F) (λb a => Br (!decide (0 < b.n)) (Done kdrC x F q278 [(0, F)]) (Look F ⟨x.b, 0, none⟩ (q232 x) ∧ q78 ∧ Look F ⟨x.y.br, 0, none⟩ (fo_vi 1) ∧ Done kdrC x F (fo_rt (fo_vi 1)) [(0, F)])) := by
  delta T153 q225 q112 q278 q232 q78 fo_aR fo_C2 fo_vi fo_vp fo_vl fo_rt
  have hr : RhIn x.y x.b x.l F := hr
  exact ⟨hs_ok, rfl, ⟨x.b, some ⟨x.y.br, 0, none⟩, 1, x.y.cap⟩, rfl, rfl, fo_tv, Look.rest (j := 0) (by simp) hr.l0, λ_ _ => br_intro (λq => by cases q) (λ_ => ⟨hr.l0, ⟨by omega, by omega⟩, hr.c0, (), fo_tv, rfl, Ent.pick [0] rfl rfl⟩)⟩
theorem kdr_ok : fo_k 200 kdrC := fo 17 Tryz.func200 kdrOv [] fo_i fo_i fo_o [] kdr_vc
structure OwX where
  y : RiY
  b : Nat
  l : TVs
  i : Nat
  k : ByteArray
  v : ByteArray
abbrev owrC : Con where
  X := OwX
  Y := Unit
  args x := [.pointer (some ⟨x.b, 0, none⟩), .int .i64 0, .string x.k]
  pre _ := []
  cond x := x.l.length ≤ 10000 ∧ x.k.size ≤ 1048576 ∧ x.l[x.i]? = some (x.k, x.v) ∧ (x.l.map (·.1)).Nodup
  rdc x F := RhIn x.y x.b x.l F
  rel _ _ := True
  val x _ := .returned (.tuple #[.agg #[.int .i64 4, .float .f64 0, .string x.v, .int .i64 0], .bool true])
  post _ _ := []
  rmono _ _ _ hs h := h.sub hs
def owrOv (x : OwX) (_F : Atom) : List (Nat × Nat × OH) := [(0, 0, .n 901), (1, 2, .c hsC [] []), (3, 3, .q [lhB x.y]), (3, 6, .q [lhI 1, lhI (-1), lhI 0, lhI 0, lhI 0, lhP x.y, .ex 0 (.is (.slice none 0 0))]), (3, 7, .n 902), (3, 8, .w (at7 902)), (4, 1, .q [.aq 902]), (6, 1, .c irC [] []), (7, 1, .q [.aq 902]), (11, 3, .c pcC [] []), (14, 1, .q [.aq 902]), (14, 3, .qo (ixQ 5)), (14, 5, .q [lhI 4, .ex 0 (.is (.float .f64 0)), .ex 0 (.is (.string x.v)), lhI 0]), (14, 6, .w (at4 901))]
theorem nd_first {l : TVs} {i : Nat} {k v : ByteArray} (h : l[i]? = some (k, v)) (hn : (l.map (·.1)).Nodup) : pixV k l = some i := by
  refine pix_first h ((bEq_eq k k).2 rfl) λj q hj hq => ?_
  rw [Bool.eq_false_iff]
  intro hb
  have e : q.1 = k := (bEq_eq _ _).1 hb
  have h1 : (l.map (·.1))[j]? = some k := by rw [fo_gm, hq]; exact congrArg some e
  have h2 : (l.map (·.1))[i]? = some k := by rw [fo_gm, h] <;> rfl
  have hi := (fo_gs.1 h2).1
  have := (List.getElem?_inj (i := j) (j := i) (by omega) hn).1 (h1.trans h2.symm)
  omega
abbrev q161 (x : OwX) : List Value := [fo_vi 1, fo_vi (-1), fo_vi 0, fo_vi 0, fo_vi 0, fo_vl x.y.pa x.y.pn x.y.pc, fo_vl none 0 0]
abbrev q188 (x : OwX) : List Value := [fo_vi 4, float f64 0, fo_vs x.v, fo_vi 0]
theorem owr_vc (x : OwX) (F : Atom) (hc : owrC.cond x) (hr : owrC.rdc x F) :
 ∀(i : Nat), T153 [fo_vp (some ⟨x.b, 0, none⟩), fo_vi 0] (fo_aR [(0, F), (901, fo_cl i q7 30)] []) (λh g => Br (!decide (0 < h.n)) (fo_sm i 0 ∧ fo_sm i 1 ∧ fo_sm i 2 ∧ fo_sm i 3 ∧ fo_sm i 0 ∧ fo_sm i 1 ∧ fo_sm i 2 ∧ fo_sm i 3 ∧ Done owrC x F q259 [(0, F), (901, fo_cl i q7 30)]) (Look F ⟨x.b, 0, none⟩ (fo_vl (some ⟨x.y.br, 0, none⟩) 1 x.y.cap) ∧ q78 ∧ Look F ⟨x.y.br, 0, none⟩ (fo_vi 1) ∧ Look F ⟨x.y.br, 1, none⟩ (fo_vi (-1)) ∧ Look F ⟨x.y.br, 2, none⟩ (fo_vi 0) ∧ Look F ⟨x.y.br, 3, none⟩ (fo_vi 0) ∧ Look F ⟨x.y.br, 4, none⟩ (fo_vi 0) ∧ Look F ⟨x.y.br, 5, none⟩ (fo_vl x.y.pa x.y.pn x.y.pc) ∧ Look F ⟨x.y.br, 6, none⟩ q261 ∧ ∀(f : Nat), fo_s5 f (fo_sm f 5 ∧ fo_sm f 6 ∧ fo_sm f 0 ∧ T154 [fo_vs x.k] (λe d => fo_sm f 0 ∧ T155 [fo_vp (some ⟨x.b, 0, none⟩), fo_vi 0, fo_vs x.k] (fo_aR [(0, F), (901, fo_cl i q7 30), (902, fo_cl f (q161 x) 164)] []) (λc b => fo_Bd (pixI (pixV c.k c.l) < 0) (fo_sm i 0 ∧ fo_sm i 1 ∧ fo_sm i 2 ∧ fo_sm i 3 ∧ fo_sm i 0 ∧ fo_sm i 1 ∧ fo_sm i 2 ∧ fo_sm i 3 ∧ Done owrC x F q259 [(0, F), (901, fo_cl i q7 30), (902, fo_cl f (q161 x) 164)]) (fo_sm f 5 ∧ T152 (opIn Tryz.f243 14 3) [fo_vl x.y.pa x.y.pn x.y.pc, fo_vi (pixI (pixV c.k c.l))] (λa => Look F ⟨a.b, a.o + a.n.toNat * 5 + 1, none⟩ (fo_vi 4) ∧ Look F ⟨a.b, a.o + a.n.toNat * 5 + 1 + 1, none⟩ (float f64 0) ∧ Look F ⟨a.b, a.o + a.n.toNat * 5 + 1 + 2, none⟩ (fo_vs x.v) ∧ Look F ⟨a.b, a.o + a.n.toNat * 5 + 1 + 3, none⟩ (fo_vi 0) ∧ fo_sm i 0 ∧ fo_sm i 1 ∧ fo_sm i 2 ∧ fo_sm i 3 ∧ fo_sm i 0 ∧ fo_sm i 1 ∧ fo_sm i 2 ∧ fo_sm i 3 ∧ Done owrC x F (fo_rt (tuple ⟨[agg ⟨q188 x⟩, fo_vb true]⟩)) [(0, F), (901, fo_cl i (q188 x) 30), (902, fo_cl f (q161 x) 164)]))))))) := by
  delta T153 q7 q259 q78 q261 q135 T154 T155 q161 q116 T152 q188 fo_aR fo_sm fo_s5 fo_C1 fo_C2 fo_vi fo_vs fo_vb fo_vp fo_vl fo_cl fo_Bd fo_rt
  obtain ⟨⟨br, cap, pa, pn, pc⟩, b, l, i, k, v⟩ := x
  obtain ⟨h1, h2, h3, h4⟩ := hc
  have hr : RhIn ⟨br, cap, pa, pn, pc⟩ b l F := hr
  have hsrc := hr.src
  have hsrd := hr.srd
  dsimp only at h1 h2 h3 h4 hsrc hsrd ⊢
  have hn := hsrc.len
  rw [pCs_length] at hn
  have hil := (fo_gs.1 h3).1
  obtain ⟨c, o, rfl⟩ := hsrc.some (by omega)
  have hpx := nd_first h3 h4
  have hg := pCs_get h3
  have lk : ∀ (m : Nat) (w : Value), ([.string k, .int .i64 4, .float .f64 0, .string v, .int .i64 0] : List Value)[m]? = some w → Look F ⟨c, o + ((i : Nat) : Int).toNat * 5 + m, none⟩ w := λm w hw => by
    have := Srcd.look hsrd (hg m w hw)
    rw [fo_tn, Nat.mul_comm i 5, Nat.add_assoc]
    exact this
  intro b1
  refine ⟨hs_ok, rfl, ⟨b, some ⟨br, 0, none⟩, 1, cap⟩, rfl, rfl, fo_tv, Look.rest (j := 0) (by simp) hr.l0, λ_ _ => br_intro (λq => by cases q) (λ_ => ⟨hr.l0, ⟨by omega, by omega⟩, hr.c0, hr.c1, hr.c2, hr.c3, hr.c4, hr.c5, hr.c6, λb2 => ?_⟩)⟩
  repeat refine ⟨⟨rfl, rfl⟩, ?_⟩
  refine ⟨ir_ok, rfl, ⟨k⟩, rfl, rfl, h2, fo_tv, λ_ _ => ⟨⟨rfl, rfl⟩, pc_ok, rfl, ⟨⟨br, cap, some ⟨c, o, none⟩, pn, pc⟩, b, l, k⟩, rfl, rfl, h1, hr.sub (sub_rest (A := F) 0 (by simp) rfl), λ_ _ => ?_⟩⟩
  dsimp only
  rw [hpx]
  refine br_intro (λq => absurd q ?_) (λ_ => ⟨⟨rfl, rfl⟩, ixq_ok 5 rfl rfl rfl rfl, ⟨c, o, pn, pc, i⟩, rfl, ⟨by dsimp only; omega, by dsimp only; omega⟩, lk 1 _ rfl, lk 2 _ rfl, lk 3 _ rfl, lk 4 _ rfl, ?_⟩)
  · show ¬ (decide ((i : Int) < 0) = true)
    rw [fo_df (show ¬ (i : Int) < 0 by omega)]
    exact λh => by cases h
  · repeat refine ⟨⟨rfl, rfl⟩, ?_⟩
    exact ⟨(), fo_tv, rfl, Ent.pick [0] rfl rfl⟩
theorem owr_ok : fo_k 243 owrC := fo 69 Tryz.func243 owrOv [(2, 1, OH.w [LH.aq (901 : Nat), LH.aq (901 : Nat), LH.aq (901 : Nat), LH.aq (901 : Nat)]), (13, 1, OH.w [LH.aq (901 : Nat), LH.aq (901 : Nat), LH.aq (901 : Nat), LH.aq (901 : Nat)])] fo_i fo_i fo_o [LH.aq 901, LH.aq 901, LH.aq 901, LH.aq 901] owr_vc
abbrev kerC : Con where
  X := RrY
  Y := Row
  args x := [.pointer (some ⟨x.b, 0, none⟩), .int .i64 0]
  pre _ := []
  cond x := x.l.length ≤ 10000
  rdc x F := RhIn x.y x.b x.l F
  rel x y := IsRow 9 1 (strs (x.l.map (·.1))) y
  val _ y := .returned (.slice y.a y.n y.cap)
  post _ y := [y.A]
  rmono _ _ _ hs h := h.sub hs
structure KerS where
  i : Nat
  r : Row
def kerInv (x : RrY) (F : Atom) : Nat → Option Inv := fun
  | 0 => some { X := Unit, P := λ_ => True, mu := λ_ => 0, lv := λ_ => [(0, .pointer (some ⟨x.b, 0, none⟩)), (1, .int .i64 0), (5, .slice none 0 0), (6, .int .i64 0)], st := λ_ => [F] }
  | 2 => some { X := KerS, P := λd => d.i ≤ x.l.length ∧ IsRow 9 1 (strs ((x.l.take d.i).map (·.1))) d.r, mu := λd => x.l.length - d.i, lv := λd => [(0, .pointer (some ⟨x.b, 0, none⟩)), (1, .int .i64 0), (5, .slice d.r.a d.r.n d.r.cap), (7, .int .i64 d.i)], st := λd => [F, d.r.A] }
  | _ => none
def kerOv (x : RrY) (_F : Atom) : List (Nat × Nat × OH) := [(2, 2, .c hsC [] []), (4, 4, .q [lhB x.y]), (4, 8, .q [.ex 0 (.is (.slice none 0 0))]), (6, 2, .c kyC [] []), (6, 3, .n 7030), (6, 4, .o (apC 9 1 16) [999] [1]), (8, 4, .q [lhB x.y]), (8, 8, .q [lhP x.y]), (10, 4, .q [lhB x.y]), (10, 8, .q [lhP x.y]), (10, 10, .qo (ixQ 5)), (10, 12, .q [.ex 0 .str]), (10, 13, .n 910), (10, 14, .o (apC 9 1 16) [1] [1])]
def q139 (b : KerS) (x : RrY) := b.i ≤ List.length x.l ∧ IsRow 9 1 (strs (List.map (λ(a : ByteArray × ByteArray) => a.fst) (List.take b.i x.l))) b.r
theorem ker_vc (x : RrY) (F : Atom) (hc : kerC.cond x) (hr : kerC.rdc x F) :
 T153 [fo_vp (q225 x), fo_vi 0] (q112 F) (λm l => fo_Bd (0 < m.n) ((∃(a : Unit), True ∧ (fo_vp (q225 x) = fo_vp (q225 x) ∧ fo_vi 0 = fo_vi 0 ∧ fo_vl none 0 0 = fo_vl none 0 0 ∧ fo_vi 0 = fo_vi 0 ∧ True) ∧ Ent [(0, F)] [(0, F)]) ∧ fo_vA λ(k : Unit) _ => True → Look F ⟨x.b, 0, none⟩ (q232 x) ∧ q78 ∧ Look F ⟨x.y.br, 6, none⟩ q261 ∧ (∃(b : KerS), q139 b x ∧ (fo_vp (q225 x) = fo_vp (q225 x) ∧ fo_vi 0 = fo_vi 0 ∧ fo_vl none 0 0 = fo_vl b.r.a b.r.n b.r.cap ∧ fo_vi 0 = fo_vi ↑b.i ∧ True) ∧ Ent [(0, F)] [(0, F), (1, b.r.A)]) ∧ fo_vA λ(i : KerS) _ => q139 i x → Look F ⟨x.b, 0, none⟩ (q232 x) ∧ q78 ∧ Look F ⟨x.y.br, 5, none⟩ (fo_vl x.y.pa x.y.pn x.y.pc) ∧ fo_Bd ((i.i : Int) < (x.y.pn : Int)) (Look F ⟨x.b, 0, none⟩ (q232 x) ∧ q78 ∧ Look F ⟨x.y.br, 5, none⟩ (fo_vl x.y.pa x.y.pn x.y.pc) ∧ T152 (opIn Tryz.f242 10 10) [fo_vl x.y.pa x.y.pn x.y.pc, fo_vi ↑i.i] (λg => T25 F ⟨g.b, g.o + g.n.toNat * 5, none⟩ (λf => ∀(e : Nat), T51 (opIn Tryz.f242 10 14) [fo_vl i.r.a i.r.n i.r.cap, fo_vl (q13 e) 1 1] [i.r.A] (fo_aR [(0, F), (1, i.r.A), (910, fo_cl e [fo_vs f] 9)] [1]) (λd c => fo_rI ((i.i : Int) + 1) ∧ ∃(b : KerS), q139 b x ∧ (fo_vp (q225 x) = fo_vp (q225 x) ∧ fo_vi 0 = fo_vi 0 ∧ fo_vl c.a c.n c.cap = fo_vl b.r.a b.r.n b.r.cap ∧ fo_vi ((i.i : Int) + 1) = fo_vi ↑b.i ∧ True) ∧ Ent [(0, F), (1, c.A), (910, fo_cl e [fo_vs f] 9)] [(0, F), (1, b.r.A)] ∧ List.length x.l - b.i < List.length x.l - i.i)))) (Done kerC x F (fo_rt (fo_vl i.r.a i.r.n i.r.cap)) [(0, F), (1, i.r.A)])) (Done kerC x F (fo_rt q261) [(0, F)])) := by
  delta T153 q225 q112 q232 q78 q261 q139 q116 T152 T25 q258 q247 q114 T51 q13 fo_aR fo_rI fo_C2 fo_O4 fo_vi fo_vs fo_vp fo_vl fo_cl fo_Bd fo_rt fo_vA
  obtain ⟨⟨br, cap, pa, pn, pc⟩, b, l⟩ := x
  have hl : l.length ≤ 10000 := hc
  have hr : RhIn ⟨br, cap, pa, pn, pc⟩ b l F := hr
  have hsrc := hr.src
  have hsrd := hr.srd
  dsimp only at hsrc hsrd ⊢
  have hn := hsrc.len
  rw [pCs_length] at hn
  refine ⟨hs_ok, rfl, ⟨b, some ⟨br, 0, none⟩, 1, cap⟩, rfl, rfl, fo_tv, Look.rest (j := 0) (by simp) hr.l0, λ_ _ => br_intro (λ_ => ⟨⟨(), fo_tv, ⟨rfl, rfl, rfl, rfl, fo_tv⟩, Ent.pick [0] rfl rfl⟩, λ_ _ _ => ⟨hr.l0, ⟨by omega, by omega⟩, hr.c6, ⟨⟨0, nilRow⟩, ⟨fo_zl _, .nil rfl⟩, ⟨rfl, rfl, rfl, rfl, fo_tv⟩, Ent.pick [0, 999] rfl rfl⟩, ?_⟩⟩) (λq => by cases q)⟩
  rintro ⟨i, r⟩ js ⟨h1, h2⟩
  dsimp only at h1 h2 ⊢
  have hrn := h2.len
  rw [strs_length, List.length_map] at hrn
  have htl := List.length_take_le i l
  refine ⟨hr.l0, ⟨by omega, by omega⟩, hr.c5, br_decide (λh => ?_) (λh => ⟨r, ?_, rfl, Ent.pick [1, 0] rfl rfl⟩)⟩
  · have hlt : i < l.length := by omega
    obtain ⟨c, o, rfl⟩ := hsrc.some (by omega)
    obtain ⟨q, hq⟩ : ∃ q, l[i]? = some q := ⟨l[i], fo_ge hlt⟩
    have hg := pCs_get hq 0 (.string q.1) rfl
    refine ⟨hr.l0, ⟨by omega, by omega⟩, hr.c5, ixq_ok 5 rfl rfl rfl rfl, ⟨c, o, pn, pc, i⟩, rfl, ⟨by dsimp only; omega, h⟩, q.1, ?_, λg => ⟨append_ok (P := Tryz.prog) 1 16 rfl rfl rfl rfl rfl rfl rfl (by decide), rfl, ⟨r, strs ((l.take i).map (·.1)), some ⟨g, 0, none⟩, 1, 1, strs [q.1]⟩, rfl, rfl, ⟨h2, rfl, λu hu => by rw [List.mem_singleton.1 hu] <;> rfl, by dsimp only; omega, by dsimp only; omega, by simp⟩, ?_, ?_⟩⟩
    · have := Srcd.look hsrd hg
      dsimp only
      rw [fo_tn, Nat.mul_comm i 5]
      exact this
    · intro a ha
      cases ha
      exact Seg.rest (j := 910) (by simp) (Seg.cells (λj u hj => by rw [fo_za]; exact hj))
    · rintro y ⟨g1, g2, -⟩
      have e : strs ((l.take i).map (·.1)) ++ strs [q.1] = strs ((l.take (i + 1)).map (·.1)) := by
        rw [List.take_succ, hq, Option.toList_some, List.map_append]
        unfold strs
        rw [List.map_append] <;> rfl
      have g1 : IsRow 9 1 (strs ((l.take i).map (·.1)) ++ strs [q.1]) y := g1
      rw [e] at g1
      exact ⟨⟨by omega, by omega⟩, ⟨i + 1, y⟩, ⟨hlt, g1⟩, ⟨rfl, rfl, rfl, rfl, fo_tv⟩, Ent.pick [0, 1] rfl rfl, by dsimp only; omega⟩
  · have hi : i = l.length := by omega
    rw [hi, List.take_length] at h2
    exact h2
theorem ker_ok : fo_k 242 kerC := fo 58 Tryz.func242 kerOv [] kerInv fo_i fo_o [] ker_vc
abbrev sltC : Con where
  X := RrX
  Y := Unit
  args x := [.pointer (some ⟨x.b, 0, none⟩), .agg #[.int .i64 4, .float .f64 0, .string x.s, .int .i64 0]]
  pre _ := []
  cond _ := True
  rdc _ _ := True
  rel _ _ := True
  val _ _ := .returned (.bool false)
  post _ _ := []
theorem slt_vc (x : RrX) (F : Atom) (hc : sltC.cond x) (hr : sltC.rdc x F) :
 ∀(a : Nat), fo_sm a 0 ∧ fo_sm a 0 ∧ fo_sm a 0 ∧ Done sltC x F q87 [(0, F), (901, fo_cl a [fo_vi 4, float f64 0, fo_vs x.s, fo_vi 0] 30)] := by
  delta q87 fo_sm fo_vi fo_vs fo_vb fo_cl fo_rt
  intro b
  exact ⟨⟨rfl, rfl⟩, ⟨rfl, rfl⟩, ⟨rfl, rfl⟩, (), fo_tv, rfl, Ent.pick [0] rfl rfl⟩
theorem slt_ok : fo_k 162 sltC := fo 25 Tryz.func162 (λ_ _ => [(0, 0, .n 901), (1, 1, .q [.aq 901]), (1, 5, .q [.aq 901]), (1, 10, .q [.aq 901])]) [] fo_i fo_i fo_o [] slt_vc
abbrev sloC : Con where
  X := RrY
  Y := Unit
  args x := [.pointer (some ⟨x.b, 0, none⟩), .agg #[.int .i64 5, .float .f64 0, .string ⟨#[]⟩, .int .i64 0]]
  pre _ := []
  cond _ := True
  rdc x F := RhIn x.y x.b x.l F
  rel _ _ := True
  val _ _ := .returned (.bool false)
  post _ _ := []
  rmono _ _ _ hs h := h.sub hs
def T156 := fo_C2 200 kdrC (λ_ => True) (λw1 w2 => RhIn w1.y w1.b w1.l w2)
abbrev q390 (F : Atom) (c : Nat) := [(0, F), (901, fo_cl c q14 30)]
theorem slo_vc (x : RrY) (F : Atom) (hc : sloC.cond x) (hr : sloC.rdc x F) :
 ∀(c : Nat), fo_sm c 0 ∧ fo_sm c 0 ∧ fo_sm c 0 ∧ fo_sm c 3 ∧ T156 [fo_vp (q225 x), fo_vi 0] (fo_aR (q390 F c) []) (λb a => Done sloC x F (fo_rt (fo_vb ((1 : Int) == (3 : Int)))) (q390 F c)) := by
  delta T156 q225 q14 q390 fo_aR fo_sm fo_C2 fo_vi fo_vs fo_vb fo_vp fo_cl fo_rt
  intro b
  exact ⟨⟨rfl, rfl⟩, ⟨rfl, rfl⟩, ⟨rfl, rfl⟩, ⟨rfl, rfl⟩, kdr_ok, rfl, x, rfl, rfl, fo_tv, hr.sub (sub_rest (A := F) 0 (by simp) rfl), λ_ _ => ⟨(), fo_tv, rfl, Ent.pick [0] rfl rfl⟩⟩
theorem slo_ok : fo_k 162 sloC := fo 25 Tryz.func162 (λ_ _ => [(0, 0, .n 901), (1, 1, .q [.aq 901]), (1, 5, .q [.aq 901]), (1, 10, .q [.aq 901]), (1, 15, .q [.aq 901]), (1, 16, .c kdrC [] [])]) [] fo_i fo_i fo_o [] slo_vc
end
section
open Go
set_option maxHeartbeats 1000000
def svL (n : Nat) (q : ByteArray) : Bool := decide (n + q.size / 2 > 8192)
structure SdtX where
  b : Nat
  s : ByteArray
  a : Option Addr
  n : Nat
  c : Nat
  p : Nat
abbrev sdtC : Con where
  X := SdtX
  Y := Unit
  args x := [.pointer (some ⟨x.b, 0, none⟩), .agg #[.int .i64 4, .float .f64 0, .string x.s, .int .i64 0], .slice x.a x.n x.c, .int .i64 x.p]
  pre _ := []
  cond x := x.s.size ≤ 65536 ∧ x.p ≤ 1048576
  rdc _ _ := True
  rel _ _ := True
  val x _ := .returned (.tuple #[.string (bif svL x.p (quV x.s) then ⟨#[]⟩ else quV x.s), .int .i64 (bif svL x.p (quV x.s) then 112 else 0)])
  post _ _ := []
theorem esc_even (u : Nat) : (esc u).length % 2 = 0 := by
  have h : ∀ n : Nat, n = 2 ∨ n = 4 ∨ n = 12 → n % 2 = 0 := λn h => by omega
  apply h
  unfold esc
  cases (u == 34) <;> cases (u == 92) <;> cases (u == 8) <;> cases (u == 12) <;> cases (u == 10) <;> cases (u == 13) <;> cases (u == 9) <;> cases decide (u < 32) <;> first | exact .inl rfl | exact .inr (.inl rfl) | exact .inr (.inr rfl)
theorem quF_two (w : ByteArray) : ∀ (f i : Nat) (o : ByteArray), o.size % 2 = 0 → i ≤ w.size / 2 → (quF w f i o).size % 2 = 0 ∧ (quF w f i o).size ≤ o.size + 12 * (w.size / 2 - i)
  | 0, i, o, h, _ => ⟨h, Nat.le_add_right _ _⟩
  | f + 1, i, o, h, hi => by
    rw [quF]
    by_cases hlt : i < w.size / 2
    · rw [fo_dt hlt, fo_ct]
      have h1 := esc_even (unV w i)
      have h2 := esc_len (unV w i)
      have := quF_two w f (i + 1) (o ++ btL (esc (unV w i))) (by rw [sz_app]; omega) hlt
      rw [sz_app] at this
      omega
    · rw [fo_df hlt]
      exact ⟨h, Nat.le_add_right _ _⟩
theorem quV_two (w : ByteArray) : (quV w).size % 2 = 0 ∧ (quV w).size ≤ 4 + 6 * w.size := by
  have := quF_two w (w.size / 2 + 1) 0 (btL [0, 34]) rfl (fo_zl _)
  have e : (btL [0, 34]).size = 2 := rfl
  unfold quV
  rw [fo_sa, e]
  omega
theorem svL_t {n : Nat} {q : ByteArray} (h : n + q.size / 2 > 8192) : svL n q = true := fo_dt h
theorem svL_f {n : Nat} {q : ByteArray} (h : ¬ n + q.size / 2 > 8192) : svL n q = false := fo_df h
def T157 := fo_C1 203 qurC q135
abbrev q237 := fo_rt (tuple ⟨[fo_vs ⟨#[]⟩, fo_vi 112]⟩)
theorem sdt_vc (x : SdtX) (F : Atom) (hc : sdtC.cond x) (hr : sdtC.rdc x F) :
 ∀(e : Nat), fo_sm e 0 ∧ fo_sm e 0 ∧ fo_sm e 0 ∧ fo_sm e 0 ∧ fo_sm e 0 ∧ fo_sm e 0 ∧ fo_sm e 2 ∧ T157 [fo_vs x.s] (λd c => T148 [fo_vs (quV d.s)] (λb a => fo_rI ((x.p : Int) + (↑(b.s.size / 2) : Int)) ∧ fo_Bd ((x.p : Int) + (↑(b.s.size / 2) : Int) > 8192) (Done sdtC x F q237 [(0, F), (901, fo_cl e [fo_vi 4, float f64 0, fo_vs x.s, fo_vi 0] 30)]) (Done sdtC x F (fo_rt (tuple ⟨[fo_vs (quV d.s), fo_vi 0]⟩)) [(0, F), (901, fo_cl e [fo_vi 4, float f64 0, fo_vs x.s, fo_vi 0] 30)]))) := by
  delta q135 T157 T148 q237 fo_sm fo_rI fo_C1 fo_vi fo_vs fo_cl fo_Bd fo_rt
  obtain ⟨b, s, a, n, c, p⟩ := x
  obtain ⟨h1, h2⟩ := hc
  dsimp only at h1 h2 ⊢
  have hq := (quV_two s).2
  intro d
  repeat refine ⟨⟨rfl, rfl⟩, ?_⟩
  refine ⟨qur_ok, rfl, ⟨s⟩, rfl, rfl, by dsimp only; omega, fo_tv, λ_ _ => ⟨lnr_ok, rfl, ⟨quV s⟩, rfl, rfl, by dsimp only; omega, fo_tv, λ_ _ => ⟨⟨by dsimp only; omega, by dsimp only; omega⟩, ?_⟩⟩⟩
  have fin : ∀ v, svL p (quV s) = v → Done sdtC ⟨b, s, a, n, c, p⟩ F (returned (tuple #[.string (bif v then ⟨#[]⟩ else quV s), .int .i64 (bif v then 112 else 0)])) [(0, F), (901, Atom.cells d [.int .i64 4, .float .f64 0, .string s, .int .i64 0] 30)] := λv h => ⟨(), fo_tv, by subst h; rfl, Ent.pick [0] rfl rfl⟩
  refine br_decide (λh => fin true (svL_t (by dsimp only at h; omega))) (λh => fin false (svL_f (by dsimp only at h; omega)))
theorem sdt_ok : fo_k 163 sdtC := fo 82 Tryz.func163 (λ_ _ => [(0, 0, .n 901), (3, 1, .q [.aq 901]), (3, 5, .q [.aq 901]), (5, 1, .q [.aq 901]), (7, 1, .q [.aq 901]), (9, 1, .q [.aq 901]), (11, 1, .q [.aq 901]), (12, 1, .q [.aq 901]), (12, 2, .c qurC [] []), (13, 2, .c lnrC [] [])]) [] fo_i fo_i fo_o [] sdt_vc
structure JoX where
  y : RiY
  b : Nat
  l : TVs
structure JoX.ok (x : JoX) : Prop where
  hl : x.l.length ≤ 64
  hz : ∀ p ∈ x.l, p.1.size ≤ 16384 ∧ p.2.size ≤ 16384
  hn : (x.l.map (·.1)).Nodup
def joQ (l : TVs) : ByteArray := obV quV l
abbrev jobC : Con where
  X := JoX
  Y := Unit
  args x := [.pointer (some ⟨x.b, 0, none⟩), .int .i64 0, .slice none 0 0, .int .i64 0]
  pre _ := []
  cond x := x.ok
  rdc x F := RhIn x.y x.b x.l F
  rel _ _ := True
  val x _ := .returned (.tuple #[.string (bif svL 0 (joQ x.l) then ⟨#[]⟩ else joQ x.l), .int .i64 (bif svL 0 (joQ x.l) then 112 else 0)])
  post _ _ := []
  rmono _ _ _ hs h := h.sub hs
structure JoS where
  i : Nat
  o : ByteArray
  r : Row
  ar : Row
structure JoS.ok (d : JoS) (l : TVs) : Prop where
  hi : d.i ≤ l.length
  ho : d.o.size ≤ 16384
  hev : d.o.size % 2 = 0
  he : joQ l = obF quV (l.drop d.i) (decide (d.i = 0)) d.o ++ btL [0, 125]
  hr : IsRow 9 1 (strs (l.map (·.1))) d.r
def joL (x : JoX) (d : JoS) (o : ByteArray) (f : Bool) : List (Nat × Value) := [(0, .pointer (some ⟨x.b, 0, none⟩)), (1, .int .i64 0), (3, .int .i64 0), (11, .slice d.ar.a d.ar.n d.ar.cap), (12, .bool false), (13, .string o), (14, .string (btL [0, 125])), (15, .bool f), (16, .slice d.r.a d.r.n d.r.cap), (17, .int .i64 d.i)]
def jobInv (x : JoX) (F : Atom) : Nat → Option Inv := fun
  | 0 => some { X := Unit, P := λ_ => True, mu := λ_ => 0, lv := λ_ => [(0, .pointer (some ⟨x.b, 0, none⟩)), (1, .int .i64 0), (2, .slice none 0 0), (3, .int .i64 0), (10, .int .i64 0)], st := λ_ => [F] }
  | 2 => some { X := JoS, P := λd => d.ok x.l, mu := λd => x.l.length - d.i, lv := λd => joL x d d.o (decide (d.i = 0)), st := λd => [F, d.r.A] }
  | _ => none
structure Jo2 where
  d : JoS
  b : Nat
  v : ByteArray
def jobG : (T : Type) × (Jo2 → T) := ⟨JoS, λe => e.d⟩
def joP (d : JoS) : ByteArray := bif decide (d.i = 0) then d.o else d.o ++ btL [0, 44]
def jobCut (x : JoX) (F : Atom) : Nat → Option Inv := fun
  | 26 => some { X := Jo2, P := λe => e.d.ok x.l ∧ ∃ k, x.l[e.d.i]? = some (k, e.v), mu := λ_ => 0, lv := λe => (joL x e.d (joP e.d) (decide (e.d.i = 0))) ++ [(18, .pointer (some ⟨e.b, 0, none⟩))], st := λe => [F, e.d.r.A, .cells e.b [.int .i64 4, .float .f64 0, .string e.v, .int .i64 0] 30], gh := some jobG }
  | _ => none
def jobOv (x : JoX) (_F : Atom) : List (Nat × Nat × OH) := [(8, 0, .n 800), (8, 2, .o (apC 3 1 8) [800] [800]), (8, 4, .n 810), (8, 5, .o (apC 3 1 8) [800] [800]), (9, 2, .c kdrC [] []), (10, 0, .c w1C [] []), (10, 1, .c w1C [] []), (12, 0, .c w1C [] []), (12, 1, .c w1C [] []), (14, 2, .c kerC [] [1]), (16, 4, .q [lhB x.y]), (16, 8, .q [.ex 0 (.is (.slice none 0 0))]),
  (22, 4, .qo (ixQ 1)), (22, 5, .q [.ex 1 .str]), (22, 6, .c owrC [] []), (22, 10, .n 2), (22, 11, .w (at4 2)), (23, 1, .q (at4 2)), (23, 2, .c sltC [] []), (25, 1, .c w1C [] []), (28, 3, .qo (ixQ 1)), (28, 4, .q [.ex 1 .str]), (28, 5, .c qurC [] []), (28, 7, .c w1C [] []), (29, 2, .c lnrC [] []), (31, 1, .q (at4 2)), (31, 2, .c sltC [] []), (33, 1, .q (at4 2)), (33, 5, .c lnrC [] []), (33, 7, .c sdtC [] []), (38, 2, .c lnrC [] [])]
theorem of_44 : ofV ⟨#[44]⟩ = btL [0, 44] := ba_list (by decide +kernel)
theorem of_58 : ofV ⟨#[58]⟩ = btL [0, 58] := ba_list (by decide +kernel)
theorem of_123 : ofV ⟨#[123]⟩ = btL [0, 123] := ba_list (by decide +kernel)
theorem of_125 : ofV ⟨#[125]⟩ = btL [0, 125] := ba_list (by decide +kernel)
abbrev q129 (e0 : JoX) : Option Addr := some ⟨e0.b, 0, none⟩
def T158 (oo : Oper) := fo_O4 oo (apC (3 : TypeId) 1 8) (λw0 => IsRow 3 1 w0.cs w0.r ∧ w0.ys.length = w0.m * 1 ∧ q258 w0 ∧ (w0.r.n + w0.m) * 8 ≤ 140737488355328 ∧ w0.r.n + w0.m ≤ 9223372036854775807 ∧ q247 w0) q114 (λw0 w3 => IsRow 3 1 (w0.cs ++ w0.ys) w3 ∧ w3.n = w0.r.n + w0.m ∧ (w0.m = 0 → w3 = w0.r))
abbrev q389 (F : Atom) (O : Row) (N : Nat) := [(0, F), (800, O.A), (810, fo_cl N [fo_vi 0] 3)]
def T159 := fo_C0 162 sltC
abbrev q316 (z : Jo2) : List Value := [fo_vi 4, float f64 0, fo_vs z.v, fo_vi 0]
abbrev q136 (e2 : Atom) (z : Jo2) := [(0, e2), (1, z.d.r.A), (2, fo_cl z.b (q316 z) 30)]
def T160 (e0 : JoX) (e1 : JoS) (e2 : Atom) (v0 v1 v2 v3 v4 v5 : Value) (ss : St) := ∃ (z : Jo2), ((z.d.ok e0.l ∧ ∃(w0 : ByteArray), e0.l[z.d.i]? = some (w0, z.v)) ∧ jobG.snd z = e1) ∧ (fo_vp (q129 e0) = fo_vp (q129 e0) ∧ fo_vi 0 = fo_vi 0 ∧ fo_vi 0 = fo_vi 0 ∧ v0 = fo_vl z.d.ar.a z.d.ar.n z.d.ar.cap ∧ fo_vb false = fo_vb false ∧ v1 = fo_vs (joP z.d) ∧ fo_vs (btL [0, 125]) = fo_vs (btL [0, 125]) ∧ v2 = fo_vb (decide (z.d.i = 0)) ∧ v3 = fo_vl z.d.r.a z.d.r.n z.d.r.cap ∧ v4 = fo_vi ↑z.d.i ∧ v5 = fo_vp (some ⟨z.b, 0, none⟩) ∧ True) ∧ Ent ss (q136 e2 z)
theorem jo_vc (x : JoX) (F : Atom) (hc : jobC.cond x) (hr : jobC.rdc x F) :
 (∃(a : Unit), True ∧ (fo_vp (q129 x) = fo_vp (q129 x) ∧ fo_vi 0 = fo_vi 0 ∧ fo_vl none 0 0 = fo_vl none 0 0 ∧ fo_vi 0 = fo_vi 0 ∧ fo_vi 0 = fo_vi 0 ∧ True) ∧ Ent [(0, F)] [(0, F)]) ∧ fo_vA λ(S : Unit) _ => True → ∀(Q : Nat), T158 (opIn Tryz.f204 8 2) [fo_vl (q13 Q) 0 0, fo_vl none 0 0] [fo_cl Q [] 3] (fo_aR [(0, F), (800, fo_cl Q [] 3)] [800]) (λP O => ∀(N : Nat), T158 (opIn Tryz.f204 8 5) [fo_vl O.a O.n O.cap, fo_vl (q13 N) 1 1] [O.A] (fo_aR (q389 F O N) [800]) (λM L => T156 [fo_vp (q129 x), fo_vi 0] (fo_aR (q389 F L N) []) (λK J => T147 [fo_vs ⟨#[123]⟩] (λI H => T147 [fo_vs ⟨#[125]⟩] (λG E => fo_C4 242 kerC (λD => List.length D.l ≤ 10000) (λD rr => RhIn D.y D.b D.l rr) (λD C => IsRow 9 1 (strs (List.map (λ(a : ByteArray × ByteArray) => a.fst) D.l)) C) [fo_vp (q129 x), fo_vi 0] ([] : List Atom) (fo_aR (q389 F L N) []) (λD C => fo_rI ((0 : Int) + (1 : Int)) ∧ (∃(a : JoS), a.ok x.l ∧ (fo_vp (q129 x) = fo_vp (q129 x) ∧ fo_vi 0 = fo_vi 0 ∧ fo_vi 0 = fo_vi 0 ∧ fo_vl L.a L.n L.cap = fo_vl a.ar.a a.ar.n a.ar.cap ∧ fo_vb ((1 : Int) == (2 : Int)) = fo_vb false ∧ fo_vs (ofV I.s) = fo_vs a.o ∧ fo_vs (ofV G.s) = fo_vs (btL [0, 125]) ∧ fo_vb true = fo_vb (decide (a.i = 0)) ∧ fo_vl C.a C.n C.cap = fo_vl a.r.a a.r.n a.r.cap ∧ fo_vi 0 = fo_vi ↑a.i ∧ True) ∧ Ent [(0, F), (1, C.A), (800, L.A), (810, fo_cl N [fo_vi 0] 3)] [(0, F), (1, a.r.A)]) ∧ fo_vA λ(B : JoS) _ => B.ok x.l → fo_Bd ((B.i : Int) < (B.r.n : Int)) (T47 (opIn Tryz.f204 22 4) [fo_vl B.r.a B.r.n B.r.cap, fo_vi ↑B.i] (λz => T25 B.r.A ⟨z.b, z.o + z.n.toNat * 1, none⟩ (λy => fo_C2 243 owrC (λw => List.length w.l ≤ 10000 ∧ w.k.size ≤ 1048576 ∧ w.l[w.i]? = some (w.k, w.v) ∧ (List.map (λ(a : ByteArray × ByteArray) => a.fst) w.l).Nodup) (λw rr => RhIn w.y w.b w.l rr) [fo_vp (q129 x), fo_vi 0, fo_vs y] (fo_aR [(0, F), (1, B.r.A)] []) (λw v => ∀(u : Nat), fo_sm u 0 ∧ fo_sm u 1 ∧ fo_sm u 2 ∧ fo_sm u 3 ∧ fo_sm u 0 ∧ fo_sm u 1 ∧ fo_sm u 2 ∧ fo_sm u 3 ∧ T159 [fo_vp (q129 x), agg ⟨q188 w⟩] (λt s => ∃(r : JoS), Br (!decide (B.i = 0)) (T147 [fo_vs ⟨#[44]⟩] (λd c => B.o.size + (ofV d.s).size ≤ 9223372036854775807 ∧ T160 x r F (fo_vl B.ar.a B.ar.n B.ar.cap) (fo_vs (B.o ++ ofV d.s)) (fo_vb (decide (B.i = 0))) (fo_vl B.r.a B.r.n B.r.cap) (fo_vi ↑B.i) (q263 u) [(0, F), (1, B.r.A), (2, fo_cl u (q188 w) 30)])) (T160 x r F (fo_vl B.ar.a B.ar.n B.ar.cap) (fo_vs B.o) (fo_vb (decide (B.i = 0))) (fo_vl B.r.a B.r.n B.r.cap) (fo_vi ↑B.i) (q263 u) [(0, F), (1, B.r.A), (2, fo_cl u (q188 w) 30)]) ∧ fo_vA λ(q : Jo2) _ => ((q.d.ok x.l ∧ ∃(a : ByteArray), x.l[q.d.i]? = some (a, q.v)) ∧ jobG.snd q = r) → T47 (opIn Tryz.f204 28 3) [fo_vl q.d.r.a q.d.r.n q.d.r.cap, fo_vi ↑q.d.i] (λo => T25 q.d.r.A ⟨o.b, o.o + o.n.toNat * 1, none⟩ (λn => T157 [fo_vs n] (λm l => (joP q.d).size + (quV m.s).size ≤ 9223372036854775807 ∧ T147 [fo_vs ⟨#[58]⟩] (λk j => (joP q.d ++ quV m.s).size + (ofV k.s).size ≤ 9223372036854775807 ∧ T148 [fo_vs (joP q.d ++ quV m.s ++ ofV k.s)] (λi h => fo_rI (0 + (↑(i.s.size / 2) : Int)) ∧ fo_Bd (0 + (↑(i.s.size / 2) : Int) > 8192) (Done jobC x F q237 (q136 F q)) (fo_sm q.b 0 ∧ fo_sm q.b 1 ∧ fo_sm q.b 2 ∧ fo_sm q.b 3 ∧ T159 [fo_vp (q129 x), agg ⟨q316 q⟩] (λg f => true = true ∧ fo_sm q.b 0 ∧ fo_sm q.b 1 ∧ fo_sm q.b 2 ∧ fo_sm q.b 3 ∧ T148 [fo_vs (joP q.d ++ quV m.s ++ ofV k.s)] (λe d => fo_rI (0 + (↑(e.s.size / 2) : Int)) ∧ fo_C1 163 sdtC (λc => c.s.size ≤ 65536 ∧ c.p ≤ 1048576) [fo_vp (q129 x), agg ⟨q316 q⟩, fo_vl q.d.ar.a q.d.ar.n q.d.ar.cap, fo_vi (0 + (↑(e.s.size / 2) : Int))] (λc b => Br ((bif svL c.p (quV c.s) then (112 : Int) else (0 : Int)) != 0) (Done jobC x F (fo_rt (tuple ⟨[fo_vs ⟨#[]⟩, fo_vi (bif svL c.p (quV c.s) then (112 : Int) else (0 : Int))]⟩)) (q136 F q)) ((joP q.d ++ quV m.s ++ ofV k.s).size + (bif svL c.p (quV c.s) then q34 else quV c.s).size ≤ 9223372036854775807 ∧ fo_rI ((q.d.i : Int) + 1) ∧ ∃(a : JoS), a.ok x.l ∧ (fo_vp (q129 x) = fo_vp (q129 x) ∧ fo_vi 0 = fo_vi 0 ∧ fo_vi 0 = fo_vi 0 ∧ fo_vl q.d.ar.a q.d.ar.n q.d.ar.cap = fo_vl a.ar.a a.ar.n a.ar.cap ∧ fo_vb false = fo_vb false ∧ fo_vs (joP q.d ++ quV m.s ++ ofV k.s ++ bif svL c.p (quV c.s) then q34 else quV c.s) = fo_vs a.o ∧ fo_vs (btL [0, 125]) = fo_vs (btL [0, 125]) ∧ fo_vb false = fo_vb (decide (a.i = 0)) ∧ fo_vl q.d.r.a q.d.r.n q.d.r.cap = fo_vl a.r.a a.r.n a.r.cap ∧ fo_vi ((q.d.i : Int) + 1) = fo_vi ↑a.i ∧ True) ∧ Ent (q136 F q) [(0, F), (1, a.r.A)] ∧ List.length x.l - a.i < List.length x.l - B.i))))))))))))))) (B.o.size + 2 ≤ 9223372036854775807 ∧ T148 [fo_vs (B.o ++ btL [0, 125])] (λb a => fo_rI (0 + (↑(b.s.size / 2) : Int)) ∧ fo_Bd (0 + (↑(b.s.size / 2) : Int) > 8192) (Done jobC x F q237 [(0, F), (1, B.r.A)]) (Done jobC x F (fo_rt (tuple ⟨[fo_vs (B.o ++ btL [0, 125]), fo_vi 0]⟩)) [(0, F), (1, B.r.A)]))))))))) := by
  delta q129 q258 q247 q114 T158 q13 q389 T156 q223 T147 q116 T47 T25 T159 q188 q316 q136 T160 q263 q135 T157 T148 q237 q34 fo_aR fo_sm fo_rI fo_C0 fo_C1 fo_C2 fo_C4 fo_O4 fo_vi fo_vs fo_vb fo_vp fo_vl fo_cl fo_Bd fo_rt fo_vA
  obtain ⟨⟨br, cap, pa, pn, pc⟩, b, l⟩ := x
  obtain ⟨hl, hz, hnd⟩ := hc
  have hr : RhIn ⟨br, cap, pa, pn, pc⟩ b l F := hr
  dsimp only at hl hz hnd ⊢
  have z1 : ∀ n : Nat, n ≤ 20 → n ≤ 1048576 := λn h => by omega
  have fin : ∀ (S : St) (v : Bool), svL 0 (joQ l) = v → Ent S (ofL [F]) → Done jobC ⟨⟨br, cap, pa, pn, pc⟩, b, l⟩ F (returned (tuple #[.string (bif v then ⟨#[]⟩ else joQ l), .int .i64 (bif v then 112 else 0)])) S := λS v h h2 => ⟨(), fo_tv, by subst h; rfl, h2⟩
  refine ⟨⟨(), fo_tv, ⟨rfl, rfl, rfl, rfl, rfl, fo_tv⟩, Ent.pick [0] rfl rfl⟩, λ_ js _ g => ?_⟩
  refine ⟨append_ok (P := Tryz.prog) 1 8 rfl rfl rfl rfl rfl rfl rfl (by decide), rfl, ⟨⟨some ⟨g, 0, none⟩, 0, 0, .cells g [] 3⟩, [], none, 0, 0, []⟩, rfl, rfl, ⟨.blk g 0 0 [] rfl rfl (fo_nr _), rfl, (λu hu => by cases hu), by dsimp only; omega, by dsimp only; omega, λ_ => ⟨rfl, rfl⟩⟩, (λa ha => by cases ha), ?_⟩
  rintro y1 ⟨a1, a2, -⟩
  dsimp only at a1 a2
  intro g2
  refine ⟨append_ok (P := Tryz.prog) 1 8 rfl rfl rfl rfl rfl rfl rfl (by decide), rfl, ⟨y1, [], some ⟨g2, 0, none⟩, 1, 1, [.int .i64 0]⟩, rfl, rfl, ⟨a1, rfl, λu hu => by rw [List.mem_singleton.1 hu] <;> rfl, by dsimp only; omega, by dsimp only; omega, by simp⟩, ?_, ?_⟩
  · intro a ha
    cases ha
    exact Seg.rest (j := 810) (by simp) (Seg.cells (λj u hj => by rw [fo_za]; exact hj))
  rintro y2 -
  refine ⟨kdr_ok, rfl, ⟨⟨br, cap, pa, pn, pc⟩, b, l⟩, rfl, rfl, fo_tv, hr.sub (sub_rest (A := F) 0 (by simp) rfl), λ_ _ => ⟨w1_ok, rfl, ⟨⟨#[123]⟩⟩, rfl, rfl, z1 1 (by decide), fo_tv, λ_ _ => ⟨w1_ok, rfl, ⟨⟨#[125]⟩⟩, rfl, rfl, z1 1 (by decide), fo_tv, λ_ _ => ⟨ker_ok, rfl, ⟨⟨br, cap, pa, pn, pc⟩, b, l⟩, rfl, rfl, by dsimp only; omega, hr.sub (sub_rest (A := F) 0 (by simp) rfl), λks hks => ⟨⟨by decide, by decide⟩, ⟨⟨0, btL [0, 123], ks, y2⟩, ⟨fo_zl _, by show 2 ≤ 16384; omega, (rfl : 2 % 2 = 0), rfl, hks⟩, ⟨rfl, rfl, rfl, rfl, rfl, by dsimp only; rw [of_123], by dsimp only; rw [of_125], rfl, rfl, rfl, fo_tv⟩, Ent.pick [0, 1] rfl rfl⟩, ?_⟩⟩⟩⟩⟩
  rintro ⟨i, o, r, ar⟩ js ⟨hi, ho, hev, he, hrr⟩
  have hok : JoS.ok ⟨i, o, r, ar⟩ l := ⟨hi, ho, hev, he, hrr⟩
  dsimp only at hi ho hev he hrr ⊢
  have hrn := hrr.len
  rw [strs_length, List.length_map] at hrn
  refine br_decide (λh => ?_) (λh => ?_)
  rotate_left
  · have hi2 : i = l.length := by omega
    rw [hi2, List.drop_length] at he
    have he : joQ l = o ++ btL [0, 125] := he
    have hsz : (o ++ btL [0, 125]).size = o.size + 2 := sz_app o _
    refine ⟨by omega, lnr_ok, rfl, ⟨o ++ btL [0, 125]⟩, rfl, rfl, by dsimp only; omega, fo_tv, λ_ _ => ⟨⟨by dsimp only; omega, by dsimp only; omega⟩, br_decide (λc => ?_) (λc => ?_)⟩⟩
    · exact fin _ true (svL_t (by rw [he]; dsimp only at c; omega)) (Ent.pick [0] rfl rfl)
    · have := fin [(0, F), (1, r.A)] false (svL_f (by rw [he]; dsimp only at c; omega)) (Ent.pick [0] rfl rfl)
      rw [he] at this
      exact this
  have hlt : i < l.length := by omega
  obtain ⟨c, q, hra⟩ := hrr.src.some (by omega)
  obtain ⟨⟨k, v⟩, hq⟩ : ∃ q, l[i]? = some q := ⟨l[i], fo_ge hlt⟩
  obtain ⟨hzk, hzv⟩ := hz _ (fo_mg hq)
  dsimp only at hzk hzv
  have hsrd := hrr.srcd
  rw [hra] at hsrd
  have hg : (strs (l.map (·.1)))[i]? = some (.string k) := by
    unfold strs
    rw [fo_gm, fo_gm, hq] <;> rfl
  have hlk : Look r.A ⟨c, q + ((i : Nat) : Int).toNat * 1, none⟩ (.string k) := by
    have := Srcd.look hsrd hg
    rw [fo_tn, Nat.mul_one]
    exact this
  refine ⟨ixq_ok 1 rfl rfl rfl rfl, ⟨c, q, r.n, r.cap, i⟩, by rw [hra], ⟨by dsimp only; omega, h⟩, k, hlk, owr_ok, rfl, ⟨⟨br, cap, pa, pn, pc⟩, b, l, i, k, v⟩, rfl, rfl, ⟨by dsimp only; omega, by dsimp only; omega, hq, hnd⟩, hr.sub (sub_rest (A := F) 0 (by simp) rfl), λ_ _ d => ?_⟩
  repeat refine ⟨⟨rfl, rfl⟩, ?_⟩
  refine ⟨slt_ok, rfl, ⟨b, v⟩, rfl, rfl, fo_tv, fo_tv, λ_ _ => ⟨⟨i, o, r, ar⟩, ?_, ?_⟩⟩
  · refine br_intro (λe => ?_) (λe => ?_)
    · have e : (!decide (i = 0)) = true := e
      rw [Bool.not_eq_true', decide_eq_false_iff_not] at e
      exact ⟨w1_ok, rfl, ⟨⟨#[44]⟩⟩, rfl, rfl, z1 1 (by decide), fo_tv, λ_ _ => ⟨by dsimp only; rw [of_44, btL_size]; simp only [fo_lc, List.length_nil]; omega, ⟨⟨i, o, r, ar⟩, d, v⟩, ⟨⟨hok, k, hq⟩, rfl⟩, ⟨rfl, rfl, rfl, rfl, rfl, by dsimp only [joP]; rw [of_44, fo_df e] <;> rfl, rfl, rfl, rfl, rfl, rfl, fo_tv⟩, Ent.pick [0, 1, 2] rfl rfl⟩⟩
    · have e : (!decide (i = 0)) = false := e
      rw [Bool.not_eq_false', decide_eq_true_eq] at e
      exact ⟨⟨⟨i, o, r, ar⟩, d, v⟩, ⟨⟨hok, k, hq⟩, rfl⟩, ⟨rfl, rfl, rfl, rfl, rfl, by dsimp only [joP]; rw [fo_dt e] <;> rfl, rfl, rfl, rfl, rfl, rfl, fo_tv⟩, Ent.pick [0, 1, 2] rfl rfl⟩
  rintro ⟨_, d, w⟩ js ⟨⟨-, k2, hq2⟩, hd⟩
  cases hd
  dsimp only at hq2 ⊢
  rw [hq] at hq2
  cases hq2
  obtain ⟨P, hP⟩ : ∃ P, P = joP ⟨i, o, r, ar⟩ := ⟨_, rfl⟩
  rw [← hP]
  have hst := obStep (o := o) hq
  have hPd : (bif decide (i = 0) then o else o ++ btL [0, 44]) = P := hP.symm
  rw [hPd] at hst
  have hPz : P.size ≤ 16386 ∧ P.size % 2 = 0 := by
    rw [← hPd]
    cases decide (i = 0) with
    | true => rw [fo_ct]; omega
    | false => rw [fo_cf, sz_app]; simp only [fo_lc, List.length_nil]; omega
  have hk2 := quV_two k
  have hv2 := quV_two v
  have hmono := obF_size quV (l.drop (i + 1)) false (P ++ quV k ++ btL [0, 58] ++ quV v)
  rw [hst] at he
  have hJz : (joQ l).size = (obF quV (l.drop (i + 1)) false (P ++ quV k ++ btL [0, 58] ++ quV v)).size + 2 := by rw [he, sz_app] <;> rfl
  obtain ⟨s1, hs1⟩ : ∃ s1, s1 = P ++ quV k ++ btL [0, 58] := ⟨_, rfl⟩
  have hs1z : s1.size = P.size + (quV k).size + 2 := by rw [hs1, sz_app, fo_sa] <;> rfl
  rw [← hs1] at hmono hJz he
  rw [fo_sa] at hmono
  refine ⟨ixq_ok 1 rfl rfl rfl rfl, ⟨c, q, r.n, r.cap, i⟩, by rw [hra], ⟨by dsimp only; omega, h⟩, k, hlk, qur_ok, rfl, ⟨k⟩, rfl, rfl, by dsimp only; omega, fo_tv, λ_ _ => ⟨by dsimp only; omega, w1_ok, rfl, ⟨⟨#[58]⟩⟩, rfl, rfl, z1 1 (by decide), fo_tv, λ_ _ => ?_⟩⟩
  dsimp only
  rw [of_58, ← hs1]
  refine ⟨by rw [fo_sa, btL_size]; simp only [fo_lc, List.length_nil]; omega, lnr_ok, rfl, ⟨s1⟩, rfl, rfl, by dsimp only; omega, fo_tv, λ_ _ => ⟨⟨by dsimp only; omega, by dsimp only; omega⟩, br_decide (λg => fin _ true (svL_t (by dsimp only at g; omega)) (Ent.pick [0] rfl rfl)) (λg => ?_)⟩⟩
  dsimp only at g
  repeat refine ⟨⟨rfl, rfl⟩, ?_⟩
  refine ⟨slt_ok, rfl, ⟨b, v⟩, rfl, rfl, fo_tv, fo_tv, λ_ _ => ⟨rfl, ?_⟩⟩
  repeat refine ⟨⟨rfl, rfl⟩, ?_⟩
  refine ⟨lnr_ok, rfl, ⟨s1⟩, rfl, rfl, by dsimp only; omega, fo_tv, λ_ _ => ⟨⟨by dsimp only; omega, by dsimp only; omega⟩, sdt_ok, rfl, ⟨b, v, ar.a, ar.n, ar.cap, s1.size / 2⟩, by dsimp only; rw [Int.zero_add], rfl, ⟨by dsimp only; omega, by dsimp only; omega⟩, fo_tv, λ_ _ => ?_⟩⟩
  dsimp only
  by_cases gg : s1.size / 2 + (quV v).size / 2 > 8192
  · rw [svL_t gg]
    exact br_intro (λ_ => fin _ true (svL_t (by omega)) (Ent.pick [0] rfl rfl)) (λe => by cases e)
  · rw [svL_f gg]
    refine br_intro (λe => by cases e) (λ_ => ⟨by show s1.size + (quV v).size ≤ 9223372036854775807; omega, ⟨by omega, by omega⟩, ⟨i + 1, s1 ++ quV v, r, ar⟩, ⟨hlt, by rw [fo_sa]; omega, by rw [fo_sa]; omega, he, hrr⟩, ⟨rfl, rfl, rfl, rfl, rfl, rfl, rfl, rfl, rfl, rfl, fo_tv⟩, Ent.pick [0, 1] rfl rfl, by dsimp only; omega⟩)
theorem jo_ok : fo_k 204 jobC := fo 144 Tryz.func204 jobOv [] jobInv jobCut fo_o [] jo_vc
end
section
open Go
set_option maxHeartbeats 1000000
structure Tr where
  c0 : Int
  s : ByteArray
  q : ByteArray
  b : Nat
  Rd : Atom → Prop
inductive Tr.good : Tr → Prop
  | tx (b : Nat) (w : ByteArray) (hw : w.size ≤ 65536) : Tr.good ⟨4, w, quV w, b, λ_ => True⟩
  | ob (y : RiY) (b : Nat) (l : TVs) (h : JoX.ok ⟨y, b, l⟩) : Tr.good ⟨5, ⟨#[]⟩, joQ l, b, RhIn y b l⟩
theorem Tr.good.sub {g : Tr} (h : g.good) {A B : Atom} (hs : Sub A B) (hr : g.Rd A) : g.Rd B := by
  cases h with
  | tx => trivial
  | ob => exact RhIn.sub hs hr
theorem obF_even : ∀ (l : TVs) (f : Bool) (o : ByteArray), o.size % 2 = 0 → (obF quV l f o).size % 2 = 0
  | [], f, o, h => h
  | (k, v) :: r, f, o, h => by
    rw [obF]
    refine obF_even r false _ ?_
    have h1 := (quV_two k).1
    have h2 := (quV_two v).1
    have h3 : (bif f then o else o ++ btL [0, 44]).size % 2 = 0 := by
      cases f
      · rw [fo_cf, sz_app]; simp only [fo_lc, List.length_nil]; omega
      · exact h
    rw [fo_sa, sz_app, fo_sa]; simp only [fo_lc, List.length_nil]; omega
theorem Tr.good.even {g : Tr} (h : g.good) : g.q.size % 2 = 0 := by
  cases h with
  | tx b w hw => exact (quV_two w).1
  | ob y b l h =>
    have := obF_even l true (btL [0, 123]) rfl
    show (obF quV l true (btL [0, 123]) ++ btL [0, 125]).size % 2 = 0
    rw [sz_app]; simp only [fo_lc, List.length_nil]; omega
abbrev slrC : Con where
  X := Tr
  Y := Unit
  args x := [.pointer (some ⟨x.b, 0, none⟩), .agg #[.int .i64 x.c0, .float .f64 0, .string x.s, .int .i64 0]]
  pre _ := []
  cond x := x.good
  rdc x F := x.Rd F ∧ x.good
  rel _ _ := True
  val _ _ := .returned (.bool false)
  post _ _ := []
  rmono _ _ _ hs h := ⟨h.2.sub hs h.1, h.2⟩
theorem slr_ok : fo_k 162 slrC := ⟨λx F I w hc hr hs => by
  have hc : x.good := hc
  obtain ⟨r1, -⟩ := hr
  cases hc with
  | tx b w2 hw => exact slt_ok.h ⟨b, w2⟩ F I w trivial trivial hs
  | ob y b l h => exact slo_ok.h ⟨y, b, l⟩ F I w trivial r1 hs⟩
abbrev sdoC : Con := { jobC with args := λx => [.pointer (some ⟨x.b, 0, none⟩), .agg #[.int .i64 5, .float .f64 0, .string ⟨#[]⟩, .int .i64 0], .slice none 0 0, .int .i64 0] }
theorem sdo_vc (x : JoX) (F : Atom) (hc : sdoC.cond x) (hr : sdoC.rdc x F) :
 ∀(c : Nat), fo_sm c 0 ∧ fo_sm c 0 ∧ fo_sm c 0 ∧ fo_sm c 0 ∧ fo_sm c 0 ∧ fo_sm c 0 ∧ fo_sm c 3 ∧ fo_C2 204 jobC (λb => b.ok) (λb rr => RhIn b.y b.b b.l rr) [fo_vp (q129 x), fo_vi 0, fo_vl none 0 0, fo_vi 0] (fo_aR (q390 F c) []) (λb a => Done sdoC x F (fo_rt (tuple ⟨[fo_vs (bif svL 0 (joQ b.l) then q34 else joQ b.l), fo_vi (bif svL 0 (joQ b.l) then (112 : Int) else (0 : Int))]⟩)) (q390 F c)) := by
  delta q129 q14 q390 q34 fo_aR fo_sm fo_C2 fo_vi fo_vs fo_vp fo_vl fo_cl fo_rt
  intro d
  repeat refine ⟨⟨rfl, rfl⟩, ?_⟩
  exact ⟨jo_ok, rfl, x, rfl, rfl, hc, hr.sub (sub_rest (A := F) 0 (by simp) rfl), λ_ _ => ⟨(), fo_tv, rfl, Ent.pick [0] rfl rfl⟩⟩
theorem sdo_ok : fo_k 163 sdoC := fo 82 Tryz.func163 (λ_ _ => [(0, 0, .n 901), (3, 1, .q [.aq 901]), (3, 5, .q [.aq 901]), (5, 1, .q [.aq 901]), (7, 1, .q [.aq 901]), (9, 1, .q [.aq 901]), (11, 1, .q [.aq 901]), (2, 2, .q [.aq 901]), (2, 5, .c jobC [] [])]) [] fo_i fo_i fo_o [] sdo_vc
abbrev sdrC : Con where
  X := Tr
  Y := Unit
  args x := [.pointer (some ⟨x.b, 0, none⟩), .agg #[.int .i64 x.c0, .float .f64 0, .string x.s, .int .i64 0], .slice none 0 0, .int .i64 0]
  pre _ := []
  cond x := x.good
  rdc x F := x.Rd F ∧ x.good
  rel _ _ := True
  val x _ := .returned (.tuple #[.string (bif svL 0 x.q then ⟨#[]⟩ else x.q), .int .i64 (bif svL 0 x.q then 112 else 0)])
  post _ _ := []
  rmono _ _ _ hs h := ⟨h.2.sub hs h.1, h.2⟩
theorem sdr_ok : fo_k 163 sdrC := ⟨λx F I w hc hr hs => by
  have hc : x.good := hc
  obtain ⟨r1, -⟩ := hr
  cases hc with
  | tx b w2 hw => exact sdt_ok.h ⟨b, w2, none, 0, 0, 0⟩ F I w ⟨hw, fo_zl _⟩ trivial hs
  | ob y b l h => exact sdo_ok.h ⟨y, b, l⟩ F I w h r1 hs⟩
abbrev srrC : Con where
  X := Tr
  Y := Unit
  args x := [.pointer (some ⟨x.b, 0, none⟩), .agg #[.int .i64 x.c0, .float .f64 0, .string x.s, .int .i64 0]]
  pre _ := []
  cond x := x.good
  rdc x F := x.Rd F ∧ x.good
  rel _ _ := True
  val x _ := .returned (.tuple #[.agg #[.int .i64 (bif svL 0 x.q then 0 else 4), .float .f64 0, .string (bif svL 0 x.q then ⟨#[]⟩ else x.q), .int .i64 0], .int .i64 (bif svL 0 x.q then 112 else 0)])
  post _ _ := []
  rmono _ _ _ hs h := ⟨h.2.sub hs h.1, h.2⟩
abbrev q82 (x : Tr) : List Value := [fo_vi x.c0, float f64 0, fo_vs x.s, fo_vi 0]
abbrev q351 (F : Atom) (h : Nat) (x : Tr) (g : Nat) := [(0, F), (901, fo_cl h (q82 x) 30), (902, fo_cl g q7 30)]
theorem srr_vc (x : Tr) (F : Atom) (hc : srrC.cond x) (hr : srrC.rdc x F) :
 ∀(h g : Nat), fo_sm h 0 ∧ fo_sm h 1 ∧ fo_sm h 2 ∧ fo_sm h 3 ∧ fo_C2 162 slrC (λf => f.good) (λf rr => f.Rd rr ∧ f.good) [fo_vp (some ⟨x.b, 0, none⟩), agg ⟨q82 x⟩] (fo_aR (q351 F h x g) []) (λf e => fo_sm h 0 ∧ fo_sm h 1 ∧ fo_sm h 2 ∧ fo_sm h 3 ∧ fo_C2 163 sdrC (λd => d.good) (λd rr => d.Rd rr ∧ d.good) [fo_vp (some ⟨x.b, 0, none⟩), agg ⟨q82 x⟩, fo_vl none 0 0, fo_vi 0] (fo_aR (q351 F h x g) []) (λd c => Br ((bif svL 0 d.q then (112 : Int) else (0 : Int)) != 0) (fo_sm g 0 ∧ fo_sm g 1 ∧ fo_sm g 2 ∧ fo_sm g 3 ∧ fo_sm g 0 ∧ fo_sm g 1 ∧ fo_sm g 2 ∧ fo_sm g 3 ∧ Done srrC x F (fo_rt (tuple ⟨[agg ⟨q7⟩, fo_vi (bif svL 0 d.q then (112 : Int) else (0 : Int))]⟩)) (q351 F h x g)) (T123 [fo_vs (bif svL 0 d.q then q34 else d.q)] (λb a => fo_sm g 0 ∧ fo_sm g 1 ∧ fo_sm g 2 ∧ fo_sm g 3 ∧ fo_sm g 0 ∧ fo_sm g 1 ∧ fo_sm g 2 ∧ fo_sm g 3 ∧ Done srrC x F (fo_rt (tuple ⟨[agg ⟨q164 b⟩, fo_vi 0]⟩)) [(0, F), (901, fo_cl h (q82 x) 30), (902, fo_cl g (q164 b) 30)])))) := by
  delta q82 q7 q351 T123 q34 q164 fo_aR fo_sm fo_C0 fo_C2 fo_vi fo_vs fo_vp fo_vl fo_cl fo_rt
  obtain ⟨r1, hg⟩ := hr
  have fin : ∀ (S : St) (v : Bool), svL 0 x.q = v → Ent S (ofL [F]) → Done srrC x F (returned (tuple #[.agg #[.int .i64 (bif v then 0 else 4), .float .f64 0, .string (bif v then ⟨#[]⟩ else x.q), .int .i64 0], .int .i64 (bif v then 112 else 0)])) S := λS v h h2 => ⟨(), fo_tv, by subst h; rfl, h2⟩
  intro b b1
  repeat refine ⟨⟨rfl, rfl⟩, ?_⟩
  refine ⟨slr_ok, rfl, x, rfl, rfl, hc, ⟨hg.sub (sub_rest (A := F) 0 (by simp) rfl) r1, hg⟩, λ_ _ => ?_⟩
  repeat refine ⟨⟨rfl, rfl⟩, ?_⟩
  refine ⟨sdr_ok, rfl, x, rfl, rfl, hc, ⟨hg.sub (sub_rest (A := F) 0 (by simp) rfl) r1, hg⟩, λ_ _ => ?_⟩
  try dsimp only
  revert fin
  generalize svL 0 x.q = u
  intro fin
  cases u with
  | true =>
    refine br_intro (λ_ => ?_) (λh => by cases h)
    repeat refine ⟨⟨rfl, rfl⟩, ?_⟩
    exact fin _ true rfl (Ent.pick [0] rfl rfl)
  | false =>
    refine br_intro (λh => by cases h) (λ_ => ⟨t1_ok, rfl, ⟨x.q⟩, rfl, rfl, fo_tv, fo_tv, λ_ _ => ?_⟩)
    repeat refine ⟨⟨rfl, rfl⟩, ?_⟩
    exact fin _ false rfl (Ent.pick [0] rfl rfl)
theorem srr_ok : fo_k 109 srrC := fo 24 Tryz.func109 (λ_ _ => [(0, 0, .n 901), (0, 1, .n 902), (1, 1, .q (at4 901)), (1, 2, .c slrC [] []), (3, 1, .q (at4 901)), (3, 2, .c sdrC [] []), (5, 2, .w (at4 902)), (6, 1, .c t1C [] []), (6, 2, .w (at4 902))]) [] fo_i fo_i fo_o [LH.aq 902, LH.aq 902, LH.aq 902, LH.aq 902] srr_vc
abbrev tdrC : Con where
  X := Tr
  Y := Unit
  args x := [.pointer (some ⟨x.b, 0, none⟩), .agg #[.int .i64 x.c0, .float .f64 0, .string x.s, .int .i64 0]]
  pre _ := []
  cond x := x.good
  rdc x F := x.Rd F ∧ x.good
  rel _ _ := True
  val x _ := .returned (.tuple #[.string ((jsV x.q).getD ⟨#[]⟩), .bool (jsV x.q).isSome])
  post _ _ := []
  rmono _ _ _ hs h := ⟨h.2.sub hs h.1, h.2⟩
theorem tdr_vc (x : Tr) (F : Atom) (hc : tdrC.cond x) (hr : tdrC.rdc x F) :
 ∀(f : Nat), fo_sm f 0 ∧ fo_sm f 1 ∧ fo_sm f 2 ∧ fo_sm f 3 ∧ fo_C2 109 srrC (λe => e.good) (λe rr => e.Rd rr ∧ e.good) [fo_vp (some ⟨x.b, 0, none⟩), agg ⟨q82 x⟩] (fo_aR [(0, F), (901, fo_cl f (q82 x) 30)] []) (λe d => ∀(c : Nat), fo_sm c 0 ∧ fo_sm c 1 ∧ fo_sm c 2 ∧ fo_sm c 3 ∧ fo_sm c 2 ∧ fo_C1 30 nrnC (λb => b.s.size ≤ 1048576) [fo_vs (bif svL 0 e.q then q34 else e.q)] (λb a => Done tdrC x F (fo_rt (tuple ⟨[fo_vs (nrV b.s), fo_vb ((bif svL 0 e.q then (112 : Int) else (0 : Int)) == 0)]⟩)) [(0, F), (901, fo_cl f (q82 x) 30), (902, fo_cl c [fo_vi (bif svL 0 e.q then (0 : Int) else (4 : Int)), float f64 0, fo_vs (bif svL 0 e.q then q34 else e.q), fo_vi 0] 30)])) := by
  delta q82 q34 fo_aR fo_sm fo_C1 fo_C2 fo_vi fo_vs fo_vb fo_vp fo_cl fo_rt
  obtain ⟨r1, hg⟩ := hr
  have hev := hg.even
  have fin : ∀ (S : St) (o : Option ByteArray), jsV x.q = o → Ent S (ofL [F]) → Done tdrC x F (returned (tuple #[string (o.getD ⟨#[]⟩), bool o.isSome])) S := λS o h1 h2 => ⟨(), fo_tv, by subst h1; rfl, h2⟩
  intro b
  repeat refine ⟨⟨rfl, rfl⟩, ?_⟩
  refine ⟨srr_ok, rfl, x, rfl, rfl, hc, ⟨hg.sub (sub_rest (A := F) 0 (by simp) rfl) r1, hg⟩, λ_ _ b1 => ?_⟩
  repeat refine ⟨⟨rfl, rfl⟩, ?_⟩
  cases hu : svL 0 x.q with
  | true =>
    have hu := fo_od1 hu
    exact ⟨nrr_ok, rfl, ⟨⟨#[]⟩⟩, rfl, rfl, fo_zl _, fo_tv, λ_ _ => fin _ none (by unfold jsV; rw [fo_df (show ¬ x.q.size ≤ 16384 by omega)] <;> rfl) (Ent.pick [0] rfl rfl)⟩
  | false =>
    have hu := fo_od0 hu
    exact ⟨nrr_ok, rfl, ⟨x.q⟩, rfl, rfl, by dsimp only; omega, fo_tv, λ_ _ => fin _ (some (nrV x.q)) (by unfold jsV; rw [fo_dt (show x.q.size ≤ 16384 by omega)] <;> rfl) (Ent.pick [0] rfl rfl)⟩
theorem tdr_ok : fo_k 62 tdrC := fo 25 Tryz.func62 (λ_ _ => [(0, 0, .n 901), (1, 1, .q (at4 901)), (1, 2, .c srrC [] []), (1, 6, .n 902), (1, 7, .w (at4 902)), (2, 1, .q [.aq 902]), (2, 2, .c nrnC [] [])]) [] fo_i fo_i fo_o [] tdr_vc
end
end Go.Proofs.YtjdabjmjldiodaaGreatDoor
