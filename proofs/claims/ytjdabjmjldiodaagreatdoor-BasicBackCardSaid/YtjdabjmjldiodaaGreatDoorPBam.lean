/- A part of the proof that pennantlaw23.BasicBack answers true at every input. -/
import Derived.Test.YtjdabjmjldiodaaGreatDoorPBal
set_option linter.all false
namespace Go.Proofs.YtjdabjmjldiodaaGreatDoor
set_option maxRecDepth 100000
open Go.Value (int slice string bool pointer agg tuple func float iface nilIface)
open Go.IntKind (i64 u8 u64 i32 u32 u16 i8 i16)
open Go.FloatKind (f64)
open Go.Ending (returned panicked)
section
open Go
set_option maxHeartbeats 1000000
def sCRLF : ByteArray := ⟨#[13, 10]⟩
def sEnd : ByteArray := ⟨#[13, 10, 13, 10]⟩
def sTab : ByteArray := ⟨#[32, 9]⟩
def sDig : ByteArray := ⟨#[48, 49, 50, 51, 52, 53, 54, 55, 56, 57]⟩
def nmCL : ByteArray := ⟨#[99, 111, 110, 116, 101, 110, 116, 45, 108, 101, 110, 103, 116, 104]⟩
def nmHo : ByteArray := ⟨#[104, 111, 115, 116]⟩
def nmTE : ByteArray := ⟨#[116, 114, 97, 110, 115, 102, 101, 114, 45, 101, 110, 99, 111, 100, 105, 110, 103]⟩
def hvV (x : ByteArray) : ByteArray := trmV (inS' sTab) (cutB x 58)
def hfV (x : ByteArray) : Fld := (smV (cutA x 58), hvV x)
def sh1 (a : Option Addr) (cap : Nat) : Option Addr := if cap = 1 then a else a.map (·.add 1)
structure S1X where
  a : Option Addr
  n : Nat
  cap : Nat
def s1Q : QCon where
  X := S1X
  args x := [.slice x.a x.n x.cap, .int .i64 1]
  cond x := 1 ≤ x.n
  val x := .slice (sh1 x.a x.cap) (x.n - 1) (x.cap - 1)
theorem s1q_ok {P : Program} {o : Oper} {t e : TypeId} {x y : Operand} {inf : TypeInfo} (ho : o.op = .slice t x (some y) none none) (ht : P.underlying t = some (.slice e)) (hi : P.info? e = some inf) (h1 : inf.size = 1) : QOpOk P o s1Q := by
  refine ⟨λq w ρ ha hc => ?_⟩
  obtain ⟨a, n, cap⟩ := q
  have hc : 1 ≤ n := hc
  simp only [ho, Op.operands, s1Q] at ha
  have ha2 : ρ x = .slice a n cap ∧ ρ y = .int .i64 1 := by simpa using ha
  obtain ⟨hx, hy⟩ := ha2
  have hn : (1 : Int) ≤ n := by omega
  have hsz : P.cellsOf e = 1 := by unfold Program.cellsOf; simp [hi, h1]
  simp [execOp, ho, hx, hy, Instr.sliceAt, Instr.slice, Instr.sliceBounds, Instr.sliceBound, asIntOf, run_underlying ht, run_sizeOf w hi, hsz, hn, s1Q, sh1]
structure RdX where
  s : ByteArray
  i : Nat
  l0 : ByteArray
  ls : List ByteArray
  n : Nat
def RdX.fs (x : RdX) : List Fld := x.ls.map hfV
structure RdX.ok (x : RdX) : Prop where
  s : x.s.size ≤ 1048576
  i : Lib.index x.s.data.toList sEnd.data.toList = x.i
  i2 : x.i + 4 ≤ 4096
  ll : x.ls.length ≤ 1000000
  l : spW sCRLF (x.s.extract 0 x.i) = x.l0 :: x.ls
  r : (rqlV x.l0).2.2 = true
  f : ∀ z ∈ x.ls, atV z 58 0 < z.size ∧ tokV (cutA z 58) = true ∧ thV (hvV z) = true
  c1 : (ctnV nmCL x.fs).1 = 1
  c2 : (ctnV nmHo x.fs).1 = 1
  c3 : (ctnV nmTE x.fs).1 = 0
  v : AuOk (ctnV nmCL x.fs).2
  v2 : trmV (inS' sDig) (ctnV nmCL x.fs).2 = ⟨#[]⟩
  v3 : atN (ctnV nmCL x.fs).2 (ctnV nmCL x.fs).2.size = x.n
  n : x.n ≤ 4096
  e : x.i + 4 + x.n ≤ x.s.size
structure RdY where
  m : Nat
  r : Row
def rdMsg (x : RdX) (y : RdY) : List Value := [.string x.l0, .slice y.r.a y.r.n y.r.cap, .string (x.s.extract (x.i + 4) (x.i + 4 + x.n)), .int .i64 ((x.i + 4 + x.n : Nat) : Int)]
abbrev rdsC : Con where
  X := RdX
  Y := RdY
  args x := [.string x.s, .func (.func 140) #[] #[], .bool true]
  pre _ := []
  cond x := x.ok
  rdc _ F := Gl F
  rel x y := IsRow 36 2 (fCs x.fs) y.r
  val _ y := .returned (.tuple #[.pointer (some ⟨y.m, 0, none⟩), .nilIface])
  post x y := [.cells y.m (rdMsg x y) 199, y.r.A]
  rmono _ _ _ hs h := h.sub hs
structure RdS where
  m : Nat
  y : Row
  i : Nat
  r : Row
theorem cutA_size (s : ByteArray) (c : Nat) : (cutA s c).size ≤ s.size := by
  unfold cutA
  rw [fo_se]; omega
theorem cutB_size (s : ByteArray) (c : Nat) : (cutB s c).size ≤ s.size := by
  unfold cutB
  rw [fo_se]; omega
theorem trmV_size (p : Nat → Bool) (s : ByteArray) : (trmV p s).size ≤ s.size := by
  unfold trmV
  rw [fo_se]; omega
theorem ascTab : asc sTab := by unfold asc; decide
theorem ascDig : asc sDig := by unfold asc; decide
structure RdS.ok (x : RdX) (d : RdS) : Prop where
  i : d.i ≤ x.ls.length
  y : IsRow 9 1 (strs (x.l0 :: x.ls)) d.y
  r : IsRow 36 2 (fCs ((x.ls.take d.i).map hfV)) d.r
  n : d.r.n = d.i
structure IxkiX where
  s : ByteArray
  p : ByteArray
  i : Nat
abbrev ixkiC : Con where
  X := IxkiX
  Y := Unit
  args x := [.string x.s, .string x.p]
  pre _ := []
  cond x := x.s.size ≤ 1048576 ∧ Lib.index x.s.data.toList x.p.data.toList = x.i
  rdc _ F := Gl F
  rel _ _ := True
  val x _ := .returned (.int .i64 x.i)
  post _ _ := []
  rmono _ _ _ hs h := h.sub hs
theorem ixki_ok : fo_k 90 ixkiC := ⟨λx F I w hc hr hs => (ix_ok'.h ⟨x.s, x.p⟩ F I w hc.1 hr hs).mono λe w' ⟨z, J, k1, k2, k3, k4, k5⟩ => ⟨z, J, k1, by rw [k2]; show returned (.int .i64 (Lib.index x.s.data.toList x.p.data.toList)) = returned (.int .i64 x.i); rw [hc.2], k3, k4, k5⟩⟩
abbrev ctkC (k : Nat) : Con where
  X := CtnX
  Y := Unit
  args x := [.pointer (some ⟨x.b, 0, none⟩), .string x.nm]
  pre _ := []
  cond x := (IsSrc 2 (fCs x.l) x.a x.n ∧ x.n ≤ 1000000) ∧ (ctnV x.nm x.l).1 = k
  rdc x F := Look F ⟨x.b, 1, none⟩ (.slice x.a x.n x.c) ∧ Srcd F x.a (fCs x.l)
  rel _ _ := True
  val x _ := .returned (.tuple #[.int .i64 k, .string (ctnV x.nm x.l).2])
  post _ _ := []
  rmono _ _ _ hs h := ⟨h.1.sub hs, h.2.sub hs⟩
theorem ctk_ok {k : Nat} : fo_k 143 (ctkC k) := ⟨λx F I w hc hr hs => (ctn_ok.h x F I w hc.1 hr hs).mono λe w' ⟨z, J, k1, k2, k3, k4, k5⟩ => ⟨z, J, k1, by rw [k2]; show returned (.tuple #[.int .i64 (ctnV x.nm x.l).1, .string (ctnV x.nm x.l).2]) = returned (.tuple #[.int .i64 k, .string (ctnV x.nm x.l).2]); rw [hc.2], k3, k4, k5⟩⟩
structure AukX where
  s : ByteArray
  n : Nat
abbrev aukC : Con where
  X := AukX
  Y := Unit
  args x := [.string x.s]
  pre _ := []
  cond x := AuOk x.s ∧ atN x.s x.s.size = x.n
  rdc _ _ := True
  rel _ _ := True
  val x _ := .returned (.tuple #[.int .i64 x.n, .nilIface])
  post _ _ := []
theorem auk_ok : fo_k 118 aukC := ⟨λx F I w hc hr hs => (auo_ok.h ⟨x.s⟩ F I w hc.1 hr hs).mono λe w' ⟨z, J, k1, k2, k3, k4, k5⟩ => ⟨z, J, k1, by rw [k2]; show returned (.tuple #[.int .i64 (atN x.s x.s.size), .nilIface]) = returned (.tuple #[.int .i64 x.n, .nilIface]); rw [hc.2], k3, k4, k5⟩⟩
def rdsInv (x : RdX) (F : Atom) : Nat → Option Inv := fun
  | 0 => some { X := RdS, P := λd => d.ok x, mu := λd => x.ls.length - d.i, lv := λd => [(0, .string x.s), (2, .bool true), (10, .pointer (some ⟨d.m, 0, none⟩)), (61, .slice (sh1 d.y.a d.y.cap) x.ls.length (d.y.cap - 1)), (62, .int .i64 x.ls.length), (63, .int .i64 d.i)], st := λd => [F, d.y.A, .cells d.m [.string x.l0, .slice d.r.a d.r.n d.r.cap, .string ⟨#[]⟩, .int .i64 ((x.i + 4 : Nat) : Int)] 199, d.r.A] }
  | _ => none
def rdsCut (x : RdX) (F : Atom) : Nat → Option Inv := fun
  | 19 => some { X := RdY, P := λd => IsRow 36 2 (fCs x.fs) d.r, mu := λ_ => 0, lv := λd => [(0, .string x.s), (2, .bool true), (10, .pointer (some ⟨d.m, 0, none⟩))], st := λd => [F, .cells d.m [.string x.l0, .slice d.r.a d.r.n d.r.cap, .string ⟨#[]⟩, .int .i64 ((x.i + 4 : Nat) : Int)] 199, d.r.A] }
  | _ => none
abbrev q203 (F : Atom) (z : Row) (v : Nat) (w : ByteArray) (C : IxkiX) := [(0, F), (1, z.A), (7060, fo_cl v [fo_vs w, fo_vl none 0 0, fo_vs ⟨#[]⟩, fo_vi ((C.i : Int) + 4)] 199)]
abbrev q143 := fo_rt (tuple ⟨[fo_vp none, fo_vf 32 (fo_vi 220)]⟩)
abbrev q326 (x : RdX) (a : RdS) : List Value := [fo_vs x.l0, fo_vl a.r.a a.r.n a.r.cap, fo_vs ⟨#[]⟩, fo_vi (↑(x.i + 4) : Int)]
abbrev q33 (F : Atom) (a : RdS) (x : RdX) := [(0, F), (1, a.y.A), (2, fo_cl a.m (q326 x a) 199), (3, a.r.A)]
abbrev q249 (a : RdY) : Option Addr := some ⟨a.m, 0, none⟩
abbrev q31 (F : Atom) (a : RdY) (x : RdX) := [(0, F), (1, fo_cl a.m [fo_vs x.l0, fo_vl a.r.a a.r.n a.r.cap, fo_vs ⟨#[]⟩, fo_vi (↑(x.i + 4) : Int)] 199), (2, a.r.A)]
def q301 (w0 : CtnX) := IsSrc 2 (fCs w0.l) w0.a w0.n ∧ w0.n ≤ 1000000
def q232 (w1 : Atom) (w0 : CtnX) := Look w1 ⟨w0.b, 1, none⟩ (fo_vl w0.a w0.n w0.c) ∧ Srcd w1 w0.a (fCs w0.l)
def T118 := fo_C2 143 (ctkC 1) (λw0 => q301 w0 ∧ (ctnV w0.nm w0.l).fst = 1) (λw0 w1 => q232 w1 w0)
def q118 (x : RdX) (F : Atom) (l : RdY) := Done rdsC x F (fo_rt (tuple ⟨[fo_vp none, fo_vf 32 (fo_vi 222)]⟩)) (q31 F l x)
theorem rds_vc (x : RdX) (F : Atom) (hc : rdsC.cond x) (hr : rdsC.rdc x F) :
 fo_C2 90 ixkiC (λC => C.s.size ≤ 1048576 ∧ Lib.index C.s.data.toList C.p.data.toList = C.i) (λ_ => Gl) [fo_vs x.s, fo_vs ⟨#[13, 10, 13, 10]⟩] (q114 F) (λC B => fo_rI ((C.i : Int) + 4) ∧ fo_Bd ((C.i : Int) + 4 > (4096 : Int)) (Done rdsC x F (fo_rt (tuple ⟨[fo_vp none, fo_vf 32 (fo_vi 2)]⟩)) [(0, F)]) (((0 : Int) ≤ (0 : Int) ∧ 0 ≤ (C.i : Int) ∧ (C.i : Int) ≤ (x.s.size : Int)) ∧ T24 [fo_vs (x.s.extract (Int.toNat (0 : Int)) (C.i : Int).toNat), fo_vs ⟨#[13, 10]⟩] ([] : List Atom) (q114 F) (λA z => T48 (opIn Tryz.f139 7 1) [fo_vl z.a z.n z.cap, fo_vi 0] (λy => T25 z.A ⟨y.b, y.o + y.n.toNat * 1, none⟩ (λw => fo_rI ((C.i : Int) + 4) ∧ ∀(v : Nat), fo_sm v 0 ∧ fo_C2 140 rqfC (λu => u.s.size ≤ 1048576) (λ_ => Gl) [fo_vs w] (fo_aR (q203 F z v w C) []) (λu t => Br (!(rqlV u.s).snd.snd) (Done rdsC x F q143 (q203 F z v w C)) ((QOpOk Tryz.prog (opIn Tryz.f139 10 1) s1Q ∧ ∃(s : S1X), [fo_vl z.a z.n z.cap, fo_vi 1] = [fo_vl s.a s.n s.cap, fo_vi 1] ∧ 1 ≤ s.n ∧ (∃(a : RdS), RdS.ok x a ∧ (fo_vs x.s = fo_vs x.s ∧ fo_vb true = fo_vb true ∧ fo_vp (q17 v) = fo_vp (some ⟨a.m, 0, none⟩) ∧ fo_vl (sh1 s.a s.cap) (s.n - 1) (s.cap - 1) = fo_vl (sh1 a.y.a a.y.cap) x.ls.length (a.y.cap - 1) ∧ fo_vi (↑(s.n - 1) : Int) = fo_vi ↑x.ls.length ∧ fo_vi 0 = fo_vi ↑a.i ∧ True) ∧ Ent (q203 F z v w C) (q33 F a x)) ∧ fo_vA λ(r : RdS) _ => RdS.ok x r → fo_Bd ((r.i : Int) < (x.ls.length : Int)) (T48 (opIn Tryz.f139 12 0) [fo_vl (sh1 r.y.a r.y.cap) x.ls.length (r.y.cap - 1), fo_vi ↑r.i] (λp => T25 r.y.A ⟨p.b, p.o + p.n.toNat * 1, none⟩ (λo => T27 [fo_vs o, fo_vs ⟨#[58]⟩] (fo_aR (q33 F r x) []) (λn m => T31 [fo_vs (cutB n.s n.c), fo_vs ⟨#[32, 9]⟩] (λl k => Br (!decide (atV n.s n.c 0 < n.s.size)) (Done rdsC x F q143 (q33 F r x)) (T115 [fo_vs (cutA n.s n.c)] (λj i => Br (!tokV j.s) (Done rdsC x F q143 (q33 F r x)) (fo_C1 190 thC (λh => h.s.size ≤ 1048576) [fo_vs (trmV (inS' l.t) l.s)] (λh g => Br (!thV h.s) (Done rdsC x F q143 (q33 F r x)) (true = true ∧ fo_sm r.m 1 ∧ fo_C2 191 smlC (λf => f.s.size ≤ 1048576) (λ_ => Utf) [fo_vs (cutA n.s n.c)] (fo_aR (q33 F r x) []) (λf e => ∀(d : Nat), T29 (opIn Tryz.f139 17 10) [fo_vl r.r.a r.r.n r.r.cap, fo_vl (q17 d) 1 1] [r.r.A] (fo_aR [(0, F), (1, r.y.A), (2, fo_cl r.m (q326 x r) 199), (3, r.r.A), (17090, fo_cl d [fo_vs (smV f.s), fo_vs (trmV (inS' l.t) l.s)] 36)] [3]) (λc b => fo_sm r.m 1 ∧ fo_rI ((r.i : Int) + 1) ∧ ∃(a : RdS), RdS.ok x a ∧ (fo_vs x.s = fo_vs x.s ∧ fo_vb true = fo_vb true ∧ fo_vp (some ⟨r.m, 0, none⟩) = fo_vp (some ⟨a.m, 0, none⟩) ∧ fo_vl (sh1 r.y.a r.y.cap) x.ls.length (r.y.cap - 1) = fo_vl (sh1 a.y.a a.y.cap) x.ls.length (a.y.cap - 1) ∧ fo_vi ↑x.ls.length = fo_vi ↑x.ls.length ∧ fo_vi ((r.i : Int) + 1) = fo_vi ↑a.i ∧ True) ∧ Ent [(0, F), (1, r.y.A), (2, fo_cl r.m [fo_vs x.l0, fo_vl b.a b.n b.cap, fo_vs ⟨#[]⟩, fo_vi (↑(x.i + 4) : Int)] 199), (3, b.A), (17090, fo_cl d [fo_vs (smV f.s), fo_vs (trmV (inS' l.t) l.s)] 36)] (q33 F a x) ∧ x.ls.length - a.i < x.ls.length - r.i)))))))))))) (∃(a : RdY), IsRow 36 2 (fCs x.fs) a.r ∧ (fo_vs x.s = fo_vs x.s ∧ fo_vb true = fo_vb true ∧ fo_vp (some ⟨r.m, 0, none⟩) = fo_vp (q249 a) ∧ True) ∧ Ent (q33 F r x) (q31 F a x))) ∧ fo_vA λ(l : RdY) _ => IsRow 36 2 (fCs x.fs) l.r → T118 [fo_vp (q249 l), fo_vs ⟨#[99, 111, 110, 116, 101, 110, 116, 45, 108, 101, 110, 103, 116, 104]⟩] (fo_aR (q31 F l x) []) (λj i => T118 [fo_vp (q249 l), fo_vs ⟨#[104, 111, 115, 116]⟩] (fo_aR (q31 F l x) []) (λh g => Br ((ctnV j.nm j.l).snd.toList == q59.toList) (q118 x F l) (fo_Bd ((↑(ctnV j.nm j.l).snd.size : Int) > 9) (q118 x F l) (T31 [fo_vs (ctnV j.nm j.l).snd, fo_vs ⟨#[48, 49, 50, 51, 52, 53, 54, 55, 56, 57]⟩] (λf e => Br (!(trmV (inS' f.t) f.s).toList == q59.toList) (q118 x F l) (fo_C1 118 aukC (λd => AuOk d.s ∧ atN d.s d.s.size = d.n) [fo_vs (ctnV j.nm j.l).snd] (λd c => fo_C2 143 (ctkC 0) (λb => q301 b ∧ (ctnV b.nm b.l).fst = 0) (λb rr => q232 rr b) [fo_vp (q249 l), fo_vs ⟨#[116, 114, 97, 110, 115, 102, 101, 114, 45, 101, 110, 99, 111, 100, 105, 110, 103]⟩] (fo_aR (q31 F l x) []) (λb a => fo_Bd ((d.n : Int) > 4096) (q118 x F l) (fo_sm l.m 3 ∧ fo_rI ((x.s.size : Int) - (↑(x.i + 4) : Int)) ∧ fo_Bd ((x.s.size : Int) - (↑(x.i + 4) : Int) < (d.n : Int)) (Done rdsC x F (fo_rt (tuple ⟨[fo_vp none, fo_vf 32 (fo_vi 3)]⟩)) (q31 F l x)) (true = true ∧ fo_sm l.m 3 ∧ fo_sm l.m 3 ∧ fo_rI ((↑(x.i + 4) : Int) + (d.n : Int)) ∧ (0 ≤ (↑(x.i + 4) : Int) ∧ (↑(x.i + 4) : Int) ≤ (↑(x.i + 4) : Int) + (d.n : Int) ∧ (↑(x.i + 4) : Int) + (d.n : Int) ≤ (x.s.size : Int)) ∧ fo_sm l.m 2 ∧ fo_sm l.m 3 ∧ fo_rI ((↑(x.i + 4) : Int) + (d.n : Int)) ∧ fo_sm l.m 3 ∧ Done rdsC x F (fo_rt (tuple ⟨[fo_vp (q249 l), nilIface]⟩)) [(0, F), (1, fo_cl l.m [fo_vs x.l0, fo_vl l.r.a l.r.n l.r.cap, fo_vs (x.s.extract (↑(x.i + 4) : Int).toNat ((↑(x.i + 4) : Int) + (d.n : Int)).toNat), fo_vi ((↑(x.i + 4) : Int) + (d.n : Int))] 199), (2, l.r.A)]))))))))))))))))) := by
  delta q114 T24 q175 T48 T25 q203 q143 q17 q326 q33 T27 q229 T31 q237 T115 q293 q261 q149 T29 q249 q31 q301 q232 T118 q59 q118 fo_aR fo_sm fo_rI fo_C1 fo_C2 fo_C4 fo_O4 fo_vi fo_vs fo_vb fo_vp fo_vl fo_vf fo_cl fo_Bd fo_rt fo_vA
  have hr : Gl F := hr
  have hc : x.ok := hc
  have gl0 : ∀ (S : St), gt S 0 = F → Gl (.pred (rest S [])) := λS e => hr.sub (sub_rest (A := F) 0 (by simp) e)
  have hs := hc.s
  have hi2 := hc.i2
  have he := hc.e
  have hll := hc.ll
  refine ⟨ixki_ok, rfl, ⟨x.s, sEnd, x.i⟩, rfl, rfl, ⟨hs, hc.i⟩, gl0 _ rfl, λ_ _ => ⟨⟨by dsimp only; omega, by dsimp only; omega⟩, br_decide (λh => absurd h (by dsimp only; omega)) (λ_ => ⟨⟨by omega, by omega, by dsimp only; omega⟩, spl_ok, rfl, ⟨x.s.extract 0 x.i, sCRLF⟩, rfl, rfl, ⟨by rw [fo_se]; omega, (by decide : 1 ≤ sCRLF.size)⟩, gl0 _ rfl, λy hy => ?_⟩)⟩⟩
  obtain ⟨hy, -⟩ := hy
  have hy : IsRow 9 1 (strs (spW sCRLF (x.s.extract 0 x.i))) y := hy
  have hz : ∀ z ∈ x.l0 :: x.ls, z.size ≤ 1048576 := λz h => by
    rw [← hc.l] at h
    have h1 := spW_size h
    rw [fo_se] at h1
    omega
  rw [hc.l] at hy
  have hyl := hy.len
  rw [strs_length, fo_lc, Nat.mul_one] at hyl
  obtain ⟨yb, hyb⟩ := hy.at0 (by omega)
  have hysr := hy.srcd
  rw [hyb] at hysr
  have z0 := hz x.l0 fo_mc
  have hle := hy.le
  refine ⟨ixq_ok 1 rfl rfl rfl rfl, ⟨yb, 0, y.n, y.cap, 0⟩, by rw [hyb], ⟨by dsimp only; omega, by dsimp only; omega⟩, x.l0, hysr.look (j := 0) rfl, ⟨by dsimp only; omega, by dsimp only; omega⟩, λm => ⟨⟨rfl, rfl⟩, rqf_ok, rfl, ⟨x.l0⟩, rfl, rfl, z0, gl0 _ rfl, λ_ _ => br_intro (λh => ?_) (λh => ⟨⟨s1q_ok rfl rfl rfl rfl, ⟨y.a, y.n, y.cap⟩, rfl, by dsimp only; omega, ⟨⟨m, y, 0, nilRow⟩, ⟨fo_zl _, hy, .nil rfl, rfl⟩, ⟨rfl, rfl, rfl, ?_, ?_, rfl, fo_tv⟩, Ent.pick [0, 1, 7060, 999] rfl rfl⟩, ?_⟩, ?_⟩)⟩⟩
  · have h : (!(rqlV x.l0).2.2) = true := h
    rw [hc.r] at h; cases h
  · dsimp only; rw [show y.n - 1 = x.ls.length by omega]
  · dsimp only; rw [show y.n - 1 = x.ls.length by omega]
  · clear h
    rintro ⟨m, y, i, r⟩ js ⟨g1, g2, g3, g4⟩
    dsimp only at g1 g2 g3 g4 ⊢
    have g2l := g2.len
    rw [strs_length, fo_lc, Nat.mul_one] at g2l
    refine br_decide (λhlt => ?_) (λhge => ?_)
    · have hlt : i < x.ls.length := by omega
      obtain ⟨q, hq⟩ : ∃ q, x.ls[i]? = some q := ⟨x.ls[i], fo_ge hlt⟩
      have hqm := fo_mg hq
      have zq := hz q (fo_mm _ hqm)
      obtain ⟨f1, f2, f3⟩ := hc.f q hqm
      obtain ⟨b, hb⟩ := g2.at0 (by omega)
      have hsr := g2.srcd
      rw [hb] at hsr
      have hcap := g2.le
      have hsh : sh1 y.a y.cap = some ⟨b, 1, none⟩ := by
        unfold sh1
        rw [if_neg (by omega), hb] <;> rfl
      have za := cutA_size q 58
      have zb := cutB_size q 58
      have zt := trmV_size (inS' sTab) (cutB q 58)
      have zt2 : (trmV (inS' sTab) (cutB q 58)).size ≤ 1048576 := by omega
      have f3 : thV (trmV (inS' sTab) (cutB q 58)) = true := f3
      refine ⟨ixq_ok 1 rfl rfl rfl rfl, ⟨b, 1, x.ls.length, y.cap - 1, i⟩, by rw [hsh], ⟨by dsimp only; omega, by dsimp only; omega⟩, q, ?_, ct_ok, rfl, ⟨q, 58⟩, rfl, rfl, ⟨zq, (by decide : (58 : Nat) < 256)⟩, gl0 _ rfl, λ_ _ => ⟨tm_ok, rfl, ⟨cutB q 58, sTab⟩, rfl, rfl, ⟨by dsimp only; omega, (by decide : sTab.size ≤ 1048576), (by decide : 2 ≤ sTab.size), ascTab⟩, fo_tv, λ_ _ => ?_⟩⟩
      · have := hsr.look (j := i + 1) (v := .string q) (by unfold strs; rw [List.map_cons, List.getElem?_cons_succ, fo_gm, hq] <;> rfl)
        dsimp only
        rw [fo_tn, Nat.mul_one, Nat.add_comm 1 i]
        rw [fo_za] at this
        exact this
      dsimp only
      have hfq : hfV q = (smV (cutA q 58), trmV (inS' sTab) (cutB q 58)) := rfl
      generalize trmV (inS' sTab) (cutB q 58) = t at *
      rw [fo_dt f1, Bool.not_true, br_false]
      refine ⟨tok_ok, rfl, ⟨cutA q 58⟩, rfl, rfl, by dsimp only; omega, fo_tv, λ_ _ => ?_⟩
      dsimp only
      rw [f2, Bool.not_true, br_false]
      refine ⟨th_ok, rfl, ⟨t⟩, rfl, rfl, zt2, fo_tv, λ_ _ => ?_⟩
      dsimp only
      rw [f3, Bool.not_true, br_false]
      refine ⟨rfl, ⟨rfl, rfl⟩, sml_ok, rfl, ⟨cutA q 58⟩, rfl, rfl, by dsimp only; omega, Utf.rest (j := 0) (by simp) hr.utf, λ_ _ e => ⟨append_ok (P := Tryz.prog) 2 32 rfl rfl rfl rfl rfl rfl rfl (by decide), rfl, ⟨r, fCs ((x.ls.take i).map hfV), some ⟨e, 0, none⟩, 1, 1, [.string (smV (cutA q 58)), .string t]⟩, rfl, rfl, ⟨g3, rfl, λu hu => ?_, by dsimp only; omega, by dsimp only; omega, λh => nomatch h⟩, ?_, λr2 h2 => ?_⟩⟩
      · simp only [List.mem_cons, List.not_mem_nil, or_false] at hu
        rcases hu with rfl | rfl <;> rfl
      · intro a ha
        cases ha
        exact Seg.rest (j := 17090) (by simp) (Seg.cells (λj u hj => by rw [fo_za]; exact hj))
      · obtain ⟨k1, k2, -⟩ := h2
        dsimp only at k1 k2
        refine ⟨⟨rfl, rfl⟩, ⟨by omega, by omega⟩, ⟨m, y, i + 1, r2⟩, ⟨hlt, g2, ?_, by dsimp only; omega⟩, ⟨rfl, rfl, rfl, rfl, rfl, rfl, fo_tv⟩, Ent.pick [0, 1, 2, 3] rfl rfl, by dsimp only; omega⟩
        dsimp only
        rw [List.take_add_one, hq, Option.toList_some, List.map_append, List.map_singleton, hfq]
        unfold fCs at k1 ⊢
        rw [List.flatMap_append]
        exact k1
    · have hi : i = x.ls.length := by omega
      rw [hi, List.take_length] at g3
      exact ⟨⟨m, r⟩, g3, ⟨rfl, rfl, rfl, fo_tv⟩, Ent.pick [0, 2, 3] rfl rfl⟩
  · rintro ⟨m, r⟩ js hr2
    have hr2 : IsRow 36 2 (fCs x.fs) r := hr2
    dsimp only
    have hrs := hr2.src
    have hrl := hr2.len
    rw [fCs_length] at hrl
    have hfl : x.fs.length = x.ls.length := List.length_map _
    have hrn : r.n ≤ 1000000 := by omega
    have hv := hc.v
    have hvlo := hv.lo
    have hvhi := hv.hi
    have hn := hc.n
    refine ⟨ctk_ok, rfl, ⟨m, r.a, r.n, r.cap, x.fs, nmCL⟩, rfl, rfl, ⟨⟨hrs, hrn⟩, hc.c1⟩, ⟨Look.rest (j := 1) (by simp) (Look.cells rfl), row_srcd 2 (by simp) rfl hr2⟩, λ_ _ => ⟨ctk_ok, rfl, ⟨m, r.a, r.n, r.cap, x.fs, nmHo⟩, rfl, rfl, ⟨⟨hrs, hrn⟩, hc.c2⟩, ⟨Look.rest (j := 1) (by simp) (Look.cells rfl), row_srcd 2 (by simp) rfl hr2⟩, λ_ _ => br_intro (λh => ?_) (λ_ => br_decide (λh => ?_) (λ_ => ⟨tm_ok, rfl, ⟨(ctnV nmCL x.fs).2, sDig⟩, rfl, rfl, ⟨by dsimp only; omega, (by decide : sDig.size ≤ 1048576), (by decide : 2 ≤ sDig.size), ascDig⟩, fo_tv, λ_ _ => br_intro (λh => ?_) (λ_ => ⟨auk_ok, rfl, ⟨(ctnV nmCL x.fs).2, x.n⟩, rfl, rfl, ⟨hv, hc.v3⟩, fo_tv, λ_ _ => ⟨ctk_ok, rfl, ⟨m, r.a, r.n, r.cap, x.fs, nmTE⟩, rfl, rfl, ⟨⟨hrs, hrn⟩, hc.c3⟩, ⟨Look.rest (j := 1) (by simp) (Look.cells rfl), row_srcd 2 (by simp) rfl hr2⟩, λ_ _ => br_decide (λh => absurd h (by dsimp only; omega)) (λ_ => ⟨⟨rfl, rfl⟩, ⟨by omega, by omega⟩, br_decide (λh => absurd h (by dsimp only; omega)) (λ_ => ⟨rfl, ⟨rfl, rfl⟩, ⟨rfl, rfl⟩, ⟨by omega, by omega⟩, ⟨by omega, by omega, by omega⟩, ⟨rfl, rfl⟩, ⟨rfl, rfl⟩, ⟨by omega, by omega⟩, ⟨rfl, rfl⟩, ⟨m, r⟩, hr2, rfl, Ent.pick [1, 2, 0] rfl ?_⟩)⟩)⟩⟩)⟩))⟩⟩
    · have h : bEq (ctnV nmCL x.fs).2 ⟨#[]⟩ = true := h
      rw [bEq_nil, fo_df (by omega)] at h
      cases h
    · have h : ((ctnV nmCL x.fs).2.size : Int) > 9 := h
      omega
    · have h : (!bEq (trmV (inS' sDig) (ctnV nmCL x.fs).2) ⟨#[]⟩) = true := h
      rw [hc.v2, (bEq_eq _ _).2 rfl] at h
      cases h
    · show _ = ofL [.cells m (rdMsg x ⟨m, r⟩) 199, r.A, F]
      unfold rdMsg
      have e1 : ((x.i + 4 : Nat) : Int).toNat = x.i + 4 := fo_tn _
      have e2 : (((x.i + 4 : Nat) : Int) + (x.n : Int)) = ((x.i + 4 + x.n : Nat) : Int) := by omega
      dsimp only
      rw [e2, e1, fo_tn] <;> rfl
theorem rds_ok : fo_k 139 rdsC := fo 188 Tryz.func139 (λ_ _ => [(1, 1, .c ixkiC [] []), (6, 3, .c splC [] [1]), (7, 1, .qo (ixQ 1)), (7, 2, .q [.ex 1 .str]), (7, 6, .n 7060), (8, 5, .c rqfC [] []), (10, 1, .qo s1Q), (12, 0, .qo (ixQ 1)), (12, 1, .q [.ex 1 .str]), (13, 1, .c ctC [] []), (14, 1, .c tmC [] []), (15, 4, .c tokC [] []), (15, 9, .c thC [] []), (17, 6, .c smlC [] []), (17, 9, .n 17090), (17, 10, .o (apC 36 2 32) [3] [3]), (19, 1, .c (ctkC 1) [] []), (20, 1, .c (ctkC 1) [] []), (25, 9, .c tmC [] []), (27, 1, .c aukC [] []), (28, 1, .c (ctkC 0) [] [])]) [(8, 4, OH.q [LH.aq (7060 : Nat)]), (17, 4, OH.q [LH.aq (2 : Nat)]), (31, 5, OH.q [LH.aq (1 : Nat)]), (17, 13, OH.w [LH.aq (2 : Nat)]), (33, 5, OH.q [LH.aq (1 : Nat)]), (33, 9, OH.q [LH.aq (1 : Nat)]), (33, 15, OH.w [LH.aq (1 : Nat)]), (34, 3, OH.q [LH.aq (1 : Nat)]), (34, 8, OH.w [LH.aq (1 : Nat)])] rdsInv rdsCut fo_o [] rds_vc
end
section
open Go
set_option maxHeartbeats 1000000
def nmCT : ByteArray := ⟨#[99, 111, 110, 116, 101, 110, 116, 45, 116, 121, 112, 101]⟩
def rrL (x : RdX) : List Value := [.string (rqlV x.l0).1, .string (rqlV x.l0).2.1, .string (ctnV nmHo x.fs).2, .string (ctnV nmCT x.fs).2, .string (x.s.extract (x.i + 4) (x.i + 4 + x.n))]
abbrev rrqC : Con where
  X := RdX
  Y := Unit
  args x := [.string x.s]
  pre _ := []
  cond x := x.ok
  rdc _ F := Gl F
  rel _ _ := True
  val x _ := .returned (.tuple #[.agg (rrL x).toArray, .int .i64 ((x.i + 4 + x.n : Nat) : Int), .int .i64 0])
  post _ _ := []
  rmono _ _ _ hs h := h.sub hs
abbrev q4 : List Value := [fo_vs ⟨#[]⟩, fo_vs ⟨#[]⟩, fo_vs ⟨#[]⟩, fo_vs ⟨#[]⟩, fo_vs ⟨#[]⟩]
abbrev q89 (i : RdX) (h : RdY) : List Value := [fo_vs i.l0, fo_vl h.r.a h.r.n h.r.cap, fo_vs (i.s.extract (i.i + 4) (i.i + 4 + i.n)), fo_vi (↑(i.i + 4 + i.n) : Int)]
def T119 := fo_C2 143 ctnC (λw0 => q301 w0) (λw0 w1 => q232 w1 w0)
abbrev q113 (f : StX) (d b : CtnX) (i : RdX) : List Value := [fo_vs (rqlV f.s).fst, fo_vs (rqlV f.s).snd.fst, fo_vs (ctnV d.nm d.l).snd, fo_vs (ctnV b.nm b.l).snd, fo_vs (i.s.extract (i.i + 4) (i.i + 4 + i.n))]
theorem rrq_vc (x : RdX) (F : Atom) (hc : rrqC.cond x) (hr : rrqC.rdc x F) :
 ∀(j : Nat), fo_C4 139 rdsC (λi => i.ok) (λ_ => Gl) (λi h => IsRow 36 2 (fCs i.fs) h.r) [fo_vs x.s, func (Fn.func 140) ⟨[]⟩ ⟨[]⟩, fo_vb true] ([] : List Atom) (fo_aR [(0, F), (1000, fo_cl j q4 45)] []) (λi h => fo_sm h.m 2 ∧ ∀(g : Nat), fo_s5 g (fo_sm h.m 0 ∧ T116 [fo_vs i.l0] (fo_aR [(0, F), (1000, fo_cl j q4 45), (1011, fo_cl h.m (q89 i h) 199), (1012, h.r.A), (4050, fo_cl g [fo_vs ⟨#[]⟩, fo_vs ⟨#[]⟩, fo_vs ⟨#[]⟩, fo_vs ⟨#[]⟩, fo_vs (i.s.extract (i.i + 4) (i.i + 4 + i.n))] 45)] []) (λf e => fo_sm g 0 ∧ fo_sm g 1 ∧ T119 [fo_vp (q249 h), fo_vs ⟨#[104, 111, 115, 116]⟩] (fo_aR [(0, F), (1000, fo_cl j q4 45), (1011, fo_cl h.m (q89 i h) 199), (1012, h.r.A), (4050, fo_cl g [fo_vs (rqlV f.s).fst, fo_vs (rqlV f.s).snd.fst, fo_vs ⟨#[]⟩, fo_vs ⟨#[]⟩, fo_vs (i.s.extract (i.i + 4) (i.i + 4 + i.n))] 45)] []) (λd c => fo_sm g 2 ∧ T119 [fo_vp (q249 h), fo_vs ⟨#[99, 111, 110, 116, 101, 110, 116, 45, 116, 121, 112, 101]⟩] (fo_aR [(0, F), (1000, fo_cl j q4 45), (1011, fo_cl h.m (q89 i h) 199), (1012, h.r.A), (4050, fo_cl g [fo_vs (rqlV f.s).fst, fo_vs (rqlV f.s).snd.fst, fo_vs (ctnV d.nm d.l).snd, fo_vs ⟨#[]⟩, fo_vs (i.s.extract (i.i + 4) (i.i + 4 + i.n))] 45)] []) (λb a => fo_sm g 3 ∧ true = true ∧ fo_s5 g (fo_sm h.m 3 ∧ fo_s5 j (fo_s5 j (Done rrqC x F (fo_rt (tuple ⟨[agg ⟨q113 f d b i⟩, fo_vi (↑(i.i + 4 + i.n) : Int), fo_vi 0]⟩)) [(0, F), (1000, fo_cl j (q113 f d b i) 45), (1011, fo_cl h.m (q89 i h) 199), (1012, h.r.A), (4050, fo_cl g (q113 f d b i) 45)])))))))) := by
  delta q4 q237 T116 q89 q301 q232 T119 q249 q113 fo_aR fo_sm fo_s5 fo_C2 fo_C4 fo_vi fo_vs fo_vb fo_vp fo_vl fo_cl fo_rt
  have hr : Gl F := hr
  have hc : x.ok := hc
  have gl0 : ∀ (S : St), gt S 0 = F → Gl (.pred (rest S [])) := λS e => hr.sub (sub_rest (A := F) 0 (by simp) e)
  have hll := hc.ll
  have z0 : x.l0.size ≤ 1048576 := by
    have h1 : x.l0 ∈ spW sCRLF (x.s.extract 0 x.i) := by rw [hc.l]; exact fo_mc
    have h2 := spW_size h1
    have h3 := hc.s
    rw [fo_se] at h2
    omega
  refine λb => ⟨rds_ok, rfl, x, rfl, rfl, hc, gl0 _ rfl, λy hy => ?_⟩
  have hy : IsRow 36 2 (fCs x.fs) y.r := hy
  have hrs := hy.src
  have hrl := hy.len
  rw [fCs_length] at hrl
  have hfl : x.fs.length = x.ls.length := List.length_map _
  have hrn : y.r.n ≤ 1000000 := by omega
  exact ⟨⟨rfl, rfl⟩, λb1 => ⟨⟨rfl, rfl⟩, ⟨rfl, rfl⟩, ⟨rfl, rfl⟩, ⟨rfl, rfl⟩, ⟨rfl, rfl⟩, ⟨rfl, rfl⟩, rq_ok, rfl, ⟨x.l0⟩, rfl, rfl, z0, gl0 _ rfl, λ_ _ => ⟨⟨rfl, rfl⟩, ⟨rfl, rfl⟩, ctn_ok, rfl, ⟨y.m, y.r.a, y.r.n, y.r.cap, x.fs, nmHo⟩, rfl, rfl, ⟨hrs, hrn⟩, ⟨Look.rest (j := 1011) (by simp) (Look.cells rfl), row_srcd 1012 (by simp) rfl hy⟩, λ_ _ => ⟨⟨rfl, rfl⟩, ctn_ok, rfl, ⟨y.m, y.r.a, y.r.n, y.r.cap, x.fs, nmCT⟩, rfl, rfl, ⟨hrs, hrn⟩, ⟨Look.rest (j := 1011) (by simp) (Look.cells rfl), row_srcd 1012 (by simp) rfl hy⟩, λ_ _ => ⟨⟨rfl, rfl⟩, rfl, ⟨rfl, rfl⟩, ⟨rfl, rfl⟩, ⟨rfl, rfl⟩, ⟨rfl, rfl⟩, ⟨rfl, rfl⟩, ⟨rfl, rfl⟩, ⟨rfl, rfl⟩, ⟨rfl, rfl⟩, ⟨rfl, rfl⟩, ⟨rfl, rfl⟩, ⟨rfl, rfl⟩, ⟨rfl, rfl⟩, ⟨rfl, rfl⟩, ⟨rfl, rfl⟩, ⟨rfl, rfl⟩, ⟨rfl, rfl⟩, (), fo_tv, rfl, Ent.pick [0] rfl rfl⟩⟩⟩⟩⟩
theorem rrq_ok : fo_k 91 rrqC := fo 51 Tryz.func91 (λ_ _ => [(0, 0, .n 1000), (1, 1, .c rdsC [] [1011, 1012]), (4, 5, .n 4050), (4, 6, .w (at5 4050)), (5, 4, .c rqC [] []), (6, 1, .c ctnC [] []), (7, 1, .c ctnC [] []), (4, 3, .q [.aq 1011]), (5, 3, .q [.aq 1011]), (8, 0, .q (at5 4050)), (8, 4, .q [.aq 1011]), (8, 5, .w (at5 1000))]) [(5, 10, OH.w [LH.aq (4050 : Nat)]), (5, 12, OH.w [LH.aq (4050 : Nat)]), (6, 6, OH.w [LH.aq (4050 : Nat)]), (7, 6, OH.w [LH.aq (4050 : Nat)])] fo_i fo_i fo_o (at5 1000) rrq_vc
end
section
open Go
set_option maxHeartbeats 1000000
structure WqX where
  m : ByteArray
  t : ByteArray
  h : ByteArray
  c : ByteArray
  b : ByteArray
  x : RdX
def wqT (q : WqX) : ByteArray := q.m ++ ⟨#[32]⟩ ++ q.t ++ ⟨#[32, 72, 84, 84, 80, 47, 49, 46, 49]⟩ ++ ⟨#[13, 10]⟩ ++ ⟨#[72, 111, 115, 116, 58, 32]⟩ ++ q.h ++ ⟨#[13, 10]⟩ ++ (⟨#[67, 111, 110, 116, 101, 110, 116, 45, 84, 121, 112, 101, 58, 32]⟩ ++ q.c ++ ⟨#[13, 10]⟩) ++ (⟨#[67, 111, 110, 116, 101, 110, 116, 45, 76, 101, 110, 103, 116, 104, 58, 32]⟩ ++ ⟨(Lib.itoa (q.b.size : Nat)).toArray⟩ ++ ⟨#[13, 10]⟩ ++ ⟨#[13, 10]⟩ ++ q.b)
def wqA (q : WqX) : Value := .agg #[.string q.m, .string q.t, .string q.h, .string q.c, .string q.b]
def neqR : QCon where
  X := WqX
  args q := [wqA q, wqA q]
  cond _ := True
  val _ := .bool false
theorem neqR_ok {o : Oper} {x y : Operand} {rt : TypeId} (ho : o.op = .binOp .neq 45 x y rt) : QOpOk Tryz.prog o neqR := by
  refine ⟨λX w ρ ha hc => ?_⟩
  simp only [ho, Op.operands, neqR] at ha
  obtain ⟨hx, hy⟩ : ρ x = wqA X ∧ ρ y = wqA X := by simpa using ha
  have hS : Tryz.prog.underlying 45 = some (.struct (Tryz.prog.fieldsOf 45)) := by kernel_rfl
  have hp : Tryz.prog.stoodInHeld 45 = false := by kernel_rfl
  have hg : Tryz.prog.eqGuardType Tryz.prog.depth 45 = false := by kernel_rfl
  unfold wqA at hx hy
  have he : (Op.equalIn (9999 + 1) 45 (.agg #[.string X.m, .string X.t, .string X.h, .string X.c, .string X.b]) (.agg #[.string X.m, .string X.t, .string X.h, .string X.c, .string X.b])).run Tryz.prog w = .ok true w := by
    rw [run_equalIn_agg w 9999 45 _ _ hS hp]
    have hf : ((Tryz.prog.fieldsOf 45).toList.map λf => (f.name, f.type, f.offset)) = [("Method", 9, 0), ("Target", 9, 1), ("Host", 9, 2), ("Type", 9, 3), ("Body", 9, 4)] := by kernel_rfl
    have h9 : Tryz.prog.underlying 9 = some .string := by kernel_rfl
    revert hf
    generalize (Tryz.prog.fieldsOf 45).toList = fs
    intro hf
    rcases fs with _ | ⟨f1, _ | ⟨f2, _ | ⟨f3, _ | ⟨f4, _ | ⟨f5, _ | ⟨f6, r⟩⟩⟩⟩⟩⟩ <;> simp at hf
    obtain ⟨⟨n1, t1, o1⟩, ⟨n2, t2, o2⟩, ⟨n3, t3, o3⟩, ⟨n4, t4, o4⟩, ⟨n5, t5, o5⟩⟩ := hf
    simp only [Op.eqFields, n1, t1, o1, n2, t2, o2, n3, t3, o3, n4, t4, o4, n5, t5, o5]
    have e9 : ∀ (a b : ByteArray) (w : World), (Op.equalIn 9999 9 (.string a) (.string b)).run Tryz.prog w = .ok (a.toList == b.toList) w := λa b w => run_equalIn_string w 9998 9 a b h9
    go_simp
  simp [execOp, ho, hx, hy, run_eqGuard_agg _ _ _ _ _ _ _ hg, run_neq_struct, he, neqR]
structure WqX.ok (q : WqX) : Prop where
  x : q.x.ok
  s : q.x.s = wqT q
  r : rrL q.x = [.string q.m, .string q.t, .string q.h, .string q.c, .string q.b]
  e : q.x.i + 4 + q.x.n = q.x.s.size
  c : q.c.size ≠ 0
abbrev wqC : Con where
  X := WqX
  Y := Unit
  args q := [.agg #[.string q.m, .string q.t, .string q.h, .string q.c, .string q.b]]
  pre _ := []
  cond q := q.ok
  rdc _ F := Gl F ∧ TxG F
  rel _ _ := True
  val q _ := .returned (.tuple #[.string q.x.s, .int .i64 0])
  post _ _ := []
  rmono _ _ _ hs h := ⟨h.1.sub hs, h.2.sub hs⟩
def wqCut (q : WqX) (F : Atom) : Nat → Option Inv := fun
  | 5 => some { X := Nat, P := λ_ => True, mu := λ_ => 0, lv := λd => [(1, .pointer (some ⟨d, 0, none⟩)), (4, .string q.x.s)], st := λd => [F, .cells d [.string q.m, .string q.t, .string q.h, .string q.c, .string q.b] 45] }
  | _ => none
def wqOv (_q : WqX) (_F : Atom) : List (Nat × Nat × OH) := [(0, 0, .n 1000), (4, 4, .c itCq [] []), (5, 1, .c rrqC [] []), (5, 6, .n 5060), (5, 7, .w (at5 5060)), (6, 9, .q (at5 5060)), (6, 10, .q (at5 1)), (6, 11, .qo neqR)]
abbrev q167 : ByteArray := ByteArray.mk #[32]
abbrev q82 : ByteArray := ByteArray.mk #[32, 72, 84, 84, 80, 47, 49, 46, 49]
abbrev q49 : ByteArray := ByteArray.mk #[13, 10]
abbrev q131 : ByteArray := ByteArray.mk #[72, 111, 115, 116, 58, 32]
abbrev q136 : ByteArray := ByteArray.mk #[67, 111, 110, 116, 101, 110, 116, 45, 84, 121, 112, 101, 58, 32]
def T120 := fo_C2 31 itCq (λw0 => (-9223372036854775808 : Int) ≤ w0.i ∧ w0.i ≤ 9223372036854775807) (λ_ => TxG)
abbrev q48 (x : WqX) : List Value := [fo_vs x.m, fo_vs x.t, fo_vs x.h, fo_vs x.c, fo_vs x.b]
abbrev q337 (F : Atom) (g : Nat) (x : WqX) := [(0, F), (1000, fo_cl g (q48 x) 45)]
abbrev q79 (c : I1X) : ByteArray := ByteArray.mk (Lib.itoa c.i).toArray
abbrev q40 : ByteArray := ByteArray.mk #[67, 111, 110, 116, 101, 110, 116, 45, 76, 101, 110, 103, 116, 104, 58, 32]
def T121 (e0 : Atom) (e1 : WqX) (v0 v1 : Value) (ss : St) := ∃ (z : Nat), True ∧ (v0 = fo_vp (q17 z) ∧ v1 = fo_vs e1.x.s ∧ True) ∧ Ent ss [(0, e0), (1, fo_cl z (q48 e1) 45)]
def T122 := fo_C2 91 rrqC (λw0 => w0.ok) (λ_ => Gl)
abbrev q93 (d : RdX) : List Value := [fo_vs (rqlV d.l0).fst, fo_vs (rqlV d.l0).snd.fst, fo_vs (ctnV nmHo d.fs).snd, fo_vs (ctnV nmCT d.fs).snd, fo_vs (d.s.extract (d.i + 4) (d.i + 4 + d.n))]
def T123 (oo : Oper) (aa : List Value) (k0 : WqX → Prop) := QOpOk Tryz.prog oo neqR ∧ ∃ (z : WqX), aa = [agg ⟨q48 z⟩, agg ⟨q48 z⟩] ∧ True ∧ k0 z
abbrev q28 (x : WqX) (F : Atom) (f : Nat) : RdX → Unit → Prop := λd c => ∀(b : Nat), fo_s5 b (Br ((↑(d.i + 4 + d.n) : Int) != (x.x.s.size : Int)) (Done wqC x F (fo_rt (tuple ⟨[fo_vs ⟨#[]⟩, fo_vi 1]⟩)) [(0, F), (1, fo_cl f (q48 x) 45), (5060, fo_cl b (q93 d) 45)]) (fo_s5 b (fo_s5 f (T123 (opIn Tryz.f41 6 11) [agg ⟨q93 d⟩, agg ⟨q48 x⟩] (λa => Done wqC x F (fo_rt (tuple ⟨[fo_vs x.x.s, fo_vi 0]⟩)) [(0, F), (1, fo_cl f (q48 x) 45), (5060, fo_cl b (q93 d) 45)])))))
theorem wq_vc (x : WqX) (F : Atom) (hc : wqC.cond x) (hr : wqC.rdc x F) :
 ∀(g : Nat), fo_sm g 0 ∧ x.m.size + 1 ≤ 9223372036854775807 ∧ fo_sm g 1 ∧ (x.m ++ q167).size + x.t.size ≤ 9223372036854775807 ∧ (x.m ++ q167 ++ x.t).size + 9 ≤ 9223372036854775807 ∧ (x.m ++ q167 ++ x.t ++ q82).size + 2 ≤ 9223372036854775807 ∧ (x.m ++ q167 ++ x.t ++ q82 ++ q49).size + 6 ≤ 9223372036854775807 ∧ fo_sm g 2 ∧ (x.m ++ q167 ++ x.t ++ q82 ++ q49 ++ q131).size + x.h.size ≤ 9223372036854775807 ∧ (x.m ++ q167 ++ x.t ++ q82 ++ q49 ++ q131 ++ x.h).size + 2 ≤ 9223372036854775807 ∧ fo_sm g 3 ∧ Br (!x.c.toList == q59.toList) (fo_sm g 3 ∧ 14 + x.c.size ≤ 9223372036854775807 ∧ (q136 ++ x.c).size + 2 ≤ 9223372036854775807 ∧ (x.m ++ q167 ++ x.t ++ q82 ++ q49 ++ q131 ++ x.h ++ q49).size + (q136 ++ x.c ++ q49).size ≤ 9223372036854775807 ∧ (true = true ∧ fo_sm g 4 ∧ T120 [fo_vi ↑x.b.size] (fo_aR (q337 F g x) []) (λc b => 16 + (q79 c).size ≤ 9223372036854775807 ∧ (q40 ++ (q79 c)).size + 2 ≤ 9223372036854775807 ∧ (q40 ++ (q79 c) ++ q49).size + 2 ≤ 9223372036854775807 ∧ fo_sm g 4 ∧ (q40 ++ (q79 c) ++ q49 ++ q49).size + x.b.size ≤ 9223372036854775807 ∧ (x.m ++ q167 ++ x.t ++ q82 ++ q49 ++ q131 ++ x.h ++ q49 ++ (q136 ++ x.c ++ q49)).size + (q40 ++ (q79 c) ++ q49 ++ q49 ++ x.b).size ≤ 9223372036854775807 ∧ T121 F x (q233 g) (fo_vs (x.m ++ q167 ++ x.t ++ q82 ++ q49 ++ q131 ++ x.h ++ q49 ++ (q136 ++ x.c ++ q49) ++ (q40 ++ (q79 c) ++ q49 ++ q49 ++ x.b))) (q337 F g x))) ∧ fo_vA λ(f : Nat) _ => True → T122 [fo_vs x.x.s] (fo_aR [(0, F), (1, fo_cl f (q48 x) 45)] []) (q28 x F f)) ((true = true ∧ fo_sm g 4 ∧ T120 [fo_vi ↑x.b.size] (fo_aR (q337 F g x) []) (λc b => 16 + (q79 c).size ≤ 9223372036854775807 ∧ (q40 ++ (q79 c)).size + 2 ≤ 9223372036854775807 ∧ (q40 ++ (q79 c) ++ q49).size + 2 ≤ 9223372036854775807 ∧ fo_sm g 4 ∧ (q40 ++ (q79 c) ++ q49 ++ q49).size + x.b.size ≤ 9223372036854775807 ∧ (x.m ++ q167 ++ x.t ++ q82 ++ q49 ++ q131 ++ x.h ++ q49).size + (q40 ++ (q79 c) ++ q49 ++ q49 ++ x.b).size ≤ 9223372036854775807 ∧ T121 F x (q233 g) (fo_vs (x.m ++ q167 ++ x.t ++ q82 ++ q49 ++ q131 ++ x.h ++ q49 ++ (q40 ++ (q79 c) ++ q49 ++ q49 ++ x.b))) (q337 F g x))) ∧ fo_vA λ(f : Nat) _ => True → T122 [fo_vs x.x.s] (fo_aR [(0, F), (1, fo_cl f (q48 x) 45)] []) (q28 x F f)) := by
  delta q167 q82 q49 q131 q59 q136 T120 q48 q337 q79 q40 q17 T121 q233 T122 q93 T123 q28 fo_aR fo_sm fo_s5 fo_C2 fo_vi fo_vs fo_vp fo_cl fo_rt fo_vA
  obtain ⟨hr, hx⟩ := hr
  have hr : Gl F := hr
  have hx : TxG F := hx
  have hc : x.ok := hc
  have hz : (wqT x).size ≤ 1048576 := by rw [← hc.s]; exact hc.x.s
  have hT := hc.s
  unfold wqT at hz hT
  have hcs := hc.c
  have eC : (!bEq x.c ⟨#[]⟩) = true := by rw [bEq_nil, fo_df hcs] <;> rfl
  intro b
  generalize hI : (⟨(Lib.itoa (x.b.size : Nat)).toArray⟩ : ByteArray) = I at hz hT
  have l1 : (⟨#[32]⟩ : ByteArray).size = 1 := rfl
  have l2 : (⟨#[13, 10]⟩ : ByteArray).size = 2 := rfl
  have l6 : (⟨#[72, 111, 115, 116, 58, 32]⟩ : ByteArray).size = 6 := rfl
  have l9 : (⟨#[32, 72, 84, 84, 80, 47, 49, 46, 49]⟩ : ByteArray).size = 9 := rfl
  have l14 : (⟨#[67, 111, 110, 116, 101, 110, 116, 45, 84, 121, 112, 101, 58, 32]⟩ : ByteArray).size = 14 := rfl
  have l16 : (⟨#[67, 111, 110, 116, 101, 110, 116, 45, 76, 101, 110, 103, 116, 104, 58, 32]⟩ : ByteArray).size = 16 := rfl
  simp only [fo_sa, l1, l2, l6, l9, l14, l16] at hz
  refine ⟨⟨rfl, rfl⟩, ?_, ⟨rfl, rfl⟩, ?_, ?_, ?_, ?_, ⟨rfl, rfl⟩, ?_, ?_, ⟨rfl, rfl⟩, br_intro (λ_ => ⟨⟨rfl, rfl⟩, ?_, ?_, ?_, ⟨rfl, ⟨rfl, rfl⟩, it_okq, rfl, ⟨(x.b.size : Nat)⟩, rfl, rfl, ?_, TxG.sub hx (sub_rest (A := F) 0 (by simp) rfl), λ_ _ => ?a⟩, ?b⟩) (λh => ?c)⟩
  case a =>
    dsimp only
    rw [hI]
    refine ⟨?_, ?_, ?_, ⟨rfl, rfl⟩, ?_, ?_, b, fo_tv, ⟨rfl, by rw [hT], fo_tv⟩, Ent.pick [0, 1000] rfl rfl⟩
    all_goals
      try simp only [fo_sa, l1, l2, l6, l9, l14, l16]
      omega
  case c =>
    have h : (!bEq x.c ⟨#[]⟩) = false := h
    rw [eC] at h; cases h
  case b =>
    rintro d js -
    have hc5 := hc.r
    unfold rrL at hc5
    have he := hc.e
    refine ⟨rrq_ok, rfl, x.x, rfl, rfl, hc.x, hr.sub (sub_rest (A := F) 0 (by simp) rfl), λ_ _ e => ⟨⟨rfl, rfl⟩, ⟨rfl, rfl⟩, ⟨rfl, rfl⟩, ⟨rfl, rfl⟩, ⟨rfl, rfl⟩, ?_⟩⟩
    have hb : (((x.x.i + 4 + x.x.n : Nat) : Int) != (x.x.s.size : Int)) = false := by rw [he]; simp
    rw [hb, br_false]
    refine ⟨⟨rfl, rfl⟩, ⟨rfl, rfl⟩, ⟨rfl, rfl⟩, ⟨rfl, rfl⟩, ⟨rfl, rfl⟩, ⟨rfl, rfl⟩, ⟨rfl, rfl⟩, ⟨rfl, rfl⟩, ⟨rfl, rfl⟩, ⟨rfl, rfl⟩, neqR_ok rfl, x, ?_, fo_tv, (), fo_tv, rfl, Ent.pick [0] rfl rfl⟩
    have := congrArg (λl => agg l.toArray) hc5
    exact congrArg (λv => [v, wqA x]) this
  all_goals
    try dsimp only
    try simp only [fo_sa, l1, l2, l6, l9, l14, l16]
    omega
theorem wq_ok : fo_k 41 wqC := fo 62 Tryz.func41 wqOv [(1, 1, OH.q [LH.aq (1000 : Nat)]), (1, 4, OH.q [LH.aq (1000 : Nat)]), (1, 10, OH.q [LH.aq (1000 : Nat)]), (2, 1, OH.q [LH.aq (1000 : Nat)]), (3, 2, OH.q [LH.aq (1000 : Nat)]), (4, 2, OH.q [LH.aq (1000 : Nat)]), (4, 9, OH.q [LH.aq (1000 : Nat)])] fo_i wqCut fo_o [] wq_vc
end
section
open Go
set_option maxHeartbeats 1000000
structure BvX where
  h : Option Addr
  s : ByteArray
abbrev bvtC : Con where
  X := BvX
  Y := Unit
  args x := [.pointer x.h, txV x.s]
  pre _ := []
  cond x := x.s.size ≤ 1048576
  rdc _ _ := True
  rel _ _ := True
  val x _ := .returned (.string (nrV x.s))
  post _ _ := []
theorem bvt_vc (x : BvX) (F : Atom) (hc : bvtC.cond x) (hr : bvtC.rdc x F) :
 ∀(c : Nat), fo_sm c 0 ∧ fo_sm c 2 ∧ T82 [fo_vs x.s] (λb a => Done bvtC x F (fo_rt (fo_vs (nrV b.s))) [(0, F), (1000, fo_cl c [fo_vi 4, float f64 0, fo_vs x.s, fo_vi 0] 30)]) := by
  delta q238 T82 fo_sm fo_C1 fo_vi fo_vs fo_cl fo_rt
  exact λb => ⟨⟨rfl, rfl⟩, ⟨rfl, rfl⟩, nrn_ok, rfl, ⟨x.s⟩, rfl, rfl, hc, fo_tv, λ_ _ => ⟨(), fo_tv, rfl, Ent.pick [0] rfl rfl⟩⟩
theorem bvt_ok : fo_k 38 bvtC := fo 26 Tryz.func38 (λ_ _ => [(0, 0, .n 1000), (2, 2, .c nrnC [] [])]) [(1, 1, OH.q [LH.aq (1000 : Nat)]), (2, 1, OH.q [LH.aq (1000 : Nat)])] fo_i fo_i fo_o [] bvt_vc
end
section
open Go
set_option maxHeartbeats 1000000
abbrev plI : Con := inC noG [.string ⟨#[0, 49]⟩] (.tuple #[.string ⟨#[49]⟩, .bool true])
theorem plI_ok : fo_k 224 plI := ⟨λ_ F I w _ _ hs => (pln_ok.h ⟨⟨#[0, 49]⟩⟩ F I w (by decide : 2 ≤ 8388608) trivial hs).mono λ_ _ ⟨y, J, k1, k2, k3, k4, k5⟩ => ⟨y, J, k1, k2.trans (by kernel_rfl), k3, k4, k5⟩⟩
abbrev pfI : Con := inC gN [.string ⟨#[49]⟩, .int .i64 64] (.tuple #[.float .f64 4607182418800017408, .nilIface])
abbrev dcI : Con := inC noG [.string ⟨#[49]⟩] (.bool true)
abbrev nuI : Con := inC gN [.string ⟨#[0, 49]⟩] (.float .f64 4607182418800017408)
def q298 := (0 : Int) ≤ (0 : Int) ∧ 0 < (↑(ByteArray.mk #[49]).size : Int)
theorem nui_vc (x : PUnit) (F : Atom) (hc : nuI.cond x) (hr : nuI.rdc x F) :
 fo_C2 224 plI q76 q60 [fo_vs ⟨#[0, 49]⟩] (q114 F) (λf e => q298 ∧ q298 ∧ fo_C2 228 dcI q76 q60 [fo_vs ⟨#[49]⟩] (q114 F) (λd c => fo_C2 227 pfI q76 (λ_ rr => gN.ok rr) [fo_vs ⟨#[49]⟩, fo_vi 64] (q114 F) (λb a => Done nuI x F (fo_rt (float f64 4607182418800017408)) [(0, F)]))) := by
  delta q76 q60 q114 q298 fo_aR fo_C2 fo_vi fo_vs fo_rt
  have hT : gN.ok F := hr
  exact ⟨plI_ok, rfl, (), rfl, rfl, fo_tv, noG_ok, λ_ _ => ⟨by decide, by decide, dcI_ok, rfl, (), rfl, rfl, fo_tv, noG_ok, λ_ _ => ⟨pfI_ok, rfl, (), rfl, rfl, fo_tv, hT.rest (j := 0) (by simp), λ_ _ => ⟨(), fo_tv, rfl, Ent.pick [0] rfl rfl⟩⟩⟩⟩
theorem nui_ok : fo_k 184 nuI := fo 75 Tryz.func184 (λ_ _ => [(1, 1, .c plI [] []), (12, 4, .c dcI [] []), (14, 1, .c pfI [] [])]) [] fo_i fo_i fo_o [] nui_vc
def K1 : Ctx where
  nv _ := 4607182418800017408
  tv _ := ⟨#[]⟩
  rd := gN.ok
  mono h hs := λb i v e => (h b i v e).sub hs
  rest hj h := Glb.ok.rest h hj
theorem nui_K : fo_k 184 (nn1C K1) := ⟨λx F I w hc hr hs => by
  obtain ⟨s⟩ := x
  have hc : s = ⟨#[0, 49]⟩ := hc
  subst hc
  exact nui_ok.h () F I w trivial hr hs⟩
def E0 : EscF := λ_ _ => none
theorem esc_E0 : fo_k 180 (esfC E0) := ⟨λx F I w hc hr hs => by
  obtain ⟨-, -, h⟩ := hc
  cases h⟩
def k1 : RdK := ⟨K1, E0⟩
theorem k1_ok : k1.ok := ⟨esc_E0, nui_K⟩
structure HhX where
  b : Nat
  n : Int
  l : KVs
  k : ByteArray
theorem hid {f : FuncId} {C D : Con} (h : fo_k f C) (b : D.X → Nat) (n : D.X → Int) (l : D.X → KVs) (hpre : ∀ x, D.pre x = [hoA (b x) (n x) (l x)]) (g : D.X → HoY → C.X) (hp : ∀ x y, C.pre (g x y) = [])
    (ha : ∀ x y, C.args (g x y) = D.args x) (hc : ∀ x y, D.cond x → C.cond (g x y)) (hr : ∀ x y F, D.cond x → HoIn y.a (b x) (l x) F → C.rdc (g x y) F)
    (hv : ∀ x y z, D.cond x → C.rel (g x y) z → ∃ u, D.rel x u ∧ C.val (g x y) z = D.val x u ∧ C.post (g x y) z = [] ∧ D.post x u = [hoA (b x) (n x) (l x)]) : fo_k f D := ⟨λx F I w hcx _ hs => by
  rw [hpre] at hs
  obtain ⟨y, hy, hs⟩ := ex_open hs
  have h1 := h.h (g x y) (.pred (rest (ofL (hoB (b x) (n x) (l x) y ++ [F])) [])) I w (hc x y hcx) (hr x y _ hcx (hoIn_of F hy)) (by rw [hp]; exact hs.part (touch := []) List.nodup_nil)
  rw [ha] at h1
  refine h1.mono λe w' ⟨z, J, k1, k2, k3, k4, k5⟩ => ?_
  obtain ⟨u, v1, v2, v3, v4⟩ := hv x y z hcx k1
  rw [v3] at k4
  have k4 := Sat.join (post := []) (touch := []) (out := []) k4
  refine ⟨u, J, v1, k2.trans v2, k3, ?_, k5⟩
  rw [v4]
  exact ex_shut hy k4⟩
abbrev kihC : Con where
  X := HhX
  Y := Unit
  args x := [.pointer (some ⟨x.b, 0, none⟩), .int .i64 0]
  pre x := [hoA x.b x.n x.l]
  cond _ := True
  rdc _ _ := True
  rel _ _ := True
  val _ _ := .returned (.int .i64 1)
  post x _ := [hoA x.b x.n x.l]
theorem kih_ok : fo_k 34 kihC :=
  hid (D := kihC) ki_ok (λx => x.b) (λx => x.n) (λx => x.l) (λ_ => rfl) (λx y => ⟨y.a, x.b, x.l, ⟨#[]⟩⟩) (λ_ _ => rfl) (λ_ _ => rfl) (λ_ _ _ => fo_tv) (λ_ _ _ _ h => h) λ_ _ _ _ _ => ⟨(), fo_tv, rfl, rfl, rfl⟩
abbrev owhC : Con where
  X := HhX
  Y := LpY
  args x := [.pointer (some ⟨x.b, 0, none⟩), .int .i64 0, .string x.k]
  pre x := [hoA x.b x.n x.l]
  cond _ := True
  rdc _ _ := True
  rel x y := y = lpOf (getV x.k x.l)
  val _ y := .returned (.tuple #[.agg #[.int .i64 y.k, .float .f64 y.f, .string y.s, .int .i64 0], .bool y.ok])
  post x _ := [hoA x.b x.n x.l]
theorem owh_ok : fo_k 36 owhC :=
  hid (D := owhC) ow_ok (λx => x.b) (λx => x.n) (λx => x.l) (λ_ => rfl) (λx y => ⟨y.a, x.b, x.l, x.k⟩) (λ_ _ => rfl) (λ_ _ => rfl) (λ_ _ _ => fo_tv) (λ_ _ _ _ h => h) λ_ _ z _ h => ⟨z, h, rfl, rfl, rfl⟩
abbrev kehC : Con where
  X := HhX
  Y := Row
  args x := [.pointer (some ⟨x.b, 0, none⟩), .int .i64 0]
  pre x := [hoA x.b x.n x.l]
  cond x := x.l.length ≤ 10000
  rdc _ _ := True
  rel x y := IsRow 9 1 (ksL x.l) y ∧ y.n = x.l.length
  val _ y := .returned (.slice y.a y.n y.cap)
  post x y := [hoA x.b x.n x.l, y.A]
theorem keh_ok : fo_k 35 kehC := ⟨λx F I w hc _ hs => by
  obtain ⟨b, n, l, k⟩ := x
  obtain ⟨y, hy, hs⟩ := ex_open hs
  refine (ke_ok.h ⟨y.a, b, l, ⟨#[]⟩⟩ (.pred (rest (ofL (hoB b n l y ++ [F])) [])) I w hc (hoIn_of F hy) (hs.part (touch := []) List.nodup_nil)).mono λe w' ⟨z, J, k1, k2, k3, k4, k5⟩ => ?_
  have k4 := Sat.join (post := [z.A]) (touch := []) (out := [6]) k4
  have k6 : Sat J (ofL (hoB b n l y ++ [.pred (rest (ofL (hoB b n l y ++ [F, z.A])) [0, 1, 2, 3, 4])])) w' := (k4 : Sat J (ofL (hoB b n l y ++ [F, z.A])) w').part (touch := [0, 1, 2, 3, 4]) (by decide)
  have k7 := ex_shut (R := hoR l) (B := hoB b n l) hy k6
  have k8 := Sat.join (post := [hoA b n l]) (touch := [0, 1, 2, 3, 4]) (out := [0]) k7
  exact ⟨z, J, k1, k2, k3, k8.pick [0, 6, 5] rfl rfl, k5⟩⟩
abbrev tdnC : Con where
  X := B1
  Y := Unit
  args x := [.pointer (some ⟨x.b, 0, none⟩), n1V]
  pre _ := []
  cond _ := True
  rdc _ F := Utf F ∧ gT.ok F
  rel _ _ := True
  val x _ := .returned (.tuple #[.string ⟨#[49]⟩, .bool true])
  post _ _ := []
  rmono _ _ _ hs h := ⟨h.1.sub hs, λb i v e => (h.2 b i v e).sub hs⟩
theorem tdn_ok : fo_k 50 tdnC := ⟨λx F I w _ hr hs =>
  (td_ok.h _ F I w (Tg.good.nm x.b) ⟨hr.1, hr.2, Tg.good.nm x.b⟩ hs).mono λ_ _ ⟨y, J, k1, k2, k3, k4, k5⟩ => ⟨y, J, k1, k2.trans (by kernel_rfl), k3, k4, k5⟩⟩
abbrev bvnC : Con where
  X := B1
  Y := Unit
  args x := [.pointer (some ⟨x.b, 0, none⟩), n1V]
  pre _ := []
  cond _ := True
  rdc _ F := Utf F ∧ gT.ok F
  rel _ _ := True
  val x _ := .returned (.string ⟨#[49]⟩)
  post _ _ := []
  rmono _ _ _ hs h := ⟨h.1.sub hs, λb i v e => (h.2 b i v e).sub hs⟩
theorem bvn_vc (x : B1) (F : Atom) (hc : bvnC.cond x) (hr : bvnC.rdc x F) :
 ∀(c : Nat), fo_sm c 0 ∧ fo_sm c 0 ∧ fo_sm c 1 ∧ fo_sm c 2 ∧ fo_sm c 3 ∧ fo_C2 50 tdnC q336 (λ_ rr => Utf rr ∧ gT.ok rr) [fo_vp (some ⟨x.b, 0, none⟩), agg ⟨q34⟩] (fo_aR [(0, F), (1000, fo_cl c q34 30)] []) (λb a => Done bvnC x F (fo_rt (fo_vs ⟨#[49]⟩)) [(0, F), (1000, fo_cl c q34 30)]) := by
  delta q336 q34 fo_aR fo_sm fo_C2 fo_vi fo_vs fo_vp fo_cl fo_rt
  obtain ⟨hu, hT⟩ := hr
  have hu : Utf F := hu
  have hT : gT.ok F := hT
  exact λb => ⟨⟨rfl, rfl⟩, ⟨rfl, rfl⟩, ⟨rfl, rfl⟩, ⟨rfl, rfl⟩, ⟨rfl, rfl⟩, tdn_ok, rfl, ⟨x.b⟩, rfl, rfl, fo_tv, ⟨Utf.rest (j := 0) (by simp) hu, hT.rest (j := 0) (by simp)⟩, λ_ _ => ⟨(), fo_tv, rfl, Ent.pick [0] rfl rfl⟩⟩
theorem bvn_ok : fo_k 38 bvnC := fo 26 Tryz.func38 (λ_ _ => [(0, 0, .n 1000), (4, 1, .q [.aq 1000, .aq 1000, .aq 1000, .aq 1000]), (4, 2, .c tdnC [] [])]) [(1, 1, OH.q [LH.aq (1000 : Nat)])] fo_i fo_i fo_o [] bvn_vc
end
section
open Go
def escU (u : Nat) : List Nat :=
  bif u == 34 then [92, 34] else bif u == 92 then [92, 92] else bif u == 8 then [92, 98] else bif u == 12 then [92, 102] else bif u == 10 then [92, 110] else bif u == 13 then [92, 114] else bif u == 9 then [92, 116] else
  bif decide (u < 32) then [92, 117, 48, 48, 48 + u / 16, hxL (u % 16)] else [u]
theorem escU_low : ∀ u : Fin 128, esc u.val = pr2 (escU u.val) ∧ (∀ x ∈ escU u.val, x < 128) ∧ (escU u.val).length ≤ 6 := by decide +kernel
theorem escU_hi {u : Nat} (h : 93 ≤ u) : escU u = [u] ∧ esc u = [u / 256, u % 256] := by
  unfold escU esc
  have e : ∀ n, n < 93 → (u == n) = false := λn hn => beq_false_of_ne (by omega)
  rw [e 34 (by decide), e 92 (by decide), e 8 (by decide), e 12 (by decide), e 10 (by decide), e 13 (by decide), e 9 (by decide), fo_df (by omega)]
  exact ⟨rfl, rfl⟩
theorem esc_U (u : Nat) : esc u = pr2 (escU u) := by
  by_cases h : u < 128
  · exact (escU_low ⟨u, h⟩).1
  · rw [(escU_hi (by omega)).1, (escU_hi (by omega)).2] <;> rfl
theorem escU_len (u : Nat) : (escU u).length ≤ 6 := by
  by_cases h : u < 128
  · exact (escU_low ⟨u, h⟩).2.2
  · rw [(escU_hi (by omega)).1]; show 1 ≤ 6; decide
def exU (us : List Nat) : List Nat := us.flatMap escU
theorem exU_cons (u : Nat) (us : List Nat) : exU (u :: us) = escU u ++ exU us := rfl
theorem exU_app (a b : List Nat) : exU (a ++ b) = exU a ++ exU b := List.flatMap_append
theorem exU_len : ∀ us : List Nat, (exU us).length ≤ 6 * us.length
  | [] => fo_nr _
  | u :: us => by
    rw [exU_cons, fo_la, fo_lc]
    have := escU_len u
    have := exU_len us
    omega
theorem quF_at (w : ByteArray) : ∀ (us : List Nat) (f i : Nat) (o : List Nat), UAt w i us → w.size / 2 = i + us.length → w.size / 2 < i + f → quF w f i (btL o) = btL (o ++ pr2 (exU us))
  | [], f, i, o, _, h1, h2 => by
    have h1 : w.size / 2 = i := h1
    obtain ⟨f, rfl⟩ : ∃ g, f = g + 1 := ⟨f - 1, by omega⟩
    rw [quF, fo_df (by omega), fo_cf]
    exact congrArg btL (fo_an o).symm
  | u :: us, f, i, o, ha, h1, h2 => by
    obtain ⟨f, rfl⟩ : ∃ g, f = g + 1 := ⟨f - 1, by omega⟩
    rw [fo_lc] at h1
    rw [quF, fo_dt (by omega), fo_ct, unV_N, ha.hd.2, btL_app, quF_at w us f (i + 1) _ ha.tl (by omega) (by omega), exU_cons, pr2_app, esc_U, fo_aa]
def quU (us : List Nat) : List Nat := [34] ++ exU us ++ [34]
theorem quV_U {us : List Nat} (h : Uns us) : quV (btL (pr2 us)) = btL (pr2 (quU us)) := by
  have hz : (btL (pr2 us)).size / 2 = us.length := by rw [btL_size, pr2_len]; omega
  unfold quV
  rw [quF_at _ us _ 0 [0, 34] (UAt.self h) (by omega) (by omega), btL_app]
  unfold quU
  rw [pr2_app, pr2_app] <;> rfl
theorem quV_wid {cs : List Nat} (h : Scs cs) : quV (wid cs) = btL (pr2 (quU (unL cs))) := by rw [wid_un, quV_U (unL_lt h)]
def escC (c : Nat) : List Nat := bif decide (c < 128) then escU c else [c]
theorem escC_sc {c : Nat} (h : Sc c) : Scs (escC c) := by
  unfold escC
  by_cases h1 : c < 128
  · rw [fo_dt h1, fo_ct]
    exact Scs.low (escU_low ⟨c, h1⟩).2.1
  · rw [fo_df h1, fo_cf]
    intro d hd
    rw [List.mem_singleton.1 hd]; exact h
theorem unL_low : ∀ {l : List Nat}, (∀ c ∈ l, c < 128) → unL l = l
  | [], _ => rfl
  | c :: l, h => by
    have hc := h c fo_mc
    rw [unL_cons, unL_low λd hd => h d (fo_mm _ hd)]
    unfold unU
    rw [fo_df (by omega)] <;> rfl
theorem escC_un (c : Nat) : unL (escC c) = exU (unU c) := by
  unfold escC
  by_cases h1 : c < 128
  · rw [fo_dt h1, fo_ct, unL_low (escU_low ⟨c, h1⟩).2.1]
    unfold unU
    rw [fo_df (by omega)]
    show escU c = escU c ++ []
    rw [fo_an]
  · rw [fo_df h1, fo_cf]
    show unU c ++ [] = _
    rw [fo_an]
    unfold unU
    by_cases h2 : c > 65535
    · rw [fo_dt h2, fo_ct]
      show _ = escU _ ++ (escU _ ++ [])
      rw [(escU_hi (show 93 ≤ 55296 + (c - 65536) / 1024 by omega)).1, (escU_hi (show 93 ≤ 56320 + (c - 65536) % 1024 by omega)).1] <;> rfl
    · rw [fo_df h2, fo_cf]
      show _ = escU _ ++ []
      rw [(escU_hi (show 93 ≤ c by omega)).1] <;> rfl
def qxC (cs : List Nat) : List Nat := [34] ++ cs.flatMap escC ++ [34]
theorem exC_un : ∀ cs : List Nat, unL (cs.flatMap escC) = exU (unL cs)
  | [] => rfl
  | c :: cs => by
    show unL (escC c ++ cs.flatMap escC) = exU (unU c ++ unL cs)
    rw [unL_app, exU_app, escC_un, exC_un cs]
theorem quC_un (cs : List Nat) : unL (qxC cs) = quU (unL cs) := by
  unfold qxC quU
  rw [unL_app, unL_app, exC_un] <;> rfl
theorem exC_sc {cs : List Nat} (h : Scs cs) : Scs (cs.flatMap escC) := λd hd => by
  obtain ⟨c, hc, hd⟩ := List.mem_flatMap.1 hd
  exact escC_sc (h c hc) d hd
theorem sc34 : Scs [34] := Scs.low (by decide)
theorem quC_sc {cs : List Nat} (h : Scs cs) : Scs (qxC cs) := (sc34.app (exC_sc h)).app sc34
theorem quV_C {cs : List Nat} (h : Scs cs) : quV (wid cs) = wid (qxC cs) := by rw [quV_wid h, wid_un, quC_un]
abbrev Cvs := List (List Nat × List Nat)
def kvW (l : Cvs) : TVs := l.map λp => (wid p.1, wid p.2)
def ScKv (l : Cvs) : Prop := ∀ p ∈ l, Scs p.1 ∧ Scs p.2
theorem ScKv.hd {p : List Nat × List Nat} {l : Cvs} (h : ScKv (p :: l)) : Scs p.1 ∧ Scs p.2 := h p fo_mc
theorem ScKv.tl {p : List Nat × List Nat} {l : Cvs} (h : ScKv (p :: l)) : ScKv l := λq hq => h q (fo_mm _ hq)
def mbC (p : List Nat × List Nat) : List Nat := qxC p.1 ++ [58] ++ qxC p.2
def obM : Cvs → Bool → List Nat
  | [], _ => []
  | p :: r, first => (bif first then [] else [44]) ++ mbC p ++ obM r false
theorem mbC_sc {p : List Nat × List Nat} (h : Scs p.1 ∧ Scs p.2) : Scs (mbC p) := ((quC_sc h.1).app (Scs.low (by decide))).app (quC_sc h.2)
theorem obL_sc : ∀ {l : Cvs} {b : Bool}, ScKv l → Scs (obM l b)
  | [], _, _ => λ_ h => by cases h
  | p :: r, b, h => by
    rw [obM]
    refine (Scs.app ?_ (mbC_sc h.hd)).app (obL_sc h.tl)
    cases b with
    | true => exact λ_ h => by cases h
    | false => exact Scs.low (by decide)
theorem obF_at : ∀ (l : Cvs) (b : Bool) (o : List Nat), ScKv l → obF quV (kvW l) b (btL o) = btL (o ++ wdL (obM l b))
  | [], b, o, _ => congrArg btL (fo_an o).symm
  | p :: r, b, o, h => by
    show obF quV ((wid p.1, wid p.2) :: kvW r) b (btL o) = _
    rw [obF, quV_C h.hd.1, quV_C h.hd.2]
    have e : ∀ x : List Nat, btL x ++ wid (qxC p.1) ++ btL [0, 58] ++ wid (qxC p.2) = btL (x ++ wdL (mbC p)) := λx => by
      unfold wid mbC
      rw [btL_app, btL_app, btL_app, wdL_app, wdL_app]
      congr 1
      simp only [fo_aa]
      rfl
    rw [obM, wdL_app, wdL_app]
    cases b with
    | true =>
      rw [fo_ct, fo_ct, e, obF_at r false _ h.tl]
      show btL (o ++ wdL (mbC p) ++ wdL (obM r false)) = btL (o ++ ([] ++ wdL (mbC p) ++ wdL (obM r false)))
      rw [List.nil_append, fo_aa]
    | false =>
      rw [fo_cf, fo_cf, btL_app, e, obF_at r false _ h.tl]
      congr 1
      simp only [fo_aa]
      rfl
def obX (l : Cvs) : List Nat := [123] ++ obM l true ++ [125]
theorem obC_sc {l : Cvs} (h : ScKv l) : Scs (obX l) := ((Scs.low (by decide)).app (obL_sc h)).app (Scs.low (by decide))
theorem obV_C {l : Cvs} (h : ScKv l) : obV quV (kvW l) = wid (obX l) := by
  unfold obV
  rw [obF_at l true [0, 123] h, btL_app]
  unfold wid obX
  rw [wdL_app, wdL_app] <;> rfl
theorem quU_len (us : List Nat) : (quU us).length ≤ 6 * us.length + 2 := by
  have := exU_len us
  unfold quU
  rw [fo_la, fo_la, fo_l1]
  omega
theorem mbC_len (p : List Nat × List Nat) : (unL (mbC p)).length ≤ 6 * ((unL p.1).length + (unL p.2).length) + 5 := by
  unfold mbC
  rw [unL_app, unL_app, quC_un, quC_un, fo_la, fo_la]
  have := quU_len (unL p.1)
  have := quU_len (unL p.2)
  show _ + 1 + _ ≤ _
  omega
theorem obL_len {n : Nat} : ∀ (l : Cvs) (b : Bool), (∀ p ∈ l, (unL p.1).length + (unL p.2).length ≤ n) → (unL (obM l b)).length ≤ l.length * (6 * n + 6)
  | [], _, _ => fo_zl _
  | p :: r, b, h => by
    have h1 := mbC_len p
    have h2 := h p fo_mc
    have h3 := obL_len r false λq hq => h q (fo_mm _ hq)
    rw [obM, unL_app, unL_app, fo_la, fo_la, fo_lc, Nat.succ_mul]
    have : (unL (bif b then [] else [44])).length ≤ 1 := by cases b <;> decide
    omega
theorem obC_len {n : Nat} {l : Cvs} (h : ∀ p ∈ l, (unL p.1).length + (unL p.2).length ≤ n) : (wid (obX l)).size ≤ 2 * (l.length * (6 * n + 6) + 2) := by
  rw [wid_size]
  unfold obX
  rw [unL_app, unL_app, fo_la, fo_la]
  have := obL_len l true h
  show 2 * (1 + _ + 1) ≤ _
  omega
def hxN (x : Int) : Option Nat := if 48 ≤ x ∧ x ≤ 57 then some (x - 48).toNat else if 97 ≤ x ∧ x ≤ 102 then some (x - 87).toNat else none
theorem hxN_L : ∀ d : Fin 16, hxN ((hxL d.val : Nat) : Int) = some d.val := by decide +kernel
theorem hxN_back {x : Int} {d : Nat} (h : hxN x = some d) : d < 16 ∧ x = ((hxL d : Nat) : Int) := by
  unfold hxN at h
  unfold hxL
  by_cases h1 : 48 ≤ x ∧ x ≤ 57
  · rw [if_pos h1] at h
    have h := Option.some.inj h
    rw [fo_dt (show d < 10 by omega), fo_ct]
    omega
  · rw [if_neg h1] at h
    by_cases h2 : 97 ≤ x ∧ x ≤ 102
    · rw [if_pos h2] at h
      have h := Option.some.inj h
      rw [fo_df (show ¬ d < 10 by omega), fo_cf]
      omega
    · rw [if_neg h2] at h; cases h
def shT : List (Nat × Nat) := [(34, 34), (92, 92), (47, 47), (98, 8), (102, 12), (110, 10), (114, 13), (116, 9)]
def escE : EscF := λw i =>
  match shT.find? λp => jpkR0 w i == ((p.1 : Nat) : Int) with
  | some p => some (p.2, i + 1)
  | none => bif jpkR0 w i == 117 then
      (match hxN (jpkR0 w (i + 1)), hxN (jpkR0 w (i + 2)), hxN (jpkR0 w (i + 3)), hxN (jpkR0 w (i + 4)) with
      | some a, some b, some c, some d => some (((a * 16 + b) * 16 + c) * 16 + d, i + 5)
      | _, _, _, _ => none)
    else none
theorem escE_u {w : ByteArray} {i a b c d : Nat} (h0 : jpkR0 w i = 117) (ha : a < 16) (hb : b < 16) (hc : c < 16) (hd : d < 16) (h1 : jpkR0 w (i + 1) = (hxL a : Nat)) (h2 : jpkR0 w (i + 2) = (hxL b : Nat)) (h3 : jpkR0 w (i + 3) = (hxL c : Nat)) (h4 : jpkR0 w (i + 4) = (hxL d : Nat)) : escE w i = some (((a * 16 + b) * 16 + c) * 16 + d, i + 5) := by
  unfold escE
  rw [h0, h1, h2, h3, h4, hxN_L ⟨a, ha⟩, hxN_L ⟨b, hb⟩, hxN_L ⟨c, hc⟩, hxN_L ⟨d, hd⟩] <;> rfl
theorem escE_s {w : ByteArray} {i u v : Nat} (h0 : jpkR0 w i = (u : Int)) (hf : (shT.find? λp => ((u : Nat) : Int) == ((p.1 : Nat) : Int)) = some (u, v)) : escE w i = some (v, i + 1) := by
  unfold escE
  rw [h0, hf]
theorem escU_cases : ∀ u : Fin 93, (escU u.val = [u.val] ∧ u.val ≠ 34 ∧ u.val ≠ 92 ∧ 32 ≤ u.val) ∨ (∃ x : Fin 128, escU u.val = [92, x.val] ∧ (shT.find? λp => ((x.val : Nat) : Int) == ((p.1 : Nat) : Int)) = some (x.val, u.val)) ∨ (u.val < 32 ∧ escU u.val = [92, 117, hxL 0, hxL 0, hxL (u.val / 16), hxL (u.val % 16)]) := by decide +kernel
theorem jtx_at (w : ByteArray) (hw : w.size ≤ 1048576) : ∀ (us r : List Nat) (f i : Nat) (o : List Nat), Uns us → UAt w i (exU us ++ 34 :: r) → us.length < f → jtx escE w f i (btL o) = some (i + (exU us).length + 1, btL (o ++ pr2 us))
  | [], r, f, i, o, _, ha, hf => by
    obtain ⟨f, rfl⟩ : ∃ g, f = g + 1 := ⟨f - 1, by omega⟩
    have ha : UAt w i (34 :: r) := ha
    rw [jtx, ha.pk, show (((34 : Nat) : Int) != 34) = false from rfl, fo_cf]
    show _ = some (i + 0 + 1, btL (o ++ []))
    rw [fo_an]
  | u :: us, r, f, i, o, hu, ha, hf => by
    obtain ⟨f, rfl⟩ : ∃ g, f = g + 1 := ⟨f - 1, by omega⟩
    rw [fo_lc] at hf
    have hu1 := hu u fo_mc
    have hu2 : Uns us := λx hx => hu x (fo_mm _ hx)
    have eo : o ++ pr2 (u :: us) = o ++ [u / 256, u % 256] ++ pr2 us := by rw [fo_aa] <;> rfl
    rw [exU_cons, fo_aa] at ha
    rw [eo, exU_cons, fo_la]
    have plain : escU u = [u] → u ≠ 34 → u ≠ 92 → 32 ≤ u → jtx escE w (f + 1) i (btL o) = some (i + ((escU u).length + (exU us).length) + 1, btL (o ++ [u / 256, u % 256] ++ pr2 us)) := by
      intro e n1 n2 n3
      rw [e] at ha ⊢
      have ha : UAt w i (u :: (exU us ++ 34 :: r)) := ha
      rw [jtx, ha.pk, bne_iff_ne.2 (show ((u : Nat) : Int) ≠ 34 by omega), fo_ct, fo_df (show ¬ ((u : Nat) : Int) < 32 by omega), fo_cf, beq_false_of_ne (show ((u : Nat) : Int) ≠ 92 by omega), fo_cf, ha.hd.2, btL_app, jtx_at w hw us r f (i + 1) _ hu2 ha.tl (by omega)]
      show some (i + 1 + (exU us).length + 1, _) = some (i + (1 + (exU us).length) + 1, _)
      rw [Nat.add_assoc i 1]
    have stroke : ∀ (x j : Nat) (t : List Nat), escU u = 92 :: x :: t → escE w (i + 1) = some (u, i + (escU u).length) → i + (escU u).length = j → UAt w j (exU us ++ 34 :: r) → jtx escE w (f + 1) i (btL o) = some (i + ((escU u).length + (exU us).length) + 1, btL (o ++ [u / 256, u % 256] ++ pr2 us)) := by
      intro x j t e e2 e3 h3
      rw [e] at ha
      have ha : UAt w i (92 :: (x :: t ++ (exU us ++ 34 :: r))) := ha
      have hz := h3.sz
      rw [fo_la, fo_lc] at hz
      rw [jtx, ha.pk, show (((92 : Nat) : Int) != 34) = true from rfl, fo_ct, show decide (((92 : Nat) : Int) < 32) = false from rfl, fo_cf, show (((92 : Nat) : Int) == 92) = true from rfl, fo_ct, e2, Option.bind_some]
      show (bif decide (u < 65536) && decide (i + (escU u).length ≤ 1048576) then jtx escE w f (i + (escU u).length) (btL o ++ btL [u / 256, u % 256]) else none) = _
      rw [fo_dt hu1, fo_dt (by omega), Bool.and_self, fo_ct, btL_app, e3, jtx_at w hw us r f j _ hu2 h3 (by omega), ← e3, ← Nat.add_assoc i]
    by_cases h93 : u < 93
    · rcases escU_cases ⟨u, h93⟩ with ⟨e, n1, n2, n3⟩ | ⟨x, e, e2⟩ | ⟨hl, e⟩
      · exact plain e n1 n2 n3
      · have e : escU u = [92, x.val] := e
        have hr := ha.right
        have ha' := ha.left
        rw [e] at ha' hr
        refine stroke x.val (i + 2) [] e ?_ (by rw [e] <;> rfl) hr
        rw [e]
        exact escE_s ha'.tl.pk e2
      · have e : escU u = [92, 117, hxL 0, hxL 0, hxL (u / 16), hxL (u % 16)] := e
        have hl : u < 32 := hl
        have hr := ha.right
        have ha' := ha.left
        rw [e] at ha' hr
        refine stroke 117 (i + 6) _ e ?_ (by rw [e] <;> rfl) hr
        rw [e]
        have := escE_u (a := 0) (b := 0) (c := u / 16) (d := u % 16) ha'.tl.pk (by decide) (by decide) (by omega) (by omega) ha'.tl.tl.pk ha'.tl.tl.tl.pk ha'.tl.tl.tl.tl.pk ha'.tl.tl.tl.tl.tl.pk
        rw [show ((0 * 16 + 0) * 16 + u / 16) * 16 + u % 16 = u by omega] at this
        exact this
    · exact plain (escU_hi (by omega)).1 (by omega) (by omega) (by omega)
def k2 : RdK := ⟨K1, escE⟩
theorem qu_at {w : ByteArray} (hw : w.size ≤ 1048576) {cs r : List Nat} {i : Nat} (h : Scs cs) (ha : UAt w i (quU (unL cs) ++ r)) : jpkR0 w i = 34 ∧ jtx escE w (w.size + 1) (i + 1) ⟨#[]⟩ = some (i + (quU (unL cs)).length, wid cs) := by
  have ha2 : UAt w i (34 :: (exU (unL cs) ++ 34 :: r)) := by
    unfold quU at ha
    simpa using ha
  refine ⟨ha2.pk, ?_⟩
  have hz := ha2.sz
  rw [fo_lc, fo_la, fo_lc] at hz
  have hex : (unL cs).length ≤ (exU (unL cs)).length := by
    have : ∀ us : List Nat, us.length ≤ (exU us).length := by
      intro us
      induction us with
      | nil => exact fo_nr _
      | cons u us ih =>
        rw [exU_cons, fo_la, fo_lc]
        have : 1 ≤ (escU u).length := by
          unfold escU
          cases (u == 34) <;> cases (u == 92) <;> cases (u == 8) <;> cases (u == 12) <;> cases (u == 10) <;> cases (u == 13) <;> cases (u == 9) <;> cases decide (u < 32) <;> simp
        omega
    exact this _
  have := jtx_at w hw (unL cs) r (w.size + 1) (i + 1) [] (unL_lt h) ha2.tl (by omega)
  rw [List.nil_append, ← wid_un] at this
  rw [show (⟨#[]⟩ : ByteArray) = btL [] from rfl, this]
  unfold quU
  rw [fo_la, fo_la, fo_l1]
  congr 2
  omega
def kvT (l : Cvs) : KVs := l.map λp => (wid p.1, .t (wid p.2))
theorem mb_un (p : List Nat × List Nat) : unL (mbC p) = quU (unL p.1) ++ ([58] ++ quU (unL p.2)) := by
  unfold mbC
  rw [unL_app, unL_app, quC_un, quC_un, fo_aa] <;> rfl
theorem ob_at {w : ByteArray} (hw : w.size ≤ 1048576) : ∀ (l : Cvs) (i : Nat), l ≠ [] → ScKv l → UAt w i (unL (obM l true) ++ [125]) → ObAt k2 w i (kvT l) (i + (unL (obM l true)).length + 1)
  | [], _, h, _, _ => (h rfl).elim
  | p :: r, i, _, hs, ha => by
    have e1 : unL (obM (p :: r) true) = quU (unL p.1) ++ ([58] ++ (quU (unL p.2) ++ unL (obM r false))) := by
      rw [obM, fo_ct, List.nil_append, unL_app, mb_un, fo_aa, fo_aa]
    rw [e1] at ha ⊢
    have ha : UAt w i (quU (unL p.1) ++ ([58] ++ (quU (unL p.2) ++ (unL (obM r false) ++ [125])))) := by simpa only [fo_aa] using ha
    have q1 := qu_at hw hs.hd.1 ha
    have a2 : UAt w (i + (quU (unL p.1)).length) (58 :: (quU (unL p.2) ++ (unL (obM r false) ++ [125]))) := ha.right
    have q2 := qu_at hw hs.hd.2 a2.tl
    have a3 : UAt w (i + (quU (unL p.1)).length + 1 + (quU (unL p.2)).length) (unL (obM r false) ++ [125]) := a2.tl.right
    have z1 := ha.sz
    simp only [fo_la, fo_l1] at z1
    have z0 : w.size / 2 ≤ 524288 := by omega
    have el : i + (quU (unL p.1) ++ ([58] ++ (quU (unL p.2) ++ unL (obM r false)))).length + 1 = i + (quU (unL p.1)).length + 1 + (quU (unL p.2)).length + (unL (obM r false)).length + 1 := by
      simp only [fo_la, fo_l1]; omega
    rw [el]
    have vl : ∀ x : Int, jpkR0 w (i + (quU (unL p.1)).length + 1 + (quU (unL p.2)).length) = x → isBk x = false → VlAt k2 w (i + (quU (unL p.1)).length + 1) (.t (wid p.2)) (i + (quU (unL p.1)).length + 1 + (quU (unL p.2)).length) := λx e hb =>
      .t _ _ q2.1 q2.2 (by omega) (by rw [e]; exact hb)
    cases r with
    | nil =>
      have a3 : UAt w (i + (quU (unL p.1)).length + 1 + (quU (unL p.2)).length) (125 :: []) := a3
      exact .last i _ _ _ _ q1.1 q1.2 (by omega) a2.pk (vl _ a3.pk (by decide)) (by omega) a3.pk (by omega)
    | cons q r =>
      have e2 : unL (obM (q :: r) false) = 44 :: unL (obM (q :: r) true) := by
        rw [obM, obM, fo_ct, fo_cf, List.nil_append, fo_aa, unL_app] <;> rfl
      rw [e2] at a3 ⊢
      have a3 : UAt w (i + (quU (unL p.1)).length + 1 + (quU (unL p.2)).length) (44 :: (unL (obM (q :: r) true) ++ [125])) := a3
      have ih := ob_at hw (q :: r) _ (by simp) hs.tl a3.tl
      have z2 := a3.sz
      rw [fo_lc] at z2 ⊢
      rw [show i + (quU (unL p.1)).length + 1 + (quU (unL p.2)).length + ((unL (obM (q :: r) true)).length + 1) + 1 = i + (quU (unL p.1)).length + 1 + (quU (unL p.2)).length + 1 + (unL (obM (q :: r) true)).length + 1 by omega]
      exact .more i _ _ _ _ _ _ q1.1 q1.2 (by omega) a2.pk (vl _ a3.pk (by decide)) (by omega) a3.pk (by omega) ih
theorem jpk_end {w : ByteArray} {i : Nat} (h : w.size / 2 ≤ i) : jpkR0 w i = -1 := by unfold jpkR0; rw [fo_df (by omega)] <;> rfl
end
section
open Go
set_option maxHeartbeats 1000000
def esT1 : ByteArray := ⟨#[34, 92, 47, 98, 102, 110, 114, 116]⟩
def esT2 : ByteArray := ⟨#[34, 92, 47, 8, 12, 10, 13, 9]⟩
def hxD : ByteArray := ⟨#[48, 49, 50, 51, 52, 53, 54, 55, 56, 57, 97, 98, 99, 100, 101, 102]⟩
theorem esT1_asc : asc esT1 := by unfold asc; decide
theorem hxT_asc : asc hxD := by unfold asc; decide
theorem shT_all : ∀ p ∈ shT, (0 ≤ escI esT1 p.1 ∧ escI esT1 p.1 < 8) ∧ byteAt esT2 (escI esT1 p.1) = (p.2 : Int) ∧ (1 ≤ p.1 ∧ p.1 < 128) := by decide +kernel
theorem es117 : escI esT1 117 = -1 := by decide +kernel
theorem hx_all : ∀ d : Fin 16, escI hxD (hxL d.val) = (d.val : Int) ∧ hxL d.val < 128 ∧ i64.wrap (↑(BitVec.ofInt i64.bits ((hxL d.val : Nat) : Int) ||| BitVec.ofInt i64.bits 32).toNat : Int) = ((hxL d.val : Nat) : Int) := by decide +kernel
structure EsS where
  b : Nat
  w : ByteArray
  i : Nat
  u : Nat
  v : Nat
abbrev essC : Con where
  X := EsS
  Y := Unit
  args x := [.pointer (some ⟨x.b, 0, none⟩)]
  pre x := [jrA x.b x.w x.i]
  cond x := x.w.size ≤ 1048576 ∧ x.i ≤ 1048576 ∧ jpkR0 x.w x.i = (x.u : Int) ∧ (x.u, x.v) ∈ shT
  rdc _ _ := True
  rel _ _ := True
  val x _ := .returned (.int .i64 x.v)
  post x _ := [jrA x.b x.w (x.i + 1)]
def essOv (x : EsS) (_F : Atom) : List (Nat × Nat × OH) := [(1, 1, .c (pkkC x.u) [] []), (2, 3, .q [.ex 0 (.is (.int .i64 x.i))]), (3, 1, .qo cvI), (3, 2, .c irgC [] [])]
abbrev q151 : ByteArray := ByteArray.mk #[34, 92, 47, 8, 12, 10, 13, 9]
theorem ess_vc (x : EsS) (F : Atom) (hc : essC.cond x) (hr : essC.rdc x F) :
 fo_C2 83 (pkkC (x.u : Int)) (λe => e.w.size ≤ 1048576 ∧ e.i ≤ 1048576 ∧ jpkR0 e.w e.i = x.u) JrIn [fo_vp (some ⟨x.b, 0, none⟩)] (fo_aR [(0, fo_cl x.b [fo_vs x.w, fo_vi ↑x.i] 138), (1, F)] []) (λe d => Look (fo_cl x.b [fo_vs x.w, fo_vi ↑x.i] 138) ⟨x.b, 1, none⟩ (fo_vi ↑x.i) ∧ fo_rI ((x.i : Int) + 1) ∧ fo_sm x.b 1 ∧ T81 (opIn Tryz.f180 3 1) [fo_vi ↑x.u] (λc => T35 [fo_vs ⟨#[34, 92, 47, 98, 102, 110, 114, 116]⟩, fo_vj ↑c] (λb a => fo_Bd (escI b.t b.c ≥ 0) (fo_Bd ((x.u : Int) > 0) ((0 ≤ escI b.t b.c ∧ escI b.t b.c < (↑q151.size : Int)) ∧ fo_rI (byteAt q151 (escI b.t b.c)) ∧ Done essC x F (fo_rt (fo_vi (byteAt q151 (escI b.t b.c)))) [(0, fo_cl x.b [fo_vs x.w, fo_vi ((x.i : Int) + 1)] 138), (1, F)]) (Br ((x.u : Int) != 117) False False)) (Br ((x.u : Int) != 117) False False)))) := by
  delta T81 T35 q151 fo_aR fo_sm fo_rI fo_C1 fo_C2 fo_vi fo_vj fo_vs fo_vp fo_cl fo_Bd fo_rt
  obtain ⟨h1, h2, h3, h4⟩ := hc
  obtain ⟨⟨a1, a2⟩, a3, a4, a5⟩ := shT_all _ h4
  dsimp only at a1 a2 a3 a4 a5
  refine ⟨pkk_ok, rfl, ⟨x.b, x.w, x.i, ⟨#[]⟩, 0⟩, rfl, rfl, ⟨h1, h2, h3⟩, JrIn.sub (sub_rest 0 (by simp) rfl) (.jr ⟨x.b, x.w, x.i, ⟨#[]⟩, 0⟩), λ_ _ => ⟨Look.cells rfl, ⟨by omega, by omega⟩, ⟨rfl, rfl⟩, cvi_ok rfl rfl rfl, x.u, rfl, by omega, irg_ok, rfl, ⟨esT1, x.u⟩, rfl, rfl, ⟨.inl (by dsimp only; omega), esT1_asc⟩, fo_tv, λ_ _ => br_decide (λ_ => br_decide (λ_ => ⟨⟨a1, a2⟩, ⟨?_, ?_⟩, (), fo_tv, ?_, Ent.pick [0, 1] rfl rfl⟩) (λh => absurd h (by omega))) (λh => absurd a1 h)⟩⟩
  · show -9223372036854775808 ≤ byteAt esT2 (escI esT1 x.u)
    rw [a3]; omega
  · show byteAt esT2 (escI esT1 x.u) ≤ 9223372036854775807
    have hv : x.v < 256 := (by decide : ∀ p ∈ shT, p.2 < 256) _ h4
    rw [a3]; omega
  · show returned (.int .i64 (byteAt esT2 (escI esT1 x.u))) = returned (.int .i64 x.v)
    rw [a3]
theorem ess_ok : fo_k 180 essC := fo 75 Tryz.func180 essOv [(2, 7, OH.w [LH.aq (0 : Nat)]), (7, 1, OH.q [])] fo_i fo_i fo_o [] ess_vc
structure EsU where
  b : Nat
  w : ByteArray
  i : Nat
  d : Nat → Nat
def EsU.c (x : EsU) : Nat → Nat
  | 0 => 0
  | n + 1 => x.c n * 16 + x.d n
abbrev esuC : Con where
  X := EsU
  Y := Unit
  args x := [.pointer (some ⟨x.b, 0, none⟩)]
  pre x := [jrA x.b x.w x.i]
  cond x := x.w.size ≤ 1048576 ∧ x.i ≤ 1048576 ∧ jpkR0 x.w x.i = 117 ∧ ∀ n, n < 4 → x.d n < 16 ∧ jpkR0 x.w (x.i + 1 + n) = ((hxL (x.d n) : Nat) : Int)
  rdc _ _ := True
  rel _ _ := True
  val x _ := .returned (.int .i64 (x.c 4))
  post x _ := [jrA x.b x.w (x.i + 5)]
abbrev pkhC : Con where
  X := EsS
  Y := Unit
  args x := [.pointer (some ⟨x.b, 0, none⟩)]
  pre _ := []
  cond x := x.w.size ≤ 1048576 ∧ x.i ≤ 1048576 ∧ jpkR0 x.w x.i = (x.u : Int)
  rdc x F := JrIn ⟨x.b, x.w, x.i, x.w, 1⟩ F
  rel _ _ := True
  val x _ := .returned (.int .i64 x.u)
  post _ _ := []
  rmono _ _ _ hs h := h.sub hs
theorem pkh_ok : fo_k 83 pkhC := ⟨λx F I w hc hr hs => (pkf_ok.h ⟨x.b, x.w, x.i, ⟨#[]⟩, 0⟩ F I w ⟨hc.1, hc.2.1⟩ ⟨hr.l0, hr.l1⟩ hs).mono λe w' ⟨y, J, k1, k2, k3, k4, k5⟩ => ⟨y, J, k1, by rw [k2]; show returned (.int .i64 (jpkR0 x.w x.i)) = _; rw [hc.2.2] <;> rfl, k3, k4, k5⟩⟩
def or3x : QCon where
  X := Nat
  args d := [.int .i64 (hxL d : Nat), .int .i64 32]
  cond d := d < 16
  val d := .int .i64 (hxL d : Nat)
theorem or3x_ok {P : Program} {o : Oper} {t rt : TypeId} {x y : Operand} (ho : o.op = .binOp .or t x y rt) : QOpOk P o or3x := by
  refine ⟨λ(d : Nat) w ρ ha hc => ?_⟩
  have hc : d < 16 := hc
  simp only [ho, Op.operands, or3x] at ha
  have ha2 : ρ x = .int .i64 (hxL d : Nat) ∧ ρ y = .int .i64 32 := by simpa using ha
  obtain ⟨hx, hy⟩ := ha2
  have h : (execOp ρ o).run P w = .ok (.value (.int .i64 (i64.wrap (↑(BitVec.ofInt i64.bits ((hxL d : Nat) : Int) ||| BitVec.ofInt i64.bits 32).toNat : Int)))) w := by simp [execOp, ho, hx, hy, eqGuard, binOp, Op.intBits, Sem.run]
  rw [h, (hx_all ⟨d, hc⟩).2.2] <;> rfl
def esuInv (x : EsU) (F : Atom) : Nat → Option Inv := fun
  | 0 => some { X := Nat, P := λn => n ≤ 4, mu := λn => 4 - n, lv := λn => [(0, .pointer (some ⟨x.b, 0, none⟩)), (5, .int .i64 (x.c n)), (33, .int .i64 n)], st := λn => [jrA x.b x.w (x.i + 1 + n), F] }
  | _ => none
def esuOv (x : EsU) (_F : Atom) : List (Nat × Nat × OH) := [(1, 1, .c (pkkC 117) [] []), (2, 3, .q [.ex 0 (.is (.int .i64 x.i))]), (3, 1, .qo cvI), (3, 2, .c irgC [] []), (7, 1, .c nvrC [] []), (11, 1, .c pkhC [] []), (11, 2, .qo or3x), (11, 3, .qo cvI), (11, 4, .c irgC [] []), (12, 1, .c pkhC [] []), (16, 1, .c nvrC [] []), (18, 3, .q [.ex 0 (.int .i64)]), (18, 7, .w [.aq 0])]
abbrev q234 (x : EsU) : Option Addr := some ⟨x.b, 0, none⟩
abbrev q133 (e0 : EsU) (z : Nat) (e1 : Atom) := [(0, fo_cl e0.b [fo_vs e0.w, fo_vi (↑(e0.i + 1 + z) : Int)] 138), (1, e1)]
def T124 := fo_C2 83 pkhC (λw0 => w0.w.size ≤ 1048576 ∧ w0.i ≤ 1048576 ∧ jpkR0 w0.w w0.i = w0.u) (λw0 w1 => JrIn ⟨w0.b, w0.w, w0.i, w0.w, 1⟩ w1)
abbrev q250 (x : EsU) (n : Nat) := fo_cl x.b [fo_vs x.w, fo_vi (↑(x.i + 1 + n) : Int)] 138
def T125 (e0 : EsU) (e1 : Atom) (v0 v1 : Value) (ss : St) (mm : Nat) := ∃ (z : Nat), z ≤ 4 ∧ (fo_vp (q234 e0) = fo_vp (q234 e0) ∧ v0 = fo_vi (↑(e0.c z) : Int) ∧ v1 = fo_vi ↑z ∧ True) ∧ Ent ss (q133 e0 z e1) ∧ 4 - z < mm
abbrev q157 (x : EsU) (n : Nat) (F : Atom) (h : IrX) : Int → Prop := λb => fo_rI (b + 1) ∧ fo_sm x.b 1 ∧ fo_rI ((n : Int) + (1 : Int)) ∧ T125 x F (fo_vi ((↑(x.c n) : Int) * 16 + escI h.t h.c)) (fo_vi ((n : Int) + (1 : Int))) [(0, fo_cl x.b [fo_vs x.w, fo_vi (b + 1)] 138), (1, F)] (4 - n)
def q9 (x : EsU) (n : Nat) (h : IrX) (F : Atom) := T91 [fo_vp (q234 x)] (λd c => fo_rI ((↑(x.c n) : Int) * 16) ∧ fo_rI ((↑(x.c n) : Int) * 16 + escI h.t h.c) ∧ T60 (q250 x n) ⟨x.b, 1, none⟩ (q157 x n F h))
def q57 (f : EsS) (x : EsU) (n : Nat) (h : IrX) (F : Atom) := fo_Bd ((f.u : Int) < 65) (q9 x n h F) (fo_Bd ((f.u : Int) > 102) (q9 x n h F) (fo_Bd (escI h.t h.c < 10) (q9 x n h F) (fo_rI ((↑(x.c n) : Int) * 16) ∧ fo_rI ((↑(x.c n) : Int) * 16 + escI h.t h.c) ∧ T60 (q250 x n) ⟨x.b, 1, none⟩ (q157 x n F h))))
theorem esu_vc (x : EsU) (F : Atom) (hc : esuC.cond x) (hr : esuC.rdc x F) :
 fo_C2 83 (pkkC (117 : Int)) (λs => s.w.size ≤ 1048576 ∧ s.i ≤ 1048576 ∧ jpkR0 s.w s.i = 117) JrIn [fo_vp (q234 x)] (fo_aR [(0, fo_cl x.b [fo_vs x.w, fo_vi ↑x.i] 138), (1, F)] []) (λs r => Look (fo_cl x.b [fo_vs x.w, fo_vi ↑x.i] 138) ⟨x.b, 1, none⟩ (fo_vi ↑x.i) ∧ fo_rI ((x.i : Int) + 1) ∧ fo_sm x.b 1 ∧ T81 (opIn Tryz.f180 3 1) [fo_vi 117] (λq => T35 [fo_vs ⟨#[34, 92, 47, 98, 102, 110, 114, 116]⟩, fo_vj ↑q] (λp o => fo_Bd (escI p.t p.c ≥ 0) ((0 ≤ escI p.t p.c ∧ escI p.t p.c < (↑q151.size : Int)) ∧ fo_rI (byteAt q151 (escI p.t p.c)) ∧ Done esuC x F (fo_rt (fo_vi (byteAt q151 (escI p.t p.c)))) [(0, fo_cl x.b [fo_vs x.w, fo_vi ((x.i : Int) + 1)] 138), (1, F)]) ((∃(a : Nat), a ≤ 4 ∧ (fo_vp (q234 x) = fo_vp (q234 x) ∧ fo_vi 0 = fo_vi (↑(x.c a) : Int) ∧ fo_vi 0 = fo_vi ↑a ∧ True) ∧ Ent [(0, fo_cl x.b [fo_vs x.w, fo_vi ((x.i : Int) + 1)] 138), (1, F)] (q133 x a F)) ∧ fo_vA λ(n : Nat) _ => n ≤ 4 → fo_Bd ((n : Int) < (4 : Int)) (T124 [fo_vp (q234 x)] (fo_aR (q133 x n F) []) (λl k => QOpOk Tryz.prog (opIn Tryz.f180 11 2) or3x ∧ ∃(j : Nat), [fo_vi ↑l.u, fo_vi 32] = [fo_vi (↑(hxL j) : Int), fo_vi 32] ∧ j < 16 ∧ T81 (opIn Tryz.f180 11 3) [fo_vi (↑(hxL j) : Int)] (λi => T35 [fo_vs ⟨#[48, 49, 50, 51, 52, 53, 54, 55, 56, 57, 97, 98, 99, 100, 101, 102]⟩, fo_vj ↑i] (λh g => T124 [fo_vp (q234 x)] (fo_aR (q133 x n F) []) (λf e => fo_Bd ((f.u : Int) ≥ 48) (fo_Bd ((f.u : Int) ≤ 57) (fo_rI ((f.u : Int) - 48) ∧ fo_rI ((↑(x.c n) : Int) * 16) ∧ fo_rI ((↑(x.c n) : Int) * 16 + ((f.u : Int) - 48)) ∧ T60 (q250 x n) ⟨x.b, 1, none⟩ (λb => fo_rI (b + 1) ∧ fo_sm x.b 1 ∧ fo_rI ((n : Int) + (1 : Int)) ∧ T125 x F (fo_vi ((↑(x.c n) : Int) * 16 + ((f.u : Int) - 48))) (fo_vi ((n : Int) + (1 : Int))) [(0, fo_cl x.b [fo_vs x.w, fo_vi (b + 1)] 138), (1, F)] (4 - n))) (q57 f x n h F)) (q57 f x n h F)))))) (Done esuC x F (fo_rt (fo_vi (↑(x.c n) : Int))) (q133 x n F)))))) := by
  delta q234 T81 T35 q151 q133 T124 T60 q250 T125 T91 q157 q9 q57 fo_aR fo_sm fo_rI fo_C1 fo_C2 fo_vi fo_vj fo_vs fo_vp fo_cl fo_Bd fo_rt fo_vA
  obtain ⟨h1, h2, h3, hd⟩ := hc
  have hb : ∀ m, m ≤ 4 → x.c m < 16 ^ m := by
    intro m
    induction m with
    | zero => intro _; show 0 < 1; decide
    | succ m ih =>
      intro hm
      have h5 := ih (by omega)
      have h6 := (hd m (by omega)).1
      show x.c m * 16 + x.d m < 16 ^ m * 16
      omega
  refine ⟨pkk_ok, rfl, ⟨x.b, x.w, x.i, ⟨#[]⟩, 0⟩, rfl, rfl, ⟨h1, h2, h3⟩, JrIn.sub (sub_rest 0 (by simp) rfl) (.jr ⟨x.b, x.w, x.i, ⟨#[]⟩, 0⟩), λ_ _ => ⟨Look.cells rfl, ⟨by omega, by omega⟩, ⟨rfl, rfl⟩, cvi_ok rfl rfl rfl, (117 : Nat), rfl, by decide, irg_ok, rfl, ⟨esT1, 117⟩, rfl, rfl, ⟨.inl (by decide), esT1_asc⟩, fo_tv, λ_ _ => br_decide (λh => absurd h (by dsimp only; rw [es117]; decide)) (λ_ => ⟨⟨(0 : Nat), fo_zl _, ⟨rfl, rfl, rfl, fo_tv⟩, Ent.pick [0, 1] rfl rfl⟩, ?_⟩)⟩⟩
  intro n js hn
  refine br_decide (λhlt => ?_) (λhge => ?_)
  · have hlt : n < 4 := by omega
    obtain ⟨k1, k2⟩ := hd n hlt
    obtain ⟨g1, g2, -⟩ := hx_all ⟨x.d n, k1⟩
    dsimp only at g1 g2
    have hcn : x.c n < 65536 := Nat.lt_of_lt_of_le (hb n hn) (fo_pp (n := 16) (by decide) hn)
    have hcs : x.c (n + 1) = x.c n * 16 + x.d n := rfl
    have hin : x.i + 1 + n < x.w.size / 2 := by
      rcases Nat.lt_or_ge (x.i + 1 + n) (x.w.size / 2) with h | h
      · exact h
      · rw [jpk_end h] at k2; omega
    have J : ∀ S : List Atom, JrIn ⟨x.b, x.w, x.i + 1 + n, x.w, 1⟩ (.pred (rest (ofL [jrA x.b x.w (x.i + 1 + n), F]) [])) := λ_ => JrIn.sub (sub_rest 0 (by simp) rfl) (.jr ⟨x.b, x.w, x.i + 1 + n, x.w, 1⟩)
    refine ⟨pkh_ok, rfl, ⟨x.b, x.w, x.i + 1 + n, hxL (x.d n), 0⟩, rfl, rfl, ⟨h1, by dsimp only; omega, k2⟩, J [], λ_ _ => ⟨or3x_ok rfl, x.d n, rfl, k1, cvi_ok rfl rfl rfl, hxL (x.d n), rfl, by omega, irg_ok, rfl, ⟨hxD, hxL (x.d n)⟩, rfl, rfl, ⟨.inl (by dsimp only; omega), hxT_asc⟩, fo_tv, λ_ _ => ⟨pkh_ok, rfl, ⟨x.b, x.w, x.i + 1 + n, hxL (x.d n), 0⟩, rfl, rfl, ⟨h1, by dsimp only; omega, k2⟩, J [], λ_ _ => ?_⟩⟩⟩
    dsimp only
    rw [g1]
    by_cases q : x.d n < 10
    · have e : hxL (x.d n) = 48 + x.d n := by unfold hxL; rw [fo_dt q] <;> rfl
      rw [e]
      exact br_decide (λ_ => br_decide (λ_ => ⟨⟨by omega, by omega⟩, ⟨by omega, by omega⟩, ⟨by omega, by omega⟩, ((x.i + 1 + n : Nat) : Int), Look.cells rfl, ⟨by omega, by omega⟩, ⟨rfl, rfl⟩, ⟨by omega, by omega⟩, n + 1, by omega, ⟨rfl, congrArg (int .i64) (by rw [hcs]; omega), rfl, fo_tv⟩, Ent.pick [0, 1] rfl rfl, by omega⟩) (λh => absurd h (by omega))) (λh => absurd h (by omega))
    · have e : hxL (x.d n) = 87 + x.d n := by unfold hxL; rw [fo_df q] <;> rfl
      rw [e]
      exact br_decide (λ_ => br_decide (λh => absurd h (by omega)) (λ_ => br_decide (λh => absurd h (by omega)) (λ_ => br_decide (λh => absurd h (by omega)) (λ_ => br_decide (λh => absurd h (by omega)) (λ_ => ⟨⟨by omega, by omega⟩, ⟨by omega, by omega⟩, ((x.i + 1 + n : Nat) : Int), Look.cells rfl, ⟨by omega, by omega⟩, ⟨rfl, rfl⟩, ⟨by omega, by omega⟩, n + 1, by omega, ⟨rfl, congrArg (int .i64) (by rw [hcs]; omega), rfl, fo_tv⟩, Ent.pick [0, 1] rfl rfl, by omega⟩))))) (λh => absurd h (by omega))
  · have hn4 : n = 4 := by omega
    subst hn4
    exact ⟨(), fo_tv, rfl, Ent.pick [0, 1] rfl rfl⟩
theorem esu_ok : fo_k 180 esuC := fo 75 Tryz.func180 esuOv [(2, 7, OH.w [LH.aq (0 : Nat)])] esuInv fo_i fo_o [] esu_vc
theorem esc_ok : fo_k 180 (esfC escE) := ⟨λx F I w hc hr hs => by
  obtain ⟨h1, h2, h3⟩ := hc
  unfold escE at h3
  cases hf : (shT.find? λp => jpkR0 x.w x.i == ((p.1 : Nat) : Int)) with
  | some p =>
    rw [hf] at h3
    have h3 : some (p.2, x.i + 1) = some (x.c, x.j) := h3
    have h3 := Prod.mk.inj (Option.some.inj h3)
    have hm := List.mem_of_find?_eq_some hf
    have hp : (jpkR0 x.w x.i == ((p.1 : Nat) : Int)) = true := List.find?_some (p := λp : Nat × Nat => jpkR0 x.w x.i == ((p.1 : Nat) : Int)) hf
    refine (ess_ok.h ⟨x.b, x.w, x.i, p.1, p.2⟩ F I w ⟨h1, h2, by simpa using hp, hm⟩ trivial hs).mono λe w' ⟨y, J, k1, k2, k3, k4, k5⟩ => ⟨y, J, k1, ?_, k3, ?_, k5⟩
    · rw [k2]
      show returned (.int .i64 (p.2 : Nat)) = returned (.int .i64 (x.c : Nat))
      rw [h3.1]
    · show Sat J (ofL [jrA x.b x.w x.j, F]) w'
      rw [← h3.2]
      exact k4
  | none =>
    rw [hf] at h3
    have h3 : (bif jpkR0 x.w x.i == 117 then (match hxN (jpkR0 x.w (x.i + 1)), hxN (jpkR0 x.w (x.i + 2)), hxN (jpkR0 x.w (x.i + 3)), hxN (jpkR0 x.w (x.i + 4)) with | some a, some b, some c, some d => some (((a * 16 + b) * 16 + c) * 16 + d, x.i + 5) | _, _, _, _ => none) else none) = some (x.c, x.j) := h3
    cases h117 : (jpkR0 x.w x.i == 117) with
    | false => rw [h117] at h3; cases h3
    | true =>
      rw [h117, fo_ct] at h3
      cases e1 : hxN (jpkR0 x.w (x.i + 1)) with
      | none => rw [e1] at h3; cases h3
      | some a =>
        cases e2 : hxN (jpkR0 x.w (x.i + 2)) with
        | none => rw [e1, e2] at h3; cases h3
        | some b =>
          cases e3 : hxN (jpkR0 x.w (x.i + 3)) with
          | none => rw [e1, e2, e3] at h3; cases h3
          | some c =>
            cases e4 : hxN (jpkR0 x.w (x.i + 4)) with
            | none => rw [e1, e2, e3, e4] at h3; cases h3
            | some d =>
              rw [e1, e2, e3, e4] at h3
              have h3 : some (((a * 16 + b) * 16 + c) * 16 + d, x.i + 5) = some (x.c, x.j) := h3
              have h3 := Prod.mk.inj (Option.some.inj h3)
              have h117 : jpkR0 x.w x.i = 117 := by simpa using h117
              have d1 := hxN_back e1
              have d2 := hxN_back e2
              have d3 := hxN_back e3
              have d4 := hxN_back e4
              refine (esu_ok.h ⟨x.b, x.w, x.i, λn => [a, b, c, d].getD n 0⟩ F I w ⟨h1, h2, h117, λn hn => ?_⟩ trivial hs).mono λe w' ⟨y, J, k1, k2, k3, k4, k5⟩ => ⟨y, J, k1, ?_, k3, ?_, k5⟩
              · have : n = 0 ∨ n = 1 ∨ n = 2 ∨ n = 3 := by omega
                rcases this with rfl | rfl | rfl | rfl
                · exact d1
                · exact d2
                · exact d3
                · exact d4
              · rw [k2]
                show returned (.int .i64 (((((0 * 16 + a) * 16 + b) * 16 + c) * 16 + d : Nat) : Int)) = returned (.int .i64 (x.c : Nat))
                rw [Nat.zero_mul, fo_za, h3.1]
              · show Sat J (ofL [jrA x.b x.w x.j, F]) w'
                rw [← h3.2]
                exact k4⟩
end
section
open Go
set_option maxHeartbeats 1000000
structure PzT where
  k : RdK
  h : Nat
  w : ByteArray
  o : ByteArray
  j : Nat
structure PzT.ok (x : PzT) : Prop where
  w : x.w.size ≤ 1048576
  k : x.k.ok
  q : jpkR0 x.w 0 = 34
  a : jtx x.k.E x.w (x.w.size + 1) (0 + 1) ⟨#[]⟩ = some (x.j, x.o)
  j : x.j ≤ 1048576
  e : jpkR0 x.w x.j = -1
abbrev ptaC : Con where
  X := PzT
  Y := Unit
  args x := [.pointer (some ⟨x.h, 0, none⟩), .string x.w]
  pre x := [ho0 x.h 10000]
  cond _ := True
  rdc _ _ := True
  rel _ _ := False
  val _ _ := .returned (.tuple #[])
  post _ _ := []
def ptaCut (x : PzT) (F : Atom) : Nat → Option Inv := fun
  | 1 => some { X := Pz2, P := λ_ => True, mu := λ_ => 0, lv := λd => [(0, .pointer (some ⟨x.h, 0, none⟩)), (1, .string x.w), (4, .pointer (some ⟨d.b4, 0, none⟩)), (5, .pointer (some ⟨d.b5, 0, none⟩))], st := λd => [ho0 x.h 10000, F, .cells d.b4 [.int .i64 0, .float .f64 0, .string ⟨#[]⟩, .int .i64 0] 30, .cells d.b5 [.int .i64 0] 32] }
  | _ => none
def ptaOv (_x : PzT) (_F : Atom) : List (Nat × Nat × OH) := [(0, 0, .n 1000), (0, 1, .n 1010)]
def ptaL (_ : PzT) : List (Nat × Value) := []
noncomputable def pta_H (x : Con.X ptaC) (F : Atom) : Hints where
  op := hk ((ptaOv x F) ++ [])
  inv := (λ_ _ _ => none) x F
  cut := ptaCut x F
  ord := (λ_ => [])
theorem pta_vc (x : PzT) (F : Atom) (hc : ptaC.cond x) (hr : ptaC.rdc x F) :
 (∀(c b : Nat), ∃(a : Pz2), True ∧ (fo_vp (some ⟨x.h, 0, none⟩) = fo_vp (some ⟨x.h, 0, none⟩) ∧ fo_vs x.w = fo_vs x.w ∧ fo_vp (q17 c) = fo_vp (some ⟨a.b4, 0, none⟩) ∧ fo_vp (q17 b) = fo_vp (some ⟨a.b5, 0, none⟩) ∧ True) ∧ Ent [(0, fo_cl x.h q23 60), (1, F), (1000, fo_cl c q8 30), (1010, fo_cl b [fo_vi 0] 32)] [(0, fo_cl x.h q23 60), (1, F), (2, fo_cl a.b4 q8 30), (3, fo_cl a.b5 [fo_vi 0] 32)]) ∧ fo_vA λ(b : Pz2) _ => True → True := by
  delta q17 q23 q8 fo_vi fo_vs fo_vp fo_vl fo_cl fo_vA
  exact ⟨λb b1 => ⟨⟨b, b1⟩, fo_tv, ⟨rfl, rfl, rfl, rfl, fo_tv⟩, Ent.pick [0, 1, 1000, 1010] rfl rfl⟩, λ_ _ _ => fo_tv⟩
theorem pta_body (x : Con.X ptaC) (F : Atom) (hc : ptaC.cond x) (hr : ptaC.rdc x F) : BodyD Tryz.prog 22 pza (pta_H x F) rhp (codeOf pza) (ent (Con.args ptaC x)) (ofL (Con.pre ptaC x ++ [F])) (ptaL x) (Done ptaC x F) :=
  Eq.mpr (by kernel_rfl) (pta_vc x F hc hr)
structure PtbX where
  x : PzT
  b4 : Nat
  b5 : Nat
abbrev ptbC : Con where
  X := PtbX
  Y := Unit
  args z := [.pointer (some ⟨z.x.h, 0, none⟩), .string z.x.w, undef, undef, .pointer (some ⟨z.b4, 0, none⟩), .pointer (some ⟨z.b5, 0, none⟩)]
  pre z := [ho0 z.x.h 10000, .cells z.b4 [.int .i64 0, .float .f64 0, .string ⟨#[]⟩, .int .i64 0] 30, .cells z.b5 [.int .i64 0] 32]
  cond z := z.x.ok
  rdc z F := z.x.k.K.rd F ∧ Utf F
  rel _ _ := True
  val z _ := .returned (.tuple #[txV z.x.o, .int .i64 0])
  post z _ := [ho0 z.x.h 10000]
  rmono z _ _ hs h := ⟨z.x.k.K.mono h.1 hs, h.2.sub hs⟩
def ptbCut (z : PtbX) (F : Atom) : Nat → Option Inv := fun
  | 2 => some { X := Unit, P := λ_ => True, mu := λ_ => 0, lv := λ_ => [(0, .pointer (some ⟨z.x.h, 0, none⟩)), (1, .string z.x.w), (4, .pointer (some ⟨z.b4, 0, none⟩)), (5, .pointer (some ⟨z.b5, 0, none⟩))], st := λ_ => [ho0 z.x.h 10000, F, .cells z.b4 [.int .i64 0, .float .f64 0, .string ⟨#[]⟩, .int .i64 0] 30, .cells z.b5 [.int .i64 0] 32] }
  | _ => none
def ptbOv (_z : PtbX) (_F : Atom) : List (Nat × Nat × OH) := [(2, 2, .n 2020), (3, 1, .c vtC [2020] [2020]), (3, 2, .n 3020), (3, 3, .w (at8 3020)), (4, 1, .c (pkkC (-1)) [] []), (6, 0, .q (at8 3020)), (6, 2, .c bldC [] []), (6, 3, .w [.aq 2, .aq 2, .aq 2, .aq 2]), (6, 4, .w [.aq 3])]
def ptbL (z : PtbX) : List (Nat × Value) := [(4, .pointer (some ⟨z.b4, 0, none⟩))]
noncomputable def ptb_H (x : Con.X ptbC) (F : Atom) : Hints where
  op := hk ((ptbOv x F) ++ [])
  inv := (λ_ _ _ => none) x F
  cut := ptbCut x F
  ord := (λ_ => [])
abbrev q109 (h : VtX) : List Value := [fo_vi (Pv.t h.o).k, float f64 (Pv.t h.o).f, fo_vs (Pv.t h.o).s, fo_vi 0, fo_vb false, fo_vl none 0 0, fo_vl none 0 0, fo_vb false]
theorem ptb_vc (x : PtbX) (F : Atom) (hc : ptbC.cond x) (hr : ptbC.rdc x F) :
 (∃(a : Unit), True ∧ (fo_vp (some ⟨x.x.h, 0, none⟩) = fo_vp (some ⟨x.x.h, 0, none⟩) ∧ fo_vs x.x.w = fo_vs x.x.w ∧ fo_vp (some ⟨x.b4, 0, none⟩) = fo_vp (some ⟨x.b4, 0, none⟩) ∧ fo_vp (some ⟨x.b5, 0, none⟩) = fo_vp (some ⟨x.b5, 0, none⟩) ∧ True) ∧ Ent [(0, fo_cl x.x.h q23 60), (1, fo_cl x.b4 q8 30), (2, fo_cl x.b5 [fo_vi 0] 32), (3, F)] [(0, fo_cl x.x.h q23 60), (1, F), (2, fo_cl x.b4 q8 30), (3, fo_cl x.b5 [fo_vi 0] 32)]) ∧ fo_vA λ(l : Unit) _ => True → ∀(i : Nat), fo_C3 82 vtC (λh => (h.w.size ≤ 1048576 ∧ h.i ≤ 1048575 ∧ fo_k 180 (esfC h.E)) ∧ jpkR0 h.w h.i = 34 ∧ jtx h.E h.w (h.w.size + 1) (h.i + 1) q59 = some (h.j, h.o) ∧ h.j ≤ 1048576 ∧ isBk (jpkR0 h.w h.j) = false) [fo_vp (q17 i), fo_vi 0] [fo_cl i [fo_vs x.x.w, fo_vi 0] 138] (λh g => ∀(e : Nat), fo_s5 e (fo_sm e 5 ∧ fo_sm e 6 ∧ fo_sm e 7 ∧ T107 [fo_vp (q17 i)] (fo_aR [(0, fo_cl x.x.h q23 60), (1, F), (2, fo_cl x.b4 q8 30), (3, fo_cl x.b5 [fo_vi 0] 32), (2020, fo_cl h.b [fo_vs h.w, fo_vi ↑h.j] 138), (3020, fo_cl e (q109 h) 141)] []) (λd c => fo_s5 e (fo_sm e 5 ∧ fo_sm e 6 ∧ fo_sm e 7 ∧ T105 [agg ⟨q109 h⟩, fo_vp (some ⟨x.x.h, 0, none⟩)] (λb a => fo_sm x.b4 0 ∧ fo_sm x.b4 1 ∧ fo_sm x.b4 2 ∧ fo_sm x.b4 3 ∧ fo_sm x.b5 0 ∧ fo_sm x.b4 0 ∧ fo_sm x.b4 1 ∧ fo_sm x.b4 2 ∧ fo_sm x.b4 3 ∧ fo_sm x.b5 0 ∧ Done ptbC x F (fo_rt (tuple ⟨[agg ⟨q116 b⟩, fo_vi 0]⟩)) [(0, fo_cl x.x.h q23 60), (1, F), (2, fo_cl x.b4 (q116 b) 30), (3, fo_cl x.b5 [fo_vi 0] 32), (2020, fo_cl h.b [fo_vs h.w, fo_vi ↑h.j] 138), (3020, fo_cl e (q109 h) 141)]))))) := by
  delta q23 q8 q59 q17 T107 q109 T105 q116 fo_aR fo_sm fo_s5 fo_C0 fo_C2 fo_C3 fo_vi fo_vs fo_vb fo_vp fo_vl fo_cl fo_rt fo_vA
  obtain ⟨⟨k, h, ws, o, j⟩, b4, b5⟩ := x
  obtain ⟨h1, h2, h3, h4, h5, h6⟩ := hc
  dsimp only at h1 h2 h3 h4 h5 h6 ⊢
  refine ⟨⟨(), fo_tv, ⟨rfl, rfl, rfl, rfl, fo_tv⟩, Ent.pick [0, 3, 1, 2] rfl rfl⟩, λ_ _ _ b => ⟨vt_ok, rfl, ⟨k.E, b, ws, 0, 0, j, o⟩, rfl, rfl, ⟨⟨h1, fo_zl _, h2.e⟩, h3, h4, h5, by dsimp only; rw [h6] <;> rfl⟩, fo_tv, λ_ _ b1 => ?_⟩⟩
  iterate 8 refine ⟨⟨rfl, rfl⟩, ?_⟩
  refine ⟨pkk_ok, rfl, ⟨b, ws, j, ⟨#[]⟩, 0⟩, rfl, rfl, ⟨h1, h5, h6⟩, JrIn.sub (sub_rest 2020 (by simp) rfl) (.jr ⟨b, ws, j, ⟨#[]⟩, 0⟩), λ_ _ => ?_⟩
  iterate 8 refine ⟨⟨rfl, rfl⟩, ?_⟩
  refine ⟨bld_ok, rfl, ⟨.t o, some ⟨h, 0, none⟩⟩, rfl, rfl, fo_tv, fo_tv, λ_ _ => ?_⟩
  iterate 10 refine ⟨⟨rfl, rfl⟩, ?_⟩
  exact ⟨(), fo_tv, rfl, Ent.pick [0, 1] rfl rfl⟩
theorem ptb_body (x : Con.X ptbC) (F : Atom) (hc : ptbC.cond x) (hr : ptbC.rdc x F) : BodyD Tryz.prog 22 pzb (ptb_H x F) rhp (codeOf pzb) (ent (Con.args ptbC x)) (ofL (Con.pre ptbC x ++ [F])) (ptbL x) (Done ptbC x F) :=
  Eq.mpr (by kernel_rfl) (ptb_vc x F hc hr)
end
end Go.Proofs.YtjdabjmjldiodaaGreatDoor
