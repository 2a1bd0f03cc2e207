/- A part of the proof that pennantlaw23.BasicBack answers true at every input. -/
import Derived.Test.YtjdabjmjldiodaaGreatDoorPBac
set_option linter.all false
namespace Go.Proofs.YtjdabjmjldiodaaGreatDoor
set_option maxRecDepth 100000
open Go.Value (int slice string bool pointer agg tuple func float iface nilIface)
open Go.IntKind (i64 u8 u64 i32 u32 u16 i8 i16)
open Go.FloatKind (f64)
open Go.Ending (returned panicked)
section
open Go
section
variable {P : Program}
structure SlX where
  a : Option Addr
  n : Nat
  cap : Nat
def usdC : QCon where
  X := SlX
  args x := [.slice x.a x.n x.cap]
  cond x := x.a = none ∨ 0 < x.cap
  val x := .pointer x.a
theorem usd_ok {o : Oper} {s : Operand} {t : TypeId} (ho : o.op = .call { callee := .builtin .unsafeSliceData, args := #[s], argTypes := #[t] }) : QOpOk P o usdC := by
  refine ⟨λx w ρ ha hc => ?_⟩
  obtain ⟨a, n, cap⟩ := x
  simp only [ho, Op.operands, Call.operands, usdC] at ha
  have ha2 : ρ s = .slice a n cap := by simpa using ha
  have hrun : (Builtin.unsafeSliceData_ #[t] o.type #[.slice a n cap]).run P w = .ok (.pointer a) w := by
    cases a with
    | none => rfl
    | some ad =>
      have hc : (some ad : Option Addr) = none ∨ 0 < cap := hc
      exact Lib.run_unsafeSliceData_row w _ _ ad n cap (Or.elim hc (λh => nomatch h) (λh => by omega))
  simp [execOp, ho, resolve, invoke, builtin, ha2, hrun, usdC]
structure UsX where
  r : Row
  p : ByteArray
abbrev ustC (e : TypeId) : Con where
  X := UsX
  Y := Unit
  args x := [.pointer x.r.a, .int .i64 x.r.n]
  pre x := [x.r.A]
  cond x := BRow e x.p x.r ∧ x.p.size ≤ 9223372036854775807
  rdc _ _ := True
  rel _ _ := True
  val x _ := .returned (.string x.p)
  post _ _ := [.emp]
theorem ust_ok {o : Oper} {s x : Operand} {pt it e : TypeId} (ho : o.op = .call { callee := .builtin .unsafeString, args := #[s, x], argTypes := #[pt, it] }) (hp : P.underlying pt = some (.pointer e)) (hc1 : P.cellsOf e = 1) : OpOk P o (ustC e) := by
  refine ⟨λX F I w ρ ha hc hr hs => ?_⟩
  obtain ⟨r, p⟩ := X
  obtain ⟨⟨hrow, hcap⟩, hsz⟩ := hc
  dsimp only at hrow hcap hsz
  simp only [ho, Op.operands, Call.operands, ustC] at ha
  have ha2 : ρ s = .pointer r.a ∧ ρ x = .int .i64 r.n := by simpa using ha
  obtain ⟨hs1, hx1⟩ := ha2
  have hn : r.n = p.size := by have := hrow.len; rw [Lib.strCells_length] at this; omega
  have hpl : p.data.toList.length = p.size := by simp
  have drop : ∀ (w' : World), (∀ c, ∀ b, r.a = some ⟨b, 0, none⟩ → c ≠ b → w'.heap[c]? = w.heap[c]?) → w'.heap.size = w.heap.size → (r.a = none → w' = w) → Sat I (ofL ((ustC e).post ⟨r, p⟩ () ++ [F])) w' := by
    intro w' h1 h2 h3
    have key : Sat I (updS (ofL [r.A, F]) 0 .emp) w' := by
      cases hrow with
      | nil h => rw [h3 rfl]; exact hs
      | blk b n cap sp hl hs2 hn =>
        exact hs.write (j := 0) (b := b) (λo ho => ho.1) (λc hc => h1 c b rfl hc) h2 (λ_ _ => fo_tv)
    exact key
  by_cases h0 : p.size = 0
  · have hp0 : p = .empty := by
      apply ByteArray.ext
      apply Array.eq_empty_of_size_eq_zero
      simpa using h0
    have hrun := Lib.run_unsafeString_none (P := P) w pt it o.type r.a
    refine ⟨(), I, w, .string p, fo_tv, .inl ?_, rfl, Imm.le_refl I, drop w (λ_ _ _ _ => rfl) rfl (λ_ => rfl), Env.refl w⟩
    rw [show (r.n : Int) = 0 by omega] at hx1
    simp [execOp, ho, resolve, invoke, builtin, hs1, hx1, hrun, hp0]
  · cases hrow with
    | nil h => exact absurd (by rw [← Lib.strCells_length, h] <;> rfl) h0
    | blk b n cap sp hl hs2 hnc =>
      have hblk : w.heap[b]? = some (.cells ⟨Lib.strCells p ++ sp⟩ e (0, 0)) := hs.cells (j := 0) rfl
      have hrun := Lib.run_unsafeString_row (P := P) w pt it o.type e hp hc1 b cap (by unfold World.shape?; rw [hblk]; show some (e, (Lib.strCells p ++ sp).length) = _; rw [hs2, Nat.mul_one]) p.data.toList (by intro hh; rw [hh] at hpl; simp at hpl; omega) (by dsimp only at hn; omega) (by omega) (by
        intro j x hj
        rw [addr_add, cell_cells (b := b) ⟨rfl, rfl⟩ hblk]
        simp only [fo_za]
        have hlt := (fo_gs.1 hj).1
        rw [fo_gl (by rw [Lib.strCells_length]; omega)]
        simp [Lib.strCells, hj])
      rw [hpl] at hrun
      refine ⟨(), I, w.freeze ⟨b, 0, none⟩ p.size, .string p, fo_tv, .inl ?_, rfl, Imm.le_refl I, drop _ ?_ ?_ (λh => by cases h), ?_⟩
      · dsimp only at hn hx1 hs1
        rw [hn] at hx1
        simp [execOp, ho, resolve, invoke, builtin, hs1, hx1, hrun]
      · intro c b' hb hcb
        cases hb
        unfold World.freeze
        rw [if_neg h0]
        simp only [Array.getElem?_modify]
        rw [if_neg (λe => hcb e.symm)]
      · unfold World.freeze
        rw [if_neg h0]
        simp
      · unfold World.freeze
        rw [if_neg h0]
        exact ⟨rfl, rfl⟩
structure RnX where
  c : Int
def r2sC : QCon where
  X := RnX
  args x := [.int .i32 x.c]
  cond _ := True
  val x := .string (Utf8.encode x.c)
theorem r2s_ok {o : Oper} {src dst : TypeId} {x : Operand} (ho : o.op = .convert src dst x) (hs : (P.underlying src).isSome = true) (hd : P.underlying dst = some .string) : QOpOk P o r2sC := by
  refine ⟨λy w ρ ha hc => ?_⟩
  obtain ⟨c⟩ := y
  simp only [ho, Op.operands, r2sC] at ha
  have ha2 : ρ x = .int .i32 c := by simpa using ha
  have hrun := run_convert_int_string (P := P) w src dst .i32 c hs hd
  simp only [execOp, ho, ha2]
  show ((convert src dst (.int .i32 c)) >>= λv => (pure (Next.value v) : Sem Next)).run P w = _
  rw [Sem.run_bind, hrun] <;> rfl
structure BdX where
  b : Nat
structure Blk2 (F : Atom) (b : Nat) (t : TypeId) : Prop where
  h : ∀ (I : Imm) (m : Hp) (o : Own), F.holds I m o → ∃ vs : List Value, m b = some (.cells ⟨vs⟩ t (0, 0)) ∧ vs.length = 2
theorem Blk2.sub {A B : Atom} {b : Nat} {t : TypeId} (hs : Sub A B) (h : Blk2 A b t) : Blk2 B b t := ⟨λI m o hB => let ⟨o', hA⟩ := hs I m o hB; h.h I m o' hA⟩
theorem Blk2.cells {b : Nat} {t : TypeId} (u v : Value) : Blk2 (.cells b [u, v] t) b t := ⟨λ_ _ _ h => ⟨_, h.2, rfl⟩⟩
theorem Blk2.get {I : Imm} {S : St} {w : World} {j b : Nat} {t : TypeId} (h : Blk2 (gt S j) b t) (hs : Sat I S w) : ∃ vs : List Value, w.heap[b]? = some (.cells ⟨vs⟩ t (0, 0)) ∧ vs.length = 2 := by
  obtain ⟨f, h1, _⟩ := hs.own
  exact h.h _ _ _ (h1 j)
abbrev cvC (t : TypeId) : Con where
  X := BdX
  Y := Unit
  args x := [.pointer (some ⟨x.b, 0, none⟩)]
  pre _ := []
  cond _ := True
  rdc x F := Blk2 F x.b t
  rel _ _ := True
  val x _ := .returned (.pointer (some ⟨x.b, 0, none⟩))
  post _ _ := []
  rmono _ _ _ hs h := h.sub hs
theorem cvU_ok {o : Oper} {src dst t u : TypeId} {j : TypeInfo} {x : Operand} (ho : o.op = .convert src dst x) (hs : P.underlying src = some (.pointer t)) (hd : P.underlying dst = some .unsafePointer) (ht : P.info? t = some j) (hj : j.size ≠ 0) : OpOk P o (cvC u) := by
  refine ⟨λy F I w ρ ha hc hr hsat => ?_⟩
  obtain ⟨b⟩ := y
  simp only [ho, Op.operands, cvC] at ha
  have ha2 : ρ x = .pointer (some ⟨b, 0, none⟩) := by simpa using ha
  obtain ⟨vs, hblk, hc⟩ := Blk2.get (j := 0) (show Blk2 (gt (ofL [F]) 0) b u from hr) hsat
  have hrun := Lib.run_to_unsafe (P := P) w ⟨b, 0, none⟩ hs hd ht hj (e := u) (cells := 2) (by simp [World.shape?, hblk, hc]) (show (0 : Nat) < 2 by decide)
  refine ⟨(), I, w, _, fo_tv, .inl ?_, rfl, Imm.le_refl I, hsat, Env.refl w⟩
  simp only [execOp, ho, ha2]
  show ((convert src dst _) >>= λv => (pure (Next.value v) : Sem Next)).run P w = _
  rw [Sem.run_bind, hrun] <;> rfl
theorem cvB_ok {o : Oper} {src dst t : TypeId} {j : TypeInfo} {x : Operand} (ho : o.op = .convert src dst x) (hs : P.underlying src = some .unsafePointer) (hd : P.underlying dst = some (.pointer t)) (ht : P.info? t = some j) (hl : liesAt P P.depth t (2 / P.cellsOf t) 0 t 1 = true) : OpOk P o (cvC t) := by
  refine ⟨λy F I w ρ ha hc hr hsat => ?_⟩
  obtain ⟨b⟩ := y
  simp only [ho, Op.operands, cvC] at ha
  have ha2 : ρ x = .pointer (some ⟨b, 0, none⟩) := by simpa using ha
  obtain ⟨vs, hblk, hc⟩ := Blk2.get (j := 0) (show Blk2 (gt (ofL [F]) 0) b t from hr) hsat
  have hrun := Lib.run_from_unsafe (P := P) w ⟨b, 0, none⟩ hs hd ht (e := t) (cells := 2) (by simp [World.shape?, hblk, hc]) hl
  refine ⟨(), I, w, _, fo_tv, .inl ?_, rfl, Imm.le_refl I, hsat, Env.refl w⟩
  simp only [execOp, ho, ha2]
  show ((convert src dst _) >>= λv => (pure (Next.value v) : Sem Next)).run P w = _
  rw [Sem.run_bind, hrun] <;> rfl
structure PtX where
  a : Option Addr
def neC (f : FuncId) : QCon where
  X := PtX
  args x := [.func (.func f) #[] #[], .pointer x.a]
  cond _ := True
  val x := .pointer x.a
theorem ne_ok {o : Oper} {x : Operand} {f : FuncId} {fn : Func} {ts : Array TypeId} (ho : o.op = .call { callee := .value (.func f), args := #[x], argTypes := ts })
    (hf : P.funcs[f]? = some fn) (hname : (fn.name == "runtime.NumGoroutine") = false) (hb : fn.body.isNone = true) (hn : Extern.findNext fn = none) (he : Extern.find fn = some Extern.AbiNoEscape.same) : QOpOk P o (neC f) := by
  refine ⟨λy w ρ ha hc => ?_⟩
  obtain ⟨a⟩ := y
  simp only [ho, Op.operands, Call.operands, neC] at ha
  have ha2 : ρ (.func f) = .func (.func f) #[] #[] ∧ ρ x = .pointer a := by simpa using ha
  have hcall := run_callFunc_extern (P := P) hf hname hb hn he #[.pointer a] w
  rw [Lib.run_noEscape] at hcall
  simp [execOp, ho, resolve, Deferred.ofValue, invoke, ha2.1, ha2.2, hcall, neC]
end
end
section
open Go
set_option maxHeartbeats 1000000
section
variable {P : Program}
def pnC : QCon where
  X := PtX
  args x := [.pointer x.a, .pointer none]
  cond _ := True
  val x := .bool x.a.isNone
theorem pn_ok {o : Oper} {t u : TypeId} {x y : Operand} (ho : o.op = .binOp .eql t x y u) (h : P.underlying t = some (.pointer (P.pointee t))) : QOpOk P o pnC := by
  refine ⟨λX w ρ ha hc => ?_⟩
  obtain ⟨a⟩ := X
  simp only [ho, Op.operands, pnC] at ha
  have ha2 : ρ x = .pointer a ∧ ρ y = .pointer none := by simpa using ha
  have hrun := run_eql_pointer_nil (P := P) w t a h
  have hg : (eqGuard .eql t x y (.pointer a) (.pointer none)).run P w = .ok () w := by cases a <;> rfl
  simp [execOp, ho, ha2.1, ha2.2, hg, hrun, pnC]
structure AdX where
  a : Addr
def psC : QCon where
  X := AdX
  args x := [.pointer (some x.a), .pointer (some x.a)]
  cond _ := True
  val _ := .bool false
theorem ps_ok {o : Oper} {t u e : TypeId} {j : TypeInfo} {x y : Operand} (ho : o.op = .binOp .neq t x y u) (h : P.underlying t = some (.pointer e)) (hj : P.info? e = some j) : QOpOk P o psC := by
  refine ⟨λX w ρ ha hc => ?_⟩
  obtain ⟨a⟩ := X
  simp only [ho, Op.operands, psC] at ha
  have ha2 : ρ x = .pointer (some a) ∧ ρ y = .pointer (some a) := by simpa using ha
  have hrun := Lib.run_neq_ptr_same (P := P) w a h hj
  have hg : (eqGuard .neq t x y (.pointer (some a)) (.pointer (some a))).run P w = .ok () w := rfl
  simp [execOp, ho, ha2.1, ha2.2, hg, hrun, psC]
end
structure CcX where
  b : Nat
  p : Option Addr
  v : Value
abbrev ccC : Con where
  X := CcX
  Y := Unit
  args x := [.pointer (some ⟨x.b, 0, none⟩)]
  pre x := [.cells x.b [.pointer x.p, x.v] 81]
  cond x := x.p = none ∨ x.p = some ⟨x.b, 0, none⟩
  rdc _ _ := True
  rel _ _ := True
  val _ _ := .returned (.tuple #[])
  post x _ := [.cells x.b [.pointer (some ⟨x.b, 0, none⟩), x.v] 81]
def T6 (oo : Oper) (aa : List Value) (k0 : PtX → Prop) := QOpOk Tryz.prog oo pnC ∧ ∃ (z : PtX), aa = [fo_vp z.a, fo_vp none] ∧ True ∧ k0 z
def T7 (oo : Oper) := fo_O2 oo (cvC (81 : TypeId)) (λ_ => True) (λw1 w2 => Blk2 w2 w1.b 81)
abbrev q325 (x : CcX) (F : Atom) := [(0, fo_cl x.b [fo_vp x.p, x.v] 81), (1, F)]
def T8 (oo : Oper) (aa : List Value) (k0 : PtX → Prop) := QOpOk Tryz.prog oo (neC (206 : FuncId)) ∧ ∃ (z : PtX), aa = [func (Fn.func 206) ⟨[]⟩ ⟨[]⟩, fo_vp z.a] ∧ True ∧ k0 z
abbrev q74 := fo_rt (tuple ⟨[]⟩)
def T9 (oo : Oper) (aa : List Value) (k0 : AdX → Prop) := QOpOk Tryz.prog oo psC ∧ ∃ (z : AdX), aa = [fo_vp (some z.a), fo_vp (some z.a)] ∧ True ∧ k0 z
theorem cc_vc (x : CcX) (F : Atom) (hc : ccC.cond x) (hr : ccC.rdc x F) :
 fo_sm x.b 0 ∧ T6 (opIn Tryz.f167 0 4) [fo_vp x.p, fo_vp none] (λf => Br f.a.isNone (T7 (opIn Tryz.f167 1 2) [fo_vp (some ⟨x.b, 0, none⟩)] (fo_aR (q325 x F) []) (λe d => T8 (opIn Tryz.f167 1 3) [func (Fn.func 206) ⟨[]⟩ ⟨[]⟩, fo_vp (some ⟨e.b, 0, none⟩)] (λc => T7 (opIn Tryz.f167 1 4) [fo_vp c.a] (fo_aR (q325 x F) []) (λb a => fo_sm x.b 0 ∧ Done ccC x F q74 [(0, fo_cl x.b [fo_vp (some ⟨b.b, 0, none⟩), x.v] 81), (1, F)])))) (fo_sm x.b 0 ∧ T9 (opIn Tryz.f167 2 5) [fo_vp x.p, fo_vp (some ⟨x.b, 0, none⟩)] (λa => Done ccC x F q74 (q325 x F)))) := by
  delta T6 T7 q325 T8 q74 T9 fo_aR fo_sm fo_O2 fo_vp fo_cl fo_rt
  have hb2 : Blk2 (.pred (rest [(0, Atom.cells x.b [pointer x.p, x.v] 81), (1, F)] [])) x.b 81 := (Blk2.cells _ _).sub (sub_rest 0 (by simp) rfl)
  refine ⟨⟨rfl, rfl⟩, pn_ok rfl rfl, ⟨x.p⟩, rfl, fo_tv, br_intro (λh => ?_) (λh => ?_)⟩
  · exact ⟨cvU_ok rfl rfl rfl rfl (by decide), rfl, ⟨x.b⟩, rfl, rfl, fo_tv, hb2, λ_ _ => ⟨ne_ok rfl rfl rfl rfl rfl (by kernel_rfl), ⟨some ⟨x.b, 0, none⟩⟩, rfl, fo_tv, cvB_ok rfl rfl rfl rfl (by kernel_rfl), rfl, ⟨x.b⟩, rfl, rfl, fo_tv, hb2, λ_ _ => ⟨⟨rfl, rfl⟩, (), fo_tv, rfl, Ent.pick [0, 1] rfl rfl⟩⟩⟩
  · have hp : x.p = some ⟨x.b, 0, none⟩ := by
      rcases hc with hc | hc
      · rw [show x.p = none from hc] at h; cases h
      · exact hc
    exact ⟨⟨rfl, rfl⟩, ps_ok rfl rfl rfl, ⟨⟨x.b, 0, none⟩⟩, by rw [hp], fo_tv, (), fo_tv, rfl, Ent.pick [0, 1] rfl (by rw [hp] <;> rfl)⟩
theorem cc_ok : fo_k 167 ccC := fo 20 Tryz.func167 (λ_ _ => [(0, 4, .qo pnC), (2, 5, .qo psC), (1, 2, .o (cvC 81) [] []), (1, 3, .qo (neC 206)), (1, 4, .o (cvC 81) [] [])]) [(0, 3, OH.q [LH.aq (0 : Nat)]), (1, 7, OH.w [LH.aq (0 : Nat)]), (2, 3, OH.q [LH.aq (0 : Nat)])] fo_i fo_i fo_o [] cc_vc
structure BwX where
  b : Nat
  p : Option Addr
  r : Row
  t : ByteArray
  s : ByteArray
abbrev wsC : Con where
  X := BwX
  Y := Row
  args x := [.pointer (some ⟨x.b, 0, none⟩), .string x.s]
  pre x := [.cells x.b [.pointer x.p, .slice x.r.a x.r.n x.r.cap] 81, x.r.A]
  cond x := (x.p = none ∨ x.p = some ⟨x.b, 0, none⟩) ∧ BRow 5 x.t x.r ∧ x.r.n + x.s.size ≤ 140737488355328
  rdc _ _ := True
  rel x r := BRow 5 (x.t ++ x.s) r
  val x _ := .returned (.tuple #[.int .i64 x.s.size, .nilIface])
  post x r := [.cells x.b [.pointer (some ⟨x.b, 0, none⟩), .slice r.a r.n r.cap] 81, r.A]
def wsCut (x : BwX) (F : Atom) : Nat → Option Inv := fun
  | 2 => some { X := Unit, P := λ_ => True, mu := λ_ => 0, lv := λ_ => [(0, .pointer (some ⟨x.b, 0, none⟩)), (1, .string x.s)], st := λ_ => [.cells x.b [.pointer (some ⟨x.b, 0, none⟩), .slice x.r.a x.r.n x.r.cap] 81, x.r.A, F] }
  | _ => none
def T10 := fo_C3 167 ccC (λw0 => (w0.p = none ∨ w0.p = some ⟨w0.b, 0, none⟩))
abbrev q302 (x : BwX) : Option Addr := some ⟨x.b, 0, none⟩
abbrev q341 (c : CcX) : List Value := [fo_vp (some ⟨c.b, 0, none⟩), c.v]
def T11 (oo : Oper) := fo_O6 oo (apsC (5 : TypeId)) (λw0 => BRow 5 w0.p w0.r ∧ w0.r.n + w0.s.size ≤ 140737488355328) (λw0 w1 => BRow 5 (w0.p ++ w0.s) w1)
theorem ws_vc (x : BwX) (F : Atom) (hc : wsC.cond x) (hr : wsC.rdc x F) :
 T10 [fo_vp (q302 x)] [fo_cl x.b [fo_vp x.p, fo_vl x.r.a x.r.n x.r.cap] 81] (λc b => ∃(a : Unit), True ∧ (fo_vp (q302 x) = fo_vp (q302 x) ∧ fo_vs x.s = fo_vs x.s ∧ True) ∧ Ent [(0, fo_cl c.b (q341 c) 81), (1, x.r.A), (2, F)] [(0, fo_cl x.b [fo_vp (q302 x), fo_vl x.r.a x.r.n x.r.cap] 81), (1, x.r.A), (2, F)]) ∧ fo_vA λ(d : Unit) _ => True → fo_sm x.b 1 ∧ T11 (opIn Tryz.f113 2 6) [fo_vl x.r.a x.r.n x.r.cap, fo_vs x.s] [x.r.A] (λb a => fo_sm x.b 1 ∧ Done wsC x F (fo_rt (tuple ⟨[fo_vi ↑x.s.size, nilIface]⟩)) [(0, fo_cl x.b [fo_vp (q302 x), fo_vl a.a a.n a.cap] 81), (1, a.A), (2, F)]) := by
  delta T10 q302 q341 T11 fo_sm fo_C3 fo_O6 fo_vi fo_vs fo_vp fo_vl fo_cl fo_rt fo_vA
  obtain ⟨hp, hrow, hs⟩ := hc
  refine ⟨⟨cc_ok, rfl, ⟨x.b, x.p, .slice x.r.a x.r.n x.r.cap⟩, rfl, rfl, hp, fo_tv, λ_ _ => ⟨(), fo_tv, ⟨rfl, rfl, fo_tv⟩, Ent.pick [0, 1, 2] rfl rfl⟩⟩, ?_⟩
  intro _ js _
  exact ⟨⟨rfl, rfl⟩, aps_ok rfl rfl rfl rfl rfl rfl rfl rfl, rfl, ⟨x.r, x.t, x.s⟩, rfl, rfl, ⟨hrow, hs⟩, fo_tv, λr hr => ⟨⟨rfl, rfl⟩, r, hr, rfl, Ent.pick [0, 1, 2] rfl rfl⟩⟩
theorem ws_ok : fo_k 113 wsC := fo 19 Tryz.func113 (λ_ _ => [(1, 1, .c ccC [0] [0]), (2, 6, .o (apsC 5) [1] [1])]) [(2, 4, OH.q [LH.aq (0 : Nat)]), (2, 9, OH.w [LH.aq (0 : Nat)])] fo_i wsCut fo_o [] ws_vc
abbrev bsC : Con where
  X := BwX
  Y := Unit
  args x := [.pointer (some ⟨x.b, 0, none⟩)]
  pre x := [.cells x.b [.pointer x.p, .slice x.r.a x.r.n x.r.cap] 81, x.r.A]
  cond x := BRow 5 x.t x.r ∧ x.t.size ≤ 140737488355328
  rdc _ _ := True
  rel _ _ := True
  val x _ := .returned (.string x.t)
  post x _ := [.cells x.b [.pointer x.p, .slice x.r.a x.r.n x.r.cap] 81, .emp]
def T12 (oo : Oper) (aa : List Value) (k0 : SlX → Prop) := QOpOk Tryz.prog oo usdC ∧ ∃ (z : SlX), aa = [fo_vl z.a z.n z.cap] ∧ (z.a = none ∨ 0 < z.cap) ∧ k0 z
def T13 (oo : Oper) := fo_O3 oo (ustC (5 : TypeId)) (λw0 => BRow 5 w0.p w0.r ∧ w0.p.size ≤ 9223372036854775807)
theorem bs_vc (x : BwX) (F : Atom) (hc : bsC.cond x) (hr : bsC.rdc x F) :
 true = true ∧ fo_sm x.b 1 ∧ T12 (opIn Tryz.f29 1 4) [fo_vl x.r.a x.r.n x.r.cap] (λc => fo_sm x.b 1 ∧ T13 (opIn Tryz.f29 1 10) [fo_vp c.a, fo_vi ↑x.r.n] [x.r.A] (λb a => Done bsC x F (fo_rt (fo_vs b.p)) [(0, fo_cl x.b [fo_vp x.p, fo_vl x.r.a x.r.n x.r.cap] 81), (1, fo_em), (2, F)])) := by
  delta T12 T13 fo_sm fo_O3 fo_vi fo_vs fo_vp fo_vl fo_cl fo_em fo_rt
  obtain ⟨hrow, hs⟩ := hc
  exact ⟨rfl, ⟨rfl, rfl⟩, usd_ok rfl, ⟨x.r.a, x.r.n, x.r.cap⟩, rfl, hrow.2, ⟨rfl, rfl⟩, ust_ok rfl rfl (by kernel_rfl), rfl, ⟨x.r, x.t⟩, rfl, rfl, ⟨hrow, by dsimp only; omega⟩, fo_tv, λ_ _ => ⟨(), fo_tv, rfl, Ent.pick [0, 1, 2] rfl rfl⟩⟩
theorem bs_ok : fo_k 29 bsC := fo 14 Tryz.func29 (λ_ _ => [(1, 4, .qo usdC), (1, 10, .o (ustC 5) [1] [1])]) [(1, 3, OH.q [LH.aq (0 : Nat)]), (1, 8, OH.q [LH.aq (0 : Nat)])] fo_i fo_i fo_o [] bs_vc
end
section
open Go
def Sc (c : Nat) : Prop := c < 55296 ∨ (57343 < c ∧ c ≤ 1114111)
theorem next_sc {s : ByteArray} {i c n : Nat} (h : nextV s i = some (c, n)) : Sc c := by
  unfold nextV at h
  by_cases hi : i < s.size
  · rw [fo_dt hi, fo_ct] at h
    have h1 := Lib.decodeN_valid (s.size - i) (bt s i) (bt s (i + 1)) (bt s (i + 2)) (bt s (i + 3)) (bt_lt s i)
    revert h h1
    generalize Lib.decodeN (s.size - i) (bt s i) (bt s (i + 1)) (bt s (i + 2)) (bt s (i + 3)) = d
    obtain ⟨c', n'⟩ := d
    intro h h1
    have h' : (bif c' == 65533 && n' == 1 then none else some (c', n')) = some (c, n) := h
    cases hb : (c' == 65533 && n' == 1) with
    | true => rw [hb] at h'; cases h'
    | false => rw [hb] at h'; cases h'; exact h1
  · rw [fo_df hi] at h; cases h
def encL (c : Nat) : List Nat :=
  if c < 128 then [c] else if c < 2048 then [192 + c / 64, 128 + c % 64] else if c < 65536 then [224 + c / 4096, 128 + c / 64 % 64, 128 + c % 64] else [240 + c / 262144, 128 + c / 4096 % 64, 128 + c / 64 % 64, 128 + c % 64]
theorem enc_btL {c : Nat} (h : Sc c) : Utf8.encode (c : Int) = btL (encL c) := by
  have hv : Utf8.valid (c : Int) = true := by
    unfold Utf8.valid
    unfold Sc at h
    simp
    omega
  unfold Utf8.encode encL btL
  rw [hv]
  simp only [fo_tn, if_true]
  repeat' split
  all_goals first | rfl | (exfalso; omega)
theorem btL_size (l : List Nat) : (btL l).size = l.length := by
  unfold btL ByteArray.size
  simp
theorem bt_btL {l : List Nat} (h : ∀ b ∈ l, b < 256) (k : Nat) : bt (btL l) k = l.getD k 0 := by
  unfold bt btL
  simp only [List.getElem?_toArray, fo_gm, fo_gd]
  cases hk : l[k]? with
  | none => rfl
  | some b =>
    have := h b (fo_mg hk)
    simp
    omega
theorem encL_lt {c : Nat} (h : Sc c) : ∀ b ∈ encL c, b < 256 := by
  unfold Sc at h
  unfold encL
  intro b hb
  split at hb
  · simp at hb; omega
  · split at hb
    · simp at hb; omega
    · split at hb
      · simp at hb; omega
      · simp at hb; omega
theorem encL_len {c : Nat} : (encL c).length ≤ 4 := by
  unfold encL
  repeat' split
  all_goals simp
theorem enc_size {c : Nat} (h : Sc c) : (Utf8.encode (c : Int)).size ≤ 4 := by rw [enc_btL h, btL_size]; exact encL_len
theorem enc_high {c : Nat} (h : Sc c) (h1 : 128 ≤ c) : 2 ≤ (Utf8.encode (c : Int)).size ∧ ∀ k, k < (Utf8.encode (c : Int)).size → 128 ≤ bt (Utf8.encode (c : Int)) k := by
  rw [enc_btL h, btL_size]
  refine ⟨?_, λk hk => ?_⟩
  · unfold encL
    rw [if_neg (by omega)]
    repeat' split
    all_goals simp
  · rw [bt_btL (encL_lt h)]
    have hm : (encL c).getD k 0 ∈ encL c := by
      rw [fo_gd, fo_ge hk]
      exact List.getElem_mem _
    revert hm
    generalize (encL c).getD k 0 = b
    unfold encL
    rw [if_neg (by omega)]
    intro hm
    split at hm
    · simp at hm; omega
    · split at hm
      · simp at hm; omega
      · simp at hm; omega
theorem btL_app (a b : List Nat) : btL a ++ btL b = btL (a ++ b) := by
  apply ByteArray.ext
  rw [ByteArray.data_append]
  unfold btL
  simp
end
section
open Go
set_option maxHeartbeats 1000000
set_option maxRecDepth 20000
structure IbX where
  s : ByteArray
  c : Nat
abbrev ibC : Con where
  X := IbX
  Y := Unit
  args x := [.string x.s, .int .u8 x.c]
  pre _ := []
  cond x := x.c < 256
  rdc _ _ := True
  rel _ _ := True
  val x _ := .returned (.int .i64 (Lib.indexByte x.s.data.toList (UInt8.ofNat x.c)))
  post _ _ := []
theorem ibi_ok : fo_k 173 ibC := FnOk.ofBelow ibC (λ_ => rfl) (λ_ _ => ()) (λ_ _ => fo_tv) (λ_ _ => rfl) λx F I w hc hr hs =>
  (Go.Proofs.Tryz.stringslite_IndexByte x.s x.c w).mono λe w' h => ⟨h.1, RowKit.Below.of_eq h.2⟩
abbrev q104 (b : IbX) := fo_vi (Lib.indexByte b.s.data.toList (UInt8.ofNat b.c))
theorem ib_vc (x : IbX) (F : Atom) (hc : ibC.cond x) (hr : ibC.rdc x F) :
 fo_C1 173 ibC (λb => b.c < 256) [fo_vs x.s, fo_vc ↑x.c] (λb a => Done ibC x F (fo_rt (q104 b)) [(0, F)]) := by
  delta q104 fo_C1 fo_vi fo_vc fo_vs fo_rt
  exact ⟨ibi_ok, rfl, x, rfl, rfl, hc, fo_tv, λ_ _ => ⟨(), fo_tv, rfl, Ent.pick [0] rfl rfl⟩⟩
theorem ib_ok : fo_k 121 ibC := fo 8 Tryz.func121 (λ_ _ => [(1, 2, .c ibC [] [])]) [] fo_i fo_i fo_o [] ib_vc
structure NtX where
  b : Nat
  s : ByteArray
  p : Nat
section
variable {P : Program}
abbrev nxC : Con where
  X := NtX
  Y := Unit ⊕ Unit
  args x := [.pointer (some ⟨x.b, 0, none⟩)]
  pre x := [.obj x.b (.stringIter x.s x.p)]
  cond _ := True
  rdc _ _ := True
  rel x y := match y with
    | .inl _ => x.p < x.s.size
    | .inr _ => ¬ x.p < x.s.size
  val x y := match y with
    | .inl _ => .returned (.tuple #[.bool true, .int .i64 x.p, .int .i32 (Utf8.decode x.s x.p).1])
    | .inr _ => .returned (.tuple #[.bool false])
  post x y := match y with
    | .inl _ => [.obj x.b (.stringIter x.s (x.p + (Utf8.decode x.s x.p).2))]
    | .inr _ => [.obj x.b (.stringIter x.s x.p)]
  sum := some (sumS Unit Unit)
theorem nx_ok {o : Oper} {x : Operand} (ho : o.op = .next x true) : OpOk P o nxC := by
  refine ⟨λX F I w ρ ha hc hr hs => ?_⟩
  obtain ⟨b, s, p⟩ := X
  simp only [ho, Op.operands, nxC] at ha
  have ha2 : ρ x = .pointer (some ⟨b, 0, none⟩) := by simpa using ha
  have hk : w.heap[b]? = some (.stringIter s p) := by
    obtain ⟨f, h1, _⟩ := hs.own
    exact (h1 0).2
  by_cases hp : p < s.size
  · have hrun := Lib.run_next_any_at (P := P) w b s p o.type hk hp
    refine ⟨.inl (), I, w.iterAt b s (p + (Utf8.decode s p).2), _, hp, .inl ?_, rfl, Imm.le_refl I, ?_, ⟨rfl, rfl⟩⟩
    · simp [execOp, ho, ha2, hrun]
    · have hlt : b < w.heap.size := (Array.getElem?_eq_some_iff.1 hk).1
      exact hs.write (j := 0) (b := b) (A' := .obj b (.stringIter s (p + (Utf8.decode s p).2))) (λo ho => ho.1) (λc hc => by simp [World.iterAt, Array.getElem?_setIfInBounds, Ne.symm hc]) (by simp [World.iterAt]) (λo ho => ⟨ho.1, by show (w.heap.setIfInBounds b (.stringIter s (p + (Utf8.decode s p).2)))[b]? = _; rw [Array.getElem?_setIfInBounds]; simp [hlt]⟩)
  · have hrun := Lib.run_next_end_at (P := P) w b s p o.type hk hp
    refine ⟨.inr (), I, w, _, hp, .inl ?_, rfl, Imm.le_refl I, hs, Env.refl w⟩
    simp [execOp, ho, ha2, hrun]
end
structure VrX where
  c : Nat
abbrev vrC : Con where
  X := VrX
  Y := Unit
  args x := [.int .i32 x.c]
  pre _ := []
  cond x := Sc x.c
  rdc _ _ := True
  rel _ _ := True
  val _ _ := .returned (.bool true)
  post _ _ := []
theorem vr_ok : fo_k 196 vrC := FnOk.ofBelow vrC (λ_ => rfl) (λ_ _ => ()) (λ_ _ => fo_tv) (λ_ _ => rfl) λx F I w hc hr hs => by
  have hc : Sc x.c := hc
  have e : Lib.validRune (x.c : Int) = true := by
    unfold Sc at hc
    unfold Lib.validRune
    simp
    omega
  exact (Go.Proofs.Tryz.utf8_ValidRune x.c w).mono λe' w' h => ⟨by rw [h.1, e] <;> rfl, RowKit.Below.of_eq h.2⟩
end
section
open Go
set_option maxHeartbeats 1000000
theorem BRow.size {e : TypeId} {t : ByteArray} {r : Row} (h : BRow e t r) : r.n = t.size := by
  have := h.1.len
  rw [Lib.strCells_length] at this
  omega
theorem strCells_btL {l : List Nat} (h : ∀ c ∈ l, c < 256) : Lib.strCells (btL l) = u8s l := by
  unfold Lib.strCells u8s
  show (l.map λn => UInt8.ofNat n).map _ = _
  rw [List.map_map]
  refine List.map_congr_left λc hc => ?_
  have := h c hc
  show int .u8 ((UInt8.ofNat c).toNat : Int) = .int .u8 (c : Int)
  rw [UInt8.toNat_ofNat', Nat.mod_eq_of_lt this]
theorem BRow.app {e : TypeId} {t : ByteArray} {r y : Row} {l : List Nat} (hl : ∀ c ∈ l, c < 256) (h : BRow e t r) (hy : IsRow e 1 (Lib.strCells t ++ u8s l) y) (hn : y.n = r.n + l.length) (h0 : l.length = 0 → y = r) : BRow e (t ++ btL l) y := by
  refine ⟨by rw [strCells_app, strCells_btL hl]; exact hy, ?_⟩
  by_cases e0 : l.length = 0
  · rw [h0 e0]; exact h.2
  · have := hy.le
    exact .inr (by omega)
structure WbX where
  b : Nat
  p : Option Addr
  r : Row
  t : ByteArray
  c : Nat
abbrev wbC : Con where
  X := WbX
  Y := Row
  args x := [.pointer (some ⟨x.b, 0, none⟩), .int .u8 x.c]
  pre x := [.cells x.b [.pointer x.p, .slice x.r.a x.r.n x.r.cap] 81, x.r.A]
  cond x := (x.p = none ∨ x.p = some ⟨x.b, 0, none⟩) ∧ BRow 5 x.t x.r ∧ x.r.n + 1 ≤ 140737488355328 ∧ x.c < 256
  rdc _ _ := True
  rel x r := BRow 5 (x.t ++ btL [x.c]) r
  val x _ := .returned .nilIface
  post x r := [.cells x.b [.pointer (some ⟨x.b, 0, none⟩), .slice r.a r.n r.cap] 81, r.A]
def wbCut (x : WbX) (F : Atom) : Nat → Option Inv := fun
  | 2 => some { X := Unit, P := λ_ => True, mu := λ_ => 0, lv := λ_ => [(0, .pointer (some ⟨x.b, 0, none⟩)), (1, .int .u8 x.c)], st := λ_ => [.cells x.b [.pointer (some ⟨x.b, 0, none⟩), .slice x.r.a x.r.n x.r.cap] 81, x.r.A, F] }
  | _ => none
abbrev q269 (x : WbX) : Option Addr := some ⟨x.b, 0, none⟩
theorem wb_vc (x : WbX) (F : Atom) (hc : wbC.cond x) (hr : wbC.rdc x F) :
 T10 [fo_vp (q269 x)] [fo_cl x.b [fo_vp x.p, fo_vl x.r.a x.r.n x.r.cap] 81] (λc b => ∃(a : Unit), True ∧ (fo_vp (q269 x) = fo_vp (q269 x) ∧ fo_vc ↑x.c = fo_vc ↑x.c ∧ True) ∧ Ent [(0, fo_cl c.b (q341 c) 81), (1, x.r.A), (2, F)] [(0, fo_cl x.b [fo_vp (q269 x), fo_vl x.r.a x.r.n x.r.cap] 81), (1, x.r.A), (2, F)]) ∧ fo_vA λ(e : Unit) _ => True → fo_sm x.b 1 ∧ ∀(c : Nat), T0 (opIn Tryz.f136 2 7) [fo_vl x.r.a x.r.n x.r.cap, fo_vl (q17 c) 1 1] [x.r.A] (fo_aR [(0, fo_cl x.b [fo_vp (q269 x), fo_vl x.r.a x.r.n x.r.cap] 81), (1, x.r.A), (2, F), (3060, fo_cl c [fo_vc ↑x.c] 5)] [1]) (λb a => fo_sm x.b 1 ∧ Done wbC x F (fo_rt nilIface) [(0, fo_cl x.b [fo_vp (q269 x), fo_vl a.a a.n a.cap] 81), (1, a.A), (2, F), (3060, fo_cl c [fo_vc ↑x.c] 5)]) := by
  delta T10 q269 q341 q293 q261 q135 q149 T0 q17 fo_aR fo_sm fo_C3 fo_O4 fo_vc fo_vp fo_vl fo_cl fo_rt fo_vA
  obtain ⟨hp, hrow, hs, hc⟩ := hc
  refine ⟨⟨cc_ok, rfl, ⟨x.b, x.p, .slice x.r.a x.r.n x.r.cap⟩, rfl, rfl, hp, fo_tv, λ_ _ => ⟨(), fo_tv, ⟨rfl, rfl, fo_tv⟩, Ent.pick [0, 1, 2] rfl rfl⟩⟩, ?_⟩
  intro _ js _
  refine ⟨⟨rfl, rfl⟩, λd => ⟨append_ok (P := Tryz.prog) 1 1 rfl rfl rfl rfl rfl rfl rfl (by decide), rfl, ⟨x.r, Lib.strCells x.t, some ⟨d, 0, none⟩, 1, 1, u8s [x.c]⟩, rfl, rfl, ⟨hrow.1, rfl, λ_ h => u8s_one h, by dsimp only; omega, by dsimp only; omega, by simp⟩, ?_, ?_⟩⟩
  · intro a ha
    cases ha
    exact Seg.rest (j := 3060) (by simp) (Seg.cells (λj u hj => by rw [fo_za]; exact hj))
  · rintro y ⟨h1, h2, h3⟩
    exact ⟨⟨rfl, rfl⟩, y, hrow.app (by simpa using hc) h1 h2 h3, rfl, Ent.pick [0, 1, 2] rfl rfl⟩
theorem wb_ok : fo_k 136 wbC := fo 17 Tryz.func136 (λ_ _ => [(1, 1, .c ccC [0] [0]), (2, 6, .n 3060), (2, 7, .o (apC 5 1 1) [1] [1])]) [(2, 4, OH.q [LH.aq (0 : Nat)]), (2, 10, OH.w [LH.aq (0 : Nat)])] fo_i wbCut fo_o [] wb_vc
structure WrX where
  b : Nat
  p : Option Addr
  r : Row
  t : ByteArray
  a : Option Addr
  m : Nat
  c : Nat
  l : List Nat
abbrev wrC : Con where
  X := WrX
  Y := Row
  args x := [.pointer (some ⟨x.b, 0, none⟩), .slice x.a x.m x.c]
  pre x := [.cells x.b [.pointer x.p, .slice x.r.a x.r.n x.r.cap] 81, x.r.A]
  cond x := (x.p = none ∨ x.p = some ⟨x.b, 0, none⟩) ∧ BRow 5 x.t x.r ∧ x.r.n + x.m ≤ 140737488355328 ∧ (∀ c ∈ x.l, c < 256) ∧ x.m = x.l.length ∧ x.a.isSome = true
  rdc x F := ∀ a, x.a = some a → Seg F a (u8s x.l)
  rel x r := BRow 5 (x.t ++ btL x.l) r
  val x _ := .returned (.tuple #[.int .i64 x.m, .nilIface])
  post x r := [.cells x.b [.pointer (some ⟨x.b, 0, none⟩), .slice r.a r.n r.cap] 81, r.A]
  rmono _ _ _ hs h a ha := (h a ha).sub hs
def wrCut (x : WrX) (F : Atom) : Nat → Option Inv := fun
  | 2 => some { X := Unit, P := λ_ => True, mu := λ_ => 0, lv := λ_ => [(0, .pointer (some ⟨x.b, 0, none⟩)), (1, .slice x.a x.m x.c)], st := λ_ => [.cells x.b [.pointer (some ⟨x.b, 0, none⟩), .slice x.r.a x.r.n x.r.cap] 81, x.r.A, F] }
  | _ => none
abbrev q270 (x : WrX) : Option Addr := some ⟨x.b, 0, none⟩
abbrev q328 (x : WrX) (F : Atom) := [(0, fo_cl x.b [fo_vp (q270 x), fo_vl x.r.a x.r.n x.r.cap] 81), (1, x.r.A), (2, F)]
theorem wr_vc (x : WrX) (F : Atom) (hc : wrC.cond x) (hr : wrC.rdc x F) :
 T10 [fo_vp (q270 x)] [fo_cl x.b [fo_vp x.p, fo_vl x.r.a x.r.n x.r.cap] 81] (λc b => ∃(a : Unit), True ∧ (fo_vp (q270 x) = fo_vp (q270 x) ∧ fo_vl x.a x.m x.c = fo_vl x.a x.m x.c ∧ True) ∧ Ent [(0, fo_cl c.b (q341 c) 81), (1, x.r.A), (2, F)] (q328 x F)) ∧ fo_vA λ(d : Unit) _ => True → fo_sm x.b 1 ∧ T0 (opIn Tryz.f181 2 6) [fo_vl x.r.a x.r.n x.r.cap, fo_vl x.a x.m x.c] [x.r.A] (fo_aR (q328 x F) [1]) (λb a => fo_sm x.b 1 ∧ Done wrC x F (fo_rt (tuple ⟨[fo_vi ↑x.m, nilIface]⟩)) [(0, fo_cl x.b [fo_vp (q270 x), fo_vl a.a a.n a.cap] 81), (1, a.A), (2, F)]) := by
  delta T10 q270 q341 q328 q293 q261 q135 q149 T0 fo_aR fo_sm fo_C3 fo_O4 fo_vi fo_vp fo_vl fo_cl fo_rt fo_vA
  obtain ⟨hp, hrow, hs, hc, hm, hsome⟩ := hc
  have hr : ∀ a, x.a = some a → Seg F a (u8s x.l) := hr
  refine ⟨⟨cc_ok, rfl, ⟨x.b, x.p, .slice x.r.a x.r.n x.r.cap⟩, rfl, rfl, hp, fo_tv, λ_ _ => ⟨(), fo_tv, ⟨rfl, rfl, fo_tv⟩, Ent.pick [0, 1, 2] rfl rfl⟩⟩, ?_⟩
  intro _ js _
  refine ⟨⟨rfl, rfl⟩, append_ok (P := Tryz.prog) 1 1 rfl rfl rfl rfl rfl rfl rfl (by decide), rfl, ⟨x.r, Lib.strCells x.t, x.a, x.m, x.c, u8s x.l⟩, rfl, rfl, ⟨hrow.1, by rw [u8s_len]; dsimp only; omega, λ_ h => u8s_one h, by dsimp only; omega, by dsimp only; omega, λe => by rw [show x.a = none from e] at hsome; cases hsome⟩, ?_, ?_⟩
  · intro a ha
    exact Seg.rest (j := 2) (by simp) (hr a ha)
  · rintro y ⟨h1, h2, h3⟩
    exact ⟨⟨rfl, rfl⟩, y, hrow.app hc h1 (by rw [← hm]; exact h2) (λe => h3 (by dsimp only; omega)), rfl, Ent.pick [0, 1, 2] rfl rfl⟩
theorem wr_ok : fo_k 181 wrC := fo 19 Tryz.func181 (λ_ _ => [(1, 1, .c ccC [0] [0]), (2, 6, .o (apC 5 1 1) [1] [1])]) [(2, 4, OH.q [LH.aq (0 : Nat)]), (2, 9, OH.w [LH.aq (0 : Nat)])] fo_i wrCut fo_o [] wr_vc
structure BdY where
  p : Option Addr
  r : Row
def bdR (b : Nat) (t : ByteArray) (y : BdY) : Prop := (y.p = none ∨ y.p = some ⟨b, 0, none⟩) ∧ BRow 5 t y.r
def bdB (b : Nat) (y : BdY) : List Atom := [.cells b [.pointer y.p, .slice y.r.a y.r.n y.r.cap] 81, y.r.A]
def bdA (b : Nat) (t : ByteArray) : Atom := exA (bdR b t) (bdB b)
theorem bd_new (b : Nat) : bdR b ⟨#[]⟩ ⟨none, nilRow⟩ := ⟨.inl rfl, .nil rfl, .inl rfl⟩
structure BpX where
  b : Nat
  t : ByteArray
  s : ByteArray
  c : Nat := 0
abbrev wsP : Con where
  X := BpX
  Y := Unit
  args x := [.pointer (some ⟨x.b, 0, none⟩), .string x.s]
  pre x := [bdA x.b x.t]
  cond x := x.t.size + x.s.size ≤ 140737488355328
  rdc _ _ := True
  rel _ _ := True
  val x _ := .returned (.tuple #[.int .i64 x.s.size, .nilIface])
  post x _ := [bdA x.b (x.t ++ x.s)]
theorem wsp_ok : fo_k 113 wsP :=
  ws_ok.pk (D := wsP) (λx => bdR x.b x.t) (λx => bdB x.b) (λ_ => rfl) (λx y => ⟨x.b, y.p, y.r, x.t, x.s⟩) (λ_ _ _ _ => rfl) (λ_ _ => rfl)
    (λx y hc hy => ⟨hy.1, hy.2, by have := hy.2.size; have hc : x.t.size + x.s.size ≤ 140737488355328 := hc; dsimp only; omega⟩) (λ_ _ _ _ _ _ => fo_tv)
    λx _ z _ _ hz => ⟨(), fo_tv, rfl, PostLe.ex (R := bdR x.b (x.t ++ x.s)) (B := bdB x.b) (y := ⟨some ⟨x.b, 0, none⟩, z⟩) ⟨.inr rfl, hz⟩⟩
abbrev wbP : Con where
  X := BpX
  Y := Unit
  args x := [.pointer (some ⟨x.b, 0, none⟩), .int .u8 x.c]
  pre x := [bdA x.b x.t]
  cond x := x.t.size + 1 ≤ 140737488355328 ∧ x.c < 256
  rdc _ _ := True
  rel _ _ := True
  val x _ := .returned .nilIface
  post x _ := [bdA x.b (x.t ++ btL [x.c])]
theorem wbp_ok : fo_k 136 wbP :=
  wb_ok.pk (D := wbP) (λx => bdR x.b x.t) (λx => bdB x.b) (λ_ => rfl) (λx y => ⟨x.b, y.p, y.r, x.t, x.c⟩) (λ_ _ _ _ => rfl) (λ_ _ => rfl)
    (λx y hc hy => ⟨hy.1, hy.2, by have := hy.2.size; have hc : x.t.size + 1 ≤ 140737488355328 := hc.1; dsimp only; omega, hc.2⟩) (λ_ _ _ _ _ _ => fo_tv)
    λx _ z _ _ hz => ⟨(), fo_tv, rfl, PostLe.ex (R := bdR x.b (x.t ++ btL [x.c])) (B := bdB x.b) (y := ⟨some ⟨x.b, 0, none⟩, z⟩) ⟨.inr rfl, hz⟩⟩
structure WpX where
  b : Nat
  t : ByteArray
  a : Addr
  c : Nat
  l : List Nat
abbrev wrP : Con where
  X := WpX
  Y := Unit
  args x := [.pointer (some ⟨x.b, 0, none⟩), .slice (some x.a) x.l.length x.c]
  pre x := [bdA x.b x.t]
  cond x := x.t.size + x.l.length ≤ 140737488355328 ∧ (∀ c ∈ x.l, c < 256)
  rdc x F := Seg F x.a (u8s x.l)
  rel _ _ := True
  val x _ := .returned (.tuple #[.int .i64 x.l.length, .nilIface])
  post x _ := [bdA x.b (x.t ++ btL x.l)]
  rmono _ _ _ hs h := h.sub hs
theorem wrp_ok : fo_k 181 wrP :=
  wr_ok.pk (D := wrP) (λx => bdR x.b x.t) (λx => bdB x.b) (λ_ => rfl) (λx y => ⟨x.b, y.p, y.r, x.t, some x.a, x.l.length, x.c, x.l⟩) (λ_ _ _ _ => rfl) (λ_ _ => rfl)
    (λx y hc hy => ⟨hy.1, hy.2, by have := hy.2.size; have hc : x.t.size + x.l.length ≤ 140737488355328 := hc.1; dsimp only; omega, hc.2, rfl, rfl⟩) (λ_ _ _ _ _ hr a ha => by cases ha; exact hr)
    λx _ z _ _ hz => ⟨(), fo_tv, rfl, PostLe.ex (R := bdR x.b (x.t ++ btL x.l)) (B := bdB x.b) (y := ⟨some ⟨x.b, 0, none⟩, z⟩) ⟨.inr rfl, hz⟩⟩
abbrev bsP : Con where
  X := BpX
  Y := Unit
  args x := [.pointer (some ⟨x.b, 0, none⟩)]
  pre x := [bdA x.b x.t]
  cond x := x.t.size ≤ 140737488355328
  rdc _ _ := True
  rel _ _ := True
  val x _ := .returned (.string x.t)
  post _ _ := []
theorem bsp_ok : fo_k 29 bsP :=
  bs_ok.pk (D := bsP) (λx => bdR x.b x.t) (λx => bdB x.b) (λ_ => rfl) (λx y => ⟨x.b, y.p, y.r, x.t, x.s⟩) (λ_ _ _ _ => rfl) (λ_ _ => rfl)
    (λx y hc hy => ⟨hy.2, hc⟩) (λ_ _ _ _ _ _ => fo_tv)
    λx _ z _ _ hz => ⟨(), fo_tv, rfl, λI w F h => ⟨I, Imm.le_refl I, h.pick [2] rfl rfl⟩⟩
end
section
open Go
def sx (b : Nat) : Int := bif decide (48 ≤ b) && decide (b ≤ 57) then (b : Int) - 48 else bif decide (97 ≤ b) && decide (b ≤ 102) then (b : Int) - 87 else bif decide (65 ≤ b) && decide (b ≤ 70) then (b : Int) - 55 else -1
def sdF (s : ByteArray) : Nat → Nat → ByteArray → Option ByteArray
  | 0, _, _ => none
  | f + 1, i, o =>
    bif decide (i < s.size) then
      bif bt s i == 43 then sdF s f (i + 1) (o ++ btL [32])
      else bif bt s i == 37 then
        bif decide (s.size ≤ i + 2) then none
        else bif decide (sx (bt s (i + 1)) < 0) || decide (sx (bt s (i + 2)) < 0) then none
        else sdF s f (i + 3) (o ++ btL [(sx (bt s (i + 1))).toNat * 16 + (sx (bt s (i + 2))).toNat])
      else sdF s f (i + 1) (o ++ btL [bt s i])
    else some o
def sdV (s : ByteArray) : Option ByteArray := sdF s (s.size + 1) 0 ⟨#[]⟩
def atV (s : ByteArray) (c i : Nat) : Nat := run1 s (λb => !(b == c)) i
def cutA (s : ByteArray) (c : Nat) : ByteArray := s.extract 0 (atV s c 0)
def cutB (s : ByteArray) (c : Nat) : ByteArray := s.extract (min (atV s c 0 + 1) s.size) s.size
def pcF (s : ByteArray) : Nat → Nat → List ByteArray
  | 0, _ => []
  | f + 1, i => s.extract i (atV s 38 i) :: bif decide (atV s 38 i < s.size) then pcF s f (atV s 38 i + 1) else []
def pcV (s : ByteArray) : List ByteArray := pcF s (s.size + 1) 0
abbrev Fld := ByteArray × ByteArray
def fdL : List ByteArray → List Fld → Option (List Fld)
  | [], l => some l
  | p :: r, l => bif p.size == 0 then fdL r l else (match sdV (cutA p 61), sdV (cutB p 61) with | some n, some v => fdL r (l ++ [(n, v)]) | _, _ => none)
def fdV (s : ByteArray) : Option (List Fld) :=
  bif decide (s.size > 4096) then none else (match fdL (pcV s) [] with | some l => bif decide (l.length > 32) then none else some l | none => none)
def fndV (n : ByteArray) : List Fld → Option ByteArray
  | [] => none
  | (k, v) :: r => bif k.toList == n.toList then some v else fndV n r
def runR (s : ByteArray) (p : Nat → Bool) : Nat → Nat
  | 0 => 0
  | n + 1 => bif p (bt s n) then runR s p n else n + 1
def trmV (p : Nat → Bool) (s : ByteArray) : ByteArray := s.extract (run1 s p 0) (max (run1 s p 0) (runR s p s.size))
def okF (s : ByteArray) : Nat → Nat → Bool
  | 0, _ => true
  | f + 1, i => bif decide (i < s.size) then (match nextV s i with | some (_, n) => okF s f (i + n) | none => false) else true
def okV (s : ByteArray) : Bool := okF s (s.size + 1) 0
def unV (w : ByteArray) (i : Nat) : Nat := bif decide (i < w.size / 2) then bt w (2 * i) * 256 + bt w (2 * i + 1) else 0
def nrC (w : ByteArray) (i : Nat) : Nat × Nat :=
  let c := unV w i
  let d := unV w (i + 1)
  bif decide (55296 ≤ c) && decide (c < 57344) then
    (bif decide (c < 56320) && (decide (i + 1 < w.size / 2) && (decide (56320 ≤ d) && decide (d < 57344))) then (65536 + (c - 55296) * 1024 + (d - 56320), 2) else (65533, 1))
  else (c, 1)
def nrF (w : ByteArray) : Nat → Nat → ByteArray → ByteArray
  | 0, _, o => o
  | f + 1, i, o => bif decide (i < w.size / 2) then nrF w f (i + (nrC w i).2) (o ++ Utf8.encode (nrC w i).1) else o
def nrV (w : ByteArray) : ByteArray := bif w.size % 2 == 0 then nrF w (w.size / 2 + 1) 0 ⟨#[]⟩ else ⟨#[]⟩
def hxL (n : Nat) : Nat := bif decide (n < 10) then 48 + n else 87 + n
def esc (u : Nat) : List Nat :=
  bif u == 34 then [0, 92, 0, 34] else bif u == 92 then [0, 92, 0, 92] else bif u == 8 then [0, 92, 0, 98] else bif u == 12 then [0, 92, 0, 102] else bif u == 10 then [0, 92, 0, 110] else bif u == 13 then [0, 92, 0, 114] else bif u == 9 then [0, 92, 0, 116] else
  bif decide (u < 32) then [0, 92, 0, 117, 0, 48, 0, 48, 0, 48 + u / 16, 0, hxL (u % 16)] else [u / 256, u % 256]
def quF (w : ByteArray) : Nat → Nat → ByteArray → ByteArray
  | 0, _, o => o
  | f + 1, i, o => bif decide (i < w.size / 2) then quF w f (i + 1) (o ++ btL (esc (unV w i))) else o
def quV (w : ByteArray) : ByteArray := quF w (w.size / 2 + 1) 0 (btL [0, 34]) ++ btL [0, 34]
def putV {α : Type} (k : ByteArray) (v : α) : List (ByteArray × α) → List (ByteArray × α)
  | [] => [(k, v)]
  | (j, u) :: r => bif j.toList == k.toList then (j, v) :: r else (j, u) :: putV k v r
def obF {α : Type} (j : α → ByteArray) : List (ByteArray × α) → Bool → ByteArray → ByteArray
  | [], _, o => o
  | (k, v) :: r, first, o => obF j r false ((bif first then o else o ++ btL [0, 44]) ++ quV k ++ btL [0, 58] ++ j v)
def obV {α : Type} (j : α → ByteArray) (l : List (ByteArray × α)) : ByteArray := obF j l true (btL [0, 123]) ++ btL [0, 125]
def jsV (w : ByteArray) : Option ByteArray := bif decide (w.size ≤ 16384) then some (nrV w) else none
structure Req where
  m : ByteArray
  t : ByteArray
  h : ByteArray
  y : ByteArray
  b : ByteArray
def sPost : ByteArray := ⟨#[80, 79, 83, 84]⟩
def sGet : ByteArray := ⟨#[71, 69, 84]⟩
def sHttp : ByteArray := ⟨#[72, 84, 84, 80, 46]⟩
def bEq (a b : ByteArray) : Bool := a.toList == b.toList
def tabs (b : Nat) : Bool := b == 32 || b == 9
def blk4 (b : Nat) : Bool := b == 32 || b == 9 || b == 10 || b == 13
def sForm : ByteArray := ⟨#[97,112,112,108,105,99,97,116,105,111,110,47,120,45,119,119,119,45,102,111,114,109,45,117,114,108,101,110,99,111,100,101,100]⟩
def sName : ByteArray := ⟨#[95,115,99,120,109,108,101,118,101,110,116,110,97,109,101]⟩
def frmV (r : Req) : Bool := bEq r.m sPost && bEq (trmV tabs (cutA r.y 59)) sForm
def tgV (r : Req) : ByteArray := bif decide (r.t.size > 0) && bt r.t 0 == 47 then r.t.extract 1 r.t.size else r.t
def flsV (r : Req) : Option (List Fld) :=
  match fdV (cutB (tgV r) 63) with
  | none => none
  | some l => bif frmV r then (match fdV r.b with | some m => some (l ++ m) | none => none) else some l
def othV (l : List Fld) : List Fld := l.filter λf => !bEq f.1 sName
def jobV (l : List Fld) : ByteArray := obV quV (l.foldl (λa f => putV (wideV f.1) (wideV f.2) a) [])
inductive Hrd where
  | no (s : Nat)
  | ok (page name data : ByteArray)
def datV (r : Req) (l : List Fld) : Option ByteArray ⊕ Unit :=
  bif decide ((othV l).length > 0) then .inl (jsV (jobV (othV l)))
  else bif decide (r.b.size > 0) && !frmV r then (bif okV r.b then .inl (jsV (quV (wideV r.b))) else .inr ())
  else .inl (some ⟨#[]⟩)
def nmV (r : Req) (l : List Fld) : Option ByteArray :=
  match fndV sName l with
  | some n => bif decide (n.size = 0) || decide (run1 n (λb => !blk4 b) 0 < n.size) then none else some n
  | none => some (sHttp ++ r.m)
def hearV (r : Req) : Hrd :=
  bif !bEq r.m sPost && !bEq r.m sGet then .no 405 else
  match flsV r with
  | none => .no 400
  | some l =>
    match nmV r l with
    | none => .no 400
    | some n =>
      bif l.all λf => okV f.1 && okV f.2 then
        (match datV r l with
        | .inr _ => .no 400
        | .inl none => .no 413
        | .inl (some d) => .ok (cutA (tgV r) 63) n d)
      else .no 400
end
section
open Go
theorem rv_le (s : ByteArray) (p : Nat → Bool) : ∀ (f i : Nat), i ≤ s.size → i ≤ runV s p f i ∧ runV s p f i ≤ s.size := by
  intro f
  induction f with
  | zero => intro i h; exact ⟨fo_nr _, h⟩
  | succ f ih =>
    intro i h
    rw [runV]
    cases hb : (decide (i < s.size) && p (bt s i)) with
    | false => exact ⟨fo_nr _, h⟩
    | true =>
      have hi : i < s.size := fo_od1 ((Bool.and_eq_true_iff.1 hb).1)
      have := ih (i + 1) hi
      exact ⟨by rw [fo_ct]; omega, this.2⟩
theorem rv_spec (s : ByteArray) (p : Nat → Bool) : ∀ (f i : Nat), i ≤ s.size → s.size < i + f → (∀ j, i ≤ j → j < runV s p f i → p (bt s j) = true) ∧ (runV s p f i < s.size → p (bt s (runV s p f i)) = false) := by
  intro f
  induction f with
  | zero => intro i h h'; omega
  | succ f ih =>
    intro i h h'
    rw [runV]
    cases hb : (decide (i < s.size) && p (bt s i)) with
    | false =>
      rw [fo_cf]
      refine ⟨λj h1 h2 => by omega, λh1 => ?_⟩
      rw [fo_dt h1, Bool.true_and] at hb
      exact hb
    | true =>
      have hi : i < s.size := fo_od1 ((Bool.and_eq_true_iff.1 hb).1)
      rw [fo_ct]
      have := ih (i + 1) hi (by omega)
      refine ⟨λj h1 h2 => ?_, this.2⟩
      by_cases e : j = i
      · subst e; exact (Bool.and_eq_true_iff.1 hb).2
      · exact this.1 j (by omega) h2
theorem rv_eq (s : ByteArray) (p : Nat → Bool) (f i k : Nat) (hi : i ≤ k) (hk : k ≤ s.size) (hf : s.size < i + f) (h1 : ∀ j, i ≤ j → j < k → p (bt s j) = true) (h2 : k < s.size → p (bt s k) = false) : runV s p f i = k := by
  have hl := rv_le s p f i (by omega)
  have hs := rv_spec s p f i (by omega) hf
  rcases Nat.lt_trichotomy (runV s p f i) k with h | h | h
  · have a := hs.2 (by omega)
    rw [h1 _ hl.1 h] at a
    cases a
  · exact h
  · have a := hs.1 k hi h
    rw [h2 (by omega)] at a
    cases a
theorem bt_toList (s : ByteArray) (i : Nat) (h : i < s.size) : s.data.toList[i]? = some (UInt8.ofNat (bt s i)) := by
  unfold bt
  rw [Array.getElem?_toList]
  have : s.data[i]? = some (s.data[i]'h) := Array.getElem?_eq_getElem h
  rw [this]
  simp
theorem bt_lt' (s : ByteArray) (i : Nat) : bt s i < 256 := by
  unfold bt
  cases h : s.data[i]? with
  | none => show (0 : Nat) < 256; omega
  | some b => exact b.toNat_lt
theorem ofNat_eq {a b : Nat} (ha : a < 256) (hb : b < 256) : (UInt8.ofNat a = UInt8.ofNat b) ↔ a = b := by
  constructor
  · intro h
    have := congrArg UInt8.toNat h
    simpa [Nat.mod_eq_of_lt ha, Nat.mod_eq_of_lt hb] using this
  · rintro rfl; rfl
theorem at_spec (s : ByteArray) (c i : Nat) (hi : i ≤ s.size) : i ≤ atV s c i ∧ atV s c i ≤ s.size ∧ (∀ j, i ≤ j → j < atV s c i → bt s j ≠ c) ∧ (atV s c i < s.size → bt s (atV s c i) = c) := by
  unfold atV run1
  have h1 := rv_le s (λb => !(b == c)) (s.size + 1) i hi
  have h2 := rv_spec s (λb => !(b == c)) (s.size + 1) i hi (by omega)
  exact ⟨h1.1, h1.2, λj a b => by simpa using h2.1 j a b, λa => by simpa using h2.2 a⟩
theorem at_eq (s : ByteArray) (c i k : Nat) (hi : i ≤ k) (hk : k ≤ s.size) (h1 : ∀ j, i ≤ j → j < k → bt s j ≠ c) (h2 : k < s.size → bt s k = c) : atV s c i = k :=
  rv_eq s _ _ i k hi hk (by omega) (λj a b => by simpa using h1 j a b) (λa => by simpa using h2 a)
theorem bt_ext' (s : ByteArray) (i k : Nat) : bt (s.extract i s.size) k = bt s (i + k) := by
  unfold bt
  by_cases h : i + k < s.size
  · rw [show (s.extract i s.size).data = s.data.extract i s.size from ByteArray.data_extract, Array.getElem?_extract]
    have : k < min s.size s.data.size - i := by
      have : s.data.size = s.size := rfl
      omega
    rw [if_pos this]
  · rw [Array.getElem?_eq_none (show s.data.size ≤ i + k by have : s.data.size = s.size := rfl; omega)]
    rw [Array.getElem?_eq_none (show (s.extract i s.size).data.size ≤ k by have : (s.extract i s.size).data.size = (s.extract i s.size).size := rfl; rw [this, fo_se]; omega)]
theorem at_ext (s : ByteArray) (c i : Nat) (hi : i ≤ s.size) : atV (s.extract i s.size) c 0 = atV s c i - i := by
  have h := at_spec s c i hi
  have hsz : (s.extract i s.size).size = s.size - i := by rw [fo_se]; omega
  refine at_eq _ _ _ _ (fo_zl _) (by omega) (λj _ h2 => ?_) (λh1 => ?_)
  · rw [bt_ext']; exact h.2.2.1 _ (by omega) (by omega)
  · rw [bt_ext', show i + (atV s c i - i) = atV s c i by omega]; exact h.2.2.2 (by omega)
theorem occ_one (l : List UInt8) (u : UInt8) (i : Nat) : Lib.occAt l [u] i = true ↔ l[i]? = some u := by
  constructor
  · exact λh => Lib.occAt_head rfl h
  · intro h
    unfold Lib.occAt
    obtain ⟨hi, e⟩ := fo_gs.1 h
    rw [List.drop_eq_getElem_cons hi, e]
    simp
theorem index_at (s : ByteArray) (c : Nat) (hc : c < 256) : Lib.index s.data.toList [UInt8.ofNat c] = if atV s c 0 < s.size then (atV s c 0 : Int) else -1 := by
  have h := at_spec s c 0 (fo_zl _)
  have hsz : s.data.toList.length = s.size := by simp
  have no : ∀ j, j < s.size → bt s j ≠ c → Lib.occAt s.data.toList [UInt8.ofNat c] j = false := by
    intro j hj hne
    cases e : Lib.occAt s.data.toList [UInt8.ofNat c] j with
    | false => rfl
    | true =>
      have := (occ_one _ _ _).1 e
      rw [bt_toList s j hj] at this
      exact absurd ((ofNat_eq (bt_lt' s j) hc).1 (by simpa using this)) hne
  split
  · rename_i hlt
    refine Lib.index_first (by omega) ?_ (λj hj => no j (by omega) (h.2.2.1 j (fo_zl _) hj))
    rw [occ_one, bt_toList s _ hlt, h.2.2.2 hlt]
  · rename_i hge
    refine Lib.index_none λj hj => ?_
    by_cases hj2 : j < s.size
    · exact no j hj2 (h.2.2.1 j (fo_zl _) (by omega))
    · cases e : Lib.occAt s.data.toList [UInt8.ofNat c] j with
      | false => rfl
      | true =>
        have := (occ_one _ _ _).1 e
        rw [fo_gn (by omega)] at this
        cases this
theorem indexB_at (s : ByteArray) (c : Nat) (hc : c < 256) : Lib.indexB s (btL [c]) = if atV s c 0 < s.size then (atV s c 0 : Int) else -1 := index_at s c hc
theorem ext_ext (s : ByteArray) (i a b : Nat) (ha : i + b ≤ s.size) : (s.extract i s.size).extract a b = s.extract (i + a) (i + b) := by
  rw [ByteArray.extract_extract]
  congr 1
  omega
theorem split_pc (s : ByteArray) : ∀ (f i : Nat), i ≤ s.size → s.size < i + f → Lib.splitB (btL [38]) 0 (Lib.countB (s.extract i s.size) (btL [38])) (s.extract i s.size) = pcF s f i := by
  intro f
  induction f with
  | zero => intro i h h'; omega
  | succ f ih =>
    intro i h h'
    have ha := at_spec s 38 i h
    have hx := at_ext s 38 i h
    have hsz : (s.extract i s.size).size = s.size - i := by rw [fo_se]; omega
    have hix := indexB_at (s.extract i s.size) 38 (by omega)
    rw [hx, hsz] at hix
    rw [pcF]
    by_cases hlt : atV s 38 i < s.size
    · rw [if_pos (by omega)] at hix
      rw [Lib.countB_hit _ _ _ (by decide) hix, Nat.add_comm 1, Lib.splitB_hit _ _ _ _ _ hix, fo_dt hlt, fo_ct]
      have e1 : (btL [38]).size = 1 := rfl
      rw [e1, hsz, ext_ext _ _ _ _ (by omega), ext_ext _ _ _ _ (by omega)]
      have e2 : i + (atV s 38 i - i + 1) = atV s 38 i + 1 := by omega
      have e3 : i + (s.size - i) = s.size := by omega
      have e4 : i + (atV s 38 i - i + 0) = atV s 38 i := by omega
      rw [e2, e3, e4, ih _ (by omega) (by omega), Nat.add_zero]
    · rw [if_neg (by omega)] at hix
      rw [Lib.splitB_miss _ _ _ _ hix, fo_df hlt, fo_cf]
      have : atV s 38 i = s.size := by omega
      rw [this]
theorem ext_all (s : ByteArray) : s.extract 0 s.size = s := by
  apply ByteArray.ext
  rw [ByteArray.data_extract]
  simp
theorem split_pcV (s : ByteArray) : Lib.splitB (btL [38]) 0 (Lib.countB s (btL [38])) s = pcV s := by
  have := split_pc s (s.size + 1) 0 (fo_zl _) (by omega)
  rw [ext_all] at this
  exact this
theorem ext_end (s : ByteArray) (n : Nat) (h : s.size ≤ n) : s.extract n s.size = ⟨#[]⟩ := by
  apply ByteArray.ext
  rw [ByteArray.data_extract]
  apply Array.eq_empty_of_size_eq_zero
  simp
  have : s.data.size = s.size := rfl
  omega
theorem cut_at (s : ByteArray) (c : Nat) (hc : c < 256) : Lib.cut s.data.toList [UInt8.ofNat c] = ((cutA s c).data.toList, (cutB s c).data.toList, decide (atV s c 0 < s.size)) := by
  have ha := at_spec s c 0 (fo_zl _)
  unfold Lib.cut
  rw [index_at s c hc]
  unfold cutA cutB
  by_cases hlt : atV s c 0 < s.size
  · rw [if_pos hlt, if_pos (by omega), fo_dt hlt]
    refine Prod.ext ?_ (Prod.ext ?_ rfl)
    · simp [ByteArray.data_extract]
    · have : min (atV s c 0 + 1) s.size = atV s c 0 + 1 := by omega
      rw [this]
      simp only [fo_tn, fo_l1, ByteArray.data_extract, Array.toList_extract]
      have : s.data.toList.length = s.size := by simp
      simp [List.extract, List.take_of_length_le]
  · have he : atV s c 0 = s.size := by omega
    rw [if_neg hlt, if_neg (by decide), fo_df hlt, he]
    refine Prod.ext ?_ (Prod.ext ?_ rfl)
    · show s.data.toList = (s.extract 0 s.size).data.toList
      rw [ext_all]
    · show [] = (s.extract (min (s.size + 1) s.size) s.size).data.toList
      rw [ext_end _ _ (by omega)]
end
section
open Go
theorem getD_bt (s : ByteArray) (i k : Nat) : ((s.data.toList.drop i).getD k 0).toNat = bt s (i + k) := by
  unfold bt
  rw [fo_gd, List.getElem?_drop, Array.getElem?_toList]
  cases s.data[i + k]? <;> rfl
theorem valid_ok (s : ByteArray) : ∀ (f i : Nat), i ≤ s.size → s.size < i + f → Lib.validD (s.data.toList.drop i) = okF s f i := by
  intro f
  induction f with
  | zero => intro i h h'; omega
  | succ f ih =>
    intro i h h'
    have hlen : (s.data.toList.drop i).length = s.size - i := by rw [List.length_drop]; simp
    rw [okF]
    by_cases hi : i < s.size
    · have hne : s.data.toList.drop i ≠ [] := λe => by rw [e] at hlen; simp at hlen; omega
      rw [Lib.validD_step _ hne, Lib.decodeL_N, hlen, getD_bt, getD_bt, getD_bt, getD_bt, Nat.add_zero, fo_dt hi, fo_ct]
      have hn : nextV s i = _ := rfl
      have hf : ∀ c n, nextV s i = some (c, n) → _ := λc n => next_facts (s := s) (i := i)
      unfold nextV at hn hf ⊢
      rw [fo_dt hi, fo_ct] at hf ⊢
      revert hf
      generalize Lib.decodeN (s.size - i) (bt s i) (bt s (i + 1)) (bt s (i + 2)) (bt s (i + 3)) = d
      obtain ⟨c, n⟩ := d
      intro hf
      dsimp only at hf ⊢
      cases hb : (c == 65533 && n == 1) with
      | true =>
        have := Bool.and_eq_true_iff.1 hb
        rw [if_pos ⟨by simpa using this.1, by simpa using this.2⟩] <;> rfl
      | false =>
        rw [hb] at hf
        have hf := hf c n rfl
        rw [if_neg (λh => by rw [h.1, h.2] at hb; cases hb), List.drop_drop]
        exact ih (i + n) hf.1 (by omega)
    · have he : s.data.toList.drop i = [] := List.eq_nil_of_length_eq_zero (by omega)
      rw [he, fo_df hi] <;> rfl
theorem valid_okV (s : ByteArray) : Lib.validD s.data.toList = okV s := valid_ok s _ 0 (fo_zl _) (by omega)
def chE (low c : Nat) : Option Nat := bif (decide (c < low) || decide (c > 1114111)) || (decide (55296 ≤ c) && decide (c < 57344)) then none else some c
theorem chE_lt {low c : Nat} (h : c < low) : chE low c = none := by unfold chE; rw [fo_dt h] <;> rfl
theorem chE_gt {low c : Nat} (h : 1114111 < c) : chE low c = none := by unfold chE; rw [fo_dt (show c > 1114111 from h), fo_bot] <;> rfl
theorem chE_su {low c : Nat} (h : 55296 ≤ c ∧ c < 57344) : chE low c = none := by unfold chE; rw [fo_dt h.1, fo_dt h.2, Bool.and_self, fo_bot] <;> rfl
theorem chE_ok {low c : Nat} (h : c ≥ low ∧ (c < 55296 ∨ 57344 ≤ c ∧ c ≤ 1114111)) : chE low c = some c := by
  unfold chE
  rw [fo_df (show ¬ c < low by omega), fo_df (show ¬ c > 1114111 by omega), ← Bool.decide_and, fo_df (show ¬ (55296 ≤ c ∧ c < 57344) by omega)] <;> rfl
def chT (s : ByteArray) (i n low : Nat) : Nat → Nat → Nat → Option Nat
  | 0, _, c => chE low c
  | f + 1, k, c => bif decide (k < n) then (bif decide (bt s (i + k) < 128) || decide (192 ≤ bt s (i + k)) then none else chT s i n low f (k + 1) (c * 64 + bt s (i + k) - 128)) else chE low c
def chL (b : Nat) : Nat × Nat × Nat := bif decide (192 ≤ b) && decide (b < 224) then (2, b - 192, 128) else bif decide (224 ≤ b) && decide (b < 240) then (3, b - 224, 2048) else bif decide (240 ≤ b) && decide (b < 248) then (4, b - 240, 65536) else (0, 0, 0)
def chV (s : ByteArray) (i : Nat) : Option (Nat × Nat) :=
  bif decide (i < s.size) then
    bif decide (bt s i < 128) then some (bt s i, 1)
    else bif (chL (bt s i)).1 == 0 then none
    else bif decide (i + (chL (bt s i)).1 > s.size) then none
    else (chT s i (chL (bt s i)).1 (chL (bt s i)).2.2 4 1 (chL (bt s i)).2.1).map λc => (c, (chL (bt s i)).1)
  else none
set_option maxHeartbeats 1000000 in
theorem chV_next (s : ByteArray) (i : Nat) : chV s i = nextV s i := by
  unfold chV nextV
  by_cases hi : i < s.size
  · rw [fo_dt hi, fo_ct, fo_ct]
    have h0 := bt_lt' s i
    have h1 := bt_lt' s (i + 1)
    have h2 := bt_lt' s (i + 2)
    have h3 := bt_lt' s (i + 3)
    generalize e0 : bt s i = b0 at *
    generalize e1 : bt s (i + 1) = b1 at *
    generalize e2 : bt s (i + 2) = b2 at *
    generalize e3 : bt s (i + 3) = b3 at *
    obtain ⟨n, hn⟩ : ∃ n, n = s.size - i := ⟨_, rfl⟩
    rw [← hn]
    unfold Lib.decodeN
    by_cases c1 : b0 < 128
    · have a1 : ¬ (b0 == 65533) = true := by rw [beq_iff_eq]; omega
      simp [c1, a1]
    · by_cases c2 : 192 ≤ b0 ∧ b0 < 224
      · have q : b0 / 32 = 6 := by omega
        have q2 : b0 % 32 = b0 - 192 := by omega
        have el : chL b0 = (2, b0 - 192, 128) := by unfold chL; simp [c2.1, c2.2]
        rw [el]
        simp only [chT, e1, c1, q, q2]
        by_cases c3 : 1 < n ∧ b1 / 64 = 2
        · have g1 : ¬ i + 2 > s.size := by omega
          have g2 : ¬ b1 < 128 := by omega
          have g3 : ¬ 192 ≤ b1 := by omega
          by_cases c4 : (b0 - 192) * 64 + b1 % 64 ≥ 128
          · have ec : (b0 - 192) * 64 + b1 - 128 = (b0 - 192) * 64 + b1 % 64 := by omega
            have k1 : ¬ (b0 - 192) * 64 + b1 % 64 < 128 := by omega
            have k2 : ¬ (b0 - 192) * 64 + b1 % 64 > 1114111 := by omega
            have k3 : ¬ 55296 ≤ (b0 - 192) * 64 + b1 % 64 := by omega
            rw [if_pos c4]; simp [c3.1, c3.2, g1, g2, g3, ec, chE_ok (show (b0 - 192) * 64 + b1 % 64 ≥ 128 ∧ _ from ⟨c4, .inl (by omega)⟩)]
          · have ec : (b0 - 192) * 64 + b1 - 128 = (b0 - 192) * 64 + b1 % 64 := by omega
            have k1 : (b0 - 192) * 64 + b1 % 64 < 128 := by omega
            have c4' : ¬ 128 ≤ (b0 - 192) * 64 + b1 % 64 := by omega
            rw [if_neg (show ¬ (b0 - 192) * 64 + b1 % 64 ≥ 128 by omega)]; simp [c3.1, c3.2, g1, g2, g3, ec, chE_lt k1]
        · have r : ¬ (b0 / 16 = 14) := by omega
          have r2 : ¬ (b0 / 8 = 30) := by omega
          by_cases g1 : i + 2 > s.size
          · simp [c3, g1, r, r2]
          · have g2 : b1 < 128 ∨ 192 ≤ b1 := by omega
            rcases g2 with g2 | g2 <;> simp [c3, g1, g2, r, r2]
      · by_cases c2' : 224 ≤ b0 ∧ b0 < 240
        · have q0 : ¬ b0 / 32 = 6 := by omega
          have q : b0 / 16 = 14 := by omega
          have q2 : b0 % 16 = b0 - 224 := by omega
          have w1 : ¬ b0 < 224 := by omega
          have el : chL b0 = (3, b0 - 224, 2048) := by unfold chL; simp [c2'.1, c2'.2, w1]
          rw [el]
          simp only [chT, e1, e2, c1, q, q2, q0]
          by_cases c3 : (1 < n ∧ b1 / 64 = 2) ∧ 2 < n ∧ b2 / 64 = 2
          · have g1 : ¬ i + 3 > s.size := by omega
            have g2 : ¬ b1 < 128 := by omega
            have g3 : ¬ 192 ≤ b1 := by omega
            have g4 : ¬ b2 < 128 := by omega
            have g5 : ¬ 192 ≤ b2 := by omega
            have ec : ((b0 - 224) * 64 + b1 - 128) * 64 + b2 - 128 = (b0 - 224) * 4096 + b1 % 64 * 64 + b2 % 64 := by omega
            obtain ⟨c, hc⟩ : ∃ c, c = (b0 - 224) * 4096 + b1 % 64 * 64 + b2 % 64 := ⟨_, rfl⟩
            rw [← hc] at ec ⊢
            by_cases c4 : c ≥ 2048 ∧ (c < 55296 ∨ 57344 ≤ c ∧ c ≤ 1114111)
            · have k1 : ¬ c < 2048 := by omega
              have k2 : ¬ 1114111 < c := by omega
              have k3 : ¬ (55296 ≤ c ∧ c < 57344) := by omega
              have k4 : (decide (55296 ≤ c) && decide (c < 57344)) = false := by simpa using k3
              rw [if_pos c4]; simp [c3.1.1, c3.1.2, c3.2.1, c3.2.2, g1, g2, g3, g4, g5, ec, chE_ok c4]
            · have k : c < 2048 ∨ (55296 ≤ c ∧ c < 57344) := by omega
              have c4' : ¬ (2048 ≤ c ∧ (c < 55296 ∨ 57344 ≤ c ∧ c ≤ 1114111)) := c4
              rcases k with k | k
              · rw [if_neg c4]; simp [c3.1.1, c3.1.2, c3.2.1, c3.2.2, g1, g2, g3, g4, g5, ec, chE_lt k]
              · rw [if_neg c4]; simp [c3.1.1, c3.1.2, c3.2.1, c3.2.2, g1, g2, g3, g4, g5, ec, chE_su k]
          · have r2 : ¬ (b0 / 8 = 30) := by omega
            by_cases g1 : i + 3 > s.size
            · simp [c3, g1, r2]
            · have g2 : (b1 < 128 ∨ 192 ≤ b1) ∨ (¬ (b1 < 128 ∨ 192 ≤ b1) ∧ (b2 < 128 ∨ 192 ≤ b2)) := by omega
              have d1 : ∀ b : Nat, (decide (b < 128) || decide (192 ≤ b)) = decide (b < 128 ∨ 192 ≤ b) := λb => by simp [Bool.decide_or]
              rcases g2 with g2 | ⟨g2, g3⟩
              · simp only [d1, fo_dt g2]
                simp [c3, g1, r2]
              · simp only [d1, fo_df g2, fo_dt g3]
                simp [c3, g1, r2]
        · by_cases c2'' : 240 ≤ b0 ∧ b0 < 248
          · have q0 : ¬ b0 / 32 = 6 := by omega
            have q1 : ¬ b0 / 16 = 14 := by omega
            have q : b0 / 8 = 30 := by omega
            have q2 : b0 % 8 = b0 - 240 := by omega
            have w1 : ¬ b0 < 224 := by omega
            have w2 : ¬ b0 < 240 := by omega
            have el : chL b0 = (4, b0 - 240, 65536) := by unfold chL; simp [c2''.1, c2''.2, w1, w2]
            rw [el]
            simp only [chT, e1, e2, e3, c1, q, q2, q0, q1]
            by_cases c3 : (1 < n ∧ b1 / 64 = 2) ∧ (2 < n ∧ b2 / 64 = 2) ∧ 3 < n ∧ b3 / 64 = 2
            · have g1 : ¬ i + 4 > s.size := by omega
              have g2 : ¬ b1 < 128 := by omega
              have g3 : ¬ 192 ≤ b1 := by omega
              have g4 : ¬ b2 < 128 := by omega
              have g5 : ¬ 192 ≤ b2 := by omega
              have g6 : ¬ b3 < 128 := by omega
              have g7 : ¬ 192 ≤ b3 := by omega
              have ec : (((b0 - 240) * 64 + b1 - 128) * 64 + b2 - 128) * 64 + b3 - 128 = (b0 - 240) * 262144 + b1 % 64 * 4096 + b2 % 64 * 64 + b3 % 64 := by omega
              obtain ⟨c, hc⟩ : ∃ c, c = (b0 - 240) * 262144 + b1 % 64 * 4096 + b2 % 64 * 64 + b3 % 64 := ⟨_, rfl⟩
              rw [← hc] at ec ⊢
              by_cases c4 : c ≥ 65536 ∧ (c < 55296 ∨ 57344 ≤ c ∧ c ≤ 1114111)
              · have k1 : ¬ c < 65536 := by omega
                have k2 : ¬ 1114111 < c := by omega
                have k3 : ¬ (c < 57344) := by omega
                rw [if_pos c4]; simp [c3.1.1, c3.1.2, c3.2.1.1, c3.2.1.2, c3.2.2.1, c3.2.2.2, g1, g2, g3, g4, g5, g6, g7, ec, chE_ok c4]
              · have k : c < 65536 ∨ 1114111 < c := by omega
                have c4' : ¬ (65536 ≤ c ∧ (c < 55296 ∨ 57344 ≤ c ∧ c ≤ 1114111)) := c4
                rcases k with k | k
                · rw [if_neg c4]; simp [c3.1.1, c3.1.2, c3.2.1.1, c3.2.1.2, c3.2.2.1, c3.2.2.2, g1, g2, g3, g4, g5, g6, g7, ec, chE_lt k]
                · rw [if_neg c4]; simp [c3.1.1, c3.1.2, c3.2.1.1, c3.2.1.2, c3.2.2.1, c3.2.2.2, g1, g2, g3, g4, g5, g6, g7, ec, chE_gt k]
            · by_cases g1 : i + 4 > s.size
              · simp [c3, g1]
              · have g2 : (b1 < 128 ∨ 192 ≤ b1) ∨ (¬ (b1 < 128 ∨ 192 ≤ b1) ∧ (b2 < 128 ∨ 192 ≤ b2)) ∨ (¬ (b1 < 128 ∨ 192 ≤ b1) ∧ ¬ (b2 < 128 ∨ 192 ≤ b2) ∧ (b3 < 128 ∨ 192 ≤ b3)) := by omega
                have d1 : ∀ b : Nat, (decide (b < 128) || decide (192 ≤ b)) = decide (b < 128 ∨ 192 ≤ b) := λb => by simp [Bool.decide_or]
                rcases g2 with g2 | ⟨g2, g3⟩ | ⟨g2, g3, g4⟩
                · simp only [d1, fo_dt g2]
                  simp [c3, g1]
                · simp only [d1, fo_df g2, fo_dt g3]
                  simp [c3, g1]
                · simp only [d1, fo_df g2, fo_df g3, fo_dt g4]
                  simp [c3, g1]
          · have q0 : ¬ b0 / 32 = 6 := by omega
            have q1 : ¬ b0 / 16 = 14 := by omega
            have q : ¬ b0 / 8 = 30 := by omega
            have el : chL b0 = (0, 0, 0) := by
              unfold chL
              rw [← Bool.decide_and, ← Bool.decide_and, ← Bool.decide_and, fo_df c2, fo_df c2', fo_df c2''] <;> rfl
            rw [el]
            simp [c1, q0, q1, q]
  · rw [fo_df hi] <;> rfl
end
section
open Go
set_option maxHeartbeats 1000000
def sxT : ByteArray := ⟨#[48, 49, 50, 51, 52, 53, 54, 55, 56, 57, 97, 98, 99, 100, 101, 102]⟩
theorem sx_ix {c : Nat} (h : c < 256) : (¬ (65 ≤ c ∧ c ≤ 70) → Lib.indexByte sxT.data.toList (UInt8.ofNat c) = sx c) ∧ ((65 ≤ c ∧ c ≤ 70) → Lib.indexByte sxT.data.toList (UInt8.ofNat (c ||| 32)) = sx c) := by
  have : ∀ d : Fin 256, (¬ (65 ≤ d.val ∧ d.val ≤ 70) → Lib.indexByte sxT.data.toList (UInt8.ofNat d.val) = sx d.val) ∧ ((65 ≤ d.val ∧ d.val ≤ 70) → Lib.indexByte sxT.data.toList (UInt8.ofNat (d.val ||| 32)) = sx d.val) := by decide +kernel
  exact this ⟨c, h⟩
abbrev sxC : Con where
  X := ChX
  Y := Unit
  args x := [.int .u8 x.c]
  pre _ := []
  cond x := x.c < 256
  rdc _ _ := True
  rel _ _ := True
  val x _ := .returned (.int .i64 (sx x.c))
  post _ _ := []
def T14 := fo_C1 121 ibC (λw0 => w0.c < 256)
def q182 (x : ChX) (F : Atom) := T14 [fo_vs ⟨#[48, 49, 50, 51, 52, 53, 54, 55, 56, 57, 97, 98, 99, 100, 101, 102]⟩, fo_vc ↑x.c] (λb a => Done sxC x F (fo_rt (q104 b)) [(0, F)])
theorem sx_vc (x : ChX) (F : Atom) (hc : sxC.cond x) (hr : sxC.rdc x F) :
 fo_Bd ((x.c : Int) ≥ 65) (fo_Bd ((x.c : Int) ≤ 70) (T14 [fo_vs ⟨#[48, 49, 50, 51, 52, 53, 54, 55, 56, 57, 97, 98, 99, 100, 101, 102]⟩, fo_vc (u8.wrap (↑(BitVec.ofInt u8.bits (x.c : Int) ||| BitVec.ofInt u8.bits (32 : Int)).toNat : Int))] (λb a => Done sxC x F (fo_rt (q104 b)) [(0, F)])) (q182 x F)) (q182 x F) := by
  delta T14 q104 q182 fo_C1 fo_vi fo_vc fo_vs fo_Bd fo_rt
  have hc : x.c < 256 := hc
  obtain ⟨h1, h2⟩ := sx_ix hc
  have no : ¬ (65 ≤ x.c ∧ x.c ≤ 70) → fo_k 121 ibC ∧ true = true ∧ ∃ (x_1 : IbX), [string sxT, int u8 (x.c : Int)] = [string x_1.s, int u8 (x_1.c : Int)] ∧ ([] : List Atom) = [] ∧ x_1.c < 256 ∧ True ∧ ∀ (y : Unit), True → Done sxC x F (returned (int i64 (Lib.indexByte x_1.s.data.toList (UInt8.ofNat x_1.c)))) [(0, F)] := λh =>
    ⟨ib_ok, rfl, ⟨sxT, x.c⟩, rfl, rfl, hc, fo_tv, λ_ _ => ⟨(), fo_tv, retI (h1 h), Ent.pick [0] rfl rfl⟩⟩
  refine br_decide (λg1 => br_decide (λg2 => ?_) (λg2 => no (by omega))) (λg1 => no (by omega))
  exact ⟨ib_ok, rfl, ⟨sxT, x.c ||| 32⟩, by rw [or32 hc] <;> rfl, rfl, Nat.or_lt_two_pow (n := 8) hc (by decide), fo_tv, λ_ _ => ⟨(), fo_tv, retI (h2 (by omega)), Ent.pick [0] rfl rfl⟩⟩
theorem sx_ok : fo_k 195 sxC := fo 13 Tryz.func195 (λ_ _ => [(3, 1, .c ibC [] [])]) [] fo_i fo_i fo_o [] sx_vc
theorem sx_lt (c : Nat) : sx c < 16 := by
  unfold sx
  cases h : (decide (48 ≤ c) && decide (c ≤ 57)) with
  | true => simp at h; rw [fo_ct]; omega
  | false =>
    rw [fo_cf]
    cases h : (decide (97 ≤ c) && decide (c ≤ 102)) with
    | true => simp at h; rw [fo_ct]; omega
    | false =>
      rw [fo_cf]
      cases h : (decide (65 ≤ c) && decide (c ≤ 70)) with
      | true => simp at h; rw [fo_ct]; omega
      | false => rw [fo_cf]; omega
theorem or4 {a b : Nat} (ha : a < 16) (hb : b < 16) : u8.wrap (i64.wrap (↑(BitVec.ofInt i64.bits (i64.wrap ((a : Int) * 2 ^ min (Int.toNat 4) i64.bits)) ||| BitVec.ofInt i64.bits (b : Int)).toNat : Int)) = ((a * 16 + b : Nat) : Int) := by
  have : ∀ a b : Fin 16, u8.wrap (i64.wrap (↑(BitVec.ofInt i64.bits (i64.wrap ((a.val : Int) * 2 ^ min (Int.toNat 4) i64.bits)) ||| BitVec.ofInt i64.bits (b.val : Int)).toNat : Int)) = ((a.val * 16 + b.val : Nat) : Int) := by decide +kernel
  exact this ⟨a, ha⟩ ⟨b, hb⟩
theorem sz_app (o : ByteArray) (l : List Nat) : (o ++ btL l).size = o.size + l.length := by rw [fo_sa, btL_size]
structure StX where
  s : ByteArray
abbrev sdC : Con where
  X := StX
  Y := Unit
  args x := [.string x.s]
  pre _ := []
  cond x := x.s.size ≤ 1048576
  rdc _ _ := True
  rel _ _ := True
  val x _ := .returned (.tuple #[.string ((sdV x.s).getD ⟨#[]⟩), .bool (sdV x.s).isSome])
  post _ _ := []
structure SdS where
  b : Nat
  i : Nat
  o : ByteArray
  f : Nat
def sdInv (x : StX) (F : Atom) : Nat → Option Inv := fun
  | 0 => some { X := SdS, P := λd => d.i ≤ x.s.size ∧ x.s.size < d.i + d.f ∧ d.o.size ≤ d.i ∧ sdV x.s = sdF x.s d.f d.i d.o, mu := λd => x.s.size - d.i, lv := λd => [(0, .string x.s), (4, .pointer (some ⟨d.b, 0, none⟩)), (5, .int .i64 d.i)], st := λd => [bdA d.b d.o, F] }
  | _ => none
def q192 (z : SdS) (e0 : StX) := z.i ≤ e0.s.size ∧ e0.s.size < z.i + z.f ∧ z.o.size ≤ z.i ∧ sdV e0.s = sdF e0.s z.f z.i z.o
abbrev q200 (z : SdS) : Option Addr := some ⟨z.b, 0, none⟩
abbrev q350 : List Value := [fo_vp none, fo_vl none 0 0]
abbrev q156 (z : SdS) (e1 : Atom) := [(0, fo_pr (Ex.rest (bdR z.b z.o) (bdB z.b))), (1, e1)]
def T15 := fo_C3 136 wbP (λw0 => w0.t.size + 1 ≤ 140737488355328 ∧ w0.c < 256)
def T16 (e0 : StX) (e1 : Atom) (v0 v1 : Value) (ss : St) (mm : Nat) := ∃ (z : SdS), q192 z e0 ∧ (fo_vs e0.s = fo_vs e0.s ∧ v0 = fo_vp (q200 z) ∧ v1 = fo_vi ↑z.i ∧ True) ∧ Ent ss (q156 z e1) ∧ e0.s.size - z.i < mm
abbrev q125 (c : BpX) (F : Atom) := [(0, fo_pr (Ex.rest (bdR c.b (c.t ++ btL [c.c])) (bdB c.b))), (1, F)]
abbrev q272 (i : SdS) (x : StX) (F : Atom) : BpX → Unit → Prop := λc b => fo_rI ((i.i : Int) + 1) ∧ T16 x F (fo_vp (q200 i)) (fo_vi ((i.i : Int) + 1)) (q125 c F) (x.s.size - i.i)
abbrev q107 := fo_rt (tuple ⟨[fo_vs ⟨#[]⟩, fo_vb false]⟩)
def T17 := fo_C1 195 sxC (λw0 => w0.c < 256)
def T18 := fo_C3 29 bsP (λw0 => w0.t.size ≤ 140737488355328)
theorem sd_vc (x : StX) (F : Atom) (hc : sdC.cond x) (hr : sdC.rdc x F) :
 ∀(j : Nat), (∃(a : SdS), q192 a x ∧ (fo_vs x.s = fo_vs x.s ∧ fo_vp (q17 j) = fo_vp (q200 a) ∧ fo_vi 0 = fo_vi ↑a.i ∧ True) ∧ Ent [(0, F), (2000, fo_cl j q350 81)] (q156 a F)) ∧ fo_vA λ(i : SdS) _ => q192 i x → fo_Bd ((i.i : Int) < (x.s.size : Int)) ((0 ≤ (i.i : Int) ∧ (i.i : Int) < (x.s.size : Int)) ∧ Br (byteAt x.s (i.i : Int) == 43) (T15 [fo_vp (q200 i), fo_vc 32] [fo_pr (Ex.rest (bdR i.b i.o) (bdB i.b))] (q272 i x F)) (Br (byteAt x.s (i.i : Int) == 37) (fo_rI ((i.i : Int) + 2) ∧ fo_Bd ((i.i : Int) + 2 ≥ (x.s.size : Int)) (Done sdC x F q107 (q156 i F)) (true = true ∧ fo_rI ((i.i : Int) + 1) ∧ (0 ≤ (i.i : Int) + 1 ∧ (i.i : Int) + 1 < (x.s.size : Int)) ∧ T17 [fo_vc (byteAt x.s ((i.i : Int) + 1))] (λg f => fo_rI ((i.i : Int) + 2) ∧ (0 ≤ (i.i : Int) + 2 ∧ (i.i : Int) + 2 < (x.s.size : Int)) ∧ T17 [fo_vc (byteAt x.s ((i.i : Int) + 2))] (λe d => fo_Bd (sx g.c < 0) (Done sdC x F q107 (q156 i F)) (fo_Bd (sx e.c < 0) (Done sdC x F q107 (q156 i F)) (T15 [fo_vp (q200 i), fo_vc (u8.wrap (fo_wi (↑(fo_bi (fo_wi (sx g.c * 2 ^ min (Int.toNat (4 : Int)) i64.bits)) ||| fo_bi (sx e.c)).toNat : Int)))] [fo_pr (Ex.rest (bdR i.b i.o) (bdB i.b))] (λc b => fo_rI ((i.i : Int) + 2) ∧ fo_rI ((i.i : Int) + 2 + (1 : Int)) ∧ T16 x F (fo_vp (q200 i)) (fo_vi ((i.i : Int) + 2 + (1 : Int))) (q125 c F) (x.s.size - i.i)))))))) ((0 ≤ (i.i : Int) ∧ (i.i : Int) < (x.s.size : Int)) ∧ T15 [fo_vp (q200 i), fo_vc (byteAt x.s (i.i : Int))] [fo_pr (Ex.rest (bdR i.b i.o) (bdB i.b))] (q272 i x F)))) (T18 [fo_vp (q200 i)] [fo_pr (Ex.rest (bdR i.b i.o) (bdB i.b))] (λb a => Done sdC x F (fo_rt (tuple ⟨[fo_vs b.t, fo_vb true]⟩)) [(0, fo_em), (1, F)])) := by
  delta q192 q17 q200 q350 q156 T15 T16 q125 q272 q107 T17 T18 fo_rI fo_C1 fo_C3 fo_vi fo_vc fo_vs fo_vb fo_vp fo_vl fo_cl fo_pr fo_em fo_bi fo_wi fo_Bd fo_rt fo_vA
  have hs : x.s.size ≤ 1048576 := hc
  intro b
  refine ⟨⟨⟨b, 0, ⟨#[]⟩, x.s.size + 1⟩, ⟨fo_zl _, by dsimp only; omega, fo_zl _, rfl⟩, ⟨rfl, rfl, rfl, fo_tv⟩, Ent.ex [0] [2000, 999] ⟨none, nilRow⟩ (bd_new b) rfl rfl rfl⟩, ?_⟩
  rintro ⟨b, i, o, f⟩ js ⟨h1, h2, h3, h4⟩
  dsimp only at h1 h2 h3 h4 ⊢
  obtain ⟨f', rfl⟩ : ∃ f', f = f' + 1 := ⟨f - 1, by omega⟩
  have e0 : byteAt x.s (i : Int) = (bt x.s i : Int) := by rw [byteAt_bt, fo_tn]
  have e1 : byteAt x.s ((i : Int) + 1) = (bt x.s (i + 1) : Int) := by rw [byteAt_bt, show ((i : Int) + 1).toNat = i + 1 by omega]
  have e2 : byteAt x.s ((i : Int) + 2) = (bt x.s (i + 2) : Int) := by rw [byteAt_bt, show ((i : Int) + 2).toNat = i + 2 by omega]
  rw [e0, e1, e2]
  have no : sdV x.s = none → Done sdC x F (returned (tuple #[string ⟨#[]⟩, bool false])) [(0, Atom.pred (Ex.rest (bdR b o) (bdB b))), (1, F)] := λe =>
    ⟨(), fo_tv, by show returned _ = returned (.tuple #[.string ((sdV x.s).getD ⟨#[]⟩), .bool (sdV x.s).isSome]); rw [e] <;> rfl, Ent.pick [1] rfl rfl⟩
  refine br_decide (λhlt => ⟨⟨by omega, hlt⟩, ?_⟩) (λhge => ?_)
  · have hlt : i < x.s.size := by omega
    rw [sdF, fo_dt hlt, fo_ct] at h4
    refine br_intro (λc1 => ?_) (λc1 => br_intro (λc2 => ?_) (λc2 => ?_))
    · rw [eqN 43 c1, fo_ct] at h4
      exact ⟨wbp_ok, rfl, ⟨b, o, ⟨#[]⟩, 32⟩, rfl, rfl, ⟨by dsimp only; omega, (by dsimp only; omega)⟩, fo_tv, λ_ _ => ⟨⟨by omega, by omega⟩, ⟨b, i + 1, o ++ btL [32], f'⟩, ⟨hlt, by dsimp only; omega, by dsimp only; rw [sz_app]; exact Nat.succ_le_succ h3, h4⟩, ⟨rfl, rfl, rfl, fo_tv⟩, Ent.pick [0, 1] rfl rfl, by dsimp only; omega⟩⟩
    · rw [eqN 43 c1, fo_cf, eqN 37 c2, fo_ct] at h4
      refine ⟨⟨by omega, by omega⟩, br_decide (λc3 => no ?_) (λc3 => ⟨rfl, ⟨by omega, by omega⟩, ⟨by omega, by omega⟩, sx_ok, rfl, ⟨bt x.s (i + 1)⟩, rfl, rfl, bt_lt _ _, fo_tv, λ_ _ => ⟨⟨by omega, by omega⟩, ⟨by omega, by omega⟩, sx_ok, rfl, ⟨bt x.s (i + 2)⟩, rfl, rfl, bt_lt _ _, fo_tv, λ_ _ => ?_⟩⟩)⟩
      · rw [fo_dt (show x.s.size ≤ i + 2 by omega), fo_ct] at h4
        exact h4
      rw [fo_df (show ¬ x.s.size ≤ i + 2 by omega), fo_cf] at h4
      refine br_decide (λc4 => no ?_) (λc4 => br_decide (λc5 => no ?_) (λc5 => ?_))
      · rw [fo_dt c4] at h4; exact h4
      · rw [fo_dt (show sx (bt x.s (i + 2)) < 0 from c5), fo_bot] at h4; exact h4
      · rw [fo_df c4, fo_df (show ¬ sx (bt x.s (i + 2)) < 0 from c5), Bool.or_self, fo_cf] at h4
        have q1 := sx_lt (bt x.s (i + 1))
        have q2 := sx_lt (bt x.s (i + 2))
        dsimp only at c4 c5 ⊢
        revert q1 q2 c4 c5 h4
        generalize sx (bt x.s (i + 1)) = u
        generalize sx (bt x.s (i + 2)) = v
        intro h4 c4 c5 q1 q2
        obtain ⟨a, rfl⟩ : ∃ a : Nat, u = a := ⟨u.toNat, by omega⟩
        obtain ⟨c, rfl⟩ : ∃ a : Nat, v = a := ⟨v.toNat, by omega⟩
        rw [fo_tn, fo_tn] at h4
        exact ⟨wbp_ok, rfl, ⟨b, o, ⟨#[]⟩, a * 16 + c⟩, by rw [or4 (by omega) (by omega)], rfl, ⟨by dsimp only; omega, by dsimp only; omega⟩, fo_tv, λ_ _ => ⟨⟨by omega, by omega⟩, ⟨by omega, by omega⟩, ⟨b, i + 3, o ++ btL [a * 16 + c], f'⟩, ⟨by dsimp only; omega, by dsimp only; omega, by dsimp only; rw [sz_app]; simp only [fo_l1]; omega, h4⟩, ⟨rfl, rfl, rfl, fo_tv⟩, Ent.pick [0, 1] rfl rfl, by dsimp only; omega⟩⟩
    · rw [eqN 43 c1, fo_cf, eqN 37 c2, fo_cf] at h4
      exact ⟨⟨by omega, by omega⟩, wbp_ok, rfl, ⟨b, o, ⟨#[]⟩, bt x.s i⟩, rfl, rfl, ⟨by dsimp only; omega, bt_lt _ _⟩, fo_tv, λ_ _ => ⟨⟨by omega, by omega⟩, ⟨b, i + 1, o ++ btL [bt x.s i], f'⟩, ⟨hlt, by dsimp only; omega, by dsimp only; rw [sz_app]; exact Nat.succ_le_succ h3, h4⟩, ⟨rfl, rfl, rfl, fo_tv⟩, Ent.pick [0, 1] rfl rfl, by dsimp only; omega⟩⟩
  · rw [sdF, fo_df (show ¬ i < x.s.size by omega), fo_cf] at h4
    exact ⟨bsp_ok, rfl, ⟨b, o, ⟨#[]⟩, 0⟩, rfl, rfl, by dsimp only; omega, fo_tv, λ_ _ => ⟨(), fo_tv, by show returned _ = returned (.tuple #[.string ((sdV x.s).getD ⟨#[]⟩), .bool (sdV x.s).isSome]); rw [h4] <;> rfl, Ent.pick [1] rfl rfl⟩⟩
theorem sd_ok : fo_k 146 sdC := fo 56 Tryz.func146 (λ_ _ => [(1, 0, .n 2000), (8, 0, .c wbP [0] [0]), (6, 3, .c wbP [0] [0]), (12, 4, .c sxC [] []), (12, 9, .c sxC [] []), (15, 1, .q []), (15, 3, .q []), (15, 4, .q []), (15, 5, .c wbP [0] [0]), (17, 0, .c bsP [0] [])]) [] sdInv fo_i fo_o [] sd_vc
end
end Go.Proofs.YtjdabjmjldiodaaGreatDoor
namespace Go.Proofs
section
open Go.Shelf
def Tryz.lays285_ren : Go.Shelf.Ren := ⟨λ| 285 => 176 | n => n, λ| 37 => 79 | 53 => 209 | 3 => 3 | 4 => 4 | 51 => 191 | 9 => 9 | 5 => 5 | 0 => 0 | n => n, λ| n => n⟩
theorem Tryz.lays285 : Go.Proofs.Lays.n285 Tryz.prog Tryz.lays285_ren := {
  mixed := by kernel_rfl
  f285 := Tryz.func176.trans (congrArg some (by kernel_rfl))
  t0 := Tryz.underlying0
  a0 := Tryz.isAgg0
  z0 := Tryz.sizeOf0
  v0 := Tryz.zeroValue0
  t3 := Tryz.underlying3
  a3 := Tryz.isAgg3
  z3 := Tryz.sizeOf3
  v3 := Tryz.zeroValue3
  t4 := Tryz.underlying4
  a4 := Tryz.isAgg4
  z4 := Tryz.sizeOf4
  v4 := Tryz.zeroValue4
  t5 := Tryz.underlying5
  a5 := Tryz.isAgg5
  z5 := Tryz.sizeOf5
  v5 := Tryz.zeroValue5
  t9 := Tryz.underlying9
  a9 := Tryz.isAgg9
  z9 := Tryz.sizeOf9
  v9 := Tryz.zeroValue9
  t37 := Tryz.underlying79
  a37 := Tryz.isAgg79
  z37 := Tryz.sizeOf79
  v37 := Tryz.zeroValue79
  t51 := Tryz.underlying191
  a51 := Tryz.isAgg191
  z51 := Tryz.sizeOf191
  v51 := Tryz.zeroValue191
  t53 := Tryz.underlying209
  a53 := Tryz.isAgg209
  z53 := Tryz.sizeOf209
  v53 := Tryz.zeroValue209 }
open Go.RowKit Go.Sort Go.Lib in
theorem Tryz.internal_strconv_formatBase10 (blk off cap : Nat) (u : Nat) (d : Array UInt8) (w : World) (hH : Holds (λ(b : UInt8) => Value.int .u8 (b.toNat : Int)) w blk off d) (hu : u < 10 ^ d.size) (hu64 : u < 18446744073709551616) (hsz : d.size < 4611686018427387904) :
    Calls Tryz.prog 176 #[.slice (some ⟨blk, off, none⟩) d.size cap, .int .u64 u] w λe w' =>
      e = .returned (.tuple #[]) ∧ ∃ (n v' : Nat) (dk : Array UInt8), w' = (putRow (λ(b : UInt8) => Value.int .u8 (b.toNat : Int)) w blk off dk).drewN n ∧ FmtInv d.size u 0 v' dk := Any.internal_strconv_formatBase10 Tryz.lays285 blk off cap u d w hH hu hu64 hsz
def Tryz.laysM171_ren : Go.Shelf.Ren := ⟨λ| 171 => 31 | 243 => 78 | 246 => 124 | 283 => 174 | 284 => 175 | 285 => 176 | 286 => 177 | 129 => 220 | 317 => 219 | 318 => 221 | 319 => 222 | 320 => 223 | 337 => 261 | 338 => 262 | n => n, λ| 3 => 3 | 9 => 9 | 2 => 2 | 4 => 4 | 171 => 220 | 0 => 0 | 53 => 209 | 37 => 79 | 5 => 5 | 173 => 223 | 212 => 248 | 51 => 191 | 20 => 20 | 213 => 249 | 46 => 135 | 232 => 276 | 233 => 337 | n => n, λ| 17 => 4 | 18 => 9 | 19 => 10 | n => n⟩
theorem Tryz.laysM171 : Go.Proofs.LaysM.n171 Tryz.prog Tryz.laysM171_ren := {
  mixed := by kernel_rfl
  f129 := Tryz.func220.trans (congrArg some (by kernel_rfl))
  f171 := Tryz.func31.trans (congrArg some (by kernel_rfl))
  f243 := Tryz.func78.trans (congrArg some (by kernel_rfl))
  f246 := Tryz.func124.trans (congrArg some (by kernel_rfl))
  f283 := Tryz.func174.trans (congrArg some (by kernel_rfl))
  f284 := Tryz.func175.trans (congrArg some (by kernel_rfl))
  f285 := Tryz.func176.trans (congrArg some (by kernel_rfl))
  f286 := Tryz.func177.trans (congrArg some (by kernel_rfl))
  f317 := Tryz.func219.trans (congrArg some (by kernel_rfl))
  f318 := Tryz.func221.trans (congrArg some (by kernel_rfl))
  f319 := Tryz.func222.trans (congrArg some (by kernel_rfl))
  f320 := Tryz.func223.trans (congrArg some (by kernel_rfl))
  f337 := Tryz.func261.trans (congrArg some (by kernel_rfl))
  f338 := Tryz.func262.trans (congrArg some (by kernel_rfl))
  t0 := Tryz.underlying0
  a0 := Tryz.isAgg0
  z0 := Tryz.sizeOf0
  v0 := Tryz.zeroValue0
  t2 := Tryz.underlying2
  a2 := Tryz.isAgg2
  z2 := Tryz.sizeOf2
  v2 := Tryz.zeroValue2
  t3 := Tryz.underlying3
  a3 := Tryz.isAgg3
  z3 := Tryz.sizeOf3
  v3 := Tryz.zeroValue3
  t4 := Tryz.underlying4
  a4 := Tryz.isAgg4
  z4 := Tryz.sizeOf4
  v4 := Tryz.zeroValue4
  t5 := Tryz.underlying5
  a5 := Tryz.isAgg5
  z5 := Tryz.sizeOf5
  v5 := Tryz.zeroValue5
  t9 := Tryz.underlying9
  a9 := Tryz.isAgg9
  z9 := Tryz.sizeOf9
  v9 := Tryz.zeroValue9
  t20 := Tryz.underlying20
  a20 := Tryz.isAgg20
  z20 := Tryz.sizeOf20
  v20 := Tryz.zeroValue20
  t37 := Tryz.underlying79
  a37 := Tryz.isAgg79
  z37 := Tryz.sizeOf79
  v37 := Tryz.zeroValue79
  t46 := Tryz.underlying135
  a46 := Tryz.isAgg135
  z46 := Tryz.sizeOf135
  v46 := Tryz.zeroValue135
  t51 := Tryz.underlying191
  a51 := Tryz.isAgg191
  z51 := Tryz.sizeOf191
  v51 := Tryz.zeroValue191
  t53 := Tryz.underlying209
  a53 := Tryz.isAgg209
  z53 := Tryz.sizeOf209
  v53 := Tryz.zeroValue209
  t171 := Tryz.underlying220
  a171 := Tryz.isAgg220
  z171 := Tryz.sizeOf220
  v171 := Tryz.zeroValue220
  t173 := Tryz.underlying223
  a173 := Tryz.isAgg223
  z173 := Tryz.sizeOf223
  v173 := Tryz.zeroValue223
  t212 := Tryz.underlying248
  a212 := Tryz.isAgg248
  z212 := Tryz.sizeOf248
  v212 := Tryz.zeroValue248
  t213 := Tryz.underlying249
  a213 := Tryz.isAgg249
  z213 := Tryz.sizeOf249
  t232 := Tryz.underlying276
  a232 := Tryz.isAgg276
  z232 := Tryz.sizeOf276
  v232 := Tryz.zeroValue276
  t233 := Tryz.underlying337
  a233 := Tryz.isAgg337
  z233 := Tryz.sizeOf337
  v233 := Tryz.zeroValue337
  g17 := by kernel_rfl
  g18 := by kernel_rfl
  g19 := by kernel_rfl
  i0 := by kernel_rfl
  i2 := by kernel_rfl
  i3 := by kernel_rfl
  i4 := by kernel_rfl
  i5 := by kernel_rfl
  i9 := by kernel_rfl
  i20 := by kernel_rfl
  i37 := by kernel_rfl
  i46 := by kernel_rfl
  i51 := by kernel_rfl
  i53 := by kernel_rfl
  i171 := by kernel_rfl
  i173 := by kernel_rfl
  i212 := by kernel_rfl
  i232 := by kernel_rfl
  i233 := by kernel_rfl
  m17 := by kernel_rfl
  m18 := by kernel_rfl
  m19 := by kernel_rfl }
open Go.RowKit Go.Sort Go.Lib in
theorem Tryz.strconv_Itoa (n : Int) (h0 : -9223372036854775808 ≤ n) (h1 : n ≤ 9223372036854775807) (w : World) (htab : Lib.TabIs Tryz.prog w "internal/strconv.uint64pow10" .u64 Lib.pow10Tab) :
    Calls Tryz.prog 31 #[.int .i64 n] w λe w' => e = .returned (.string ⟨(Lib.itoa n).toArray⟩) ∧ ∃ k os, w' = grow (w.drewN k) os := Any.strconv_Itoa Tryz.laysM171 n h0 h1 w htab
def Tryz.lays145_ren : Go.Shelf.Ren := ⟨λ| 145 => 42 | 220 => 92 | 219 => 138 | 217 => 173 | 225 => 186 | 224 => 187 | 267 => 188 | 266 => 218 | 314 => 230 | n => n, λ| 9 => 9 | 4 => 4 | 59 => 102 | 3 => 3 | 5 => 5 | 46 => 135 | 146 => 255 | 51 => 191 | n => n, λ| 1 => 3 | n => n⟩
theorem Tryz.lays145 : Go.Proofs.Lays.n145 Tryz.prog Tryz.lays145_ren := {
  mixed := by kernel_rfl
  f145 := Tryz.func42.trans (congrArg some (by kernel_rfl))
  f217 := Tryz.func173.trans (congrArg some (by kernel_rfl))
  f219 := Tryz.func138.trans (congrArg some (by kernel_rfl))
  f220 := Tryz.func92.trans (congrArg some (by kernel_rfl))
  f224 := Tryz.func187.trans (congrArg some (by kernel_rfl))
  f225 := Tryz.func186.trans (congrArg some (by kernel_rfl))
  f266 := Tryz.func218.trans (congrArg some (by kernel_rfl))
  f267 := Tryz.func188.trans (congrArg some (by kernel_rfl))
  f314 := Tryz.func230.trans (congrArg some (by kernel_rfl))
  t3 := Tryz.underlying3
  a3 := Tryz.isAgg3
  z3 := Tryz.sizeOf3
  v3 := Tryz.zeroValue3
  t4 := Tryz.underlying4
  a4 := Tryz.isAgg4
  z4 := Tryz.sizeOf4
  v4 := Tryz.zeroValue4
  t5 := Tryz.underlying5
  a5 := Tryz.isAgg5
  z5 := Tryz.sizeOf5
  v5 := Tryz.zeroValue5
  t9 := Tryz.underlying9
  a9 := Tryz.isAgg9
  z9 := Tryz.sizeOf9
  v9 := Tryz.zeroValue9
  t46 := Tryz.underlying135
  a46 := Tryz.isAgg135
  z46 := Tryz.sizeOf135
  v46 := Tryz.zeroValue135
  t51 := Tryz.underlying191
  a51 := Tryz.isAgg191
  z51 := Tryz.sizeOf191
  v51 := Tryz.zeroValue191
  t59 := Tryz.underlying102
  a59 := Tryz.isAgg102
  z59 := Tryz.sizeOf102
  v59 := Tryz.zeroValue102
  t146 := Tryz.underlying255
  a146 := Tryz.isAgg255
  z146 := Tryz.sizeOf255
  v146 := Tryz.zeroValue255
  g1 := by kernel_rfl }
open Go.RowKit Go.Lib in
theorem Tryz.strings_Cut (s sep : ByteArray) (m : Int) (w : World) (hs : s.size < 4294967281) (hm : w.cell? ⟨3, 0, none⟩ = some (.int .i64 m)) :
    Calls Tryz.prog 42 #[.string s, .string sep] w λe w' => e = .returned (.tuple #[.string ⟨(Lib.cut s.data.toList sep.data.toList).1.toArray⟩, .string ⟨(Lib.cut s.data.toList sep.data.toList).2.1.toArray⟩, .bool (Lib.cut s.data.toList sep.data.toList).2.2]) ∧ ∃ n, w' = w.drewN n := Any.strings_Cut Tryz.lays145 s sep m w hs hm
end
end Go.Proofs
namespace Go.Proofs.YtjdabjmjldiodaaGreatDoor
set_option maxRecDepth 100000
open Go.Value (int slice string bool pointer agg tuple func float iface nilIface)
open Go.IntKind (i64 u8 u64 i32 u32 u16 i8 i16)
open Go.FloatKind (f64)
open Go.Ending (returned panicked)
end Go.Proofs.YtjdabjmjldiodaaGreatDoor
