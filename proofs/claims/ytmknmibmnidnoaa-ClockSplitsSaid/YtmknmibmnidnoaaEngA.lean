/- The engine, part A: definitions. A symbolic evaluator of the model's code over owned blocks; it computes what is left to prove. -/
import Derived.Orders
import Derived.KernelRfl
set_option linter.all false
namespace Go.Proofs.Ytmknmibmnidnoaa
open Go

/-! ## tables: sorted lists of numbered things -/
def ins {α : Type} (k : Nat) (v : α) : List (Nat × α) → List (Nat × α)
  | [] => [(k, v)]
  | (j, u) :: r => bif Nat.beq k j then (k, v) :: r else bif Nat.blt k j then (k, v) :: (j, u) :: r else (j, u) :: ins k v r
def lkp {α : Type} : List (Nat × α) → Nat → α → α
  | [], _, d => d
  | (k, v) :: r, i, d => bif Nat.beq i k then v else lkp r i d

/-! ## slots -/
abbrev Tm := Nat → Value
def Tm.at (T : Tm) (i : Nat) : Value := T i
def upd (T : Tm) (k : Nat) (v : Value) : Tm := fun i => bif Nat.beq i k then v else T i
def ent (args : List Value) : Tm := fun i => args.getD i undef
def over (js : Nat → Value) (l : List (Nat × Value)) : Tm := fun i => lkp l i (js i)
def ev (T : Tm) : Operand → Value
  | .tmp t => T.at t
  | .const v => v
  | .global g => .pointer (some ⟨g, 0, none⟩)
  | .func f => .func (.func f) #[] #[]
def putT (N : Nat) (dst : Option Tmp) (v : Value) (T : Tm) : Tm :=
  match dst with
  | some d => bif Nat.blt d N then upd T d v else T
  | none => T

/-! ## memory -/
abbrev Imm := Nat → Option Obj
abbrev Hp := Nat → Option Obj
abbrev Own := Nat → Prop
def hp (w : World) : Hp := fun b => w.heap[b]?
def Imm.le (I J : Imm) : Prop := ∀ b o, I b = some o → J b = some o
def Cons (I : Imm) (h : Hp) : Prop := ∀ b o, I b = some o → h b = some o
structure Pred where
  holds : Imm → Hp → Own → Prop
  loc : ∀ I h h' o, (∀ b, o b → h b = h' b) → holds I h o → holds I h' o
  mono : ∀ I J h o, Imm.le I J → holds I h o → holds J h o
inductive Atom where
  | emp
  | cells (b : Nat) (vs : List Value) (t : TypeId)
  | obj (b : Nat) (o : Obj)
  | pred (p : Pred)
def Atom.holds (I : Imm) (h : Hp) (o : Own) : Atom → Prop
  | .emp => True
  | .cells b vs t => o b ∧ h b = some (.cells ⟨vs⟩ t (0, 0))
  | .obj b ob => o b ∧ h b = some ob
  | .pred p => p.holds I h o
abbrev St := List (Nat × Atom)
def gt (S : St) (j : Nat) : Atom := lkp S j .emp
def num : Nat → List Atom → St
  | _, [] => []
  | n, A :: r => (n, A) :: num (n + 1) r
def ofL (l : List Atom) : St := num 0 l
def updS (S : St) (k : Nat) (A : Atom) : St := ins k A S
def clr : List Nat → St → St
  | [], S => S
  | j :: r, S => clr r (updS S j .emp)
def plc : List Nat → List Atom → St → St
  | j :: r, A :: l, S => plc r l (updS S j A)
  | _, _, S => S
structure Sat (I : Imm) (S : St) (w : World) : Prop where
  own : ∃ f : Nat → Own, (∀ j, (gt S j).holds I (hp w) (f j)) ∧ (∀ i j b, f i b → f j b → i = j) ∧ (∀ j b, f j b → I b = none ∧ b < w.heap.size)
  imm : Cons I (hp w)
def Env (w w' : World) : Prop := w'.os = w.os ∧ w'.output = w.output
structure Ent (S S' : St) : Prop where
  h : ∀ I w, Sat I S w → ∃ J, Imm.le I J ∧ Sat J S' w
/-- The rest of a state, behind one name. -/
def rest (S : St) (touch : List Nat) : Pred where
  holds I h o := ∃ f : Nat → Own, (∀ j, (gt (clr touch S) j).holds I h (f j)) ∧ (∀ i j b, f i b → f j b → i = j) ∧ (∀ j b, f j b → o b)
  loc := by
    rintro I h h' o he ⟨f, h1, h2, h3⟩
    refine ⟨f, fun j => ?_, h2, h3⟩
    have := h1 j
    revert this
    generalize gt (clr touch S) j = A
    intro hA
    cases A with
    | emp => trivial
    | cells b vs t => exact ⟨hA.1, (he _ (h3 _ _ hA.1)) ▸ hA.2⟩
    | obj b ob => exact ⟨hA.1, (he _ (h3 _ _ hA.1)) ▸ hA.2⟩
    | pred p => exact p.loc I h h' _ (fun b hb => he _ (h3 _ _ hb)) hA
  mono := by
    rintro I J h o hle ⟨f, h1, h2, h3⟩
    refine ⟨f, fun j => ?_, h2, h3⟩
    have := h1 j
    revert this
    generalize gt (clr touch S) j = A
    intro hA
    cases A with
    | emp => trivial
    | cells b vs t => exact hA
    | obj b ob => exact hA
    | pred p => exact p.mono I J h _ hle hA

/-- The cell at an address. -/
def cellOf (h : Hp) (a : Addr) : Option Value :=
  match h a.block with
  | some (.cells c _ _) => if a.spot.isSome then none else c[a.off]?
  | _ => none
/-- What an atom says of a cell. -/
structure Look (A : Atom) (a : Addr) (v : Value) : Prop where
  h : ∀ I h o, Cons I h → A.holds I h o → cellOf h a = some v

/-! ## hints -/
inductive Shape where
  | int (k : IntKind) | str | bool | slice | ptr | float (k : FloatKind) | any | is (v : Value)
def Shape.ex (K : Value → Prop) : Shape → Prop
  | .int k => ∃ n, K (.int k n)
  | .str => ∃ s, K (.string s)
  | .bool => ∃ b, K (.bool b)
  | .slice => ∃ a l c, K (.slice a l c)
  | .ptr => ∃ a, K (.pointer a)
  | .float k => ∃ b, K (.float k b)
  | .any => ∃ v, K v
  | .is v => K v
inductive LH where
  | atj (j : Nat)
  | ex (j : Nat) (s : Shape)
  | nw (j : Nat)
structure Same (a : Addr) (b : Nat) : Prop where
  blk : a.block = b
  spot : a.spot = none

/-- What holds of an atom holds of a greater one. -/
def Sub (A B : Atom) : Prop := ∀ I h o, B.holds I h o → ∃ o', A.holds I h o'
/-- A contract: what is handed over, what is read of the rest, what comes back. -/
structure Con where
  X : Type
  Y : Type
  args : X → List Value
  pre : X → List Atom
  cond : X → Prop
  rdc : X → Atom → Prop
  rel : X → Y → Prop
  val : X → Y → Ending
  post : X → Y → List Atom
  rmono : ∀ x A B, Sub A B → rdc x A → rdc x B := by intros; trivial
/-- A quiet contract: an operation's value out of its operands alone. -/
structure QCon where
  X : Type
  args : X → List Value
  cond : X → Prop
  val : X → Value
/-- How each operation is gone through. -/
inductive OH where
  | d
  | ask (r i : Nat)
  | q (hs : List LH)
  | w (hs : List LH)
  | n (j : Nat)
  | c (C : Con) (touch out : List Nat)
  | o (C : Con) (touch out : List Nat)
  | qo (C : QCon)
  | pk
  | ck
  | ix
  | si
  | sl
  | slu
structure Inv where
  X : Type
  P : X → Prop
  lv : X → List (Nat × Value)
  st : X → List Atom
  mu : X → Nat
def hk : List (Nat × Nat × OH) → Nat → Nat → OH
  | [], _, _ => .d
  | (a, b, h) :: t, r, i => bif Nat.beq a r && Nat.beq b i then h else hk t r i
structure Hints where
  op : Nat → Nat → OH
  inv : Nat → Option Inv
  cut : Nat → Option Inv
  ord : Nat → List Nat

/-! ## running a step -/
section
variable (P : Program)
def rd {α : Type} (S : St) : Sem α → List LH → (α → Prop) → Prop
  | .pure a, _, k => k a
  | .program f, hs, k => rd S (f P) hs k
  | .mark _ s, hs, k => rd S s hs k
  | .load _ a f, .atj j :: hs, k =>
    match gt S j with
    | .cells b vs _ => Same a b ∧ (match vs[a.off]? with | some v => rd S (f v) hs k | none => False)
    | _ => False
  | .load _ a f, .ex j s :: hs, k => s.ex fun v => Look (gt S j) a v ∧ rd S (f v) hs k
  | _, _, _ => False
def pureF {α : Type} : Sem α → Option α
  | .pure a => some a
  | .program f => pureF (f P)
  | .mark _ s => pureF s
  | _ => none
def alF {α : Type} : Sem α → Option (Obj × (Nat → Sem α))
  | .new o f => some (o, f)
  | .program f => alF (f P)
  | .mark _ s => alF s
  | _ => none
def mkAtom (b : Nat) : Obj → Atom
  | .cells c t (0, 0) => .cells b c.toList t
  | o => .obj b o
def oneCell : Value → Bool
  | .agg _ | .tuple _ => false
  | _ => true
def wr {α : Type} : Sem α → List LH → St → (α → St → Prop) → (Value → St → Prop) → Prop
  | .pure a, _, S, k, _ => k a S
  | .program f, hs, S, k, kp => wr (f P) hs S k kp
  | .mark _ s, hs, S, k, kp => wr s hs S k kp
  | .load _ a f, .atj j :: hs, S, k, kp =>
    match gt S j with
    | .cells b vs _ => Same a b ∧ (match vs[a.off]? with | some v => wr (f v) hs S k kp | none => False)
    | _ => False
  | .load _ a f, .ex j s :: hs, S, k, kp => s.ex fun v => Look (gt S j) a v ∧ wr (f v) hs S k kp
  | .store _ a v s, .atj j :: hs, S, k, kp =>
    match gt S j with
    | .cells b vs t => Same a b ∧ (match vs[a.off]? with | some _ => (match oneCell v with | true => wr s hs (updS S j (.cells b (vs.set a.off v) t)) k kp | false => False) | none => False)
    | _ => False
  | .store _ a v s, .ex j _ :: hs, S, k, kp =>
    match gt S j with
    | .cells b vs t => (Same a b ∧ a.off < vs.length) ∧ (match oneCell v with | true => wr s hs (updS S j (.cells b (vs.set a.off v) t)) k kp | false => False)
    | _ => False
  | .new o s, .nw j :: hs, S, k, kp => ∀ b, wr (s b) hs (updS S j (mkAtom b o)) k kp
  | .shape r f, .atj j :: hs, S, k, kp =>
    match gt S j with
    | .cells b vs t => r = b ∧ wr (f (some (t, vs.length))) hs S k kp
    | _ => False
  | .frozen a f, .atj j :: hs, S, k, kp =>
    match gt S j with
    | .cells b _ _ => Same a b ∧ wr (f false) hs S k kp
    | _ => False
  | .getObj r f, .atj j :: hs, S, k, kp =>
    match gt S j with
    | .obj _ (.cells ..) => False
    | .obj b o => r = b ∧ wr (f o) hs S k kp
    | _ => False
  | .setObj r o' s, .atj j :: hs, S, k, kp =>
    match gt S j with
    | .obj _ (.cells ..) => False
    | .obj b _ => r = b ∧ wr s hs (updS S j (.obj b o')) k kp
    | _ => False
  | .halt (.panic v), _, S, _, kp => kp v S
  | _, _, _, _, _ => False

/-! ## contracts -/
structure FnOk (f : FuncId) (C : Con) : Prop where
  h : ∀ x F I w, C.cond x → C.rdc x F → Sat I (ofL (C.pre x ++ [F])) w →
    Calls P f ⟨C.args x⟩ w fun e w' => ∃ y J, C.rel x y ∧ e = C.val x y ∧ Imm.le I J ∧ Sat J (ofL (C.post x y ++ [F])) w' ∧ Env w w'
/-- A contract of an operation. -/
structure OpOk (o : Oper) (C : Con) : Prop where
  h : ∀ x F I w (ρ : Operand → Value), o.op.operands.toList.map ρ = C.args x → C.cond x → C.rdc x F → Sat I (ofL (C.pre x ++ [F])) w →
    ∃ y J w' v, C.rel x y ∧ (execOp ρ o).run P w = .ok (.value v) w' ∧ C.val x y = .returned v ∧ Imm.le I J ∧ Sat J (ofL (C.post x y ++ [F])) w' ∧ Env w w'
structure QOpOk (o : Oper) (C : QCon) : Prop where
  h : ∀ x w (ρ : Operand → Value), o.op.operands.toList.map ρ = C.args x → C.cond x → (execOp ρ o).run P w = .ok (.value (C.val x)) w
def useC (C : Con) (args : List Value) (touch out : List Nat) (S : St) (k : Value → St → Prop) (kp : List PanicEntry → St → Prop) : Prop :=
  ∃ x, args = C.args x ∧ touch.map (gt S) = C.pre x ∧ C.cond x ∧ C.rdc x (.pred (rest S touch)) ∧ ∀ y, C.rel x y →
    match C.val x y with
    | .returned v => k v (plc out (C.post x y) (clr touch S))
    | .panicked ch => kp ch (plc out (C.post x y) (clr touch S))
    | .outgrown => False
def nodupB : List Nat → Bool
  | [] => true
  | j :: r => (r.all fun i => !Nat.beq i j) && nodupB r

/-! ## operations, regions -/
def Br (t : Bool) (A B : Prop) : Prop := match t with | true => A | false => B
def inR (k : IntKind) (n : Int) : Prop :=
  match k with
  | .i8 => -128 ≤ n ∧ n ≤ 127
  | .i16 => -32768 ≤ n ∧ n ≤ 32767
  | .i32 => -2147483648 ≤ n ∧ n ≤ 2147483647
  | .i64 => -9223372036854775808 ≤ n ∧ n ≤ 9223372036854775807
  | .u8 => 0 ≤ n ∧ n ≤ 255
  | .u16 => 0 ≤ n ∧ n ≤ 65535
  | .u32 => 0 ≤ n ∧ n ≤ 4294967295
  | .u64 => 0 ≤ n ∧ n ≤ 18446744073709551615
def ckV (op : Op) (T : Tm) (k : Value → Prop) : Prop :=
  match op with
  | .binOp .add _ x y _ => match ev T x, ev T y with | .int i a, .int j b => (match decide (i = j) with | true => inR i (a + b) ∧ k (.int i (a + b)) | false => False) | .string s, .string t => s.size + t.size ≤ 9223372036854775807 ∧ k (.string (s ++ t)) | _, _ => False
  | .binOp .sub _ x y _ => match ev T x, ev T y with | .int i a, .int j b => (match decide (i = j) with | true => inR i (a - b) ∧ k (.int i (a - b)) | false => False) | _, _ => False
  | .binOp .mul _ x y _ => match ev T x, ev T y with | .int i a, .int j b => (match decide (i = j) with | true => inR i (a * b) ∧ k (.int i (a * b)) | false => False) | _, _ => False
  | .binOp .quo _ x y _ => match ev T x, ev T y with | .int i a, .int j b => (match decide (i = j) with | true => b ≠ 0 ∧ inR i (a.tdiv b) ∧ k (.int i (a.tdiv b)) | false => False) | _, _ => False
  | .binOp .rem _ x y _ => match ev T x, ev T y with | .int i a, .int j b => (match decide (i = j) with | true => b ≠ 0 ∧ k (.int i (a.tmod b)) | false => False) | _, _ => False
  | .convert s d x => match P.underlying s, P.underlying d, ev T x with | some _, some (.int i), .int _ a => inR i a ∧ k (.int i a) | _, _, _ => False
  | _ => False
def ixV (op : Op) (T : Tm) (k : Value → Prop) : Prop :=
  match op with
  | .indexAddr t x i =>
    match P.underlying t with
    | some (.slice e) =>
      match P.info? e, ev T x, ev T i with
      | some inf, .slice (some ⟨b, o, none⟩) len _, .int _ n => (0 ≤ n ∧ n < len) ∧ k (.pointer (some ⟨b, o + n.toNat * inf.size, none⟩))
      | _, _, _ => False
    | some (.array m e) =>
      match P.info? e, ev T x, ev T i with
      | some inf, .pointer (some ⟨b, o, none⟩), .int _ n => (0 ≤ n ∧ n < m) ∧ k (.pointer (some ⟨b, o + n.toNat * inf.size, none⟩))
      | _, _, _ => False
    | _ => False
  | _ => False
def byteAt (s : ByteArray) (n : Int) : Int := (s.data.toList.getD n.toNat 0).toNat
def siV (op : Op) (T : Tm) (k : Value → Prop) : Prop :=
  match op with
  | .index t x i =>
    match P.underlying t, ev T x, ev T i with
    | some .string, .string s, .int _ n => (0 ≤ n ∧ n < s.size) ∧ k (.int .u8 (byteAt s n))
    | _, _, _ => False
  | _ => False
def optI (T : Tm) (d : Int) : Option Operand → Option Int
  | none => some d
  | some x => match ev T x with | .int _ n => some n | _ => none
def slV (op : Op) (T : Tm) (k : Value → Prop) : Prop :=
  match op with
  | .slice t x lo hi none =>
    match P.underlying t with
    | some .string =>
      match ev T x with
      | .string s => match optI T 0 lo, optI T s.size hi with
        | some l, some h => (0 ≤ l ∧ l ≤ h ∧ h ≤ s.size) ∧ k (.string (s.extract l.toNat h.toNat))
        | _, _ => False
      | _ => False
    | some (.slice e) =>
      match P.info? e, ev T x with
      | some inf, .slice (some ⟨b, o, none⟩) len cap => match optI T 0 lo, optI T len hi with
        | some l, some h => (0 ≤ l ∧ l ≤ h ∧ h ≤ cap ∧ l < cap) ∧ k (.slice (some ⟨b, o + l.toNat * inf.size, none⟩) (h.toNat - l.toNat) (cap - l.toNat))
        | _, _ => False
      | _, _ => False
    | _ => False
  | _ => False
/-- An operation whose hint is still wanted (for the workbench alone). -/
structure Ask (r i : Nat) (o : Oper) (s : Sem Next) (S : St) : Prop where
  no : False
def signed : IntKind → Bool
  | .i8 | .i16 | .i32 | .i64 => true
  | _ => false
def dflt (o : Oper) : OH :=
  match o.op with
  | .pick .. => .pk
  | .indexAddr .. => .ix
  | .index t _ _ => match P.underlying t with | some .string => .si | _ => .q []
  | .slice .. => .sl
  | .binOp b t _ _ _ => match b with
    | .add | .sub | .mul | .quo => match P.underlying t with | some (.int k) => (match signed k with | true => .ck | false => .q []) | some .string => .ck | _ => .q []
    | .rem => match P.underlying t with | some (.int _) => .ck | _ => .q []
    | _ => .q []
  | .convert s d _ => match P.underlying s, P.underlying d with
    | some (.int _), some (.int _) => .ck
    | _, _ => .q []
  | _ => .q []
/-- A slice of a slice whose value isn't wanted. -/
def sluV (op : Op) (T : Tm) (k : Value → Prop) : Prop :=
  match op with
  | .slice t x lo hi none =>
    match P.underlying t, ev T x with
    | some (.slice e), .slice (some _) len cap =>
      match P.info? e, optI T 0 lo, optI T len hi with
      | some _, some l, some h => (0 ≤ l ∧ l ≤ h ∧ h ≤ cap) ∧ ∀ v, k v
      | _, _, _ => False
    | _, _ => False
  | _ => False
variable (N : Nat)
/-- A quiet operation: its value. -/
def qRun (o : Oper) (h : OH) (T : Tm) (S : St) (k : Value → Prop) : Prop :=
  match h with
  | .q hs => rd P S (execOp (ev T) o) hs fun
    | .value v => k v
    | .skip => k undef
    | _ => False
  | .qo C => QOpOk P o C ∧ ∃ x, o.op.operands.toList.map (ev T) = C.args x ∧ C.cond x ∧ k (C.val x)
  | .pk => match o.op with
    | .pick c a b => match ev T c with
      | .bool t => Br t (k (ev T a)) (k (ev T b))
      | _ => False
    | _ => False
  | .ck => ckV P o.op T k
  | .ix => ixV P o.op T k
  | .si => siV P o.op T k
  | .sl => slV P o.op T k
  | _ => False
def res (o : Oper) (h : OH) : OH := match h with | .d => dflt P o | h => h
def opRun (o : Oper) (h : OH) (T : Tm) (S : St) (k : Tm → St → Prop) (kp : List PanicEntry → Tm → St → Prop) : Prop :=
  match res P o h with
  | .ask r i => Ask r i o (execOp (ev T) o) S
  | .w hs => wr P (execOp (ev T) o) hs S (fun x S' => match x with
    | .value v => k (putT N o.dst v T) S'
    | .skip => k (putT N o.dst undef T) S'
    | _ => False) (fun v S' => kp [{ v, recovered := false }] T S')
  | .n j => match alF P (execOp (ev T) o) with
    | some (ob, f) => ∀ b, match pureF P (f b) with
      | some (.value v) => k (putT N o.dst v T) (updS S j (mkAtom b ob))
      | _ => False
    | none => False
  | .c C touch out => rd P S (execOp (ev T) o) [] fun
    | .enter f args => FnOk P f C ∧ (nodupB touch && nodupB out) = true ∧ useC C args.toList touch out S (fun v S' => k (putT N o.dst v T) S') (fun ch S' => kp ch T S')
    | _ => False
  | .o C touch out => OpOk P o C ∧ (nodupB touch && nodupB out) = true ∧ useC C (o.op.operands.toList.map (ev T)) touch out S (fun v S' => k (putT N o.dst v T) S') (fun ch S' => kp ch T S')
  | .slu => sluV P o.op T fun v => k (putT N o.dst v T) S
  | h' => qRun P o h' T S fun v => k (putT N o.dst v T) S
/-- One operation, under its guard. 'ops': the whole region. -/
def opStep (ops : Array Oper) (o : Oper) (h : OH) (T : Tm) (S : St) (k : Tm → St → Prop) (kp : List PanicEntry → Tm → St → Prop) : Prop :=
  match o.guard with
  | none => opRun P N o h T S k kp
  | some (j, want) =>
    match (ops[j]?).bind (·.dst) with
    | none => False
    | some d => match T.at d with
      | .bool t => Br t
          (match want with | true => opRun P N o h (putT N (some d) (.bool true) T) S k kp | false => k (putT N o.dst undef (putT N (some d) (.bool true) T)) S)
          (match want with | false => opRun P N o h (putT N (some d) (.bool false) T) S k kp | true => k (putT N o.dst undef (putT N (some d) (.bool false) T)) S)
      | _ => False
def rg (H : Nat → OH) (ops : Array Oper) : List Nat → Tm → St → (Tm → St → Prop) → (List PanicEntry → Tm → St → Prop) → Prop
  | [], T, S, k, _ => k T S
  | i :: rest, T, S, k, kp =>
    match ops[i]? with
    | none => False
    | some o => opStep P N ops o (H i) T S (fun T S => rg H ops rest T S k kp) kp

/-! ## code -/
def Eqs (T : Tm) : List (Nat × Value) → Prop
  | [] => True
  | (i, v) :: r => T.at i = v ∧ Eqs T r
def firstRegion : Code → Option Nat
  | .region id _ _ => some id
  | .seq a b => match firstRegion a with | some i => some i | none => firstRegion b
  | .block _ c => firstRegion c
  | .loop c => firstRegion c
  | .cond _ a b => match firstRegion a with | some i => some i | none => firstRegion b
  | _ => none
/-! ## a region that draws its order -/
def ldIds : List LH → List Nat
  | [] => []
  | .atj j :: r => j :: ldIds r
  | .ex j _ :: r => j :: ldIds r
  | .nw j :: r => j :: ldIds r
inductive Cls where
  | quiet (reads : List Nat)
  | new (j : Nat)
  | eff (ids : List Nat)
def cls (h : OH) : Cls :=
  match h with
  | .q hs => .quiet (ldIds hs)
  | .w hs => .eff (ldIds hs)
  | .n j => .new j
  | .c _ touch out => .eff (touch ++ out)
  | .o _ touch out => .eff (touch ++ out)
  | .slu => .eff []
  | _ => .quiet []
def disj (a b : List Nat) : Bool := a.all fun i => b.all fun j => !Nat.beq i j
/-- May 'i' be taken ahead of 'r', which stands before it? -/
def passes (r i : Cls) : Bool :=
  match i, r with
  | .quiet _, .quiet _ => true
  | .quiet a, .new j => disj a [j]
  | .quiet a, .eff b => disj a b
  | .new j, .quiet a => disj a [j]
  | .new j, .new k => !Nat.beq j k
  | .new j, .eff b => disj [j] b
  | .eff b, .quiet a => disj a b
  | .eff _, _ => false
def mask (o : Oper) (acc : List Nat) : Nat := o.after.toList.foldr (fun e s => bif Region.binds .any e then (2 ^ e.on ||| acc.getD e.on 0) ||| s else s) 0
def masks : List Oper → List Nat → List Nat
  | [], acc => acc
  | o :: r, acc => masks r (acc ++ [mask o acc])
def isSel (o : Oper) : Bool := match o.op with | .select .. => true | _ => false
def opAt (ops : Array Oper) (i : Nat) : Oper := ops.getD i default
def readsOf : Cls → List Nat
  | .quiet r => r
  | .new _ => []
  | .eff _ => []
def idsOf : Cls → List Nat
  | .quiet _ => []
  | .new j => [j]
  | .eff l => l
/-- All the numbers that an operation names. -/
def allIds (c : Cls) : List Nat := readsOf c ++ idsOf c
def unseen (r i : Cls) : Bool := match i with | .new j => disj [j] (allIds r) | _ => true
def pairOk (H : Nat → OH) (ops : Array Oper) (ms : List Nat) (r i : Nat) : Bool :=
  !(ms.getD r 0).testBit i && unseen (cls (res P (opAt ops r) (H r))) (cls (res P (opAt ops i) (H i))) &&
  ((ms.getD i 0).testBit r || (Oper.apart ops (opAt ops i) (opAt ops r) && passes (cls (res P (opAt ops r) (H r))) (cls (res P (opAt ops i) (H i)))))
def pairsOk (H : Nat → OH) (ops : Array Oper) (ms : List Nat) : List Nat → Bool
  | [] => true
  | r :: l => (l.all fun i => pairOk P H ops ms r i) && pairsOk H ops ms l
def orderOk (H : Nat → OH) (ops : Array Oper) (l : List Nat) : Bool :=
  (ops.toList.all fun o => !isSel o && o.after.toList.all fun e => !Region.binds .any e || Nat.blt e.on ops.size) && nodupB l && Nat.beq l.length ops.size &&
  (l.all fun i => Nat.blt i ops.size && !((masks ops.toList []).getD i 0).testBit i) && pairsOk P H ops (masks ops.toList []) l
/-- Do all that stand behind it hang on it? -/
def sealed (ms : List Nat) (i : Nat) (l : List Nat) : Bool := l.all fun k => (ms.getD k 0).testBit i
def newIds (H : Nat → OH) (ops : Array Oper) (l : List Nat) : List Nat := l.filterMap fun i => match cls (res P (opAt ops i) (H i)) with | .new j => some j | _ => none
def freshB (S : St) (ids : List Nat) : Bool := ids.all fun j => match gt S j with | .emp => true | _ => false
def rgD (H : Nat → OH) (ops : Array Oper) (ms : List Nat) : List Nat → Tm → St → (Tm → St → Prop) → (List PanicEntry → Tm → St → Prop) → Prop
  | [], T, S, k, _ => k T S
  | i :: rest, T, S, k, kp => opStep P N ops (opAt ops i) (H i) T S (fun T S => rgD H ops ms rest T S k kp)
      (match sealed ms i rest with | true => fun ch _ S => ∀ T, kp ch T S | false => fun _ _ _ => False)
def E (H : Hints) : Code → Nat → Tm → St → (Exit → Tm → St → Prop) → Prop
  | .skip, _, T, S, K => K .normal T S
  | .seq a b, key, T, S, K =>
    match (firstRegion b).bind H.cut with
    | none => E H a key T S fun e T S => match e with | .normal => E H b key T S K | e => K e T S
    | some I =>
      (E H a key T S fun e T S => match e with | .normal => ∃ x, I.P x ∧ Eqs T (I.lv x) ∧ Ent S (ofL (I.st x)) | e => K e T S) ∧
      ∀ x js, I.P x → E H b key (over js (I.lv x)) (ofL (I.st x)) K
  | .cond c a b, key, T, S, K =>
    match ev T c with
    | .bool t => Br t (E H a key T S K) (E H b key T S K)
    | _ => False
  | .block id c, _, T, S, K => E H c id T S fun e T S => match e with | .exit i => (bif Nat.beq i id then K .normal T S else K (.exit i) T S) | e => K e T S
  | .loop c, key, T, S, K =>
    match H.inv key with
    | none => False
    | some I => (∃ x, I.P x ∧ Eqs T (I.lv x) ∧ Ent S (ofL (I.st x))) ∧
      ∀ x js, I.P x → E H c key (over js (I.lv x)) (ofL (I.st x)) fun e T S => match e with
        | .normal => ∃ y, I.P y ∧ Eqs T (I.lv y) ∧ Ent S (ofL (I.st y)) ∧ I.mu y < I.mu x
        | e => K e T S
  | .exit id, _, T, S, K => K (.exit id) T S
  | .ret, _, T, S, K => K .ret T S
  | .region id ops draw, _, T, S, K =>
    match draw with
    | false => rg P N (H.op id) ops (List.range ops.size) T S (fun T S => K .normal T S) (fun ch T S => K (.panic ch) T S)
    | true =>
      let l := match H.ord id with | [] => List.range ops.size | l => l
      (orderOk P (H.op id) ops l && freshB S (newIds P (H.op id) ops l)) = true ∧
      rgD P N (H.op id) ops (masks ops.toList []) l T S (fun T S => K .normal T S) (fun ch T S => K (.panic ch) T S)
  | _, _, _, _, _ => False
/-- A function's results. -/
def resSem (fn : Func) (T : Tm) : Sem Value := do
  let vs ← fn.results.mapM fun
    | .tmp t => pure (T.at t)
    | .cell a t => do loadVar t (← asAddr (T.at a))
  pure (if h : vs.size = 1 then vs[0] else .tuple vs)
/-- What is left to prove of a whole body: 'R' of its ending and of the state behind it. -/
def Body (fn : Func) (H : Hints) (rh : List LH) (c : Code) (T : Tm) (S : St) (R : Ending → St → Prop) : Prop :=
  E P N H c 0 T S fun e T S => match e with
    | .normal | .ret => rd P S (resSem fn T) rh fun v => R (.returned v) S
    | .panic ch => R (.panicked ch) S
    | _ => False
/-- An operation of a function, by its region and its place there. -/
def regOps (r : Nat) : Code → Option (Array Oper)
  | .region id ops _ => bif Nat.beq id r then some ops else none
  | .seq a b => match regOps r a with | some x => some x | none => regOps r b
  | .cond _ a b => match regOps r a with | some x => some x | none => regOps r b
  | .block _ c => regOps r c
  | .loop c => regOps r c
  | .scope c => regOps r c
  | _ => none
def opIn (fn : Func) (r i : Nat) : Oper := ((regOps r (fn.body.getD .skip)).getD #[]).getD i default
/-- The end of a function that keeps its contract. -/
structure Done (C : Con) (x : C.X) (F : Atom) (e : Ending) (S : St) : Prop where
  h : ∃ y, C.rel x y ∧ e = C.val x y ∧ Ent S (ofL (C.post x y ++ [F]))
end
end Go.Proofs.Ytmknmibmnidnoaa
