/- A part of the proof that pennantlaw23.BasicBack answers true at every input. -/
import Derived.Orders
import Derived.KernelRfl
import Derived.Laws.Sem
import Derived.Laws.Entries
import Derived.ChangeKeysEq
import Derived.Deep.LoopGhost
import Derived.Scope
import Derived.Laws.Append
import Derived.Laws.AppendOwn
import Derived.Laws.CopyRow
import Derived.Laws.MakeOwn
import Derived.Laws.Externs
import Derived.Lib.Overlaps
import Derived.ProofKit
import Derived.Below
import Derived.Test.YtjdabjmjldiodaaGreatDoorRows
import Derived.OpenShut
import Derived.LaidLaws
import Derived.Handed
import Derived.DataElems
import Derived.Lib.DecodeN
import Derived.Lib.IndexMore
import Derived.Test.YtjdabjmjldiodaaGreatDoorChecked
import Derived.Shelf.Unicode.ValidAny
import Derived.Shelf.Strings.Builder1
import Derived.Shelf.Strings.Builder2
import Derived.Shelf.Strings.OnBuilder
import Derived.Shelf.Small.Utf8
import Derived.Shelf.Small.Strs
import Derived.Shelf.Strings.BuilderF
import Derived.Shelf.Strings.BuilderK
import Derived.Shelf.Strings.BuilderRune
import Derived.Shelf.Utf8.RuneCount
import Derived.Shelf.Strconv.Itoa0
import Derived.Shelf.Strconv.Itoa1
import Derived.Shelf.LaysM
import Derived.Shelf.Strconv.Itoa2
import Derived.Shelf.Strconv.Itoa3
import Derived.Shelf.Strings.Search1
import Derived.Shelf.Strings.Search2
import Derived.Shelf.Strings.Search3
import Derived.Shelf.Strings.Cut
import Derived.Shelf.Strings.Count
import Derived.Shelf.Strings.Shaped
import Derived.Shelf.Strings.Prefix
import Derived.Shelf.Strings.Split
import Derived.Shelf.Strings.Replace
import Derived.Shelf.Strings.SplitShaped
import Derived.Shelf.Unicode.Decode
import Derived.Shelf.Strings.Runes
import Derived.Shelf.Strings.RuneCount
import Derived.Shelf.Strings.IndexAny
import Derived.Shelf.Strings.AsciiSet
import Derived.Shelf.Strings.IndexAnyAll
import Derived.Shelf.Bits.Mul64
import Derived.Shelf.Unicode.DecodeSlow
import Derived.Shelf.Unicode.DecodeAny
import Derived.Laws.BytesString
import Derived.Lib.AppendStr
import Derived.Lib.UnsafeStr
import Derived.Lib.Builder
import Derived.Laws.Runes
import Derived.Lib.MapLaws
import Derived.Lib.QuoteLoop
import Derived.Lib.OthersKept
import Derived.Lib.Split
import Derived.Lib.ValidLaws
import Derived.Maps.Keyed
import Derived.Laws.FloatArith
import Derived.Laws.IdiomStrings
import Derived.LoopN
import Derived.Test.YtjdabjmjldiodaaGreatDoorProg
import Derived.Recover
import Derived.Shelf.Strings.MapAny
import Derived.WalkKit
import Derived.WalkMore
import GoSem.PinnedTables
import Derived.RowKitTokens
import Derived.Deep.DeepHandedRow
import Derived.MakeChecks
import Derived.JoinedCond
import Derived.WideShapes
import Derived.Lay
import Derived.SevenTiedAt
import Derived.ChangeMaps5
import Derived.LaidSub
import Derived.Test.YtjdabjmjldiodaaGreatDoorTie
import Derived.Test.YtjdabjmjldiodaaGreatDoorCards
set_option linter.all false
namespace Go.Proofs.YtjdabjmjldiodaaGreatDoor
set_option maxRecDepth 100000
open Go.Value (int slice string bool pointer agg tuple func float iface nilIface)
open Go.IntKind (i64 u8 u64 i32 u32 u16 i8 i16)
open Go.FloatKind (f64)
open Go.Ending (returned panicked)
section
def fo_dt := @decide_eq_true
def fo_df := @decide_eq_false
def fo_od1 := @of_decide_eq_true
def fo_od0 := @of_decide_eq_false
def fo_ct {α : Type} := @cond_true α
def fo_cf {α : Type} := @cond_false α
def fo_tn := @Int.toNat_natCast
def fo_gd {α : Type} := @List.getD_eq_getElem?_getD α
def fo_la {α : Type} := @List.length_append α
def fo_ge {α : Type} := @List.getElem?_eq_getElem α
def fo_gm {α β : Type} := @List.getElem?_map α β
def fo_an {α : Type} := @List.append_nil α
def fo_aa {α : Type} := @List.append_assoc α
def fo_gl {α : Type} := @List.getElem?_append_left α
def fo_gr2 {α : Type} := @List.getElem?_append_right α
def fo_se := @ByteArray.size_extract
def fo_sa := @ByteArray.size_append
def fo_nr := @Nat.le_refl
def fo_ir := @Int.le_refl
def fo_zl := @Nat.zero_le
def fo_lt {a b c : Nat} : a ≤ b → b ≤ c → a ≤ c := Nat.le_trans
def fo_ls := @Nat.lt_succ_self
def fo_baf := @Bool.and_false
def fo_fba := @Bool.false_and
def fo_bot := @Bool.or_true
def fo_bae := @Bool.and_eq_true
def fo_bf {α : Type} [BEq α] [LawfulBEq α] {a b : α} : (a == b) = false ↔ a ≠ b := beq_eq_false_iff_ne
def fo_gs {α : Type} {i : Nat} {a : α} {l : List α} : l[i]? = some a ↔ ∃ h : i < l.length, l[i] = a := List.getElem?_eq_some_iff
def fo_mc {α : Type} := @List.mem_cons_self α
def fo_mm {α : Type} := @List.mem_cons_of_mem α
def fo_mg {α : Type} := @List.mem_of_getElem? α
def fo_gn {α : Type} := @List.getElem?_eq_none α
def fo_agd {α : Type} := @Array.getD_eq_getD_getElem? α
def fo_pp := @Nat.pow_le_pow_right
def fo_ml {α : Type} := @List.mem_append_left α
def fo_za := @Nat.zero_add
def fo_lc {α : Type} := @List.length_cons α
def fo_l1 {α : Type} := @List.length_singleton α
def fo_tv : True := .intro
theorem fo_om {p : Prop} (h : p := by omega) : p := h
theorem fo_od {p : Prop} (h : p := by dsimp only; omega) : p := h
theorem fo_oo {p : Prop} (h : p := by exact ⟨by omega, by omega⟩) : p := h
theorem fo_oe {p : Prop} (h : p := by exact ⟨by dsimp only; omega, by dsimp only; omega⟩) : p := h
theorem fo_kz {p : Prop} (h : p := by kernel_rfl) : p := h
theorem fo_sp {p : Prop} (h : p := by simp) : p := h
theorem fo_rr {p : Prop} (h : p := by exact ⟨rfl, rfl⟩) : p := h
theorem fo_sl {p : Prop} (h : p := by repeat (first | exact trivial | refine ⟨rfl, ?_⟩)) : p := h
open Go
def ins {α : Type} (k : Nat) (v : α) : List (Nat × α) → List (Nat × α)
  | [] => [(k, v)]
  | (j, u) :: r => bif Nat.beq k j then (k, v) :: r else bif Nat.blt k j then (k, v) :: (j, u) :: r else (j, u) :: ins k v r
def lkp {α : Type} : List (Nat × α) → Nat → α → α
  | [], _, d => d
  | (k, v) :: r, i, d => bif Nat.beq i k then v else lkp r i d
abbrev Tm := Nat → Value
def Tm.at (T : Tm) (i : Nat) : Value := T i
def upd (T : Tm) (k : Nat) (v : Value) : Tm := λi => bif Nat.beq i k then v else T i
def ent (args : List Value) : Tm := λi => args.getD i undef
def over (js : Nat → Value) (l : List (Nat × Value)) : Tm := λi => lkp l i (js i)
def ev (T : Tm) : Operand → Value
  | .tmp t => T.at t
  | .const v => v
  | .global g => .pointer (some ⟨g, 0, none⟩)
  | .func f => .func (.func f) #[] #[]
def putT (N : Nat) (dst : Option Tmp) (v : Value) (T : Tm) : Tm :=
  match dst with
  | some d => bif Nat.blt d N then upd T d v else T
  | none => T
abbrev Imm := Nat → Option Obj
abbrev Hp := Nat → Option Obj
abbrev Own := Nat → Prop
def hp (w : World) : Hp := λb => w.heap[b]?
def Imm.le (I J : Imm) : Prop := ∀ b o, I b = some o → J b = some o
def Cons (I : Imm) (h : Hp) : Prop := ∀ b o, I b = some o → h b = some o
structure Pred where
  holds : Imm → Hp → Own → Prop
  loc : ∀ I h h' o, (∀ b, o b → h b = h' b) → holds I h o → holds I h' o
  mono : ∀ I J h o, Imm.le I J → holds I h o → holds J h o
inductive Atom where
  | emp
  | cells (b : Nat) (vs : List Value) (t : TypeId)
  | obj (b : Nat) (o : Obj)
  | pred (p : Pred)
def Atom.holds (I : Imm) (h : Hp) (o : Own) : Atom → Prop
  | .emp => True
  | .cells b vs t => o b ∧ h b = some (.cells ⟨vs⟩ t (0, 0))
  | .obj b ob => o b ∧ h b = some ob
  | .pred p => p.holds I h o
abbrev St := List (Nat × Atom)
def gt (S : St) (j : Nat) : Atom := lkp S j .emp
def num : Nat → List Atom → St
  | _, [] => []
  | n, A :: r => (n, A) :: num (n + 1) r
def ofL (l : List Atom) : St := num 0 l
def updS (S : St) (k : Nat) (A : Atom) : St := ins k A S
def clr : List Nat → St → St
  | [], S => S
  | j :: r, S => clr r (updS S j .emp)
def plcR0 : List Nat → List Atom → St → St
  | j :: r, A :: l, S => plcR0 r l (updS S j A)
  | _, _, S => S
structure Sat (I : Imm) (S : St) (w : World) : Prop where
  own : ∃ f : Nat → Own, (∀ j, (gt S j).holds I (hp w) (f j)) ∧ (∀ i j b, f i b → f j b → i = j) ∧ (∀ j b, f j b → I b = none ∧ b < w.heap.size)
  imm : Cons I (hp w)
def Env (w w' : World) : Prop := w'.os = w.os ∧ w'.output = w.output
structure Ent (S S' : St) : Prop where
  h : ∀ I w, Sat I S w → ∃ J, Imm.le I J ∧ Sat J S' w
def rest (S : St) (touch : List Nat) : Pred where
  holds I h o := ∃ f : Nat → Own, (∀ j, (gt (clr touch S) j).holds I h (f j)) ∧ (∀ i j b, f i b → f j b → i = j) ∧ (∀ j b, f j b → o b)
  loc := by
    rintro I h h' o he ⟨f, h1, h2, h3⟩
    refine ⟨f, λj => ?_, h2, h3⟩
    have := h1 j
    revert this
    generalize gt (clr touch S) j = A
    intro hA
    cases A with
    | emp => trivial
    | cells b vs t => exact ⟨hA.1, (he _ (h3 _ _ hA.1)) ▸ hA.2⟩
    | obj b ob => exact ⟨hA.1, (he _ (h3 _ _ hA.1)) ▸ hA.2⟩
    | pred p => exact p.loc I h h' _ (λb hb => he _ (h3 _ _ hb)) hA
  mono := by
    rintro I J h o hle ⟨f, h1, h2, h3⟩
    refine ⟨f, λj => ?_, h2, h3⟩
    have := h1 j
    revert this
    generalize gt (clr touch S) j = A
    intro hA
    cases A with
    | emp => trivial
    | cells b vs t => exact hA
    | obj b ob => exact hA
    | pred p => exact p.mono I J h _ hle hA
def cellOf (h : Hp) (a : Addr) : Option Value :=
  match h a.block with
  | some (.cells c _ _) => if a.spot.isSome then none else c[a.off]?
  | _ => none
structure Look (A : Atom) (a : Addr) (v : Value) : Prop where
  h : ∀ I h o, Cons I h → A.holds I h o → cellOf h a = some v
inductive Shape where
  | int (k : IntKind) | str | bool | slice | ptr | float (k : FloatKind) | any | is (v : Value)
def Shape.ex (K : Value → Prop) : Shape → Prop
  | .int k => ∃ n, K (.int k n)
  | .str => ∃ s, K (.string s)
  | .bool => ∃ b, K (.bool b)
  | .slice => ∃ a l c, K (.slice a l c)
  | .ptr => ∃ a, K (.pointer a)
  | .float k => ∃ b, K (.float k b)
  | .any => ∃ v, K v
  | .is v => K v
inductive LH where
  | aq (j : Nat)
  | ex (j : Nat) (s : Shape)
  | nw (j : Nat)
structure Same (a : Addr) (b : Nat) : Prop where
  blk : a.block = b
  spot : a.spot = none
def Sub (A B : Atom) : Prop := ∀ I h o, B.holds I h o → ∃ o', A.holds I h o'
structure Split (Y : Type) where
  A : Type
  B : Type
  f : A → Y
  g : B → Y
  cov : ∀ y, (∃ a, y = f a) ∨ (∃ b, y = g b)
structure Con where
  X : Type
  Y : Type := Unit
  args : X → List Value
  pre : X → List Atom := λ_ => []
  cond : X → Prop := λ_ => True
  rdc : X → Atom → Prop := λ_ _ => True
  rel : X → Y → Prop := λ_ _ => True
  val : X → Y → Ending
  post : X → Y → List Atom := λ_ _ => []
  rmono : ∀ x A B, Sub A B → rdc x A → rdc x B := by intros; first | trivial | (rename_i hs h; exact h.sub hs) | (rename_i hs h; exact ⟨h.1.sub hs, h.2.sub hs⟩)
  sum : Option (Split Y) := none
structure QCon where
  X : Type
  args : X → List Value
  cond : X → Prop
  val : X → Value
inductive OH where
  | d
  | ask (r i : Nat)
  | q (hs : List LH)
  | w (hs : List LH)
  | n (j : Nat)
  | c (C : Con) (touch out : List Nat)
  | o (C : Con) (touch out : List Nat)
  | qo (C : QCon)
  | pk
  | ck
  | ix
  | si
  | sl
  | slu
structure Inv where
  X : Type
  P : X → Prop
  lv : X → List (Nat × Value)
  st : X → List Atom
  mu : X → Nat
  gh : Option ((T : Type) × (X → T)) := none
def hk : List (Nat × Nat × OH) → Nat → Nat → OH
  | [], _, _ => .d
  | (a, b, h) :: t, r, i => bif Nat.beq a r && Nat.beq b i then h else hk t r i
structure Hints where
  op : Nat → Nat → OH
  inv : Nat → Option Inv
  cut : Nat → Option Inv
  ord : Nat → List Nat
section
variable (P : Program)
def rd {α : Type} (S : St) : Sem α → List LH → (α → Prop) → Prop
  | .pure a, _, k => k a
  | .program f, hs, k => rd S (f P) hs k
  | .mark _ s, hs, k => rd S s hs k
  | .load _ a f, .aq j :: hs, k =>
    match gt S j with
    | .cells b vs _ => Same a b ∧ (match vs[a.off]? with | some v => rd S (f v) hs k | none => False)
    | _ => False
  | .load _ a f, .ex j s :: hs, k => s.ex λv => Look (gt S j) a v ∧ rd S (f v) hs k
  | _, _, _ => False
def pureF {α : Type} : Sem α → Option α
  | .pure a => some a
  | .program f => pureF (f P)
  | .mark _ s => pureF s
  | _ => none
def alF {α : Type} : Sem α → Option (Obj × (Nat → Sem α))
  | .new o f => some (o, f)
  | .program f => alF (f P)
  | .mark _ s => alF s
  | _ => none
def mkAtom (b : Nat) : Obj → Atom
  | .cells c t (0, 0) => .cells b c.toList t
  | o => .obj b o
def oneCell : Value → Bool
  | .agg _ | .tuple _ => false
  | _ => true
def wr {α : Type} : Sem α → List LH → St → (α → St → Prop) → (Value → St → Prop) → Prop
  | .pure a, _, S, k, _ => k a S
  | .program f, hs, S, k, kp => wr (f P) hs S k kp
  | .mark _ s, hs, S, k, kp => wr s hs S k kp
  | .load _ a f, .aq j :: hs, S, k, kp =>
    match gt S j with
    | .cells b vs _ => Same a b ∧ (match vs[a.off]? with | some v => wr (f v) hs S k kp | none => False)
    | _ => False
  | .load _ a f, .ex j s :: hs, S, k, kp => s.ex λv => Look (gt S j) a v ∧ wr (f v) hs S k kp
  | .store _ a v s, .aq j :: hs, S, k, kp =>
    match gt S j with
    | .cells b vs t => Same a b ∧ (match vs[a.off]? with | some _ => (match oneCell v with | true => wr s hs (updS S j (.cells b (vs.set a.off v) t)) k kp | false => False) | none => False)
    | _ => False
  | .store _ a v s, .ex j _ :: hs, S, k, kp =>
    match gt S j with
    | .cells b vs t => (Same a b ∧ a.off < vs.length) ∧ (match oneCell v with | true => wr s hs (updS S j (.cells b (vs.set a.off v) t)) k kp | false => False)
    | _ => False
  | .new o s, .nw j :: hs, S, k, kp => ∀ b, wr (s b) hs (updS S j (mkAtom b o)) k kp
  | .shape r f, .aq j :: hs, S, k, kp =>
    match gt S j with
    | .cells b vs t => r = b ∧ wr (f (some (t, vs.length))) hs S k kp
    | _ => False
  | .frozen a f, .aq j :: hs, S, k, kp =>
    match gt S j with
    | .cells b _ _ => Same a b ∧ wr (f false) hs S k kp
    | _ => False
  | .getObj r f, .aq j :: hs, S, k, kp =>
    match gt S j with
    | .obj _ (.cells ..) => False
    | .obj b o => r = b ∧ wr (f o) hs S k kp
    | _ => False
  | .setObj r o' s, .aq j :: hs, S, k, kp =>
    match gt S j with
    | .obj _ (.cells ..) => False
    | .obj b _ => r = b ∧ wr s hs (updS S j (.obj b o')) k kp
    | _ => False
  | .halt (.panic v), _, S, _, kp => kp v S
  | _, _, _, _, _ => False
structure FnOk (f : FuncId) (C : Con) : Prop where
  h : ∀ x F I w, C.cond x → C.rdc x F → Sat I (ofL (C.pre x ++ [F])) w →
    Calls P f ⟨C.args x⟩ w λe w' => ∃ y J, C.rel x y ∧ e = C.val x y ∧ Imm.le I J ∧ Sat J (ofL (C.post x y ++ [F])) w' ∧ Env w w'
structure OpOk (o : Oper) (C : Con) : Prop where
  h : ∀ x F I w (ρ : Operand → Value), o.op.operands.toList.map ρ = C.args x → C.cond x → C.rdc x F → Sat I (ofL (C.pre x ++ [F])) w →
    ∃ y J w' v, C.rel x y ∧ ((execOp ρ o).run P w = .ok (.value v) w' ∨ ((execOp ρ o).run P w = .ok .skip w' ∧ v = undef)) ∧ C.val x y = .returned v ∧ Imm.le I J ∧ Sat J (ofL (C.post x y ++ [F])) w' ∧ Env w w'
structure QOpOk (o : Oper) (C : QCon) : Prop where
  h : ∀ x w (ρ : Operand → Value), o.op.operands.toList.map ρ = C.args x → C.cond x → (execOp ρ o).run P w = .ok (.value (C.val x)) w
def allY (C : Con) (x : C.X) (Φ : C.Y → Prop) : Prop :=
  match C.sum with
  | none => ∀ y, C.rel x y → Φ y
  | some ⟨_, _, f, g, _⟩ => (∀ a, C.rel x (f a) → Φ (f a)) ∧ (∀ b, C.rel x (g b) → Φ (g b))
def useC (C : Con) (args : List Value) (touch out : List Nat) (S : St) (k : Value → St → Prop) (kp : List PanicEntry → St → Prop) : Prop :=
  ∃ x, args = C.args x ∧ touch.map (gt S) = C.pre x ∧ C.cond x ∧ C.rdc x (.pred (rest S touch)) ∧ allY C x λy =>
    match C.val x y with
    | .returned v => k v (plcR0 out (C.post x y) (clr touch S))
    | .panicked ch => kp ch (plcR0 out (C.post x y) (clr touch S))
    | .outgrown => False
def nodupB : List Nat → Bool
  | [] => true
  | j :: r => (r.all λi => !Nat.beq i j) && nodupB r
def Br (t : Bool) (A B : Prop) : Prop := match t with | true => A | false => B
def inR (k : IntKind) (n : Int) : Prop :=
  match k with
  | .i8 => -128 ≤ n ∧ n ≤ 127
  | .i16 => -32768 ≤ n ∧ n ≤ 32767
  | .i32 => -2147483648 ≤ n ∧ n ≤ 2147483647
  | .i64 => -9223372036854775808 ≤ n ∧ n ≤ 9223372036854775807
  | .u8 => 0 ≤ n ∧ n ≤ 255
  | .u16 => 0 ≤ n ∧ n ≤ 65535
  | .u32 => 0 ≤ n ∧ n ≤ 4294967295
  | .u64 => 0 ≤ n ∧ n ≤ 18446744073709551615
def ckV (op : Op) (T : Tm) (k : Value → Prop) : Prop :=
  match op with
  | .binOp .add _ x y _ => match ev T x, ev T y with | .int i a, .int j b => (match decide (i = j) with | true => inR i (a + b) ∧ k (.int i (a + b)) | false => False) | .string s, .string t => s.size + t.size ≤ 9223372036854775807 ∧ k (.string (s ++ t)) | _, _ => False
  | .binOp .sub _ x y _ => match ev T x, ev T y with | .int i a, .int j b => (match decide (i = j) with | true => inR i (a - b) ∧ k (.int i (a - b)) | false => False) | _, _ => False
  | .binOp .mul _ x y _ => match ev T x, ev T y with | .int i a, .int j b => (match decide (i = j) with | true => inR i (a * b) ∧ k (.int i (a * b)) | false => False) | _, _ => False
  | .binOp .quo _ x y _ => match ev T x, ev T y with | .int i a, .int j b => (match decide (i = j) with | true => b ≠ 0 ∧ inR i (a.tdiv b) ∧ k (.int i (a.tdiv b)) | false => False) | _, _ => False
  | .binOp .rem _ x y _ => match ev T x, ev T y with | .int i a, .int j b => (match decide (i = j) with | true => b ≠ 0 ∧ k (.int i (a.tmod b)) | false => False) | _, _ => False
  | .convert s d x => match P.underlying s, P.underlying d, ev T x with | some _, some (.int i), .int _ a => inR i a ∧ k (.int i a) | _, _, _ => False
  | _ => False
def ixV (op : Op) (T : Tm) (k : Value → Prop) : Prop :=
  match op with
  | .indexAddr t x i =>
    match P.underlying t with
    | some (.slice e) =>
      match P.info? e, ev T x, ev T i with
      | some inf, .slice (some ⟨b, o, none⟩) len _, .int _ n => (0 ≤ n ∧ n < len) ∧ k (.pointer (some ⟨b, o + n.toNat * inf.size, none⟩))
      | _, _, _ => False
    | some (.array m e) =>
      match P.info? e, ev T x, ev T i with
      | some inf, .pointer (some ⟨b, o, none⟩), .int _ n => (0 ≤ n ∧ n < m) ∧ k (.pointer (some ⟨b, o + n.toNat * inf.size, none⟩))
      | _, _, _ => False
    | _ => False
  | _ => False
def byteAt (s : ByteArray) (n : Int) : Int := (s.data.toList.getD n.toNat 0).toNat
def siV (op : Op) (T : Tm) (k : Value → Prop) : Prop :=
  match op with
  | .index t x i =>
    match P.underlying t, ev T x, ev T i with
    | some .string, .string s, .int _ n => (0 ≤ n ∧ n < s.size) ∧ k (.int .u8 (byteAt s n))
    | _, _, _ => False
  | _ => False
def optI (T : Tm) (d : Int) : Option Operand → Option Int
  | none => some d
  | some x => match ev T x with | .int _ n => some n | _ => none
def slV (op : Op) (T : Tm) (k : Value → Prop) : Prop :=
  match op with
  | .slice t x lo hi none =>
    match P.underlying t with
    | some .string =>
      match ev T x with
      | .string s => match optI T 0 lo, optI T s.size hi with
        | some l, some h => (0 ≤ l ∧ l ≤ h ∧ h ≤ s.size) ∧ k (.string (s.extract l.toNat h.toNat))
        | _, _ => False
      | _ => False
    | some (.slice e) =>
      match P.info? e, ev T x with
      | some inf, .slice (some ⟨b, o, none⟩) len cap => match optI T 0 lo, optI T len hi with
        | some l, some h => (0 ≤ l ∧ l ≤ h ∧ h ≤ cap ∧ l < cap) ∧ k (.slice (some ⟨b, o + l.toNat * inf.size, none⟩) (h.toNat - l.toNat) (cap - l.toNat))
        | _, _ => False
      | _, _ => False
    | _ => False
  | _ => False
structure Ask (r i : Nat) (o : Oper) (s : Sem Next) (S : St) : Prop where
  no : False
def signed : IntKind → Bool
  | .i8 | .i16 | .i32 | .i64 => true
  | _ => false
def dflt (o : Oper) : OH :=
  match o.op with
  | .pick .. => .pk
  | .indexAddr .. => .ix
  | .index t _ _ => match P.underlying t with | some .string => .si | _ => .q []
  | .slice .. => .sl
  | .binOp b t _ _ _ => match b with
    | .add | .sub | .mul | .quo => match P.underlying t with | some (.int k) => (match signed k with | true => .ck | false => .q []) | some .string => .ck | _ => .q []
    | .rem => match P.underlying t with | some (.int _) => .ck | _ => .q []
    | _ => .q []
  | .convert s d _ => match P.underlying s, P.underlying d with
    | some (.int _), some (.int _) => .ck
    | _, _ => .q []
  | _ => .q []
def sluV (op : Op) (T : Tm) (k : Value → Prop) : Prop :=
  match op with
  | .slice t x lo hi none =>
    match P.underlying t, ev T x with
    | some (.slice e), .slice (some _) len cap =>
      match P.info? e, optI T 0 lo, optI T len hi with
      | some _, some l, some h => (0 ≤ l ∧ l ≤ h ∧ h ≤ cap) ∧ ∀ v, k v
      | _, _, _ => False
    | _, _ => False
  | _ => False
variable (N : Nat)
def qRun (o : Oper) (h : OH) (T : Tm) (S : St) (k : Value → Prop) : Prop :=
  match h with
  | .q hs => rd P S (execOp (ev T) o) hs fun
    | .value v => k v
    | .skip => k undef
    | _ => False
  | .qo C => QOpOk P o C ∧ ∃ x, o.op.operands.toList.map (ev T) = C.args x ∧ C.cond x ∧ k (C.val x)
  | .pk => match o.op with
    | .pick c a b => match ev T c with
      | .bool t => Br t (k (ev T a)) (k (ev T b))
      | _ => False
    | _ => False
  | .ck => ckV P o.op T k
  | .ix => ixV P o.op T k
  | .si => siV P o.op T k
  | .sl => slV P o.op T k
  | _ => False
def res (o : Oper) (h : OH) : OH := match h with | .d => dflt P o | h => h
def opRun (o : Oper) (h : OH) (T : Tm) (S : St) (k : Tm → St → Prop) (kp : List PanicEntry → Tm → St → Prop) : Prop :=
  match res P o h with
  | .ask r i => Ask r i o (execOp (ev T) o) S
  | .w hs => wr P (execOp (ev T) o) hs S (λx S' => match x with
    | .value v => k (putT N o.dst v T) S'
    | .skip => k (putT N o.dst undef T) S'
    | _ => False) (λv S' => kp [{ v, recovered := false }] T S')
  | .n j => match alF P (execOp (ev T) o) with
    | some (ob, f) => ∀ b, match pureF P (f b) with
      | some (.value v) => k (putT N o.dst v T) (updS S j (mkAtom b ob))
      | _ => False
    | none => False
  | .c C touch out => rd P S (execOp (ev T) o) [] fun
    | .enter f args => FnOk P f C ∧ (nodupB touch && nodupB out) = true ∧ useC C args.toList touch out S (λv S' => k (putT N o.dst v T) S') (λch S' => kp ch T S')
    | _ => False
  | .o C touch out => OpOk P o C ∧ (nodupB touch && nodupB out) = true ∧ useC C (o.op.operands.toList.map (ev T)) touch out S (λv S' => k (putT N o.dst v T) S') (λch S' => kp ch T S')
  | .slu => sluV P o.op T λv => k (putT N o.dst v T) S
  | h' => qRun P o h' T S λv => k (putT N o.dst v T) S
def opStep (ops : Array Oper) (o : Oper) (h : OH) (T : Tm) (S : St) (k : Tm → St → Prop) (kp : List PanicEntry → Tm → St → Prop) : Prop :=
  match o.guard with
  | none => opRun P N o h T S k kp
  | some (j, want) =>
    match (ops[j]?).bind (·.dst) with
    | none => False
    | some d => match T.at d with
      | .bool t => Br t
          (match want with | true => opRun P N o h (putT N (some d) (.bool true) T) S k kp | false => k (putT N o.dst undef (putT N (some d) (.bool true) T)) S)
          (match want with | false => opRun P N o h (putT N (some d) (.bool false) T) S k kp | true => k (putT N o.dst undef (putT N (some d) (.bool false) T)) S)
      | .tuple _ => k (putT N o.dst undef T) S
      | _ => False
def rg (H : Nat → OH) (ops : Array Oper) : List Nat → Tm → St → (Tm → St → Prop) → (List PanicEntry → Tm → St → Prop) → Prop
  | [], T, S, k, _ => k T S
  | i :: rest, T, S, k, kp =>
    match ops[i]? with
    | none => False
    | some o => opStep P N ops o (H i) T S (λT S => rg H ops rest T S k kp) kp
def Eqs (T : Tm) : List (Nat × Value) → Prop
  | [] => True
  | (i, v) :: r => T.at i = v ∧ Eqs T r
def firstRegion : Code → Option Nat
  | .region id _ _ => some id
  | .seq a b => match firstRegion a with | some i => some i | none => firstRegion b
  | .block _ c => firstRegion c
  | .loop c => firstRegion c
  | .scope c => firstRegion c
  | .cond _ a b => match firstRegion a with | some i => some i | none => firstRegion b
  | _ => none
def ldIds : List LH → List Nat
  | [] => []
  | .aq j :: r => j :: ldIds r
  | .ex j _ :: r => j :: ldIds r
  | .nw j :: r => j :: ldIds r
inductive Cls where
  | quiet (reads : List Nat)
  | new (j : Nat)
  | eff (ids : List Nat)
def cls (h : OH) : Cls :=
  match h with
  | .q hs => .quiet (ldIds hs)
  | .w hs => .eff (ldIds hs)
  | .n j => .new j
  | .c _ touch out => .eff (touch ++ out)
  | .o _ touch out => .eff (touch ++ out)
  | .slu => .eff []
  | _ => .quiet []
def disj (a b : List Nat) : Bool := a.all λi => b.all λj => !Nat.beq i j
def passes (r i : Cls) : Bool :=
  match i, r with
  | .quiet _, .quiet _ => true
  | .quiet a, .new j => disj a [j]
  | .quiet a, .eff b => disj a b
  | .new j, .quiet a => disj a [j]
  | .new j, .new k => !Nat.beq j k
  | .new j, .eff b => disj [j] b
  | .eff b, .quiet a => disj a b
  | .eff _, _ => false
def mask (o : Oper) (acc : List Nat) : Nat := o.after.toList.foldr (λe s => bif Region.binds .any e then (2 ^ e.on ||| acc.getD e.on 0) ||| s else s) 0
def masks : List Oper → List Nat → List Nat
  | [], acc => acc
  | o :: r, acc => masks r (acc ++ [mask o acc])
def isSel (o : Oper) : Bool := match o.op with | .select .. => true | _ => false
def opAt (ops : Array Oper) (i : Nat) : Oper := ops.getD i default
def readsOf : Cls → List Nat
  | .quiet r => r
  | .new _ => []
  | .eff _ => []
def idsOf : Cls → List Nat
  | .quiet _ => []
  | .new j => [j]
  | .eff l => l
def allIds (c : Cls) : List Nat := readsOf c ++ idsOf c
def unseen (r i : Cls) : Bool := match i with | .new j => disj [j] (allIds r) | _ => true
def pairOk (H : Nat → OH) (ops : Array Oper) (ms : List Nat) (r i : Nat) : Bool :=
  !(ms.getD r 0).testBit i && unseen (cls (res P (opAt ops r) (H r))) (cls (res P (opAt ops i) (H i))) &&
  ((ms.getD i 0).testBit r || (Oper.apart ops (opAt ops i) (opAt ops r) && passes (cls (res P (opAt ops r) (H r))) (cls (res P (opAt ops i) (H i)))))
def pairsOk (H : Nat → OH) (ops : Array Oper) (ms : List Nat) : List Nat → Bool
  | [] => true
  | r :: l => (l.all λi => pairOk P H ops ms r i) && pairsOk H ops ms l
def orderOk (H : Nat → OH) (ops : Array Oper) (l : List Nat) : Bool :=
  (ops.toList.all λo => !isSel o && o.after.toList.all λe => !Region.binds .any e || Nat.blt e.on ops.size) && nodupB l && Nat.beq l.length ops.size &&
  (l.all λi => Nat.blt i ops.size && !((masks ops.toList []).getD i 0).testBit i) && pairsOk P H ops (masks ops.toList []) l
def sealed (ms : List Nat) (i : Nat) (l : List Nat) : Bool := l.all λk => (ms.getD k 0).testBit i
def newIds (H : Nat → OH) (ops : Array Oper) (l : List Nat) : List Nat := l.filterMap λi => match cls (res P (opAt ops i) (H i)) with | .new j => some j | _ => none
def freshB (S : St) (ids : List Nat) : Bool := ids.all λj => match gt S j with | .emp => true | _ => false
def rgD (H : Nat → OH) (ops : Array Oper) (ms : List Nat) : List Nat → Tm → St → (Tm → St → Prop) → (List PanicEntry → Tm → St → Prop) → Prop
  | [], T, S, k, _ => k T S
  | i :: rest, T, S, k, kp => opStep P N ops (opAt ops i) (H i) T S (λT S => rgD H ops ms rest T S k kp)
      (match sealed ms i rest with | true => λch _ S => ∀ T, kp ch T S | false => λ_ _ _ => False)
def E (H : Hints) : Code → Nat → Tm → St → (Exit → Tm → St → Prop) → Prop
  | .skip, _, T, S, K => K .normal T S
  | .seq a b, key, T, S, K =>
    match (firstRegion b).bind H.cut with
    | none => E H a key T S λe T S => match e with | .normal => E H b key T S K | e => K e T S
    | some I =>
      match I.gh with
      | none =>
        (E H a key T S λe T S => match e with | .normal => ∃ x, I.P x ∧ Eqs T (I.lv x) ∧ Ent S (ofL (I.st x)) | e => K e T S) ∧
        ∀ x js, I.P x → E H b key (over js (I.lv x)) (ofL (I.st x)) K
      | some g => ∃ n : g.1,
        (E H a key T S λe T S => match e with | .normal => ∃ x, (I.P x ∧ g.2 x = n) ∧ Eqs T (I.lv x) ∧ Ent S (ofL (I.st x)) | e => K e T S) ∧
        ∀ x js, (I.P x ∧ g.2 x = n) → E H b key (over js (I.lv x)) (ofL (I.st x)) K
  | .cond c a b, key, T, S, K =>
    match ev T c with
    | .bool t => Br t (E H a key T S K) (E H b key T S K)
    | _ => False
  | .block id c, _, T, S, K => E H c id T S λe T S => match e with | .exit i => (bif Nat.beq i id then K .normal T S else K (.exit i) T S) | e => K e T S
  | .loop c, key, T, S, K =>
    match H.inv key with
    | none => False
    | some I =>
      match I.gh with
      | none => (∃ x, I.P x ∧ Eqs T (I.lv x) ∧ Ent S (ofL (I.st x))) ∧
        ∀ x js, I.P x → E H c key (over js (I.lv x)) (ofL (I.st x)) λe T S => match e with
          | .normal => ∃ y, I.P y ∧ Eqs T (I.lv y) ∧ Ent S (ofL (I.st y)) ∧ I.mu y < I.mu x
          | e => K e T S
      | some g => ∃ n : g.1, (∃ x, (I.P x ∧ g.2 x = n) ∧ Eqs T (I.lv x) ∧ Ent S (ofL (I.st x))) ∧
        ∀ x js, (I.P x ∧ g.2 x = n) → E H c key (over js (I.lv x)) (ofL (I.st x)) λe T S => match e with
          | .normal => ∃ y, (I.P y ∧ g.2 y = n) ∧ Eqs T (I.lv y) ∧ Ent S (ofL (I.st y)) ∧ I.mu y < I.mu x
          | e => K e T S
  | .exit id, _, T, S, K => K (.exit id) T S
  | .scope c, key, T, S, K => E H c key T S λe T S => match e with | .goto _ => False | e => K e T S
  | .ret, _, T, S, K => K .ret T S
  | .region id ops draw, _, T, S, K =>
    match draw with
    | false => rg P N (H.op id) ops (List.range ops.size) T S (λT S => K .normal T S) (λch T S => K (.panic ch) T S)
    | true =>
      let l := match H.ord id with | [] => List.range ops.size | l => l
      (orderOk P (H.op id) ops l && freshB S (newIds P (H.op id) ops l)) = true ∧
      rgD P N (H.op id) ops (masks ops.toList []) l T S (λT S => K .normal T S) (λch T S => K (.panic ch) T S)
  | _, _, _, _, _ => False
def resSem (fn : Func) (T : Tm) : Sem Value := do
  let vs ← fn.results.mapM fun
    | .tmp t => pure (T.at t)
    | .cell a t => do loadVar t (← asAddr (T.at a))
  pure (if h : vs.size = 1 then vs[0] else .tuple vs)
def Body (fn : Func) (H : Hints) (rh : List LH) (c : Code) (T : Tm) (S : St) (R : Ending → St → Prop) : Prop :=
  E P N H c 0 T S λe T S => match e with
    | .normal | .ret => rd P S (resSem fn T) rh λv => R (.returned v) S
    | .panic ch => R (.panicked ch) S
    | _ => False
def regOps (r : Nat) : Code → Option (Array Oper)
  | .region id ops _ => bif Nat.beq id r then some ops else none
  | .seq a b => match regOps r a with | some x => some x | none => regOps r b
  | .cond _ a b => match regOps r a with | some x => some x | none => regOps r b
  | .block _ c => regOps r c
  | .loop c => regOps r c
  | .scope c => regOps r c
  | _ => none
def opIn (fn : Func) (r i : Nat) : Oper := ((regOps r (fn.body.getD .skip)).getD #[]).getD i default
structure Done (C : Con) (x : C.X) (F : Atom) (e : Ending) (S : St) : Prop where
  h : ∃ y, C.rel x y ∧ e = C.val x y ∧ Ent S (ofL (C.post x y ++ [F]))
end
end
section
open Go
theorem beq_ne {i j : Nat} (h : i ≠ j) : Nat.beq i j = false := by
  cases hb : Nat.beq i j with
  | false => rfl
  | true => exact absurd (Nat.eq_of_beq_eq_true hb) h
theorem blt_yes {i j : Nat} (h : i < j) : Nat.blt i j = true := by rw [Nat.blt_eq]; exact h
theorem blt_no {i j : Nat} (h : ¬ i < j) : Nat.blt i j = false := by
  cases hb : Nat.blt i j with
  | false => rfl
  | true => rw [Nat.blt_eq] at hb; exact absurd hb h
theorem bif_beq {α : Type} (i k : Nat) (u v : α) : (bif Nat.beq i k then u else v) = if i = k then u else v := by
  by_cases h : i = k
  · subst h; simp
  · simp [beq_ne h, h]
theorem lkp_ins {α : Type} (k : Nat) (v : α) (l : List (Nat × α)) (i : Nat) (d : α) : lkp (ins k v l) i d = if i = k then v else lkp l i d := by
  induction l with
  | nil => simp only [ins, lkp, bif_beq]
  | cons p r ih =>
    obtain ⟨j, u⟩ := p
    simp only [ins]
    by_cases h1 : k = j
    · subst h1
      simp only [Nat.beq_refl, fo_ct, lkp, bif_beq]
      by_cases h : i = k <;> simp [h]
    · simp only [beq_ne h1, fo_cf]
      by_cases h2 : k < j
      · simp only [blt_yes h2, fo_ct, lkp, bif_beq]
      · simp only [blt_no h2, fo_cf, lkp, ih, bif_beq]
        by_cases h : i = j
        · subst h
          have : ¬ i = k := λe => h1 e.symm
          simp [this]
        · simp [h]
theorem ins_comm {α : Type} {i j : Nat} (h : i ≠ j) (u v : α) (l : List (Nat × α)) : ins i u (ins j v l) = ins j v (ins i u l) := by
  have nb := @beq_ne
  have lt := @blt_yes
  have nl := @blt_no
  induction l with
  | nil =>
    simp only [ins]
    by_cases hlt : i < j
    · simp [nb h, nb (Ne.symm h), lt hlt, nl (show ¬ j < i by omega)]
    · simp [nb h, nb (Ne.symm h), lt (show j < i by omega), nl hlt]
  | cons p r ih =>
    obtain ⟨k, c⟩ := p
    by_cases hi : i = k
    · subst hi
      by_cases hj : j < i
      · simp [ins, nb h, nb (Ne.symm h), lt hj, nl (show ¬ i < j by omega)]
      · simp [ins, nb (Ne.symm h), nl hj]
    · by_cases hj : j = k
      · subst hj
        by_cases hi2 : i < j
        · simp [ins, nb h, nb (Ne.symm h), lt hi2, nl (show ¬ j < i by omega)]
        · simp [ins, nb h, nl hi2]
      · by_cases hi2 : i < k
        · by_cases hj2 : j < k
          · by_cases hlt : i < j
            · simp [ins, nb h, nb (Ne.symm h), nb hi, nb hj, lt hi2, lt hj2, lt hlt, nl (show ¬ j < i by omega)]
            · simp [ins, nb h, nb (Ne.symm h), nb hi, nb hj, lt hi2, lt hj2, lt (show j < i by omega), nl hlt]
          · simp [ins, nb (Ne.symm h), nb hi, nb hj, lt hi2, nl hj2, nl (show ¬ j < i by omega)]
        · by_cases hj2 : j < k
          · simp [ins, nb h, nb hi, nb hj, nl hi2, lt hj2, nl (show ¬ i < j by omega)]
          · simp [ins, nb hi, nb hj, nl hi2, nl hj2, ih]
structure Rel (N : Nat) (T : Tm) (a : Act) : Prop where
  get : ∀ i, a.tmps.getD i undef = T.at i
  size : a.tmps.size = N
theorem Tm.at_upd (T : Tm) (k i : Nat) (v : Value) : (upd T k v).at i = if i = k then v else T.at i := by
  unfold upd Tm.at
  exact bif_beq _ _ _ _
theorem Rel.eval {N : Nat} {T : Tm} {a : Act} (h : Rel N T a) : a.eval = ev T := by
  funext x
  cases x with
  | tmp t => exact h.get t
  | const v => rfl
  | global g => rfl
  | func f => rfl
theorem putT_at (N : Nat) (T : Tm) (d : Nat) (v : Value) (i : Nat) : (putT N (some d) v T).at i = if d < N ∧ i = d then v else T.at i := by
  unfold putT
  by_cases h : d < N
  · simp [blt_yes h, Tm.at_upd, h]
  · simp [blt_no h, h]
theorem Rel.put {N : Nat} {T : Tm} {a : Act} (h : Rel N T a) (dst : Option Tmp) (v : Value) : Rel N (putT N dst v T) (a.put dst v) := by
  cases dst with
  | none => exact ⟨h.get, h.size⟩
  | some d =>
    refine ⟨λi => ?_, by simpa [Act.put] using h.size⟩
    rw [putT_at]
    simp only [Act.put, fo_agd, Array.getElem?_setIfInBounds]
    have hg := h.get i
    simp only [fo_agd] at hg
    by_cases hd : d < N
    · by_cases hi : i = d
      · subst hi; simp [hd, h.size]
      · have : ¬ d = i := λe => hi e.symm
        simp [hi, this, hg]
    · by_cases hi : i = d
      · subst hi
        have h1 : ¬ i < a.tmps.size := by rw [h.size]; exact hd
        simp only [hd, false_and, if_false, if_true, h1]
        rw [← hg]
        simp [Array.getElem?_eq_none (Nat.le_of_not_lt h1)]
      · have : ¬ d = i := λe => hi e.symm
        simp [hi, this, hg]
theorem Rel.same {N : Nat} {T T' : Tm} {a : Act} (h : Rel N T a) (e : ∀ i, T'.at i = T.at i) : Rel N T' a := ⟨λi => (h.get i).trans (e i).symm, h.size⟩
theorem Rel.defers {N : Nat} {T : Tm} {a : Act} (h : Rel N T a) (ds : List Deferred) : Rel N T { a with defers := ds } := ⟨h.get, h.size⟩
@[simp] theorem put_defers (a : Act) (dst : Option Tmp) (v : Value) : (a.put dst v).defers = a.defers := by cases dst <;> rfl
theorem ent_at (vs : List Value) (i : Nat) : (ent vs).at i = vs.getD i undef := rfl
theorem rel_ent {N : Nat} (vs : List Value) (h : vs.length ≤ N) : Rel N (ent vs) { tmps := ⟨vs⟩ ++ Array.replicate (N - (⟨vs⟩ : Array Value).size) undef, defers := [] } := by
  refine ⟨λi => ?_, by simp; omega⟩
  rw [ent_at]
  simp only [fo_agd, Array.getElem?_append, fo_gd]
  by_cases hi : i < vs.length
  · simp [hi]
  · simp [hi, Array.getElem?_replicate]
    split <;> rfl
theorem over_rel {N : Nat} {T : Tm} {a : Act} (h : Rel N T a) {l : List (Nat × Value)} (he : Eqs T l) : Rel N (over T.at l) a := by
  refine h.same λi => ?_
  unfold over
  show lkp l i (T.at i) = T.at i
  induction l with
  | nil => rfl
  | cons p r ih =>
    obtain ⟨k, v⟩ := p
    simp only [Eqs] at he
    simp only [lkp]
    by_cases hk : i = k
    · subst hk; simp [he.1]
    · simp [beq_ne hk, ih he.2]
theorem Imm.le_refl (I : Imm) : Imm.le I I := λ_ _ h => h
theorem Imm.le_trans {I J K : Imm} (h : Imm.le I J) (h' : Imm.le J K) : Imm.le I K := λb o e => h' b o (h b o e)
theorem gt_upd (S : St) (k j : Nat) (A : Atom) : gt (updS S k A) j = if j = k then A else gt S j := lkp_ins _ _ _ _ _
theorem gt_num (n : Nat) (l : List Atom) (j : Nat) : gt (num n l) j = if j < n then .emp else l.getD (j - n) .emp := by
  unfold gt
  induction l generalizing n with
  | nil => simp [num, lkp]
  | cons A r ih =>
    simp only [num, lkp, ih]
    by_cases h : j = n
    · subst h; simp
    · have e : Nat.beq j n = false := beq_ne h
      simp only [e, fo_cf]
      by_cases h2 : j < n
      · simp [h2, show j < n + 1 by omega]
      · have h3 : j - n = (j - (n + 1)) + 1 := by omega
        simp [h2, show ¬ j < n + 1 by omega, h3]
theorem gt_ofL (l : List Atom) (j : Nat) : gt (ofL l) j = l.getD j .emp := by unfold ofL; rw [gt_num]; simp
theorem Env.refl (w : World) : Env w w := ⟨rfl, rfl⟩
theorem Env.trans {w v u : World} (h : Env w v) (h' : Env v u) : Env w u := ⟨h'.1.trans h.1, h'.2.trans h.2⟩
theorem Atom.local {I : Imm} {h h' : Hp} {o : Own} {A : Atom} (he : ∀ b, o b → h b = h' b) (hA : A.holds I h o) : A.holds I h' o := by
  cases A with
  | emp => trivial
  | cells b vs t => exact ⟨hA.1, (he _ hA.1) ▸ hA.2⟩
  | obj b ob => exact ⟨hA.1, (he _ hA.1) ▸ hA.2⟩
  | pred p => exact p.loc I h h' o he hA
theorem Atom.mono {I J : Imm} {h : Hp} {o : Own} {A : Atom} (hle : Imm.le I J) (hA : A.holds I h o) : A.holds J h o := by
  cases A with
  | emp => trivial
  | cells b vs t => exact hA
  | obj b ob => exact hA
  | pred p => exact p.mono I J h o hle hA
theorem cellOf_hp (w : World) (a : Addr) : cellOf (hp w) a = w.cell? a := by
  unfold cellOf hp World.cell?
  rfl
theorem Sat.look {I : Imm} {S : St} {w : World} (h : Sat I S w) {j : Nat} {a : Addr} {v : Value} (hl : Look (gt S j) a v) : w.cell? a = some v := by
  obtain ⟨f, h1, _, _⟩ := h.own
  rw [← cellOf_hp]
  exact hl.h I _ _ h.imm (h1 j)
theorem Sat.cells {I : Imm} {S : St} {w : World} (h : Sat I S w) {j b : Nat} {vs : List Value} {t : TypeId} (hj : gt S j = .cells b vs t) : w.heap[b]? = some (.cells ⟨vs⟩ t (0, 0)) := by
  obtain ⟨f, h1, _, _⟩ := h.own
  have := h1 j
  rw [hj] at this
  exact this.2
theorem Sat.obj {I : Imm} {S : St} {w : World} (h : Sat I S w) {j b : Nat} {o : Obj} (hj : gt S j = .obj b o) : w.heap[b]? = some o := by
  obtain ⟨f, h1, _, _⟩ := h.own
  have := h1 j
  rw [hj] at this
  exact this.2
theorem Sat.write {I : Imm} {S : St} {w w' : World} (h : Sat I S w) {j b : Nat} {A' : Atom} (hb : ∀ o, (gt S j).holds I (hp w) o → o b)
    (hw : ∀ c, c ≠ b → w'.heap[c]? = w.heap[c]?) (hs : w'.heap.size = w.heap.size)
    (hA : ∀ o, (gt S j).holds I (hp w) o → A'.holds I (hp w') o) : Sat I (updS S j A') w' := by
  obtain ⟨f, h1, h2, h3⟩ := h.own
  have hfb : f j b := hb _ (h1 j)
  refine ⟨⟨f, λi => ?_, h2, λi c hc => by rw [hs]; exact h3 i c hc⟩, λc o hc => ?_⟩
  · rw [gt_upd]
    by_cases hi : i = j
    · subst hi; simp only [if_true]; exact hA _ (h1 i)
    · simp only [hi, if_false]
      refine Atom.local (λc hc => ?_) (h1 i)
      by_cases e : c = b
      · subst e; exact absurd (h2 _ _ _ hc hfb) hi
      · exact (hw c e).symm
  · by_cases e : c = b
    · subst e; exact absurd hc (by rw [(h3 _ _ hfb).1]; simp)
    · show w'.heap[c]? = some o
      rw [hw c e]; exact h.imm c o hc
theorem heap_set (w : World) (a : Addr) (v : Value) (c : Nat) : (w.setCell a v).heap[c]? = if c = a.block then (w.heap[c]?).map (λ| .cells cs e fr => .cells (if a.spot.isSome then cs else cs.setIfInBounds a.off v) e fr | o => o) else w.heap[c]? := by
  simp only [World.setCell, Array.getElem?_modify]
  by_cases h : c = a.block
  · subst h; simp only [if_true]; congr 1
  · have : ¬ a.block = c := λe => h e.symm
    simp [h, this]
theorem Sat.store {I : Imm} {S : St} {w : World} (h : Sat I S w) {j b : Nat} {vs : List Value} {t : TypeId} (hj : gt S j = .cells b vs t) {a : Addr} (hs : Same a b) (v : Value) :
    Sat I (updS S j (.cells b (vs.set a.off v) t)) (w.setCell a v) := by
  have hb := h.cells hj
  obtain ⟨e1, e2⟩ := hs
  refine h.write (b := b) (λo ho => by rw [hj] at ho; exact ho.1) (λc hc => ?_) (by simp [World.setCell]) (λo ho => ?_)
  · rw [heap_set]; simp [e1, hc]
  · rw [hj] at ho
    refine ⟨ho.1, ?_⟩
    show (w.setCell a v).heap[b]? = _
    rw [heap_set]
    simp [e1, hb, e2]
theorem Sat.setObj {I : Imm} {S : St} {w : World} (h : Sat I S w) {j b : Nat} {o : Obj} (hj : gt S j = .obj b o) (o' : Obj) :
    Sat I (updS S j (.obj b o')) { w with heap := w.heap.setIfInBounds b o' } := by
  have hb := h.obj hj
  have hlt : b < w.heap.size := by
    rcases Nat.lt_or_ge b w.heap.size with h' | h'
    · exact h'
    · simp [Array.getElem?_eq_none h'] at hb
  refine h.write (b := b) (λo ho => by rw [hj] at ho; exact ho.1) (λc hc => ?_) (by simp) (λo ho => ?_)
  · have : ¬ b = c := λe => hc e.symm
    simp [Array.getElem?_setIfInBounds, this]
  · rw [hj] at ho
    refine ⟨ho.1, ?_⟩
    show (w.heap.setIfInBounds b o')[b]? = _
    simp [hlt]
theorem mkAtom_holds (I : Imm) (h : Hp) (o : Own) (b : Nat) (ob : Obj) (ho : o b) (hh : h b = some ob) : (mkAtom b ob).holds I h o := by
  unfold mkAtom
  split
  · exact ⟨ho, by simpa using hh⟩
  · exact ⟨ho, hh⟩
theorem heap_push (w : World) (ob : Obj) (c : Nat) : ({ w with heap := w.heap.push ob } : World).heap[c]? = if c = w.heap.size then some ob else w.heap[c]? := by
  show (w.heap.push ob)[c]? = _
  rw [Array.getElem?_push]
theorem Sat.new {I : Imm} {S : St} {w : World} (h : Sat I S w) (j : Nat) (ob : Obj) : Sat I (updS S j (mkAtom w.heap.size ob)) { w with heap := w.heap.push ob } := by
  obtain ⟨f, h1, h2, h3⟩ := h.own
  have hsz : ∀ i b, f i b → b ≠ w.heap.size := λi b hb e => by have := (h3 i b hb).2; omega
  have himm : I w.heap.size = none := by
    cases hI : I w.heap.size with
    | none => rfl
    | some o =>
      have := h.imm _ _ hI
      simp [hp] at this
  refine ⟨⟨λi b => if i = j then b = w.heap.size else f i b, λi => ?_, λi i' b hb hb' => ?_, λi b hb => ?_⟩, λc o hc => ?_⟩
  · rw [gt_upd]
    by_cases hi : i = j
    · subst hi
      simp only [if_true]
      exact mkAtom_holds _ _ _ _ _ rfl (by show ({ w with heap := w.heap.push ob } : World).heap[_]? = _; rw [heap_push]; simp)
    · simp only [hi, if_false]
      refine Atom.local (λc hc => ?_) (h1 i)
      show w.heap[c]? = ({ w with heap := w.heap.push ob } : World).heap[c]?
      rw [heap_push]; simp [hsz i c hc]
  · by_cases hi : i = j
    · by_cases hi' : i' = j
      · exact hi.trans hi'.symm
      · simp only [hi, hi', if_true, if_false] at hb hb'
        exact absurd hb (hsz _ _ hb')
    · by_cases hi' : i' = j
      · simp only [hi, hi', if_true, if_false] at hb hb'
        exact absurd hb' (hsz _ _ hb)
      · simp only [hi, hi', if_false] at hb hb'
        exact h2 _ _ _ hb hb'
  · by_cases hi : i = j
    · simp only [hi, if_true] at hb
      subst hb
      exact ⟨himm, by simp⟩
    · simp only [hi, if_false] at hb
      exact ⟨(h3 i b hb).1, by have := (h3 i b hb).2; simp; omega⟩
  · show ({ w with heap := w.heap.push ob } : World).heap[c]? = some o
    rw [heap_push]
    by_cases e : c = w.heap.size
    · subst e; rw [himm] at hc; cases hc
    · simp [e]; exact h.imm c o hc
theorem Sat.heap {I : Imm} {S : St} {w w' : World} (h : Sat I S w) (e : w'.heap = w.heap) : Sat I S w' := by
  have eh : hp w' = hp w := by unfold hp; rw [e]
  exact ⟨by rw [eh, e]; exact h.own, by rw [eh]; exact h.imm⟩
theorem frozen_cells {w : World} {a : Addr} {vs : List Value} {t : TypeId} (h : w.heap[a.block]? = some (.cells ⟨vs⟩ t (0, 0))) : w.frozen? a = false := by
  unfold World.frozen?
  simp [h]
theorem cell_cells {w : World} {a : Addr} {b : Nat} {vs : List Value} {t : TypeId} (hs : Same a b) (h : w.heap[b]? = some (.cells ⟨vs⟩ t (0, 0))) : w.cell? a = vs[a.off]? := by
  obtain ⟨e1, e2⟩ := hs
  unfold World.cell?
  simp [e1, h, e2]
theorem Shape.ex_some {K : Value → Prop} {s : Shape} (h : s.ex K) : ∃ v, K v := by
  cases s <;> simp only [Shape.ex] at h
  case int k => obtain ⟨n, h⟩ := h; exact ⟨_, h⟩
  case str => obtain ⟨n, h⟩ := h; exact ⟨_, h⟩
  case bool => obtain ⟨n, h⟩ := h; exact ⟨_, h⟩
  case slice => obtain ⟨a, l, c, h⟩ := h; exact ⟨_, h⟩
  case is v => exact ⟨_, h⟩
  case ptr => obtain ⟨n, h⟩ := h; exact ⟨_, h⟩
  case float k => obtain ⟨n, h⟩ := h; exact ⟨_, h⟩
  case any => exact h
section
variable {P : Program}
theorem rd_sound {α : Type} {I : Imm} {S : St} {w : World} (h : Sat I S w) : ∀ (s : Sem α) (hs : List LH) (k : α → Prop), rd P S s hs k → ∃ a, s.run P w = .ok a w ∧ k a := by
  intro s
  induction s with
  | pure a => intro hs k hk; exact ⟨a, rfl, hk⟩
  | program f ih => intro hs k hk; exact ih P hs k hk
  | mark m s ih => intro hs k hk; exact ih hs k hk
  | load m a f ih =>
    intro hs k hk
    cases hs with
    | nil => simp only [rd] at hk
    | cons x hs =>
      cases x with
      | aq j =>
        simp only [rd] at hk
        split at hk
        · rename_i b vs t hj
          obtain ⟨hsame, hk⟩ := hk
          have hc := cell_cells hsame (h.cells hj)
          split at hk
          · rename_i v hv
            obtain ⟨u, h1, h2⟩ := ih v hs k hk
            refine ⟨u, ?_, h2⟩
            simp only [Sem.run, hc, hv]
            exact h1
          · exact hk.elim
        · exact hk.elim
      | ex j sh =>
        simp only [rd] at hk
        obtain ⟨v, hl, hk⟩ := Shape.ex_some hk
        obtain ⟨u, h1, h2⟩ := ih v hs k hk
        refine ⟨u, ?_, h2⟩
        simp only [Sem.run, h.look hl]
        exact h1
      | nw j => simp only [rd] at hk
  | _ => intro hs k hk; cases hs <;> simp only [rd] at hk
inductive WrEnd {α : Type} (I : Imm) (w : World) (k : α → St → Prop) (kp : Value → St → Prop) : Result α → Prop
  | ok (a : α) (w' : World) (S' : St) (h : Sat I S' w') (e : Env w w') (hk : k a S') : WrEnd I w k kp (.ok a w')
  | panic (v : Value) (w' : World) (S' : St) (h : Sat I S' w') (e : Env w w') (hk : kp v S') : WrEnd I w k kp (.halt (.panic v) w')
theorem WrEnd.from {α : Type} {I : Imm} {w w1 : World} {k : α → St → Prop} {kp : Value → St → Prop} {r : Result α} (e : Env w w1) (h : WrEnd I w1 k kp r) : WrEnd I w k kp r := by
  cases h with
  | ok a w' S' h e' hk => exact .ok a w' S' h (e.trans e') hk
  | panic v w' S' h e' hk => exact .panic v w' S' h (e.trans e') hk
theorem wr_sound {α : Type} {I : Imm} : ∀ (s : Sem α) (hs : List LH) (S : St) (w : World) (k : α → St → Prop) (kp : Value → St → Prop), Sat I S w → wr P s hs S k kp → WrEnd I w k kp (s.run P w) := by
  intro s
  induction s with
  | pure a => intro hs S w k kp h hk; exact .ok a w S h (Env.refl w) hk
  | program f ih => intro hs S w k kp h hk; exact ih P hs S w k kp h hk
  | mark m s ih => intro hs S w k kp h hk; exact ih hs S w k kp h hk
  | halt x =>
    intro hs S w k kp h hk
    cases x with
    | panic v => exact .panic v w S h (Env.refl w) hk
    | _ => cases hs <;> simp only [wr] at hk
  | load m a f ih =>
    intro hs S w k kp h hk
    cases hs with
    | nil => simp only [wr] at hk
    | cons x hs =>
      cases x with
      | aq j =>
        simp only [wr] at hk
        split at hk
        · rename_i b vs t hj
          obtain ⟨hsame, hk⟩ := hk
          have hc := cell_cells hsame (h.cells hj)
          split at hk
          · rename_i v hv
            simp only [Sem.run, hc, hv]
            exact ih v hs S w k kp h hk
          · exact hk.elim
        · exact hk.elim
      | ex j sh =>
        simp only [wr] at hk
        obtain ⟨v, hl, hk⟩ := Shape.ex_some hk
        simp only [Sem.run, h.look hl]
        exact ih v hs S w k kp h hk
      | nw j => simp only [wr] at hk
  | store m a v s ih =>
    intro hs S w k kp h hk
    have main : ∀ (j b : Nat) (vs : List Value) (t : TypeId) (hs' : List LH), gt S j = .cells b vs t → Same a b → a.off < vs.length → oneCell v = true →
        wr P s hs' (updS S j (.cells b (vs.set a.off v) t)) k kp → WrEnd I w k kp ((Sem.store m a v s).run P w) := by
      intro j b vs t hs' hj hsame hlt hone hk
      have hb := h.cells hj
      have hc := cell_cells hsame hb
      have hfr : w.frozen? a = false := frozen_cells (by rw [hsame.blk]; exact hb)
      have hrun : (Sem.store m a v s).run P w = s.run P (w.setCell a v) := by
        have hsome : w.cell? a = some vs[a.off] := by rw [hc]; simp [hlt]
        cases v <;> first
          | (simp only [Sem.run, hsome, hfr, Bool.false_eq_true, if_false]; done)
          | exact absurd hone (by simp [oneCell])
      rw [hrun]
      exact WrEnd.from (w1 := w.setCell a v) ⟨rfl, rfl⟩ (ih hs' _ _ k kp (h.store hj hsame v) hk)
    cases hs with
    | nil => cases v <;> simp only [wr] at hk
    | cons x hs =>
      cases x with
      | aq j =>
        simp only [wr] at hk
        split at hk
        · rename_i b vs t hj
          obtain ⟨hsame, hk⟩ := hk
          split at hk
          · rename_i u hu
            split at hk
            · rename_i hone
              exact main j b vs t hs hj hsame (fo_gs.1 hu).1 hone hk
            · exact hk.elim
          · exact hk.elim
        · exact hk.elim
      | ex j sh =>
        simp only [wr] at hk
        split at hk
        · rename_i b vs t hj
          obtain ⟨⟨hsame, hlt⟩, hk⟩ := hk
          split at hk
          · rename_i hone
            exact main j b vs t hs hj hsame hlt hone hk
          · exact hk.elim
        · exact hk.elim
      | nw j => simp only [wr] at hk
  | new o f ih =>
    intro hs S w k kp h hk
    cases hs with
    | nil => simp only [wr] at hk
    | cons x hs =>
      cases x with
      | nw j =>
        simp only [wr] at hk
        exact WrEnd.from (w1 := { w with heap := w.heap.push o }) ⟨rfl, rfl⟩ (ih w.heap.size hs _ _ k kp (h.new j o) (hk _))
      | _ => simp only [wr] at hk
  | shape r f ih =>
    intro hs S w k kp h hk
    cases hs with
    | nil => simp only [wr] at hk
    | cons x hs =>
      cases x with
      | aq j =>
        simp only [wr] at hk
        split at hk
        · rename_i b vs t hj
          obtain ⟨rfl, hk⟩ := hk
          have hb := h.cells hj
          have : w.shape? r = some (t, vs.length) := by unfold World.shape?; simp [hb]
          simp only [Sem.run, this]
          exact ih _ hs S w k kp h hk
        · exact hk.elim
      | _ => simp only [wr] at hk
  | frozen a f ih =>
    intro hs S w k kp h hk
    cases hs with
    | nil => simp only [wr] at hk
    | cons x hs =>
      cases x with
      | aq j =>
        simp only [wr] at hk
        split at hk
        · rename_i b vs t hj
          obtain ⟨hsame, hk⟩ := hk
          have hfr : w.frozen? a = false := frozen_cells (by rw [hsame.blk]; exact h.cells hj)
          simp only [Sem.run, hfr]
          exact ih _ hs S w k kp h hk
        · exact hk.elim
      | _ => simp only [wr] at hk
  | getObj r f ih =>
    intro hs S w k kp h hk
    cases hs with
    | nil => simp only [wr] at hk
    | cons x hs =>
      cases x with
      | aq j =>
        simp only [wr] at hk
        split at hk
        · exact hk.elim
        · rename_i b o hno hj
          obtain ⟨rfl, hk⟩ := hk
          have hb := h.obj hj
          have : (Sem.getObj r f).run P w = (f o).run P w := by
            simp only [Sem.run, hb]
          rw [this]
          exact ih _ hs S w k kp h hk
        · exact hk.elim
      | _ => simp only [wr] at hk
  | setObj r o' s ih =>
    intro hs S w k kp h hk
    cases hs with
    | nil => simp only [wr] at hk
    | cons x hs =>
      cases x with
      | aq j =>
        simp only [wr] at hk
        split at hk
        · exact hk.elim
        · rename_i b o hno hj
          obtain ⟨rfl, hk⟩ := hk
          have hb := h.obj hj
          have : (Sem.setObj r o' s).run P w = s.run P { w with heap := w.heap.setIfInBounds r o' } := by
            simp only [Sem.run, hb]
          rw [this]
          exact WrEnd.from (w1 := { w with heap := w.heap.setIfInBounds r o' }) ⟨rfl, rfl⟩ (ih hs _ _ k kp (h.setObj hj o') hk)
        · exact hk.elim
      | _ => simp only [wr] at hk
  | _ => intro hs S w k kp h hk; cases hs <;> simp only [wr] at hk
end
end
section
open Go
theorem gt_clr (touch : List Nat) (S : St) (j : Nat) : gt (clr touch S) j = if j ∈ touch then .emp else gt S j := by
  induction touch generalizing S with
  | nil => simp [clr]
  | cons k r ih =>
    simp only [clr, ih, gt_upd, List.mem_cons]
    by_cases h1 : j ∈ r <;> by_cases h2 : j = k <;> simp [h1, h2]
theorem nodupB_spec {l : List Nat} (h : nodupB l = true) : l.Nodup := by
  induction l with
  | nil => exact List.nodup_nil
  | cons j r ih =>
    simp only [nodupB, fo_bae, List.all_eq_true] at h
    refine List.nodup_cons.2 ⟨λhm => ?_, ih h.2⟩
    have := h.1 j hm
    simp at this
structure Sat2 (I : Imm) (S : St) (l : List Atom) (w : World) : Prop where
  own : ∃ f g : Nat → Own, (∀ j, (gt S j).holds I (hp w) (f j)) ∧ (∀ i, (l.getD i .emp).holds I (hp w) (g i)) ∧ (∀ i j b, f i b → f j b → i = j) ∧ (∀ i j b, g i b → g j b → i = j) ∧
    (∀ i j b, f i b → g j b → False) ∧ (∀ j b, f j b → I b = none ∧ b < w.heap.size) ∧ (∀ j b, g j b → I b = none ∧ b < w.heap.size)
  imm : Cons I (hp w)
theorem Sat2.nil {I : Imm} {S : St} {l : List Atom} {w : World} (h : Sat2 I S l w) : Sat I S w := by
  obtain ⟨f, g, h1, _, h3, _, _, h6, _⟩ := h.own
  exact ⟨⟨f, h1, h3, h6⟩, h.imm⟩
theorem Sat2.cons {I : Imm} {S : St} {A : Atom} {l : List Atom} {w : World} (h : Sat2 I S (A :: l) w) (j : Nat) : Sat2 I (updS S j A) l w := by
  obtain ⟨f, g, h1, h2, h3, h4, h5, h6, h7⟩ := h.own
  refine ⟨⟨λi b => if i = j then g 0 b else f i b, λi b => g (i + 1) b, λi => ?_, λi => ?_, λi i' b hb hb' => ?_, λi i' b hb hb' => ?_, λi i' b hb hb' => ?_, λi b hb => ?_, λi b hb => h7 _ b hb⟩, h.imm⟩
  · rw [gt_upd]
    by_cases hi : i = j
    · simp only [hi, if_true]; simpa using h2 0
    · simp only [hi, if_false]; exact h1 i
  · simpa using h2 (i + 1)
  · by_cases hi : i = j
    · by_cases hi' : i' = j
      · exact hi.trans hi'.symm
      · simp only [hi, hi', if_true, if_false] at hb hb'; exact (h5 _ _ _ hb' hb).elim
    · by_cases hi' : i' = j
      · simp only [hi, hi', if_true, if_false] at hb hb'; exact (h5 _ _ _ hb hb').elim
      · simp only [hi, hi', if_false] at hb hb'; exact h3 _ _ _ hb hb'
  · have := h4 _ _ _ hb hb'; omega
  · by_cases hi : i = j
    · simp only [hi, if_true] at hb; have := h4 _ _ _ hb hb'; omega
    · simp only [hi, if_false] at hb; exact h5 _ _ _ hb hb'
  · by_cases hi : i = j
    · simp only [hi, if_true] at hb; exact h7 _ b hb
    · simp only [hi, if_false] at hb; exact h6 _ b hb
theorem Sat2.plc {I : Imm} {w : World} (out : List Nat) : ∀ (l : List Atom) (S : St), Sat2 I S l w → Sat I (plcR0 out l S) w := by
  induction out with
  | nil => intro l S h; simpa [plcR0] using h.nil
  | cons j r ih =>
    intro l S h
    cases l with
    | nil => simpa [plcR0] using h.nil
    | cons A l => simpa [plcR0] using ih l _ (h.cons j)
theorem Sat.part {I : Imm} {S : St} {w : World} (h : Sat I S w) {touch : List Nat} (hn : touch.Nodup) : Sat I (ofL (touch.map (gt S) ++ [.pred (rest S touch)])) w := by
  obtain ⟨f, h1, h2, h3⟩ := h.own
  have hlen : (touch.map (gt S)).length = touch.length := by simp
  refine ⟨⟨λi b => (∃ h : i < touch.length, f touch[i] b) ∨ (i = touch.length ∧ ∃ j, j ∉ touch ∧ f j b), λi => ?_, λi i' b hb hb' => ?_, λi b hb => ?_⟩, h.imm⟩
  · rw [gt_ofL, fo_gd]
    rcases Nat.lt_trichotomy i touch.length with hi | hi | hi
    · rw [fo_gl (by simpa using hi)]
      simp only [fo_gm, fo_ge hi, Option.map_some, Option.getD_some]
      refine Atom.local (h := hp w) (λb _ => rfl) ?_
      have := h1 touch[i]
      have e : (λb => (∃ h : i < touch.length, f touch[i] b) ∨ (i = touch.length ∧ ∃ j, j ∉ touch ∧ f j b)) = f touch[i] := by
        funext b
        refine propext ⟨λhb => ?_, λhb => .inl ⟨hi, hb⟩⟩
        rcases hb with ⟨_, hb⟩ | ⟨e, _⟩
        · exact hb
        · omega
      rw [e]; exact this
    · subst hi
      rw [fo_gr2 (by simp)]
      simp only [hlen, Nat.sub_self, List.getElem?_cons_zero, Option.getD_some]
      refine ⟨λj b => j ∉ touch ∧ f j b, λj => ?_, λi j b hb hb' => h2 _ _ _ hb.2 hb'.2, λj b hb => .inr ⟨by first | rfl | trivial, j, hb.1, hb.2⟩⟩
      rw [gt_clr]
      by_cases hj : j ∈ touch
      · simp only [hj, if_true]; trivial
      · simp only [hj, if_false]
        have e : (λb => j ∉ touch ∧ f j b) = f j := by funext b; simp [hj]
        simp only [hj, not_false_eq_true, true_and] at e ⊢
        exact h1 j
    · rw [fo_gr2 (by simp; omega)]
      have : i - (touch.map (gt S)).length = (i - touch.length - 1) + 1 := by simp; omega
      rw [this]
      simp
      trivial
  · rcases hb with ⟨hi, hb⟩ | ⟨hi, j, hj, hb⟩ <;> rcases hb' with ⟨hi', hb'⟩ | ⟨hi', j', hj', hb'⟩
    · have := h2 _ _ _ hb hb'
      have hpw := List.pairwise_iff_getElem.1 hn
      rcases Nat.lt_trichotomy i i' with e | e | e
      · exact absurd this (hpw i i' hi hi' e)
      · exact e
      · exact absurd this.symm (hpw i' i hi' hi e)
    · have := h2 _ _ _ hb hb'
      exact absurd (this ▸ List.getElem_mem hi) hj'
    · have := h2 _ _ _ hb hb'
      exact absurd (this ▸ List.getElem_mem hi') hj
    · omega
  · rcases hb with ⟨hi, hb⟩ | ⟨hi, j, hj, hb⟩
    · exact h3 _ _ hb
    · exact h3 _ _ hb
theorem Sat.join {J : Imm} {S : St} {w : World} {post : List Atom} {touch out : List Nat} (h : Sat J (ofL (post ++ [.pred (rest S touch)])) w) : Sat J (plcR0 out post (clr touch S)) w := by
  obtain ⟨g, h1, h2, h3⟩ := h.own
  have hr := h1 post.length
  rw [gt_ofL, fo_gd, fo_gr2 (fo_nr _)] at hr
  simp only [Nat.sub_self, List.getElem?_cons_zero, Option.getD_some] at hr
  obtain ⟨f, f1, f2, f3⟩ := hr
  refine Sat2.plc out post _ ⟨⟨f, λi b => i < post.length ∧ g i b, f1, λi => ?_, f2, λi j b hb hb' => h2 _ _ _ hb.2 hb'.2, λi j b hb hb' => ?_, λj b hb => h3 _ _ (f3 j b hb), λj b hb => h3 _ _ hb.2⟩, h.imm⟩
  · by_cases hi : i < post.length
    · have := h1 i
      rw [gt_ofL, fo_gd, fo_gl hi] at this
      have e : (λb => i < post.length ∧ g i b) = g i := by funext b; simp [hi]
      show Atom.holds J (hp w) (λb => i < post.length ∧ g i b) _
      rw [e, fo_gd]; exact this
    · have e : post.getD i .emp = .emp := by simp [fo_gd, fo_gn (Nat.le_of_not_lt hi)]
      rw [e]; trivial
  · have := h2 _ _ _ (f3 i b hb) hb'.2
    omega
section
variable {P : Program} {N : Nat}
theorem allY_iff {C : Con} {x : C.X} {Φ : C.Y → Prop} : allY C x Φ ↔ ∀ y, C.rel x y → Φ y := by
  unfold allY
  cases C.sum with
  | none => exact Iff.rfl
  | some q =>
    obtain ⟨A, B, f, g, cov⟩ := q
    refine ⟨λh y hy => ?_, λh => ⟨λa => h _, λb => h _⟩⟩
    rcases cov y with ⟨a, rfl⟩ | ⟨b, rfl⟩
    · exact h.1 a hy
    · exact h.2 b hy
theorem useC_calls {f : FuncId} {C : Con} {args : Array Value} {touch out : List Nat} {I : Imm} {S : St} {w : World} {k : Value → St → Prop} {kp : List PanicEntry → St → Prop}
    (hok : FnOk P f C) (hn : nodupB touch = true) (h : Sat I S w) (hu : useC C args.toList touch out S k kp) :
    Calls P f args w λe w' => ∃ J S', Imm.le I J ∧ Sat J S' w' ∧ Env w w' ∧ match e with | .returned v => k v S' | .panicked ch => kp ch S' | .outgrown => False := by
  obtain ⟨x, ha, hp, hc, hr, hk⟩ := hu
  have hs := h.part (nodupB_spec hn)
  rw [hp] at hs
  have := hok.h x _ I w hc hr hs
  have e : (⟨C.args x⟩ : Array Value) = args := by rw [← ha]
  rw [e] at this
  refine this.mono ?_
  rintro e w' ⟨y, J, hrel, rfl, hle, hsat, henv⟩
  refine ⟨J, _, hle, hsat.join (out := out), henv, ?_⟩
  have := allY_iff.1 hk y hrel
  cases hv : C.val x y <;> simp only [hv] at this ⊢ <;> exact this
theorem wrap_in {i : IntKind} {n : Int} (hn : inR i n) : i.wrap n = n := by
  cases i <;> simp only [inR] at hn <;> simp only [IntKind.wrap, IntKind.bits, IntKind.signed, Bool.true_and, fo_fba, Bool.false_eq_true, if_false, Int.reducePow, Nat.reduceSub] <;>
    first
      | omega
      | (split
         · have := fo_od1 ‹_›; omega
         · rename_i hh
           have : ¬ _ := λh => hh (fo_dt h)
           omega)
theorem i64_max : i64.max = 9223372036854775807 := by decide
theorem ck_run {o : Oper} {T : Tm} {k : Value → Prop} (h : ckV P o.op T k) (w : World) : ∃ v, (execOp (ev T) o).run P w = .ok (.value v) w ∧ k v := by
  unfold ckV at h
  split at h
  · rename_i x y _ hop
    split at h
    · rename_i i a j b hx hy
      split at h
      · rename_i hij
        obtain rfl := fo_od1 hij
        obtain ⟨hr, hk⟩ := h
        exact ⟨_, by simp [execOp, hop, hx, hy, eqGuard, binOp, Op.intArith, wrap_in hr, pure, Sem.run, bind, Sem.bind], hk⟩
      · exact h.elim
    · rename_i s t hx hy
      obtain ⟨hr, hk⟩ := h
      have : ¬ ((9223372036854775807 : Int) < (s.size : Int) + t.size) := by omega
      exact ⟨_, by simp [execOp, hop, hx, hy, eqGuard, binOp, Op.stringOp, i64_max, this, pure, Sem.run, bind, Sem.bind], hk⟩
    · exact h.elim
  · rename_i x y _ hop
    split at h
    · rename_i i a j b hx hy
      split at h
      · rename_i hij
        obtain rfl := fo_od1 hij
        obtain ⟨hr, hk⟩ := h
        exact ⟨_, by simp [execOp, hop, hx, hy, eqGuard, binOp, Op.intArith, wrap_in hr, pure, Sem.run, bind, Sem.bind], hk⟩
      · exact h.elim
    · exact h.elim
  · rename_i x y _ hop
    split at h
    · rename_i i a j b hx hy
      split at h
      · rename_i hij
        obtain rfl := fo_od1 hij
        obtain ⟨hr, hk⟩ := h
        exact ⟨_, by simp [execOp, hop, hx, hy, eqGuard, binOp, Op.intArith, wrap_in hr, pure, Sem.run, bind, Sem.bind], hk⟩
      · exact h.elim
    · exact h.elim
  · rename_i x y _ hop
    split at h
    · rename_i i a j b hx hy
      split at h
      · rename_i hij
        obtain rfl := fo_od1 hij
        obtain ⟨hb, hr, hk⟩ := h
        exact ⟨_, by simp [execOp, hop, hx, hy, eqGuard, binOp, Op.intDiv, hb, wrap_in hr, pure, Sem.run, bind, Sem.bind], hk⟩
      · exact h.elim
    · exact h.elim
  · rename_i x y _ hop
    split at h
    · rename_i i a j b hx hy
      split at h
      · rename_i hij
        obtain rfl := fo_od1 hij
        obtain ⟨hb, hk⟩ := h
        exact ⟨_, by simp [execOp, hop, hx, hy, eqGuard, binOp, Op.intDiv, hb, pure, Sem.run, bind, Sem.bind], hk⟩
      · exact h.elim
    · exact h.elim
  · rename_i s d x hop
    split at h
    · rename_i u i j a hs hd hx
      obtain ⟨hr, hk⟩ := h
      exact ⟨_, by simp [execOp, hop, hx, convert, run_underlying hs, run_underlying hd, Conv.intToInt, wrap_in hr, Sem.run], hk⟩
    · exact h.elim
  · exact h.elim
theorem ix_run {o : Oper} {T : Tm} {k : Value → Prop} (h : ixV P o.op T k) (w : World) : ∃ v, (execOp (ev T) o).run P w = .ok (.value v) w ∧ k v := by
  unfold ixV at h
  have hadd : ∀ b off m : Nat, (⟨b, off, none⟩ : Addr).add m = ⟨b, off + m, none⟩ := by
    intro b off m
    unfold Addr.add
    split
    · rename_i e; subst e; rfl
    · rfl
  split at h
  · rename_i t x i hop
    split at h
    · rename_i e ht
      split at h
      · rename_i inf b off len cap kk n hi hx hn
        obtain ⟨⟨h0, h1⟩, hk⟩ := h
        have hsz : P.cellsOf e = inf.size := by unfold Program.cellsOf; simp [hi]
        exact ⟨_, by simp [execOp, hop, hx, hn, Instr.indexAt, asIntOf, run_underlying ht, run_sizeOf w hi, hsz, h0, h1, hadd, Sem.run], hk⟩
      · exact h.elim
    · rename_i m e ht
      split at h
      · rename_i inf b off kk n hi hx hn
        obtain ⟨⟨h0, h1⟩, hk⟩ := h
        have hsz : P.cellsOf e = inf.size := by unfold Program.cellsOf; simp [hi]
        exact ⟨_, by simp [execOp, hop, hx, hn, Instr.indexAt, Instr.sureAddr, asIntOf, run_underlying ht, run_sizeOf w hi, hsz, h0, h1, hadd, Sem.run], hk⟩
      · exact h.elim
    · exact h.elim
  · exact h.elim
theorem si_run {o : Oper} {T : Tm} {k : Value → Prop} (h : siV P o.op T k) (w : World) : ∃ v, (execOp (ev T) o).run P w = .ok (.value v) w ∧ k v := by
  unfold siV at h
  split at h
  · rename_i t x i hop
    split at h
    · rename_i s kk n ht hx hn
      obtain ⟨⟨h0, h1⟩, hk⟩ := h
      have hlt : n.toNat < s.size := by omega
      have hg : s[n.toNat]? = some s[n.toNat] := by simp [hlt]
      have hb : (s[n.toNat].toNat : Int) = byteAt s n := by
        unfold byteAt
        simp [fo_gd, ByteArray.getElem_eq_getElem_data, Array.getElem?_eq_getElem (show n.toNat < s.data.size from hlt)]
      refine ⟨_, ?_, hk⟩
      rw [← hb]
      simp [execOp, hop, hx, hn, Instr.index, asIntOf, run_underlying ht, h0, hg, Sem.run]
    · exact h.elim
  · exact h.elim
theorem bound_run (v : Value) (kk : IntKind) (n : Int) (hv : v = .int kk n) (y : Nat) (code : BoundsCode) (h0 : 0 ≤ n) (h1 : n ≤ y) (w : World) : (Instr.sliceBound v y code).run P w = .ok n.toNat w := by
  subst hv
  simp [Instr.sliceBound, asIntOf, h0, h1, Sem.run]
theorem optI_spec {T : Tm} {x : Option Operand} {d v : Int} (h : optI T d x = some v) : (x = none ∧ v = d) ∨ ∃ y kk, x = some y ∧ ev T y = .int kk v := by
  cases x with
  | none => simp only [optI, Option.some.injEq] at h; exact .inl ⟨rfl, h.symm⟩
  | some y =>
    simp only [optI] at h
    split at h
    · rename_i kk n hx
      simp only [Option.some.injEq] at h
      subst h
      exact .inr ⟨y, kk, rfl, hx⟩
    · cases h
theorem bounds_run (isS : Bool) {T : Tm} {lo hi : Option Operand} {len cap : Nat} {l h : Int} (hl : optI T 0 lo = some l) (hh : optI T len hi = some h) (h0 : 0 ≤ l) (h1 : l ≤ h) (h2 : h ≤ cap) (w : World) :
    (Instr.sliceBounds isS len cap (lo.map (ev T)) (hi.map (ev T)) none).run P w = .ok (l.toNat, h.toNat, cap) w := by
  have hn : ((h.toNat : Nat) : Int) = h := by omega
  rcases optI_spec hl with ⟨rfl, rfl⟩ | ⟨x, kx, rfl, hx⟩ <;> rcases optI_spec hh with ⟨rfl, rfl⟩ | ⟨y, ky, rfl, hy⟩
  · simp [Instr.sliceBounds, Sem.run]
  · have hb := bound_run (P := P) _ ky h hy cap (if isS then .sliceAcap else .sliceAlen) (by omega) h2 w
    simp [Instr.sliceBounds, Sem.run, hb]
  · have hb := bound_run (P := P) _ kx l hx len .sliceB h0 h1 w
    simp [Instr.sliceBounds, Sem.run, hb]
  · have hb := bound_run (P := P) _ ky h hy cap (if isS then .sliceAcap else .sliceAlen) (by omega) h2 w
    have hc := bound_run (P := P) _ kx l hx h.toNat .sliceB h0 (by omega) w
    simp [Instr.sliceBounds, Sem.run, hb, hc]
theorem sl_run {o : Oper} {T : Tm} {k : Value → Prop} (h : slV P o.op T k) (w : World) : ∃ v, (execOp (ev T) o).run P w = .ok (.value v) w ∧ k v := by
  unfold slV at h
  have hadd : ∀ b off m : Nat, (⟨b, off, none⟩ : Addr).add m = ⟨b, off + m, none⟩ := by
    intro b off m
    unfold Addr.add
    split
    · rename_i e; subst e; rfl
    · rfl
  split at h
  · rename_i t x lo hi hop
    split at h
    · rename_i ht
      split at h
      · rename_i s hx
        split at h
        · rename_i l hh hl hhi
          obtain ⟨⟨h0, h1, h2⟩, hk⟩ := h
          have hb := bounds_run (P := P) false hl hhi h0 h1 h2 w
          refine ⟨_, ?_, hk⟩
          simp [execOp, hop, hx, Instr.sliceAt, Instr.slice, run_underlying ht, hb, Sem.run]
        · exact h.elim
      · exact h.elim
    · rename_i e ht
      split at h
      · rename_i inf b off len cap hi' hx
        split at h
        · rename_i l hh hl hhi
          obtain ⟨⟨h0, h1, h2, hlt⟩, hk⟩ := h
          have hb := bounds_run (P := P) true hl hhi h0 h1 h2 w
          have hsz : P.cellsOf e = inf.size := by unfold Program.cellsOf; simp [hi']
          have hne : ¬ cap = l.toNat := by omega
          refine ⟨_, ?_, hk⟩
          simp [execOp, hop, hx, Instr.sliceAt, Instr.slice, run_underlying ht, hb, run_sizeOf w hi', hsz, hne, hadd, Sem.run]
        · exact h.elim
      · exact h.elim
    · exact h.elim
  · exact h.elim
theorem slu_run {o : Oper} {T : Tm} {k : Value → Prop} (h : sluV P o.op T k) (w : World) : ∃ v, (execOp (ev T) o).run P w = .ok (.value v) w ∧ ∀ v, k v := by
  unfold sluV at h
  split at h
  · rename_i t x lo hi hop
    split at h
    · rename_i e ad len cap ht hx
      split at h
      · rename_i inf l hh hi' hl hhi
        obtain ⟨⟨h0, h1, h2⟩, hk⟩ := h
        have hb := bounds_run (P := P) true hl hhi h0 h1 h2 w
        have hsz : P.cellsOf e = inf.size := by unfold Program.cellsOf; simp [hi']
        refine ⟨.slice (if cap = l.toNat then some ad else some (ad.add (l.toNat * inf.size))) (hh.toNat - l.toNat) (cap - l.toNat), ?_, hk⟩
        simp [execOp, hop, hx, Instr.sliceAt, Instr.slice, run_underlying ht, hb, run_sizeOf w hi', hsz, Sem.run]
      · exact h.elim
    · exact h.elim
  · exact h.elim
end
end
section
open Go
structure Aft (N : Nat) (I : Imm) (w0 : World) (ds : List Deferred) (K : Tm → St → Prop) (a : Act) (w : World) : Prop where
  h : ∃ T S J, Rel N T a ∧ a.defers = ds ∧ Imm.le I J ∧ Sat J S w ∧ Env w0 w ∧ K T S
theorem Aft.from {N : Nat} {I J : Imm} {w0 w1 : World} {ds : List Deferred} {K : Tm → St → Prop} {a : Act} {w : World} (h : Aft N J w1 ds K a w) (hle : Imm.le I J) (he : Env w0 w1) : Aft N I w0 ds K a w := by
  obtain ⟨T, S, J', h1, h2, h3, h4, h5, h6⟩ := h
  exact ⟨T, S, J', h1, h2, Imm.le_trans hle h3, h4, he.trans h5, h6⟩
theorem Aft.mono {N : Nat} {I : Imm} {w0 : World} {ds : List Deferred} {K K' : Tm → St → Prop} {a : Act} {w : World} (h : Aft N I w0 ds K a w) (hk : ∀ T S, K T S → K' T S) : Aft N I w0 ds K' a w := by
  obtain ⟨T, S, J', h1, h2, h3, h4, h5, h6⟩ := h
  exact ⟨T, S, J', h1, h2, h3, h4, h5, hk _ _ h6⟩
section
variable {P : Program} {N : Nat}
theorem Br.cases {t : Bool} {A B : Prop} (h : Br t A B) : (t = true ∧ A) ∨ (t = false ∧ B) := by
  cases t
  · exact .inr ⟨rfl, h⟩
  · exact .inl ⟨rfl, h⟩
theorem rd_mono {α : Type} {S : St} : ∀ (s : Sem α) (hs : List LH) {k k' : α → Prop}, rd P S s hs k → (∀ a, k a → k' a) → rd P S s hs k' := by
  intro s
  induction s with
  | pure a => intro hs k k' h hk; exact hk _ h
  | program f ih => intro hs k k' h hk; exact ih P hs h hk
  | mark m s ih => intro hs k k' h hk; exact ih hs h hk
  | load m a f ih =>
    intro hs k k' h hk
    cases hs with
    | nil => simp only [rd] at h
    | cons x hs =>
      cases x with
      | aq j =>
        simp only [rd] at h ⊢
        split at h
        · refine ⟨h.1, ?_⟩
          have h2 := h.2
          split at h2
          · exact ih _ hs h2 hk
          · exact h2.elim
        · exact h.elim
      | ex j sh =>
        simp only [rd] at h ⊢
        cases sh <;> simp only [Shape.ex] at h ⊢
        case slice => obtain ⟨a, l, c, h1, h2⟩ := h; exact ⟨a, l, c, h1, ih _ hs h2 hk⟩
        case is v => obtain ⟨h1, h2⟩ := h; exact ⟨h1, ih _ hs h2 hk⟩
        all_goals (obtain ⟨n, h1, h2⟩ := h; exact ⟨n, h1, ih _ hs h2 hk⟩)
      | nw j => simp only [rd] at h
  | _ => intro hs k k' h hk; cases hs <;> simp only [rd] at h
theorem rd_eq {α : Type} {S : St} : ∀ (s : Sem α) (hs : List LH) {k : α → Prop}, rd P S s hs k → ∃ a, rd P S s hs (· = a) ∧ k a := by
  intro s
  induction s with
  | pure a => intro hs k h; exact ⟨a, rfl, h⟩
  | program f ih => intro hs k h; exact ih P hs h
  | mark m s ih => intro hs k h; exact ih hs h
  | load m a f ih =>
    intro hs k h
    cases hs with
    | nil => simp only [rd] at h
    | cons x hs =>
      cases x with
      | aq j =>
        simp only [rd] at h ⊢
        split at h
        · have h2 := h.2
          split at h2
          · obtain ⟨u, hu, hk⟩ := ih _ hs h2
            rename_i v hv
            exact ⟨u, ⟨h.1, hu⟩, hk⟩
          · exact h2.elim
        · exact h.elim
      | ex j sh =>
        simp only [rd] at h ⊢
        cases sh <;> simp only [Shape.ex] at h ⊢
        case slice => obtain ⟨a, l, c, h1, h2⟩ := h; obtain ⟨u, hu, hk⟩ := ih _ hs h2; exact ⟨u, ⟨a, l, c, h1, hu⟩, hk⟩
        case is v => obtain ⟨h1, h2⟩ := h; obtain ⟨u, hu, hk⟩ := ih _ hs h2; exact ⟨u, ⟨h1, hu⟩, hk⟩
        all_goals (obtain ⟨n, h1, h2⟩ := h; obtain ⟨u, hu, hk⟩ := ih _ hs h2; exact ⟨u, ⟨n, h1, hu⟩, hk⟩)
      | nw j => simp only [rd] at h
  | _ => intro hs k h; cases hs <;> simp only [rd] at h
theorem rd_congr {α : Type} {S S' : St} {k : α → Prop} : ∀ (s : Sem α) (hs : List LH), (∀ j, j ∈ ldIds hs → gt S j = gt S' j) → rd P S s hs k → rd P S' s hs k := by
  intro s
  induction s with
  | pure a => intro hs he h; exact h
  | program f ih => intro hs he h; exact ih P hs he h
  | mark m s ih => intro hs he h; exact ih hs he h
  | load m a f ih =>
    intro hs he h
    cases hs with
    | nil => simp only [rd] at h
    | cons x hs =>
      cases x with
      | aq j =>
        have e := he j (by simp [ldIds])
        have he' : ∀ i, i ∈ ldIds hs → gt S i = gt S' i := λi hi => he i (by simp [ldIds, hi])
        simp only [rd] at h ⊢
        rw [← e]
        split at h
        · refine ⟨h.1, ?_⟩
          have h2 := h.2
          split at h2
          · exact ih _ hs he' h2
          · exact h2.elim
        · exact h.elim
      | ex j sh =>
        have e := he j (by simp [ldIds])
        have he' : ∀ i, i ∈ ldIds hs → gt S i = gt S' i := λi hi => he i (by simp [ldIds, hi])
        simp only [rd] at h ⊢
        rw [← e]
        cases sh <;> simp only [Shape.ex] at h ⊢
        case slice => obtain ⟨a, l, c, h1, h2⟩ := h; exact ⟨a, l, c, h1, ih _ hs he' h2⟩
        case is v => obtain ⟨h1, h2⟩ := h; exact ⟨h1, ih _ hs he' h2⟩
        all_goals (obtain ⟨n, h1, h2⟩ := h; exact ⟨n, h1, ih _ hs he' h2⟩)
      | nw j => simp only [rd] at h
  | _ => intro hs he h; cases hs <;> simp only [rd] at h
def Val (P : Program) (o : Oper) (T : Tm) (w : World) (v : Value) : Prop :=
  (execOp (ev T) o).run P w = .ok (.value v) w ∨ ((execOp (ev T) o).run P w = .ok .skip w ∧ v = undef)
theorem Val.unique {o : Oper} {T : Tm} {w : World} {u v : Value} (h : Val P o T w u) (h' : Val P o T w v) : u = v := by
  rcases h with h | ⟨h, rfl⟩ <;> rcases h' with h' | ⟨h', rfl⟩
  · rw [h] at h'; simpa using h'
  · rw [h] at h'; cases h'
  · rw [h] at h'; cases h'
  · rfl
theorem q_eq {o : Oper} {h : OH} {T : Tm} {S : St} {k : Value → Prop} (hr : qRun P o h T S k) : ∃ v, qRun P o h T S (· = v) ∧ k v := by
  unfold qRun at hr
  split at hr
  · rename_i hs
    obtain ⟨nx, h1, h2⟩ := rd_eq _ _ hr
    cases nx <;> first
      | exact h2.elim
      | exact ⟨_, rd_mono _ _ h1 (λa e => by subst e; rfl), h2⟩
  · rename_i C
    obtain ⟨hok, x, ha, hc, hk⟩ := hr
    exact ⟨_, ⟨hok, x, ha, hc, rfl⟩, hk⟩
  · unfold qRun
    split at hr
    · rename_i c x y hop
      split at hr
      · rename_i t hc
        simp only [hop, hc]
        rcases Br.cases hr with ⟨rfl, hk⟩ | ⟨rfl, hk⟩
        · exact ⟨_, (rfl : _ = _), hk⟩
        · exact ⟨_, (rfl : _ = _), hk⟩
      · exact hr.elim
    · exact hr.elim
  · unfold qRun ckV at *
    split at hr
    · rename_i x y _ hop
      split at hr
      · rename_i i a j b hx hy
        split at hr
        · rename_i hij
          simp only [hop, hx, hy, hij]
          exact ⟨_, ⟨hr.1, rfl⟩, hr.2⟩
        · exact hr.elim
      · rename_i s t hx hy
        simp only [hop, hx, hy]
        exact ⟨_, ⟨hr.1, rfl⟩, hr.2⟩
      · exact hr.elim
    · rename_i x y _ hop
      split at hr
      · rename_i i a j b hx hy
        split at hr
        · rename_i hij
          simp only [hop, hx, hy, hij]
          exact ⟨_, ⟨hr.1, rfl⟩, hr.2⟩
        · exact hr.elim
      · exact hr.elim
    · rename_i x y _ hop
      split at hr
      · rename_i i a j b hx hy
        split at hr
        · rename_i hij
          simp only [hop, hx, hy, hij]
          exact ⟨_, ⟨hr.1, rfl⟩, hr.2⟩
        · exact hr.elim
      · exact hr.elim
    · rename_i x y _ hop
      split at hr
      · rename_i i a j b hx hy
        split at hr
        · rename_i hij
          simp only [hop, hx, hy, hij]
          exact ⟨_, ⟨hr.1, hr.2.1, rfl⟩, hr.2.2⟩
        · exact hr.elim
      · exact hr.elim
    · rename_i x y _ hop
      split at hr
      · rename_i i a j b hx hy
        split at hr
        · rename_i hij
          simp only [hop, hx, hy, hij]
          exact ⟨_, ⟨hr.1, rfl⟩, hr.2⟩
        · exact hr.elim
      · exact hr.elim
    · rename_i s d x hop
      split at hr
      · rename_i u i j a h1 h2 hx
        simp only [hop, h1, h2, hx]
        exact ⟨_, ⟨hr.1, rfl⟩, hr.2⟩
      · exact hr.elim
    · exact hr.elim
  · unfold qRun ixV at *
    split at hr
    · rename_i t x i hop
      split at hr
      · rename_i e ht
        split at hr
        · rename_i inf b off len cap kk n hi hx hn
          simp only [hop, ht, hi, hx, hn]; exact ⟨_, ⟨hr.1, rfl⟩, hr.2⟩
        · exact hr.elim
      · rename_i m e ht
        split at hr
        · rename_i inf b off kk n hi hx hn
          simp only [hop, ht, hi, hx, hn]; exact ⟨_, ⟨hr.1, rfl⟩, hr.2⟩
        · exact hr.elim
      · exact hr.elim
    · exact hr.elim
  · unfold qRun siV at *
    split at hr
    · rename_i t x i hop
      split at hr
      · rename_i s kk n ht hx hn
        simp only [hop, ht, hx, hn]; exact ⟨_, ⟨hr.1, rfl⟩, hr.2⟩
      · exact hr.elim
    · exact hr.elim
  · unfold qRun slV at *
    split at hr
    · rename_i t x lo hi hop
      split at hr
      · rename_i ht
        split at hr
        · rename_i s hx
          split at hr
          · rename_i l hh hl hhi
            simp only [hop, ht, hx, hl, hhi]; exact ⟨_, ⟨hr.1, rfl⟩, hr.2⟩
          · exact hr.elim
        · exact hr.elim
      · rename_i e ht
        split at hr
        · rename_i inf b off len cap hi' hx
          split at hr
          · rename_i l hh hl hhi
            simp only [hop, ht, hi', hx, hl, hhi]; exact ⟨_, ⟨hr.1, rfl⟩, hr.2⟩
          · exact hr.elim
        · exact hr.elim
      · exact hr.elim
    · exact hr.elim
  · exact hr.elim
theorem q_mono {o : Oper} {h : OH} {T : Tm} {S : St} {k k' : Value → Prop} (hr : qRun P o h T S k) (hk : ∀ v, k v → k' v) : qRun P o h T S k' := by
  unfold qRun at *
  split at hr
  · refine rd_mono _ _ hr λnx h => ?_
    cases nx <;> first | exact h.elim | exact hk _ h
  · obtain ⟨hok, x, ha, hc, h⟩ := hr
    exact ⟨hok, x, ha, hc, hk _ h⟩
  · split at hr
    · rename_i c x y hop
      split at hr
      · rename_i t hc
        rcases Br.cases hr with ⟨rfl, h⟩ | ⟨rfl, h⟩
        · exact hk _ h
        · exact hk _ h
      · exact hr.elim
    · exact hr.elim
  · unfold ckV at *
    split at hr <;> first
      | exact hr.elim
      | (split at hr <;> first
          | exact hr.elim
          | exact ⟨hr.1, hk _ hr.2⟩
          | (split at hr <;> first
              | exact hr.elim
              | exact ⟨hr.1, hr.2.1, hk _ hr.2.2⟩
              | exact ⟨hr.1, hk _ hr.2⟩))
  · unfold ixV at *
    split at hr
    · split at hr
      · split at hr
        · exact ⟨hr.1, hk _ hr.2⟩
        · exact hr.elim
      · split at hr
        · exact ⟨hr.1, hk _ hr.2⟩
        · exact hr.elim
      · exact hr.elim
    · exact hr.elim
  · unfold siV at *
    split at hr
    · split at hr
      · exact ⟨hr.1, hk _ hr.2⟩
      · exact hr.elim
    · exact hr.elim
  · unfold slV at *
    split at hr
    · split at hr
      · split at hr
        · split at hr
          · exact ⟨hr.1, hk _ hr.2⟩
          · exact hr.elim
        · exact hr.elim
      · split at hr
        · split at hr
          · exact ⟨hr.1, hk _ hr.2⟩
          · exact hr.elim
        · exact hr.elim
      · exact hr.elim
    · exact hr.elim
  · exact hr.elim
theorem q_val {o : Oper} {h : OH} {T : Tm} {S : St} {k : Value → Prop} {I : Imm} {w : World} (hr : qRun P o h T S k) (hs : Sat I S w) : ∃ v, Val P o T w v ∧ k v := by
  unfold qRun at hr
  split at hr
  · obtain ⟨nx, hrun, hk⟩ := rd_sound hs _ _ _ hr
    cases nx <;> first
      | exact hk.elim
      | exact ⟨_, .inl hrun, hk⟩
      | exact ⟨_, .inr ⟨hrun, rfl⟩, hk⟩
  · obtain ⟨hok, x, ha, hc, hk⟩ := hr
    exact ⟨_, .inl (hok.h x w (ev T) ha hc), hk⟩
  · split at hr
    · rename_i c x y hop
      split at hr
      · rename_i t hc
        have hrun : (execOp (ev T) o).run P w = .ok (.value (if t then ev T x else ev T y)) w := by
          simp [execOp, hop, hc, asBool, Sem.run]
        rcases Br.cases hr with ⟨rfl, hk⟩ | ⟨rfl, hk⟩
        · exact ⟨_, .inl hrun, hk⟩
        · exact ⟨_, .inl hrun, hk⟩
      · exact hr.elim
    · exact hr.elim
  · obtain ⟨v, hrun, hk⟩ := ck_run hr w
    exact ⟨v, .inl hrun, hk⟩
  · obtain ⟨v, hrun, hk⟩ := ix_run hr w
    exact ⟨v, .inl hrun, hk⟩
  · obtain ⟨v, hrun, hk⟩ := si_run hr w
    exact ⟨v, .inl hrun, hk⟩
  · obtain ⟨v, hrun, hk⟩ := sl_run hr w
    exact ⟨v, .inl hrun, hk⟩
  · exact hr.elim
theorem Val.upon {o : Oper} {T : Tm} {w : World} {v : Value} (h : Val P o T w v) {a : Act} {next : Act → World → Prop} {Q : Exit → Act → World → Prop} (hn : next (a.put o.dst v) w) :
    o.upon P a next Q ((execOp (ev T) o).run P w) := by
  rcases h with h | ⟨h, rfl⟩
  · rw [h]; exact hn
  · rw [h]; exact hn
theorem pureF_run {α : Type} : ∀ (s : Sem α) {a : α} (w : World), pureF P s = some a → s.run P w = .ok a w := by
  intro s
  induction s with
  | pure a => intro b w h; simp only [pureF, Option.some.injEq] at h; subst h; rfl
  | program f ih => intro b w h; exact ih P w h
  | mark m s ih => intro b w h; exact ih w h
  | _ => intro b w h; simp [pureF] at h
theorem alF_run {α : Type} : ∀ (s : Sem α) {ob : Obj} {f : Nat → Sem α} (w : World), alF P s = some (ob, f) → s.run P w = (f w.heap.size).run P { w with heap := w.heap.push ob } := by
  intro s
  induction s with
  | new o g ih => intro ob f w h; simp only [alF, Option.some.injEq, Prod.mk.injEq] at h; obtain ⟨rfl, rfl⟩ := h; rfl
  | program f ih => intro ob g w h; exact ih P w h
  | mark m s ih => intro ob g w h; exact ih w h
  | _ => intro ob g w h; simp [alF] at h
theorem opRun_sound {o : Oper} {h : OH} {T : Tm} {S : St} {k : Tm → St → Prop} {kp : List PanicEntry → Tm → St → Prop} {a : Act} {I : Imm} {w : World} {ds : List Deferred} {next : Act → World → Prop} {Q : Exit → Act → World → Prop}
    (hr : opRun P N o h T S k kp) (hrel : Rel N T a) (hd : a.defers = ds) (hs : Sat I S w)
    (hnext : ∀ a' w', Aft N I w ds k a' w' → next a' w') (hQ : ∀ ch a' w', Aft N I w ds (kp ch) a' w' → Q (.panic ch) a' w') : o.wp P a w next Q := by
  unfold Oper.wp
  rw [hrel.eval]
  unfold opRun at hr
  split at hr
  · exact hr.no.elim
  · have hw := wr_sound _ _ _ _ _ _ hs hr
    cases hrun : (execOp (ev T) o).run P w with
    | ok nx w' =>
      rw [hrun] at hw
      cases hw with
      | ok _ _ S' hs' he hk =>
        split at hk
        · exact hnext _ _ ⟨_, S', I, hrel.put _ _, by rw [put_defers]; exact hd, Imm.le_refl I, hs', he, hk⟩
        · exact hnext _ _ ⟨_, S', I, hrel.put _ _, by rw [put_defers]; exact hd, Imm.le_refl I, hs', he, hk⟩
        · exact hk.elim
    | halt x w' =>
      rw [hrun] at hw
      cases hw with
      | panic v _ S' hs' he hk => exact hQ _ _ _ ⟨_, S', I, hrel, hd, Imm.le_refl I, hs', he, hk⟩
  · rename_i j _
    split at hr
    · rename_i ob f hal
      have hb := hr w.heap.size
      split at hb
      · rename_i v hv
        rw [alF_run _ w hal, pureF_run _ _ hv]
        exact hnext _ _ ⟨_, _, I, hrel.put _ _, by rw [put_defers]; exact hd, Imm.le_refl I, hs.new j ob, ⟨rfl, rfl⟩, hb⟩
      · exact hb.elim
    · exact hr.elim
  · obtain ⟨nx, hrun, hk⟩ := rd_sound hs _ _ _ hr
    rw [hrun]
    split at hk
    · rename_i f args
      obtain ⟨hok, hn, hu⟩ := hk
      rw [Oper.upon_enter]
      refine (useC_calls hok (by simp only [fo_bae] at hn; exact hn.1) hs hu).mono ?_
      rintro e w' ⟨J, S', hle, hs', he, hk⟩
      cases e with
      | returned v => exact hnext _ _ ⟨_, S', J, hrel.put _ _, by rw [put_defers]; exact hd, hle, hs', he, hk⟩
      | panicked ch => exact hQ _ _ _ ⟨_, S', J, hrel, hd, hle, hs', he, hk⟩
      | outgrown => exact hk.elim
    · exact hk.elim
  · obtain ⟨hok, hn, x, ha, hp, hc, hrd, hk⟩ := hr
    simp only [fo_bae] at hn
    have hs1 := hs.part (nodupB_spec hn.1)
    rw [hp] at hs1
    obtain ⟨y, J, w', v, hrl, hrun, hv, hle, hs', he⟩ := hok.h x _ I w (ev T) ha hc hrd hs1
    have := allY_iff.1 hk y hrl
    rw [hv] at this
    have hn' : next (a.put o.dst v) w' := hnext _ _ ⟨_, _, J, hrel.put _ _, by rw [put_defers]; exact hd, hle, hs'.join (out := _), he, this⟩
    rcases hrun with hrun | ⟨hrun, rfl⟩
    · rw [hrun]; exact hn'
    · rw [hrun]; exact hn'
  · obtain ⟨v, hrun, hk⟩ := slu_run hr w
    rw [hrun]
    exact hnext _ _ ⟨_, S, I, hrel.put _ _, by rw [put_defers]; exact hd, Imm.le_refl I, hs, Env.refl w, hk v⟩
  · obtain ⟨v, hv, hk⟩ := q_val hr hs
    exact hv.upon (hnext _ _ ⟨_, S, I, hrel.put _ _, by rw [put_defers]; exact hd, Imm.le_refl I, hs, Env.refl w, hk⟩)
theorem Rel.again {T : Tm} {a : Act} (h : Rel N T a) (d : Nat) {v : Value} (e : T.at d = v) : Rel N (putT N (some d) v T) a := by
  refine h.same λi => ?_
  rw [putT_at]
  split
  · rename_i hh; rw [hh.2, e]
  · rfl
theorem yielded_at {ops : Array Oper} {j d : Nat} {T : Tm} {a : Act} (h : Rel N T a) (hj : (ops[j]?).bind (·.dst) = some d) {t : Bool} (ht : T.at d = .bool t) : yielded ops a.tmps j = some t := by
  unfold yielded
  rw [hj]
  have hg := h.get d
  rw [ht, fo_agd] at hg
  cases hx : a.tmps[d]? with
  | none => rw [hx] at hg; simp [undef] at hg
  | some x =>
    rw [hx] at hg
    simp only [Option.getD_some] at hg
    simp [hx, hg]
theorem yielded_not {ops : Array Oper} {j d : Nat} {T : Tm} {a : Act} (h : Rel N T a) (hj : (ops[j]?).bind (·.dst) = some d) {xs : Array Value} (ht : T.at d = .tuple xs) : yielded ops a.tmps j = none := by
  unfold yielded
  rw [hj]
  have hg := h.get d
  rw [ht, fo_agd] at hg
  cases hx : a.tmps[d]? with
  | none => simp [hx]
  | some x =>
    rw [hx] at hg
    simp only [Option.getD_some] at hg
    simp [hx, hg]
theorem opStep_sound {ops : Array Oper} {o : Oper} {h : OH} {T : Tm} {S : St} {k : Tm → St → Prop} {kp : List PanicEntry → Tm → St → Prop} {a : Act} {I : Imm} {w : World} {ds : List Deferred} {next : Act → World → Prop} {Q : Exit → Act → World → Prop}
    (hr : opStep P N ops o h T S k kp) (hrel : Rel N T a) (hd : a.defers = ds) (hs : Sat I S w)
    (hnext : ∀ a' w', Aft N I w ds k a' w' → next a' w') (hQ : ∀ ch a' w', Aft N I w ds (kp ch) a' w' → Q (.panic ch) a' w') :
    if Region.wanted o (yielded ops a.tmps) then o.wp P a w next Q ∨ (o.asks P a w ∧ LetsOut Q) else next (a.put o.dst undef) w := by
  unfold opStep at hr
  split at hr
  · rename_i hg
    have : Region.wanted o (yielded ops a.tmps) = true := by unfold Region.wanted; rw [hg]
    rw [if_pos this]
    exact .inl (opRun_sound hr hrel hd hs hnext hQ)
  · rename_i j want hg
    split at hr
    · exact hr.elim
    · rename_i d hj
      split at hr
      · rename_i t ht
        have hy := yielded_at hrel hj ht
        have hw : Region.wanted o (yielded ops a.tmps) = (t == want) := by
          unfold Region.wanted; rw [hg]; simp only [hy]; cases t <;> cases want <;> rfl
        rcases Br.cases hr with ⟨rfl, hk⟩ | ⟨rfl, hk⟩
        · have hrel' := hrel.again d ht
          cases want
          · rw [hw]
            simp only [Bool.true_beq, Bool.false_eq_true, if_false]
            exact hnext _ _ ⟨_, S, I, hrel'.put _ _, by rw [put_defers]; exact hd, Imm.le_refl I, hs, Env.refl w, hk⟩
          · rw [hw]
            exact .inl (opRun_sound hk hrel' hd hs hnext hQ)
        · have hrel' := hrel.again d ht
          cases want
          · rw [hw]
            exact .inl (opRun_sound hk hrel' hd hs hnext hQ)
          · rw [hw]
            simp only [Bool.false_beq, Bool.not_true, Bool.false_eq_true, if_false]
            exact hnext _ _ ⟨_, S, I, hrel'.put _ _, by rw [put_defers]; exact hd, Imm.le_refl I, hs, Env.refl w, hk⟩
      · rename_i xs ht
        have hw : Region.wanted o (yielded ops a.tmps) = false := by
          unfold Region.wanted; rw [hg]; simp only [yielded_not hrel hj ht]; rfl
        rw [hw]
        simp only [Bool.false_eq_true, if_false]
        exact hnext _ _ ⟨_, S, I, hrel.put _ _, by rw [put_defers]; exact hd, Imm.le_refl I, hs, Env.refl w, hr⟩
      · exact hr.elim
theorem rg_sound {H : Nat → OH} {ops : Array Oper} {ds : List Deferred} {Q : Exit → Act → World → Prop} : ∀ (l : List Nat) {T : Tm} {S : St} {k : Tm → St → Prop} {kp : List PanicEntry → Tm → St → Prop} {a : Act} {I : Imm} {w : World},
    rg P N H ops l T S k kp → Rel N T a → a.defers = ds → Sat I S w → (∀ a' w', Aft N I w ds k a' w' → Q .normal a' w') → (∀ ch a' w', Aft N I w ds (kp ch) a' w' → Q (.panic ch) a' w') →
    wpOps P ops Q l a w := by
  intro l
  induction l with
  | nil =>
    intro T S k kp a I w hr hrel hd hs hk _
    exact hk _ _ ⟨T, S, I, hrel, hd, Imm.le_refl I, hs, Env.refl w, hr⟩
  | cons i rest ih =>
    intro T S k kp a I w hr hrel hd hs hk hQ
    simp only [rg] at hr
    simp only [wpOps]
    split at hr
    · exact hr.elim
    · rename_i o ho
      have := opStep_sound (next := wpOps P ops Q rest) (Q := Q) hr hrel hd hs (λa' w' haft => by
        obtain ⟨T', S', J, h1, h2, h3, h4, h5, h6⟩ := haft
        exact ih h6 h1 h2 h4 (λa w h => hk a w (h.from h3 h5)) (λch a w h => hQ ch a w (h.from h3 h5))) hQ
      simpa [ho] using this
end
end
end Go.Proofs.YtjdabjmjldiodaaGreatDoor
