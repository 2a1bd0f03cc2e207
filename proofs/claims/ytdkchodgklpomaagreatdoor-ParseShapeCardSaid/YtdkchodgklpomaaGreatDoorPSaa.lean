/- Part of the proof that ParseShape answers true at every input. -/
import Derived.Orders
import Derived.KernelRfl
import Derived.Laws.Sem
import Derived.Laws.Entries
import Derived.ChangeKeysEq
import Derived.Deep.LoopGhost
import Derived.Scope
import Derived.Laws.Append
import Derived.Laws.AppendOwn
import Derived.Laws.CopyRow
import Derived.Laws.MakeOwn
import Derived.Laws.Externs
import Derived.Lib.Overlaps
import Derived.ProofKit
import Derived.Below
import Derived.OpenShut
import Derived.LaidLaws
import Derived.Handed
import Derived.DataElems
import Derived.Lib.DecodeN
import Derived.Lib.IndexMore
import Derived.Test.YtdkchodgklpomaaGreatDoorChecked
import Derived.Shelf.Strings.Builder1
import Derived.Shelf.Small.Utf8
import Derived.Shelf.Small.Strs
import Derived.Shelf.LaysM
import Derived.Shelf.Strings.Search1
import Derived.Shelf.Strings.Search2
import Derived.Shelf.Strings.Search3
import Derived.Shelf.Strings.Cut
import Derived.Shelf.Strings.Count
import Derived.Shelf.Strings.Shaped
import Derived.Shelf.Strings.Runes
import Derived.Shelf.Bits.Mul64
import Derived.Shelf.Unicode.DecodeSlow
import Derived.Shelf.Unicode.DecodeAny
import Derived.Laws.BytesString
import Derived.Lib.AppendStr
import Derived.Lib.UnsafeStr
import Derived.Lib.Builder
import Derived.Laws.Runes
import Derived.Lib.MapLaws
import Derived.Lib.QuoteLoop
import Derived.Lib.OthersKept
import Derived.Shelf.Strings.Builder2
import Derived.Shelf.Utf8.RuneCount
import Derived.Shelf.Strconv.Itoa0
import Derived.Shelf.Strconv.Itoa1
import Derived.Shelf.Strconv.Itoa2
import Derived.Shelf.Strconv.Itoa3
import Derived.Shelf.Strings.Split
import Derived.Shelf.Strings.Replace
import Derived.Shelf.Strings.SplitShaped
import Derived.Shelf.Unicode.Decode
import Derived.Shelf.Strings.RuneCount
import Derived.Laws.FloatArith
import Derived.LaidEql
import Derived.ScopeJumps
import GoSem.PinnedTables
import Derived.Laws.IdiomStrings
import Derived.Test.YtdkchodgklpomaaGreatDoorRows
import Derived.RowKitTokens
import Derived.Stop.LaidErr
import Derived.Recover
import Derived.Lay
import Derived.MakeChecks
import Derived.SevenTiedAt
import Derived.ChangeMaps5
import Derived.Test.YtdkchodgklpomaaGreatDoorTie
import Derived.Test.YtdkchodgklpomaaGreatDoorCards
set_option linter.all false
namespace Go.Proofs.YtdkchodgklpomaaGreatDoor
set_option maxRecDepth 100000
open Go.Value (int slice string bool pointer agg tuple func float iface nilIface)
open Go.IntKind (i64 u8 u64 i32 u32 u16 i8 i16)
open Go.FloatKind (f64)
open Go.Ending (returned panicked)
section
def bG:= @decide_eq_true
def bK:= @decide_eq_false
def l7:= @of_decide_eq_true
def Ro:= @of_decide_eq_false
def bf{α:Type}:= @cond_true α
def aU{α:Type}:= @cond_false α
def cB:= @Int.toNat_natCast
def fD{α:Type}:= @List.getD_eq_getElem?_getD α
def gi{α:Type}:= @List.length_append α
def gv{α:Type}:= @List.getElem?_eq_getElem α
def gw{α β:Type}:= @List.getElem?_map α β
def dJ{α:Type}:= @List.append_nil α
def lI{α:Type}:= @List.append_assoc α
def rB{α:Type}:= @List.getElem?_append_left α
def sR{α:Type}:= @List.getElem?_append_right α
def jU:= @ByteArray.size_extract
def mH:= @ByteArray.size_append
def cr:= @Nat.le_refl
def cN:= @Int.le_refl
def dC:= @Nat.zero_le
def i_{a b c:Nat}:a<=b->b<=c->a<=c:=Nat.le_trans
def jj:= @Nat.lt_succ_self
def n6:= @Bool.and_false
def nh:= @Bool.false_and
def n7:= @Bool.or_true
def kT:= @Bool.and_eq_true
def ga{α:Type}[BEq α][LawfulBEq α]{a b:α}:(a==b)=false↔a≠b:=beq_eq_false_iff_ne
def mG{α:Type}{i:Nat}{a:α}{l:List α}:l[i]?=some a↔∃h:i<l.length,l[i]=a:=List.getElem?_eq_some_iff
def ni{α:Type}:= @List.mem_cons_self α
def sS{α:Type}:= @List.mem_cons_of_mem α
def oU{α:Type}:= @List.mem_of_getElem? α
def sQ{α:Type}:= @List.getElem?_eq_none α
def pH{α:Type}:= @Array.getD_eq_getD_getElem? α
def oV:= @Nat.pow_le_pow_right
def rC{α:Type}:= @List.mem_append_left α
def jk:= @Nat.zero_add
def xA{α:Type}:= @List.length_cons α
def DQ{α:Type}:= @List.length_singleton α
def ao:True:=.intro
variable{p:Prop}
theorem af(h:p:=by omega):p:=h
theorem bd(h:p:=by dsimp only;omega):p:=h
theorem aJ(h:p:=by exact⟨by omega,by omega⟩):p:=h
theorem iP(h:p:=by exact⟨by dsimp only;omega,by dsimp only;omega⟩):p:=h
theorem bh(h:p:=by kernel_rfl):p:=h
theorem aM(h:p:=by simp):p:=h
theorem ap(h:p:=by exact⟨rfl,rfl⟩):p:=h
theorem aV(h:p:=by repeat (first|exact trivial|refine⟨rfl,?_⟩)):p:=h
open Go
def dQ{α:Type}(k:Nat)(v:α):List (Nat×α)->List (Nat×α)
 | []=>[(k,v)]
 | (j,u)::r=>bif Nat.beq k j then (k,v)::r else bif Nat.blt k j then (k,v)::(j,u)::r else (j,u)::dQ k v r
def rK{α:Type}:List (Nat×α)->Nat->α->α
 | [],_,d=>d
 | (k,v)::r,i,d=>bif Nat.beq i k then v else rK r i d
abbrev Tm:=Nat->Value
def Tm.z00(T:Tm)(i:Nat):Value:=T i
def p5(T:Tm)(k:Nat)(v:Value):Tm:=fun i=>bif Nat.beq i k then v else T i
def oS(args:List Value):Tm:=fun i=>args.getD i undef
def kE(js:Nat->Value)(l:List (Nat×Value)):Tm:=fun i=>rK l i (js i)
def ev(T:Tm):Operand->Value
 | .tmp t=>T.z00 t
 | .const v=>v
 | .global g=>.pointer (some ⟨g,0,none⟩)
 | .func f=>.func (.func f) #[] #[]
def dz(N:Nat)(dst:Option Tmp)(v:Value)(T:Tm):Tm:=
 match dst with
 |some d=>bif Nat.blt d N then p5 T d v else T
 |none=>T
abbrev a7:=Nat->Option Obj
abbrev Hp:=Nat->Option Obj
abbrev w8:=Nat->Prop
def hp(w:World):Hp:=fun b=>w.heap[b]?
def a7.le(I J:a7):Prop:=∀b o,I b=some o->J b=some o
def FD(I:a7)(h:Hp):Prop:=∀b o,I b=some o->h b=some o
structure I9 where
 holds:a7->Hp->w8->Prop
 Eb:∀I h h' o,(∀b,o b->h b=h' b)->holds I h o->holds I h' o
 mono:∀I J h o,a7.le I J->holds I h o->holds J h o
inductive ai where
 |dT
 |cells (b:Nat) (vs:List Value) (t:TypeId)
 |iT (b:Nat) (o:Obj)
 |dv (p:I9)
def ai.holds(I:a7)(h:Hp)(o:w8):ai->Prop
 | .dT=>True
 | .cells b vs t=>o b/\h b=some (.cells ⟨vs⟩ t (0,0))
 | .iT b ob=>o b/\h b=some ob
 | .dv p=>p.holds I h o
abbrev St:=List (Nat×ai)
def gt(S:St)(j:Nat):ai:=rK S j .dT
def num:Nat->List ai->St
 |_,[]=>[]
 |n,A::r=>(n,A)::num (n+1) r
def bD(l:List ai):St:=num 0 l
def gn(S:St)(k:Nat)(A:ai):St:=dQ k A S
def nT:List Nat->St->St
 | [],S=>S
 |j::r,S=>nT r (gn S j .dT)
def pR:List Nat->List ai->St->St
 |j::r,A::l,S=>pR r l (gn S j A)
 |_,_,S=>S
structure Sat(I:a7)(S:St)(w:World):Prop where
 mN:∃f:Nat->w8,(∀j,(gt S j).holds I (hp w) (f j))/\(∀i j b,f i b->f j b->i=j)/\(∀j b,f j b->I b=none/\b<w.heap.size)
 o0:FD I (hp w)
def cE(w w':World):Prop:=w'.os=w.os/\w'.output=w.output
structure aD(S S':St):Prop where
 h:∀I w,Sat I S w->∃J,a7.le I J/\Sat J S' w
def rest(S:St)(bF:List Nat):I9 where
 holds I h o:=∃f:Nat->w8,(∀j,(gt (nT bF S) j).holds I h (f j))/\(∀i j b,f i b->f j b->i=j)/\(∀j b,f j b->o b)
 Eb:=by
  rintro I h h' o he ⟨f,h1,h2,h3⟩;refine⟨f,fun j=>?_,h2,h3⟩;have:=h1 j;revert this;generalize gt (nT bF S) j=A;intro hA;cases A with
  |dT=>trivial
  |cells b vs t=>exact⟨hA.1,(he _ (h3 _ _ hA.1))▸hA.2⟩
  |iT b ob=>exact⟨hA.1,(he _ (h3 _ _ hA.1))▸hA.2⟩
  |dv p=>exact p.Eb I h h' _ (fun b hb=>he _ (h3 _ _ hb)) hA
 mono:=by
  rintro I J h o bS ⟨f,h1,h2,h3⟩;refine⟨f,fun j=>?_,h2,h3⟩;have:=h1 j;revert this;generalize gt (nT bF S) j=A;intro hA;cases A with
  |dT=>trivial
  |cells b vs t=>exact hA
  |iT b ob=>exact hA
  |dv p=>exact p.mono I J h _ bS hA
def xw(h:Hp)(a:Addr):Option Value:=
 match h a.block with
 |some (.cells c _ _)=>if a.spot.isSome then none else c[a.off]?
 |_=>none
structure aO(A:ai)(a:Addr)(v:Value):Prop where
 h:∀I h o,FD I h->A.holds I h o->xw h a=some v
inductive jE where
 |int (k:IntKind)|str|bool|slice|ptr|float (k:FloatKind)|any|is (v:Value)
def jE.ex(K:Value->Prop):jE->Prop
 | .int k=>∃n,K (.int k n)
 | .str=>∃s,K (.string s)
 | .bool=>∃b,K (.bool b)
 | .slice=>∃a l c,K (.slice a l c)
 | .ptr=>∃a,K (.pointer a)
 | .float k=>∃b,K (.float k b)
 | .any=>∃v,K v
 | .is v=>K v
inductive LH where
 | z00 (j:Nat)
 |ex (j:Nat) (s:jE)
 |nw (j:Nat)
structure dS(a:Addr)(b:Nat):Prop where
 gg:a.block=b
 spot:a.spot=none
def Sub(A B:ai):Prop:=∀I h o,B.holds I h o->∃o',A.holds I h o'
structure XA(Y:Type)where
 A:Type
 B:Type
 f:A->Y
 g:B->Y
 Yz:∀y,(∃a,y=f a)\/(∃b,y=g b)
structure aR where
 X:Type
 Y:Type:=Unit
 args:X->List Value
 pre:X->List ai:=fun _=>[]
 cond:X->Prop:=fun _=>True
 aQ:X->ai->Prop:=fun _ _=>True
 cd:X->Y->Prop:=fun _ _=>True
 val:X->Y->Ending
 post:X->Y->List ai:=fun _ _=>[]
 eX:∀x A B,Sub A B->aQ x A->aQ x B:=by intros;first|trivial| (rename_i hs h;exact h.sub hs)| (rename_i hs h;exact⟨h.1.sub hs,h.2.sub hs⟩)
 sum:Option (XA Y):=none
structure mw where
 X:Type
 args:X->List Value
 cond:X->Prop
 val:X->Value
inductive OH where
 |d
 |ask (r i:Nat)
 |q (hs:List LH)
 |w (hs:List LH)
 |n (j:Nat)
 |c (C:aR) (bF out:List Nat)
 |o (C:aR) (bF out:List Nat)
 |qo (C:mw)
 |pk
 |ck
 |ix
 |si
 |sl
 |WU
structure Inv where
 X:Type
 P:X->Prop
 lv:X->List (Nat×Value)
 st:X->List ai
 mu:X->Nat
 gh:Option ((T:Type)×(X->T)):=none
def hk:List (Nat×Nat×OH)->Nat->Nat->OH
 | [],_,_=>.d
 | (a,b,h)::t,r,i=>bif Nat.beq a r&&Nat.beq b i then h else hk t r i
structure kj where
 op:Nat->Nat->OH
 BO:Nat->Option Inv
 cut:Nat->Option Inv
 B1:Nat->List Nat
section
variable(P:Program)
def rd{α:Type}(S:St):Sem α->List LH->(α->Prop)->Prop
 | .pure a,_,k=>k a
 | .program f,hs,k=>rd S (f P) hs k
 | .mark _ s,hs,k=>rd S s hs k
 | .load _ a f,.z00 j::hs,k=>
  match gt S j with
  | .cells b vs _=>dS a b/\(match vs[a.off]? with|some v=>rd S (f v) hs k|none=>False)
  |_=>False
 | .load _ a f,.ex j s::hs,k=>s.ex fun v=>aO (gt S j) a v/\rd S (f v) hs k
 |_,_,_=>False
def Er{α:Type}:Sem α->Option α
 | .pure a=>some a
 | .program f=>Er (f P)
 | .mark _ s=>Er s
 |_=>none
def Be{α:Type}:Sem α->Option (Obj×(Nat->Sem α))
 | .new o f=>some (o,f)
 | .program f=>Be (f P)
 | .mark _ s=>Be s
 |_=>none
def mkAtom(b:Nat):Obj->ai
 | .cells c t (0,0)=>.cells b c.toList t
 |o=>.iT b o
def Lp:Value->Bool
 | .agg _| .tuple _=>false
 |_=>true
def wr{α:Type}:Sem α->List LH->St->(α->St->Prop)->(Value->St->Prop)->Prop
 | .pure a,_,S,k,_=>k a S
 | .program f,hs,S,k,kp=>wr (f P) hs S k kp
 | .mark _ s,hs,S,k,kp=>wr s hs S k kp
 | .load _ a f,.z00 j::hs,S,k,kp=>
  match gt S j with
  | .cells b vs _=>dS a b/\(match vs[a.off]? with|some v=>wr (f v) hs S k kp|none=>False)
  |_=>False
 | .load _ a f,.ex j s::hs,S,k,kp=>s.ex fun v=>aO (gt S j) a v/\wr (f v) hs S k kp
 | .store _ a v s,.z00 j::hs,S,k,kp=>
  match gt S j with
  | .cells b vs t=>dS a b/\(match vs[a.off]? with|some _=>(match Lp v with|true=>wr s hs (gn S j (.cells b (vs.set a.off v) t)) k kp|false=>False)|none=>False)
  |_=>False
 | .store _ a v s,.ex j _::hs,S,k,kp=>
  match gt S j with
  | .cells b vs t=>(dS a b/\a.off<vs.length)/\(match Lp v with|true=>wr s hs (gn S j (.cells b (vs.set a.off v) t)) k kp|false=>False)
  |_=>False
 | .new o s,.nw j::hs,S,k,kp=>∀b,wr (s b) hs (gn S j (mkAtom b o)) k kp
 | .shape r f,.z00 j::hs,S,k,kp=>
  match gt S j with
  | .cells b vs t=>r=b/\wr (f (some (t,vs.length))) hs S k kp
  |_=>False
 | .frozen a f,.z00 j::hs,S,k,kp=>
  match gt S j with
  | .cells b _ _=>dS a b/\wr (f false) hs S k kp
  |_=>False
 | .getObj r f,.z00 j::hs,S,k,kp=>
  match gt S j with
  | .iT _ (.cells ..)=>False
  | .iT b o=>r=b/\wr (f o) hs S k kp
  |_=>False
 | .setObj r o' s,.z00 j::hs,S,k,kp=>
  match gt S j with
  | .iT _ (.cells ..)=>False
  | .iT b _=>r=b/\wr s hs (gn S j (.iT b o')) k kp
  |_=>False
 | .halt (.panic v),_,S,_,kp=>kp v S
 |_,_,_,_,_=>False
structure lB(f:FuncId)(C:aR):Prop where
 h:∀x F I w,C.cond x->C.aQ x F->Sat I (bD (C.pre x++[F])) w->
  Calls P f ⟨C.args x⟩ w fun e w'=>∃y J,C.cd x y/\e=C.val x y/\a7.le I J/\Sat J (bD (C.post x y++[F])) w'/\cE w w'
structure fj(o:Oper)(C:aR):Prop where
 h:∀x F I w(ρ:Operand->Value),o.op.operands.toList.map ρ=C.args x->C.cond x->C.aQ x F->Sat I (bD (C.pre x++[F])) w->
  ∃y J w' v,C.cd x y/\((execOp ρ o).run P w= .ok (.value v) w'\/((execOp ρ o).run P w= .ok .skip w'/\v=undef))/\C.val x y= .returned v/\a7.le I J/\Sat J (bD (C.post x y++[F])) w'/\cE w w'
structure dH(o:Oper)(C:mw):Prop where
 h:∀x w(ρ:Operand->Value),o.op.operands.toList.map ρ=C.args x->C.cond x->(execOp ρ o).run P w= .ok (.value (C.val x)) w
def QF(C:aR)(x:C.X)(Φ:C.Y->Prop):Prop:=
 match C.sum with
 |none=>∀y,C.cd x y->Φ y
 |some ⟨_,_,f,g,_⟩=>(∀a,C.cd x (f a)->Φ (f a))/\(∀b,C.cd x (g b)->Φ (g b))
def IU(C:aR)(args:List Value)(bF out:List Nat)(S:St)(k:Value->St->Prop)(kp:List PanicEntry->St->Prop):Prop:=
 ∃x,args=C.args x/\bF.map (gt S)=C.pre x/\C.cond x/\C.aQ x (.dv (rest S bF))/\QF C x fun y=>
  match C.val x y with
  | .returned v=>k v (pR out (C.post x y) (nT bF S))
  | .panicked ch=>kp ch (pR out (C.post x y) (nT bF S))
  | .outgrown=>False
def nodupB:List Nat->Bool
 | []=>true
 |j::r=>(r.all fun i=> !Nat.beq i j)&&nodupB r
def Br(t:Bool)(A B:Prop):Prop:=match t with|true=>A|false=>B
def vW(k:IntKind)(n:Int):Prop:=
 match k with
 | .i8=> -128<=n/\n<=127
 | .i16=> -32768<=n/\n<=32767
 | .i32=> -2147483648<=n/\n<=2147483647
 | .i64=> -9223372036854775808<=n/\n<=9223372036854775807
 | .u8=>0<=n/\n<=255
 | .u16=>0<=n/\n<=65535
 | .u32=>0<=n/\n<=4294967295
 | .u64=>0<=n/\n<=18446744073709551615
def DD(op:Op)(T:Tm)(k:Value->Prop):Prop:=
 match op with
 | .binOp .add _ x y _=>match ev T x,ev T y with| .int i a,.int j b=>(match decide (i=j)with|true=>vW i (a+b)/\k (.int i (a+b))|false=>False)| .string s,.string t=>s.size+t.size<=9223372036854775807/\k (.string (s++t))|_,_=>False
 | .binOp .sub _ x y _=>match ev T x,ev T y with| .int i a,.int j b=>(match decide (i=j)with|true=>vW i (a-b)/\k (.int i (a-b))|false=>False)|_,_=>False
 | .binOp .mul _ x y _=>match ev T x,ev T y with| .int i a,.int j b=>(match decide (i=j)with|true=>vW i (a*b)/\k (.int i (a*b))|false=>False)|_,_=>False
 | .binOp .quo _ x y _=>match ev T x,ev T y with| .int i a,.int j b=>(match decide (i=j)with|true=>b≠0/\vW i (a.tdiv b)/\k (.int i (a.tdiv b))|false=>False)|_,_=>False
 | .binOp .rem _ x y _=>match ev T x,ev T y with| .int i a,.int j b=>(match decide (i=j)with|true=>b≠0/\k (.int i (a.tmod b))|false=>False)|_,_=>False
 | .convert s d x=>match P.underlying s,P.underlying d,ev T x with|some _,some (.int i),.int _ a=>vW i a/\k (.int i a)|_,_,_=>False
 |_=>False
def D8(op:Op)(T:Tm)(k:Value->Prop):Prop:=
 match op with
 | .indexAddr t x i=>
  match P.underlying t with
  |some (.slice e)=>
   match P.info? e,ev T x,ev T i with
   |some cy,.slice (some ⟨b,o,none⟩) len _,.int _ n=>(0<=n/\n<len)/\k (.pointer (some ⟨b,o+n.toNat*cy.size,none⟩))
   |_,_,_=>False
  |some (.array m e)=>
   match P.info? e,ev T x,ev T i with
   |some cy,.pointer (some ⟨b,o,none⟩),.int _ n=>(0<=n/\n<m)/\k (.pointer (some ⟨b,o+n.toNat*cy.size,none⟩))
   |_,_,_=>False
  |_=>False
 |_=>False
def aE(s:ByteArray)(n:Int):Int:=(s.data.toList.getD n.toNat 0).toNat
def Fk(op:Op)(T:Tm)(k:Value->Prop):Prop:=
 match op with
 | .index t x i=>
  match P.underlying t,ev T x,ev T i with
  |some .string,.string s,.int _ n=>(0<=n/\n<s.size)/\k (.int .u8 (aE s n))
  |_,_,_=>False
 |_=>False
def ll(T:Tm)(d:Int):Option Operand->Option Int
 |none=>some d
 |some x=>match ev T x with| .int _ n=>some n|_=>none
def Fm(op:Op)(T:Tm)(k:Value->Prop):Prop:=
 match op with
 | .slice t x lo hi none=>
  match P.underlying t with
  |some .string=>
   match ev T x with
   | .string s=>match ll T 0 lo,ll T s.size hi with
    |some l,some h=>(0<=l/\l<=h/\h<=s.size)/\k (.string (s.extract l.toNat h.toNat))
    |_,_=>False
   |_=>False
  |some (.slice e)=>
   match P.info? e,ev T x with
   |some cy,.slice (some ⟨b,o,none⟩) len cap=>match ll T 0 lo,ll T len hi with
    |some l,some h=>(0<=l/\l<=h/\h<=cap/\l<cap)/\k (.slice (some ⟨b,o+l.toNat*cy.size,none⟩) (h.toNat-l.toNat) (cap-l.toNat))
    |_,_=>False
   |_,_=>False
  |_=>False
 |_=>False
structure Ask(r i:Nat)(o:Oper)(s:Sem Next)(S:St):Prop where
 no:False
def signed:IntKind->Bool
 | .i8| .i16| .i32| .i64=>true
 |_=>false
def agK(o:Oper):OH:=
 match o.op with
 | .pick ..=>.pk
 | .indexAddr ..=>.ix
 | .index t _ _=>match P.underlying t with|some .string=>.si|_=>.q []
 | .slice ..=>.sl
 | .binOp b t _ _ _=>match b with
  | .add| .sub| .mul| .quo=>match P.underlying t with|some (.int k)=>(match signed k with|true=>.ck|false=>.q [])|some .string=>.ck|_=>.q []
  | .rem=>match P.underlying t with|some (.int _)=>.ck|_=>.q []
  |_=>.q []
 | .convert s d _=>match P.underlying s,P.underlying d with
  |some (.int _),some (.int _)=>.ck
  |_,_=>.q []
 |_=>.q []
def N8(op:Op)(T:Tm)(k:Value->Prop):Prop:=
 match op with
 | .slice t x lo hi none=>
  match P.underlying t,ev T x with
  |some (.slice e),.slice (some _) len cap=>
   match P.info? e,ll T 0 lo,ll T len hi with
   |some _,some l,some h=>(0<=l/\l<=h/\h<=cap)/\∀v,k v
   |_,_,_=>False
  |_,_=>False
 |_=>False
variable(N:Nat)
def lT(o:Oper)(h:OH)(T:Tm)(S:St)(k:Value->Prop):Prop:=
 match h with
 | .q hs=>rd P S (execOp (ev T) o) hs fun
  | .value v=>k v
  | .skip=>k undef
  |_=>False
 | .qo C=>dH P o C/\∃x,o.op.operands.toList.map (ev T)=C.args x/\C.cond x/\k (C.val x)
 | .pk=>match o.op with
  | .pick c a b=>match ev T c with
   | .bool t=>Br t (k (ev T a)) (k (ev T b))
   |_=>False
  |_=>False
 | .ck=>DD P o.op T k
 | .ix=>D8 P o.op T k
 | .si=>Fk P o.op T k
 | .sl=>Fm P o.op T k
 |_=>False
def im(o:Oper)(h:OH):OH:=match h with| .d=>agK P o|h=>h
def o5(o:Oper)(h:OH)(T:Tm)(S:St)(k:Tm->St->Prop)(kp:List PanicEntry->Tm->St->Prop):Prop:=
 match im P o h with
 | .ask r i=>Ask r i o (execOp (ev T) o) S
 | .w hs=>wr P (execOp (ev T) o) hs S (fun x S'=>match x with
  | .value v=>k (dz N o.dst v T) S'
  | .skip=>k (dz N o.dst undef T) S'
  |_=>False) (fun v S'=>kp [{v,recovered:=false}] T S')
 | .n j=>match Be P (execOp (ev T) o)with
  |some (ob,f)=>∀b,match Er P (f b)with
   |some (.value v)=>k (dz N o.dst v T) (gn S j (mkAtom b ob))
   |_=>False
  |none=>False
 | .c C bF out=>rd P S (execOp (ev T) o) [] fun
  | .enter f args=>lB P f C/\(nodupB bF&&nodupB out)=true/\IU C args.toList bF out S (fun v S'=>k (dz N o.dst v T) S') (fun ch S'=>kp ch T S')
  |_=>False
 | .o C bF out=>fj P o C/\(nodupB bF&&nodupB out)=true/\IU C (o.op.operands.toList.map (ev T)) bF out S (fun v S'=>k (dz N o.dst v T) S') (fun ch S'=>kp ch T S')
 | .WU=>N8 P o.op T fun v=>k (dz N o.dst v T) S
 |h'=>lT P o h' T S fun v=>k (dz N o.dst v T) S
def o6(aN:Array Oper)(o:Oper)(h:OH)(T:Tm)(S:St)(k:Tm->St->Prop)(kp:List PanicEntry->Tm->St->Prop):Prop:=
 match o.guard with
 |none=>o5 P N o h T S k kp
 |some (j,tZ)=>
  match (aN[j]?).bind (·.dst)with
  |none=>False
  |some d=>match T.z00 d with
   | .bool t=>Br t
     (match tZ with|true=>o5 P N o h (dz N (some d) (.bool true) T) S k kp|false=>k (dz N o.dst undef (dz N (some d) (.bool true) T)) S)
     (match tZ with|false=>o5 P N o h (dz N (some d) (.bool false) T) S k kp|true=>k (dz N o.dst undef (dz N (some d) (.bool false) T)) S)
   | .tuple _=>k (dz N o.dst undef T) S
   |_=>False
def rg(H:Nat->OH)(aN:Array Oper):List Nat->Tm->St->(Tm->St->Prop)->(List PanicEntry->Tm->St->Prop)->Prop
 | [],T,S,k,_=>k T S
 |i::rest,T,S,k,kp=>
  match aN[i]? with
  |none=>False
  |some o=>o6 P N aN o (H i) T S (fun T S=>rg H aN rest T S k kp) kp
def ki(T:Tm):List (Nat×Value)->Prop
 | []=>True
 | (i,v)::r=>T.z00 i=v/\ki T r
def sP:Code->Option Nat
 | .region id _ _=>some id
 | .seq a b=>match sP a with|some i=>some i|none=>sP b
 | .block _ c=>sP c
 | .loop c=>sP c
 | .scope c=>sP c
 | .cond _ a b=>match sP a with|some i=>some i|none=>sP b
 |_=>none
def cP:List LH->List Nat
 | []=>[]
 | .z00 j::r=>j::cP r
 | .ex j _::r=>j::cP r
 | .nw j::r=>j::cP r
inductive AW where
 |oE (arU:List Nat)
 |new (j:Nat)
 |rz (dU:List Nat)
def gZ(h:OH):AW:=
 match h with
 | .q hs=>.oE (cP hs)
 | .w hs=>.rz (cP hs)
 | .n j=>.new j
 | .c _ bF out=>.rz (bF++out)
 | .o _ bF out=>.rz (bF++out)
 | .WU=>.rz []
 |_=>.oE []
def Bq(a b:List Nat):Bool:=a.all fun i=>b.all fun j=> !Nat.beq i j
def B3(r i:AW):Bool:=
 match i,r with
 | .oE _,.oE _=>true
 | .oE a,.new j=>Bq a [j]
 | .oE a,.rz b=>Bq a b
 | .new j,.oE a=>Bq a [j]
 | .new j,.new k=> !Nat.beq j k
 | .new j,.rz b=>Bq [j] b
 | .rz b,.oE a=>Bq a b
 | .rz _,_=>false
def SH(o:Oper)(dX:List Nat):Nat:=o.after.toList.foldr (fun e s=>bif Region.binds .any e then (2^e.on|||dX.getD e.on 0)|||s else s) 0
def md:List Oper->List Nat->List Nat
 | [],dX=>dX
 |o::r,dX=>md r (dX++[SH o dX])
def vZ(o:Oper):Bool:=match o.op with| .select ..=>true|_=>false
def cV(aN:Array Oper)(i:Nat):Oper:=aN.getD i default
def oF:AW->List Nat
 | .oE r=>r
 | .new _=>[]
 | .rz _=>[]
def jZ:AW->List Nat
 | .oE _=>[]
 | .new j=>[j]
 | .rz l=>l
def xj(c:AW):List Nat:=oF c++jZ c
def apL(r i:AW):Bool:=match i with| .new j=>Bq [j] (xj r)|_=>true
def En(H:Nat->OH)(aN:Array Oper)(ms:List Nat)(r i:Nat):Bool:=
 !(ms.getD r 0).testBit i&&apL (gZ (im P (cV aN r) (H r))) (gZ (im P (cV aN i) (H i)))&&
 ((ms.getD i 0).testBit r||(Oper.apart aN (cV aN i) (cV aN r)&&B3 (gZ (im P (cV aN r) (H r))) (gZ (im P (cV aN i) (H i)))))
def zO(H:Nat->OH)(aN:Array Oper)(ms:List Nat):List Nat->Bool
 | []=>true
 |r::l=>(l.all fun i=>En P H aN ms r i)&&zO H aN ms l
def SZ(H:Nat->OH)(aN:Array Oper)(l:List Nat):Bool:=
 (aN.toList.all fun o=> !vZ o&&o.after.toList.all fun e=> !Region.binds .any e||Nat.blt e.on aN.size)&&nodupB l&&Nat.beq l.length aN.size&&
 (l.all fun i=>Nat.blt i aN.size&& !((md aN.toList []).getD i 0).testBit i)&&zO P H aN (md aN.toList []) l
def vc(ms:List Nat)(i:Nat)(l:List Nat):Bool:=l.all fun k=>(ms.getD k 0).testBit i
def SI(H:Nat->OH)(aN:Array Oper)(l:List Nat):List Nat:=l.filterMap fun i=>match gZ (im P (cV aN i) (H i))with| .new j=>some j|_=>none
def Zb(S:St)(dU:List Nat):Bool:=dU.all fun j=>match gt S j with| .dT=>true|_=>false
def ph(H:Nat->OH)(aN:Array Oper)(ms:List Nat):List Nat->Tm->St->(Tm->St->Prop)->(List PanicEntry->Tm->St->Prop)->Prop
 | [],T,S,k,_=>k T S
 |i::rest,T,S,k,kp=>o6 P N aN (cV aN i) (H i) T S (fun T S=>ph H aN ms rest T S k kp)
   (match vc ms i rest with|true=>fun ch _ S=>∀T,kp ch T S|false=>fun _ _ _=>False)
def E(H:kj):Code->Nat->Tm->St->(Exit->Tm->St->Prop)->Prop
 | .skip,_,T,S,K=>K .normal T S
 | .seq a b,key,T,S,K=>
  match (sP b).bind H.cut with
  |none=>E H a key T S fun e T S=>match e with| .normal=>E H b key T S K|e=>K e T S
  |some I=>
   match I.gh with
   |none=>
    (E H a key T S fun e T S=>match e with| .normal=>∃x,I.P x/\ki T (I.lv x)/\aD S (bD (I.st x))|e=>K e T S)/\
    ∀x js,I.P x->E H b key (kE js (I.lv x)) (bD (I.st x)) K
   |some g=>∃n:g.1,
    (E H a key T S fun e T S=>match e with| .normal=>∃x,(I.P x/\g.2 x=n)/\ki T (I.lv x)/\aD S (bD (I.st x))|e=>K e T S)/\
    ∀x js,(I.P x/\g.2 x=n)->E H b key (kE js (I.lv x)) (bD (I.st x)) K
 | .cond c a b,key,T,S,K=>
  match ev T c with
  | .bool t=>Br t (E H a key T S K) (E H b key T S K)
  |_=>False
 | .block id c,_,T,S,K=>E H c id T S fun e T S=>match e with| .exit i=>(bif Nat.beq i id then K .normal T S else K (.exit i) T S)|e=>K e T S
 | .loop c,key,T,S,K=>
  match H.BO key with
  |none=>False
  |some I=>
   match I.gh with
   |none=>(∃x,I.P x/\ki T (I.lv x)/\aD S (bD (I.st x)))/\
    ∀x js,I.P x->E H c key (kE js (I.lv x)) (bD (I.st x)) fun e T S=>match e with
     | .normal=>∃y,I.P y/\ki T (I.lv y)/\aD S (bD (I.st y))/\I.mu y<I.mu x
     |e=>K e T S
   |some g=>∃n:g.1,(∃x,(I.P x/\g.2 x=n)/\ki T (I.lv x)/\aD S (bD (I.st x)))/\
    ∀x js,(I.P x/\g.2 x=n)->E H c key (kE js (I.lv x)) (bD (I.st x)) fun e T S=>match e with
     | .normal=>∃y,(I.P y/\g.2 y=n)/\ki T (I.lv y)/\aD S (bD (I.st y))/\I.mu y<I.mu x
     |e=>K e T S
 | .exit id,_,T,S,K=>K (.exit id) T S
 | .scope c,key,T,S,K=>E H c key T S fun e T S=>match e with| .goto _=>False|e=>K e T S
 | .ret,_,T,S,K=>K .ret T S
 | .region id aN Kd,_,T,S,K=>
  match Kd with
  |false=>rg P N (H.op id) aN (List.range aN.size) T S (fun T S=>K .normal T S) (fun ch T S=>K (.panic ch) T S)
  |true=>
   let l:=match H.B1 id with| []=>List.range aN.size|l=>l
   (SZ P (H.op id) aN l&&Zb S (SI P (H.op id) aN l))=true/\
   ph P N (H.op id) aN (md aN.toList []) l T S (fun T S=>K .normal T S) (fun ch T S=>K (.panic ch) T S)
 |_,_,_,_,_=>False
def kK(fn:Func)(T:Tm):Sem Value:=do
 let vs <-fn.results.mapM fun
  | .tmp t=>pure (T.z00 t)
  | .cell a t=>do loadVar t (<-asAddr (T.z00 a))
 pure (if h:vs.size=1 then vs[0] else .tuple vs)
def Body(fn:Func)(H:kj)(rh:List LH)(c:Code)(T:Tm)(S:St)(R:Ending->St->Prop):Prop:=
 E P N H c 0 T S fun e T S=>match e with
  | .normal| .ret=>rd P S (kK fn T) rh fun v=>R (.returned v) S
  | .panic ch=>R (.panicked ch) S
  |_=>False
def Aq(r:Nat):Code->Option (Array Oper)
 | .region id aN _=>bif Nat.beq id r then some aN else none
 | .seq a b=>match Aq r a with|some x=>some x|none=>Aq r b
 | .cond _ a b=>match Aq r a with|some x=>some x|none=>Aq r b
 | .block _ c=>Aq r c
 | .loop c=>Aq r c
 | .scope c=>Aq r c
 |_=>none
def a8(fn:Func)(r i:Nat):Oper:=((Aq r (fn.body.getD .skip)).getD #[]).getD i default
structure aq(C:aR)(x:C.X)(F:ai)(e:Ending)(S:St):Prop where
 h:∃y,C.cd x y/\e=C.val x y/\aD S (bD (C.post x y++[F]))
end
end
section
open Go
theorem vB{i j:Nat}(h:i≠j):Nat.beq i j=false:=by
 cases hb:Nat.beq i j with
 |false=>rfl
 |true=>exact absurd (Nat.eq_of_beq_eq_true hb) h
theorem QO{i j:Nat}(h:i<j):Nat.blt i j=true:=by rw[Nat.blt_eq];exact h
theorem QN{i j:Nat}(h:¬i<j):Nat.blt i j=false:=by
 cases hb:Nat.blt i j with
 |false=>rfl
 |true=>rw[Nat.blt_eq]at hb;exact absurd hb h
variable{a:Act}{A:ai}{h:Hp}{I J:a7}{vs:List Value}{N b j:Nat}{o:w8}{S:St}{T:Tm}{α:Type}{t:TypeId}{w w':World}
theorem J6(i k:Nat)(u v:α):(bif Nat.beq i k then u else v)=if i=k then u else v:=by
 simp[*]
theorem akO(k:Nat)(v:α)(l:List (Nat×α))(i:Nat)(d:α):rK (dQ k v l) i d=if i=k then v else rK l i d:=by
 induction l with
 |nil=>simp only[dQ,rK,J6]
 |cons p r ih=>
  obtain⟨j,u⟩:=p;simp only[dQ];by_cases h1:k=j
  ·subst h1;simp only[Nat.beq_refl,bf,rK,J6];grind
  ·simp only[vB h1,aU];by_cases h2:k<j
   ·simp only[QO h2,bf,rK,J6]
   ·simp only[QN h2,aU,rK,ih,J6];grind
theorem aj5{i:Nat}(h:i≠j)(u v:α)(l:List (Nat×α)):dQ i u (dQ j v l)=dQ j v (dQ i u l):=by
 have nb:= @vB;have lt:= @QO;have nl:= @QN
 induction l with
 |nil=>
  simp only[dQ];grind
 |cons p r ih=>
  obtain⟨k,c⟩:=p;by_cases hi:i=k
  ·subst hi;by_cases hj:j<i
   ·simp[dQ,nb h,nb (Ne.symm h),lt hj,nl (show ¬i<j by omega)]
   ·simp[dQ,nb (Ne.symm h),nl hj]
  ·by_cases hj:j=k
   ·subst hj;by_cases jY:i<j
    ·simp[dQ,nb h,nb (Ne.symm h),lt jY,nl (show ¬j<i by omega)]
    ·simp[dQ,nb h,nl jY]
   ·by_cases jY:i<k
    ·by_cases s8:j<k
     ·by_cases bP:i<j
      ·simp[dQ,nb h,nb (Ne.symm h),nb hi,nb hj,lt jY,lt s8,lt bP,nl (show ¬j<i by omega)]
      ·simp[dQ,nb h,nb (Ne.symm h),nb hi,nb hj,lt jY,lt s8,lt (show j<i by omega),nl bP]
     ·simp[dQ,nb (Ne.symm h),nb hi,nb hj,lt jY,nl s8,nl (show ¬j<i by omega)]
    ·by_cases s8:j<k
     ·simp[dQ,nb h,nb hi,nb hj,nl jY,lt s8,nl (show ¬i<j by omega)]
     ·simp[dQ,nb hi,nb hj,nl jY,nl s8,ih]
structure dM(N:Nat)(T:Tm)(a:Act):Prop where
 get:∀i,a.tmps.getD i undef=T.z00 i
 size:a.tmps.size=N
theorem aer(T:Tm)(k i:Nat)(v:Value):(p5 T k v).z00 i=if i=k then v else T.z00 i:=by
 unfold p5 Tm.z00;simp[*]
theorem dM.eval(h:dM N T a):a.eval=ev T:=by
 funext x;cases x with
 |tmp t=>exact h.get t
 |const v=>rfl
 |global g=>rfl
 |func f=>rfl
theorem Es(N:Nat)(T:Tm)(d:Nat)(v:Value)(i:Nat):(dz N (some d) v T).z00 i=if d<N/\i=d then v else T.z00 i:=by
 unfold dz;by_cases h:d<N
 ·simp[QO h,aer,h]
 ·simp[QN h,h]
theorem dM.put(h:dM N T a)(dst:Option Tmp)(v:Value):dM N (dz N dst v T) (a.put dst v):=by
 cases dst with
 |none=>exact⟨h.get,h.size⟩
 |some d=>
  refine⟨fun i=>?_,by simpa[Act.put]using h.size⟩;rw[Es];simp only[Act.put,pH,Array.getElem?_setIfInBounds];have hg:=h.get i;simp only[pH]at hg;by_cases hd:d<N
  ·by_cases hi:i=d
   ·subst hi;simp[hd,h.size]
   grind
  ·by_cases hi:i=d
   ·subst hi;have h1:¬i<a.tmps.size:=by rw[h.size];exact hd
    grind
   grind
theorem dM.same{T':Tm}(h:dM N T a)(e:∀i,T'.z00 i=T.z00 i):dM N T' a:=⟨fun i=>(h.get i).trans (e i).symm,h.size⟩
theorem dM.defers(h:dM N T a)(ds:List Deferred):dM N T {a with defers:=ds}:=⟨h.get,h.size⟩
@[simp] theorem Et (a:Act) (dst:Option Tmp) (v:Value):(a.put dst v).defers=a.defers:=by cases dst <;> rfl
theorem agY(vs:List Value)(i:Nat):(oS vs).z00 i=vs.getD i undef:=rfl
theorem Is(vs:List Value)(h:vs.length<=N):dM N (oS vs) {tmps:=⟨vs⟩++Array.replicate (N-(⟨vs⟩:Array Value).size) undef,defers:=[]}:=by
 refine⟨fun i=>?_,by simp;omega⟩;rw[agY];simp only[pH,Array.getElem?_append,fD];grind
theorem qB(h:dM N T a){l:List (Nat×Value)}(he:ki T l):dM N (kE T.z00 l) a:=by
 refine h.same fun i=>?_;unfold kE;show rK l i (T.z00 i)=T.z00 i
 induction l with
 |nil=>rfl
 |cons p r ih=>
  obtain⟨k,v⟩:=p;simp only[ki]at he;simp only[rK];by_cases hk:i=k
  ·simp[*]
  ·simp[vB hk,ih he.2]
theorem a7.le_refl(I:a7):a7.le I I:=fun _ _ h=>h
theorem a7.le_trans{K:a7}(h:a7.le I J)(h':a7.le J K):a7.le I K:=fun b o e=>h' b o (h b o e)
theorem vM(S:St)(k j:Nat)(A:ai):gt (gn S k A) j=if j=k then A else gt S j:=akO _ _ _ _ _
theorem ah_(n:Nat)(l:List ai)(j:Nat):gt (num n l) j=if j<n then .dT else l.getD (j-n) .dT:=by
 unfold gt
 induction l generalizing n with
 |nil=>simp[num,rK]
 |cons A r ih=>
  simp only[num,rK,ih];by_cases h:j=n
  ·simp[*]
  ·have e:Nat.beq j n=false:=vB h;grind
theorem vL(l:List ai)(j:Nat):gt (bD l) j=l.getD j .dT:=by unfold bD;rw[ah_];simp
theorem cE.refl(w:World):cE w w:=ap
theorem cE.trans{v u:World}(h:cE w v)(h':cE v u):cE w u:=⟨h'.1.trans h.1,h'.2.trans h.2⟩
theorem ai.local{h':Hp}(he:∀b,o b->h b=h' b)(hA:A.holds I h o):A.holds I h' o:=by
 cases A with
 |dT=>trivial
 |cells b vs t=>exact⟨hA.1,(he _ hA.1)▸hA.2⟩
 |iT b ob=>exact⟨hA.1,(he _ hA.1)▸hA.2⟩
 |dv p=>exact p.Eb I h h' o he hA
theorem ai.mono(bS:a7.le I J)(hA:A.holds I h o):A.holds J h o:=by
 cases A with
 |dT=>trivial
 |cells b vs t=>exact hA
 |iT b ob=>exact hA
 |dv p=>exact p.mono I J h o bS hA
theorem Yp(w:World)(a:Addr):xw (hp w) a=w.cell? a:=by
 rfl
theorem Sat.look(h:Sat I S w){a:Addr}{v:Value}(hl:aO (gt S j) a v):w.cell? a=some v:=by
 obtain⟨f,h1,_,_⟩:=h.mN;rw[<-Yp];exact hl.h I _ _ h.o0 (h1 j)
theorem Sat.cells{I:a7}{S:St}{w:World}(h:Sat I S w){j b:Nat}{vs:List Value}{t:TypeId}(hj:gt S j= .cells b vs t):w.heap[b]?=some (.cells ⟨vs⟩ t (0,0)):=by
 obtain⟨f,h1,_,_⟩:=h.mN;have:=h1 j;rw[hj]at this;exact this.2
theorem Sat.iT{I:a7}{S:St}{w:World}(h:Sat I S w){j b:Nat}{o:Obj}(hj:gt S j= .iT b o):w.heap[b]?=some o:=by
 obtain⟨f,h1,_,_⟩:=h.mN;have:=h1 j;rw[hj]at this;exact this.2
theorem Sat.write(h:Sat I S w){A':ai}(hb:∀o,(gt S j).holds I (hp w) o->o b)
  (hw:∀c,c≠b->w'.heap[c]?=w.heap[c]?) (hs:w'.heap.size=w.heap.size)
  (hA:∀o,(gt S j).holds I (hp w) o->A'.holds I (hp w') o):Sat I (gn S j A') w':=by
 obtain⟨f,h1,h2,h3⟩:=h.mN;have BE:f j b:=hb _ (h1 j);refine⟨⟨f,fun i=>?_,h2,fun i c hc=>by grind⟩,fun c o hc=>?_⟩
 ·rw[vM];by_cases hi:i=j
  ·simp[*]
  ·simp only[hi,if_false];refine ai.local (fun c hc=>?_) (h1 i);by_cases e:c=b
   ·grind
   ·exact(hw c e).symm
 ·by_cases e:c=b
  ·grind
  ·show w'.heap[c]?=some o;rw[hw c e];exact h.o0 c o hc
theorem Zu(w:World)(a:Addr)(v:Value)(c:Nat):(w.setCell a v).heap[c]?=if c=a.block then (w.heap[c]?).map (fun| .cells cs e fr=>.cells (if a.spot.isSome then cs else cs.setIfInBounds a.off v) e fr|o=>o) else w.heap[c]?:=by
 simp only[World.setCell,Array.getElem?_modify];grind
theorem Sat.store(h:Sat I S w)(hj:gt S j= .cells b vs t){a:Addr}(hs:dS a b)(v:Value):
  Sat I (gn S j (.cells b (vs.set a.off v) t)) (w.setCell a v):=by
 have hb:=h.cells hj;obtain⟨e1,e2⟩:=hs;refine h.write (b:=b) (fun o ho=>by rw[hj]at ho;exact ho.1) (fun c hc=>?_) (by simp[World.setCell]) (fun o ho=>?_)
 ·rw[Zu];simp[*]
 ·rw[hj]at ho;refine⟨ho.1,?_⟩;show(w.setCell a v).heap[b]?=_;rw[Zu];simp[*]
theorem Sat.setObj(h:Sat I S w){o:Obj}(hj:gt S j= .iT b o)(o':Obj):
  Sat I (gn S j (.iT b o')) {w with heap:=w.heap.setIfInBounds b o'}:=by
 have hb:=h.iT hj;have bP:b<w.heap.size:=by
  grind
 refine h.write (b:=b) (fun o ho=>by rw[hj]at ho;exact ho.1) (fun c hc=>?_) aM (fun o ho=>?_)
 ·grind
 ·rw[hj]at ho;refine⟨ho.1,?_⟩;show(w.heap.setIfInBounds b o')[b]?=_;simp[*]
theorem alf(I:a7)(h:Hp)(o:w8)(b:Nat)(ob:Obj)(ho:o b)(hh:h b=some ob):(mkAtom b ob).holds I h o:=by
 unfold mkAtom;split
 ·exact⟨ho,af⟩
 ·exact⟨ho,hh⟩
theorem aiB(w:World)(ob:Obj)(c:Nat):({w with heap:=w.heap.push ob}:World).heap[c]?=if c=w.heap.size then some ob else w.heap[c]?:=by
 grind
theorem Sat.new(h:Sat I S w)(j:Nat)(ob:Obj):Sat I (gn S j (mkAtom w.heap.size ob)) {w with heap:=w.heap.push ob}:=by
 obtain⟨f,h1,h2,h3⟩:=h.mN;have gx:∀i b,f i b->b≠w.heap.size:=fun i b hb e=>by grind
 have arw:I w.heap.size=none:=by
  cases hI:I w.heap.size with
  |none=>rfl
  |some o=>
   have:=h.o0 _ _ hI;simp[hp]at this
 refine⟨⟨fun i b=>if i=j then b=w.heap.size else f i b,fun i=>?_,fun i i' b hb l8=>?_,fun i b hb=>?_⟩,fun c o hc=>?_⟩
 ·rw[vM];by_cases hi:i=j
  ·subst hi;simp only[if_true];exact alf _ _ _ _ _ rfl (by show({w with heap:=w.heap.push ob}:World).heap[_]?=_;simp[*])
  ·simp only[hi,if_false];refine ai.local (fun c hc=>?_) (h1 i);show w.heap[c]?=({w with heap:=w.heap.push ob}:World).heap[c]?;grind
 ·grind
 ·grind
 ·show({w with heap:=w.heap.push ob}:World).heap[c]?=some o;rw[aiB];by_cases e:c=w.heap.size
  ·grind
  ·simp[e];exact h.o0 c o hc
theorem Sat.heap(h:Sat I S w)(e:w'.heap=w.heap):Sat I S w':=by
 have eh:hp w'=hp w:=by unfold hp;rw[e]
 exact⟨by rw[eh,e];exact h.mN,by rw[eh];exact h.o0⟩
theorem Zc{a:Addr}(h:w.heap[a.block]?=some (.cells ⟨vs⟩ t (0,0))):w.frozen? a=false:=by
 unfold World.frozen?;simp[h]
theorem DC{a:Addr}(hs:dS a b)(h:w.heap[b]?=some (.cells ⟨vs⟩ t (0,0))):w.cell? a=vs[a.off]?:=by
 obtain⟨e1,e2⟩:=hs;unfold World.cell?;simp[*]
theorem Xx{K:Value->Prop}{s:jE}(h:s.ex K):∃v,K v:=by
 cases s <;> simp only[jE.ex]at h
 all_goals grind
section
variable{P:Program}
theorem yC(h:Sat I S w):∀(s:Sem α)(hs:List LH)(k:α->Prop),rd P S s hs k->∃a,s.run P w= .ok a w/\k a:=by
 intro s
 induction s with
 |pure a=>intro hs k hk;exact⟨a,rfl,hk⟩
 |program f ih=>intro hs k hk;exact ih P hs k hk
 |mark m s ih=>intro hs k hk;exact ih hs k hk
 |load m a f ih=>
  intro hs k hk;cases hs with
  |nil=>simp only[rd]at hk
  |cons x hs=>
   cases x with
   | z00 j=>
    simp only[rd]at hk;split at hk
    ·rename_i b vs t hj
     obtain⟨xS,hk⟩:=hk;have hc:=DC xS (h.cells hj);split at hk
     ·rename_i v hv
      obtain⟨u,h1,h2⟩:=ih v hs k hk;refine⟨u,?_,h2⟩;simp only[Sem.run,hc,hv];exact h1
     grind
    grind
   |ex j sh=>
    simp only[rd]at hk;obtain⟨v,hl,hk⟩:=Xx hk;obtain⟨u,h1,h2⟩:=ih v hs k hk;refine⟨u,?_,h2⟩;simp only[Sem.run,h.look hl];exact h1
   |nw j=>simp only[rd]at hk
 |_=>intro hs k hk;cases hs <;> simp only[rd]at hk
inductive vv{α:Type}(I:a7)(w:World)(k:α->St->Prop)(kp:Value->St->Prop):Result α->Prop
 |ok (a:α) (w':World) (S':St) (h:Sat I S' w') (e:cE w w') (hk:k a S'):vv I w k kp (.ok a w')
 |panic (v:Value) (w':World) (S':St) (h:Sat I S' w') (e:cE w w') (hk:kp v S'):vv I w k kp (.halt (.panic v) w')
theorem vv.from{w1:World}{k:α->St->Prop}{kp:Value->St->Prop}{r:Result α}(e:cE w w1)(h:vv I w1 k kp r):vv I w k kp r:=by
 cases h with
 |ok a w' S' h e' hk=>exact .ok a w' S' h (e.trans e') hk
 |panic v w' S' h e' hk=>exact .panic v w' S' h (e.trans e') hk
theorem aqo:∀(s:Sem α)(hs:List LH)(S:St)(w:World)(k:α->St->Prop)(kp:Value->St->Prop),Sat I S w->wr P s hs S k kp->vv I w k kp (s.run P w):=by
 intro s
 induction s with
 |pure a=>intro hs S w k kp h hk;exact .ok a w S h (cE.refl w) hk
 |program f ih=>intro hs S w k kp h hk;exact ih P hs S w k kp h hk
 |mark m s ih=>intro hs S w k kp h hk;exact ih hs S w k kp h hk
 |halt x=>
  intro hs S w k kp h hk;cases x with
  |panic v=>exact .panic v w S h (cE.refl w) hk
  |_=>cases hs <;> simp only[wr]at hk
 |load m a f ih=>
  intro hs S w k kp h hk;cases hs with
  |nil=>simp only[wr]at hk
  |cons x hs=>
   cases x with
   | z00 j=>
    simp only[wr]at hk;split at hk
    ·rename_i b vs t hj
     obtain⟨xS,hk⟩:=hk;have hc:=DC xS (h.cells hj);split at hk
     ·rename_i v hv
      simp only[Sem.run,hc,hv];grind
     grind
    grind
   |ex j sh=>
    simp only[wr]at hk;obtain⟨v,hl,hk⟩:=Xx hk;simp only[Sem.run,h.look hl];grind
   |nw j=>simp only[wr]at hk
 |store m a v s ih=>
  intro hs S w k kp h hk;have main:∀(j b:Nat)(vs:List Value)(t:TypeId)(el:List LH),gt S j= .cells b vs t->dS a b->a.off<vs.length->Lp v=true->
    wr P s el (gn S j (.cells b (vs.set a.off v) t)) k kp->vv I w k kp ((Sem.store m a v s).run P w):=by
   intro j b vs t el hj xS bP ajg hk;have hb:=h.cells hj;have hc:=DC xS hb;have RP:w.frozen? a=false:=Zc (by rw[xS.gg];exact hb);have cm:(Sem.store m a v s).run P w=s.run P (w.setCell a v):=by
    have ajF:w.cell? a=some vs[a.off]:=by simp[*]
    cases v <;> first
     | (simp only[Sem.run,ajF,RP,Bool.false_eq_true,if_false];done)
     |exact absurd ajg (by simp[Lp])
   rw[cm];exact vv.from (w1:=w.setCell a v) ap (ih el _ _ k kp (h.store hj xS v) hk)
  cases hs with
  |nil=>cases v <;> simp only[wr]at hk
  |cons x hs=>
   cases x with
   | z00 j=>
    simp only[wr]at hk;split at hk
    all_goals grind
   |ex j sh=>
    simp only[wr]at hk;grind
   |nw j=>simp only[wr]at hk
 |new o f ih=>
  intro hs S w k kp h hk;cases hs with
  |nil=>simp only[wr]at hk
  |cons x hs=>
   cases x with
   |nw j=>
    simp only[wr]at hk;exact vv.from (w1:={w with heap:=w.heap.push o}) ap (ih w.heap.size hs _ _ k kp (h.new j o) (hk _))
   |_=>simp only[wr]at hk
 |shape r f ih=>
  intro hs S w k kp h hk;cases hs with
  |nil=>simp only[wr]at hk
  |cons x hs=>
   cases x with
   | z00 j=>
    simp only[wr]at hk;split at hk
    ·rename_i b vs t hj
     obtain⟨rfl,hk⟩:=hk;have hb:=h.cells hj;have:w.shape? r=some (t,vs.length):=by unfold World.shape?;simp[hb]
     simp only[Sem.run,this];grind
    grind
   |_=>simp only[wr]at hk
 |frozen a f ih=>
  intro hs S w k kp h hk;cases hs with
  |nil=>simp only[wr]at hk
  |cons x hs=>
   cases x with
   | z00 j=>
    simp only[wr]at hk;split at hk
    ·rename_i b vs t hj
     obtain⟨xS,hk⟩:=hk;have RP:w.frozen? a=false:=Zc (by rw[xS.gg];exact h.cells hj);simp only[Sem.run,RP];grind
    grind
   |_=>simp only[wr]at hk
 |getObj r f ih=>
  intro hs S w k kp h hk;cases hs with
  |nil=>simp only[wr]at hk
  |cons x hs=>
   cases x with
   | z00 j=>
    simp only[wr]at hk;split at hk
    ·grind
    ·rename_i b o dP hj
     obtain⟨rfl,hk⟩:=hk;have hb:=h.iT hj;have:(Sem.getObj r f).run P w=(f o).run P w:=by
      simp only[Sem.run,hb]
     grind
    grind
   |_=>simp only[wr]at hk
 |setObj r o' s ih=>
  intro hs S w k kp h hk;cases hs with
  |nil=>simp only[wr]at hk
  |cons x hs=>
   cases x with
   | z00 j=>
    simp only[wr]at hk;split at hk
    ·grind
    ·rename_i b o dP hj
     obtain⟨rfl,hk⟩:=hk;have hb:=h.iT hj;have:(Sem.setObj r o' s).run P w=s.run P {w with heap:=w.heap.setIfInBounds r o'}:=by
      simp only[Sem.run,hb]
     rw[this];exact vv.from (w1:={w with heap:=w.heap.setIfInBounds r o'}) ap (ih hs _ _ k kp (h.setObj hj o') hk)
    grind
   |_=>simp only[wr]at hk
 |_=>intro hs S w k kp h hk;cases hs <;> simp only[wr]at hk
end
end
section
open Go
theorem Ku(bF:List Nat)(S:St)(j:Nat):gt (nT bF S) j=if j∈bF then .dT else gt S j:=by
 induction bF generalizing S with
 |nil=>simp[nT]
 |cons k r ih=>
  simp only[nT,ih,vM,List.mem_cons];grind
theorem Lm{l:List Nat}(h:nodupB l=true):l.Nodup:=by
 induction l with
 |nil=>exact List.nodup_nil
 |cons j r ih=>
  simp only[nodupB,kT,List.all_eq_true]at h;refine List.nodup_cons.2 ⟨fun hm=>?_,ih h.2⟩;have:=h.1 j hm;simp at this
structure Dd(I:a7)(S:St)(l:List ai)(w:World):Prop where
 mN:∃f g:Nat->w8,(∀j,(gt S j).holds I (hp w) (f j))/\(∀i,(l.getD i .dT).holds I (hp w) (g i))/\(∀i j b,f i b->f j b->i=j)/\(∀i j b,g i b->g j b->i=j)/\
  (∀i j b,f i b->g j b->False)/\(∀j b,f j b->I b=none/\b<w.heap.size)/\(∀j b,g j b->I b=none/\b<w.heap.size)
 o0:FD I (hp w)
variable{C:aR}{I:a7}{l:List ai}{out bF:List Nat}{o:Oper}{S:St}{T:Tm}{k:Value->Prop}{w:World}
theorem Dd.nil(h:Dd I S l w):Sat I S w:=by
 obtain⟨f,g,h1,_,h3,_,_,h6,_⟩:=h.mN;exact⟨⟨f,h1,h3,h6⟩,h.o0⟩
theorem Dd.cons{A:ai}(h:Dd I S (A::l) w)(j:Nat):Dd I (gn S j A) l w:=by
 obtain⟨f,g,h1,h2,h3,h4,h5,h6,h7⟩:=h.mN;refine⟨⟨fun i b=>if i=j then g 0 b else f i b,fun i b=>g (i+1) b,fun i=>?_,fun i=>?_,fun i i' b hb l8=>?_,fun i i' b hb l8=>?_,fun i i' b hb l8=>?_,fun i b hb=>?_,fun i b hb=>h7 _ b hb⟩,h.o0⟩
 ·rw[vM];by_cases hi:i=j
  ·simp only[hi,if_true];simpa using h2 0
  simp[*]
 all_goals grind
theorem aep(out:List Nat):∀(l:List ai)(S:St),Dd I S l w->Sat I (pR out l S) w:=by
 induction out with
 |nil=>intro l S h;simpa[pR]using h.nil
 |cons j r ih=>
  intro l S h;cases l with
  |nil=>simpa[pR]using h.nil
  |cons A l=>simpa[pR]using ih l _ (h.cons j)
theorem Sat.part(h:Sat I S w)(hn:bF.Nodup):Sat I (bD (bF.map (gt S)++[.dv (rest S bF)])) w:=by
 obtain⟨f,h1,h2,h3⟩:=h.mN;have jo:(bF.map (gt S)).length=bF.length:=aM;refine⟨⟨fun i b=>(∃h:i<bF.length,f bF[i] b)\/(i=bF.length/\∃j,j∉bF/\f j b),fun i=>?_,fun i i' b hb l8=>?_,fun i b hb=>?_⟩,h.o0⟩
 ·rw[vL,fD];rcases Nat.lt_trichotomy i bF.length with hi|hi|hi
  ·rw[rB af];simp only[gw,gv hi,Option.map_some,Option.getD_some];refine ai.local (h:=hp w) (fun b _=>rfl) ?_;have:=h1 bF[i];have e:(fun b=>(∃h:i<bF.length,f bF[i] b)\/(i=bF.length/\∃j,j∉bF/\f j b))=f bF[i]:=by
    grind
   grind
  ·subst hi;rw[sR aM];simp only[jo,Nat.sub_self,List.getElem?_cons_zero,Option.getD_some];refine⟨fun j b=>j∉bF/\f j b,fun j=>?_,fun i j b hb l8=>h2 _ _ _ hb.2 l8.2,fun j b hb=>.inr ⟨by first|rfl|trivial,j,hb.1,hb.2⟩⟩;rw[Ku];by_cases hj:j∈bF
   ·simp only[hj,if_true];trivial
   simp[*]
  ·rw[sR (by simp;omega)];have:i-(bF.map (gt S)).length=(i-bF.length-1)+1:=by simp;omega
   rw[this];simp;trivial
 ·rcases hb with⟨hi,hb⟩| ⟨hi,j,hj,hb⟩ <;> rcases l8 with⟨sZ,l8⟩| ⟨sZ,j',hj',l8⟩
  ·have:=h2 _ _ _ hb l8;have R8:=List.pairwise_iff_getElem.1 hn;grind
  all_goals grind
 grind
theorem Sat.aab{J:a7}{post:List ai}(h:Sat J (bD (post++[.dv (rest S bF)])) w):Sat J (pR out post (nT bF S)) w:=by
 obtain⟨g,h1,h2,h3⟩:=h.mN;have hr:=h1 post.length;rw[vL,fD,sR (cr _)]at hr;simp only[Nat.sub_self,List.getElem?_cons_zero,Option.getD_some]at hr;obtain⟨f,f1,f2,f3⟩:=hr;refine aep out post _ ⟨⟨f,fun i b=>i<post.length/\g i b,f1,fun i=>?_,f2,fun i j b hb l8=>h2 _ _ _ hb.2 l8.2,fun i j b hb l8=>?_,fun j b hb=>h3 _ _ (f3 j b hb),fun j b hb=>h3 _ _ hb.2⟩,h.o0⟩
 ·by_cases hi:i<post.length
  ·have:=h1 i;rw[vL,fD,rB hi]at this;have e:(fun b=>i<post.length/\g i b)=g i:=by simp[*]
   grind
  ·have e:post.getD i .dT= .dT:=by simp[*]
   rw[e];trivial
 grind
section
variable{P:Program}{N:Nat}
theorem JX{x:C.X}{Φ:C.Y->Prop}:QF C x Φ↔∀y,C.cd x y->Φ y:=by
 unfold QF;cases C.sum with
 |none=>exact Iff.rfl
 |some q=>
  obtain⟨A,B,f,g,Yz⟩:=q;refine⟨fun h y hy=>?_,fun h=>⟨fun a=>h _,fun b=>h _⟩⟩;rcases Yz y with⟨a,rfl⟩| ⟨b,rfl⟩
  all_goals grind
theorem apQ{f:FuncId}{args:Array Value}{k:Value->St->Prop}{kp:List PanicEntry->St->Prop}
  (ii:lB P f C) (hn:nodupB bF=true) (h:Sat I S w) (hu:IU C args.toList bF out S k kp):
  Calls P f args w fun e w'=>∃J S',a7.le I J/\Sat J S' w'/\cE w w'/\match e with| .returned v=>k v S'| .panicked ch=>kp ch S'| .outgrown=>False:=by
 obtain⟨x,ha,hp,hc,hr,hk⟩:=hu;have hs:=h.part (Lm hn);rw[hp]at hs;have:=ii.h x _ I w hc hr hs;have e:(⟨C.args x⟩:Array Value)=args:=by rw[<-ha]
 rw[e]at this;refine this.mono ?_;rintro e w' ⟨y,J,bw,rfl,bS,qw,ft⟩;refine⟨J,_,bS,qw.aab (out:=out),ft,?_⟩;have:=JX.1 hk y bw;omega
theorem dA{i:IntKind}{n:Int}(hn:vW i n):i.wrap n=n:=by
  cases i <;> simp only[vW]at hn <;> simp only[IntKind.wrap,IntKind.bits,IntKind.signed,Bool.true_and,nh,Bool.false_eq_true,if_false,Int.reducePow,Nat.reduceSub] <;>
    first
      |omega
      | (split
         · have:=l7 ‹_›;omega
         · rename_i hh
           have:¬_:=fun h=>hh (bG h);omega)
theorem ajU:i64.max=9223372036854775807:=by decide
theorem agc(h:DD P o.op T k)(w:World):∃v,(execOp (ev T) o).run P w= .ok (.value v) w/\k v:=by
 unfold DD at h;split at h
 ·rename_i x y _ cv
  split at h
  ·rename_i i a j b hx hy
   split at h
   ·rename_i s7
    obtain rfl:=l7 s7;obtain⟨hr,hk⟩:=h;exact⟨_,by simp[execOp,cv,hx,hy,eqGuard,binOp,Op.intArith,dA hr,pure,Sem.run,bind,Sem.bind],hk⟩
   grind
  ·rename_i s t hx hy
   obtain⟨hr,hk⟩:=h;have:¬((9223372036854775807:Int)<(s.size:Int)+t.size):=af;exact⟨_,by simp[execOp,cv,hx,hy,eqGuard,binOp,Op.stringOp,ajU,this,pure,Sem.run,bind,Sem.bind],hk⟩
  grind
 ·rename_i x y _ cv
  split at h
  ·rename_i i a j b hx hy
   split at h
   ·rename_i s7
    obtain rfl:=l7 s7;obtain⟨hr,hk⟩:=h;exact⟨_,by simp[execOp,cv,hx,hy,eqGuard,binOp,Op.intArith,dA hr,pure,Sem.run,bind,Sem.bind],hk⟩
   grind
  grind
 ·rename_i x y _ cv
  split at h
  ·rename_i i a j b hx hy
   split at h
   ·rename_i s7
    obtain rfl:=l7 s7;obtain⟨hr,hk⟩:=h;exact⟨_,by simp[execOp,cv,hx,hy,eqGuard,binOp,Op.intArith,dA hr,pure,Sem.run,bind,Sem.bind],hk⟩
   grind
  grind
 ·rename_i x y _ cv
  split at h
  ·rename_i i a j b hx hy
   split at h
   ·rename_i s7
    obtain rfl:=l7 s7;obtain⟨hb,hr,hk⟩:=h;exact⟨_,by simp[execOp,cv,hx,hy,eqGuard,binOp,Op.intDiv,hb,dA hr,pure,Sem.run,bind,Sem.bind],hk⟩
   grind
  grind
 ·rename_i x y _ cv
  split at h
  ·rename_i i a j b hx hy
   split at h
   ·rename_i s7
    obtain rfl:=l7 s7;obtain⟨hb,hk⟩:=h;exact⟨_,by simp[execOp,cv,hx,hy,eqGuard,binOp,Op.intDiv,hb,pure,Sem.run,bind,Sem.bind],hk⟩
   grind
  grind
 ·rename_i s d x cv
  split at h
  ·rename_i u i j a hs hd hx
   obtain⟨hr,hk⟩:=h;exact⟨_,by simp[execOp,cv,hx,convert,run_underlying hs,run_underlying hd,Conv.intToInt,dA hr,Sem.run],hk⟩
  grind
 grind
theorem ake(h:D8 P o.op T k)(w:World):∃v,(execOp (ev T) o).run P w= .ok (.value v) w/\k v:=by
 unfold D8 at h;have KC:∀b off m:Nat,(⟨b,off,none⟩:Addr).add m=⟨b,off+m,none⟩:=by
  intro b off m;unfold Addr.add;simp[*]
 split at h
 ·rename_i t x i cv
  split at h
  ·rename_i e ht
   split at h
   ·rename_i cy b off len cap kk n hi hx hn
    obtain⟨⟨h0,h1⟩,hk⟩:=h;have gx:P.cellsOf e=cy.size:=by unfold Program.cellsOf;simp[hi]
    exact⟨_,by simp[execOp,cv,hx,hn,Instr.indexAt,asIntOf,run_underlying ht,run_sizeOf w hi,gx,h0,h1,KC,Sem.run],hk⟩
   grind
  ·rename_i m e ht
   split at h
   ·rename_i cy b off kk n hi hx hn
    obtain⟨⟨h0,h1⟩,hk⟩:=h;have gx:P.cellsOf e=cy.size:=by unfold Program.cellsOf;simp[hi]
    exact⟨_,by simp[execOp,cv,hx,hn,Instr.indexAt,Instr.sureAddr,asIntOf,run_underlying ht,run_sizeOf w hi,gx,h0,h1,KC,Sem.run],hk⟩
   grind
  grind
 grind
theorem aoX(h:Fk P o.op T k)(w:World):∃v,(execOp (ev T) o).run P w= .ok (.value v) w/\k v:=by
 unfold Fk at h;split at h
 ·rename_i t x i cv
  split at h
  ·rename_i s kk n ht hx hn
   obtain⟨⟨h0,h1⟩,hk⟩:=h;have bP:n.toNat<s.size:=af;have hg:s[n.toNat]?=some s[n.toNat]:=by simp[bP]
   have hb:(s[n.toNat].toNat:Int)=aE s n:=by
    unfold aE;simp[fD,ByteArray.getElem_eq_getElem_data,Array.getElem?_eq_getElem (show n.toNat<s.data.size from bP)]
   refine⟨_,?_,hk⟩;rw[<-hb];simp[execOp,cv,hx,hn,Instr.index,asIntOf,run_underlying ht,h0,hg,Sem.run]
  grind
 grind
theorem J7(v:Value)(kk:IntKind)(n:Int)(hv:v= .int kk n)(y:Nat)(code:BoundsCode)(h0:0<=n)(h1:n<=y)(w:World):(Instr.sliceBound v y code).run P w= .ok n.toNat w:=by
 subst hv;simp[Instr.sliceBound,asIntOf,h0,h1,Sem.run]
theorem aa4{x:Option Operand}{d v:Int}(h:ll T d x=some v):(x=none/\v=d)\/∃y kk,x=some y/\ev T y= .int kk v:=by
 cases x with
 |none=>simp only[ll,Option.some.injEq]at h;exact .inl ⟨rfl,h.symm⟩
 |some y=>
  simp only[ll]at h;grind
theorem QQ(Su:Bool){lo hi:Option Operand}{len cap:Nat}{l h:Int}(hl:ll T 0 lo=some l)(hh:ll T len hi=some h)(h0:0<=l)(h1:l<=h)(h2:h<=cap)(w:World):
  (Instr.sliceBounds Su len cap (lo.map (ev T)) (hi.map (ev T)) none).run P w= .ok (l.toNat,h.toNat,cap) w:=by
 have hn:((h.toNat:Nat):Int)=h:=af;rcases aa4 hl with⟨rfl,rfl⟩| ⟨x,kx,rfl,hx⟩ <;> rcases aa4 hh with⟨rfl,rfl⟩| ⟨y,ky,rfl,hy⟩
 ·rfl
 ·have hb:=J7 (P:=P) _ ky h hy cap (if Su then .sliceAcap else .sliceAlen) af h2 w;simp[Instr.sliceBounds,Sem.run,hb]
 ·have hb:=J7 (P:=P) _ kx l hx len .sliceB h0 h1 w;simp[Instr.sliceBounds,Sem.run,hb]
 ·have hb:=J7 (P:=P) _ ky h hy cap (if Su then .sliceAcap else .sliceAlen) af h2 w;have hc:=J7 (P:=P) _ kx l hx h.toNat .sliceB h0 af w;simp[Instr.sliceBounds,Sem.run,hb,hc]
theorem ao2(h:Fm P o.op T k)(w:World):∃v,(execOp (ev T) o).run P w= .ok (.value v) w/\k v:=by
 unfold Fm at h;have KC:∀b off m:Nat,(⟨b,off,none⟩:Addr).add m=⟨b,off+m,none⟩:=by
  intro b off m;unfold Addr.add;simp[*]
 split at h
 ·rename_i t x lo hi cv
  split at h
  ·rename_i ht
   split at h
   ·rename_i s hx
    split at h
    ·rename_i l hh hl sY
     obtain⟨⟨h0,h1,h2⟩,hk⟩:=h;have hb:=QQ (P:=P) false hl sY h0 h1 h2 w;refine⟨_,?_,hk⟩;simp[execOp,cv,hx,Instr.sliceAt,Instr.slice,run_underlying ht,hb,Sem.run]
    grind
   grind
  ·rename_i e ht
   split at h
   ·rename_i cy b off len cap sZ hx
    split at h
    ·rename_i l hh hl sY
     obtain⟨⟨h0,h1,h2,bP⟩,hk⟩:=h;have hb:=QQ (P:=P) true hl sY h0 h1 h2 w;have gx:P.cellsOf e=cy.size:=by unfold Program.cellsOf;simp[*]
     have jI:¬cap=l.toNat:=af;refine⟨_,?_,hk⟩;simp[execOp,cv,hx,Instr.sliceAt,Instr.slice,run_underlying ht,hb,run_sizeOf w sZ,gx,jI,KC,Sem.run]
    grind
   grind
  grind
 grind
theorem ao5(h:N8 P o.op T k)(w:World):∃v,(execOp (ev T) o).run P w= .ok (.value v) w/\∀v,k v:=by
 unfold N8 at h;split at h
 ·rename_i t x lo hi cv
  split at h
  ·rename_i e ad len cap ht hx
   split at h
   ·rename_i cy l hh sZ hl sY
    obtain⟨⟨h0,h1,h2⟩,hk⟩:=h;have hb:=QQ (P:=P) true hl sY h0 h1 h2 w;have gx:P.cellsOf e=cy.size:=by unfold Program.cellsOf;simp[*]
    refine⟨.slice (if cap=l.toNat then some ad else some (ad.add (l.toNat*cy.size))) (hh.toNat-l.toNat) (cap-l.toNat),?_,hk⟩;simp[execOp,cv,hx,Instr.sliceAt,Instr.slice,run_underlying ht,hb,run_sizeOf w sZ,gx,Sem.run]
   grind
  grind
 grind
end
end
section
open Go
structure fh(N:Nat)(I:a7)(w0:World)(ds:List Deferred)(K:Tm->St->Prop)(a:Act)(w:World):Prop where
 h:∃T S J,dM N T a/\a.defers=ds/\a7.le I J/\Sat J S w/\cE w0 w/\K T S
variable{a:Act}{next:Act->World->Prop}{aN:Array Oper}{t:Bool}{Q:Exit->Act->World->Prop}{I:a7}{ds:List Deferred}{kp:List PanicEntry->Tm->St->Prop}{d j:Nat}{o:Oper}{S:St}{T:Tm}{K:Tm->St->Prop}{α:Type}{v:Value}{k:Value->Prop}{w w0:World}
theorem fh.from{N:Nat}{J:a7}{w1:World}(h:fh N J w1 ds K a w)(bS:a7.le I J)(he:cE w0 w1):fh N I w0 ds K a w:=by
 obtain⟨T,S,J',h1,h2,h3,h4,h5,h6⟩:=h;exact⟨T,S,J',h1,h2,a7.le_trans bS h3,h4,he.trans h5,h6⟩
theorem fh.mono{N:Nat}{K':Tm->St->Prop}(h:fh N I w0 ds K a w)(hk:∀T S,K T S->K' T S):fh N I w0 ds K' a w:=by
 obtain⟨T,S,J',h1,h2,h3,h4,h5,h6⟩:=h;exact⟨T,S,J',h1,h2,h3,h4,h5,hk _ _ h6⟩
section
variable{P:Program}{N:Nat}
theorem Br.cases{A B:Prop}(h:Br t A B):(t=true/\A)\/(t=false/\B):=by
 cases t
 ·exact .inr ⟨rfl,h⟩
 ·exact .inl ⟨rfl,h⟩
theorem Wz:∀(s:Sem α)(hs:List LH){k k':α->Prop},rd P S s hs k->(∀a,k a->k' a)->rd P S s hs k':=by
 intro s
 induction s with
 |pure a=>intro hs k k' h hk;exact hk _ h
 |program f ih=>intro hs k k' h hk;exact ih P hs h hk
 |mark m s ih=>intro hs k k' h hk;exact ih hs h hk
 |load m a f ih=>
  intro hs k k' h hk;cases hs with
  |nil=>simp only[rd]at h
  |cons x hs=>
   cases x with
   | z00 j=>
    simp only[rd]at h⊢;split at h
    all_goals grind
   |ex j sh=>
    simp only[rd]at h⊢;cases sh <;> simp only[jE.ex]at h⊢
    all_goals grind
   |nw j=>simp only[rd]at h
 |_=>intro hs k k' h hk;cases hs <;> simp only[rd]at h
theorem anT:∀(s:Sem α)(hs:List LH){k:α->Prop},rd P S s hs k->∃a,rd P S s hs (·=a)/\k a:=by
 intro s
 induction s with
 |pure a=>intro hs k h;exact⟨a,rfl,h⟩
 |program f ih=>intro hs k h;exact ih P hs h
 |mark m s ih=>intro hs k h;exact ih hs h
 |load m a f ih=>
  intro hs k h;cases hs with
  |nil=>simp only[rd]at h
  |cons x hs=>
   cases x with
   | z00 j=>
    simp only[rd]at h⊢;split at h
    ·have h2:=h.2;split at h2
     all_goals grind
    grind
   |ex j sh=>
    simp only[rd]at h⊢;cases sh <;> simp only[jE.ex]at h⊢
    all_goals grind
   |nw j=>simp only[rd]at h
 |_=>intro hs k h;cases hs <;> simp only[rd]at h
theorem abw{S':St}{k:α->Prop}:∀(s:Sem α)(hs:List LH),(∀j,j∈cP hs->gt S j=gt S' j)->rd P S s hs k->rd P S' s hs k:=by
 intro s
 induction s with
 |pure a=>intro hs he h;exact h
 |program f ih=>intro hs he h;exact ih P hs he h
 |mark m s ih=>intro hs he h;exact ih hs he h
 |load m a f ih=>
  intro hs he h;cases hs with
  |nil=>simp only[rd]at h
  |cons x hs=>
   cases x with
   | z00 j=>
    have e:=he j (by simp[cP]);have BD:∀i,i∈cP hs->gt S i=gt S' i:=fun i hi=>he i (by simp[cP,hi]);simp only[rd]at h⊢;rw[<-e];split at h
    all_goals grind
   |ex j sh=>
    have e:=he j (by simp[cP]);have BD:∀i,i∈cP hs->gt S i=gt S' i:=fun i hi=>he i (by simp[cP,hi]);simp only[rd]at h⊢;rw[<-e];cases sh <;> simp only[jE.ex]at h⊢
    all_goals grind
   |nw j=>simp only[rd]at h
 |_=>intro hs he h;cases hs <;> simp only[rd]at h
def Du(P:Program)(o:Oper)(T:Tm)(w:World)(v:Value):Prop:=
 (execOp (ev T) o).run P w= .ok (.value v) w\/((execOp (ev T) o).run P w= .ok .skip w/\v=undef)
theorem Du.apH{u:Value}(h:Du P o T w u)(h':Du P o T w v):u=v:=by
 rcases h with h| ⟨h,rfl⟩ <;> rcases h' with h'| ⟨h',rfl⟩
 all_goals grind
theorem Ip{h:OH}(hr:lT P o h T S k):∃v,lT P o h T S (·=v)/\k v:=by
 unfold lT at hr;split at hr
 ·rename_i hs
  obtain⟨nx,h1,h2⟩:=anT _ _ hr;cases nx <;> first
   |exact h2.elim
   |exact⟨_,Wz _ _ h1 (fun a e=>by subst e;rfl),h2⟩
 ·rename_i C
  obtain⟨ii,x,ha,hc,hk⟩:=hr;exact⟨_,⟨ii,x,ha,hc,rfl⟩,hk⟩
 ·unfold lT;split at hr
  ·rename_i c x y cv
   split at hr
   ·rename_i t hc
    simp only[cv,hc];rcases Br.cases hr with⟨rfl,hk⟩| ⟨rfl,hk⟩
    ·exact⟨_,(rfl:_=_),hk⟩
    ·exact⟨_,(rfl:_=_),hk⟩
   grind
  grind
 ·unfold lT DD at*;split at hr
  ·rename_i x y _ cv
   split at hr
   all_goals grind
  ·rename_i x y _ cv
   split at hr
   all_goals grind
  ·rename_i x y _ cv
   split at hr
   all_goals grind
  ·rename_i x y _ cv
   split at hr
   all_goals grind
  ·rename_i x y _ cv
   split at hr
   all_goals grind
  ·rename_i s d x cv
   split at hr
   all_goals grind
  grind
 ·unfold lT D8 at*;split at hr
  ·rename_i t x i cv
   split at hr
   ·rename_i e ht
    split at hr
    all_goals grind
   ·rename_i m e ht
    split at hr
    all_goals grind
   grind
  grind
 ·unfold lT Fk at*;split at hr
  ·rename_i t x i cv
   split at hr
   all_goals grind
  grind
 ·unfold lT Fm at*;split at hr
  ·rename_i t x lo hi cv
   split at hr
   ·rename_i ht
    split at hr
    ·rename_i s hx
     split at hr
     all_goals grind
    grind
   ·rename_i e ht
    split at hr
    ·rename_i cy b off len cap sZ hx
     split at hr
     all_goals grind
    grind
   grind
  grind
 grind
theorem Wv{h:OH}{k':Value->Prop}(hr:lT P o h T S k)(hk:∀v,k v->k' v):lT P o h T S k':=by
 unfold lT at*;split at hr
 ·refine Wz _ _ hr fun nx h=>?_;grind
 ·grind
 ·split at hr
  ·rename_i c x y cv
   split at hr
   ·rename_i t hc
    rcases Br.cases hr with⟨rfl,h⟩| ⟨rfl,h⟩
    ·exact hk _ h
    ·exact hk _ h
   omega
  omega
 ·unfold DD at*;split at hr <;> first
   |exact hr.elim
   | (split at hr <;> first
     |exact hr.elim
     |exact⟨hr.1,hk _ hr.2⟩
     | (split at hr <;> first
       |exact hr.elim
       |exact⟨hr.1,hr.2.1,hk _ hr.2.2⟩
       |exact⟨hr.1,hk _ hr.2⟩))
 ·unfold D8 at*;split at hr
  ·split at hr
   all_goals grind
  omega
 ·unfold Fk at*;split at hr
  all_goals grind
 ·unfold Fm at*;split at hr
  ·split at hr
   ·split at hr
    all_goals grind
   ·split at hr
    all_goals grind
   omega
  omega
 omega
theorem NY{h:OH}(hr:lT P o h T S k)(hs:Sat I S w):∃v,Du P o T w v/\k v:=by
 unfold lT at hr;split at hr
 ·obtain⟨nx,cm,hk⟩:=yC hs _ _ _ hr;cases nx <;> first
   |exact hk.elim
   |exact⟨_,.inl cm,hk⟩
   |exact⟨_,.inr ⟨cm,rfl⟩,hk⟩
 ·obtain⟨ii,x,ha,hc,hk⟩:=hr;exact⟨_,.inl (ii.h x w (ev T) ha hc),hk⟩
 ·split at hr
  ·rename_i c x y cv
   split at hr
   ·rename_i t hc
    have cm:(execOp (ev T) o).run P w= .ok (.value (if t then ev T x else ev T y)) w:=by
     simp[execOp,cv,hc,asBool,Sem.run]
    rcases Br.cases hr with⟨rfl,hk⟩| ⟨rfl,hk⟩
    ·exact⟨_,.inl cm,hk⟩
    ·exact⟨_,.inl cm,hk⟩
   grind
  grind
 ·obtain⟨v,cm,hk⟩:=agc hr w;exact⟨v,.inl cm,hk⟩
 ·obtain⟨v,cm,hk⟩:=ake hr w;exact⟨v,.inl cm,hk⟩
 ·obtain⟨v,cm,hk⟩:=aoX hr w;exact⟨v,.inl cm,hk⟩
 ·obtain⟨v,cm,hk⟩:=ao2 hr w;exact⟨v,.inl cm,hk⟩
 grind
theorem Du.upon(h:Du P o T w v)(hn:next (a.put o.dst v) w):
  o.upon P a next Q ((execOp (ev T) o).run P w):=by
 rcases h with h| ⟨h,rfl⟩
 ·rw[h];exact hn
 ·rw[h];exact hn
theorem anI:∀(s:Sem α){a:α}(w:World),Er P s=some a->s.run P w= .ok a w:=by
 intro s
 induction s with
 |pure a=>intro b w h;simp only[Er,Option.some.injEq]at h;subst h;rfl
 |program f ih=>intro b w h;exact ih P w h
 |mark m s ih=>intro b w h;exact ih w h
 |_=>intro b w h;simp[Er]at h
theorem afe:∀(s:Sem α){ob:Obj}{f:Nat->Sem α}(w:World),Be P s=some (ob,f)->s.run P w=(f w.heap.size).run P {w with heap:=w.heap.push ob}:=by
 intro s
 induction s with
 |new o g ih=>intro ob f w h;simp only[Be,Option.some.injEq,Prod.mk.injEq]at h;obtain⟨rfl,rfl⟩:=h;rfl
 |program f ih=>intro ob g w h;exact ih P w h
 |mark m s ih=>intro ob g w h;exact ih w h
 |_=>intro ob g w h;simp[Be]at h
theorem Lq{h:OH}{k:Tm->St->Prop}
  (hr:o5 P N o h T S k kp) (bw:dM N T a) (hd:a.defers=ds) (hs:Sat I S w)
  (qt:∀a' w',fh N I w ds k a' w'->next a' w') (hQ:∀ch a' w',fh N I w ds (kp ch) a' w'->Q (.panic ch) a' w'):o.wp P a w next Q:=by
 unfold Oper.wp;rw[bw.eval];unfold o5 at hr;split at hr
 ·exact hr.no.elim
 ·have hw:=aqo _ _ _ _ _ _ hs hr;cases cm:(execOp (ev T) o).run P w with
  |ok nx w'=>
   rw[cm]at hw;cases hw with
   |ok _ _ S' el he hk=>
    split at hk
    ·exact qt _ _ ⟨_,S',I,bw.put _ _,by simp[*],a7.le_refl I,el,he,hk⟩
    ·exact qt _ _ ⟨_,S',I,bw.put _ _,by simp[*],a7.le_refl I,el,he,hk⟩
    grind
  |halt x w'=>
   rw[cm]at hw;cases hw with
   |panic v _ S' el he hk=>exact hQ _ _ _ ⟨_,S',I,bw,hd,a7.le_refl I,el,he,hk⟩
 ·rename_i j _
  split at hr
  ·rename_i ob f RA
   have hb:=hr w.heap.size;split at hb
   ·rename_i v hv
    rw[afe _ w RA,anI _ _ hv];exact qt _ _ ⟨_,_,I,bw.put _ _,by simp[*],a7.le_refl I,hs.new j ob,ap,hb⟩
   grind
  grind
 ·obtain⟨nx,cm,hk⟩:=yC hs _ _ _ hr;rw[cm];split at hk
  ·rename_i f args
   obtain⟨ii,hn,hu⟩:=hk;rw[Oper.upon_enter];refine(apQ ii (by grind) hs hu).mono ?_;rintro e w' ⟨J,S',bS,el,he,hk⟩;cases e with
   |returned v=>exact qt _ _ ⟨_,S',J,bw.put _ _,by simp[*],bS,el,he,hk⟩
   |panicked ch=>exact hQ _ _ _ ⟨_,S',J,bw,hd,bS,el,he,hk⟩
   |outgrown=>exact hk.elim
  grind
 ·obtain⟨ii,hn,x,ha,hp,hc,oX,hk⟩:=hr;simp only[kT]at hn;have qv:=hs.part (Lm hn.1);rw[hp]at qv;obtain⟨y,J,w',v,xP,cm,hv,bS,el,he⟩:=ii.h x _ I w (ev T) ha hc oX qv;have:=JX.1 hk y xP;rw[hv]at this;have ZM:next (a.put o.dst v) w':=qt _ _ ⟨_,_,J,bw.put _ _,by simp[*],bS,el.aab (out:=_),he,this⟩
  rcases cm with cm| ⟨cm,rfl⟩
  ·rw[cm];exact ZM
  ·rw[cm];exact ZM
 ·obtain⟨v,cm,hk⟩:=ao5 hr w;rw[cm];exact qt _ _ ⟨_,S,I,bw.put _ _,by simp[*],a7.le_refl I,hs,cE.refl w,hk v⟩
 ·obtain⟨v,hv,hk⟩:=NY hr hs;exact hv.upon (qt _ _ ⟨_,S,I,bw.put _ _,by simp[*],a7.le_refl I,hs,cE.refl w,hk⟩)
theorem dM.again(h:dM N T a)(d:Nat)(e:T.z00 d=v):dM N (dz N (some d) v T) a:=by
 refine h.same fun i=>?_;rw[Es];grind
theorem aqt(h:dM N T a)(hj:(aN[j]?).bind (·.dst)=some d)(ht:T.z00 d= .bool t):yielded aN a.tmps j=some t:=by
 unfold yielded;rw[hj];have hg:=h.get d;rw[ht,pH]at hg;cases hx:a.tmps[d]? with
 |none=>rw[hx]at hg;simp[undef]at hg
 |some x=>
  grind
theorem aqu(h:dM N T a)(hj:(aN[j]?).bind (·.dst)=some d){xs:Array Value}(ht:T.z00 d= .tuple xs):yielded aN a.tmps j=none:=by
 unfold yielded;rw[hj];have hg:=h.get d;rw[ht,pH]at hg;grind
theorem aa2{h:OH}{k:Tm->St->Prop}
  (hr:o6 P N aN o h T S k kp) (bw:dM N T a) (hd:a.defers=ds) (hs:Sat I S w)
  (qt:∀a' w',fh N I w ds k a' w'->next a' w') (hQ:∀ch a' w',fh N I w ds (kp ch) a' w'->Q (.panic ch) a' w'):
  if Region.wanted o (yielded aN a.tmps) then o.wp P a w next Q\/(o.asks P a w/\LetsOut Q) else next (a.put o.dst undef) w:=by
 unfold o6 at hr;split at hr
 ·rename_i hg
  have:Region.wanted o (yielded aN a.tmps)=true:=by unfold Region.wanted;rw[hg]
  rw[if_pos this];exact .inl (Lq hr bw hd hs qt hQ)
 ·rename_i j tZ hg
  split at hr
  ·grind
  ·rename_i d hj
   split at hr
   ·rename_i t ht
    have hy:=aqt bw hj ht;have hw:Region.wanted o (yielded aN a.tmps)=(t==tZ):=by
     unfold Region.wanted;rw[hg];simp only[hy];cases t <;> cases tZ <;> rfl
    rcases Br.cases hr with⟨rfl,hk⟩| ⟨rfl,hk⟩
    ·have oY:=bw.again d ht;cases tZ
     ·rw[hw];simp only[Bool.true_beq,Bool.false_eq_true,if_false];exact qt _ _ ⟨_,S,I,oY.put _ _,by simp[*],a7.le_refl I,hs,cE.refl w,hk⟩
     ·rw[hw];exact .inl (Lq hk oY hd hs qt hQ)
    ·have oY:=bw.again d ht;cases tZ
     ·rw[hw];exact .inl (Lq hk oY hd hs qt hQ)
     ·rw[hw];simp only[Bool.false_beq,Bool.not_true,Bool.false_eq_true,if_false];exact qt _ _ ⟨_,S,I,oY.put _ _,by simp[*],a7.le_refl I,hs,cE.refl w,hk⟩
   ·rename_i xs ht
    have hw:Region.wanted o (yielded aN a.tmps)=false:=by
     unfold Region.wanted;rw[hg];simp only[aqu bw hj ht];rfl
    rw[hw];simp only[Bool.false_eq_true,if_false];exact qt _ _ ⟨_,S,I,bw.put _ _,by simp[*],a7.le_refl I,hs,cE.refl w,hr⟩
   grind
theorem WA{H:Nat->OH}:∀(l:List Nat){T:Tm}{S:St}{k:Tm->St->Prop}{kp:List PanicEntry->Tm->St->Prop}{a:Act}{I:a7}{w:World},
  rg P N H aN l T S k kp->dM N T a->a.defers=ds->Sat I S w->(∀a' w',fh N I w ds k a' w'->Q .normal a' w')->(∀ch a' w',fh N I w ds (kp ch) a' w'->Q (.panic ch) a' w')->
  wpOps P aN Q l a w:=by
 intro l
 induction l with
 |nil=>
  intro T S k kp a I w hr bw hd hs hk _;exact hk _ _ ⟨T,S,I,bw,hd,a7.le_refl I,hs,cE.refl w,hr⟩
 |cons i rest ih=>
  intro T S k kp a I w hr bw hd hs hk hQ;simp only[rg]at hr;simp only[wpOps];split at hr
  ·grind
  ·rename_i o ho
   have:=aa2 (next:=wpOps P aN Q rest) (Q:=Q) hr bw hd hs (fun a' w' bN=>by
    obtain⟨T',S',J,h1,h2,h3,h4,h5,h6⟩:=bN;exact ih h6 h1 h2 h4 (fun a w h=>hk a w (h.from h3 h5)) (fun ch a w h=>hQ ch a w (h.from h3 h5))) hQ
   simp[*]
end
end
section
open Go
section
variable{P:Program}{N:Nat}
variable{aN:Array Oper}{a b dU:List Nat}{kp:List PanicEntry->Tm->St->Prop}{j:Nat}{h:OH}{o y:Oper}{x:Option Tmp}{S S':St}{φ:St->St}{T T':Tm}{k:Tm->St->Prop}{α:Type}
theorem acd(h:∀i,T.z00 i=T'.z00 i):T=T':=funext h
theorem anJ{d:Nat}{v:Value}(e:T.z00 d=v):dz N (some d) v T=T:=by
 refine acd fun i=>?_;rw[Es];grind
theorem Tb{y:Option Tmp}(h:∀d,x=some d->y≠some d)(u v:Value)(T:Tm):dz N x u (dz N y v T)=dz N y v (dz N x u T):=by
 cases x with
 |none=>rfl
 |some d=>
  cases y with
  |none=>rfl
  |some e=>
   have jI:d≠e:=fun he=>h d rfl (he▸rfl);refine acd fun i=>?_;simp only[Es];grind
theorem abo{t:Nat}(h:x≠some t)(v:Value)(T:Tm):(dz N x v T).z00 t=T.z00 t:=by
 cases x with
 |none=>rfl
 |some d=>
  rw[Es];grind
def qW(aN:Array Oper)(o:Oper)(T T':Tm):Prop:=∀t,t∈o.looksAt aN->T.z00 t=T'.z00 t
theorem qW.put{x:Oper}(h:x.apart aN y=true)(v:Value)(T:Tm):qW aN y T (dz N x.dst v T):=by
 intro t ht;exact(abo (fun e=>(Oper.apart_spec h).1 t e ht) v T).symm
theorem AV{x:Oper}(h:x.apart aN y=true)(v:Value)(T:Tm):qW aN x T (dz N y.dst v T):=by
 intro t ht;exact(abo (fun e=>(Oper.apart_spec h).2.2 t e ht) v T).symm
theorem qW.DI(h:qW aN o T T'):∀x,x∈o.op.operands->ev T x=ev T' x:=by
 intro x hx;cases x with
 |tmp t=>
  refine h t ?_;unfold Oper.looksAt;refine rC _ (List.mem_filterMap.2 ⟨.tmp t,Array.mem_toList_iff.2 hx,rfl⟩)
 |const v=>rfl
 |global g=>rfl
 |func f=>rfl
theorem SN(h:vZ o=false):∀cs b,o.op≠.select cs b:=by
 intro cs b e;simp[vZ,e]at h
def gd(aN:Array Oper)(o:Oper)(T:Tm):Option Bool:=
 match o.guard with
 |none=>some true
 |some (j,tZ)=>match (aN[j]?).bind (·.dst)with
  |none=>none
  |some d=>match T.z00 d with
   | .bool t=>some (t==tZ)
   | .tuple _=>some false
   |_=>none
theorem sV(h:qW aN o T T'):gd aN o T=gd aN o T':=by
 unfold gd;cases hg:o.guard with
 |none=>rfl
 |some p=>
  obtain⟨j,tZ⟩:=p;simp only;cases hd:(aN[j]?).bind (·.dst)with
  |none=>rfl
  |some d=>
   have:T.z00 d=T'.z00 d:=by
    refine h d ?_;unfold Oper.looksAt;simp[*]
   simp[*]
theorem pQ:
  o6 P N aN o h T S k kp↔(match gd aN o T with|some true=>o5 P N o h T S k kp|some false=>k (dz N o.dst undef T) S|none=>False):=by
 unfold o6 gd;cases hg:o.guard with
 |none=>exact Iff.rfl
 |some p=>
  obtain⟨j,tZ⟩:=p;simp only;cases hd:(aN[j]?).bind (·.dst)with
  |none=>exact Iff.rfl
  |some d=>
   simp only;cases ht:T.z00 d with
   |bool t=>
    simp only;cases t <;> cases tZ <;> simp[Br,anJ ht]
   |_=>exact Iff.rfl
theorem Lr{x:Option Operand}{d:Int}(h:∀y,x=some y->ev T y=ev T' y):ll T d x=ll T' d x:=by
 cases x with
 |none=>rfl
 |some y=>simp only[ll,h y rfl]
theorem NX{k:Value->Prop}(oh:vZ o=false)(he:∀x,x∈o.op.operands->ev T x=ev T' x)
    (hS:∀j,j∈oF (gZ h)->gt S j=gt S' j) (hr:lT P o h T S k):lT P o h T' S' k:=by
  have l_:execOp (ev T) o=execOp (ev T') o:=execOp_congr o (SN oh) he;have ZK:o.op.operands.toList.map (ev T)=o.op.operands.toList.map (ev T'):=List.map_congr_left fun x hx=>he x (Array.mem_toList_iff.1 hx);unfold lT at*;split at hr
  · rename_i hs
    rw[<-l_];exact abw _ _ (fun j hj=>hS j (by simpa[gZ,oF]using hj)) hr
  · grind
  · split at hr
    · rename_i c x y cv
      have hc:=he c (by simp[cv,Op.operands]);have hx:=he x (by simp[cv,Op.operands]);have hy:=he y (by simp[cv,Op.operands]);grind
    omega
  · simp only[DD]at hr⊢
    split at hr <;> first
      |exact hr.elim
      | (rename_i x y _ cv
         have hx:=he x (by simp[cv,Op.operands]);have hy:=he y (by simp[cv,Op.operands]);simp only[cv,<-hx,<-hy];exact hr)
      | (rename_i s d x cv
         have hx:=he x (by simp[cv,Op.operands]);simp only[cv,<-hx];exact hr)
  · simp only[D8]at hr⊢
    split at hr
    · rename_i t x i cv
      have hx:=he x (by simp[cv,Op.operands]);have hi:=he i (by simp[cv,Op.operands]);grind
    omega
  · simp only[Fk]at hr⊢
    split at hr
    · rename_i t x i cv
      have hx:=he x (by simp[cv,Op.operands]);have hi:=he i (by simp[cv,Op.operands]);grind
    omega
  · simp only[Fm]at hr⊢
    split at hr
    · rename_i t x lo hi cv
      have hx:=he x (by simp[cv,Op.operands]);have cJ:∀d,ll T d lo=ll T' d lo:=fun d=>Lr fun y hy=>he y (by subst hy;simp[cv,Op.operands]);have sY:∀d,ll T d hi=ll T' d hi:=fun d=>Lr fun y hy=>he y (by subst hy;simp[cv,Op.operands]);simp only[cv,<-hx,<-cJ,<-sY];exact hr
    omega
  omega
def e7(S S':St)(dU:List Nat):Prop:=∀j,j∉dU->gt S' j=gt S j
theorem e7.refl(S:St)(dU:List Nat):e7 S S dU:=fun _ _=>rfl
theorem e7.p5(h:j∈dU)(A:ai):e7 S (gn S j A) dU:=by
 intro i hi;rw[vM];grind
theorem e7.trans{S1 S2:St}(h:e7 S S1 dU)(h':e7 S1 S2 dU):e7 S S2 dU:=fun j hj=>(h' j hj).trans (h j hj)
theorem e7.mono(h:e7 S S' a)(BA:∀j,j∈a->j∈b):e7 S S' b:=fun j hj=>h j fun hh=>hj (BA j hh)
structure Fr(φ:St->St)(dU:List Nat):Prop where
 get:∀S j,j∈dU->gt (φ S) j=gt S j
 zp:∀S j A,j∈dU->φ (gn S j A)=gn (φ S) j A
theorem Fr.id(dU:List Nat):Fr (fun S=>S) dU:=⟨fun _ _ _=>rfl,fun _ _ _ _=>rfl⟩
theorem Fr.p5(h:j∉dU)(A:ai):Fr (fun S=>gn S j A) dU:=by
 refine⟨fun S i hi=>?_,fun S i B hi=>?_⟩
 ·show gt (gn S j A) i=_;rw[vM];grind
 ·have:j≠i:=fun e=>h (e▸hi);exact aj5 this A B S
theorem Fr.mono(h:Fr φ b)(BA:∀j,j∈a->j∈b):Fr φ a:=⟨fun S j hj=>h.get S j (BA j hj),fun S j A hj=>h.zp S j A (BA j hj)⟩
theorem anW{hs:List LH}{s:Sem α}{k k':α->Prop}(hφ:Fr φ (cP hs))(hr:rd P S s hs k)(hk:∀a,k a->k' a):rd P (φ S) s hs k':=
 Wz _ _ (abw _ _ (fun j hj=>(hφ.get S j hj).symm) hr) hk
theorem aqp:∀(s:Sem α)(hs:List LH){S:St}{k k':α->St->Prop}{kp fH:Value->St->Prop},Fr φ (cP hs)->wr P s hs S k kp->
  (∀a S',e7 S S' (cP hs)->k a S'->k' a (φ S'))->(∀v S',kp v S'->fH v (φ S'))->wr P s hs (φ S) k' fH:=by
 intro s
 induction s with
 |pure a=>intro hs S k k' kp fH hφ h hk _;exact hk _ _ (e7.refl _ _) h
 |program f ih=>intro hs S k k' kp fH hφ h hk hp;exact ih P hs hφ h hk hp
 |mark m s ih=>intro hs S k k' kp fH hφ h hk hp;exact ih hs hφ h hk hp
 |halt x=>
  intro hs S k k' kp fH hφ h hk hp;cases x with
  |panic v=>exact hp _ _ h
  |_=>cases hs <;> simp only[wr]at h
 |load m a f ih=>
  intro hs S k k' kp fH hφ h hk hp;cases hs with
  |nil=>simp only[wr]at h
  |cons x hs=>
   cases x with
   | z00 j=>
    have hφ':=hφ.mono (a:=cP hs) (by intro i hi;simp[cP,hi]);have KQ:∀S',e7 S S' (cP hs)->e7 S S' (cP (.z00 j::hs)):=fun S' ho=>ho.mono (by intro i hi;simp[cP,hi]);have e:=hφ.get S j (by simp[cP]);simp only[wr]at h⊢;rw[e];split at h
    ·refine⟨h.1,?_⟩;have h2:=h.2;split at h2
     all_goals grind
    omega
   |ex j sh=>
    have hφ':=hφ.mono (a:=cP hs) (by intro i hi;simp[cP,hi]);have KQ:∀S',e7 S S' (cP hs)->e7 S S' (cP (.ex j sh::hs)):=fun S' ho=>ho.mono (by intro i hi;simp[cP,hi]);have e:=hφ.get S j (by simp[cP]);simp only[wr]at h⊢;rw[e];cases sh <;> simp only[jE.ex]at h⊢
    all_goals grind
   |nw j=>simp only[wr]at h
 |store m a v s ih=>
  intro hs S k k' kp fH hφ h hk hp;cases hs with
  |nil=>cases v <;> simp only[wr]at h
  |cons x hs=>
   cases x with
   | z00 j=>
    have hφ':=hφ.mono (a:=cP hs) (by intro i hi;simp[cP,hi]);have e:=hφ.get S j (by simp[cP]);simp only[wr]at h⊢;rw[e];split at h
    ·refine⟨h.1,?_⟩;have h2:=h.2;split at h2
     ·split at h2
      ·rw[<-hφ.zp S j _ (by simp[cP])];exact ih hs hφ' h2 (fun a S' ho hh=>hk a S' ((e7.p5 (by simp[cP]) _).trans (ho.mono (by intro i hi;simp[cP,hi]))) hh) hp
      omega
     omega
    omega
   |ex j sh=>
    have hφ':=hφ.mono (a:=cP hs) (by intro i hi;simp[cP,hi]);have e:=hφ.get S j (by simp[cP]);simp only[wr]at h⊢;rw[e];split at h
    ·refine⟨h.1,?_⟩;have h2:=h.2;split at h2
     ·rw[<-hφ.zp S j _ (by simp[cP])];exact ih hs hφ' h2 (fun a S' ho hh=>hk a S' ((e7.p5 (by simp[cP]) _).trans (ho.mono (by intro i hi;simp[cP,hi]))) hh) hp
     omega
    omega
   |nw j=>simp only[wr]at h
 |new o f ih=>
  intro hs S k k' kp fH hφ h hk hp;cases hs with
  |nil=>simp only[wr]at h
  |cons x hs=>
   cases x with
   |nw j=>
    have hφ':=hφ.mono (a:=cP hs) (by intro i hi;simp[cP,hi]);simp only[wr]at h⊢;intro b;rw[<-hφ.zp S j _ (by simp[cP])];exact ih b hs hφ' (h b) (fun a S' ho hh=>hk a S' ((e7.p5 (by simp[cP]) _).trans (ho.mono (by intro i hi;simp[cP,hi]))) hh) hp
   |_=>simp only[wr]at h
 |shape r f ih=>
  intro hs S k k' kp fH hφ h hk hp;cases hs with
  |nil=>simp only[wr]at h
  |cons x hs=>
   cases x with
   | z00 j=>
    have hφ':=hφ.mono (a:=cP hs) (by intro i hi;simp[cP,hi]);have e:=hφ.get S j (by simp[cP]);simp only[wr]at h⊢;rw[e];split at h
    ·exact⟨h.1,ih _ hs hφ' h.2 (fun a S' ho hh=>hk a S' (ho.mono (by intro i hi;simp[cP,hi])) hh) hp⟩
    omega
   |_=>simp only[wr]at h
 |frozen a f ih=>
  intro hs S k k' kp fH hφ h hk hp;cases hs with
  |nil=>simp only[wr]at h
  |cons x hs=>
   cases x with
   | z00 j=>
    have hφ':=hφ.mono (a:=cP hs) (by intro i hi;simp[cP,hi]);have e:=hφ.get S j (by simp[cP]);simp only[wr]at h⊢;rw[e];split at h
    ·exact⟨h.1,ih _ hs hφ' h.2 (fun a S' ho hh=>hk a S' (ho.mono (by intro i hi;simp[cP,hi])) hh) hp⟩
    omega
   |_=>simp only[wr]at h
 |getObj r f ih=>
  intro hs S k k' kp fH hφ h hk hp;cases hs with
  |nil=>simp only[wr]at h
  |cons x hs=>
   cases x with
   | z00 j=>
    have hφ':=hφ.mono (a:=cP hs) (by intro i hi;simp[cP,hi]);have e:=hφ.get S j (by simp[cP]);simp only[wr]at h⊢;rw[e];split at h
    ·omega
    ·exact⟨h.1,ih _ hs hφ' h.2 (fun a S' ho hh=>hk a S' (ho.mono (by intro i hi;simp[cP,hi])) hh) hp⟩
    omega
   |_=>simp only[wr]at h
 |setObj r o' s ih=>
  intro hs S k k' kp fH hφ h hk hp;cases hs with
  |nil=>simp only[wr]at h
  |cons x hs=>
   cases x with
   | z00 j=>
    have hφ':=hφ.mono (a:=cP hs) (by intro i hi;simp[cP,hi]);have e:=hφ.get S j (by simp[cP]);simp only[wr]at h⊢;rw[e];split at h
    ·omega
    ·refine⟨h.1,?_⟩;rw[<-hφ.zp S j _ (by simp[cP])];exact ih hs hφ' h.2 (fun a S' ho hh=>hk a S' ((e7.p5 (by simp[cP]) _).trans (ho.mono (by intro i hi;simp[cP,hi]))) hh) hp
    omega
   |_=>simp only[wr]at h
 |_=>intro hs S k k' kp fH hφ h;cases hs <;> simp only[wr]at h
theorem agn(bF:List Nat):∀(S:St)(dU:List Nat),(∀j,j∈bF->j∈dU)->e7 S (nT bF S) dU:=by
 induction bF with
 |nil=>intro S dU _;exact e7.refl _ _
 |cons j r ih=>
  intro S dU h;exact(e7.p5 (h j (ni ..)) _).trans (ih _ dU fun i hi=>h i (sS _ hi))
theorem amO(out:List Nat):∀(l:List ai)(S:St)(dU:List Nat),(∀j,j∈out->j∈dU)->e7 S (pR out l S) dU:=by
 induction out with
 |nil=>intro l S dU _;exact e7.refl _ _
 |cons j r ih=>
  intro l S dU h;cases l with
  |nil=>exact e7.refl _ _
  |cons A l=>exact(e7.p5 (h j (ni ..)) _).trans (ih l _ dU fun i hi=>h i (sS _ hi))
theorem agm(bF:List Nat):∀(S:St){dU:List Nat},Fr φ dU->(∀j,j∈bF->j∈dU)->nT bF (φ S)=φ (nT bF S):=by
 induction bF with
 |nil=>intro S dU _ _;rfl
 |cons j r ih=>
  intro S dU hφ h;show nT r (gn (φ S) j .dT)=φ (nT r (gn S j .dT));rw[<-hφ.zp S j _ (h j (ni ..))];grind
theorem amN(out:List Nat):∀(l:List ai)(S:St){dU:List Nat},Fr φ dU->(∀j,j∈out->j∈dU)->pR out l (φ S)=φ (pR out l S):=by
 induction out with
 |nil=>intro l S dU _ _;cases l <;> rfl
 |cons j r ih=>
  intro l S dU hφ h;cases l with
  |nil=>rfl
  |cons A l=>
   show pR r l (gn (φ S) j A)=φ (pR r l (gn S j A));rw[<-hφ.zp S j _ (h j (ni ..))];grind
def qg(φ:St->St)(S:St):Prop:=∀bF,Sub (.dv (rest S bF)) (.dv (rest (φ S) bF))
theorem qg.id(S:St):qg (fun S=>S) S:=fun _ _ _ o h=>⟨o,h⟩
theorem qg.p5(hj:gt S j= .dT)(A:ai):qg (fun S=>gn S j A) S:=by
 intro bF I h o ho;obtain⟨f,h1,h2,h3⟩:=ho;refine⟨o,fun i b=>i≠j/\f i b,fun i=>?_,fun i i' b hb l8=>h2 _ _ _ hb.2 l8.2,fun i b hb=>h3 _ _ hb.2⟩;have:=h1 i;rw[Ku]at this⊢;by_cases hi:i∈bF
 ·simp only[hi,if_true];trivial
 ·simp only[hi,if_false]at this⊢;by_cases s7:i=j
  ·subst s7;rw[hj];trivial
  ·rw[vM]at this;simp only[s7,if_false]at this;simp[*]
theorem acw{C:aR}{args:List Value}{bF out:List Nat}{k k':Value->St->Prop}{kp fH:List PanicEntry->St->Prop}
  (hφ:Fr φ (bF++out)) (hw:qg φ S) (hu:IU C args bF out S k kp) (hk:∀v S',e7 S S' (bF++out)->k v S'->k' v (φ S')) (hp:∀ch S',kp ch S'->fH ch (φ S')):
  IU C args bF out (φ S) k' fH:=by
 obtain⟨x,ha,qu,hc,hr,hy⟩:=hu;refine⟨x,ha,?_,hc,C.eX x _ _ (hw bF) hr,JX.2 fun y bw=>?_⟩
 ·rw[<-qu];exact List.map_congr_left fun j hj=>hφ.get S j (rC _ hj)
 ·have:=JX.1 hy y bw;have e:pR out (C.post x y) (nT bF (φ S))=φ (pR out (C.post x y) (nT bF S)):=by
   rw[agm bF S hφ (fun j hj=>rC _ hj),amN out _ _ hφ (fun j hj=>List.mem_append_right _ hj)]
  rw[e];cases hv:C.val x y <;> simp only[hv]at this⊢
  ·exact hk _ _ ((agn bF S _ fun j hj=>rC _ hj).trans (amO out _ _ _ fun j hj=>List.mem_append_right _ hj)) this
  simp[*]
theorem aa1{k':Tm->St->Prop}{fH:List PanicEntry->Tm->St->Prop}(oh:vZ o=false)
  (he:∀x,x∈o.op.operands->ev T x=ev T' x) (hφ:Fr φ (xj (gZ (im P o h)))) (hw:qg φ S) (hr:o5 P N o h T S k kp)
  (hk:∀v S',e7 S S' (jZ (gZ (im P o h)))->k (dz N o.dst v T) S'->k' (dz N o.dst v T') (φ S')) (hp:∀ch S',kp ch T S'->fH ch T' (φ S')):
  o5 P N o h T' (φ S) k' fH:=by
 have l_:execOp (ev T) o=execOp (ev T') o:=execOp_congr o (SN oh) he;have ZK:o.op.operands.toList.map (ev T)=o.op.operands.toList.map (ev T'):=List.map_congr_left fun x hx=>he x (Array.mem_toList_iff.1 hx);unfold o5 at*;generalize hg:im P o h=g at*;cases g with
 |ask r i=>exact hr.no.elim
 |w hs=>
  simp only at hr⊢;rw[<-l_];refine aqp _ hs (by simpa[xj,gZ,oF,jZ]using hφ) hr (fun x S' ho hh=>?_) (fun v S' hh=>hp _ _ hh);cases x <;> first|exact hh.elim|exact hk _ _ (by simpa[gZ,jZ]using ho) hh
 |n j=>
  simp only at hr⊢;rw[<-l_];split at hr
  ·intro b;have hb:=hr b;split at hb
   ·rename_i v hv
    have:=hk v (gn S j (mkAtom b _)) (by simpa[gZ,jZ]using e7.p5 aM _) hb;rw[hφ.zp S j _ (by simp[xj,gZ,jZ])]at this;omega
   omega
  omega
 |c C bF out=>
  simp only at hr⊢;rw[<-l_];refine anW (hs:=[]) ⟨fun _ _ hj=>by simp[cP]at hj,fun _ _ _ hj=>by simp[cP]at hj⟩ hr fun nx hh=>?_;cases nx <;> first
   |exact hh.elim
   |exact⟨hh.1,hh.2.1,acw (by simpa[xj,gZ,oF,jZ]using hφ) hw hh.2.2 (fun v S' ho h=>hk v S' (by simpa[gZ,jZ]using ho) h) (fun ch S' h=>hp ch S' h)⟩
 |o C bF out=>
  simp only at hr⊢;rw[<-ZK];exact⟨hr.1,hr.2.1,acw (by simpa[xj,gZ,oF,jZ]using hφ) hw hr.2.2 (fun v S' ho h=>hk v S' (by simpa[gZ,jZ]using ho) h) (fun ch S' h=>hp ch S' h)⟩
 |WU=>
  simp only[N8]at hr⊢;split at hr
  ·rename_i t x lo hi cv
   have hx:=he x (by simp[cv,Op.operands]);have cJ:∀d,ll T d lo=ll T' d lo:=fun d=>Lr fun y hy=>he y (by subst hy;simp[cv,Op.operands]);have sY:∀d,ll T d hi=ll T' d hi:=fun d=>Lr fun y hy=>he y (by subst hy;simp[cv,Op.operands]);simp only[cv,<-hx,<-cJ,<-sY];split at hr
   ·split at hr
    ·exact⟨hr.1,fun v=>hk v S (e7.refl _ _) (hr.2 v)⟩
    omega
   omega
  omega
 |_=>
  obtain⟨v,hv,hkv⟩:=Ip hr;have h1:=NX (S':=φ S) oh he (fun j hj=>(hφ.get S j (rC _ hj)).symm) hv;obtain⟨u,hu,e⟩:=Ip h1;subst e;exact Wv hu (fun a e=>by subst e;exact hk _ S (e7.refl _ _) hkv)
end
end
end Go.Proofs.YtdkchodgklpomaaGreatDoor
