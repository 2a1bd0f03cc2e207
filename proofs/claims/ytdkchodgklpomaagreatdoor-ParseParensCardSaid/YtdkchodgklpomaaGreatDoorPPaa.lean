/- Part of the proof that ParseParens answers true at every input. -/
import Derived.Orders
import Derived.KernelRfl
import Derived.Laws.Sem
import Derived.Laws.Entries
import Derived.ChangeKeysEq
import Derived.Deep.LoopGhost
import Derived.Scope
import Derived.Laws.Append
import Derived.Laws.AppendOwn
import Derived.Laws.CopyRow
import Derived.Laws.MakeOwn
import Derived.Laws.Externs
import Derived.Lib.Overlaps
import Derived.ProofKit
import Derived.Below
import Derived.OpenShut
import Derived.LaidLaws
import Derived.Handed
import Derived.DataElems
import Derived.Lib.DecodeN
import Derived.Lib.IndexMore
import Derived.Test.YtdkchodgklpomaaGreatDoorChecked
import Derived.Shelf.Strings.Builder1
import Derived.Shelf.Small.Utf8
import Derived.Shelf.Small.Strs
import Derived.Shelf.LaysM
import Derived.Shelf.Strings.Search1
import Derived.Shelf.Strings.Search2
import Derived.Shelf.Strings.Search3
import Derived.Shelf.Strings.Cut
import Derived.Shelf.Strings.Count
import Derived.Shelf.Strings.Shaped
import Derived.Shelf.Strings.Runes
import Derived.Shelf.Bits.Mul64
import Derived.Shelf.Unicode.DecodeSlow
import Derived.Shelf.Unicode.DecodeAny
import Derived.Laws.BytesString
import Derived.Lib.AppendStr
import Derived.Lib.UnsafeStr
import Derived.Lib.Builder
import Derived.Laws.Runes
import Derived.Lib.MapLaws
import Derived.Lib.QuoteLoop
import Derived.Lib.OthersKept
import Derived.Shelf.Strings.Builder2
import Derived.Shelf.Utf8.RuneCount
import Derived.Shelf.Strconv.Itoa0
import Derived.Shelf.Strconv.Itoa1
import Derived.Shelf.Strconv.Itoa2
import Derived.Shelf.Strconv.Itoa3
import Derived.Shelf.Strings.Split
import Derived.Shelf.Strings.Replace
import Derived.Shelf.Strings.SplitShaped
import Derived.Shelf.Unicode.Decode
import Derived.Shelf.Strings.RuneCount
import Derived.Laws.FloatArith
import Derived.LaidEql
import Derived.ScopeJumps
import GoSem.PinnedTables
import Derived.Laws.IdiomStrings
import Derived.Test.YtdkchodgklpomaaGreatDoorRows
import Derived.RowKitTokens
import Derived.Stop.LaidErr
import Derived.Recover
import Derived.Lay
import Derived.MakeChecks
import Derived.SevenTiedAt
import Derived.ChangeMaps5
import Derived.Test.YtdkchodgklpomaaGreatDoorTie
import Derived.Test.YtdkchodgklpomaaGreatDoorCards
set_option linter.all false
namespace Go.Proofs.YtdkchodgklpomaaGreatDoor
set_option maxRecDepth 100000
open Go.Value (int slice string bool pointer agg tuple func float iface nilIface)
open Go.IntKind (i64 u8 u64 i32 u32 u16 i8 i16)
open Go.FloatKind (f64)
open Go.Ending (returned panicked)
section
def bv:= @decide_eq_true
def bF:= @decide_eq_false
def j7:= @of_decide_eq_true
def Ns:= @of_decide_eq_false
def aU{α:Type}:= @cond_true α
def aM{α:Type}:= @cond_false α
def cw:= @Int.toNat_natCast
def fg{α:Type}:= @List.getD_eq_getElem?_getD α
def eS{α:Type}:= @List.length_append α
def gy{α:Type}:= @List.getElem?_eq_getElem α
def fP{α β:Type}:= @List.getElem?_map α β
def dv{α:Type}:= @List.append_nil α
def jj{α:Type}:= @List.append_assoc α
def lD{α:Type}:= @List.getElem?_append_left α
def j6{α:Type}:= @List.getElem?_append_right α
def gS:= @ByteArray.size_extract
def ky:= @ByteArray.size_append
def bT:= @Nat.le_refl
def cD:= @Int.le_refl
def df:= @Nat.zero_le
def gR{a b c:Nat}:a<=b->b<=c->a<=c:=Nat.le_trans
def io:= @Nat.lt_succ_self
def j5:= @Bool.and_false
def jk:= @Bool.false_and
def mc:= @Bool.or_true
def gx:= @Bool.and_eq_true
def dU{α:Type}[BEq α][LawfulBEq α]{a b:α}:(a==b)=false↔a≠b:=beq_eq_false_iff_ne
def kw{α:Type}{i:Nat}{a:α}{l:List α}:l[i]?=some a↔∃h:i<l.length,l[i]=a:=List.getElem?_eq_some_iff
def kW{α:Type}:= @List.mem_cons_self α
def pn{α:Type}:= @List.mem_cons_of_mem α
def ou{α:Type}:= @List.mem_of_getElem? α
def ot{α:Type}:= @List.getElem?_eq_none α
def nA{α:Type}:= @Array.getD_eq_getD_getElem? α
def mN:= @Nat.pow_le_pow_right
def qd{α:Type}:= @List.mem_append_left α
def gT:= @Nat.zero_add
def sJ{α:Type}:= @List.length_cons α
def A3{α:Type}:= @List.length_singleton α
def ao:True:=.intro
variable{p:Prop}
theorem ae(h:p:=by omega):p:=h
theorem bg(h:p:=by dsimp only;omega):p:=h
theorem aK(h:p:=by exact⟨by omega,by omega⟩):p:=h
theorem hC(h:p:=by exact⟨by dsimp only;omega,by dsimp only;omega⟩):p:=h
theorem bl(h:p:=by kernel_rfl):p:=h
theorem aL(h:p:=by simp):p:=h
theorem aq(h:p:=by exact⟨rfl,rfl⟩):p:=h
theorem aV(h:p:=by repeat (first|exact trivial|refine⟨rfl,?_⟩)):p:=h
open Go
def d6{α:Type}(k:Nat)(v:α):List (Nat×α)->List (Nat×α)
 | []=>[(k,v)]
 | (j,u)::r=>bif Nat.beq k j then (k,v)::r else bif Nat.blt k j then (k,v)::(j,u)::r else (j,u)::d6 k v r
def pq{α:Type}:List (Nat×α)->Nat->α->α
 | [],_,d=>d
 | (k,v)::r,i,d=>bif Nat.beq i k then v else pq r i d
abbrev Tm:=Nat->Value
def Tm.z00(T:Tm)(i:Nat):Value:=T i
def nW(T:Tm)(k:Nat)(v:Value):Tm:=fun i=>bif Nat.beq i k then v else T i
def mK(args:List Value):Tm:=fun i=>args.getD i undef
def jq(a:Nat->Value)(l:List (Nat×Value)):Tm:=fun i=>pq l i (a i)
def ev(T:Tm):Operand->Value
 | .tmp t=>T.z00 t
 | .const v=>v
 | .global g=>.pointer (some ⟨g,0,none⟩)
 | .func f=>.func (.func f) #[] #[]
def dw(N:Nat)(dst:Option Tmp)(v:Value)(T:Tm):Tm:=
 match dst with
 |some d=>bif Nat.blt d N then nW T d v else T
 |none=>T
abbrev a_:=Nat->Option Obj
abbrev Hp:=Nat->Option Obj
abbrev tW:=Nat->Prop
def hp(w:World):Hp:=fun b=>w.heap[b]?
def a_.le(I J:a_):Prop:=∀b o,I b=some o->J b=some o
def CH(I:a_)(h:Hp):Prop:=∀b o,I b=some o->h b=some o
structure FR where
 holds:a_->Hp->tW->Prop
 Be:∀I h h' o,(∀b,o b->h b=h' b)->holds I h o->holds I h' o
 mono:∀I J h o,a_.le I J->holds I h o->holds J h o
inductive ah where
 |d0
 |cells (b:Nat) (vs:List Value) (t:TypeId)
 |gW (b:Nat) (o:Obj)
 |dq (p:FR)
def ah.holds(I:a_)(h:Hp)(o:tW):ah->Prop
 | .d0=>True
 | .cells b vs t=>o b/\h b=some (.cells ⟨vs⟩ t (0,0))
 | .gW b a=>o b/\h b=some a
 | .dq p=>p.holds I h o
abbrev St:=List (Nat×ah)
def gt(S:St)(j:Nat):ah:=pq S j .d0
def num:Nat->List ah->St
 |_,[]=>[]
 |n,A::r=>(n,A)::num (n+1) r
def bD(l:List ah):St:=num 0 l
def fT(S:St)(k:Nat)(A:ah):St:=d6 k A S
def l8:List Nat->St->St
 | [],S=>S
 |j::r,S=>l8 r (fT S j .d0)
def nL:List Nat->List ah->St->St
 |j::r,A::l,S=>nL r l (fT S j A)
 |_,_,S=>S
structure Sat(I:a_)(S:St)(w:World):Prop where
 k7:∃f:Nat->tW,(∀j,(gt S j).holds I (hp w) (f j))/\(∀i j b,f i b->f j b->i=j)/\(∀j b,f j b->I b=none/\b<w.heap.size)
 mQ:CH I (hp w)
def cv(w w':World):Prop:=w'.os=w.os/\w'.output=w.output
structure aE(S S':St):Prop where
 h:∀I w,Sat I S w->∃J,a_.le I J/\Sat J S' w
def rest(S:St)(bG:List Nat):FR where
 holds I h o:=∃f:Nat->tW,(∀j,(gt (l8 bG S) j).holds I h (f j))/\(∀i j b,f i b->f j b->i=j)/\(∀j b,f j b->o b)
 Be:=by
  rintro I h h' o g ⟨f,d,e,c⟩;refine⟨f,fun j=>?_,e,c⟩;have:=d j;revert this;generalize gt (l8 bG S) j=A;intro a;cases A with
  |d0=>trivial
  |cells b vs t=>exact⟨a.1,(g _ (c _ _ a.1))▸a.2⟩
  |gW b m=>exact⟨a.1,(g _ (c _ _ a.1))▸a.2⟩
  |dq p=>exact p.Be I h h' _ (fun b l=>g _ (c _ _ l)) a
 mono:=by
  rintro I J h o k ⟨f,d,e,c⟩;refine⟨f,fun j=>?_,e,c⟩;have:=d j;revert this;generalize gt (l8 bG S) j=A;intro a;cases A with
  |d0=>trivial
  |cells b vs t=>exact a
  |gW b m=>exact a
  |dq p=>exact p.mono I J h _ k a
def ue(h:Hp)(a:Addr):Option Value:=
 match h a.block with
 |some (.cells c _ _)=>if a.spot.isSome then none else c[a.off]?
 |_=>none
structure aP(A:ah)(a:Addr)(v:Value):Prop where
 h:∀I h o,CH I h->A.holds I h o->ue h a=some v
inductive iE where
 |int (k:IntKind)|str|bool|slice|ptr|float (k:FloatKind)|any|is (v:Value)
def iE.ex(K:Value->Prop):iE->Prop
 | .int k=>∃n,K (.int k n)
 | .str=>∃s,K (.string s)
 | .bool=>∃b,K (.bool b)
 | .slice=>∃a l c,K (.slice a l c)
 | .ptr=>∃a,K (.pointer a)
 | .float k=>∃b,K (.float k b)
 | .any=>∃v,K v
 | .is v=>K v
inductive LH where
 | z00 (j:Nat)
 |ex (j:Nat) (s:iE)
 |nw (j:Nat)
structure d9(a:Addr)(b:Nat):Prop where
 fO:a.block=b
 spot:a.spot=none
def Sub(A B:ah):Prop:=∀I h o,B.holds I h o->∃a,A.holds I h a
structure SK(Y:Type)where
 A:Type
 B:Type
 f:A->Y
 g:B->Y
 TH:∀y,(∃a,y=f a)\/(∃b,y=g b)
structure aQ where
 X:Type
 Y:Type:=Unit
 args:X->List Value
 pre:X->List ah:=fun _=>[]
 cond:X->Prop:=fun _=>True
 aO:X->ah->Prop:=fun _ _=>True
 bZ:X->Y->Prop:=fun _ _=>True
 val:X->Y->Ending
 post:X->Y->List ah:=fun _ _=>[]
 eM:∀x A B,Sub A B->aO x A->aO x B:=by intros;first|trivial| (rename_i hs h;exact h.sub hs)| (rename_i hs h;exact⟨h.1.sub hs,h.2.sub hs⟩)
 sum:Option (SK Y):=none
structure kP where
 X:Type
 args:X->List Value
 cond:X->Prop
 val:X->Value
inductive OH where
 |d
 |ask (r i:Nat)
 |q (hs:List LH)
 |w (hs:List LH)
 |n (j:Nat)
 |c (C:aQ) (bG out:List Nat)
 |o (C:aQ) (bG out:List Nat)
 |qo (C:kP)
 |pk
 |ck
 |ix
 |si
 |sl
 |R5
structure Inv where
 X:Type
 P:X->Prop
 lv:X->List (Nat×Value)
 st:X->List ah
 mu:X->Nat
 gh:Option ((T:Type)×(X->T)):=none
def hk:List (Nat×Nat×OH)->Nat->Nat->OH
 | [],_,_=>.d
 | (a,b,h)::t,r,i=>bif Nat.beq a r&&Nat.beq b i then h else hk t r i
structure jc where
 op:Nat->Nat->OH
 yB:Nat->Option Inv
 cut:Nat->Option Inv
 yT:Nat->List Nat
section
variable(P:Program)
def rd{α:Type}(S:St):Sem α->List LH->(α->Prop)->Prop
 | .pure a,_,k=>k a
 | .program f,hs,k=>rd S (f P) hs k
 | .mark _ s,hs,k=>rd S s hs k
 | .load _ a f,.z00 j::hs,k=>
  match gt S j with
  | .cells b vs _=>d9 a b/\(match vs[a.off]? with|some v=>rd S (f v) hs k|none=>False)
  |_=>False
 | .load _ a f,.ex j s::hs,k=>s.ex fun v=>aP (gt S j) a v/\rd S (f v) hs k
 |_,_,_=>False
def Bv{α:Type}:Sem α->Option α
 | .pure a=>some a
 | .program f=>Bv (f P)
 | .mark _ s=>Bv s
 |_=>none
def ya{α:Type}:Sem α->Option (Obj×(Nat->Sem α))
 | .new o f=>some (o,f)
 | .program f=>ya (f P)
 | .mark _ s=>ya s
 |_=>none
def mkAtom(b:Nat):Obj->ah
 | .cells c t (0,0)=>.cells b c.toList t
 |o=>.gW b o
def HB:Value->Bool
 | .agg _| .tuple _=>false
 |_=>true
def wr{α:Type}:Sem α->List LH->St->(α->St->Prop)->(Value->St->Prop)->Prop
 | .pure a,_,S,k,_=>k a S
 | .program f,hs,S,k,kp=>wr (f P) hs S k kp
 | .mark _ s,hs,S,k,kp=>wr s hs S k kp
 | .load _ a f,.z00 j::hs,S,k,kp=>
  match gt S j with
  | .cells b vs _=>d9 a b/\(match vs[a.off]? with|some v=>wr (f v) hs S k kp|none=>False)
  |_=>False
 | .load _ a f,.ex j s::hs,S,k,kp=>s.ex fun v=>aP (gt S j) a v/\wr (f v) hs S k kp
 | .store _ a v s,.z00 j::hs,S,k,kp=>
  match gt S j with
  | .cells b vs t=>d9 a b/\(match vs[a.off]? with|some _=>(match HB v with|true=>wr s hs (fT S j (.cells b (vs.set a.off v) t)) k kp|false=>False)|none=>False)
  |_=>False
 | .store _ a v s,.ex j _::hs,S,k,kp=>
  match gt S j with
  | .cells b vs t=>(d9 a b/\a.off<vs.length)/\(match HB v with|true=>wr s hs (fT S j (.cells b (vs.set a.off v) t)) k kp|false=>False)
  |_=>False
 | .new o s,.nw j::hs,S,k,kp=>∀b,wr (s b) hs (fT S j (mkAtom b o)) k kp
 | .shape r f,.z00 j::hs,S,k,kp=>
  match gt S j with
  | .cells b vs t=>r=b/\wr (f (some (t,vs.length))) hs S k kp
  |_=>False
 | .frozen a f,.z00 j::hs,S,k,kp=>
  match gt S j with
  | .cells b _ _=>d9 a b/\wr (f false) hs S k kp
  |_=>False
 | .getObj r f,.z00 j::hs,S,k,kp=>
  match gt S j with
  | .gW _ (.cells ..)=>False
  | .gW b o=>r=b/\wr (f o) hs S k kp
  |_=>False
 | .setObj r c s,.z00 j::hs,S,k,kp=>
  match gt S j with
  | .gW _ (.cells ..)=>False
  | .gW b _=>r=b/\wr s hs (fT S j (.gW b c)) k kp
  |_=>False
 | .halt (.panic v),_,S,_,kp=>kp v S
 |_,_,_,_,_=>False
structure jW(f:FuncId)(C:aQ):Prop where
 h:∀x F I w,C.cond x->C.aO x F->Sat I (bD (C.pre x++[F])) w->
  Calls P f ⟨C.args x⟩ w fun e w'=>∃y J,C.bZ x y/\e=C.val x y/\a_.le I J/\Sat J (bD (C.post x y++[F])) w'/\cv w w'
structure e5(o:Oper)(C:aQ):Prop where
 h:∀x F I w(ρ:Operand->Value),o.op.operands.toList.map ρ=C.args x->C.cond x->C.aO x F->Sat I (bD (C.pre x++[F])) w->
  ∃y J w' v,C.bZ x y/\((execOp ρ o).run P w= .ok (.value v) w'\/((execOp ρ o).run P w= .ok .skip w'/\v=undef))/\C.val x y= .returned v/\a_.le I J/\Sat J (bD (C.post x y++[F])) w'/\cv w w'
structure dJ(o:Oper)(C:kP):Prop where
 h:∀x w(ρ:Operand->Value),o.op.operands.toList.map ρ=C.args x->C.cond x->(execOp ρ o).run P w= .ok (.value (C.val x)) w
def MO(C:aQ)(x:C.X)(c:C.Y->Prop):Prop:=
 match C.sum with
 |none=>∀y,C.bZ x y->c y
 |some ⟨_,_,f,g,_⟩=>(∀a,C.bZ x (f a)->c (f a))/\(∀b,C.bZ x (g b)->c (g b))
def FB(C:aQ)(args:List Value)(bG out:List Nat)(S:St)(k:Value->St->Prop)(kp:List PanicEntry->St->Prop):Prop:=
 ∃x,args=C.args x/\bG.map (gt S)=C.pre x/\C.cond x/\C.aO x (.dq (rest S bG))/\MO C x fun y=>
  match C.val x y with
  | .returned v=>k v (nL out (C.post x y) (l8 bG S))
  | .panicked a=>kp a (nL out (C.post x y) (l8 bG S))
  | .outgrown=>False
def nodupB:List Nat->Bool
 | []=>true
 |j::r=>(r.all fun i=> !Nat.beq i j)&&nodupB r
def Br(t:Bool)(A B:Prop):Prop:=match t with|true=>A|false=>B
def sO(k:IntKind)(n:Int):Prop:=
 match k with
 | .i8=> -128<=n/\n<=127
 | .i16=> -32768<=n/\n<=32767
 | .i32=> -2147483648<=n/\n<=2147483647
 | .i64=> -9223372036854775808<=n/\n<=9223372036854775807
 | .u8=>0<=n/\n<=255
 | .u16=>0<=n/\n<=65535
 | .u32=>0<=n/\n<=4294967295
 | .u64=>0<=n/\n<=18446744073709551615
def AQ(op:Op)(T:Tm)(k:Value->Prop):Prop:=
 match op with
 | .binOp .add _ x y _=>match ev T x,ev T y with| .int i a,.int j b=>(match decide (i=j)with|true=>sO i (a+b)/\k (.int i (a+b))|false=>False)| .string s,.string t=>s.size+t.size<=9223372036854775807/\k (.string (s++t))|_,_=>False
 | .binOp .sub _ x y _=>match ev T x,ev T y with| .int i a,.int j b=>(match decide (i=j)with|true=>sO i (a-b)/\k (.int i (a-b))|false=>False)|_,_=>False
 | .binOp .mul _ x y _=>match ev T x,ev T y with| .int i a,.int j b=>(match decide (i=j)with|true=>sO i (a*b)/\k (.int i (a*b))|false=>False)|_,_=>False
 | .binOp .quo _ x y _=>match ev T x,ev T y with| .int i a,.int j b=>(match decide (i=j)with|true=>b≠0/\sO i (a.tdiv b)/\k (.int i (a.tdiv b))|false=>False)|_,_=>False
 | .binOp .rem _ x y _=>match ev T x,ev T y with| .int i a,.int j b=>(match decide (i=j)with|true=>b≠0/\k (.int i (a.tmod b))|false=>False)|_,_=>False
 | .convert s d x=>match P.underlying s,P.underlying d,ev T x with|some _,some (.int i),.int _ a=>sO i a/\k (.int i a)|_,_,_=>False
 |_=>False
def Bb(op:Op)(T:Tm)(k:Value->Prop):Prop:=
 match op with
 | .indexAddr t x i=>
  match P.underlying t with
  |some (.slice e)=>
   match P.info? e,ev T x,ev T i with
   |some a,.slice (some ⟨b,o,none⟩) len _,.int _ n=>(0<=n/\n<len)/\k (.pointer (some ⟨b,o+n.toNat*a.size,none⟩))
   |_,_,_=>False
  |some (.array m e)=>
   match P.info? e,ev T x,ev T i with
   |some a,.pointer (some ⟨b,o,none⟩),.int _ n=>(0<=n/\n<m)/\k (.pointer (some ⟨b,o+n.toNat*a.size,none⟩))
   |_,_,_=>False
  |_=>False
 |_=>False
def aF(s:ByteArray)(n:Int):Int:=(s.data.toList.getD n.toNat 0).toNat
def Cq(op:Op)(T:Tm)(k:Value->Prop):Prop:=
 match op with
 | .index t x i=>
  match P.underlying t,ev T x,ev T i with
  |some .string,.string s,.int _ n=>(0<=n/\n<s.size)/\k (.int .u8 (aF s n))
  |_,_,_=>False
 |_=>False
def jP(T:Tm)(d:Int):Option Operand->Option Int
 |none=>some d
 |some x=>match ev T x with| .int _ n=>some n|_=>none
def Cs(op:Op)(T:Tm)(k:Value->Prop):Prop:=
 match op with
 | .slice t x lo hi none=>
  match P.underlying t with
  |some .string=>
   match ev T x with
   | .string s=>match jP T 0 lo,jP T s.size hi with
    |some l,some h=>(0<=l/\l<=h/\h<=s.size)/\k (.string (s.extract l.toNat h.toNat))
    |_,_=>False
   |_=>False
  |some (.slice e)=>
   match P.info? e,ev T x with
   |some a,.slice (some ⟨b,o,none⟩) len cap=>match jP T 0 lo,jP T len hi with
    |some l,some h=>(0<=l/\l<=h/\h<=cap/\l<cap)/\k (.slice (some ⟨b,o+l.toNat*a.size,none⟩) (h.toNat-l.toNat) (cap-l.toNat))
    |_,_=>False
   |_,_=>False
  |_=>False
 |_=>False
structure Ask(r i:Nat)(o:Oper)(s:Sem Next)(S:St):Prop where
 no:False
def signed:IntKind->Bool
 | .i8| .i16| .i32| .i64=>true
 |_=>false
def acd(o:Oper):OH:=
 match o.op with
 | .pick ..=>.pk
 | .indexAddr ..=>.ix
 | .index t _ _=>match P.underlying t with|some .string=>.si|_=>.q []
 | .slice ..=>.sl
 | .binOp b t _ _ _=>match b with
  | .add| .sub| .mul| .quo=>match P.underlying t with|some (.int k)=>(match signed k with|true=>.ck|false=>.q [])|some .string=>.ck|_=>.q []
  | .rem=>match P.underlying t with|some (.int _)=>.ck|_=>.q []
  |_=>.q []
 | .convert s d _=>match P.underlying s,P.underlying d with
  |some (.int _),some (.int _)=>.ck
  |_,_=>.q []
 |_=>.q []
def Km(op:Op)(T:Tm)(k:Value->Prop):Prop:=
 match op with
 | .slice t x lo hi none=>
  match P.underlying t,ev T x with
  |some (.slice e),.slice (some _) len cap=>
   match P.info? e,jP T 0 lo,jP T len hi with
   |some _,some l,some h=>(0<=l/\l<=h/\h<=cap)/\∀v,k v
   |_,_,_=>False
  |_,_=>False
 |_=>False
variable(N:Nat)
def ki(o:Oper)(h:OH)(T:Tm)(S:St)(k:Value->Prop):Prop:=
 match h with
 | .q hs=>rd P S (execOp (ev T) o) hs fun
  | .value v=>k v
  | .skip=>k undef
  |_=>False
 | .qo C=>dJ P o C/\∃x,o.op.operands.toList.map (ev T)=C.args x/\C.cond x/\k (C.val x)
 | .pk=>match o.op with
  | .pick c a b=>match ev T c with
   | .bool t=>Br t (k (ev T a)) (k (ev T b))
   |_=>False
  |_=>False
 | .ck=>AQ P o.op T k
 | .ix=>Bb P o.op T k
 | .si=>Cq P o.op T k
 | .sl=>Cs P o.op T k
 |_=>False
def gH(o:Oper)(h:OH):OH:=match h with| .d=>acd P o|h=>h
def mS(o:Oper)(h:OH)(T:Tm)(S:St)(k:Tm->St->Prop)(kp:List PanicEntry->Tm->St->Prop):Prop:=
 match gH P o h with
 | .ask r i=>Ask r i o (execOp (ev T) o) S
 | .w hs=>wr P (execOp (ev T) o) hs S (fun x S'=>match x with
  | .value v=>k (dw N o.dst v T) S'
  | .skip=>k (dw N o.dst undef T) S'
  |_=>False) (fun v S'=>kp [{v,recovered:=false}] T S')
 | .n j=>match ya P (execOp (ev T) o)with
  |some (c,f)=>∀b,match Bv P (f b)with
   |some (.value v)=>k (dw N o.dst v T) (fT S j (mkAtom b c))
   |_=>False
  |none=>False
 | .c C bG out=>rd P S (execOp (ev T) o) [] fun
  | .enter f args=>jW P f C/\(nodupB bG&&nodupB out)=true/\FB C args.toList bG out S (fun v S'=>k (dw N o.dst v T) S') (fun a S'=>kp a T S')
  |_=>False
 | .o C bG out=>e5 P o C/\(nodupB bG&&nodupB out)=true/\FB C (o.op.operands.toList.map (ev T)) bG out S (fun v S'=>k (dw N o.dst v T) S') (fun a S'=>kp a T S')
 | .R5=>Km P o.op T fun v=>k (dw N o.dst v T) S
 |h'=>ki P o h' T S fun v=>k (dw N o.dst v T) S
def mT(aN:Array Oper)(o:Oper)(h:OH)(T:Tm)(S:St)(k:Tm->St->Prop)(kp:List PanicEntry->Tm->St->Prop):Prop:=
 match o.guard with
 |none=>mS P N o h T S k kp
 |some (j,a)=>
  match (aN[j]?).bind (·.dst)with
  |none=>False
  |some d=>match T.z00 d with
   | .bool t=>Br t
     (match a with|true=>mS P N o h (dw N (some d) (.bool true) T) S k kp|false=>k (dw N o.dst undef (dw N (some d) (.bool true) T)) S)
     (match a with|false=>mS P N o h (dw N (some d) (.bool false) T) S k kp|true=>k (dw N o.dst undef (dw N (some d) (.bool false) T)) S)
   | .tuple _=>k (dw N o.dst undef T) S
   |_=>False
def rg(H:Nat->OH)(aN:Array Oper):List Nat->Tm->St->(Tm->St->Prop)->(List PanicEntry->Tm->St->Prop)->Prop
 | [],T,S,k,_=>k T S
 |i::rest,T,S,k,kp=>
  match aN[i]? with
  |none=>False
  |some o=>mT P N aN o (H i) T S (fun T S=>rg H aN rest T S k kp) kp
def jb(T:Tm):List (Nat×Value)->Prop
 | []=>True
 | (i,v)::r=>T.z00 i=v/\jb T r
def qc:Code->Option Nat
 | .region id _ _=>some id
 | .seq a b=>match qc a with|some i=>some i|none=>qc b
 | .block _ c=>qc c
 | .loop c=>qc c
 | .scope c=>qc c
 | .cond _ a b=>match qc a with|some i=>some i|none=>qc b
 |_=>none
def cJ:List LH->List Nat
 | []=>[]
 | .z00 j::r=>j::cJ r
 | .ex j _::r=>j::cJ r
 | .nw j::r=>j::cJ r
inductive xB where
 |mt (amH:List Nat)
 |new (j:Nat)
 |pj (d5:List Nat)
def gu(h:OH):xB:=
 match h with
 | .q hs=>.mt (cJ hs)
 | .w hs=>.pj (cJ hs)
 | .n j=>.new j
 | .c _ bG out=>.pj (bG++out)
 | .o _ bG out=>.pj (bG++out)
 | .R5=>.pj []
 |_=>.mt []
def yl(a b:List Nat):Bool:=a.all fun i=>b.all fun j=> !Nat.beq i j
def yV(r i:xB):Bool:=
 match i,r with
 | .mt _,.mt _=>true
 | .mt a,.new j=>yl a [j]
 | .mt a,.pj b=>yl a b
 | .new j,.mt a=>yl a [j]
 | .new j,.new k=> !Nat.beq j k
 | .new j,.pj b=>yl [j] b
 | .pj b,.mt a=>yl a b
 | .pj _,_=>false
def NY(o:Oper)(ea:List Nat):Nat:=o.after.toList.foldr (fun e s=>bif Region.binds .any e then (2^e.on|||ea.getD e.on 0)|||s else s) 0
def kC:List Oper->List Nat->List Nat
 | [],ea=>ea
 |o::r,ea=>kC r (ea++[NY o ea])
def sR(o:Oper):Bool:=match o.op with| .select ..=>true|_=>false
def cO(aN:Array Oper)(i:Nat):Oper:=aN.getD i default
def mw:xB->List Nat
 | .mt r=>r
 | .new _=>[]
 | .pj _=>[]
def iY:xB->List Nat
 | .mt _=>[]
 | .new j=>[j]
 | .pj l=>l
def t_(c:xB):List Nat:=mw c++iY c
def akD(r i:xB):Bool:=match i with| .new j=>yl [j] (t_ r)|_=>true
def Bq(H:Nat->OH)(aN:Array Oper)(ms:List Nat)(r i:Nat):Bool:=
 !(ms.getD r 0).testBit i&&akD (gu (gH P (cO aN r) (H r))) (gu (gH P (cO aN i) (H i)))&&
 ((ms.getD i 0).testBit r||(Oper.apart aN (cO aN i) (cO aN r)&&yV (gu (gH P (cO aN r) (H r))) (gu (gH P (cO aN i) (H i)))))
def wl(H:Nat->OH)(aN:Array Oper)(ms:List Nat):List Nat->Bool
 | []=>true
 |r::l=>(l.all fun i=>Bq P H aN ms r i)&&wl H aN ms l
def Ob(H:Nat->OH)(aN:Array Oper)(l:List Nat):Bool:=
 (aN.toList.all fun o=> !sR o&&o.after.toList.all fun e=> !Region.binds .any e||Nat.blt e.on aN.size)&&nodupB l&&Nat.beq l.length aN.size&&
 (l.all fun i=>Nat.blt i aN.size&& !((kC aN.toList []).getD i 0).testBit i)&&wl P H aN (kC aN.toList []) l
def r5(ms:List Nat)(i:Nat)(l:List Nat):Bool:=l.all fun k=>(ms.getD k 0).testBit i
def N0(H:Nat->OH)(aN:Array Oper)(l:List Nat):List Nat:=l.filterMap fun i=>match gu (gH P (cO aN i) (H i))with| .new j=>some j|_=>none
def Uy(S:St)(d5:List Nat):Bool:=d5.all fun j=>match gt S j with| .d0=>true|_=>false
def m2(H:Nat->OH)(aN:Array Oper)(ms:List Nat):List Nat->Tm->St->(Tm->St->Prop)->(List PanicEntry->Tm->St->Prop)->Prop
 | [],T,S,k,_=>k T S
 |i::rest,T,S,k,kp=>mT P N aN (cO aN i) (H i) T S (fun T S=>m2 H aN ms rest T S k kp)
   (match r5 ms i rest with|true=>fun a _ S=>∀T,kp a T S|false=>fun _ _ _=>False)
def E(H:jc):Code->Nat->Tm->St->(Exit->Tm->St->Prop)->Prop
 | .skip,_,T,S,K=>K .normal T S
 | .seq a b,key,T,S,K=>
  match (qc b).bind H.cut with
  |none=>E H a key T S fun e T S=>match e with| .normal=>E H b key T S K|e=>K e T S
  |some I=>
   match I.gh with
   |none=>
    (E H a key T S fun e T S=>match e with| .normal=>∃x,I.P x/\jb T (I.lv x)/\aE S (bD (I.st x))|e=>K e T S)/\
    ∀x d,I.P x->E H b key (jq d (I.lv x)) (bD (I.st x)) K
   |some g=>∃n:g.1,
    (E H a key T S fun e T S=>match e with| .normal=>∃x,(I.P x/\g.2 x=n)/\jb T (I.lv x)/\aE S (bD (I.st x))|e=>K e T S)/\
    ∀x d,(I.P x/\g.2 x=n)->E H b key (jq d (I.lv x)) (bD (I.st x)) K
 | .cond c a b,key,T,S,K=>
  match ev T c with
  | .bool t=>Br t (E H a key T S K) (E H b key T S K)
  |_=>False
 | .block id c,_,T,S,K=>E H c id T S fun e T S=>match e with| .exit i=>(bif Nat.beq i id then K .normal T S else K (.exit i) T S)|e=>K e T S
 | .loop c,key,T,S,K=>
  match H.yB key with
  |none=>False
  |some I=>
   match I.gh with
   |none=>(∃x,I.P x/\jb T (I.lv x)/\aE S (bD (I.st x)))/\
    ∀x d,I.P x->E H c key (jq d (I.lv x)) (bD (I.st x)) fun e T S=>match e with
     | .normal=>∃y,I.P y/\jb T (I.lv y)/\aE S (bD (I.st y))/\I.mu y<I.mu x
     |e=>K e T S
   |some g=>∃n:g.1,(∃x,(I.P x/\g.2 x=n)/\jb T (I.lv x)/\aE S (bD (I.st x)))/\
    ∀x d,(I.P x/\g.2 x=n)->E H c key (jq d (I.lv x)) (bD (I.st x)) fun e T S=>match e with
     | .normal=>∃y,(I.P y/\g.2 y=n)/\jb T (I.lv y)/\aE S (bD (I.st y))/\I.mu y<I.mu x
     |e=>K e T S
 | .exit id,_,T,S,K=>K (.exit id) T S
 | .scope c,key,T,S,K=>E H c key T S fun e T S=>match e with| .goto _=>False|e=>K e T S
 | .ret,_,T,S,K=>K .ret T S
 | .region id aN f,_,T,S,K=>
  match f with
  |false=>rg P N (H.op id) aN (List.range aN.size) T S (fun T S=>K .normal T S) (fun h T S=>K (.panic h) T S)
  |true=>
   let l:=match H.yT id with| []=>List.range aN.size|l=>l
   (Ob P (H.op id) aN l&&Uy S (N0 P (H.op id) aN l))=true/\
   m2 P N (H.op id) aN (kC aN.toList []) l T S (fun T S=>K .normal T S) (fun h T S=>K (.panic h) T S)
 |_,_,_,_,_=>False
def jx(fn:Func)(T:Tm):Sem Value:=do
 let vs <-fn.results.mapM fun
  | .tmp t=>pure (T.z00 t)
  | .cell a t=>do loadVar t (<-asAddr (T.z00 a))
 pure (if h:vs.size=1 then vs[0] else .tuple vs)
def Body(fn:Func)(H:jc)(b:List LH)(c:Code)(T:Tm)(S:St)(R:Ending->St->Prop):Prop:=
 E P N H c 0 T S fun e T S=>match e with
  | .normal| .ret=>rd P S (jx fn T) b fun v=>R (.returned v) S
  | .panic a=>R (.panicked a) S
  |_=>False
def wX(r:Nat):Code->Option (Array Oper)
 | .region id aN _=>bif Nat.beq id r then some aN else none
 | .seq a b=>match wX r a with|some x=>some x|none=>wX r b
 | .cond _ a b=>match wX r a with|some x=>some x|none=>wX r b
 | .block _ c=>wX r c
 | .loop c=>wX r c
 | .scope c=>wX r c
 |_=>none
def ba(fn:Func)(r i:Nat):Oper:=((wX r (fn.body.getD .skip)).getD #[]).getD i default
structure ar(C:aQ)(x:C.X)(F:ah)(e:Ending)(S:St):Prop where
 h:∃y,C.bZ x y/\e=C.val x y/\aE S (bD (C.post x y++[F]))
end
end
section
open Go
theorem sz{i j:Nat}(h:i≠j):Nat.beq i j=false:=by
 cases a:Nat.beq i j with
 |false=>rfl
 |true=>exact absurd (Nat.eq_of_beq_eq_true a) h
theorem MU{i j:Nat}(h:i<j):Nat.blt i j=true:=by rw[Nat.blt_eq];exact h
theorem MT{i j:Nat}(h:¬i<j):Nat.blt i j=false:=by
 cases a:Nat.blt i j with
 |false=>rfl
 |true=>rw[Nat.blt_eq]at a;exact absurd a h
variable{a:Act}{A:ah}{h:Hp}{I J:a_}{vs:List Value}{N b j:Nat}{o:tW}{S:St}{T:Tm}{α:Type}{t:TypeId}{w w':World}
theorem GJ(i k:Nat)(u v:α):(bif Nat.beq i k then u else v)=if i=k then u else v:=by
 simp[*]
theorem aft(k:Nat)(v:α)(l:List (Nat×α))(i:Nat)(d:α):pq (d6 k v l) i d=if i=k then v else pq l i d:=by
 induction l with
 |nil=>simp only[d6,pq,GJ]
 |cons p r c=>
  obtain⟨j,u⟩:=p;simp only[d6];by_cases a:k=j
  ·subst a;simp only[Nat.beq_refl,aU,pq,GJ];grind
  ·simp only[sz a,aM];by_cases b:k<j
   ·simp only[MU b,aU,pq,GJ]
   ·simp only[MT b,aM,pq,c,GJ];grind
theorem aeC{i:Nat}(h:i≠j)(u v:α)(l:List (Nat×α)):d6 i u (d6 j v l)=d6 j v (d6 i u l):=by
 have a:= @sz;have lt:= @MU;have nl:= @MT
 induction l with
 |nil=>
  simp only[d6];grind
 |cons p r g=>
  obtain⟨k,c⟩:=p;by_cases hi:i=k
  ·subst hi;by_cases e:j<i
   ·simp[d6,a h,a (Ne.symm h),lt e,nl (show ¬i<j by omega)]
   ·simp[d6,a (Ne.symm h),nl e]
  ·by_cases e:j=k
   ·subst e;by_cases b:i<j
    ·simp[d6,a h,a (Ne.symm h),lt b,nl (show ¬j<i by omega)]
    ·simp[d6,a h,nl b]
   ·by_cases b:i<k
    ·by_cases d:j<k
     ·by_cases f:i<j
      ·simp[d6,a h,a (Ne.symm h),a hi,a e,lt b,lt d,lt f,nl (show ¬j<i by omega)]
      ·simp[d6,a h,a (Ne.symm h),a hi,a e,lt b,lt d,lt (show j<i by omega),nl f]
     ·simp[d6,a (Ne.symm h),a hi,a e,lt b,nl d,nl (show ¬j<i by omega)]
    ·by_cases d:j<k
     ·simp[d6,a h,a hi,a e,nl b,lt d,nl (show ¬i<j by omega)]
     ·simp[d6,a hi,a e,nl b,nl d,g]
structure dR(N:Nat)(T:Tm)(a:Act):Prop where
 get:∀i,a.tmps.getD i undef=T.z00 i
 size:a.tmps.size=N
theorem ZN(T:Tm)(k i:Nat)(v:Value):(nW T k v).z00 i=if i=k then v else T.z00 i:=by
 unfold nW Tm.z00;simp[*]
theorem dR.eval(h:dR N T a):a.eval=ev T:=by
 funext x;cases x with
 |tmp t=>exact h.get t
 |const v=>rfl
 |global g=>rfl
 |func f=>rfl
theorem Bw(N:Nat)(T:Tm)(d:Nat)(v:Value)(i:Nat):(dw N (some d) v T).z00 i=if d<N/\i=d then v else T.z00 i:=by
 unfold dw;by_cases h:d<N
 ·simp[MU h,ZN,h]
 ·simp[MT h,h]
theorem dR.put(h:dR N T a)(dst:Option Tmp)(v:Value):dR N (dw N dst v T) (a.put dst v):=by
 cases dst with
 |none=>exact⟨h.get,h.size⟩
 |some d=>
  refine⟨fun i=>?_,by simpa[Act.put]using h.size⟩;rw[Bw];simp only[Act.put,nA,Array.getElem?_setIfInBounds];have b:=h.get i;simp only[nA]at b;by_cases hd:d<N
  ·by_cases hi:i=d
   ·subst hi;simp[hd,h.size]
   grind
  ·by_cases hi:i=d
   ·subst hi;have c:¬i<a.tmps.size:=by rw[h.size];exact hd
    grind
   grind
theorem dR.same{T':Tm}(h:dR N T a)(e:∀i,T'.z00 i=T.z00 i):dR N T' a:=⟨fun i=>(h.get i).trans (e i).symm,h.size⟩
theorem dR.defers(h:dR N T a)(ds:List Deferred):dR N T {a with defers:=ds}:=⟨h.get,h.size⟩
@[simp] theorem Bx (a:Act) (dst:Option Tmp) (v:Value):(a.put dst v).defers=a.defers:=by cases dst <;> rfl
theorem acq(vs:List Value)(i:Nat):(mK vs).z00 i=vs.getD i undef:=rfl
theorem Fa(vs:List Value)(h:vs.length<=N):dR N (mK vs) {tmps:=⟨vs⟩++Array.replicate (N-(⟨vs⟩:Array Value).size) undef,defers:=[]}:=by
 refine⟨fun i=>?_,by simp;omega⟩;rw[acq];simp only[nA,Array.getElem?_append,fg];grind
theorem oB(h:dR N T a){l:List (Nat×Value)}(b:jb T l):dR N (jq T.z00 l) a:=by
 refine h.same fun i=>?_;unfold jq;show pq l i (T.z00 i)=T.z00 i
 induction l with
 |nil=>rfl
 |cons p r c=>
  obtain⟨k,v⟩:=p;simp only[jb]at b;simp only[pq];by_cases hk:i=k
  ·simp[*]
  ·simp[sz hk,c b.2]
theorem a_.le_refl(I:a_):a_.le I I:=fun _ _ h=>h
theorem a_.le_trans{K:a_}(h:a_.le I J)(h':a_.le J K):a_.le I K:=fun b o e=>h' b o (h b o e)
theorem sM(S:St)(k j:Nat)(A:ah):gt (fT S k A) j=if j=k then A else gt S j:=aft _ _ _ _ _
theorem adx(n:Nat)(l:List ah)(j:Nat):gt (num n l) j=if j<n then .d0 else l.getD (j-n) .d0:=by
 unfold gt
 induction l generalizing n with
 |nil=>simp[num,pq]
 |cons A r a=>
  simp only[num,pq,a];by_cases h:j=n
  ·simp[*]
  ·have e:Nat.beq j n=false:=sz h;grind
theorem sL(l:List ah)(j:Nat):gt (bD l) j=l.getD j .d0:=by unfold bD;rw[adx];simp
theorem cv.refl(w:World):cv w w:=aq
theorem cv.trans{v u:World}(h:cv w v)(h':cv v u):cv w u:=⟨h'.1.trans h.1,h'.2.trans h.2⟩
theorem ah.local{h':Hp}(c:∀b,o b->h b=h' b)(a:A.holds I h o):A.holds I h' o:=by
 cases A with
 |d0=>trivial
 |cells b vs t=>exact⟨a.1,(c _ a.1)▸a.2⟩
 |gW b d=>exact⟨a.1,(c _ a.1)▸a.2⟩
 |dq p=>exact p.Be I h h' o c a
theorem ah.mono(c:a_.le I J)(a:A.holds I h o):A.holds J h o:=by
 cases A with
 |d0=>trivial
 |cells b vs t=>exact a
 |gW b d=>exact a
 |dq p=>exact p.mono I J h o c a
theorem Tz(w:World)(a:Addr):ue (hp w) a=w.cell? a:=by
 rfl
theorem Sat.look(h:Sat I S w){a:Addr}{v:Value}(hl:aP (gt S j) a v):w.cell? a=some v:=by
 obtain⟨f,b,_,_⟩:=h.k7;rw[<-Tz];exact hl.h I _ _ h.mQ (b j)
theorem Sat.cells{I:a_}{S:St}{w:World}(h:Sat I S w){j b:Nat}{vs:List Value}{t:TypeId}(c:gt S j= .cells b vs t):w.heap[b]?=some (.cells ⟨vs⟩ t (0,0)):=by
 obtain⟨f,a,_,_⟩:=h.k7;have:=a j;rw[c]at this;exact this.2
theorem Sat.gW{I:a_}{S:St}{w:World}(h:Sat I S w){j b:Nat}{o:Obj}(c:gt S j= .gW b o):w.heap[b]?=some o:=by
 obtain⟨f,a,_,_⟩:=h.k7;have:=a j;rw[c]at this;exact this.2
theorem Sat.write(h:Sat I S w){A':ah}(l:∀o,(gt S j).holds I (hp w) o->o b)
  (g:∀c,c≠b->w'.heap[c]?=w.heap[c]?) (hs:w'.heap.size=w.heap.size)
  (p:∀o,(gt S j).holds I (hp w) o->A'.holds I (hp w') o):Sat I (fT S j A') w':=by
 obtain⟨f,d,k,n⟩:=h.k7;have m:f j b:=l _ (d j);refine⟨⟨f,fun i=>?_,k,fun i c a=>by grind⟩,fun c o a=>?_⟩
 ·rw[sM];by_cases hi:i=j
  ·simp[*]
  ·simp only[hi,if_false];refine ah.local (fun c a=>?_) (d i);by_cases e:c=b
   ·grind
   ·exact(g c e).symm
 ·by_cases e:c=b
  ·grind
  ·show w'.heap[c]?=some o;rw[g c e];exact h.mQ c o a
theorem UE(w:World)(a:Addr)(v:Value)(c:Nat):(w.setCell a v).heap[c]?=if c=a.block then (w.heap[c]?).map (fun| .cells cs e fr=>.cells (if a.spot.isSome then cs else cs.setIfInBounds a.off v) e fr|o=>o) else w.heap[c]?:=by
 simp only[World.setCell,Array.getElem?_modify];grind
theorem Sat.store(h:Sat I S w)(e:gt S j= .cells b vs t){a:Addr}(hs:d9 a b)(v:Value):
  Sat I (fT S j (.cells b (vs.set a.off v) t)) (w.setCell a v):=by
 have g:=h.cells e;obtain⟨e1,f⟩:=hs;refine h.write (b:=b) (fun o d=>by rw[e]at d;exact d.1) (fun c i=>?_) (by simp[World.setCell]) (fun o d=>?_)
 ·rw[UE];simp[*]
 ·rw[e]at d;refine⟨d.1,?_⟩;show(w.setCell a v).heap[b]?=_;rw[UE];simp[*]
theorem Sat.setObj(h:Sat I S w){o:Obj}(d:gt S j= .gW b o)(e:Obj):
  Sat I (fT S j (.gW b e)) {w with heap:=w.heap.setIfInBounds b e}:=by
 have g:=h.gW d;have f:b<w.heap.size:=by
  grind
 refine h.write (b:=b) (fun o a=>by rw[d]at a;exact a.1) (fun c i=>?_) aL (fun o a=>?_)
 ·grind
 ·rw[d]at a;refine⟨a.1,?_⟩;show(w.heap.setIfInBounds b e)[b]?=_;simp[*]
theorem afZ(I:a_)(h:Hp)(o:tW)(b:Nat)(c:Obj)(a:o b)(d:h b=some c):(mkAtom b c).holds I h o:=by
 unfold mkAtom;split
 ·exact⟨a,ae⟩
 ·exact⟨a,d⟩
theorem adM(w:World)(a:Obj)(c:Nat):({w with heap:=w.heap.push a}:World).heap[c]?=if c=w.heap.size then some a else w.heap[c]?:=by
 grind
theorem Sat.new(h:Sat I S w)(j:Nat)(a:Obj):Sat I (fT S j (mkAtom w.heap.size a)) {w with heap:=w.heap.push a}:=by
 obtain⟨f,l,q,r⟩:=h.k7;have p:∀i b,f i b->b≠w.heap.size:=fun i b d e=>by grind
 have k:I w.heap.size=none:=by
  cases m:I w.heap.size with
  |none=>rfl
  |some o=>
   have:=h.mQ _ _ m;simp[hp]at this
 refine⟨⟨fun i b=>if i=j then b=w.heap.size else f i b,fun i=>?_,fun i s b d n=>?_,fun i b d=>?_⟩,fun c o g=>?_⟩
 ·rw[sM];by_cases hi:i=j
  ·subst hi;simp only[if_true];exact afZ _ _ _ _ _ rfl (by show({w with heap:=w.heap.push a}:World).heap[_]?=_;simp[*])
  ·simp only[hi,if_false];refine ah.local (fun c g=>?_) (l i);show w.heap[c]?=({w with heap:=w.heap.push a}:World).heap[c]?;grind
 ·grind
 ·grind
 ·show({w with heap:=w.heap.push a}:World).heap[c]?=some o;rw[adM];by_cases e:c=w.heap.size
  ·grind
  ·simp[e];exact h.mQ c o g
theorem Sat.heap(h:Sat I S w)(e:w'.heap=w.heap):Sat I S w':=by
 have a:hp w'=hp w:=by unfold hp;rw[e]
 exact⟨by rw[a,e];exact h.k7,by rw[a];exact h.mQ⟩
theorem Uz{a:Addr}(h:w.heap[a.block]?=some (.cells ⟨vs⟩ t (0,0))):w.frozen? a=false:=by
 unfold World.frozen?;simp[h]
theorem AP{a:Addr}(hs:d9 a b)(h:w.heap[b]?=some (.cells ⟨vs⟩ t (0,0))):w.cell? a=vs[a.off]?:=by
 obtain⟨e1,c⟩:=hs;unfold World.cell?;simp[*]
theorem SH{K:Value->Prop}{s:iE}(h:s.ex K):∃v,K v:=by
 cases s <;> simp only[iE.ex]at h
 all_goals grind
section
variable{P:Program}
theorem uY(h:Sat I S w):∀(s:Sem α)(hs:List LH)(k:α->Prop),rd P S s hs k->∃a,s.run P w= .ok a w/\k a:=by
 intro s
 induction s with
 |pure a=>intro hs k hk;exact⟨a,rfl,hk⟩
 |program f d=>intro hs k hk;exact d P hs k hk
 |mark m s d=>intro hs k hk;exact d hs k hk
 |load m a f d=>
  intro hs k hk;cases hs with
  |nil=>simp only[rd]at hk
  |cons x hs=>
   cases x with
   | z00 j=>
    simp only[rd]at hk;split at hk
    ·rename_i b vs t l
     obtain⟨c,hk⟩:=hk;have i:=AP c (h.cells l);split at hk
     ·rename_i v n
      obtain⟨u,e,g⟩:=d v hs k hk;refine⟨u,?_,g⟩;simp only[Sem.run,i,n];exact e
     grind
    grind
   |ex j o=>
    simp only[rd]at hk;obtain⟨v,hl,hk⟩:=SH hk;obtain⟨u,e,g⟩:=d v hs k hk;refine⟨u,?_,g⟩;simp only[Sem.run,h.look hl];exact e
   |nw j=>simp only[rd]at hk
 |_=>intro hs k hk;cases hs <;> simp only[rd]at hk
inductive su{α:Type}(I:a_)(w:World)(k:α->St->Prop)(kp:Value->St->Prop):Result α->Prop
 |ok (a:α) (w':World) (S':St) (h:Sat I S' w') (e:cv w w') (hk:k a S'):su I w k kp (.ok a w')
 |panic (v:Value) (w':World) (S':St) (h:Sat I S' w') (e:cv w w') (hk:kp v S'):su I w k kp (.halt (.panic v) w')
theorem su.from{w1:World}{k:α->St->Prop}{kp:Value->St->Prop}{r:Result α}(e:cv w w1)(h:su I w1 k kp r):su I w k kp r:=by
 cases h with
 |ok a w' S' h b hk=>exact .ok a w' S' h (e.trans b) hk
 |panic v w' S' h b hk=>exact .panic v w' S' h (e.trans b) hk
theorem alh:∀(s:Sem α)(hs:List LH)(S:St)(w:World)(k:α->St->Prop)(kp:Value->St->Prop),Sat I S w->wr P s hs S k kp->su I w k kp (s.run P w):=by
 intro s
 induction s with
 |pure a=>intro hs S w k kp h hk;exact .ok a w S h (cv.refl w) hk
 |program f e=>intro hs S w k kp h hk;exact e P hs S w k kp h hk
 |mark m s e=>intro hs S w k kp h hk;exact e hs S w k kp h hk
 |halt x=>
  intro hs S w k kp h hk;cases x with
  |panic v=>exact .panic v w S h (cv.refl w) hk
  |_=>cases hs <;> simp only[wr]at hk
 |load m a f e=>
  intro hs S w k kp h hk;cases hs with
  |nil=>simp only[wr]at hk
  |cons x hs=>
   cases x with
   | z00 j=>
    simp only[wr]at hk;split at hk
    ·rename_i b vs t d
     obtain⟨c,hk⟩:=hk;have z:=AP c (h.cells d);split at hk
     ·rename_i v B
      simp only[Sem.run,z,B];grind
     grind
    grind
   |ex j C=>
    simp only[wr]at hk;obtain⟨v,hl,hk⟩:=SH hk;simp only[Sem.run,h.look hl];grind
   |nw j=>simp only[wr]at hk
 |store m a v s e=>
  intro hs S w k kp h hk;have main:∀(j b:Nat)(vs:List Value)(t:TypeId)(l:List LH),gt S j= .cells b vs t->d9 a b->a.off<vs.length->HB v=true->
    wr P s l (fT S j (.cells b (vs.set a.off v) t)) k kp->su I w k kp ((Sem.store m a v s).run P w):=by
   intro j b vs t l d c A p hk;have g:=h.cells d;have z:=AP c g;have i:w.frozen? a=false:=Uz (by rw[c.fO];exact g);have q:(Sem.store m a v s).run P w=s.run P (w.setCell a v):=by
    have n:w.cell? a=some vs[a.off]:=by simp[*]
    cases v <;> first
     | (simp only[Sem.run,n,i,Bool.false_eq_true,if_false];done)
     |exact absurd p (by simp[HB])
   rw[q];exact su.from (w1:=w.setCell a v) aq (e l _ _ k kp (h.store d c v) hk)
  cases hs with
  |nil=>cases v <;> simp only[wr]at hk
  |cons x hs=>
   cases x with
   | z00 j=>
    simp only[wr]at hk;split at hk
    all_goals grind
   |ex j C=>
    simp only[wr]at hk;grind
   |nw j=>simp only[wr]at hk
 |new o f e=>
  intro hs S w k kp h hk;cases hs with
  |nil=>simp only[wr]at hk
  |cons x hs=>
   cases x with
   |nw j=>
    simp only[wr]at hk;exact su.from (w1:={w with heap:=w.heap.push o}) aq (e w.heap.size hs _ _ k kp (h.new j o) (hk _))
   |_=>simp only[wr]at hk
 |shape r f e=>
  intro hs S w k kp h hk;cases hs with
  |nil=>simp only[wr]at hk
  |cons x hs=>
   cases x with
   | z00 j=>
    simp only[wr]at hk;split at hk
    ·rename_i b vs t d
     obtain⟨rfl,hk⟩:=hk;have g:=h.cells d;have:w.shape? r=some (t,vs.length):=by unfold World.shape?;simp[g]
     simp only[Sem.run,this];grind
    grind
   |_=>simp only[wr]at hk
 |frozen a f e=>
  intro hs S w k kp h hk;cases hs with
  |nil=>simp only[wr]at hk
  |cons x hs=>
   cases x with
   | z00 j=>
    simp only[wr]at hk;split at hk
    ·rename_i b vs t d
     obtain⟨c,hk⟩:=hk;have i:w.frozen? a=false:=Uz (by rw[c.fO];exact h.cells d);simp only[Sem.run,i];grind
    grind
   |_=>simp only[wr]at hk
 |getObj r f e=>
  intro hs S w k kp h hk;cases hs with
  |nil=>simp only[wr]at hk
  |cons x hs=>
   cases x with
   | z00 j=>
    simp only[wr]at hk;split at hk
    ·grind
    ·rename_i b o y d
     obtain⟨rfl,hk⟩:=hk;have g:=h.gW d;have:(Sem.getObj r f).run P w=(f o).run P w:=by
      simp only[Sem.run,g]
     grind
    grind
   |_=>simp only[wr]at hk
 |setObj r u s e=>
  intro hs S w k kp h hk;cases hs with
  |nil=>simp only[wr]at hk
  |cons x hs=>
   cases x with
   | z00 j=>
    simp only[wr]at hk;split at hk
    ·grind
    ·rename_i b o y d
     obtain⟨rfl,hk⟩:=hk;have g:=h.gW d;have:(Sem.setObj r u s).run P w=s.run P {w with heap:=w.heap.setIfInBounds r u}:=by
      simp only[Sem.run,g]
     rw[this];exact su.from (w1:={w with heap:=w.heap.setIfInBounds r u}) aq (e hs _ _ k kp (h.setObj d u) hk)
    grind
   |_=>simp only[wr]at hk
 |_=>intro hs S w k kp h hk;cases hs <;> simp only[wr]at hk
end
end
section
open Go
theorem G8(bG:List Nat)(S:St)(j:Nat):gt (l8 bG S) j=if j∈bG then .d0 else gt S j:=by
 induction bG generalizing S with
 |nil=>simp[l8]
 |cons k r a=>
  simp only[l8,a,sM,List.mem_cons];grind
theorem Hz{l:List Nat}(h:nodupB l=true):l.Nodup:=by
 induction l with
 |nil=>exact List.nodup_nil
 |cons j r b=>
  simp only[nodupB,gx,List.all_eq_true]at h;refine List.nodup_cons.2 ⟨fun a=>?_,b h.2⟩;have:=h.1 j a;simp at this
structure An(I:a_)(S:St)(l:List ah)(w:World):Prop where
 k7:∃f g:Nat->tW,(∀j,(gt S j).holds I (hp w) (f j))/\(∀i,(l.getD i .d0).holds I (hp w) (g i))/\(∀i j b,f i b->f j b->i=j)/\(∀i j b,g i b->g j b->i=j)/\
  (∀i j b,f i b->g j b->False)/\(∀j b,f j b->I b=none/\b<w.heap.size)/\(∀j b,g j b->I b=none/\b<w.heap.size)
 mQ:CH I (hp w)
variable{C:aQ}{I:a_}{l:List ah}{out bG:List Nat}{o:Oper}{S:St}{T:Tm}{k:Value->Prop}{w:World}
theorem An.nil(h:An I S l w):Sat I S w:=by
 obtain⟨f,g,a,_,b,_,_,c,_⟩:=h.k7;exact⟨⟨f,a,b,c⟩,h.mQ⟩
theorem An.cons{A:ah}(h:An I S (A::l) w)(j:Nat):An I (fT S j A) l w:=by
 obtain⟨f,g,m,e,n,o,p,q,k⟩:=h.k7;refine⟨⟨fun i b=>if i=j then g 0 b else f i b,fun i b=>g (i+1) b,fun i=>?_,fun i=>?_,fun i d b a c=>?_,fun i d b a c=>?_,fun i d b a c=>?_,fun i b a=>?_,fun i b a=>k _ b a⟩,h.mQ⟩
 ·rw[sM];by_cases hi:i=j
  ·simp only[hi,if_true];simpa using e 0
  simp[*]
 all_goals grind
theorem ZL(out:List Nat):∀(l:List ah)(S:St),An I S l w->Sat I (nL out l S) w:=by
 induction out with
 |nil=>intro l S h;simpa[nL]using h.nil
 |cons j r a=>
  intro l S h;cases l with
  |nil=>simpa[nL]using h.nil
  |cons A l=>simpa[nL]using a l _ (h.cons j)
theorem Sat.part(h:Sat I S w)(hn:bG.Nodup):Sat I (bD (bG.map (gt S)++[.dq (rest S bG)])) w:=by
 obtain⟨f,m,k,p⟩:=h.k7;have d:(bG.map (gt S)).length=bG.length:=aL;refine⟨⟨fun i b=>(∃h:i<bG.length,f bG[i] b)\/(i=bG.length/\∃j,j∉bG/\f j b),fun i=>?_,fun i q b c a=>?_,fun i b c=>?_⟩,h.mQ⟩
 ·rw[sL,fg];rcases Nat.lt_trichotomy i bG.length with hi|hi|hi
  ·rw[lD ae];simp only[fP,gy hi,Option.map_some,Option.getD_some];refine ah.local (h:=hp w) (fun b _=>rfl) ?_;have:=m bG[i];have e:(fun b=>(∃h:i<bG.length,f bG[i] b)\/(i=bG.length/\∃j,j∉bG/\f j b))=f bG[i]:=by
    grind
   grind
  ·subst hi;rw[j6 aL];simp only[d,Nat.sub_self,List.getElem?_cons_zero,Option.getD_some];refine⟨fun j b=>j∉bG/\f j b,fun j=>?_,fun i j b c a=>k _ _ _ c.2 a.2,fun j b c=>.inr ⟨by first|rfl|trivial,j,c.1,c.2⟩⟩;rw[G8];by_cases l:j∈bG
   ·simp only[l,if_true];trivial
   simp[*]
  ·rw[j6 (by simp;omega)];have:i-(bG.map (gt S)).length=(i-bG.length-1)+1:=by simp;omega
   rw[this];simp;trivial
 ·rcases c with⟨hi,c⟩| ⟨hi,j,l,c⟩ <;> rcases a with⟨g,a⟩| ⟨g,r,n,a⟩
  ·have:=k _ _ _ c a;have o:=List.pairwise_iff_getElem.1 hn;grind
  all_goals grind
 grind
theorem Sat.U0{J:a_}{post:List ah}(h:Sat J (bD (post++[.dq (rest S bG)])) w):Sat J (nL out post (l8 bG S)) w:=by
 obtain⟨g,k,n,l⟩:=h.k7;have d:=k post.length;rw[sL,fg,j6 (bT _)]at d;simp only[Nat.sub_self,List.getElem?_cons_zero,Option.getD_some]at d;obtain⟨f,m,f2,f3⟩:=d;refine ZL out post _ ⟨⟨f,fun i b=>i<post.length/\g i b,m,fun i=>?_,f2,fun i j b a c=>n _ _ _ a.2 c.2,fun i j b a c=>?_,fun j b a=>l _ _ (f3 j b a),fun j b a=>l _ _ a.2⟩,h.mQ⟩
 ·by_cases hi:i<post.length
  ·have:=k i;rw[sL,fg,lD hi]at this;have e:(fun b=>i<post.length/\g i b)=g i:=by simp[*]
   grind
  ·have e:post.getD i .d0= .d0:=by simp[*]
   rw[e];trivial
 grind
section
variable{P:Program}{N:Nat}
theorem GF{x:C.X}{c:C.Y->Prop}:MO C x c↔∀y,C.bZ x y->c y:=by
 unfold MO;cases C.sum with
 |none=>exact Iff.rfl
 |some q=>
  obtain⟨A,B,f,g,TH⟩:=q;refine⟨fun h y d=>?_,fun h=>⟨fun a=>h _,fun b=>h _⟩⟩;rcases TH y with⟨a,rfl⟩| ⟨b,rfl⟩
  all_goals grind
theorem akJ{f:FuncId}{args:Array Value}{k:Value->St->Prop}{kp:List PanicEntry->St->Prop}
  (g:jW P f C) (hn:nodupB bG=true) (h:Sat I S w) (n:FB C args.toList bG out S k kp):
  Calls P f args w fun e w'=>∃J S',a_.le I J/\Sat J S' w'/\cv w w'/\match e with| .returned v=>k v S'| .panicked i=>kp i S'| .outgrown=>False:=by
 obtain⟨x,j,hp,l,m,hk⟩:=n;have hs:=h.part (Hz hn);rw[hp]at hs;have:=g.h x _ I w l m hs;have e:(⟨C.args x⟩:Array Value)=args:=by rw[<-j]
 rw[e]at this;refine this.mono ?_;rintro e w' ⟨y,J,b,rfl,d,c,a⟩;refine⟨J,_,d,c.U0 (out:=out),a,?_⟩;have:=GF.1 hk y b;omega
theorem dz{i:IntKind}{n:Int}(hn:sO i n):i.wrap n=n:=by
  cases i <;> simp only[sO]at hn <;> simp only[IntKind.wrap,IntKind.bits,IntKind.signed,Bool.true_and,jk,Bool.false_eq_true,if_false,Int.reducePow,Nat.reduceSub] <;>
    first
      |omega
      | (split
         · have:=j7 ‹_›;omega
         · rename_i a
           have:¬_:=fun h=>a (bv h);omega)
theorem aeo:i64.max=9223372036854775807:=by decide
theorem abD(h:AQ P o.op T k)(w:World):∃v,(execOp (ev T) o).run P w= .ok (.value v) w/\k v:=by
 unfold AQ at h;split at h
 ·rename_i x y _ c
  split at h
  ·rename_i i a j b hx f
   split at h
   ·rename_i e
    obtain rfl:=j7 e;obtain⟨g,hk⟩:=h;exact⟨_,by simp[execOp,c,hx,f,eqGuard,binOp,Op.intArith,dz g,pure,Sem.run,bind,Sem.bind],hk⟩
   grind
  ·rename_i s t hx f
   obtain⟨g,hk⟩:=h;have:¬((9223372036854775807:Int)<(s.size:Int)+t.size):=ae;exact⟨_,by simp[execOp,c,hx,f,eqGuard,binOp,Op.stringOp,aeo,this,pure,Sem.run,bind,Sem.bind],hk⟩
  grind
 ·rename_i x y _ c
  split at h
  ·rename_i i a j b hx f
   split at h
   ·rename_i e
    obtain rfl:=j7 e;obtain⟨g,hk⟩:=h;exact⟨_,by simp[execOp,c,hx,f,eqGuard,binOp,Op.intArith,dz g,pure,Sem.run,bind,Sem.bind],hk⟩
   grind
  grind
 ·rename_i x y _ c
  split at h
  ·rename_i i a j b hx f
   split at h
   ·rename_i e
    obtain rfl:=j7 e;obtain⟨g,hk⟩:=h;exact⟨_,by simp[execOp,c,hx,f,eqGuard,binOp,Op.intArith,dz g,pure,Sem.run,bind,Sem.bind],hk⟩
   grind
  grind
 ·rename_i x y _ c
  split at h
  ·rename_i i a j b hx f
   split at h
   ·rename_i e
    obtain rfl:=j7 e;obtain⟨l,g,hk⟩:=h;exact⟨_,by simp[execOp,c,hx,f,eqGuard,binOp,Op.intDiv,l,dz g,pure,Sem.run,bind,Sem.bind],hk⟩
   grind
  grind
 ·rename_i x y _ c
  split at h
  ·rename_i i a j b hx f
   split at h
   ·rename_i e
    obtain rfl:=j7 e;obtain⟨l,hk⟩:=h;exact⟨_,by simp[execOp,c,hx,f,eqGuard,binOp,Op.intDiv,l,pure,Sem.run,bind,Sem.bind],hk⟩
   grind
  grind
 ·rename_i s d x c
  split at h
  ·rename_i u i j a hs hd hx
   obtain⟨g,hk⟩:=h;exact⟨_,by simp[execOp,c,hx,convert,run_underlying hs,run_underlying hd,Conv.intToInt,dz g,Sem.run],hk⟩
  grind
 grind
theorem aeO(h:Bb P o.op T k)(w:World):∃v,(execOp (ev T) o).run P w= .ok (.value v) w/\k v:=by
 unfold Bb at h;have a:∀b off m:Nat,(⟨b,off,none⟩:Addr).add m=⟨b,off+m,none⟩:=by
  intro b off m;unfold Addr.add;simp[*]
 split at h
 ·rename_i t x i f
  split at h
  ·rename_i e l
   split at h
   ·rename_i d b off len cap kk n hi hx hn
    obtain⟨⟨g,j⟩,hk⟩:=h;have c:P.cellsOf e=d.size:=by unfold Program.cellsOf;simp[hi]
    exact⟨_,by simp[execOp,f,hx,hn,Instr.indexAt,asIntOf,run_underlying l,run_sizeOf w hi,c,g,j,a,Sem.run],hk⟩
   grind
  ·rename_i m e l
   split at h
   ·rename_i d b off kk n hi hx hn
    obtain⟨⟨g,j⟩,hk⟩:=h;have c:P.cellsOf e=d.size:=by unfold Program.cellsOf;simp[hi]
    exact⟨_,by simp[execOp,f,hx,hn,Instr.indexAt,Instr.sureAddr,asIntOf,run_underlying l,run_sizeOf w hi,c,g,j,a,Sem.run],hk⟩
   grind
  grind
 grind
theorem ajK(h:Cq P o.op T k)(w:World):∃v,(execOp (ev T) o).run P w= .ok (.value v) w/\k v:=by
 unfold Cq at h;split at h
 ·rename_i t x i b
  split at h
  ·rename_i s kk n f hx hn
   obtain⟨⟨c,g⟩,hk⟩:=h;have a:n.toNat<s.size:=ae;have e:s[n.toNat]?=some s[n.toNat]:=by simp[a]
   have d:(s[n.toNat].toNat:Int)=aF s n:=by
    unfold aF;simp[fg,ByteArray.getElem_eq_getElem_data,Array.getElem?_eq_getElem (show n.toNat<s.data.size from a)]
   refine⟨_,?_,hk⟩;rw[<-d];simp[execOp,b,hx,hn,Instr.index,asIntOf,run_underlying f,c,e,Sem.run]
  grind
 grind
theorem GK(v:Value)(kk:IntKind)(n:Int)(c:v= .int kk n)(y:Nat)(code:BoundsCode)(a:0<=n)(b:n<=y)(w:World):(Instr.sliceBound v y code).run P w= .ok n.toNat w:=by
 subst c;simp[Instr.sliceBound,asIntOf,a,b,Sem.run]
theorem VZ{x:Option Operand}{d v:Int}(h:jP T d x=some v):(x=none/\v=d)\/∃y kk,x=some y/\ev T y= .int kk v:=by
 cases x with
 |none=>simp only[jP,Option.some.injEq]at h;exact .inl ⟨rfl,h.symm⟩
 |some y=>
  simp only[jP]at h;grind
theorem MW(a:Bool){lo hi:Option Operand}{len cap:Nat}{l h:Int}(hl:jP T 0 lo=some l)(k:jP T len hi=some h)(c:0<=l)(i:l<=h)(d:h<=cap)(w:World):
  (Instr.sliceBounds a len cap (lo.map (ev T)) (hi.map (ev T)) none).run P w= .ok (l.toNat,h.toNat,cap) w:=by
 have hn:((h.toNat:Nat):Int)=h:=ae;rcases VZ hl with⟨rfl,rfl⟩| ⟨x,f,rfl,hx⟩ <;> rcases VZ k with⟨rfl,rfl⟩| ⟨y,g,rfl,e⟩
 ·rfl
 ·have b:=GK (P:=P) _ g h e cap (if a then .sliceAcap else .sliceAlen) ae d w;simp[Instr.sliceBounds,Sem.run,b]
 ·have b:=GK (P:=P) _ f l hx len .sliceB c i w;simp[Instr.sliceBounds,Sem.run,b]
 ·have b:=GK (P:=P) _ g h e cap (if a then .sliceAcap else .sliceAlen) ae d w;have j:=GK (P:=P) _ f l hx h.toNat .sliceB c ae w;simp[Instr.sliceBounds,Sem.run,b,j]
theorem ajP(h:Cs P o.op T k)(w:World):∃v,(execOp (ev T) o).run P w= .ok (.value v) w/\k v:=by
 unfold Cs at h;have c:∀b off m:Nat,(⟨b,off,none⟩:Addr).add m=⟨b,off+m,none⟩:=by
  intro b off m;unfold Addr.add;simp[*]
 split at h
 ·rename_i t x lo hi d
  split at h
  ·rename_i r
   split at h
   ·rename_i s hx
    split at h
    ·rename_i l y hl a
     obtain⟨⟨f,g,i⟩,hk⟩:=h;have j:=MW (P:=P) false hl a f g i w;refine⟨_,?_,hk⟩;simp[execOp,d,hx,Instr.sliceAt,Instr.slice,run_underlying r,j,Sem.run]
    grind
   grind
  ·rename_i e r
   split at h
   ·rename_i u b off len cap n hx
    split at h
    ·rename_i l y hl a
     obtain⟨⟨f,g,i,z⟩,hk⟩:=h;have j:=MW (P:=P) true hl a f g i w;have q:P.cellsOf e=u.size:=by unfold Program.cellsOf;simp[*]
     have p:¬cap=l.toNat:=ae;refine⟨_,?_,hk⟩;simp[execOp,d,hx,Instr.sliceAt,Instr.slice,run_underlying r,j,run_sizeOf w n,q,p,c,Sem.run]
    grind
   grind
  grind
 grind
theorem ajS(h:Km P o.op T k)(w:World):∃v,(execOp (ev T) o).run P w= .ok (.value v) w/\∀v,k v:=by
 unfold Km at h;split at h
 ·rename_i t x lo hi d
  split at h
  ·rename_i e g len cap q hx
   split at h
   ·rename_i a l p c hl b
    obtain⟨⟨i,j,m⟩,hk⟩:=h;have n:=MW (P:=P) true hl b i j m w;have f:P.cellsOf e=a.size:=by unfold Program.cellsOf;simp[*]
    refine⟨.slice (if cap=l.toNat then some g else some (g.add (l.toNat*a.size))) (p.toNat-l.toNat) (cap-l.toNat),?_,hk⟩;simp[execOp,d,hx,Instr.sliceAt,Instr.slice,run_underlying q,n,run_sizeOf w c,f,Sem.run]
   grind
  grind
 grind
end
end
section
open Go
structure eZ(N:Nat)(I:a_)(w0:World)(ds:List Deferred)(K:Tm->St->Prop)(a:Act)(w:World):Prop where
 h:∃T S J,dR N T a/\a.defers=ds/\a_.le I J/\Sat J S w/\cv w0 w/\K T S
variable{a:Act}{next:Act->World->Prop}{aN:Array Oper}{t:Bool}{Q:Exit->Act->World->Prop}{I:a_}{ds:List Deferred}{kp:List PanicEntry->Tm->St->Prop}{d j:Nat}{o:Oper}{S:St}{T:Tm}{K:Tm->St->Prop}{α:Type}{v:Value}{k:Value->Prop}{w w0:World}
theorem eZ.from{N:Nat}{J:a_}{w1:World}(h:eZ N J w1 ds K a w)(b:a_.le I J)(k:cv w0 w1):eZ N I w0 ds K a w:=by
 obtain⟨T,S,c,d,e,f,g,i,j⟩:=h;exact⟨T,S,c,d,e,a_.le_trans b f,g,k.trans i,j⟩
theorem eZ.mono{N:Nat}{b:Tm->St->Prop}(h:eZ N I w0 ds K a w)(hk:∀T S,K T S->b T S):eZ N I w0 ds b a w:=by
 obtain⟨T,S,c,d,e,f,g,i,j⟩:=h;exact⟨T,S,c,d,e,f,g,i,hk _ _ j⟩
section
variable{P:Program}{N:Nat}
theorem Br.cases{A B:Prop}(h:Br t A B):(t=true/\A)\/(t=false/\B):=by
 cases t
 ·exact .inr ⟨rfl,h⟩
 ·exact .inl ⟨rfl,h⟩
theorem RJ:∀(s:Sem α)(hs:List LH){k k':α->Prop},rd P S s hs k->(∀a,k a->k' a)->rd P S s hs k':=by
 intro s
 induction s with
 |pure a=>intro hs k k' h hk;exact hk _ h
 |program f b=>intro hs k k' h hk;exact b P hs h hk
 |mark m s b=>intro hs k k' h hk;exact b hs h hk
 |load m a f b=>
  intro hs k k' h hk;cases hs with
  |nil=>simp only[rd]at h
  |cons x hs=>
   cases x with
   | z00 j=>
    simp only[rd]at h⊢;split at h
    all_goals grind
   |ex j c=>
    simp only[rd]at h⊢;cases c <;> simp only[iE.ex]at h⊢
    all_goals grind
   |nw j=>simp only[rd]at h
 |_=>intro hs k k' h hk;cases hs <;> simp only[rd]at h
theorem aiJ:∀(s:Sem α)(hs:List LH){k:α->Prop},rd P S s hs k->∃a,rd P S s hs (·=a)/\k a:=by
 intro s
 induction s with
 |pure a=>intro hs k h;exact⟨a,rfl,h⟩
 |program f b=>intro hs k h;exact b P hs h
 |mark m s b=>intro hs k h;exact b hs h
 |load m a f b=>
  intro hs k h;cases hs with
  |nil=>simp only[rd]at h
  |cons x hs=>
   cases x with
   | z00 j=>
    simp only[rd]at h⊢;split at h
    ·have c:=h.2;split at c
     all_goals grind
    grind
   |ex j d=>
    simp only[rd]at h⊢;cases d <;> simp only[iE.ex]at h⊢
    all_goals grind
   |nw j=>simp only[rd]at h
 |_=>intro hs k h;cases hs <;> simp only[rd]at h
theorem Wm{S':St}{k:α->Prop}:∀(s:Sem α)(hs:List LH),(∀j,j∈cJ hs->gt S j=gt S' j)->rd P S s hs k->rd P S' s hs k:=by
 intro s
 induction s with
 |pure a=>intro hs b h;exact h
 |program f c=>intro hs b h;exact c P hs b h
 |mark m s c=>intro hs b h;exact c hs b h
 |load m a f c=>
  intro hs b h;cases hs with
  |nil=>simp only[rd]at h
  |cons x hs=>
   cases x with
   | z00 j=>
    have e:=b j (by simp[cJ]);have d:∀i,i∈cJ hs->gt S i=gt S' i:=fun i hi=>b i (by simp[cJ,hi]);simp only[rd]at h⊢;rw[<-e];split at h
    all_goals grind
   |ex j g=>
    have e:=b j (by simp[cJ]);have d:∀i,i∈cJ hs->gt S i=gt S' i:=fun i hi=>b i (by simp[cJ,hi]);simp only[rd]at h⊢;rw[<-e];cases g <;> simp only[iE.ex]at h⊢
    all_goals grind
   |nw j=>simp only[rd]at h
 |_=>intro hs b h;cases hs <;> simp only[rd]at h
def AG(P:Program)(o:Oper)(T:Tm)(w:World)(v:Value):Prop:=
 (execOp (ev T) o).run P w= .ok (.value v) w\/((execOp (ev T) o).run P w= .ok .skip w/\v=undef)
theorem AG.akz{u:Value}(h:AG P o T w u)(h':AG P o T w v):u=v:=by
 rcases h with h| ⟨h,rfl⟩ <;> rcases h' with h'| ⟨h',rfl⟩
 all_goals grind
theorem E9{h:OH}(f:ki P o h T S k):∃v,ki P o h T S (·=v)/\k v:=by
 unfold ki at f;split at f
 ·rename_i hs
  obtain⟨z,q,p⟩:=aiJ _ _ f;cases z <;> first
   |exact p.elim
   |exact⟨_,RJ _ _ q (fun a e=>by subst e;rfl),p⟩
 ·rename_i C
  obtain⟨l,x,r,j,hk⟩:=f;exact⟨_,⟨l,x,r,j,rfl⟩,hk⟩
 ·unfold ki;split at f
  ·rename_i c x y g
   split at f
   ·rename_i t j
    simp only[g,j];rcases Br.cases f with⟨rfl,hk⟩| ⟨rfl,hk⟩
    ·exact⟨_,(rfl:_=_),hk⟩
    ·exact⟨_,(rfl:_=_),hk⟩
   grind
  grind
 ·unfold ki AQ at*;split at f
  ·rename_i x y _ g
   split at f
   all_goals grind
  ·rename_i x y _ g
   split at f
   all_goals grind
  ·rename_i x y _ g
   split at f
   all_goals grind
  ·rename_i x y _ g
   split at f
   all_goals grind
  ·rename_i x y _ g
   split at f
   all_goals grind
  ·rename_i s d x g
   split at f
   all_goals grind
  grind
 ·unfold ki Bb at*;split at f
  ·rename_i t x i g
   split at f
   ·rename_i e n
    split at f
    all_goals grind
   ·rename_i m e n
    split at f
    all_goals grind
   grind
  grind
 ·unfold ki Cq at*;split at f
  ·rename_i t x i g
   split at f
   all_goals grind
  grind
 ·unfold ki Cs at*;split at f
  ·rename_i t x lo hi g
   split at f
   ·rename_i n
    split at f
    ·rename_i s hx
     split at f
     all_goals grind
    grind
   ·rename_i e n
    split at f
    ·rename_i w b off len cap u hx
     split at f
     all_goals grind
    grind
   grind
  grind
 grind
theorem RF{h:OH}{k':Value->Prop}(a:ki P o h T S k)(hk:∀v,k v->k' v):ki P o h T S k':=by
 unfold ki at*;split at a
 ·refine RJ _ _ a fun e h=>?_;grind
 ·grind
 ·split at a
  ·rename_i c x y b
   split at a
   ·rename_i t d
    rcases Br.cases a with⟨rfl,h⟩| ⟨rfl,h⟩
    ·exact hk _ h
    ·exact hk _ h
   omega
  omega
 ·unfold AQ at*;split at a <;> first
   |exact a.elim
   | (split at a <;> first
     |exact a.elim
     |exact⟨a.1,hk _ a.2⟩
     | (split at a <;> first
       |exact a.elim
       |exact⟨a.1,a.2.1,hk _ a.2.2⟩
       |exact⟨a.1,hk _ a.2⟩))
 ·unfold Bb at*;split at a
  ·split at a
   all_goals grind
  omega
 ·unfold Cq at*;split at a
  all_goals grind
 ·unfold Cs at*;split at a
  ·split at a
   ·split at a
    all_goals grind
   ·split at a
    all_goals grind
   omega
  omega
 omega
theorem Ka{h:OH}(b:ki P o h T S k)(hs:Sat I S w):∃v,AG P o T w v/\k v:=by
 unfold ki at b;split at b
 ·obtain⟨i,a,hk⟩:=uY hs _ _ _ b;cases i <;> first
   |exact hk.elim
   |exact⟨_,.inl a,hk⟩
   |exact⟨_,.inr ⟨a,rfl⟩,hk⟩
 ·obtain⟨e,x,g,d,hk⟩:=b;exact⟨_,.inl (e.h x w (ev T) g d),hk⟩
 ·split at b
  ·rename_i c x y f
   split at b
   ·rename_i t d
    have a:(execOp (ev T) o).run P w= .ok (.value (if t then ev T x else ev T y)) w:=by
     simp[execOp,f,d,asBool,Sem.run]
    rcases Br.cases b with⟨rfl,hk⟩| ⟨rfl,hk⟩
    ·exact⟨_,.inl a,hk⟩
    ·exact⟨_,.inl a,hk⟩
   grind
  grind
 ·obtain⟨v,a,hk⟩:=abD b w;exact⟨v,.inl a,hk⟩
 ·obtain⟨v,a,hk⟩:=aeO b w;exact⟨v,.inl a,hk⟩
 ·obtain⟨v,a,hk⟩:=ajK b w;exact⟨v,.inl a,hk⟩
 ·obtain⟨v,a,hk⟩:=ajP b w;exact⟨v,.inl a,hk⟩
 grind
theorem AG.upon(h:AG P o T w v)(hn:next (a.put o.dst v) w):
  o.upon P a next Q ((execOp (ev T) o).run P w):=by
 rcases h with h| ⟨h,rfl⟩
 ·rw[h];exact hn
 ·rw[h];exact hn
theorem aiy:∀(s:Sem α){a:α}(w:World),Bv P s=some a->s.run P w= .ok a w:=by
 intro s
 induction s with
 |pure a=>intro b w h;simp only[Bv,Option.some.injEq]at h;subst h;rfl
 |program f c=>intro b w h;exact c P w h
 |mark m s c=>intro b w h;exact c w h
 |_=>intro b w h;simp[Bv]at h
theorem aaA:∀(s:Sem α){a:Obj}{f:Nat->Sem α}(w:World),ya P s=some (a,f)->s.run P w=(f w.heap.size).run P {w with heap:=w.heap.push a}:=by
 intro s
 induction s with
 |new o g b=>intro a f w h;simp only[ya,Option.some.injEq,Prod.mk.injEq]at h;obtain⟨rfl,rfl⟩:=h;rfl
 |program f b=>intro a g w h;exact b P w h
 |mark m s b=>intro a g w h;exact b w h
 |_=>intro a g w h;simp[ya]at h
theorem HC{h:OH}{k:Tm->St->Prop}
  (i:mS P N o h T S k kp) (c:dR N T a) (hd:a.defers=ds) (hs:Sat I S w)
  (d:∀p w',eZ N I w ds k p w'->next p w') (C:∀u p w',eZ N I w ds (kp u) p w'->Q (.panic u) p w'):o.wp P a w next Q:=by
 unfold Oper.wp;rw[c.eval];unfold mS at i;split at i
 ·exact i.no.elim
 ·have t:=alh _ _ _ _ _ _ hs i;cases b:(execOp (ev T) o).run P w with
  |ok H w'=>
   rw[b]at t;cases t with
   |ok _ _ S' g l hk=>
    split at hk
    ·exact d _ _ ⟨_,S',I,c.put _ _,by simp[*],a_.le_refl I,g,l,hk⟩
    ·exact d _ _ ⟨_,S',I,c.put _ _,by simp[*],a_.le_refl I,g,l,hk⟩
    grind
  |halt x w'=>
   rw[b]at t;cases t with
   |panic v _ S' g l hk=>exact C _ _ _ ⟨_,S',I,c,hd,a_.le_refl I,g,l,hk⟩
 ·rename_i j _
  split at i
  ·rename_i K f z
   have D:=i w.heap.size;split at D
   ·rename_i v s
    rw[aaA _ w z,aiy _ _ s];exact d _ _ ⟨_,_,I,c.put _ _,by simp[*],a_.le_refl I,hs.new j K,aq,D⟩
   grind
  grind
 ·obtain⟨H,b,hk⟩:=uY hs _ _ _ i;rw[b];split at hk
  ·rename_i f args
   obtain⟨n,hn,G⟩:=hk;rw[Oper.upon_enter];refine(akJ n (by grind) hs G).mono ?_;rintro e w' ⟨J,S',m,g,l,hk⟩;cases e with
   |returned v=>exact d _ _ ⟨_,S',J,c.put _ _,by simp[*],m,g,l,hk⟩
   |panicked u=>exact C _ _ _ ⟨_,S',J,c,hd,m,g,l,hk⟩
   |outgrown=>exact hk.elim
  grind
 ·obtain⟨n,hn,x,E,hp,F,A,hk⟩:=i;simp only[gx]at hn;have r:=hs.part (Hz hn.1);rw[hp]at r;obtain⟨y,J,w',v,B,b,s,m,g,l⟩:=n.h x _ I w (ev T) E F A r;have:=GF.1 hk y B;rw[s]at this;have q:next (a.put o.dst v) w':=d _ _ ⟨_,_,J,c.put _ _,by simp[*],m,g.U0 (out:=_),l,this⟩
  rcases b with b| ⟨b,rfl⟩
  ·rw[b];exact q
  ·rw[b];exact q
 ·obtain⟨v,b,hk⟩:=ajS i w;rw[b];exact d _ _ ⟨_,S,I,c.put _ _,by simp[*],a_.le_refl I,hs,cv.refl w,hk v⟩
 ·obtain⟨v,s,hk⟩:=Ka i hs;exact s.upon (d _ _ ⟨_,S,I,c.put _ _,by simp[*],a_.le_refl I,hs,cv.refl w,hk⟩)
theorem dR.again(h:dR N T a)(d:Nat)(e:T.z00 d=v):dR N (dw N (some d) v T) a:=by
 refine h.same fun i=>?_;rw[Bw];grind
theorem alr(h:dR N T a)(c:(aN[j]?).bind (·.dst)=some d)(e:T.z00 d= .bool t):yielded aN a.tmps j=some t:=by
 unfold yielded;rw[c];have b:=h.get d;rw[e,nA]at b;cases hx:a.tmps[d]? with
 |none=>rw[hx]at b;simp[undef]at b
 |some x=>
  grind
theorem als(h:dR N T a)(c:(aN[j]?).bind (·.dst)=some d){f:Array Value}(e:T.z00 d= .tuple f):yielded aN a.tmps j=none:=by
 unfold yielded;rw[c];have b:=h.get d;rw[e,nA]at b;grind
theorem VY{h:OH}{k:Tm->St->Prop}
  (g:mT P N aN o h T S k kp) (e:dR N T a) (hd:a.defers=ds) (hs:Sat I S w)
  (b:∀l w',eZ N I w ds k l w'->next l w') (p:∀q l w',eZ N I w ds (kp q) l w'->Q (.panic q) l w'):
  if Region.wanted o (yielded aN a.tmps) then o.wp P a w next Q\/(o.asks P a w/\LetsOut Q) else next (a.put o.dst undef) w:=by
 unfold mT at g;split at g
 ·rename_i n
  have:Region.wanted o (yielded aN a.tmps)=true:=by unfold Region.wanted;rw[n]
  rw[if_pos this];exact .inl (HC g e hd hs b p)
 ·rename_i j f n
  split at g
  ·grind
  ·rename_i d r
   split at g
   ·rename_i t m
    have s:=alr e r m;have i:Region.wanted o (yielded aN a.tmps)=(t==f):=by
     unfold Region.wanted;rw[n];simp only[s];cases t <;> cases f <;> rfl
    rcases Br.cases g with⟨rfl,hk⟩| ⟨rfl,hk⟩
    ·have c:=e.again d m;cases f
     ·rw[i];simp only[Bool.true_beq,Bool.false_eq_true,if_false];exact b _ _ ⟨_,S,I,c.put _ _,by simp[*],a_.le_refl I,hs,cv.refl w,hk⟩
     ·rw[i];exact .inl (HC hk c hd hs b p)
    ·have c:=e.again d m;cases f
     ·rw[i];exact .inl (HC hk c hd hs b p)
     ·rw[i];simp only[Bool.false_beq,Bool.not_true,Bool.false_eq_true,if_false];exact b _ _ ⟨_,S,I,c.put _ _,by simp[*],a_.le_refl I,hs,cv.refl w,hk⟩
   ·rename_i u m
    have i:Region.wanted o (yielded aN a.tmps)=false:=by
     unfold Region.wanted;rw[n];simp only[als e r m];rfl
    rw[i];simp only[Bool.false_eq_true,if_false];exact b _ _ ⟨_,S,I,e.put _ _,by simp[*],a_.le_refl I,hs,cv.refl w,g⟩
   grind
theorem RK{H:Nat->OH}:∀(l:List Nat){T:Tm}{S:St}{k:Tm->St->Prop}{kp:List PanicEntry->Tm->St->Prop}{a:Act}{I:a_}{w:World},
  rg P N H aN l T S k kp->dR N T a->a.defers=ds->Sat I S w->(∀c w',eZ N I w ds k c w'->Q .normal c w')->(∀f c w',eZ N I w ds (kp f) c w'->Q (.panic f) c w')->
  wpOps P aN Q l a w:=by
 intro l
 induction l with
 |nil=>
  intro T S k kp a I w e b hd hs hk _;exact hk _ _ ⟨T,S,I,b,hd,a_.le_refl I,hs,cv.refl w,e⟩
 |cons i rest s=>
  intro T S k kp a I w e b hd hs hk m;simp only[rg]at e;simp only[wpOps];split at e
  ·grind
  ·rename_i o t
   have:=VY (next:=wpOps P aN Q rest) (Q:=Q) e b hd hs (fun c w' d=>by
    obtain⟨T',S',J,n,p,g,q,j,r⟩:=d;exact s r n p q (fun a w h=>hk a w (h.from g j)) (fun f a w h=>m f a w (h.from g j))) m
   simp[*]
end
end
section
open Go
section
variable{P:Program}{N:Nat}
variable{aN:Array Oper}{a b d5:List Nat}{kp:List PanicEntry->Tm->St->Prop}{j:Nat}{h:OH}{o y:Oper}{x:Option Tmp}{S S':St}{φ:St->St}{T T':Tm}{k:Tm->St->Prop}{α:Type}
theorem W7(h:∀i,T.z00 i=T'.z00 i):T=T':=funext h
theorem aiz{d:Nat}{v:Value}(e:T.z00 d=v):dw N (some d) v T=T:=by
 refine W7 fun i=>?_;rw[Bw];grind
theorem On{y:Option Tmp}(h:∀d,x=some d->y≠some d)(u v:Value)(T:Tm):dw N x u (dw N y v T)=dw N y v (dw N x u T):=by
 cases x with
 |none=>rfl
 |some d=>
  cases y with
  |none=>rfl
  |some e=>
   have b:d≠e:=fun a=>h d rfl (a▸rfl);refine W7 fun i=>?_;simp only[Bw];grind
theorem We{t:Nat}(h:x≠some t)(v:Value)(T:Tm):(dw N x v T).z00 t=T.z00 t:=by
 cases x with
 |none=>rfl
 |some d=>
  rw[Bw];grind
def oY(aN:Array Oper)(o:Oper)(T T':Tm):Prop:=∀t,t∈o.looksAt aN->T.z00 t=T'.z00 t
theorem oY.put{x:Oper}(h:x.apart aN y=true)(v:Value)(T:Tm):oY aN y T (dw N x.dst v T):=by
 intro t a;exact(We (fun e=>(Oper.apart_spec h).1 t e a) v T).symm
theorem xA{x:Oper}(h:x.apart aN y=true)(v:Value)(T:Tm):oY aN x T (dw N y.dst v T):=by
 intro t a;exact(We (fun e=>(Oper.apart_spec h).2.2 t e a) v T).symm
theorem oY.AW(h:oY aN o T T'):∀x,x∈o.op.operands->ev T x=ev T' x:=by
 intro x hx;cases x with
 |tmp t=>
  refine h t ?_;unfold Oper.looksAt;refine qd _ (List.mem_filterMap.2 ⟨.tmp t,Array.mem_toList_iff.2 hx,rfl⟩)
 |const v=>rfl
 |global g=>rfl
 |func f=>rfl
theorem N6(h:sR o=false):∀cs b,o.op≠.select cs b:=by
 intro cs b e;simp[sR,e]at h
def gd(aN:Array Oper)(o:Oper)(T:Tm):Option Bool:=
 match o.guard with
 |none=>some true
 |some (j,a)=>match (aN[j]?).bind (·.dst)with
  |none=>none
  |some d=>match T.z00 d with
   | .bool t=>some (t==a)
   | .tuple _=>some false
   |_=>none
theorem qf(h:oY aN o T T'):gd aN o T=gd aN o T':=by
 unfold gd;cases b:o.guard with
 |none=>rfl
 |some p=>
  obtain⟨j,a⟩:=p;simp only;cases hd:(aN[j]?).bind (·.dst)with
  |none=>rfl
  |some d=>
   have:T.z00 d=T'.z00 d:=by
    refine h d ?_;unfold Oper.looksAt;simp[*]
   simp[*]
theorem nK:
  mT P N aN o h T S k kp↔(match gd aN o T with|some true=>mS P N o h T S k kp|some false=>k (dw N o.dst undef T) S|none=>False):=by
 unfold mT gd;cases c:o.guard with
 |none=>exact Iff.rfl
 |some p=>
  obtain⟨j,a⟩:=p;simp only;cases hd:(aN[j]?).bind (·.dst)with
  |none=>exact Iff.rfl
  |some d=>
   simp only;cases b:T.z00 d with
   |bool t=>
    simp only;cases t <;> cases a <;> simp[Br,aiz b]
   |_=>exact Iff.rfl
theorem HD{x:Option Operand}{d:Int}(h:∀y,x=some y->ev T y=ev T' y):jP T d x=jP T' d x:=by
 cases x with
 |none=>rfl
 |some y=>simp only[jP,h y rfl]
theorem J_{k:Value->Prop}(g:sR o=false)(b:∀x,x∈o.op.operands->ev T x=ev T' x)
    (p:∀j,j∈mw (gu h)->gt S j=gt S' j) (e:ki P o h T S k):ki P o h T' S' k:=by
  have fQ:execOp (ev T) o=execOp (ev T') o:=execOp_congr o (N6 g) b;have n:o.op.operands.toList.map (ev T)=o.op.operands.toList.map (ev T'):=List.map_congr_left fun x hx=>b x (Array.mem_toList_iff.1 hx);unfold ki at*;split at e
  · rename_i hs
    rw[<-fQ];exact Wm _ _ (fun j q=>p j (by simpa[gu,mw]using q)) e
  · grind
  · split at e
    · rename_i c x y a
      have r:=b c (by simp[a,Op.operands]);have hx:=b x (by simp[a,Op.operands]);have f:=b y (by simp[a,Op.operands]);grind
    omega
  · simp only[AQ]at e⊢
    split at e <;> first
      |exact e.elim
      | (rename_i x y _ a
         have hx:=b x (by simp[a,Op.operands]);have f:=b y (by simp[a,Op.operands]);simp only[a,<-hx,<-f];exact e)
      | (rename_i s d x a
         have hx:=b x (by simp[a,Op.operands]);simp only[a,<-hx];exact e)
  · simp only[Bb]at e⊢
    split at e
    · rename_i t x i a
      have hx:=b x (by simp[a,Op.operands]);have hi:=b i (by simp[a,Op.operands]);grind
    omega
  · simp only[Cq]at e⊢
    split at e
    · rename_i t x i a
      have hx:=b x (by simp[a,Op.operands]);have hi:=b i (by simp[a,Op.operands]);grind
    omega
  · simp only[Cs]at e⊢
    split at e
    · rename_i t x lo hi a
      have hx:=b x (by simp[a,Op.operands]);have m:∀d,jP T d lo=jP T' d lo:=fun d=>HD fun y f=>b y (by subst f;simp[a,Op.operands]);have l:∀d,jP T d hi=jP T' d hi:=fun d=>HD fun y f=>b y (by subst f;simp[a,Op.operands]);simp only[a,<-hx,<-m,<-l];exact e
    omega
  omega
def eQ(S S':St)(d5:List Nat):Prop:=∀j,j∉d5->gt S' j=gt S j
theorem eQ.refl(S:St)(d5:List Nat):eQ S S d5:=fun _ _=>rfl
theorem eQ.nW(h:j∈d5)(A:ah):eQ S (fT S j A) d5:=by
 intro i hi;rw[sM];grind
theorem eQ.trans{a b:St}(h:eQ S a d5)(h':eQ a b d5):eQ S b d5:=fun j c=>(h' j c).trans (h j c)
theorem eQ.mono(h:eQ S S' a)(c:∀j,j∈a->j∈b):eQ S S' b:=fun j e=>h j fun d=>e (c j d)
structure Fr(φ:St->St)(d5:List Nat):Prop where
 get:∀S j,j∈d5->gt (φ S) j=gt S j
 vS:∀S j A,j∈d5->φ (fT S j A)=fT (φ S) j A
theorem Fr.id(d5:List Nat):Fr (fun S=>S) d5:=⟨fun _ _ _=>rfl,fun _ _ _ _=>rfl⟩
theorem Fr.nW(h:j∉d5)(A:ah):Fr (fun S=>fT S j A) d5:=by
 refine⟨fun S i hi=>?_,fun S i B hi=>?_⟩
 ·show gt (fT S j A) i=_;rw[sM];grind
 ·have:j≠i:=fun e=>h (e▸hi);exact aeC this A B S
theorem Fr.mono(h:Fr φ b)(c:∀j,j∈a->j∈b):Fr φ a:=⟨fun S j d=>h.get S j (c j d),fun S j A d=>h.vS S j A (c j d)⟩
theorem aiM{hs:List LH}{s:Sem α}{k k':α->Prop}(b:Fr φ (cJ hs))(d:rd P S s hs k)(hk:∀a,k a->k' a):rd P (φ S) s hs k':=
 RJ _ _ (Wm _ _ (fun j c=>(b.get S j c).symm) d) hk
theorem ali:∀(s:Sem α)(hs:List LH){S:St}{k k':α->St->Prop}{kp g:Value->St->Prop},Fr φ (cJ hs)->wr P s hs S k kp->
  (∀a S',eQ S S' (cJ hs)->k a S'->k' a (φ S'))->(∀v S',kp v S'->g v (φ S'))->wr P s hs (φ S) k' g:=by
 intro s
 induction s with
 |pure a=>intro hs S k k' kp g c h hk _;exact hk _ _ (eQ.refl _ _) h
 |program f n=>intro hs S k k' kp g c h hk hp;exact n P hs c h hk hp
 |mark m s n=>intro hs S k k' kp g c h hk hp;exact n hs c h hk hp
 |halt x=>
  intro hs S k k' kp g c h hk hp;cases x with
  |panic v=>exact hp _ _ h
  |_=>cases hs <;> simp only[wr]at h
 |load m a f n=>
  intro hs S k k' kp g c h hk hp;cases hs with
  |nil=>simp only[wr]at h
  |cons x hs=>
   cases x with
   | z00 j=>
    have d:=c.mono (a:=cJ hs) (by intro i hi;simp[cJ,hi]);have t:∀S',eQ S S' (cJ hs)->eQ S S' (cJ (.z00 j::hs)):=fun S' l=>l.mono (by intro i hi;simp[cJ,hi]);have e:=c.get S j (by simp[cJ]);simp only[wr]at h⊢;rw[e];split at h
    ·refine⟨h.1,?_⟩;have q:=h.2;split at q
     all_goals grind
    omega
   |ex j u=>
    have d:=c.mono (a:=cJ hs) (by intro i hi;simp[cJ,hi]);have t:∀S',eQ S S' (cJ hs)->eQ S S' (cJ (.ex j u::hs)):=fun S' l=>l.mono (by intro i hi;simp[cJ,hi]);have e:=c.get S j (by simp[cJ]);simp only[wr]at h⊢;rw[e];cases u <;> simp only[iE.ex]at h⊢
    all_goals grind
   |nw j=>simp only[wr]at h
 |store m a v s n=>
  intro hs S k k' kp g c h hk hp;cases hs with
  |nil=>cases v <;> simp only[wr]at h
  |cons x hs=>
   cases x with
   | z00 j=>
    have d:=c.mono (a:=cJ hs) (by intro i hi;simp[cJ,hi]);have e:=c.get S j (by simp[cJ]);simp only[wr]at h⊢;rw[e];split at h
    ·refine⟨h.1,?_⟩;have q:=h.2;split at q
     ·split at q
      ·rw[<-c.vS S j _ (by simp[cJ])];exact n hs d q (fun a S' l p=>hk a S' ((eQ.nW (by simp[cJ]) _).trans (l.mono (by intro i hi;simp[cJ,hi]))) p) hp
      omega
     omega
    omega
   |ex j u=>
    have d:=c.mono (a:=cJ hs) (by intro i hi;simp[cJ,hi]);have e:=c.get S j (by simp[cJ]);simp only[wr]at h⊢;rw[e];split at h
    ·refine⟨h.1,?_⟩;have q:=h.2;split at q
     ·rw[<-c.vS S j _ (by simp[cJ])];exact n hs d q (fun a S' l p=>hk a S' ((eQ.nW (by simp[cJ]) _).trans (l.mono (by intro i hi;simp[cJ,hi]))) p) hp
     omega
    omega
   |nw j=>simp only[wr]at h
 |new o f n=>
  intro hs S k k' kp g c h hk hp;cases hs with
  |nil=>simp only[wr]at h
  |cons x hs=>
   cases x with
   |nw j=>
    have d:=c.mono (a:=cJ hs) (by intro i hi;simp[cJ,hi]);simp only[wr]at h⊢;intro b;rw[<-c.vS S j _ (by simp[cJ])];exact n b hs d (h b) (fun a S' l p=>hk a S' ((eQ.nW (by simp[cJ]) _).trans (l.mono (by intro i hi;simp[cJ,hi]))) p) hp
   |_=>simp only[wr]at h
 |shape r f n=>
  intro hs S k k' kp g c h hk hp;cases hs with
  |nil=>simp only[wr]at h
  |cons x hs=>
   cases x with
   | z00 j=>
    have d:=c.mono (a:=cJ hs) (by intro i hi;simp[cJ,hi]);have e:=c.get S j (by simp[cJ]);simp only[wr]at h⊢;rw[e];split at h
    ·exact⟨h.1,n _ hs d h.2 (fun a S' l p=>hk a S' (l.mono (by intro i hi;simp[cJ,hi])) p) hp⟩
    omega
   |_=>simp only[wr]at h
 |frozen a f n=>
  intro hs S k k' kp g c h hk hp;cases hs with
  |nil=>simp only[wr]at h
  |cons x hs=>
   cases x with
   | z00 j=>
    have d:=c.mono (a:=cJ hs) (by intro i hi;simp[cJ,hi]);have e:=c.get S j (by simp[cJ]);simp only[wr]at h⊢;rw[e];split at h
    ·exact⟨h.1,n _ hs d h.2 (fun a S' l p=>hk a S' (l.mono (by intro i hi;simp[cJ,hi])) p) hp⟩
    omega
   |_=>simp only[wr]at h
 |getObj r f n=>
  intro hs S k k' kp g c h hk hp;cases hs with
  |nil=>simp only[wr]at h
  |cons x hs=>
   cases x with
   | z00 j=>
    have d:=c.mono (a:=cJ hs) (by intro i hi;simp[cJ,hi]);have e:=c.get S j (by simp[cJ]);simp only[wr]at h⊢;rw[e];split at h
    ·omega
    ·exact⟨h.1,n _ hs d h.2 (fun a S' l p=>hk a S' (l.mono (by intro i hi;simp[cJ,hi])) p) hp⟩
    omega
   |_=>simp only[wr]at h
 |setObj r w s n=>
  intro hs S k k' kp g c h hk hp;cases hs with
  |nil=>simp only[wr]at h
  |cons x hs=>
   cases x with
   | z00 j=>
    have d:=c.mono (a:=cJ hs) (by intro i hi;simp[cJ,hi]);have e:=c.get S j (by simp[cJ]);simp only[wr]at h⊢;rw[e];split at h
    ·omega
    ·refine⟨h.1,?_⟩;rw[<-c.vS S j _ (by simp[cJ])];exact n hs d h.2 (fun a S' l p=>hk a S' ((eQ.nW (by simp[cJ]) _).trans (l.mono (by intro i hi;simp[cJ,hi]))) p) hp
    omega
   |_=>simp only[wr]at h
 |_=>intro hs S k k' kp g c h;cases hs <;> simp only[wr]at h
theorem abN(bG:List Nat):∀(S:St)(d5:List Nat),(∀j,j∈bG->j∈d5)->eQ S (l8 bG S) d5:=by
 induction bG with
 |nil=>intro S d5 _;exact eQ.refl _ _
 |cons j r a=>
  intro S d5 h;exact(eQ.nW (h j (kW ..)) _).trans (a _ d5 fun i hi=>h i (pn _ hi))
theorem ahE(out:List Nat):∀(l:List ah)(S:St)(d5:List Nat),(∀j,j∈out->j∈d5)->eQ S (nL out l S) d5:=by
 induction out with
 |nil=>intro l S d5 _;exact eQ.refl _ _
 |cons j r a=>
  intro l S d5 h;cases l with
  |nil=>exact eQ.refl _ _
  |cons A l=>exact(eQ.nW (h j (kW ..)) _).trans (a l _ d5 fun i hi=>h i (pn _ hi))
theorem abM(bG:List Nat):∀(S:St){d5:List Nat},Fr φ d5->(∀j,j∈bG->j∈d5)->l8 bG (φ S)=φ (l8 bG S):=by
 induction bG with
 |nil=>intro S d5 _ _;rfl
 |cons j r b=>
  intro S d5 a h;show l8 r (fT (φ S) j .d0)=φ (l8 r (fT S j .d0));rw[<-a.vS S j _ (h j (kW ..))];grind
theorem ahD(out:List Nat):∀(l:List ah)(S:St){d5:List Nat},Fr φ d5->(∀j,j∈out->j∈d5)->nL out l (φ S)=φ (nL out l S):=by
 induction out with
 |nil=>intro l S d5 _ _;cases l <;> rfl
 |cons j r b=>
  intro l S d5 a h;cases l with
  |nil=>rfl
  |cons A l=>
   show nL r l (fT (φ S) j A)=φ (nL r l (fT S j A));rw[<-a.vS S j _ (h j (kW ..))];grind
def n_(φ:St->St)(S:St):Prop:=∀bG,Sub (.dq (rest S bG)) (.dq (rest (φ S) bG))
theorem n_.id(S:St):n_ (fun S=>S) S:=fun _ _ _ o h=>⟨o,h⟩
theorem n_.nW(l:gt S j= .d0)(A:ah):n_ (fun S=>fT S j A) S:=by
 intro bG I h o m;obtain⟨f,e,g,k⟩:=m;refine⟨o,fun i b=>i≠j/\f i b,fun i=>?_,fun i n b c d=>g _ _ _ c.2 d.2,fun i b c=>k _ _ c.2⟩;have:=e i;rw[G8]at this⊢;by_cases hi:i∈bG
 ·simp only[hi,if_true];trivial
 ·simp only[hi,if_false]at this⊢;by_cases a:i=j
  ·subst a;rw[l];trivial
  ·rw[sM]at this;simp only[a,if_false]at this;simp[*]
theorem Xn{C:aQ}{args:List Value}{bG out:List Nat}{k k':Value->St->Prop}{kp f:List PanicEntry->St->Prop}
  (b:Fr φ (bG++out)) (o:n_ φ S) (m:FB C args bG out S k kp) (hk:∀v S',eQ S S' (bG++out)->k v S'->k' v (φ S')) (hp:∀g S',kp g S'->f g (φ S')):
  FB C args bG out (φ S) k' f:=by
 obtain⟨x,h,c,i,l,p⟩:=m;refine⟨x,h,?_,i,C.eM x _ _ (o bG) l,GF.2 fun y d=>?_⟩
 ·rw[<-c];exact List.map_congr_left fun j a=>b.get S j (qd _ a)
 ·have:=GF.1 p y d;have e:nL out (C.post x y) (l8 bG (φ S))=φ (nL out (C.post x y) (l8 bG S)):=by
   rw[abM bG S b (fun j a=>qd _ a),ahD out _ _ b (fun j a=>List.mem_append_right _ a)]
  rw[e];cases n:C.val x y <;> simp only[n]at this⊢
  ·exact hk _ _ ((abN bG S _ fun j a=>qd _ a).trans (ahE out _ _ _ fun j a=>List.mem_append_right _ a)) this
  simp[*]
theorem VX{k':Tm->St->Prop}{E:List PanicEntry->Tm->St->Prop}(q:sR o=false)
  (z:∀x,x∈o.op.operands->ev T x=ev T' x) (l:Fr φ (t_ (gu (gH P o h)))) (L:n_ φ S) (f:mS P N o h T S k kp)
  (hk:∀v S',eQ S S' (iY (gu (gH P o h)))->k (dw N o.dst v T) S'->k' (dw N o.dst v T') (φ S')) (hp:∀s S',kp s T S'->E s T' (φ S')):
  mS P N o h T' (φ S) k' E:=by
 have fQ:execOp (ev T) o=execOp (ev T') o:=execOp_congr o (N6 q) z;have B:o.op.operands.toList.map (ev T)=o.op.operands.toList.map (ev T'):=List.map_congr_left fun x hx=>z x (Array.mem_toList_iff.1 hx);unfold mS at*;generalize R:gH P o h=g at*;cases g with
 |ask r i=>exact f.no.elim
 |w hs=>
  simp only at f⊢;rw[<-fQ];refine ali _ hs (by simpa[t_,gu,mw,iY]using l) f (fun x S' D m=>?_) (fun v S' m=>hp _ _ m);cases x <;> first|exact m.elim|exact hk _ _ (by simpa[gu,iY]using D) m
 |n j=>
  simp only at f⊢;rw[<-fQ];split at f
  ·intro b;have J:=f b;split at J
   ·rename_i v K
    have:=hk v (fT S j (mkAtom b _)) (by simpa[gu,iY]using eQ.nW aL _) J;rw[l.vS S j _ (by simp[t_,gu,iY])]at this;omega
   omega
  omega
 |c C bG out=>
  simp only at f⊢;rw[<-fQ];refine aiM (hs:=[]) ⟨fun _ _ A=>by simp[cJ]at A,fun _ _ _ A=>by simp[cJ]at A⟩ f fun Q m=>?_;cases Q <;> first
   |exact m.elim
   |exact⟨m.1,m.2.1,Xn (by simpa[t_,gu,mw,iY]using l) L m.2.2 (fun v S' D h=>hk v S' (by simpa[gu,iY]using D) h) (fun s S' h=>hp s S' h)⟩
 |o C bG out=>
  simp only at f⊢;rw[<-B];exact⟨f.1,f.2.1,Xn (by simpa[t_,gu,mw,iY]using l) L f.2.2 (fun v S' D h=>hk v S' (by simpa[gu,iY]using D) h) (fun s S' h=>hp s S' h)⟩
 |R5=>
  simp only[Km]at f⊢;split at f
  ·rename_i t x lo hi p
   have hx:=z x (by simp[p,Op.operands]);have H:∀d,jP T d lo=jP T' d lo:=fun d=>HD fun y I=>z y (by subst I;simp[p,Op.operands]);have F:∀d,jP T d hi=jP T' d hi:=fun d=>HD fun y I=>z y (by subst I;simp[p,Op.operands]);simp only[p,<-hx,<-H,<-F];split at f
   ·split at f
    ·exact⟨f.1,fun v=>hk v S (eQ.refl _ _) (f.2 v)⟩
    omega
   omega
  omega
 |_=>
  obtain⟨v,K,G⟩:=E9 f;have M:=J_ (S':=φ S) q z (fun j A=>(l.get S j (qd _ A)).symm) K;obtain⟨u,O,e⟩:=E9 M;subst e;exact RF O (fun a e=>by subst e;exact hk _ S (eQ.refl _ _) G)
end
end
end Go.Proofs.YtdkchodgklpomaaGreatDoor
