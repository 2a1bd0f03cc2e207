/- A part of the proof that pennantlaw07.PrintSpread answers true at every input. -/
import Derived.Lib.Overlaps
import Derived.ProofKit
import Derived.OpenShut
import Derived.Shelf.Strings.OnBuilder
import Derived.Shelf.Small.Utf8
import Derived.Shelf.Utf8.RuneCount
import Derived.Shelf.Strconv.Itoa3
import Derived.Shelf.Strings.Shaped
import Derived.Shelf.Strings.Prefix
import Derived.Shelf.Strings.SplitShaped
import Derived.Shelf.Unicode.Decode
import Derived.Shelf.Strings.Runes
import Derived.Shelf.Strings.RuneCount
import Derived.Shelf.Bits.Mul64
import Derived.Shelf.Unicode.DecodeAny
import Derived.Lib.MapLaws
import Derived.Lib.QuoteLoop
import Derived.Lib.OthersKept
import Derived.Laws.FloatArith
import Derived.Stop.LaidErr
import Derived.Lay
import Derived.Test.YthhiffpfleacaaaGreatDoorTie
import Derived.Test.YthhiffpfleacaaaGreatDoorCards
set_option linter.all false
namespace Go.Proofs.YthhiffpfleacaaaGreatDoor
set_option maxRecDepth 100000
open Go.Value (int slice string bool pointer agg tuple func float iface nilIface)
open Go.IntKind (i64 u8 u64 i32 u32 u16 i8 i16)
open Go.FloatKind (f64)
open Go.Ending (returned panicked)
open Go.Proofs.Tryz
section
abbrev aN:=List Value
abbrev bv:=Option Addr
abbrev aM:=List Int
abbrev a_:=List Nat
abbrev ah:=ByteArray
abbrev aD:=Value
abbrev ax:=Unit
def bp:= @decide_eq_true
def bF:= @decide_eq_false
def kK:= @of_decide_eq_true
def R5:= @of_decide_eq_false
def aW{α:Type}:= @cond_true α
def y{α:Type}:= @cond_false α
def cy:= @Int.toNat_natCast
def eG{α:Type}:= @List.getD_eq_getElem?_getD α
def eH{α:Type}:= @List.length_append α
def da{α:Type}:= @List.getElem?_eq_getElem α
def fZ{α β:Type}:= @List.getElem?_map α β
def dQ{α:Type}:= @List.append_nil α
def jJ{α:Type}:= @List.append_assoc α
def m5{α:Type}:= @List.getElem?_append_left α
def lQ{α:Type}:= @List.getElem?_append_right α
def iA:= @ByteArray.size_extract
def ie:= @ByteArray.size_append
def bK:= @Nat.le_refl
def cH:= @Int.le_refl
def b7:= @Nat.zero_le
def gi{a b c:Nat}:a<=b->b<=c->a<=c:=Nat.le_trans
def jd:= @Nat.lt_succ_self
def nO:= @Bool.and_false
def lj:= @Bool.false_and
def oG:= @Bool.or_true
def iP:= @Bool.and_eq_true
def fw{α:Type}[BEq α][LawfulBEq α]{a b:α}:(a==b)=false↔a≠b:=beq_eq_false_iff_ne
def ic{α:Type}{i:Nat}{a:α}{l:List α}:l[i]?=some a↔∃h:i<l.length,l[i]=a:=List.getElem?_eq_some_iff
def kJ{α:Type}:= @List.mem_cons_self α
def nP{α:Type}:= @List.mem_cons_of_mem α
def iz{α:Type}:= @List.mem_of_getElem? α
def oH{α:Type}:= @List.getElem?_eq_none α
def pv{α:Type}:= @Array.getD_eq_getD_getElem? α
def pw:= @Nat.pow_le_pow_right
def ra{α:Type}:= @List.mem_append_left α
def gZ:= @Nat.zero_add
def kI{α:Type}:= @List.length_cons α
def zc{α:Type}:= @List.length_singleton α
def ai:True:=.intro
variable{p:Prop}
theorem O(h:p:=by omega):p:=h
theorem bX(h:p:=by dsimp only;omega):p:=h
theorem aC(h:p:=by exact⟨by omega,by omega⟩):p:=h
theorem rf(h:p:=by exact⟨by dsimp only;omega,by dsimp only;omega⟩):p:=h
theorem bg(h:p:=by kernel_rfl):p:=h
theorem X(h:p:=by simp):p:=h
theorem Y(h:p:=by exact⟨rfl,rfl⟩):p:=h
theorem aU(h:p:=by repeat (first|exact trivial|refine⟨rfl, ?_⟩)):p:=h
def dW{α:Type}(k:Nat)(v:α):List (Nat×α)->List (Nat×α)
 | []=>[(k,v)]
 | (j,u)::r=>bif Nat.beq k j then (k,v)::r else bif Nat.blt k j then (k,v)::(j,u)::r else (j,u)::dW k v r
def rk{α:Type}:List (Nat×α)->Nat->α->α
 | [],_,d=>d
 | (k,v)::r,i,d=>bif Nat.beq i k then v else rk r i d
abbrev Tm:=Nat->aD
def Tm.aS(T:Tm)(i:Nat):aD:=T i
def pQ(T:Tm)(k:Nat)(v:aD):Tm:=λi=>bif Nat.beq i k then v else T i
def lP(args:aN):Tm:=λi=>args.getD i undef
def kT(a:Nat->aD)(l:List (Nat×aD)):Tm:=λi=>rk l i (a i)
def ev(T:Tm):Operand->aD
 | .tmp t=>T.aS t
 | .const v=>v
 | .global g=>.pointer (some ⟨g,0,none⟩)
 | .func f=>.func (.func f) #[] #[]
def dH(N:Nat)(a:Option Tmp)(v:aD)(T:Tm):Tm:=
 match a with
 |some d=>bif Nat.blt d N then pQ T d v else T
 |none=>T
abbrev aX:=Nat->Option Obj
abbrev Hp:=Nat->Option Obj
abbrev wJ:=Nat->Prop
def hp(w:World):Hp:=λb=>w.heap[b]?
def aX.le(I J:aX):Prop:=∀b o,I b=some o->J b=some o
def Gc(I:aX)(h:Hp):Prop:=∀b o,I b=some o->h b=some o
structure JJ where
 holds:aX->Hp->wJ->Prop
 El:∀I h h' o,(∀b,o b->h b=h' b)->holds I h o->holds I h' o
 mono:∀I J h o,aX.le I J->holds I h o->holds J h o
inductive ag where
 |d7
 |cells (b:Nat) (vs:aN) (t:TypeId)
 |iG (b:Nat) (o:Obj)
 |cJ (p:JJ)
def ag.holds(I:aX)(h:Hp)(o:wJ):ag->Prop
 | .d7=>True
 | .cells b c t=>o b/\h b=some (.cells ⟨c⟩ t (0,0))
 | .iG b a=>o b/\h b=some a
 | .cJ p=>p.holds I h o
abbrev St:=List (Nat×ag)
def gt(S:St)(j:Nat):ag:=rk S j .d7
def aT:Nat->List ag->St
 |_,[]=>[]
 |n,A::r=>(n,A)::aT (n+1) r
def bu(l:List ag):St:=aT 0 l
def gC(S:St)(k:Nat)(A:ag):St:=dW k A S
def nJ:a_->St->St
 | [],S=>S
 |j::r,S=>nJ r (gC S j .d7)
def pG:a_->List ag->St->St
 |j::r,A::l,S=>pG r l (gC S j A)
 |_,_,S=>S
structure Sat(I:aX)(S:St)(w:World):Prop where
 nW:∃f:Nat->wJ,(∀j,(gt S j).holds I (hp w) (f j))/\(∀i j b,f i b->f j b->i=j)/\(∀j b,f j b->I b=none/\b<w.heap.size)
 oM:Gc I (hp w)
def cn(w w':World):Prop:=w'.os=w.os/\w'.output=w.output
structure ay(S S':St):Prop where
 h:∀I w,Sat I S w->∃J,aX.le I J/\Sat J S' w
def rest(S:St)(a:a_):JJ where
 holds I h o:=∃f:Nat->wJ,(∀j,(gt (nJ a S) j).holds I h (f j))/\(∀i j b,f i b->f j b->i=j)/\(∀j b,f j b->o b)
 El:=by
  rintro I h m o k ⟨f,e,g,d⟩;refine⟨f,λj=>?_,g,d⟩;have:=e j;revert this;generalize gt (nJ a S) j=A;intro c;cases A with
  |d7=>trivial
  |cells b r t=>exact⟨c.1,(k _ (d _ _ c.1))▸c.2⟩
  |iG b q=>exact⟨c.1,(k _ (d _ _ c.1))▸c.2⟩
  |cJ p=>exact p.El I h m _ (λb n=>k _ (d _ _ n)) c
 mono:=by
  rintro I J h o l ⟨f,e,g,d⟩;refine⟨f,λj=>?_,g,d⟩;have:=e j;revert this;generalize gt (nJ a S) j=A;intro c;cases A with
  |d7=>trivial
  |cells b r t=>exact c
  |iG b q=>exact c
  |cJ p=>exact p.mono I J h _ l c
def wY(h:Hp)(a:Addr):Option aD:=
 match h a.block with
 |some (.cells c _ _)=>if a.spot.isSome then none else c[a.off]?
 |_=>none
structure aH(A:ag)(a:Addr)(v:aD):Prop where
 h:∀I h o,Gc I h->A.holds I h o->wY h a=some v
inductive jr where
 |int (k:IntKind)|str|bool|slice|ptr|float (k:FloatKind)|any|is (v:aD)
def jr.ex(K:aD->Prop):jr->Prop
 | .int k=>∃n,K (.int k n)
 | .str=>∃s,K (.string s)
 | .bool=>∃b,K (.bool b)
 | .slice=>∃a l c,K (.slice a l c)
 | .ptr=>∃a,K (.pointer a)
 | .float k=>∃b,K (.float k b)
 | .any=>∃v,K v
 | .is v=>K v
inductive LH where
 |aS (j:Nat)
 |ex (j:Nat) (s:jr)
 |nw (j:Nat)
structure d6(a:Addr)(b:Nat):Prop where
 ft:a.block=b
 spot:a.spot=none
def Sub(A B:ag):Prop:=∀I h o,B.holds I h o->∃a,A.holds I h a
structure Xu(Y:Type)where
 A:Type
 B:Type
 f:A->Y
 g:B->Y
 cov:∀y,(∃a,y=f a)\/(∃b,y=g b)
structure aF where
 X:Type
 Y:Type:=ax
 args:X->aN
 pre:X->List ag:=λ_=>[]
 cond:X->Prop:=λ_=>True
 aE:X->ag->Prop:=λ_ _=>True
 bS:X->Y->Prop:=λ_ _=>True
 val:X->Y->Ending
 post:X->Y->List ag:=λ_ _=>[]
 eL:∀x A B,Sub A B->aE x A->aE x B:=by intros;first|trivial| (rename_i hs h;exact h.sub hs)| (rename_i hs h;exact⟨h.1.sub hs,h.2.sub hs⟩)
 sum:Option (Xu Y):=none
structure j5 where
 X:Type
 args:X->aN
 cond:X->Prop
 val:X->aD
inductive OH where
 |d
 |ask (r i:Nat)
 |q (hs:List LH)
 |w (hs:List LH)
 |n (j:Nat)
 |c (C:aF) (dJ out:a_)
 |o (C:aF) (dJ out:a_)
 |qo (C:j5)
 |pk
 |ck
 |ix
 |si
 |sl
 |WF
structure Inv where
 X:Type
 P:X->Prop
 lv:X->List (Nat×aD)
 st:X->List ag
 mu:X->Nat
 gh:Option ((T:Type)×(X->T)):=none
def U:List (Nat×Nat×OH)->Nat->Nat->OH
 | [],_,_=>.d
 | (a,b,h)::t,r,i=>bif Nat.beq a r&&Nat.beq b i then h else U t r i
structure jZ where
 op:Nat->Nat->OH
 BK:Nat->Option Inv
 cut:Nat->Option Inv
 B2:Nat->a_
section
variable(P:Program)
def rd{α:Type}(S:St):Sem α->List LH->(α->Prop)->Prop
 | .pure a,_,k=>k a
 | .program f,c,k=>rd S (f P) c k
 | .mark _ s,c,k=>rd S s c k
 | .load _ a f,.aS j::c,k=>
  match gt S j with
  | .cells b d _=>d6 a b/\(match d[a.off]? with|some v=>rd S (f v) c k|none=>False)
  |_=>False
 | .load _ a f,.ex j s::c,k=>s.ex λv=>aH (gt S j) a v/\rd S (f v) c k
 |_,_,_=>False
def EF{α:Type}:Sem α->Option α
 | .pure a=>some a
 | .program f=>EF (f P)
 | .mark _ s=>EF s
 |_=>none
def Bk{α:Type}:Sem α->Option (Obj×(Nat->Sem α))
 | .new o f=>some (o,f)
 | .program f=>Bk (f P)
 | .mark _ s=>Bk s
 |_=>none
def mkAtom(b:Nat):Obj->ag
 | .cells c t (0,0)=>.cells b c.toList t
 |o=>.iG b o
def LW:aD->Bool
 | .agg _| .tuple _=>false
 |_=>true
def wr{α:Type}:Sem α->List LH->St->(α->St->Prop)->(aD->St->Prop)->Prop
 | .pure a,_,S,k,_=>k a S
 | .program f,d,S,k,c=>wr (f P) d S k c
 | .mark _ s,d,S,k,c=>wr s d S k c
 | .load _ a f,.aS j::d,S,k,c=>
  match gt S j with
  | .cells b e _=>d6 a b/\(match e[a.off]? with|some v=>wr (f v) d S k c|none=>False)
  |_=>False
 | .load _ a f,.ex j s::d,S,k,c=>s.ex λv=>aH (gt S j) a v/\wr (f v) d S k c
 | .store _ a v s,.aS j::d,S,k,c=>
  match gt S j with
  | .cells b e t=>d6 a b/\(match e[a.off]? with|some _=>(match LW v with|true=>wr s d (gC S j (.cells b (e.set a.off v) t)) k c|false=>False)|none=>False)
  |_=>False
 | .store _ a v s,.ex j _::d,S,k,c=>
  match gt S j with
  | .cells b e t=>(d6 a b/\a.off<e.length)/\(match LW v with|true=>wr s d (gC S j (.cells b (e.set a.off v) t)) k c|false=>False)
  |_=>False
 | .new o s,.nw j::d,S,k,c=>∀b,wr (s b) d (gC S j (mkAtom b o)) k c
 | .shape r f,.aS j::d,S,k,c=>
  match gt S j with
  | .cells b e t=>r=b/\wr (f (some (t,e.length))) d S k c
  |_=>False
 | .frozen a f,.aS j::d,S,k,c=>
  match gt S j with
  | .cells b _ _=>d6 a b/\wr (f false) d S k c
  |_=>False
 | .getObj r f,.aS j::d,S,k,c=>
  match gt S j with
  | .iG _ (.cells ..)=>False
  | .iG b o=>r=b/\wr (f o) d S k c
  |_=>False
 | .setObj r g s,.aS j::d,S,k,c=>
  match gt S j with
  | .iG _ (.cells ..)=>False
  | .iG b _=>r=b/\wr s d (gC S j (.iG b g)) k c
  |_=>False
 | .halt (.panic v),_,S,_,c=>c v S
 |_,_,_,_,_=>False
structure gD(f:FuncId)(C:aF):Prop where
 h:∀x F I w,C.cond x->C.aE x F->Sat I (bu (C.pre x++[F])) w->
  Calls P f ⟨C.args x⟩ w λe w'=>∃y J,C.bS x y/\e=C.val x y/\aX.le I J/\Sat J (bu (C.post x y++[F])) w'/\cn w w'
structure gY(o:Oper)(C:aF):Prop where
 h:∀x F I w(ρ:Operand->aD),o.op.operands.toList.map ρ=C.args x->C.cond x->C.aE x F->Sat I (bu (C.pre x++[F])) w->
  ∃y J w' v,C.bS x y/\((execOp ρ o).run P w= .ok (.value v) w'\/((execOp ρ o).run P w= .ok .skip w'/\v=undef))/\C.val x y= .returned v/\aX.le I J/\Sat J (bu (C.post x y++[F])) w'/\cn w w'
structure cN(o:Oper)(C:j5):Prop where
 h:∀x w(ρ:Operand->aD),o.op.operands.toList.map ρ=C.args x->C.cond x->(execOp ρ o).run P w= .ok (.value (C.val x)) w
def Rq(C:aF)(x:C.X)(Φ:C.Y->Prop):Prop:=
 match C.sum with
 |none=>∀y,C.bS x y->Φ y
 |some ⟨_,_,f,g,_⟩=>(∀a,C.bS x (f a)->Φ (f a))/\(∀b,C.bS x (g b)->Φ (g b))
def Jt(C:aF)(args:aN)(a out:a_)(S:St)(k:aD->St->Prop)(kp:List PanicEntry->St->Prop):Prop:=
 ∃x,args=C.args x/\a.map (gt S)=C.pre x/\C.cond x/\C.aE x (.cJ (rest S a))/\Rq C x λy=>
  match C.val x y with
  | .returned v=>k v (pG out (C.post x y) (nJ a S))
  | .panicked b=>kp b (pG out (C.post x y) (nJ a S))
  | .outgrown=>False
def nodupB:a_->Bool
 | []=>true
 |j::r=>(r.all λi=> !Nat.beq i j)&&nodupB r
def Br(t:Bool)(A B:Prop):Prop:=match t with|true=>A|false=>B
def t6(k:IntKind)(n:Int):Prop:=
 match k with
 | .i8=> -128<=n/\n<=127
 | .i16=> -32768<=n/\n<=32767
 | .i32=> -2147483648<=n/\n<=2147483647
 | .i64=> -9223372036854775808<=n/\n<=9223372036854775807
 | .u8=>0<=n/\n<=255
 | .u16=>0<=n/\n<=65535
 | .u32=>0<=n/\n<=4294967295
 | .u64=>0<=n/\n<=18446744073709551615
def D0(op:Op)(T:Tm)(k:aD->Prop):Prop:=
 match op with
 | .binOp .add _ x y _=>match ev T x,ev T y with| .int i a,.int j b=>(match decide (i=j)with|true=>t6 i (a+b)/\k (.int i (a+b))|false=>False)| .string s,.string t=>s.size+t.size<=9223372036854775807/\k (.string (s++t))|_,_=>False
 | .binOp .sub _ x y _=>match ev T x,ev T y with| .int i a,.int j b=>(match decide (i=j)with|true=>t6 i (a-b)/\k (.int i (a-b))|false=>False)|_,_=>False
 | .binOp .mul _ x y _=>match ev T x,ev T y with| .int i a,.int j b=>(match decide (i=j)with|true=>t6 i (a*b)/\k (.int i (a*b))|false=>False)|_,_=>False
 | .binOp .quo _ x y _=>match ev T x,ev T y with| .int i a,.int j b=>(match decide (i=j)with|true=>b≠0/\t6 i (a.tdiv b)/\k (.int i (a.tdiv b))|false=>False)|_,_=>False
 | .binOp .rem _ x y _=>match ev T x,ev T y with| .int i a,.int j b=>(match decide (i=j)with|true=>b≠0/\k (.int i (a.tmod b))|false=>False)|_,_=>False
 | .convert s d x=>match P.underlying s,P.underlying d,ev T x with|some _,some (.int i),.int _ a=>t6 i a/\k (.int i a)|_,_,_=>False
 |_=>False
def Eg(op:Op)(T:Tm)(k:aD->Prop):Prop:=
 match op with
 | .indexAddr t x i=>
  match P.underlying t with
  |some (.slice e)=>
   match P.info? e,ev T x,ev T i with
   |some a,.slice (some ⟨b,o,none⟩) len _,.int _ n=>(0<=n/\n<len)/\k (.pointer (some ⟨b,o+n.toNat*a.size,none⟩))
   |_,_,_=>False
  |some (.array m e)=>
   match P.info? e,ev T x,ev T i with
   |some a,.pointer (some ⟨b,o,none⟩),.int _ n=>(0<=n/\n<m)/\k (.pointer (some ⟨b,o+n.toNat*a.size,none⟩))
   |_,_,_=>False
  |_=>False
 |_=>False
def B(s:ah)(n:Int):Int:=(s.data.toList.getD n.toNat 0).toNat
def FU(op:Op)(T:Tm)(k:aD->Prop):Prop:=
 match op with
 | .index t x i=>
  match P.underlying t,ev T x,ev T i with
  |some .string,.string s,.int _ n=>(0<=n/\n<s.size)/\k (.int .u8 (B s n))
  |_,_,_=>False
 |_=>False
def kS(T:Tm)(d:Int):Option Operand->Option Int
 |none=>some d
 |some x=>match ev T x with| .int _ n=>some n|_=>none
def FW(op:Op)(T:Tm)(k:aD->Prop):Prop:=
 match op with
 | .slice t x d c none=>
  match P.underlying t with
  |some .string=>
   match ev T x with
   | .string s=>match kS T 0 d,kS T s.size c with
    |some l,some h=>(0<=l/\l<=h/\h<=s.size)/\k (.string (s.extract l.toNat h.toNat))
    |_,_=>False
   |_=>False
  |some (.slice e)=>
   match P.info? e,ev T x with
   |some a,.slice (some ⟨b,o,none⟩) len aq=>match kS T 0 d,kS T len c with
    |some l,some h=>(0<=l/\l<=h/\h<=aq/\l<aq)/\k (.slice (some ⟨b,o+l.toNat*a.size,none⟩) (h.toNat-l.toNat) (aq-l.toNat))
    |_,_=>False
   |_,_=>False
  |_=>False
 |_=>False
structure Ask(r i:Nat)(o:Oper)(s:Sem Next)(S:St):Prop where
 no:False
def signed:IntKind->Bool
 | .i8| .i16| .i32| .i64=>true
 |_=>false
def agy(o:Oper):OH:=
 match o.op with
 | .pick ..=>.pk
 | .indexAddr ..=>.ix
 | .index t _ _=>match P.underlying t with|some .string=>.si|_=>.q []
 | .slice ..=>.sl
 | .binOp b t _ _ _=>match b with
  | .add| .sub| .mul| .quo=>match P.underlying t with|some (.int k)=>(match signed k with|true=>.ck|false=>.q [])|some .string=>.ck|_=>.q []
  | .rem=>match P.underlying t with|some (.int _)=>.ck|_=>.q []
  |_=>.q []
 | .convert s d _=>match P.underlying s,P.underlying d with
  |some (.int _),some (.int _)=>.ck
  |_,_=>.q []
 |_=>.q []
def OY(op:Op)(T:Tm)(k:aD->Prop):Prop:=
 match op with
 | .slice t x b a none=>
  match P.underlying t,ev T x with
  |some (.slice e),.slice (some _) len aq=>
   match P.info? e,kS T 0 b,kS T len a with
   |some _,some l,some h=>(0<=l/\l<=h/\h<=aq)/\∀v,k v
   |_,_,_=>False
  |_,_=>False
 |_=>False
variable(N:Nat)
def lC(o:Oper)(h:OH)(T:Tm)(S:St)(k:aD->Prop):Prop:=
 match h with
 | .q d=>rd P S (execOp (ev T) o) d fun
  | .value v=>k v
  | .skip=>k undef
  |_=>False
 | .qo C=>cN P o C/\∃x,o.op.operands.toList.map (ev T)=C.args x/\C.cond x/\k (C.val x)
 | .pk=>match o.op with
  | .pick c a b=>match ev T c with
   | .bool t=>Br t (k (ev T a)) (k (ev T b))
   |_=>False
  |_=>False
 | .ck=>D0 P o.op T k
 | .ix=>Eg P o.op T k
 | .si=>FU P o.op T k
 | .sl=>FW P o.op T k
 |_=>False
def hC(o:Oper)(h:OH):OH:=match h with| .d=>agy P o|h=>h
def oP(o:Oper)(h:OH)(T:Tm)(S:St)(k:Tm->St->Prop)(kp:List PanicEntry->Tm->St->Prop):Prop:=
 match hC P o h with
 | .ask r i=>Ask r i o (execOp (ev T) o) S
 | .w g=>wr P (execOp (ev T) o) g S (λx c=>match x with
  | .value v=>k (dH N o.dst v T) c
  | .skip=>k (dH N o.dst undef T) c
  |_=>False) (λv c=>kp [{v,recovered:=false}] T c)
 | .n j=>match Bk P (execOp (ev T) o)with
  |some (l,f)=>∀b,match EF P (f b)with
   |some (.value v)=>k (dH N o.dst v T) (gC S j (mkAtom b l))
   |_=>False
  |none=>False
 | .c C a out=>rd P S (execOp (ev T) o) [] fun
  | .enter f args=>gD P f C/\(nodupB a&&nodupB out)=true/\Jt C args.toList a out S (λv c=>k (dH N o.dst v T) c) (λd c=>kp d T c)
  |_=>False
 | .o C a out=>gY P o C/\(nodupB a&&nodupB out)=true/\Jt C (o.op.operands.toList.map (ev T)) a out S (λv c=>k (dH N o.dst v T) c) (λd c=>kp d T c)
 | .WF=>OY P o.op T λv=>k (dH N o.dst v T) S
 |e=>lC P o e T S λv=>k (dH N o.dst v T) S
def oQ(b:Array Oper)(o:Oper)(h:OH)(T:Tm)(S:St)(k:Tm->St->Prop)(kp:List PanicEntry->Tm->St->Prop):Prop:=
 match o.guard with
 |none=>oP P N o h T S k kp
 |some (j,a)=>
  match (b[j]?).bind (·.dst)with
  |none=>False
  |some d=>match T.aS d with
   | .bool t=>Br t
     (match a with|true=>oP P N o h (dH N (some d) (.bool true) T) S k kp|false=>k (dH N o.dst undef (dH N (some d) (.bool true) T)) S)
     (match a with|false=>oP P N o h (dH N (some d) (.bool false) T) S k kp|true=>k (dH N o.dst undef (dH N (some d) (.bool false) T)) S)
   | .tuple _=>k (dH N o.dst undef T) S
   |_=>False
def rg(H:Nat->OH)(a:Array Oper):a_->Tm->St->(Tm->St->Prop)->(List PanicEntry->Tm->St->Prop)->Prop
 | [],T,S,k,_=>k T S
 |i::rest,T,S,k,b=>
  match a[i]? with
  |none=>False
  |some o=>oQ P N a o (H i) T S (λT S=>rg H a rest T S k b) b
def jX(T:Tm):List (Nat×aD)->Prop
 | []=>True
 | (i,v)::r=>T.aS i=v/\jX T r
def sw:Code->Option Nat
 | .region id _ _=>some id
 | .seq a b=>match sw a with|some i=>some i|none=>sw b
 | .block _ c=>sw c
 | .loop c=>sw c
 | .scope c=>sw c
 | .cond _ a b=>match sw a with|some i=>some i|none=>sw b
 |_=>none
def cL:List LH->a_
 | []=>[]
 | .aS j::r=>j::cL r
 | .ex j _::r=>j::cL r
 | .nw j::r=>j::cL r
inductive AT where
 |n6 (aqQ:a_)
 |new (j:Nat)
 |qY (fe:a_)
def gS(h:OH):AT:=
 match h with
 | .q b=>.n6 (cL b)
 | .w b=>.qY (cL b)
 | .n j=>.new j
 | .c _ a out=>.qY (a++out)
 | .o _ a out=>.qY (a++out)
 | .WF=>.qY []
 |_=>.n6 []
def Bw(a b:a_):Bool:=a.all λi=>b.all λj=> !Nat.beq i j
def B4(r i:AT):Bool:=
 match i,r with
 | .n6 _,.n6 _=>true
 | .n6 a,.new j=>Bw a [j]
 | .n6 a,.qY b=>Bw a b
 | .new j,.n6 a=>Bw a [j]
 | .new j,.new k=> !Nat.beq j k
 | .new j,.qY b=>Bw [j] b
 | .qY b,.n6 a=>Bw a b
 | .qY _,_=>false
def Sv(o:Oper)(a:a_):Nat:=o.after.toList.foldr (λe s=>bif Region.binds .any e then (2^e.on|||a.getD e.on 0)|||s else s) 0
def lU:List Oper->a_->a_
 | [],a=>a
 |o::r,a=>lU r (a++[Sv o a])
def vv(o:Oper):Bool:=match o.op with| .select ..=>true|_=>false
def cQ(a:Array Oper)(i:Nat):Oper:=a.getD i default
def n8:AT->a_
 | .n6 r=>r
 | .new _=>[]
 | .qY _=>[]
def jK:AT->a_
 | .n6 _=>[]
 | .new j=>[j]
 | .qY l=>l
def wS(c:AT):a_:=n8 c++jK c
def aph(r i:AT):Bool:=match i with| .new j=>Bw [j] (wS r)|_=>true
def EB(H:Nat->OH)(a:Array Oper)(b:a_)(r i:Nat):Bool:=
 !(b.getD r 0).testBit i&&aph (gS (hC P (cQ a r) (H r))) (gS (hC P (cQ a i) (H i)))&&
 ((b.getD i 0).testBit r||(Oper.apart a (cQ a i) (cQ a r)&&B4 (gS (hC P (cQ a r) (H r))) (gS (hC P (cQ a i) (H i)))))
def zu(H:Nat->OH)(a:Array Oper)(b:a_):a_->Bool
 | []=>true
 |r::l=>(l.all λi=>EB P H a b r i)&&zu H a b l
def SI(H:Nat->OH)(a:Array Oper)(l:a_):Bool:=
 (a.toList.all λo=> !vv o&&o.after.toList.all λe=> !Region.binds .any e||Nat.blt e.on a.size)&&nodupB l&&Nat.beq l.length a.size&&
 (l.all λi=>Nat.blt i a.size&& !((lU a.toList []).getD i 0).testBit i)&&zu P H a (lU a.toList []) l
def uH(a:a_)(i:Nat)(l:a_):Bool:=l.all λk=>(a.getD k 0).testBit i
def Sx(H:Nat->OH)(a:Array Oper)(l:a_):a_:=l.filterMap λi=>match gS (hC P (cQ a i) (H i))with| .new j=>some j|_=>none
def Y8(S:St)(a:a_):Bool:=a.all λj=>match gt S j with| .d7=>true|_=>false
def o5(H:Nat->OH)(a:Array Oper)(c:a_):a_->Tm->St->(Tm->St->Prop)->(List PanicEntry->Tm->St->Prop)->Prop
 | [],T,S,k,_=>k T S
 |i::rest,T,S,k,b=>oQ P N a (cQ a i) (H i) T S (λT S=>o5 H a c rest T S k b)
   (match uH c i rest with|true=>λd _ S=>∀T,b d T S|false=>λ_ _ _=>False)
def E(H:jZ):Code->Nat->Tm->St->(Exit->Tm->St->Prop)->Prop
 | .skip,_,T,S,K=>K .normal T S
 | .seq a b,key,T,S,K=>
  match (sw b).bind H.cut with
  |none=>E H a key T S λe T S=>match e with| .normal=>E H b key T S K|e=>K e T S
  |some I=>
   match I.gh with
   |none=>
    (E H a key T S λe T S=>match e with| .normal=>∃x,I.P x/\jX T (I.lv x)/\ay S (bu (I.st x))|e=>K e T S)/\
    ∀x f,I.P x->E H b key (kT f (I.lv x)) (bu (I.st x)) K
   |some g=>∃n:g.1,
    (E H a key T S λe T S=>match e with| .normal=>∃x,(I.P x/\g.2 x=n)/\jX T (I.lv x)/\ay S (bu (I.st x))|e=>K e T S)/\
    ∀x f,(I.P x/\g.2 x=n)->E H b key (kT f (I.lv x)) (bu (I.st x)) K
 | .cond c a b,key,T,S,K=>
  match ev T c with
  | .bool t=>Br t (E H a key T S K) (E H b key T S K)
  |_=>False
 | .block id c,_,T,S,K=>E H c id T S λe T S=>match e with| .exit i=>(bif Nat.beq i id then K .normal T S else K (.exit i) T S)|e=>K e T S
 | .loop c,key,T,S,K=>
  match H.BK key with
  |none=>False
  |some I=>
   match I.gh with
   |none=>(∃x,I.P x/\jX T (I.lv x)/\ay S (bu (I.st x)))/\
    ∀x f,I.P x->E H c key (kT f (I.lv x)) (bu (I.st x)) λe T S=>match e with
     | .normal=>∃y,I.P y/\jX T (I.lv y)/\ay S (bu (I.st y))/\I.mu y<I.mu x
     |e=>K e T S
   |some g=>∃n:g.1,(∃x,(I.P x/\g.2 x=n)/\jX T (I.lv x)/\ay S (bu (I.st x)))/\
    ∀x f,(I.P x/\g.2 x=n)->E H c key (kT f (I.lv x)) (bu (I.st x)) λe T S=>match e with
     | .normal=>∃y,(I.P y/\g.2 y=n)/\jX T (I.lv y)/\ay S (bu (I.st y))/\I.mu y<I.mu x
     |e=>K e T S
 | .exit id,_,T,S,K=>K (.exit id) T S
 | .scope c,key,T,S,K=>E H c key T S λe T S=>match e with| .goto _=>False|e=>K e T S
 | .ret,_,T,S,K=>K .ret T S
 | .region id d h,_,T,S,K=>
  match h with
  |false=>rg P N (H.op id) d (List.range d.size) T S (λT S=>K .normal T S) (λj T S=>K (.panic j) T S)
  |true=>
   let l:=match H.B2 id with| []=>List.range d.size|l=>l
   (SI P (H.op id) d l&&Y8 S (Sx P (H.op id) d l))=true/\
   o5 P N (H.op id) d (lU d.toList []) l T S (λT S=>K .normal T S) (λj T S=>K (.panic j) T S)
 |_,_,_,_,_=>False
def ky(c:Func)(T:Tm):Sem aD:=do
 let b <-c.results.mapM fun
  | .tmp t=>pure (T.aS t)
  | .cell a t=>do loadVar t (<-asAddr (T.aS a))
 pure (if h:b.size=1 then b[0] else .tuple b)
def Body(b:Func)(H:jZ)(d:List LH)(c:Code)(T:Tm)(S:St)(R:Ending->St->Prop):Prop:=
 E P N H c 0 T S λe T S=>match e with
  | .normal| .ret=>rd P S (ky b T) d λv=>R (.returned v) S
  | .panic a=>R (.panicked a) S
  |_=>False
def Aj(r:Nat):Code->Option (Array Oper)
 | .region id d _=>bif Nat.beq id r then some d else none
 | .seq a b=>match Aj r a with|some x=>some x|none=>Aj r b
 | .cond _ a b=>match Aj r a with|some x=>some x|none=>Aj r b
 | .block _ c=>Aj r c
 | .loop c=>Aj r c
 | .scope c=>Aj r c
 |_=>none
def aL(a:Func)(r i:Nat):Oper:=((Aj r (a.body.getD .skip)).getD #[]).getD i default
structure l(C:aF)(x:C.X)(F:ag)(e:Ending)(S:St):Prop where
 h:∃y,C.bS x y/\e=C.val x y/\ay S (bu (C.post x y++[F]))
end
end
section
def ve{i j:Nat}(h:i≠j):Nat.beq i j=false:=by
 cases a:Nat.beq i j with
 |false=>rfl
 |true=>exact absurd (Nat.eq_of_beq_eq_true a) h
def Ry{i j:Nat}(h:i<j):Nat.blt i j=true:=by rw[Nat.blt_eq];exact h
def Rx{i j:Nat}(h:¬i<j):Nat.blt i j=false:=by
 cases a:Nat.blt i j with
 |false=>rfl
 |true=>rw[Nat.blt_eq]at a;exact absurd a h
variable{a:Act}{A:ag}{h:Hp}{I J:aX}{vs:aN}{N b j:Nat}{o:wJ}{S:St}{T:Tm}{α:Type}{t:TypeId}{w w':World}
theorem KT(i k:Nat)(u v:α):(bif Nat.beq i k then u else v)=if i=k then u else v:=by
 simp[*]
theorem ajh(k:Nat)(v:α)(l:List (Nat×α))(i:Nat)(d:α):rk (dW k v l) i d=if i=k then v else rk l i d:=by
 induction l with
 |nil=>simp only[dW,rk,KT]
 |cons p r c=>
  obtain⟨j,u⟩:=p;simp only[dW];by_cases a:k=j;subst a;simp only[Nat.beq_refl,aW,rk,KT];grind;simp only[ve a,y];by_cases b:k<j;simp only[Ry b,aW,rk,KT];simp only[Rx b,y,rk,c,KT];grind
theorem ais{i:Nat}(h:i≠j)(u v:α)(l:List (Nat×α)):dW i u (dW j v l)=dW j v (dW i u l):=by
 have a:= @ve;have lt:= @Ry;have nl:= @Rx
 induction l with
 |nil=>
  simp only[dW];grind
 |cons p r m=>
  obtain⟨k,c⟩:=p;by_cases f:i=k;subst f;by_cases e:j<i;simp[dW,a h,a (Ne.symm h),lt e,nl (show ¬i<j by omega)];simp[dW,a (Ne.symm h),nl e];by_cases e:j=k;subst e;by_cases b:i<j;simp[dW,a h,a (Ne.symm h),lt b,nl (show ¬j<i by omega)];simp[dW,a h,nl b];by_cases b:i<k;by_cases d:j<k;by_cases g:i<j;simp[dW,a h,a (Ne.symm h),a f,a e,lt b,lt d,lt g,nl (show ¬j<i by omega)];simp[dW,a h,a (Ne.symm h),a f,a e,lt b,lt d,lt (show j<i by omega),nl g];simp[dW,a (Ne.symm h),a f,a e,lt b,nl d,nl (show ¬j<i by omega)];by_cases d:j<k;simp[dW,a h,a f,a e,nl b,lt d,nl (show ¬i<j by omega)];simp[dW,a f,a e,nl b,nl d,m]
structure dS(N:Nat)(T:Tm)(a:Act):Prop where
 get:∀i,a.tmps.getD i undef=T.aS i
 size:a.tmps.size=N
theorem ad6(T:Tm)(k i:Nat)(v:aD):(pQ T k v).aS i=if i=k then v else T.aS i:=by
 unfold pQ Tm.aS;simp[*]
theorem dS.eval(h:dS N T a):a.eval=ev T:=by
 funext x;cases x with
 |tmp t=>exact h.get t
 |const v=>rfl
 |global g=>rfl
 |func f=>rfl
theorem EG(N:Nat)(T:Tm)(d:Nat)(v:aD)(i:Nat):(dH N (some d) v T).aS i=if d<N/\i=d then v else T.aS i:=by
 unfold dH;by_cases h:d<N;simp[Ry h,ad6,h];simp[Rx h,h]
theorem dS.put(h:dS N T a)(b:Option Tmp)(v:aD):dS N (dH N b v T) (a.put b v):=by
 cases b with
 |none=>exact⟨h.get,h.size⟩
 |some d=>
  refine⟨λi=>?_,by simpa[Act.put]using h.size⟩;rw[EG];simp only[Act.put,pv,Array.getElem?_setIfInBounds];have f:=h.get i;simp only[pv]at f;by_cases e:d<N;by_cases c:i=d;subst c;simp[e,h.size];grind;by_cases c:i=d;subst c;have g:¬i<a.tmps.size:=by rw[h.size];exact e
  grind;grind
theorem dS.same{b:Tm}(h:dS N T a)(e:∀i,b.aS i=T.aS i):dS N b a:=⟨λi=>(h.get i).trans (e i).symm,h.size⟩
theorem dS.defers(h:dS N T a)(ds:List Deferred):dS N T {a with defers:=ds}:=⟨h.get,h.size⟩
@[simp] theorem amP (a:Act) (b:Option Tmp) (v:aD):(a.put b v).defers=a.defers:=by cases b <;> rfl
theorem agO(vs:aN)(i:Nat):(lP vs).aS i=vs.getD i undef:=rfl
theorem IY(vs:aN)(h:vs.length<=N):dS N (lP vs) {tmps:=⟨vs⟩++Array.replicate (N-(⟨vs⟩:Array aD).size) undef,defers:=[]}:=by
 refine⟨λi=>?_,by simp;omega⟩;rw[agO];simp only[pv,Array.getElem?_append,eG];grind
theorem qe(h:dS N T a){l:List (Nat×aD)}(b:jX T l):dS N (kT T.aS l) a:=by
 refine h.same λi=>?_;show rk l i (T.aS i)=T.aS i
 induction l with
 |nil=>rfl
 |cons p r c=>
  obtain⟨k,v⟩:=p;simp only[jX]at b;simp only[rk];by_cases U:i=k;simp[*];simp[ve U,c b.2]
theorem aX.le_refl(I:aX):aX.le I I:=λ_ _ h=>h
theorem aX.le_trans{K:aX}(h:aX.le I J)(a:aX.le J K):aX.le I K:=λb o e=>a b o (h b o e)
theorem vq(S:St)(k j:Nat)(A:ag):gt (gC S k A) j=if j=k then A else gt S j:=ajh _ _ _ _ _
theorem ah0(n:Nat)(l:List ag)(j:Nat):gt (aT n l) j=if j<n then .d7 else l.getD (j-n) .d7:=by
 unfold gt
 induction l generalizing n with
 |nil=>simp[aT,rk]
 |cons A r a=>
  simp only[aT,rk,a];by_cases h:j=n;simp[*];have e:Nat.beq j n=false:=ve h;grind
theorem vp(l:List ag)(j:Nat):gt (bu l) j=l.getD j .d7:=by unfold bu;rw[ah0];simp
theorem cn.refl(w:World):cn w w:=Y
theorem cn.trans{v u:World}(h:cn w v)(a:cn v u):cn w u:=⟨a.1.trans h.1,a.2.trans h.2⟩
theorem ag.local{c:Hp}(d:∀b,o b->h b=c b)(a:A.holds I h o):A.holds I c o:=by
 cases A with
 |d7=>trivial
 |cells b vs t=>exact⟨a.1,(d _ a.1)▸a.2⟩
 |iG b e=>exact⟨a.1,(d _ a.1)▸a.2⟩
 |cJ p=>exact p.El I h c o d a
theorem ag.mono(c:aX.le I J)(a:A.holds I h o):A.holds J h o:=by
 cases A with
 |d7=>trivial
 |cells b vs t=>exact a
 |iG b d=>exact a
 |cJ p=>exact p.mono I J h o c a
theorem afU(w:World)(a:Addr):wY (hp w) a=w.cell? a:=by
 rfl
theorem Sat.look(h:Sat I S w){a:Addr}{v:aD}(c:aH (gt S j) a v):w.cell? a=some v:=by
 obtain⟨f,b,_,_⟩:=h.nW;exact c.h I _ _ h.oM (b j)
theorem Sat.cells{I:aX}{S:St}{w:World}(h:Sat I S w){j b:Nat}{vs:aN}{t:TypeId}(c:gt S j= .cells b vs t):w.heap[b]?=some (.cells ⟨vs⟩ t (0,0)):=by
 obtain⟨f,a,_,_⟩:=h.nW;have:=a j;rw[c]at this;exact this.2
theorem Sat.iG{I:aX}{S:St}{w:World}(h:Sat I S w){j b:Nat}{o:Obj}(c:gt S j= .iG b o):w.heap[b]?=some o:=by
 obtain⟨f,a,_,_⟩:=h.nW;have:=a j;rw[c]at this;exact this.2
theorem Sat.write(h:Sat I S w){A':ag}(p:∀o,(gt S j).holds I (hp w) o->o b)
  (d:∀c,c≠b->w'.heap[c]?=w.heap[c]?) (hs:w'.heap.size=w.heap.size)
  (n:∀o,(gt S j).holds I (hp w) o->A'.holds I (hp w') o):Sat I (gC S j A') w':=by
 obtain⟨f,g,k,m⟩:=h.nW;refine⟨⟨f,λi=>?_,k,λi c a=>by grind⟩,λc o a=>?_⟩;rw[vq];by_cases l:i=j;simp[*];simp only[l,if_false];refine ag.local (λc a=>?_) (g i);by_cases e:c=b;grind;exact(d c e).symm;by_cases e:c=b;grind;show w'.heap[c]?=some o;rw[d c e];exact h.oM c o a
theorem Zb(w:World)(a:Addr)(v:aD)(c:Nat):(w.setCell a v).heap[c]?=if c=a.block then (w.heap[c]?).map (λ| .cells b e d=>.cells (if a.spot.isSome then b else b.setIfInBounds a.off v) e d|o=>o) else w.heap[c]?:=by
 simp only[World.setCell,Array.getElem?_modify];grind
theorem Sat.store(h:Sat I S w)(e:gt S j= .cells b vs t){a:Addr}(hs:d6 a b)(v:aD):
  Sat I (gC S j (.cells b (vs.set a.off v) t)) (w.setCell a v):=by
 have g:=h.cells e;obtain⟨e1,f⟩:=hs;refine h.write (b:=b) (λo d=>by rw[e]at d;exact d.1) (λc i=>?_) (by simp[World.setCell]) (λo d=>?_);rw[Zb];simp[*];rw[e]at d;refine⟨d.1, ?_⟩;show(w.setCell a v).heap[b]?=_;rw[Zb];simp[*]
theorem Sat.setObj(h:Sat I S w){o:Obj}(d:gt S j= .iG b o)(e:Obj):
  Sat I (gC S j (.iG b e)) {w with heap:=w.heap.setIfInBounds b e}:=by
 have g:=h.iG d;have f:b<w.heap.size:=by{grind};refine h.write (b:=b) (λo a=>by rw[d]at a;exact a.1) (λc i=>?_) X (λo a=>?_);grind;rw[d]at a;refine⟨a.1, ?_⟩;show(w.heap.setIfInBounds b e)[b]?=_;simp[*]
theorem ajM(I:aX)(h:Hp)(o:wJ)(b:Nat)(c:Obj)(a:o b)(d:h b=some c):(mkAtom b c).holds I h o:=by
 unfold mkAtom;split;exact⟨a,O⟩;exact⟨a,d⟩
theorem ah5(w:World)(a:Obj)(c:Nat):({w with heap:=w.heap.push a}:World).heap[c]?=if c=w.heap.size then some a else w.heap[c]?:=by
 grind
theorem Sat.new(h:Sat I S w)(j:Nat)(a:Obj):Sat I (gC S j (mkAtom w.heap.size a)) {w with heap:=w.heap.push a}:=by
 obtain⟨f,l,q,r⟩:=h.nW;have k:I w.heap.size=none:=by
  cases m:I w.heap.size with
  |none=>rfl
  |some o=>
   have:=h.oM _ _ m;simp[hp]at this
 refine⟨⟨λi b=>if i=j then b=w.heap.size else f i b,λi=>?_,λi s b n p=>?_,λi b n=>?_⟩,λc o d=>?_⟩;rw[vq];by_cases g:i=j;subst g;simp only[if_true];exact ajM _ _ _ _ _ rfl (by show({w with heap:=w.heap.push a}:World).heap[_]?=_;simp[*]);simp only[g,if_false];refine ag.local (λc d=>?_) (l i);show w.heap[c]?=({w with heap:=w.heap.push a}:World).heap[c]?;grind;grind;grind;show({w with heap:=w.heap.push a}:World).heap[c]?=some o;rw[ah5];by_cases e:c=w.heap.size;grind;simp[e];exact h.oM c o d
theorem Sat.heap(h:Sat I S w)(e:w'.heap=w.heap):Sat I S w':=by
 have a:hp w'=hp w:=by unfold hp;rw[e]
 exact⟨by rw[a,e];exact h.nW,by rw[a];exact h.oM⟩
theorem Y9{a:Addr}(h:w.heap[a.block]?=some (.cells ⟨vs⟩ t (0,0))):w.frozen? a=false:=by
 unfold World.frozen?;simp[h]
theorem DZ{a:Addr}(hs:d6 a b)(h:w.heap[b]?=some (.cells ⟨vs⟩ t (0,0))):w.cell? a=vs[a.off]?:=by
 obtain⟨e1,c⟩:=hs;unfold World.cell?;simp[*]
theorem Xs{K:aD->Prop}{s:jr}(h:s.ex K):∃v,K v:=by
 cases s <;> simp only[jr.ex]at h
 all_goals grind
section
variable{P:Program}
theorem x_(h:Sat I S w):∀(s:Sem α)(c:List LH)(k:α->Prop),rd P S s c k->∃a,s.run P w= .ok a w/\k a:=by
 intro s
 induction s with
 |pure a=>intro c k U;exact⟨a,rfl,U⟩
 |program f e=>intro c k U;exact e P c k U
 |mark m s e=>intro c k U;exact e c k U
 |load m a f e=>
  intro c k U;cases c with
  |nil=>simp only[rd]at U
  |cons x c=>
   cases x with
   |aS j=>
    simp only[rd]at U;split at U
    rename_i b vs t n
    obtain⟨d,U⟩:=U;have l:=DZ d (h.cells n);split at U
    rename_i v p
    obtain⟨u,g,i⟩:=e v c k U;refine⟨u, ?_,i⟩;simp only[Sem.run,l,p];exact g;grind;grind
   |ex j sh=>
    obtain⟨v,o,U⟩:=Xs U;obtain⟨u,g,i⟩:=e v c k U;refine⟨u, ?_,i⟩;simp only[Sem.run,h.look o];exact g
   |nw j=>simp only[rd]at U
 |_=>intro c k U;cases c <;> simp only[rd]at U
inductive u_{α:Type}(I:aX)(w:World)(k:α->St->Prop)(kp:aD->St->Prop):Result α->Prop
 |ok (a:α) (w':World) (S':St) (h:Sat I S' w') (e:cn w w') (U:k a S'):u_ I w k kp (.ok a w')
 |panic (v:aD) (w':World) (S':St) (h:Sat I S' w') (e:cn w w') (U:kp v S'):u_ I w k kp (.halt (.panic v) w')
theorem u_.from{w1:World}{k:α->St->Prop}{kp:aD->St->Prop}{r:Result α}(e:cn w w1)(h:u_ I w1 k kp r):u_ I w k kp r:=by
 cases h with
 |ok a w' b h c U=>exact .ok a w' b h (e.trans c) U
 |panic v w' b h c U=>exact .panic v w' b h (e.trans c) U
theorem apQ:∀(s:Sem α)(c:List LH)(S:St)(w:World)(k:α->St->Prop)(e:aD->St->Prop),Sat I S w->wr P s c S k e->u_ I w k e (s.run P w):=by
 intro s
 induction s with
 |pure a=>intro c S w k e h U;exact .ok a w S h (cn.refl w) U
 |program f i=>intro c S w k e h U;exact i P c S w k e h U
 |mark m s i=>intro c S w k e h U;exact i c S w k e h U
 |halt x=>
  intro c S w k e h U;cases x with
  |panic v=>exact .panic v w S h (cn.refl w) U
  |_=>cases c <;> simp only[wr]at U
 |load m a f i=>
  intro c S w k e h U;cases c with
  |nil=>simp only[wr]at U
  |cons x c=>
   cases x with
   |aS j=>
    simp only[wr]at U;split at U
    rename_i b vs t g
    obtain⟨d,U⟩:=U;have B:=DZ d (h.cells g);split at U
    rename_i v F
    simp only[Sem.run,B,F];grind;grind;grind
   |ex j sh=>
    simp only[wr]at U;obtain⟨v,D,U⟩:=Xs U;simp only[Sem.run,h.look D];grind
   |nw j=>simp only[wr]at U
 |store m a v s i=>
  intro c S w k e h U;have C:∀(j b:Nat)(vs:aN)(t:TypeId)(p:List LH),gt S j= .cells b vs t->d6 a b->a.off<vs.length->LW v=true->
    wr P s p (gC S j (.cells b (vs.set a.off v) t)) k e->u_ I w k e ((Sem.store m a v s).run P w):=by
   intro j b vs t p g d E u U;have l:=h.cells g;have B:=DZ d l;have n:w.frozen? a=false:=Y9 (by rw[d.ft];exact l);have y:(Sem.store m a v s).run P w=s.run P (w.setCell a v):=by
    have q:w.cell? a=some vs[a.off]:=by simp[*]
    cases v <;> first
     | (simp only[Sem.run,q,n,Bool.false_eq_true,if_false];done)
     |exact absurd u (by simp[LW])
   rw[y];exact u_.from (w1:=w.setCell a v) Y (i p _ _ k e (h.store g d v) U)
  cases c with
  |nil=>cases v <;> simp only[wr]at U
  |cons x c=>
   cases x with
   |aS j=>
    simp only[wr]at U;split at U
    all_goals grind
   |ex j sh=>
    simp only[wr]at U;grind
   |nw j=>simp only[wr]at U
 |new o f i=>
  intro c S w k e h U;cases c with
  |nil=>simp only[wr]at U
  |cons x c=>
   cases x with
   |nw j=>
    simp only[wr]at U;exact u_.from (w1:={w with heap:=w.heap.push o}) Y (i w.heap.size c _ _ k e (h.new j o) (U _))
   |_=>simp only[wr]at U
 |shape r f i=>
  intro c S w k e h U;cases c with
  |nil=>simp only[wr]at U
  |cons x c=>
   cases x with
   |aS j=>
    simp only[wr]at U;split at U
    rename_i b vs t g
    obtain⟨rfl,U⟩:=U;have l:=h.cells g;have:w.shape? r=some (t,vs.length):=by unfold World.shape?;simp[l]
    simp only[Sem.run,this];grind;grind
   |_=>simp only[wr]at U
 |frozen a f i=>
  intro c S w k e h U;cases c with
  |nil=>simp only[wr]at U
  |cons x c=>
   cases x with
   |aS j=>
    simp only[wr]at U;split at U
    rename_i b vs t g
    obtain⟨d,U⟩:=U;have n:w.frozen? a=false:=Y9 (by rw[d.ft];exact h.cells g);simp only[Sem.run,n];grind;grind
   |_=>simp only[wr]at U
 |getObj r f i=>
  intro c S w k e h U;cases c with
  |nil=>simp only[wr]at U
  |cons x c=>
   cases x with
   |aS j=>
    simp only[wr]at U;split at U;grind
    rename_i b o A g
    obtain⟨rfl,U⟩:=U;have l:=h.iG g;have:(Sem.getObj r f).run P w=(f o).run P w:=by{simp only[Sem.run,l]};grind;grind
   |_=>simp only[wr]at U
 |setObj r z s i=>
  intro c S w k e h U;cases c with
  |nil=>simp only[wr]at U
  |cons x c=>
   cases x with
   |aS j=>
    simp only[wr]at U;split at U;grind
    rename_i b o A g
    obtain⟨rfl,U⟩:=U;have l:=h.iG g;have:(Sem.setObj r z s).run P w=s.run P {w with heap:=w.heap.setIfInBounds r z}:=by{simp only[Sem.run,l]};rw[this];exact u_.from (w1:={w with heap:=w.heap.setIfInBounds r z}) Y (i c _ _ k e (h.setObj g z) U);grind
   |_=>simp only[wr]at U
 |_=>intro c S w k e h U;cases c <;> simp only[wr]at U
end
end
section
def Ll(dJ:a_)(S:St)(j:Nat):gt (nJ dJ S) j=if j∈dJ then .d7 else gt S j:=by
 induction dJ generalizing S with
 |nil=>simp[nJ]
 |cons k r a=>
  simp only[nJ,a,vq,List.mem_cons];grind
def LS{l:a_}(h:nodupB l=true):l.Nodup:=by
 induction l with
 |nil=>exact List.nodup_nil
 |cons j r b=>
  simp only[nodupB,iP,List.all_eq_true]at h;refine List.nodup_cons.2 ⟨λa=>?_,b h.2⟩;have:=h.1 j a;simp at this
structure Dy(I:aX)(S:St)(l:List ag)(w:World):Prop where
 nW:∃f g:Nat->wJ,(∀j,(gt S j).holds I (hp w) (f j))/\(∀i,(l.getD i .d7).holds I (hp w) (g i))/\(∀i j b,f i b->f j b->i=j)/\(∀i j b,g i b->g j b->i=j)/\
  (∀i j b,f i b->g j b->False)/\(∀j b,f j b->I b=none/\b<w.heap.size)/\(∀j b,g j b->I b=none/\b<w.heap.size)
 oM:Gc I (hp w)
variable{C:aF}{I:aX}{l:List ag}{out dJ:a_}{o:Oper}{S:St}{T:Tm}{k:aD->Prop}{w:World}
theorem Dy.nil(h:Dy I S l w):Sat I S w:=by
 obtain⟨f,g,a,_,b,_,_,c,_⟩:=h.nW;exact⟨⟨f,a,b,c⟩,h.oM⟩
theorem Dy.cons{A:ag}(h:Dy I S (A::l) w)(j:Nat):Dy I (gC S j A) l w:=by
 obtain⟨f,g,n,e,o,p,q,r,k⟩:=h.nW;refine⟨⟨λi b=>if i=j then g 0 b else f i b,λi b=>g (i+1) b,λi=>?_,λi=>?_,λi d b a c=>?_,λi d b a c=>?_,λi d b a c=>?_,λi b a=>?_,λi b a=>k _ b a⟩,h.oM⟩;rw[vq];by_cases m:i=j;simp only[m,if_true];simpa using e 0;simp[*]
 all_goals grind
theorem ad1(out:a_):∀(l:List ag)(S:St),Dy I S l w->Sat I (pG out l S) w:=by
 induction out with
 |nil=>intro l S h;simpa[pG]using h.nil
 |cons j r a=>
  intro l S h;cases l with
  |nil=>simpa[pG]using h.nil
  |cons A l=>simpa[pG]using a l _ (h.cons j)
theorem Sat.part(h:Sat I S w)(hn:dJ.Nodup):Sat I (bu (dJ.map (gt S)++[.cJ (rest S dJ)])) w:=by
 obtain⟨f,p,m,q⟩:=h.nW;have g:(dJ.map (gt S)).length=dJ.length:=X;refine⟨⟨λi b=>(∃h:i<dJ.length,f dJ[i] b)\/(i=dJ.length/\∃j,j∉dJ/\f j b),λi=>?_,λi r b c a=>?_,λi b c=>?_⟩,h.oM⟩
 ·
  rw[vp,eG];rcases Nat.lt_trichotomy i dJ.length with d|d|d;rw[m5 O];simp only[fZ,da d,Option.map_some,Option.getD_some];refine ag.local (h:=hp w) (λb _=>rfl) ?_;have e:(λb=>(∃h:i<dJ.length,f dJ[i] b)\/(i=dJ.length/\∃j,j∉dJ/\f j b))=f dJ[i]:=by{grind};grind
  ·
   subst d;rw[lQ X];simp only[g,Nat.sub_self,List.getElem?_cons_zero,Option.getD_some];refine⟨λj b=>j∉dJ/\f j b,λj=>?_,λi j b c a=>m _ _ _ c.2 a.2,λj b c=>.inr ⟨by first|rfl|trivial,j,c.1,c.2⟩⟩;rw[Ll];by_cases l:j∈dJ;simp only[l,if_true];trivial;simp[*]
  rw[lQ (by simp;omega)];have:i-(dJ.map (gt S)).length=(i-dJ.length-1)+1:=by simp;omega
  rw[this];trivial
 ·
  rcases c with⟨d,c⟩| ⟨d,j,l,c⟩ <;> rcases a with⟨k,a⟩| ⟨k,s,n,a⟩;have o:=List.pairwise_iff_getElem.1 hn;grind
  all_goals grind
 grind
theorem Sat.join{J:aX}{post:List ag}(h:Sat J (bu (post++[.cJ (rest S dJ)])) w):Sat J (pG out post (nJ dJ S)) w:=by
 obtain⟨g,k,m,l⟩:=h.nW;have d:=k post.length;rw[vp,eG,lQ (bK _)]at d;simp only[Nat.sub_self,List.getElem?_cons_zero,Option.getD_some]at d;obtain⟨f,f1,f2,f3⟩:=d;refine ad1 out post _ ⟨⟨f,λi b=>i<post.length/\g i b,f1,λi=>?_,f2,λi j b a c=>m _ _ _ a.2 c.2,λi j b a c=>?_,λj b a=>l _ _ (f3 j b a),λj b a=>l _ _ a.2⟩,h.oM⟩;by_cases n:i<post.length;have:=k i;rw[vp,eG,m5 n]at this;have e:(λb=>i<post.length/\g i b)=g i:=by simp[*]
 grind;have e:post.getD i .d7= .d7:=by simp[*]
 rw[e];trivial;grind
section
variable{P:Program}{N:Nat}
theorem KN{x:C.X}{Φ:C.Y->Prop}:Rq C x Φ↔∀y,C.bS x y->Φ y:=by
 unfold Rq;cases C.sum with
 |none=>exact Iff.rfl
 |some q=>
  obtain⟨A,B,f,g,c⟩:=q;refine⟨λh y d=>?_,λh=>⟨λa=>h _,λb=>h _⟩⟩;rcases c y with⟨a,rfl⟩| ⟨b,rfl⟩
  all_goals grind
theorem apl{f:FuncId}{args:Array aD}{k:aD->St->Prop}{kp:List PanicEntry->St->Prop}
  (i:gD P f C) (hn:nodupB dJ=true) (h:Sat I S w) (q:Jt C args.toList dJ out S k kp):
  Calls P f args w λe j=>∃J d,aX.le I J/\Sat J d j/\cn w j/\match e with| .returned v=>k v d| .panicked m=>kp m d| .outgrown=>False:=by
 obtain⟨x,n,hp,o,p,U⟩:=q;have l:=h.part (LS hn);rw[hp]at l;have:=i.h x _ I w o p l;have e:(⟨C.args x⟩:Array aD)=args:=by rw[<-n]
 rw[e]at this;refine this.mono ?_;rintro e j ⟨y,J,b,rfl,g,c,a⟩;refine⟨J,_,g,c.join (out:=out),a, ?_⟩;have:=KN.1 U y b;omega
theorem dw{i:IntKind}{n:Int}(hn:t6 i n):i.wrap n=n:=by
  cases i <;> simp only[t6]at hn <;> simp only[IntKind.wrap,IntKind.bits,IntKind.signed,Bool.true_and,lj,Bool.false_eq_true,if_false,Int.reducePow,Nat.reduceSub] <;>
    first
      |omega
      | (split
         have:=kK ‹_›;omega
         rename_i a
         have:¬_:=λh=>a (bp h);omega)
theorem aid:i64.max=9223372036854775807:=by decide
theorem afZ(h:D0 P o.op T k)(w:World):∃v,(execOp (ev T) o).run P w= .ok (.value v) w/\k v:=by
 unfold D0 at h;split at h
 rename_i x y _ c
 split at h
 rename_i i a j b f g
 split at h
 rename_i e
 obtain rfl:=kK e;obtain⟨l,U⟩:=h;exact⟨_,by simp[execOp,c,f,g,eqGuard,binOp,Op.intArith,dw l,pure,Sem.run,bind,Sem.bind],U⟩;grind
 rename_i s t f g
 obtain⟨l,U⟩:=h;have:¬((9223372036854775807:Int)<(s.size:Int)+t.size):=O;exact⟨_,by simp[execOp,c,f,g,eqGuard,binOp,Op.stringOp,aid,this,pure,Sem.run,bind,Sem.bind],U⟩;grind
 rename_i x y _ c
 split at h
 rename_i i a j b f g
 split at h
 rename_i e
 obtain rfl:=kK e;obtain⟨l,U⟩:=h;exact⟨_,by simp[execOp,c,f,g,eqGuard,binOp,Op.intArith,dw l,pure,Sem.run,bind,Sem.bind],U⟩;grind;grind
 rename_i x y _ c
 split at h
 rename_i i a j b f g
 split at h
 rename_i e
 obtain rfl:=kK e;obtain⟨l,U⟩:=h;exact⟨_,by simp[execOp,c,f,g,eqGuard,binOp,Op.intArith,dw l,pure,Sem.run,bind,Sem.bind],U⟩;grind;grind
 rename_i x y _ c
 split at h
 rename_i i a j b f g
 split at h
 rename_i e
 obtain rfl:=kK e;obtain⟨m,l,U⟩:=h;exact⟨_,by simp[execOp,c,f,g,eqGuard,binOp,Op.intDiv,m,dw l,pure,Sem.run,bind,Sem.bind],U⟩;grind;grind
 rename_i x y _ c
 split at h
 rename_i i a j b f g
 split at h
 rename_i e
 obtain rfl:=kK e;obtain⟨m,U⟩:=h;exact⟨_,by simp[execOp,c,f,g,eqGuard,binOp,Op.intDiv,m,pure,Sem.run,bind,Sem.bind],U⟩;grind;grind
 rename_i s d x c
 split at h
 rename_i u i j a p n f
 obtain⟨l,U⟩:=h;exact⟨_,by simp[execOp,c,f,convert,run_underlying p,run_underlying n,Conv.intToInt,dw l,Sem.run],U⟩;grind;grind
theorem aiE(h:Eg P o.op T k)(w:World):∃v,(execOp (ev T) o).run P w= .ok (.value v) w/\k v:=by
 unfold Eg at h;have c:∀b a m:Nat,(⟨b,a,none⟩:Addr).add m=⟨b,a+m,none⟩:=by{intro b a m;unfold Addr.add;simp[*]};split at h
 rename_i t x i j
 split at h
 rename_i e r
 split at h
 rename_i f b a len aq u n g s q
 obtain⟨⟨l,p⟩,U⟩:=h;have d:P.cellsOf e=f.size:=by unfold Program.cellsOf;simp[g]
 exact⟨_,by simp[execOp,j,s,q,Instr.indexAt,asIntOf,run_underlying r,run_sizeOf w g,d,l,p,c,Sem.run],U⟩;grind
 rename_i m e r
 split at h
 rename_i f b a u n g s q
 obtain⟨⟨l,p⟩,U⟩:=h;have d:P.cellsOf e=f.size:=by unfold Program.cellsOf;simp[g]
 exact⟨_,by simp[execOp,j,s,q,Instr.indexAt,Instr.sureAddr,asIntOf,run_underlying r,run_sizeOf w g,d,l,p,c,Sem.run],U⟩;grind;grind;grind
theorem aol(h:FU P o.op T k)(w:World):∃v,(execOp (ev T) o).run P w= .ok (.value v) w/\k v:=by
 unfold FU at h;split at h
 rename_i t x i b
 split at h
 rename_i s m n g j f
 obtain⟨⟨c,l⟩,U⟩:=h;have a:n.toNat<s.size:=O;have e:s[n.toNat]?=some s[n.toNat]:=by simp[a]
 have d:(s[n.toNat].toNat:Int)=B s n:=by{unfold B;simp[eG,ByteArray.getElem_eq_getElem_data,Array.getElem?_eq_getElem (show n.toNat<s.data.size from a)]};refine⟨_, ?_,U⟩;rw[<-d];simp[execOp,b,j,f,Instr.index,asIntOf,run_underlying g,c,e,Sem.run];grind;grind
theorem KU(v:aD)(d:IntKind)(n:Int)(c:v= .int d n)(y:Nat)(code:BoundsCode)(a:0<=n)(b:n<=y)(w:World):(Instr.sliceBound v y code).run P w= .ok n.toNat w:=by
 subst c;simp[Instr.sliceBound,asIntOf,a,b,Sem.run]
theorem aag{x:Option Operand}{d v:Int}(h:kS T d x=some v):(x=none/\v=d)\/∃y a,x=some y/\ev T y= .int a v:=by
 cases x with
 |none=>simp only[kS,Option.some.injEq]at h;exact .inl ⟨rfl,h.symm⟩
 |some y=>
  simp only[kS]at h;grind
theorem Rz(a:Bool){k e:Option Operand}{len aq:Nat}{l h:Int}(p:kS T 0 k=some l)(o:kS T len e=some h)(c:0<=l)(m:l<=h)(d:h<=aq)(w:World):
  (Instr.sliceBounds a len aq (k.map (ev T)) (e.map (ev T)) none).run P w= .ok (l.toNat,h.toNat,aq) w:=by
 rcases aag p with⟨rfl,rfl⟩| ⟨x,i,rfl,f⟩ <;> rcases aag o with⟨rfl,rfl⟩| ⟨y,j,rfl,g⟩;rfl;have b:=KU (P:=P) _ j h g aq (if a then .sliceAcap else .sliceAlen) O d w;simp[Instr.sliceBounds,Sem.run,b];have b:=KU (P:=P) _ i l f len .sliceB c m w;simp[Instr.sliceBounds,Sem.run,b];have b:=KU (P:=P) _ j h g aq (if a then .sliceAcap else .sliceAlen) O d w;have n:=KU (P:=P) _ i l f h.toNat .sliceB c O w;simp[Instr.sliceBounds,Sem.run,b,n]
theorem aoq(h:FW P o.op T k)(w:World):∃v,(execOp (ev T) o).run P w= .ok (.value v) w/\k v:=by
 unfold FW at h;have d:∀b a m:Nat,(⟨b,a,none⟩:Addr).add m=⟨b,a+m,none⟩:=by{intro b a m;unfold Addr.add;simp[*]};split at h
 rename_i t x E D f
 split at h
 rename_i y
 split at h
 rename_i s z
 split at h
 rename_i l B q c
 obtain⟨⟨g,i,j⟩,U⟩:=h;have n:=Rz (P:=P) false q c g i j w;refine⟨_, ?_,U⟩;simp[execOp,f,z,Instr.sliceAt,Instr.slice,run_underlying y,n,Sem.run];grind;grind
 rename_i e y
 split at h
 rename_i A b a len aq p z
 split at h
 rename_i l B q c
 obtain⟨⟨g,i,j,C⟩,U⟩:=h;have n:=Rz (P:=P) true q c g i j w;have u:P.cellsOf e=A.size:=by unfold Program.cellsOf;simp[*]
 have r:¬aq=l.toNat:=O;refine⟨_, ?_,U⟩;simp[execOp,f,z,Instr.sliceAt,Instr.slice,run_underlying y,n,run_sizeOf w p,u,r,d,Sem.run];grind;grind;grind;grind
theorem aos(h:OY P o.op T k)(w:World):∃v,(execOp (ev T) o).run P w= .ok (.value v) w/\∀v,k v:=by
 unfold OY at h;split at h
 rename_i t x y u d
 split at h
 rename_i e g len aq r s
 split at h
 rename_i a l p c q b
 obtain⟨⟨i,j,m⟩,U⟩:=h;have n:=Rz (P:=P) true q b i j m w;have f:P.cellsOf e=a.size:=by unfold Program.cellsOf;simp[*]
 refine⟨.slice (if aq=l.toNat then some g else some (g.add (l.toNat*a.size))) (p.toNat-l.toNat) (aq-l.toNat), ?_,U⟩;simp[execOp,d,s,Instr.sliceAt,Instr.slice,run_underlying r,n,run_sizeOf w c,f,Sem.run];grind;grind;grind
end
end
section
structure fm(N:Nat)(I:aX)(w0:World)(ds:List Deferred)(K:Tm->St->Prop)(a:Act)(w:World):Prop where
 h:∃T S J,dS N T a/\a.defers=ds/\aX.le I J/\Sat J S w/\cn w0 w/\K T S
variable{a:Act}{next:Act->World->Prop}{aV:Array Oper}{t:Bool}{Q:Exit->Act->World->Prop}{I:aX}{ds:List Deferred}{kp:List PanicEntry->Tm->St->Prop}{d j:Nat}{o:Oper}{S:St}{T:Tm}{K:Tm->St->Prop}{α:Type}{v:aD}{k:aD->Prop}{w w0:World}
theorem fm.from{N:Nat}{J:aX}{w1:World}(h:fm N J w1 ds K a w)(b:aX.le I J)(k:cn w0 w1):fm N I w0 ds K a w:=by
 obtain⟨T,S,c,d,e,f,g,i,j⟩:=h;exact⟨T,S,c,d,e,aX.le_trans b f,g,k.trans i,j⟩
theorem fm.mono{N:Nat}{b:Tm->St->Prop}(h:fm N I w0 ds K a w)(U:∀T S,K T S->b T S):fm N I w0 ds b a w:=by
 obtain⟨T,S,c,d,e,f,g,i,j⟩:=h;exact⟨T,S,c,d,e,f,g,i,U _ _ j⟩
section
variable{P:Program}{N:Nat}
theorem Br.cases{A B:Prop}(h:Br t A B):(t=true/\A)\/(t=false/\B):=by
 cases t;exact .inr ⟨rfl,h⟩;exact .inl ⟨rfl,h⟩
theorem Wi:∀(s:Sem α)(b:List LH){k c:α->Prop},rd P S s b k->(∀a,k a->c a)->rd P S s b c:=by
 intro s
 induction s with
 |pure a=>intro b k c h U;exact U _ h
 |program f d=>intro b k c h U;exact d P b h U
 |mark m s d=>intro b k c h U;exact d b h U
 |load m a f d=>
  intro b k c h U;cases b with
  |nil=>simp only[rd]at h
  |cons x b=>
   cases x with
   |aS j=>
    simp only[rd]at h⊢;split at h
    all_goals grind
   |ex j sh=>
    simp only[rd]at h⊢;cases sh <;> simp only[jr.ex]at h⊢
    all_goals grind
   |nw j=>simp only[rd]at h
 |_=>intro b k c h U;cases b <;> simp only[rd]at h
theorem anc:∀(s:Sem α)(b:List LH){k:α->Prop},rd P S s b k->∃a,rd P S s b (·=a)/\k a:=by
 intro s
 induction s with
 |pure a=>intro b k h;exact⟨a,rfl,h⟩
 |program f c=>intro b k h;exact c P b h
 |mark m s c=>intro b k h;exact c b h
 |load m a f c=>
  intro b k h;cases b with
  |nil=>simp only[rd]at h
  |cons x b=>
   cases x with
   |aS j=>
    simp only[rd]at h⊢;split at h
    ·have d:=h.2;split at d
     all_goals grind
    grind
   |ex j sh=>
    simp only[rd]at h⊢;cases sh <;> simp only[jr.ex]at h⊢
    all_goals grind
   |nw j=>simp only[rd]at h
 |_=>intro b k h;cases b <;> simp only[rd]at h
theorem aaN{S':St}{k:α->Prop}:∀(s:Sem α)(b:List LH),(∀j,j∈cL b->gt S j=gt S' j)->rd P S s b k->rd P S' s b k:=by
 intro s
 induction s with
 |pure a=>intro b c h;exact h
 |program f d=>intro b c h;exact d P b c h
 |mark m s d=>intro b c h;exact d b c h
 |load m a f d=>
  intro b c h;cases b with
  |nil=>simp only[rd]at h
  |cons x b=>
   cases x with
   |aS j=>
    have e:=c j (by simp[cL]);have g:∀i,i∈cL b->gt S i=gt S' i:=λi l=>c i (by simp[cL,l]);simp only[rd]at h⊢;rw[<-e];split at h
    all_goals grind
   |ex j sh=>
    have e:=c j (by simp[cL]);have g:∀i,i∈cL b->gt S i=gt S' i:=λi l=>c i (by simp[cL,l]);simp only[rd]at h⊢;rw[<-e];cases sh <;> simp only[jr.ex]at h⊢
    all_goals grind
   |nw j=>simp only[rd]at h
 |_=>intro b c h;cases b <;> simp only[rd]at h
def DR(P:Program)(o:Oper)(T:Tm)(w:World)(v:aD):Prop:=
 (execOp (ev T) o).run P w= .ok (.value v) w\/((execOp (ev T) o).run P w= .ok .skip w/\v=undef)
theorem DR.apd{u:aD}(h:DR P o T w u)(a:DR P o T w v):u=v:=by
 rcases h with h| ⟨h,rfl⟩ <;> rcases a with a| ⟨a,rfl⟩
 all_goals grind
theorem IV{h:OH}(f:lC P o h T S k):∃v,lC P o h T S (·=v)/\k v:=by
 unfold lC at f;split at f
 ·rename_i E
  obtain⟨A,q,p⟩:=anc _ _ f;cases A <;> first
   |exact p.elim
   |exact⟨_,Wi _ _ q (λa e=>by subst e;rfl),p⟩
 rename_i C
 obtain⟨l,x,r,j,U⟩:=f;exact⟨_,⟨l,x,r,j,rfl⟩,U⟩;unfold lC;split at f
 rename_i c x y g
 split at f
 rename_i t j
 simp only[g,j];rcases Br.cases f with⟨rfl,U⟩| ⟨rfl,U⟩;exact⟨_,(rfl:_=_),U⟩;exact⟨_,(rfl:_=_),U⟩;grind;grind
 ·unfold lC D0 at*;split at f
  ·rename_i x y _ g
   split at f
   all_goals grind
  ·rename_i x y _ g
   split at f
   all_goals grind
  ·rename_i x y _ g
   split at f
   all_goals grind
  ·rename_i x y _ g
   split at f
   all_goals grind
  ·rename_i x y _ g
   split at f
   all_goals grind
  ·rename_i s d x g
   split at f
   all_goals grind
  grind
 ·unfold lC Eg at*;split at f
  ·rename_i t x i g
   split at f
   ·rename_i e n
    split at f
    all_goals grind
   ·rename_i m e n
    split at f
    all_goals grind
   grind
  grind
 ·unfold lC FU at*;split at f
  ·rename_i t x i g
   split at f
   all_goals grind
  grind
 ·unfold lC FW at*;split at f
  ·rename_i t x F D g
   split at f
   ·rename_i n
    split at f
    ·rename_i s w
     split at f
     all_goals grind
    grind
   ·rename_i e n
    split at f
    ·rename_i z b B len aq u w
     split at f
     all_goals grind
    grind
   grind
  grind
 grind
theorem Wd{h:OH}{b:aD->Prop}(a:lC P o h T S k)(U:∀v,k v->b v):lC P o h T S b:=by
 unfold lC at*;split at a;refine Wi _ _ a λf h=>?_;grind;grind;split at a
 rename_i c x y d
 split at a
 rename_i t e
 rcases Br.cases a with⟨rfl,h⟩| ⟨rfl,h⟩;exact U _ h;exact U _ h;omega;omega
 ·unfold D0 at*;split at a <;> first
   |exact a.elim
   | (split at a <;> first
     |exact a.elim
     |exact⟨a.1,U _ a.2⟩
     | (split at a <;> first
       |exact a.elim
       |exact⟨a.1,a.2.1,U _ a.2.2⟩
       |exact⟨a.1,U _ a.2⟩))
 ·unfold Eg at*;split at a
  ·split at a
   all_goals grind
  omega
 ·unfold FU at*;split at a
  all_goals grind
 ·unfold FW at*;split at a
  ·split at a
   ·split at a
    all_goals grind
   ·split at a
    all_goals grind
   omega
  omega
 omega
theorem OK{h:OH}(b:lC P o h T S k)(hs:Sat I S w):∃v,DR P o T w v/\k v:=by
 unfold lC at b;split at b
 ·obtain⟨i,a,U⟩:=x_ hs _ _ _ b;cases i <;> first
   |exact U.elim
   |exact⟨_,.inl a,U⟩
   |exact⟨_,.inr ⟨a,rfl⟩,U⟩
 obtain⟨e,x,g,d,U⟩:=b;exact⟨_,.inl (e.h x w (ev T) g d),U⟩;split at b
 rename_i c x y f
 split at b
 rename_i t d
 have a:(execOp (ev T) o).run P w= .ok (.value (if t then ev T x else ev T y)) w:=by{simp[execOp,f,d,asBool,Sem.run]};rcases Br.cases b with⟨rfl,U⟩| ⟨rfl,U⟩;exact⟨_,.inl a,U⟩;exact⟨_,.inl a,U⟩;grind;grind;obtain⟨v,a,U⟩:=afZ b w;exact⟨v,.inl a,U⟩;obtain⟨v,a,U⟩:=aiE b w;exact⟨v,.inl a,U⟩;obtain⟨v,a,U⟩:=aol b w;exact⟨v,.inl a,U⟩;obtain⟨v,a,U⟩:=aoq b w;exact⟨v,.inl a,U⟩;grind
theorem DR.upon(h:DR P o T w v)(hn:next (a.put o.dst v) w):
  o.upon P a next Q ((execOp (ev T) o).run P w):=by
 rcases h with h| ⟨h,rfl⟩;rw[h];exact hn;rw[h];exact hn
theorem amN:∀(s:Sem α){a:α}(w:World),EF P s=some a->s.run P w= .ok a w:=by
 intro s
 induction s with
 |pure a=>intro b w h;simp only[EF,Option.some.injEq]at h;subst h;rfl
 |program f c=>intro b w h;exact c P w h
 |mark m s c=>intro b w h;exact c w h
 |_=>intro b w h;simp[EF]at h
theorem ae0:∀(s:Sem α){a:Obj}{f:Nat->Sem α}(w:World),Bk P s=some (a,f)->s.run P w=(f w.heap.size).run P {w with heap:=w.heap.push a}:=by
 intro s
 induction s with
 |new o g b=>intro a f w h;simp only[Bk,Option.some.injEq,Prod.mk.injEq]at h;obtain⟨rfl,rfl⟩:=h;rfl
 |program f b=>intro a g w h;exact b P w h
 |mark m s b=>intro a g w h;exact b w h
 |_=>intro a g w h;simp[Bk]at h
theorem LX{h:OH}{k:Tm->St->Prop}
  (i:oP P N o h T S k kp) (c:dS N T a) (H:a.defers=ds) (hs:Sat I S w)
  (d:∀r l,fm N I w ds k r l->next r l) (F:∀A r l,fm N I w ds (kp A) r l->Q (.panic A) r l):o.wp P a w next Q:=by
 unfold Oper.wp;rw[c.eval];unfold oP at i;split at i;exact i.no.elim;have z:=apQ _ _ _ _ _ _ hs i;cases b:(execOp (ev T) o).run P w with
 |ok O l=>
  rw[b]at z;cases z with
  |ok _ _ p g m U=>
   split at U;exact d _ _ ⟨_,p,I,c.put _ _,by simp[*],aX.le_refl I,g,m,U⟩;exact d _ _ ⟨_,p,I,c.put _ _,by simp[*],aX.le_refl I,g,m,U⟩;grind
 |halt x l=>
  rw[b]at z;cases z with
  |panic v _ p g m U=>exact F _ _ _ ⟨_,p,I,c,H,aX.le_refl I,g,m,U⟩
 rename_i j _
 split at i
 rename_i R f B
 have G:=i w.heap.size;split at G
 rename_i v u
 rw[ae0 _ w B,amN _ _ u];exact d _ _ ⟨_,_,I,c.put _ _,by simp[*],aX.le_refl I,hs.new j R,Y,G⟩;grind;grind;obtain⟨O,b,U⟩:=x_ hs _ _ _ i;rw[b];split at U
 rename_i f args
 obtain⟨q,C,M⟩:=U;rw[Oper.upon_enter];refine(apl q (by grind) hs M).mono ?_;rintro e l ⟨J,p,n,g,m,U⟩;cases e with
 |returned v=>exact d _ _ ⟨_,p,J,c.put _ _,by simp[*],n,g,m,U⟩
 |panicked A=>exact F _ _ _ ⟨_,p,J,c,H,n,g,m,U⟩
 |outgrown=>exact U.elim
 grind
 ·obtain⟨q,C,x,K,hp,L,D,U⟩:=i;simp only[iP]at C;have t:=hs.part (LS C.1);rw[hp]at t;obtain⟨y,J,l,v,E,b,u,n,g,m⟩:=q.h x _ I w (ev T) K L D t;have:=KN.1 U y E;rw[u]at this;have s:next (a.put o.dst v) l:=d _ _ ⟨_,_,J,c.put _ _,by simp[*],n,g.join (out:=_),m,this⟩
  rcases b with b| ⟨b,rfl⟩;rw[b];exact s;rw[b];exact s
 obtain⟨v,b,U⟩:=aos i w;rw[b];exact d _ _ ⟨_,S,I,c.put _ _,by simp[*],aX.le_refl I,hs,cn.refl w,U v⟩;obtain⟨v,u,U⟩:=OK i hs;exact u.upon (d _ _ ⟨_,S,I,c.put _ _,by simp[*],aX.le_refl I,hs,cn.refl w,U⟩)
theorem dS.again(h:dS N T a)(d:Nat)(e:T.aS d=v):dS N (dH N (some d) v T) a:=by
 refine h.same λi=>?_;rw[EG];grind
theorem apZ(h:dS N T a)(c:(aV[j]?).bind (·.dst)=some d)(e:T.aS d= .bool t):yielded aV a.tmps j=some t:=by
 unfold yielded;rw[c];have b:=h.get d;rw[e,pv]at b;cases f:a.tmps[d]? with
 |none=>rw[f]at b;simp[undef]at b
 |some x=>
  grind
theorem ap0(h:dS N T a)(c:(aV[j]?).bind (·.dst)=some d){f:Array aD}(e:T.aS d= .tuple f):yielded aV a.tmps j=none:=by
 unfold yielded;rw[c];have b:=h.get d;rw[e,pv]at b;grind
theorem aad{h:OH}{k:Tm->St->Prop}
  (g:oQ P N aV o h T S k kp) (e:dS N T a) (r:a.defers=ds) (hs:Sat I S w)
  (b:∀l n,fm N I w ds k l n->next l n) (q:∀s l n,fm N I w ds (kp s) l n->Q (.panic s) l n):
  if Region.wanted o (yielded aV a.tmps) then o.wp P a w next Q\/(o.asks P a w/\LetsOut Q) else next (a.put o.dst undef) w:=by
 unfold oQ at g;split at g
 rename_i p
 have:Region.wanted o (yielded aV a.tmps)=true:=by unfold Region.wanted;rw[p]
 rw[if_pos this];exact .inl (LX g e r hs b q)
 rename_i j f p
 split at g;grind
 rename_i d u
 split at g
 rename_i t m
 have v:=apZ e u m;have i:Region.wanted o (yielded aV a.tmps)=(t==f):=by{unfold Region.wanted;rw[p];simp only[v];cases t <;> cases f <;> rfl};rcases Br.cases g with⟨rfl,U⟩| ⟨rfl,U⟩;have c:=e.again d m;cases f;rw[i];simp only[Bool.true_beq,Bool.false_eq_true,if_false];exact b _ _ ⟨_,S,I,c.put _ _,by simp[*],aX.le_refl I,hs,cn.refl w,U⟩;rw[i];exact .inl (LX U c r hs b q);have c:=e.again d m;cases f;rw[i];exact .inl (LX U c r hs b q);rw[i];simp only[Bool.false_beq,Bool.not_true,Bool.false_eq_true,if_false];exact b _ _ ⟨_,S,I,c.put _ _,by simp[*],aX.le_refl I,hs,cn.refl w,U⟩
 rename_i x m
 have i:Region.wanted o (yielded aV a.tmps)=false:=by{unfold Region.wanted;rw[p];simp only[ap0 e u m];rfl};rw[i];simp only[Bool.false_eq_true,if_false];exact b _ _ ⟨_,S,I,e.put _ _,by simp[*],aX.le_refl I,hs,cn.refl w,g⟩;grind
theorem Wj{H:Nat->OH}:∀(l:a_){T:Tm}{S:St}{k:Tm->St->Prop}{kp:List PanicEntry->Tm->St->Prop}{a:Act}{I:aX}{w:World},
  rg P N H aV l T S k kp->dS N T a->a.defers=ds->Sat I S w->(∀c d,fm N I w ds k c d->Q .normal c d)->(∀g c d,fm N I w ds (kp g) c d->Q (.panic g) c d)->
  wpOps P aV Q l a w:=by
 intro l
 induction l with
 |nil=>
  intro T S k kp a I w f b j m U _;exact U _ _ ⟨T,S,I,b,j,aX.le_refl I,m,cn.refl w,f⟩
 |cons i rest v=>
  intro T S k kp a I w f b j m U q;simp only[rg]at f;simp only[wpOps];split at f;grind
  ·rename_i o z
   have:=aad (next:=wpOps P aV Q rest) (Q:=Q) f b j m (λc d e=>by
    obtain⟨y,x,J,r,s,n,t,p,u⟩:=e;exact v u r s t (λa w h=>U a w (h.from n p)) (λg a w h=>q g a w (h.from n p))) q
   simp[*]
end
end
section
section
variable{P:Program}{N:Nat}
variable{aV:Array Oper}{a b fe:a_}{kp:List PanicEntry->Tm->St->Prop}{j:Nat}{h:OH}{o y:Oper}{x:Option Tmp}{S S':St}{φ:St->St}{T T':Tm}{k:Tm->St->Prop}{α:Type}
theorem aby(h:∀i,T.aS i=T'.aS i):T=T':=funext h
theorem amO{d:Nat}{v:aD}(e:T.aS d=v):dH N (some d) v T=T:=by
 refine aby λi=>?_;rw[EG];grind
theorem SU{y:Option Tmp}(h:∀d,x=some d->y≠some d)(u v:aD)(T:Tm):dH N x u (dH N y v T)=dH N y v (dH N x u T):=by
 cases x with
 |none=>rfl
 |some d=>
  cases y with
  |none=>rfl
  |some e=>
   refine aby λi=>?_;simp only[EG];grind
theorem aaG{t:Nat}(h:x≠some t)(v:aD)(T:Tm):(dH N x v T).aS t=T.aS t:=by
 cases x with
 |none=>rfl
 |some d=>
  rw[EG];grind
def qA(aV:Array Oper)(o:Oper)(T T':Tm):Prop:=∀t,t∈o.looksAt aV->T.aS t=T'.aS t
theorem qA.put{x:Oper}(h:x.apart aV y=true)(v:aD)(T:Tm):qA aV y T (dH N x.dst v T):=by
 intro t a;exact(aaG (λe=>(Oper.apart_spec h).1 t e a) v T).symm
theorem AR{x:Oper}(h:x.apart aV y=true)(v:aD)(T:Tm):qA aV x T (dH N y.dst v T):=by
 intro t a;exact(aaG (λe=>(Oper.apart_spec h).2.2 t e a) v T).symm
theorem qA.D5(h:qA aV o T T'):∀x,x∈o.op.operands->ev T x=ev T' x:=by
 intro x a;cases x with
 |tmp t=>
  refine h t ?_;refine ra _ (List.mem_filterMap.2 ⟨.tmp t,Array.mem_toList_iff.2 a,rfl⟩)
 |const v=>rfl
 |global g=>rfl
 |func f=>rfl
theorem SC(h:vv o=false):∀a b,o.op≠.select a b:=by
 intro a b e;simp[vv,e]at h
def gd(aV:Array Oper)(o:Oper)(T:Tm):Option Bool:=
 match o.guard with
 |none=>some true
 |some (j,a)=>match (aV[j]?).bind (·.dst)with
  |none=>none
  |some d=>match T.aS d with
   | .bool t=>some (t==a)
   | .tuple _=>some false
   |_=>none
theorem sC(h:qA aV o T T'):gd aV o T=gd aV o T':=by
 unfold gd;cases c:o.guard with
 |none=>rfl
 |some p=>
  obtain⟨j,a⟩:=p;simp only;cases b:(aV[j]?).bind (·.dst)with
  |none=>rfl
  |some d=>
   have:T.aS d=T'.aS d:=by{refine h d ?_;unfold Oper.looksAt;simp[*]};simp[*]
theorem pF:
  oQ P N aV o h T S k kp↔(match gd aV o T with|some true=>oP P N o h T S k kp|some false=>k (dH N o.dst undef T) S|none=>False):=by
 unfold oQ gd;cases e:o.guard with
 |none=>exact Iff.rfl
 |some p=>
  obtain⟨j,a⟩:=p;simp only;cases c:(aV[j]?).bind (·.dst)with
  |none=>exact Iff.rfl
  |some d=>
   simp only;cases b:T.aS d with
   |bool t=>
    cases t <;> cases a <;> simp[Br,amO b]
   |_=>exact Iff.rfl
theorem LY{x:Option Operand}{d:Int}(h:∀y,x=some y->ev T y=ev T' y):kS T d x=kS T' d x:=by
 cases x with
 |none=>rfl
 |some y=>simp only[kS,h y rfl]
theorem OJ{k:aD->Prop}(l:vv o=false)(b:∀x,x∈o.op.operands->ev T x=ev T' x)
    (u:∀j,j∈n8 (gS h)->gt S j=gt S' j) (e:lC P o h T S k):lC P o h T' S' k:=by
  have gm:execOp (ev T) o=execOp (ev T') o:=execOp_congr o (SC l) b;have q:o.op.operands.toList.map (ev T)=o.op.operands.toList.map (ev T'):=List.map_congr_left λx f=>b x (Array.mem_toList_iff.1 f);unfold lC at*;split at e
  rename_i z
  rw[<-gm];exact aaN _ _ (λj v=>u j (by simpa[gS,n8]using v)) e;grind;split at e
  rename_i c x y a
  have w:=b c (by simp[a,Op.operands]);have f:=b x (by simp[a,Op.operands]);have g:=b y (by simp[a,Op.operands]);grind;omega
  · simp only[D0]at e⊢
    split at e <;> first
      |exact e.elim
      | (rename_i x y _ a
         have f:=b x (by simp[a,Op.operands]);have g:=b y (by simp[a,Op.operands]);simp only[a,<-f,<-g];exact e)
      | (rename_i s d x a
         have f:=b x (by simp[a,Op.operands]);simp only[a,<-f];exact e)
  simp only[Eg]at e⊢;split at e
  rename_i t x i a
  have f:=b x (by simp[a,Op.operands]);have m:=b i (by simp[a,Op.operands]);grind;omega;simp only[FU]at e⊢;split at e
  rename_i t x i a
  have f:=b x (by simp[a,Op.operands]);have m:=b i (by simp[a,Op.operands]);grind;omega;simp only[FW]at e⊢;split at e
  rename_i t x r m a
  have f:=b x (by simp[a,Op.operands]);have p:∀d,kS T d r=kS T' d r:=λd=>LY λy g=>b y (by subst g;simp[a,Op.operands]);have n:∀d,kS T d m=kS T' d m:=λd=>LY λy g=>b y (by subst g;simp[a,Op.operands]);simp only[a,<-f,<-p,<-n];exact e;omega;omega
def e7(S S':St)(fe:a_):Prop:=∀j,j∉fe->gt S' j=gt S j
theorem e7.refl(S:St)(fe:a_):e7 S S fe:=λ_ _=>rfl
theorem e7.pQ(h:j∈fe)(A:ag):e7 S (gC S j A) fe:=by
 intro i a;rw[vq];grind
theorem e7.trans{a b:St}(h:e7 S a fe)(d:e7 a b fe):e7 S b fe:=λj c=>(d j c).trans (h j c)
theorem e7.mono(h:e7 S S' a)(c:∀j,j∈a->j∈b):e7 S S' b:=λj e=>h j λd=>e (c j d)
structure Fr(φ:St->St)(fe:a_):Prop where
 get:∀S j,j∈fe->gt (φ S) j=gt S j
 yU:∀S j A,j∈fe->φ (gC S j A)=gC (φ S) j A
theorem Fr.id(fe:a_):Fr (λS=>S) fe:=⟨λ_ _ _=>rfl,λ_ _ _ _=>rfl⟩
theorem Fr.pQ(h:j∉fe)(A:ag):Fr (λS=>gC S j A) fe:=by
 refine⟨λS i a=>?_,λS i B a=>?_⟩;rw[vq];grind;have:j≠i:=λe=>h (e▸a);exact ais this A B S
theorem Fr.mono(h:Fr φ b)(c:∀j,j∈a->j∈b):Fr φ a:=⟨λS j d=>h.get S j (c j d),λS j A d=>h.yU S j A (c j d)⟩
theorem ang{hs:List LH}{s:Sem α}{k c:α->Prop}(b:Fr φ (cL hs))(e:rd P S s hs k)(U:∀a,k a->c a):rd P (φ S) s hs c:=
 Wi _ _ (aaN _ _ (λj d=>(b.get S j d).symm) e) U
theorem apR:∀(s:Sem α)(d:List LH){S:St}{k t:α->St->Prop}{kp n:aD->St->Prop},Fr φ (cL d)->wr P s d S k kp->
  (∀a S',e7 S S' (cL d)->k a S'->t a (φ S'))->(∀v S',kp v S'->n v (φ S'))->wr P s d (φ S) t n:=by
 intro s
 induction s with
 |pure a=>intro d S k t kp n c h U _;exact U _ _ (e7.refl _ _) h
 |program f q=>intro d S k t kp n c h U hp;exact q P d c h U hp
 |mark m s q=>intro d S k t kp n c h U hp;exact q d c h U hp
 |halt x=>
  intro d S k t kp n c h U hp;cases x with
  |panic v=>exact hp _ _ h
  |_=>cases d <;> simp only[wr]at h
 |load m a f q=>
  intro d S k t kp n c h U hp;cases d with
  |nil=>simp only[wr]at h
  |cons x d=>
   cases x with
   |aS j=>
    have g:=c.mono (a:=cL d) (by intro i l;simp[cL,l]);have y:∀S',e7 S S' (cL d)->e7 S S' (cL (.aS j::d)):=λS' p=>p.mono (by intro i l;simp[cL,l]);have e:=c.get S j (by simp[cL]);simp only[wr]at h⊢;rw[e];split at h
    ·
     refine⟨h.1, ?_⟩;have w:=h.2;split at w
     all_goals grind
    omega
   |ex j sh=>
    have g:=c.mono (a:=cL d) (by intro i l;simp[cL,l]);have y:∀S',e7 S S' (cL d)->e7 S S' (cL (.ex j sh::d)):=λS' p=>p.mono (by intro i l;simp[cL,l]);have e:=c.get S j (by simp[cL]);simp only[wr]at h⊢;cases sh <;> simp only[jr.ex]at h⊢
    all_goals grind
   |nw j=>simp only[wr]at h
 |store m a v s q=>
  intro d S k t kp n c h U hp;cases d with
  |nil=>cases v <;> simp only[wr]at h
  |cons x d=>
   cases x with
   |aS j=>
    have g:=c.mono (a:=cL d) (by intro i l;simp[cL,l]);have e:=c.get S j (by simp[cL]);simp only[wr]at h⊢;rw[e];split at h;refine⟨h.1, ?_⟩;have w:=h.2;split at w;split at w;rw[<-c.yU S j _ (by simp[cL])];exact q d g w (λa S' p u=>U a S' ((e7.pQ (by simp[cL]) _).trans (p.mono (by intro i l;simp[cL,l]))) u) hp;omega;omega;omega
   |ex j sh=>
    have g:=c.mono (a:=cL d) (by intro i l;simp[cL,l]);have e:=c.get S j (by simp[cL]);simp only[wr]at h⊢;rw[e];split at h;refine⟨h.1, ?_⟩;have w:=h.2;split at w;rw[<-c.yU S j _ (by simp[cL])];exact q d g w (λa S' p u=>U a S' ((e7.pQ (by simp[cL]) _).trans (p.mono (by intro i l;simp[cL,l]))) u) hp;omega;omega
   |nw j=>simp only[wr]at h
 |new o f q=>
  intro d S k t kp n c h U hp;cases d with
  |nil=>simp only[wr]at h
  |cons x d=>
   cases x with
   |nw j=>
    have g:=c.mono (a:=cL d) (by intro i l;simp[cL,l]);intro b;rw[<-c.yU S j _ (by simp[cL])];exact q b d g (h b) (λa S' p u=>U a S' ((e7.pQ (by simp[cL]) _).trans (p.mono (by intro i l;simp[cL,l]))) u) hp
   |_=>simp only[wr]at h
 |shape r f q=>
  intro d S k t kp n c h U hp;cases d with
  |nil=>simp only[wr]at h
  |cons x d=>
   cases x with
   |aS j=>
    have g:=c.mono (a:=cL d) (by intro i l;simp[cL,l]);have e:=c.get S j (by simp[cL]);simp only[wr]at h⊢;rw[e];split at h;exact⟨h.1,q _ d g h.2 (λa S' p u=>U a S' (p.mono (by intro i l;simp[cL,l])) u) hp⟩;omega
   |_=>simp only[wr]at h
 |frozen a f q=>
  intro d S k t kp n c h U hp;cases d with
  |nil=>simp only[wr]at h
  |cons x d=>
   cases x with
   |aS j=>
    have g:=c.mono (a:=cL d) (by intro i l;simp[cL,l]);have e:=c.get S j (by simp[cL]);simp only[wr]at h⊢;rw[e];split at h;exact⟨h.1,q _ d g h.2 (λa S' p u=>U a S' (p.mono (by intro i l;simp[cL,l])) u) hp⟩;omega
   |_=>simp only[wr]at h
 |getObj r f q=>
  intro d S k t kp n c h U hp;cases d with
  |nil=>simp only[wr]at h
  |cons x d=>
   cases x with
   |aS j=>
    have g:=c.mono (a:=cL d) (by intro i l;simp[cL,l]);have e:=c.get S j (by simp[cL]);simp only[wr]at h⊢;rw[e];split at h;omega;exact⟨h.1,q _ d g h.2 (λa S' p u=>U a S' (p.mono (by intro i l;simp[cL,l])) u) hp⟩;omega
   |_=>simp only[wr]at h
 |setObj r z s q=>
  intro d S k t kp n c h U hp;cases d with
  |nil=>simp only[wr]at h
  |cons x d=>
   cases x with
   |aS j=>
    have g:=c.mono (a:=cL d) (by intro i l;simp[cL,l]);have e:=c.get S j (by simp[cL]);simp only[wr]at h⊢;rw[e];split at h;omega;refine⟨h.1, ?_⟩;rw[<-c.yU S j _ (by simp[cL])];exact q d g h.2 (λa S' p u=>U a S' ((e7.pQ (by simp[cL]) _).trans (p.mono (by intro i l;simp[cL,l]))) u) hp;omega
   |_=>simp only[wr]at h
 |_=>intro d S k t kp n c h;cases d <;> simp only[wr]at h
theorem af9(a:a_):∀(S:St)(fe:a_),(∀j,j∈a->j∈fe)->e7 S (nJ a S) fe:=by
 induction a with
 |nil=>intro S fe _;exact e7.refl _ _
 |cons j r c=>
  intro S fe h;exact(e7.pQ (h j (kJ ..)) _).trans (c _ fe λi b=>h i (nP _ b))
theorem alC(out:a_):∀(l:List ag)(S:St)(fe:a_),(∀j,j∈out->j∈fe)->e7 S (pG out l S) fe:=by
 induction out with
 |nil=>intro l S fe _;exact e7.refl _ _
 |cons j r b=>
  intro l S fe h;cases l with
  |nil=>exact e7.refl _ _
  |cons A l=>exact(e7.pQ (h j (kJ ..)) _).trans (b l _ fe λi a=>h i (nP _ a))
theorem af8(a:a_):∀(S:St){fe:a_},Fr φ fe->(∀j,j∈a->j∈fe)->nJ a (φ S)=φ (nJ a S):=by
 induction a with
 |nil=>intro S fe _ _;rfl
 |cons j r c=>
  intro S fe b h;show nJ r (gC (φ S) j .d7)=φ (nJ r (gC S j .d7));rw[<-b.yU S j _ (h j (kJ ..))];grind
theorem alB(out:a_):∀(l:List ag)(S:St){fe:a_},Fr φ fe->(∀j,j∈out->j∈fe)->pG out l (φ S)=φ (pG out l S):=by
 induction out with
 |nil=>intro l S fe _ _;cases l <;> rfl
 |cons j r b=>
  intro l S fe a h;cases l with
  |nil=>rfl
  |cons A l=>
   show pG r l (gC (φ S) j A)=φ (pG r l (gC S j A));rw[<-a.yU S j _ (h j (kJ ..))];grind
def pZ(φ:St->St)(S:St):Prop:=∀a,Sub (.cJ (rest S a)) (.cJ (rest (φ S) a))
theorem pZ.id(S:St):pZ (λS=>S) S:=λ_ _ _ o h=>⟨o,h⟩
theorem pZ.pQ(n:gt S j= .d7)(A:ag):pZ (λS=>gC S j A) S:=by
 intro a I h o p;obtain⟨f,k,l,m⟩:=p;refine⟨o,λi b=>i≠j/\f i b,λi=>?_,λi q b d e=>l _ _ _ d.2 e.2,λi b d=>m _ _ d.2⟩;have:=k i;rw[Ll]at this⊢;by_cases g:i∈a;simp only[g,if_true];trivial;simp only[g,if_false]at this⊢;by_cases c:i=j;subst c;rw[n];trivial;rw[vq]at this;simp only[c,if_false]at this;simp[*]
theorem abQ{C:aF}{args:aN}{a out:a_}{k i:aD->St->Prop}{kp g:List PanicEntry->St->Prop}
  (c:Fr φ (a++out)) (q:pZ φ S) (o:Jt C args a out S k kp) (U:∀v S',e7 S S' (a++out)->k v S'->i v (φ S')) (hp:∀h S',kp h S'->g h (φ S')):
  Jt C args a out (φ S) i g:=by
 obtain⟨x,l,d,m,n,r⟩:=o;refine⟨x,l, ?_,m,C.eL x _ _ (q a) n,KN.2 λy f=>?_⟩;rw[<-d];exact List.map_congr_left λj b=>c.get S j (ra _ b);have:=KN.1 r y f;have e:pG out (C.post x y) (nJ a (φ S))=φ (pG out (C.post x y) (nJ a S)):=by{rw[af8 a S c (λj b=>ra _ b),alB out _ _ c (λj b=>List.mem_append_right _ b)]};rw[e];cases p:C.val x y <;> simp only[p]at this⊢;exact U _ _ ((af9 a S _ λj b=>ra _ b).trans (alC out _ _ _ λj b=>List.mem_append_right _ b)) this;simp[*]
theorem aac{R:Tm->St->Prop}{F:List PanicEntry->Tm->St->Prop}(q:vv o=false)
  (A:∀x,x∈o.op.operands->ev T x=ev T' x) (l:Fr φ (wS (gS (hC P o h)))) (Q:pZ φ S) (f:oP P N o h T S k kp)
  (U:∀v S',e7 S S' (jK (gS (hC P o h)))->k (dH N o.dst v T) S'->R (dH N o.dst v T') (φ S')) (hp:∀z S',kp z T S'->F z T' (φ S')):
  oP P N o h T' (φ S) R F:=by
 have gm:execOp (ev T) o=execOp (ev T') o:=execOp_congr o (SC q) A;have D:o.op.operands.toList.map (ev T)=o.op.operands.toList.map (ev T'):=List.map_congr_left λx J=>A x (Array.mem_toList_iff.1 J);unfold oP at*;generalize hg:hC P o h=g at*;cases g with
 |ask r i=>exact f.no.elim
 |w Y=>
  rw[<-gm];refine apR _ Y (by simpa[wS,gS,n8,jK]using l) f (λx S' E m=>?_) (λv S' m=>hp _ _ m);cases x <;> first|exact m.elim|exact U _ _ (by simpa[gS,jK]using E) m
 |n j=>
  simp only at f⊢;rw[<-gm];split at f;intro b;have L:=f b;split at L
  rename_i v O
  have:=U v (gC S j (mkAtom b _)) (by simpa[gS,jK]using e7.pQ X _) L;rw[l.yU S j _ (by simp[wS,gS,jK])]at this;omega;omega;omega
 |c C s out=>
  rw[<-gm];refine ang (hs:=[]) ⟨λ_ _ B=>by simp[cL]at B,λ_ _ _ B=>by simp[cL]at B⟩ f λnx m=>?_;cases nx <;> first
   |exact m.elim
   |exact⟨m.1,m.2.1,abQ (by simpa[wS,gS,n8,jK]using l) Q m.2.2 (λv S' E h=>U v S' (by simpa[gS,jK]using E) h) (λz S' h=>hp z S' h)⟩
 |o C s out=>
  rw[<-D];exact⟨f.1,f.2.1,abQ (by simpa[wS,gS,n8,jK]using l) Q f.2.2 (λv S' E h=>U v S' (by simpa[gS,jK]using E) h) (λz S' h=>hp z S' h)⟩
 |WF=>
  simp only[OY]at f⊢;split at f
  rename_i t x V M p
  have J:=A x (by simp[p,Op.operands]);have I:∀d,kS T d V=kS T' d V:=λd=>LY λy K=>A y (by subst K;simp[p,Op.operands]);have G:∀d,kS T d M=kS T' d M:=λd=>LY λy K=>A y (by subst K;simp[p,Op.operands]);simp only[p,<-J,<-I,<-G];split at f;split at f;exact⟨f.1,λv=>U v S (e7.refl _ _) (f.2 v)⟩;omega;omega;omega
 |_=>
  obtain⟨v,O,H⟩:=IV f;have W:=OJ (S':=φ S) q A (λj B=>(l.get S j (ra _ B)).symm) O;obtain⟨u,Z,e⟩:=IV W;subst e;exact Wd Z (λa e=>by subst e;exact U _ S (e7.refl _ _) H)
end
end
section
section
variable{P:Program}{N:Nat}{H:Nat->OH}{aV:Array Oper}{ms:a_}
variable{a:Act}{Q:Exit->Act->World->Prop}{I:aX}{ds:List Deferred}{R1 R2 gw l:a_}{kp:List PanicEntry->Tm->St->Prop}{i r:Nat}{h:OH}{o:Oper}{S:St}{φ:St->St}{T:Tm}{k:Tm->St->Prop}{w:World}
theorem SG{d:Tm}{j:Tm->St->Prop}{c:List PanicEntry->Tm->St->Prop}(b:vv o=false)
  (i:qA aV o T d) (f:Fr φ (wS (gS (hC P o h)))) (l:pZ φ S) (e:oQ P N aV o h T S k kp)
  (U:∀v a,e7 S a (jK (gS (hC P o h)))->k (dH N o.dst v T) a->j (dH N o.dst v d) (φ a)) (hp:∀g a,kp g T a->c g d (φ a)):
  oQ P N aV o h d (φ S) j c:=by
 rw[pF]at e⊢;rw[<-sC i];split at e;exact aac b i.D5 f l e U hp;exact U _ _ (e7.refl _ _) e;omega
theorem apM{next:Act->World->Prop}(h:o.wp P a w next λ_ _ _=>False):∃d c,next d c:=by
  unfold Oper.wp at h;generalize (execOp a.eval o).run P w=r at h;cases r with
  |ok n c=>
    cases n <;> simp only[Oper.upon]at h <;> first
      |exact h.elim
      |exact⟨_,_,h⟩
      | (obtain⟨e,g,j,b,_⟩:=h []
         cases e with
         |returned v=>exact⟨_,_,b⟩
         |panicked i=>exact b.elim
         |outgrown=>obtain⟨_,_,f⟩:=b;exact f.elim)
      | (obtain⟨v,g,b,_⟩:=h default []
         exact⟨_,_,b⟩)
  |halt x c=>cases x <;> simp only[Oper.upon]at h
theorem akE(i:vv o=false)
  (q:oQ P N aV o h T S k λ_ _ _=>False) (c:dS N T a) (n:a.defers=ds) (hs:Sat I S w):
  ∃v b J d l,e7 S b (jK (gS (hC P o h)))/\dS N (dH N o.dst v T) d/\d.defers=ds/\Sat J b l/\k (dH N o.dst v T) b:=by
 have f:oQ P N aV o h T S (λm b=>∃v,m=dH N o.dst v T/\e7 S b (jK (gS (hC P o h)))/\k m b) (λ_ _ _=>False):=
  SG (φ:=λS=>S) i (λ_ _=>rfl) (Fr.id _) (pZ.id _) q (λv b j U=>⟨v,rfl,j,U⟩) (λ_ _ h=>h)
 rw[pF]at f;split at f;obtain⟨d,l,g⟩:=apM (LX (Q:=λ_ _ _=>False) f c n hs (λd l h=>h) (λr d l h=>by obtain⟨_,_,_,_,_,_,_,_,p⟩:=h;exact p));obtain⟨m,b,J,f,s,t,u,x,v,rfl,j,U⟩:=g;grind;obtain⟨v,e,j,U⟩:=f;exact⟨undef,S,I,a.put o.dst undef,w,j,c.put _ _,by simp[*],hs,U⟩;grind
theorem aba(b:i∈l)(a:(ms.getD i 0).testBit r=false):uH ms r l=false:=by
 unfold uH;grind
abbrev cl(P:Program)(H:Nat->OH)(aV:Array Oper)(i:Nat):AT:=gS (hC P (cQ aV i) (H i))
structure JH(P:Program)(H:Nat->OH)(aV:Array Oper)(ms:a_)(i r:Nat):Prop where
 Yb:(ms.getD i 0).testBit r=false
 apart:(cQ aV i).apart aV (cQ aV r)=true
 pass:B4 (cl P H aV r) (cl P H aV i)=true
 Ww:vv (cQ aV r)=false
theorem I1:
  o5 P N H aV ms (i::l) T S k kp=oQ P N aV (cQ aV i) (H i) T S (λT S=>o5 P N H aV ms l T S k kp) (match uH ms i l with|true=>λa _ S=>∀T,kp a T S|false=>λ_ _ _=>False):=rfl
theorem RK{v:aD}(Good:Tm->St->Prop)
  (f:∀T S K n,Good T S->oQ P N aV (cQ aV i) (H i) T S K n->K (dH N (cQ aV i).dst v T) (φ S)) (c:∀T S,Good T S->pZ φ S):
  ∀(R1:a_){T:Tm}{S:St},(∀r,r∈R1->JH P H aV ms i r/\Fr φ (wS (cl P H aV r))/\∀T S u e,Good T S->e7 S e (jK (cl P H aV r))->Good (dH N (cQ aV r).dst u T) e)->
   Good T S->o5 P N H aV ms (R1++i::R2) T S k kp->o5 P N H aV ms (R1++R2) (dH N (cQ aV i).dst v T) (φ S) k kp:=by
 intro R1
 induction R1 with
 |nil=>
  intro T S _ g b;exact f T S _ _ g b
 |cons r R1 s=>
  intro T S a g b;obtain⟨hp,m,j⟩:=a r (kJ ..);rw[List.cons_append,I1]at b⊢;have l:uH ms r (R1++i::R2)=false:=aba (List.mem_append_right _ (kJ ..)) hp.Yb;rw[l]at b;refine SG hp.Ww (qA.put hp.apart v T) m (c T S g) b (λu e q U=>?_) (λt e p=>p.elim);have h:=j T S u e g q;have:=s (λr b=>a r (nP _ b)) h U;rw[SU (x:=(cQ aV i).dst) (y:=(cQ aV r).dst) (λd o=>(Oper.apart_spec hp.apart).2.1 d o)]at this;omega
theorem anZ:∀(R1:a_){T:Tm}{S:St}{a:Act}{I:aX}{w:World},(∀r,r∈R1->JH P H aV ms i r)->
  (∀r j,r∈R1->j∈n8 (cl P H aV i)->j∉jK (cl P H aV r))->o5 P N H aV ms (R1++i::R2) T S k kp->dS N T a->a.defers=ds->Sat I S w->
  ∃o h K e,oQ P N aV (cQ aV i) (H i) o h K e/\qA aV (cQ aV i) T o/\∀j,j∈n8 (cl P H aV i)->gt h j=gt S j:=by
 intro R1
 induction R1 with
 |nil=>
  intro T S a I w _ _ c _ _ _;exact⟨T,S,_,_,c,λ_ _=>rfl,λ_ _=>rfl⟩
 |cons r R1 C=>
  intro T S a I w b f c g z B;have hp:=b r (kJ ..);rw[List.cons_append,I1]at c;have n:uH ms r (R1++i::R2)=false:=aba (List.mem_append_right _ (kJ ..)) hp.Yb;rw[n]at c;obtain⟨v,h,J,D,E,A,d,l,m,U⟩:=akE hp.Ww c g z B;obtain⟨T2,s,K,e,u,x,y⟩:=C (λr c=>b r (nP _ c)) (λr j c=>f r j (nP _ c)) U d l m;refine⟨T2,s,K,e,u,λt q=>?_,λj p=>?_⟩;exact((AR hp.apart v T) t q).trans (x t q);rw[y j p];exact A j (f r j (kJ ..) p)
theorem SF(b:gS (hC P o h)= .n6 l)(a:oP P N o h T S k kp):
  lC P o (hC P o h) T S λv=>k (dH N o.dst v T) S:=by
 unfold oP at a;generalize hC P o h=g at*;cases g <;> first
  |exact a
  |exact a.no.elim
  |cases b
theorem aaJ(b:gS (hC P o h)= .n6 l)(a:lC P o (hC P o h) T S λv=>k (dH N o.dst v T) S):
  oP P N o h T S k kp:=by
 unfold oP;generalize hC P o h=g at*;cases g <;> first
  |exact a
  |exact a.elim
  |cases b
theorem wZ{a b:a_}(h:Bw a b=true):∀i,i∈a->i∉b:=by
 intro i d c;have:=List.all_eq_true.1 (List.all_eq_true.1 h i d) i c;simp at this
theorem move
  (F:vv (cQ aV i)=false) (c:∀r,r∈R1->JH P H aV ms i r) (D:∀j,cl P H aV i= .new j->gt S j= .d7)
  (m:o5 P N H aV ms (R1++i::R2) T S k kp) (V:dS N T a) (hd:a.defers=ds) (hs:Sat I S w):
  oQ P N aV (cQ aV i) (H i) T S (λT S=>o5 P N H aV ms (R1++R2) T S k kp) (match uH ms i R2 with|true=>λch _ S=>∀T,kp ch T S|false=>λ_ _ _=>False):=by
 have gm:∀{T W},qA aV (cQ aV i) T W->execOp (ev T) (cQ aV i)=execOp (ev W) (cQ aV i):=λh=>execOp_congr _ (SC F) h.D5;rw[pF];have p:=λ(x5:∀r j,r∈R1->j∈n8 (cl P H aV i)->j∉jK (cl P H aV r))=>anZ (ds:=ds) R1 c x5 m V hd hs;cases n:gd aV (cQ aV i) T with
 |none=>
  exfalso;cases s:cl P H aV i with
  |n6 l=>
   obtain⟨W,t,K,C,q,G,_⟩:=p (λr j m o=>by
    have hp:=(c r m).pass;rw[s]at hp o;revert hp;cases A:cl P H aV r <;> intro hp <;> simp only[B4]at hp <;> simp only[jK];simp;exact wZ hp j o;exact wZ hp j o)
   rw[pF,<-sC G,n]at q;exact q
  |new l=>
   obtain⟨W,t,K,C,q,G,_⟩:=p (λr j m o=>by rw[s]at o;simp[n8]at o);rw[pF,<-sC G,n]at q;exact q
  |qY l=>
   obtain⟨W,t,K,C,q,G,_⟩:=p (λr j m o=>by rw[s]at o;simp[n8]at o);rw[pF,<-sC G,n]at q;exact q
 |some x1=>
  cases x1 with
  |false=>
   refine RK (φ:=λS=>S) (λT _=>gd aV (cQ aV i) T=some false) (λT S K C n h=>?_) (λ_ _ _=>pZ.id _) R1 (λr m=>⟨c r m,Fr.id _,λT S u t n _=>?_⟩) n m;rw[pF,n]at h;exact h;rw[<-sC (AR (c r m).apart u T)];exact n
  |true=>
   simp only;cases s:cl P H aV i with
   |n6 l=>
    have R:∀r j,r∈R1->j∈n8 (cl P H aV i)->j∉jK (cl P H aV r):=λr j m o=>by{have hp:=(c r m).pass;rw[s]at hp o;revert hp;cases A:cl P H aV r <;> intro hp <;> simp only[B4]at hp <;> simp only[jK];simp;exact wZ hp j o;exact wZ hp j o};have x8:∀j,j∈n8 (gS (hC P (cQ aV i) (H i)))->j∈n8 (cl P H aV i):=λj o=>o;obtain⟨W,t,K,C,q,G,h3⟩:=p R;rw[pF,<-sC G,n]at q;obtain⟨v,hv,_⟩:=IV (SF s q);have L:lC P (cQ aV i) (hC P (cQ aV i) (H i)) T S (·=v):=OJ F (λx Z=>(G.D5 x Z).symm) (λj o=>h3 j o) hv;obtain⟨u,hu,_⟩:=OK L hs;refine aaJ s (Wd L λx e=>?_);subst e;refine RK (φ:=λS=>S) (λT S=>gd aV (cQ aV i) T=some true/\∀v',lC P (cQ aV i) (hC P (cQ aV i) (H i)) T S (·=v')->v'=x) (λT S K C n h=>?_) (λ_ _ _=>pZ.id _) R1
     (λr m=>⟨c r m,Fr.id _,λT S u t n Q=>⟨?_,λv' L=>?_⟩⟩) ⟨n,λv' x7=>?_⟩ m
    rw[pF,n.1]at h;obtain⟨y,hy,U⟩:=IV (SF s h);rw[n.2 y hy]at U;exact U;rw[<-sC (AR (c r m).apart u T)];exact n.1;exact n.2 v' (OJ F (λx Z=>((AR (c r m).apart u T).D5 x Z).symm) (λj o=>Q j (R r j m o)) L);obtain⟨y,hy,e⟩:=OK x7 hs;obtain⟨z,hz,e2⟩:=OK L hs;rw[<-e,<-e2];exact hy.apd hz
   |new j=>
    obtain⟨W,t,K,C,q,G,_⟩:=p (λr j m o=>by rw[s]at o;simp[n8]at o);rw[pF,<-sC G,n]at q;have E:∃M,hC P (cQ aV i) (H i)= .n M/\M=j:=by{revert s;show gS (hC P (cQ aV i) (H i))= .new j->_;generalize hC P (cQ aV i) (H i)=g;intro s;cases g <;> simp only[gS]at s <;> first|exact⟨_,rfl,by simpa using s⟩|cases s};obtain⟨M,E,rfl⟩:=E;unfold oP at q⊢;rw[E]at q⊢;simp only at q⊢;rw[<-gm G]at q;split at q
    rename_i ob f x3
    intro b;have hb:=q b;split at hb
    rename_i v hv
    refine RK (φ:=λS=>gC S M (mkAtom b ob)) (λT S=>gd aV (cQ aV i) T=some true/\Bk P (execOp (ev T) (cQ aV i))=some (ob,f)/\gt S M= .d7) (λT S K C n h=>?_) (λ_ _ n=>pZ.pQ n.2.2 _) R1
     (λr m=>⟨c r m,Fr.pQ (λB=>?_) _,λT S u t n Q=>⟨?_, ?_, ?_⟩⟩) ⟨n,x3,D M s⟩ m
    rw[pF,n.1]at h;unfold oP at h;rw[E]at h;simp only[n.2.1]at h;have:=h b;rw[hv]at this;exact this;have hp:=(c r m).pass;rw[s]at hp;revert hp B;cases A:cl P H aV r <;> intro B hp <;> simp only[B4]at hp <;> simp only[wS,n8,jK,dQ,List.nil_append]at B;exact wZ hp M B X;simp only[List.mem_singleton]at B;subst B;simp at hp;exact wZ hp M X B;rw[<-sC (AR (c r m).apart u T)];exact n.1;rw[<-gm (AR (c r m).apart u T)];exact n.2.1;rw[Q M (λB=>?_)];exact n.2.2;have hp:=(c r m).pass;rw[s]at hp;revert hp B;cases A:cl P H aV r <;> intro B hp <;> simp only[B4]at hp <;> simp only[jK]at B;simp at B;simp only[List.mem_singleton]at B;subst B;simp at hp;exact wZ hp M X B;exact hb.elim;exact q.elim
   |qY x0=>
    have hq:∀r,r∈R1->∃l,cl P H aV r= .n6 l/\∀j,j∈l->j∉x0:=λr m=>by
     have hp:=(c r m).pass;rw[s]at hp;cases A:cl P H aV r with
     |n6 l=>rw[A]at hp;exact⟨l,rfl,λj o=>wZ hp j o⟩
     |new j=>rw[A]at hp;cases hp
     |qY l=>rw[A]at hp;cases hp
    clear p D V hs hd
    induction R1 generalizing T S with
    |nil=>
     have x2:oQ P N aV (cQ aV i) (H i) T S _ _:=m;rw[pF,n]at x2;exact x2
    |cons r R1 ih=>
     have hp:=c r (kJ ..);obtain⟨l,hl,x4⟩:=hq r (kJ ..);rw[List.cons_append,I1]at m;have step:∀u,o5 P N H aV ms (R1++i::R2) (dH N (cQ aV r).dst u T) S k kp->
       (∀v t,e7 S t x0->o5 P N H aV ms (R1++R2) (dH N (cQ aV i).dst v (dH N (cQ aV r).dst u T)) t k kp->o5 P N H aV ms (r::(R1++R2)) (dH N (cQ aV i).dst v T) t k kp)->
       oP P N (cQ aV i) (H i) T S (λT S=>o5 P N H aV ms (r::(R1++R2)) T S k kp) (match uH ms i R2 with|true=>λch _ S=>∀T,kp ch T S|false=>λ_ _ _=>False):=by
      intro u U Y;have ha:=AR (N:=N) hp.apart u T;have:=ih (T:=dH N (cQ aV r).dst u T) (S:=S) (λr m=>c r (nP _ m)) U (by rw[<-sC ha];exact n) (λr m=>hq r (nP _ m));refine aac (φ:=λS=>S) F (λx Z=>(ha.D5 x Z).symm) (Fr.id _) (pZ.id _) this (λv t Q O=>Y v t (Q.mono λj o=>?_) O) (λch t O=>?_);have:jK (cl P H aV i)=x0:=by rw[s];rfl
      rw[<-this];exact o;revert O;cases uH ms i R2 <;> exact λh=>h
     rw[pF]at m;cases J:gd aV (cQ aV r) T with
     |none=>rw[J]at m;exact m.elim
     |some x1=>
      cases x1 with
      |false=>
       rw[J]at m;refine step undef m λv t Q O=>?_;rw[I1,pF,<-sC (qA.put hp.apart v T),J];rw[SU (x:=(cQ aV i).dst) (y:=(cQ aV r).dst) (λd hd=>(Oper.apart_spec hp.apart).2.1 d hd)]at O;exact O
      |true=>
       rw[J]at m;obtain⟨u,hu,U⟩:=IV (SF hl m);refine step u U λv t Q O=>?_;rw[I1,pF,<-sC (qA.put hp.apart v T),J];refine aaJ hl ?_;have x6:n8 (gS (hC P (cQ aV r) (H r)))=l:=by{have:gS (hC P (cQ aV r) (H r))= .n6 l:=hl;rw[this];rfl};refine Wd (OJ hp.Ww (λx Z=>(qA.put hp.apart v T).D5 x Z) (λj o=>?_) hu) (λx e=>?_);rw[x6]at o;exact(Q j (x4 j o)).symm;subst e;rw[SU (x:=(cQ aV i).dst) (y:=(cQ aV r).dst) (λd hd=>(Oper.apart_spec hp.apart).2.1 d hd)]at O;exact O
theorem ahL:∀(a:List Edge),(a.foldr (λe s=>bif Region.binds .any e then (2^e.on|||gw.getD e.on 0)|||s else s) 0).testBit r=true->
  ∃e,e∈a/\Region.binds .any e=true/\(e.on=r\/(gw.getD e.on 0).testBit r=true):=by
 intro a
 induction a with
 |nil=>intro h;simp at h
 |cons e a b=>
  intro h;grind
theorem ajK:∀(a:List Edge){e:Edge},e∈a->Region.binds .any e=true->(a.foldr (λe s=>bif Region.binds .any e then (2^e.on|||gw.getD e.on 0)|||s else s) 0).testBit e.on=true:=by
 intro a
 induction a with
 |nil=>intro e h;cases h
 |cons x a c=>
  intro e h b;grind
def W9(aV:Array Oper)(a:Array Bool):Prop:=∀i o,aV[i]?=some o->a.getD i false=true->∀e,e∈o.after.toList->Region.binds .any e=true->a.getD e.on false=true
theorem ajL(a:Array Bool)(C:W9 aV a):∀(l:List Oper)(gw:a_),(∀j,l[j]?=aV[gw.length+j]?)->
  (∀i,i<gw.length->∀o,aV[i]?=some o->(∀e,e∈o.after.toList->Region.binds .any e=true->a.getD e.on false=true)->∀r,(gw.getD i 0).testBit r=true->a.getD r false=true)->
  ∀i o,aV[i]?=some o->(∀e,e∈o.after.toList->Region.binds .any e=true->a.getD e.on false=true)->∀r,((lU l gw).getD i 0).testBit r=true->i<gw.length+l.length->a.getD r false=true:=by
 intro l
 induction l with
 |nil=>
  intro gw _ b i o t c r w D;exact b i O o t c r w
 |cons o l F=>
  intro gw y b i G t c r w D;refine F (gw++[Sv o gw]) (λj=>?_) (λx E H f d z g=>?_) i G t c r w (by grind);have:=y (j+1);grind;by_cases s:x<gw.length;refine b x s H f d z ?_;grind;have q:x=gw.length:=by grind
  subst q;have u:some o=aV[gw.length]?:=by simpa using y 0
  rw[<-u]at f;simp only[Option.some.injEq]at f;subst f;rw[eG,lQ (bK _)]at g;simp only[Nat.sub_self,List.getElem?_cons_zero,Option.getD_some]at g;obtain⟨e,A,B,p⟩:=ahL _ g;have h:=d e A B;rcases p with rfl|p;exact h;by_cases v:e.on<gw.length;have m:∃n,aV[e.on]?=some n:=by{grind};obtain⟨n,k⟩:=m;exact b e.on v n k (C e.on n k h) z p;grind
theorem ajJ(p:aV[i]?=some o){e:Edge}(h:e∈o.after.toList)(g:Region.binds .any e=true):((lU aV.toList []).getD i 0).testBit e.on=true:=by
 have key:∀(l:List Oper)(gw:a_),(∀j,l[j]?=aV[gw.length+j]?)->gw.length<=i->i<gw.length+l.length->((lU l gw).getD i 0).testBit e.on=true:=by
  intro l
  induction l with
  |nil=>intro gw _ f b;simp at b;omega
  |cons x l d=>
   intro gw c f b;simp only[lU];by_cases k:i=gw.length;subst k;have m:x=o:=by have:=c 0;grind
   subst m;have a:∀(l:List Oper)(gw:a_)(j:Nat),j<gw.length->(lU l gw).getD j 0=gw.getD j 0:=by
    intro l
    induction l with
    |nil=>intro gw j _;rfl
    |cons y l d=>
     intro gw j n;simp only[lU];grind
   rw[a l _ _ X];rw[eG,lQ (bK _)];simp only[Nat.sub_self,List.getElem?_cons_zero,Option.getD_some];exact ajK _ h g;refine d (gw++[Sv x gw]) (λj=>?_) (by simp;omega) (by grind);have:=c (j+1);simp only[List.getElem?_cons_succ]at this;rw[this];simp;grind
 grind
theorem akN(h:zu P H aV ms (R1++i::R2)=true):(∀r,r∈R1->EB P H aV ms r i=true)/\zu P H aV ms (R1++R2)=true/\(∀r,r∈R2->EB P H aV ms i r=true):=by
 induction R1 with
 |nil=>
  simp only[List.nil_append,zu,iP,List.all_eq_true]at h⊢;grind
 |cons r R1 a=>
  simp only[List.cons_append,zu,iP,List.all_eq_true]at h⊢;grind
structure Pu(P:Program)(N:Nat)(H:Nat->OH)(aV:Array Oper)(ds:List Deferred)(k:Tm->St->Prop)(kp:List PanicEntry->Tm->St->Prop)(Sp:Array Bool)(l:a_)(T:Tm)(S:St)(I:aX)(a:Act)(w:World):Prop where
 size:Sp.size=aV.size
 mem:∀i,i<aV.size->(i∈l↔Sp.getD i true=false)
 lt:∀i,i∈l->i<aV.size
 akq:l.Nodup
 Yt:W9 aV Sp
 aao:zu P H aV (lU aV.toList []) l=true
 run:o5 P N H aV (lU aV.toList []) l T S k kp
 fresh:∀i j,i∈l->cl P H aV i= .new j->gt S j= .d7
 bS:dS N T a
 defers:a.defers=ds
 I3:Sat I S w
theorem ae3{I0:aX}{w0:World}
  (F:∀i,i<aV.size->vv (cQ aV i)=false) (W:∀(i:Nat)(o:Oper),aV[i]?=some o->∀e:Edge,e∈o.after.toList->Region.binds .any e=true->e.on<aV.size)
  (Y:∀i,i<aV.size->((lU aV.toList []).getD i 0).testBit i=false)
  (U:∀K R,fm N I0 w0 ds k K R->Q .normal K R) (hQ:∀Z K R,fm N I0 w0 ds (kp Z) K R->Q (.panic Z) K R):
  ∀(m:Nat){c:Array Bool}{l:a_}{T:Tm}{S:St}{I:aX}{a:Act}{w:World},l.length<=m->aX.le I0 I->cn w0 w->Pu P N H aV ds k kp c l T S I a w->wpAny P .any aV Q m c a w:=by
 intro m;have head:∀{c:Array Bool}{r:Nat}{l:a_}{T:Tm}{S:St}{I:aX}{a:Act}{w:World},Pu P N H aV ds k kp c (r::l) T S I a w->r∈Region.ready .any aV c:=by
  intro c r l T S I a w D;have d:=D.lt r (kJ ..);have y5:=(D.mem r d).1 (kJ ..);have p:aV[r]?=some aV[r]:=by simp[d]
  unfold Region.ready;refine List.mem_filter.2 ⟨List.mem_range.2 d, ?_⟩;simp only[y5,Bool.not_false,Bool.true_and,p,Option.map_some,Option.getD_some];rw[<-Array.all_toList,List.all_eq_true];intro e V;cases B:Region.binds .any e with
  |false=>rfl
  |true=>
   simp only[Bool.not_true,Bool.false_or];have n:=W r _ p e V B;have f:=ajJ p V B;cases hl:c.getD e.on true with
   |true=>
    have:e.on<c.size:=by rw[D.size];exact n
    simpa[pv,this]using hl
   |false=>
    exfalso;have q:=(D.mem e.on n).2 hl;rcases List.mem_cons.1 q with e1|q;rw[e1,Y r d]at f;cases f;have hp:=D.aao;simp only[zu,iP,List.all_eq_true]at hp;have:=hp.1 _ q;simp only[EB,iP,Bool.not_eq_true']at this;rw[this.1.1]at f;cases f
 have done:∀{c:Array Bool}{l:a_}{T:Tm}{S:St}{I:aX}{a:Act}{w:World},aX.le I0 I->cn w0 w->Pu P N H aV ds k kp c l T S I a w->Region.ready .any aV c=[]->Q .normal a w:=by
  intro c l T S I a w s g D h0;cases l with
  |nil=>exact U _ _ ⟨T,S,I,D.bS,D.defers,s,D.I3,g,D.run⟩
  |cons r l=>have:=head D;rw[h0]at this;cases this
 induction m with
 |zero=>
  intro c l T S I a w hl s g D;have:l=[]:=List.length_eq_zero_iff.1 (Nat.le_zero.1 hl);subst this;have d:Region.ready .any aV c=[]:=by
   unfold Region.ready;refine List.filter_eq_nil_iff.2 λi hi=>?_;have x4:=List.mem_range.1 hi;have:c.getD i true=true:=by
    cases hh:c.getD i true with
    |true=>rfl
    |false=>have:=(D.mem i x4).2 hh;cases this
   simp[this]
  exact⟨d,done s g D d⟩
 |succ m ih=>
  intro c l T S I a w hl s g D;refine⟨done s g D,λi hi=>?_⟩;obtain⟨x5,x0⟩:=List.mem_filter.1 hi;have n:=List.mem_range.1 x5;have p:aV[i]?=some aV[i]:=by simp[n]
  have y1:cQ aV i=aV[i]:=by simp[cQ,pv,p]
  simp only[iP,Bool.not_eq_true',p,Option.map_some,Option.getD_some]at x0;obtain⟨y0,M⟩:=x0;rw[<-Array.all_toList,List.all_eq_true]at M;have E:∀e,e∈aV[i].after.toList->Region.binds .any e=true->c.getD e.on false=true:=λe V B=>by{have:=M e V;rw[B]at this;simpa using this};have L:=(D.mem i n).2 y0;obtain⟨R1,R2,rfl⟩:=List.append_of_mem L;obtain⟨y2,y3,y4⟩:=akN D.aao;have y6:∀r,r<aV.size->c.getD r true=false->c.getD r false=false:=λr d h=>by
   have:r<c.size:=by rw[D.size];exact d
   simpa[pv,this]using h
  have f:∀r,r∈R1->((lU aV.toList []).getD i 0).testBit r=false:=λr d=>by
   cases B:((lU aV.toList []).getD i 0).testBit r with
   |false=>rfl
   |true=>
    have G:r∈R1++i::R2:=ra _ d;have O:=D.lt r G;have:=ajL c D.Yt aV.toList [] (λj=>X) (λi hi=>by simp at hi) i aV[i] p E r B (by simpa using n);rw[y6 r O ((D.mem r O).1 G)]at this;cases this
  have C:∀r,r∈R1->JH P H aV (lU aV.toList []) i r:=λr d=>by{have:=y2 r d;simp only[EB,iP,f r d,Bool.false_or]at this;exact⟨f r d,this.2.1,this.2.2,F r (D.lt r (ra _ d))⟩};have x9:=move (kp:=kp) (F i n) C (λj t=>D.fresh i j L t) D.run D.bS D.defers D.I3;have x2:(R1++R2).Nodup/\i∉R1++R2:=by{have:=D.akq;rw[List.nodup_append]at this;obtain⟨h1,h2,h3⟩:=this;rw[List.nodup_cons]at h2;refine⟨List.nodup_append.2 ⟨h1,h2.2,λa ha b B=>h3 a ha b (nP _ B)⟩,λq=>?_⟩;rcases List.mem_append.1 q with q|q;exact h3 i q i (kJ ..) rfl;exact h2.1 q};unfold wpOp;rw[p];simp only;have x1:oQ P N aV (cQ aV i) (H i) T S (λT' S'=>(∀r j,r∈R1++R2->cl P H aV r= .new j->gt S' j= .d7)/\o5 P N H aV (lU aV.toList []) (R1++R2) T' S' k kp)
    (match uH (lU aV.toList []) i R2 with|true=>λZ _ S=>∀T,kp Z T S|false=>λ_ _ _=>False):=by
   refine SG (φ:=λS=>S) (F i n) (λ_ _=>rfl) (Fr.id _) (pZ.id _) x9 (λv S' ho hh=>⟨λr j d t=>?_,hh⟩) (λ_ _ h=>h);have G:r∈R1++i::R2:=by{rcases List.mem_append.1 d with d|d;exact ra _ d;exact List.mem_append_right _ (nP _ d)};rw[ho j ?_];exact D.fresh r j G t;intro q;rcases List.mem_append.1 d with d|d;have z:=(C r d).pass;rw[t]at z;have y:j∈jK (cl P H aV i):=q;revert z y;cases cl P H aV i <;> intro z y <;> simp only[B4]at z <;> simp only[jK]at y;simp at y;simp only[List.mem_singleton]at y;subst y;simp at z;cases z;have:=y4 r d;simp only[EB,iP]at this;have hu:=this.1.2;have x6:gS (hC P (cQ aV r) (H r))= .new j:=t;rw[x6]at hu;exact wZ hu j X (List.mem_append_right _ q)
  have:=aad (next:=wpAny P .any aV Q m (c.setIfInBounds i true)) (Q:=Q) x1 D.bS D.defers D.I3 (λK R A=>?_) (λZ K R A=>?_);rw[y1]at this;exact this;obtain⟨T',S',J,h1,h2,h3,h4,h5,hf,h6⟩:=A;refine ih (l:=R1++R2) (T:=T') (S:=S') (I:=J) (by simp at hl⊢;omega) (aX.le_trans s h3) (g.trans h5) ?_;refine⟨by simpa using D.size,λj t=>?_,λj t=>D.lt j ?_,x2.1, ?_,y3,h6,hf,h1,h2,h4⟩;have x7:j<c.size:=by rw[D.size];exact t
  by_cases u:j=i;subst u;refine⟨λq=>absurd q x2.2,λhh=>?_⟩;simp[pv,x7]at hh;have q:=D.mem j t;have e1:(c.setIfInBounds i true).getD j true=c.getD j true:=by
   simp[pv,Array.getElem?_setIfInBounds,show ¬i=j from λe=>u e.symm]
  rw[e1,<-q];simp[u];rcases List.mem_append.1 t with t|t;exact ra _ t;exact List.mem_append_right _ (nP _ t);intro j o ho x8 e V B;have mono:∀x,c.getD x false=true->(c.setIfInBounds i true).getD x false=true:=λx hx=>by
   by_cases x3:i=x;subst x3;have:i<c.size:=by rw[D.size];exact n
   simp[pv,this];simpa[pv,Array.getElem?_setIfInBounds,x3]using hx
  by_cases u:i=j;subst u;rw[p]at ho;simp only[Option.some.injEq]at ho;subst ho;exact mono _ (E e V B);refine mono _ (D.Yt j o ho ?_ e V B);simpa[pv,Array.getElem?_setIfInBounds,u]using x8;refine hQ Z K R ((A.from s g).mono λT S h=>?_);revert h;cases uH (lU aV.toList []) i R2;exact λh=>h.elim;exact λh=>h T
theorem akr:∀(n:Nat)(l:a_),l.Nodup->(∀x,x∈l->x<n)->l.length<=n:=by
 intro n
 induction n with
 |zero=>
  intro l _ h;cases l with
  |nil=>simp
  |cons x r=>have:=h x (kJ ..);omega
 |succ n b=>
  intro l a h;by_cases d:n∈l;have c:=b (l.erase n) (a.erase n) λx e=>by{grind};grind;grind
theorem RJ
  (t:(SI P H aV l&&Y8 S (Sx P H aV l))=true) (K:o5 P N H aV (lU aV.toList []) l T S k kp) (f:dS N T a) (E:a.defers=ds) (hs:Sat I S w)
  (U:∀c g,fm N I w ds k c g->Q .normal c g) (C:∀p c g,fm N I w ds (kp p) c g->Q (.panic p) c g):
  wpAny P .any aV Q aV.size (Array.replicate aV.size false) a w:=by
 simp only[SI,iP]at t;obtain⟨⟨⟨⟨⟨q,y⟩,z⟩,r⟩,A⟩,B⟩:=t;have d:=LS y;have u:l.length=aV.size:=by simpa using z
 rw[List.all_eq_true]at q r;have m:∀i,i∈l->i<aV.size:=λi b=>by{have:=r i b;simp only[iP]at this;rw[Nat.blt_eq]at this;omega};have s:∀i,i<aV.size->i∈l:=by{intro i b;refine Classical.byContradiction λn=>?_;have:=akr aV.size (i::l) (List.nodup_cons.2 ⟨n,d⟩) λx M=>by{grind};grind};have v:∀i,i<aV.size->cQ aV i∈aV.toList:=λi b=>by
  have:cQ aV i=aV[i]:=by simp[cQ,pv,b]
  simp[*]
 refine ae3 (k:=k) (kp:=kp) (H:=H) (I0:=I) (w0:=w) (λi b=>?_) (λi o L e F D=>?_) (λi b=>?_) U C aV.size (l:=l) (T:=T) (S:=S) (I:=I) O (aX.le_refl I) (cn.refl w)
  ⟨X,λi b=>?_,m,d,λi o _ h=>?_,A,K,λi j b G=>?_,f,E,hs⟩
 grind;have:=q o (by grind);simp only[iP,List.all_eq_true]at this;have:=this.2 e F;rw[D]at this;simp only[Bool.not_true,Bool.false_or]at this;rw[Nat.blt_eq]at this;omega;grind;simp[*];exfalso;simp[pv,Array.getElem?_replicate]at h;grind;have J:j∈Sx P H aV l:=List.mem_filterMap.2 ⟨i,b,by
  have:gS (hC P (cQ aV i) (H i))= .new j:=G;rw[this]⟩
 have:=List.all_eq_true.1 B j J;grind
end
end
section
section
variable{P:Program}{N:Nat}
theorem Gf(hm:P.follows .mixedOrders=true)(H:jZ):∀(c:Code){key:Nat}{T:Tm}{S:St}{K:Exit->Tm->St->Prop}{a:Act}{I:aX}{w:World}{k:List Deferred}{Q:Exit->Act->World->Prop},
  E P N H c key T S K->dS N T a->a.defers=k->Sat I S w->(∀e o m,fm N I w k (K e) o m->Q e o m)->c.wp P Q a w:=by
 intro c
 induction c with
 |skip=>
  intro key T S K a I w k Q h b g j f;exact wp_skip (f _ _ _ ⟨T,S,I,b,g,aX.le_refl I,j,cn.refl w,h⟩)
 |exit id=>
  intro key T S K a I w k Q h b g j f;exact wp_exit (f _ _ _ ⟨T,S,I,b,g,aX.le_refl I,j,cn.refl w,h⟩)
 |ret=>
  intro key T S K a I w k Q h b g j f;exact wp_ret (f _ _ _ ⟨T,S,I,b,g,aX.le_refl I,j,cn.refl w,h⟩)
 |seq x y x1 x2=>
  intro key T S K a I w k Q h b g j f;simp only[E]at h;refine wp_seq ?_;split at h;refine x1 h b g j λe o m d=>?_;cases e with
  |normal=>
   obtain⟨T',S',J,C,D,F,G,L,h6⟩:=d;exact x2 h6 C D G λe a w h=>f e a w (h.from F L)
  |_=>exact f _ _ _ d
  rename_i V hV
  have go:∀p:V.X->Prop,(E P N H x key T S λe T S=>match e with| .normal=>∃x,p x/\jX T (V.lv x)/\ay S (bu (V.st x))|e=>K e T S)->
    (∀x B,p x->E P N H y key (kT B (V.lv x)) (bu (V.st x)) K)->Code.wp P x (Exit.then (Code.wp P y Q) Q) a w:=by
   intro p W X;refine x1 W b g j λe o m d=>?_;cases e with
   |normal=>
    obtain⟨T',S',J,C,D,F,G,L,x,hp,he,M⟩:=d;obtain⟨J',q,A⟩:=M.h J m G;exact x2 (X x T'.aS hp) (qe C he) D A λe a w h=>f e a w (h.from (aX.le_trans F q) L)
   |_=>exact f _ _ _ d
  split at h;exact go _ h.1 h.2;obtain⟨_,W,X⟩:=h;exact go _ W X
 |cond x c1 c2 y2 y3=>
  intro key T S K a I w k Q h b g j f;simp only[E]at h;split at h
  ·rename_i t ht
   have hc:a.eval x= .bool t:=by rw[b.eval];exact ht
   refine wp_cond hc ?_;rcases Br.cases h with⟨rfl,U⟩| ⟨rfl,U⟩
   all_goals grind
  grind
 |block id c Z=>
  intro key T S K a I w k Q h b g j f;simp only[E]at h;refine wp_block (Z h b g j λe o m d=>?_);cases e with
  |exit i=>
   simp only[Exit.inBlock];by_cases hi:i=id;subst hi;simp only[if_true];refine f _ _ _ (d.mono λT S h=>?_);simpa using h;simp only[hi,if_false];refine f _ _ _ (d.mono λT S h=>?_);simpa[ve hi]using h
  |_=>exact f _ _ _ d
 |scope c Z=>
  intro key T S K a I w k Q h b g j f;simp only[E]at h;refine wp_scope_straight (Z h b g j λe o m d=>?_);cases e with
  |goto l=>
   obtain⟨_,_,_,_,_,_,_,_,h6⟩:=d;grind
  |_=>exact f _ _ _ d
 |loop c Z=>
  intro key T S K a I w k Q h b g j f;simp only[E]at h;split at h;grind
  rename_i V hV
  have go:∀p:V.X->Prop,(∃x,p x/\jX T (V.lv x)/\ay S (bu (V.st x)))->(∀x B,p x->E P N H c key (kT B (V.lv x)) (bu (V.st x)) λe T S=>match e with
    | .normal=>∃y,p y/\jX T (V.lv y)/\ay S (bu (V.st y))/\V.mu y<V.mu x
    |e=>K e T S)->Code.wp P (.loop c) Q a w:=by
   rintro p ⟨x0,x7,x4,u⟩ r;obtain⟨J0,O,x9⟩:=u.h I w j;refine wp_loop_ghost (λn o m=>∃x B J,V.mu x=n/\p x/\dS N (kT B (V.lv x)) o/\o.defers=k/\aX.le I J/\Sat J (bu (V.st x)) m/\cn w m) (V.mu x0)
    ⟨x0,T.aS,J0,rfl,x7,qe b x4,g,O,x9,cn.refl w⟩ ?_
   rintro n o m ⟨x,B,J,rfl,hp,z,x3,q,A,s⟩;refine Z (r x B hp) z x3 A λe a2 w2 d=>?_;cases e with
   |normal=>
    obtain⟨T',S',J',C,D,F,G,L,y,x8,x5,v,x6⟩:=d;obtain⟨J2,R,y0⟩:=v.h J' w2 G;exact⟨V.mu y,x6,y,T'.aS,J2,rfl,x8,qe C x5,D,aX.le_trans q (aX.le_trans F R),y0,s.trans L⟩
   |_=>exact f _ _ _ (d.from q s)
  split at h;exact go _ h.1 h.2;obtain⟨_,W,X⟩:=h;exact go _ W X
 |region id y4 y1=>
  intro key T S K a I w k Q h b g j f;simp only[E]at h;split at h;exact wp_region (Wj _ h b g j (λa w h=>f _ a w h) (λch a w h=>f _ a w h));exact wp_region_any hm (RJ h.1 h.2 b g (j.heap (w':={w with drawn:=w.drawn+1}) rfl) (λa w h=>f _ a w (h.from (aX.le_refl _) Y)) (λch a w h=>f _ a w (h.from (aX.le_refl _) Y)))
 |_=>intro key T S K a I w k Q h;exact h.elim
variable{c:Code}{C:aF}{fn:Func}{f:FuncId}
theorem FK{T:Tm}{a:Act}(h:dS N T a):results fn a.tmps=ky fn T:=by
 unfold results ky;congr 1;congr 1;funext r;cases r with
 |tmp t=>simp only[h.get]
 |cell x t=>simp only[h.get]
theorem afC(x:P.follows .mixedOrders=true){H:jZ}{o:List LH}{args:aN}{S:St}{R:Ending->St->Prop}{I:aX}{w:World}
  (t:P.funcs[f]?=some fn) (s:fn.body=some c) (q:fn.ntmps=N) (u:args.length<=N) (h:Body P N fn H o c (lP args) S R) (hs:Sat I S w):
  Calls P f ⟨args⟩ w λe d=>∃J b,aX.le I J/\Sat J b d/\cn w d/\R e b:=by
 refine calls_of_wp t s ?_;rw[q];refine Gf x H c h (IY args u) rfl hs λe a d i=>?_;obtain⟨T,b,J,p,k,l,j,m,g⟩:=i;have ae:rd P b (ky fn T) o (λv=>R (.returned v) b)->a.defers=[]/\∃v,(results fn a.tmps).run P d= .ok v d/\∃J b,aX.le I J/\Sat J b d/\cn w d/\R (.returned v) b:=λg=>by{obtain⟨v,n,r⟩:=x_ j _ _ _ g;exact⟨k,v,by rw[FK p];omega,J,b,l,j,m,r⟩};cases e with
 |normal=>exact ae g
 |ret=>exact ae g
 |panic y=>exact⟨k,J,b,l,j,m,g⟩
 |_=>exact g.elim
theorem ahG(s:P.follows .mixedOrders=true)(q:P.funcs[f]?=some fn)(o:fn.body=some c)(n:fn.ntmps=N)(r:∀x,(C.args x).length<=N)
  (H:C.X->ag->jZ) (v:List LH)
  (h:∀x F,C.cond x->C.aE x F->Body P N fn (H x F) v c (lP (C.args x)) (bu (C.pre x++[F])) (l C x F)):gD P f C:=by
 refine⟨λx F I w p t u=>?_⟩;refine(afC s q o n (r x) (h x F p t) u).mono ?_;rintro e z ⟨J,A,i,j,b,⟨y,g,rfl,a⟩⟩;obtain⟨m,d,k⟩:=a.h J z j;exact⟨y,m,g,rfl,aX.le_trans i d,k,b⟩
theorem gD.D1{b:aF}(s:gD P f b)
  (h:∀x F I w,C.cond x->C.aE x F->Sat I (bu (C.pre x++[F])) w->∃a J,aX.le I J/\b.cond a/\b.aE a F/\C.args x=b.args a/\Sat J (bu (b.pre a++[F])) w/\
   ∀k,b.bS a k->∃y,C.bS x y/\b.val a k=C.val x y/\ay (bu (b.post a k++[F])) (bu (C.post x y++[F]))):gD P f C:=by
 refine⟨λx F I w A B D=>?_⟩;obtain⟨a,J,m,l,n,z,o,E⟩:=h x F I w A B D;rw[z];refine(s.h a F J w l n o).mono ?_;rintro e G ⟨k,q,i,rfl,d,j,c⟩;obtain⟨y,t,u,v⟩:=E k i;obtain⟨r,g,p⟩:=v.h q G j;exact⟨y,r,t,u,aX.le_trans m (aX.le_trans d g),p,c⟩
end
end
section
def ay.refl(S:St):ay S S:=⟨λI _ h=>⟨I,aX.le_refl I,h⟩⟩
variable{I:aX}{dJ:a_}{vs:aN}{b j k:Nat}{B:Prop}{S S':St}{e t:TypeId}{w:World}
theorem ay.trans{a:St}(h:ay S S')(f:ay S' a):ay S a:=⟨λI w g=>by
 obtain⟨J,d,e⟩:=h.h I w g;obtain⟨K,b,c⟩:=f.h J w e;exact⟨K,aX.le_trans d b,c⟩⟩
theorem Sat.pick(tZ:a_)(hn:nodupB tZ=true)(e:bu (tZ.map (gt S))=S')(h:Sat I S w):Sat I S' w:=by
 subst e;have d:=LS hn;obtain⟨f,l,m,n⟩:=h.nW;refine⟨⟨λi b=>∃h:i<tZ.length,f tZ[i] b,λi=>?_,λi o b c a=>?_,λi b c=>?_⟩,h.oM⟩;rw[vp,eG];by_cases g:i<tZ.length;simp[*];simp only[fZ,oH (Nat.le_of_not_lt g),Option.map_none,Option.getD_none];trivial;obtain⟨g,c⟩:=c;obtain⟨j,a⟩:=a;have k:=List.pairwise_iff_getElem.1 d;grind;grind
theorem ay.pick(tZ:a_)(hn:nodupB tZ=true)(e:bu (tZ.map (gt S))=S'):ay S S':=⟨λI _ h=>⟨I,aX.le_refl I,h.pick tZ hn e⟩⟩
theorem ar{t:Bool}{A:Prop}(a:t=true->A)(b:t=false->B):Br t A B:=by
 cases t;exact b rfl;exact a rfl
@[simp] theorem aqJ (A B:Prop):Br true A B=A:=rfl
@[simp] theorem aqI (A B:Prop):Br false A B=B:=rfl
theorem bd{p:Prop}[Decidable p]{A:Prop}(a:p->A)(b:¬p->B):Br (decide p) A B:=ar (λe=>a (kK e)) (λe=>b (R5 e))
@[simp] theorem aqR (b o:Nat):d6 ⟨b,o,none⟩ b:=Y
theorem RF{h:Hp}{a:Nat×Nat}(c:h b=some (.cells ⟨vs⟩ t a))(o:Nat):wY h ⟨b,o,none⟩=vs[o]?:=by
 unfold wY;simp[c]
theorem aH.cells{b o:Nat}{vs:aN}{t:TypeId}{v:aD}(h:vs[o]?=some v):aH (.cells b vs t) ⟨b,o,none⟩ v:=⟨λI c d _ a=>by
 rw[RF a.2];exact h⟩
theorem aH.rest(g:j∉dJ){a:Addr}{v:aD}(h:aH (gt S j) a v):aH (.cJ (rest S dJ)) a v:=⟨λI b o e d=>by
 obtain⟨f,c,_,_⟩:=d;have:=c j;rw[Ll]at this;simp only[g,if_false]at this;exact h.h I b _ e this⟩
theorem aH.sub{A B:ag}(hs:Sub A B){a:Addr}{v:aD}(h:aH A a v):aH B a v:=⟨λI b o e d=>by
 obtain⟨f,c⟩:=hs I b o d;exact h.h I b f e c⟩
def cR(A:ag)(a:Addr)(b:aN):Prop:=∀j u,b[j]?=some u->aH A (a.add j) u
theorem cR.sub{A B:ag}(hs:Sub A B){a:Addr}{b:aN}(h:cR A a b):cR B a b:=λj u c=>(h j u c).sub hs
theorem oC(b o j:Nat):(⟨b,o,none⟩:Addr).add j=⟨b,o+j,none⟩:=by
 unfold Addr.add;simp[*]
theorem cR.rest(d:j∉dJ){a:Addr}{b:aN}(h:cR (gt S j) a b):cR (.cJ (rest S dJ)) a b:=λi u c=>(h i u c).rest d
theorem cR.cells{b o:Nat}{vs a:aN}{t:TypeId}(h:∀j u,a[j]?=some u->vs[o+j]?=some u):cR (.cells b vs t) ⟨b,o,none⟩ a:=λj u c=>by
 rw[oC];exact aH.cells (h j u c)
structure Row where
 a:bv
 n:Nat
 aq:Nat
 A:ag
def Row.v(r:Row):aD:=.slice r.a r.n r.aq
inductive bl(e:TypeId)(k:Nat)(cs:aN):Row->Prop
 |nil (h:cs=[]):bl e k cs ⟨none,0,0,.d7⟩
 |ft (b n aq:Nat) (sp:aN) (hl:cs.length=n*k) (hs:(cs++sp).length=aq*k) (hn:n<=aq):bl e k cs ⟨some ⟨b,0,none⟩,n,aq,.cells b (cs++sp) e⟩
theorem bl.len{cs:aN}{r:Row}(h:bl e k cs r):cs.length=r.n*k:=by
 cases h with
 |nil h=>subst h;simp
 |ft b n aq f a d c=>exact a
theorem bl.le{cs:aN}{r:Row}(h:bl e k cs r):r.n<=r.aq:=by
 cases h with
 |nil h=>exact bK _
 |ft b n aq f c d a=>exact a
def dq:Row:=⟨none,0,0,.d7⟩
section
variable{P:Program}
theorem Sat.setRow(h:Sat I S w){F7:aN}(d:gt S j= .cells b vs t):Sat I (gC S j (.cells b F7 t)) (w.setRow b ⟨F7⟩):=by
 have e:=h.cells d;refine h.write (b:=b) (λo a=>by rw[d]at a;exact a.1) (λc f=>setRow_other w b c _ f) (by simp[*]) (λo a=>?_);rw[d]at a;exact⟨a.1,setRow_heap w b _ _ t _ e⟩
theorem Sat.alloc(h:Sat I S w)(j:Nat)(cs:Array aD)(t:TypeId):Sat I (gC S j (.cells w.heap.size cs.toList t)) (w.drew.alloc (.cells cs t)):=by
 have:=(h.heap (w':=w.drew) rfl).new j (.cells cs t);exact this
theorem cR.cell(h:Sat I S w){a:Addr}{b:aN}(hs:cR (gt S j) a b):∀i u,b[i]?=some u->w.cell? (a.add i)=some u:=λi u c=>h.look (hs i u c)
theorem C_(A B F:ag):gC (bu [A,F]) 0 B=bu [B,F]:=rfl
structure rS where
 r:Row
 cs:aN
 a:bv
 m:Nat
 c:Nat
 ys:aN
abbrev cS(e:TypeId)(k bytes:Nat):aF where
 X:=rS
 Y:=Row
 args x:=[.slice x.r.a x.r.n x.r.aq,.slice x.a x.m x.c]
 pre x:=[x.r.A]
 cond x:=bl e k x.cs x.r/\x.ys.length=x.m*k/\(∀u∈x.ys,u.oneCell'=true)/\(x.r.n+x.m)*bytes<=140737488355328/\x.r.n+x.m<=9223372036854775807/\(x.a=none->x.m=0/\x.c=0)
 aE x F:=∀a,x.a=some a->cR F a x.ys
 bS x r:=bl e k (x.cs++x.ys) r/\r.n=x.r.n+x.m/\(x.m=0->r=x.r)
 val _ r:=.returned r.v
 post _ r:=[r.A]
 eL _ _ _ c h a b:=(h a b).sub c
theorem iN{o:Oper}{s x:Operand}{d:TypeInfo}{z:aD}(k bytes:Nat)(ho:o.op= .call {callee:=.builtin .append,args:=#[s,x],argTypes:=#[t,t]})
  (X:P.underlying t=some (.slice e)) (W:P.info? e=some d) (hz:d.zero=some z) (U:d.size=k) (hb:d.bytes=bytes) (V:z.cells.size=k) (x5:0<k):gY P o (cS e k bytes):=by
 refine⟨λx F I w ρ Z hc hr L=>?_⟩;obtain⟨r,l,a,m,c,g⟩:=x;obtain⟨q,f,T,E,K,J⟩:=hc;dsimp only at q f T E K J;simp only[ho,Op.operands,Call.operands,cS]at Z;have x0:ρ s= .slice r.a r.n r.aq/\ρ x= .slice a m c:=by simpa using Z
 obtain⟨x3,x4⟩:=x0;have gm:∀w',(execOp ρ o).run P w'=((Builtin.append_ #[t,t] o.type #[.slice r.a r.n r.aq,.slice a m c]).run P w').andThen λv w2=>.ok (.value v) w2:=by{intro w';simp[execOp,ho,resolve,invoke,builtin,x3,x4]};subst U;subst hb;by_cases R:m=0;subst R;have hy:g=[]:=List.eq_nil_of_length_eq_zero (by simpa using f);subst hy;refine⟨r,I,w,r.v,⟨by simpa using q,rfl,λ_=>rfl⟩, ?_,rfl,aX.le_refl I,L,cn.refl w⟩;have x1:=q.le;rw[gm];cases q <;> cases a <;> simp[Builtin.append_,run_underlying X,sizeOf,typeInfo,W,Builtin.lenOf,Builtin.firstCells,loadCells,loadCellsFrom,storeCells,x1,Row.v];obtain⟨B,rfl⟩:∃B,a=some B:=by
  cases a with
  |none=>exact absurd (J rfl).1 R
  |some B=>exact⟨B,rfl⟩
 have S:cR F B g:=hr B rfl;have A:∀i u,g[i]?=some u->w.cell? (B.add i)=some u:=cR.cell L (j:=1) (show cR (gt (bu [r.A,F]) 1) B g from S);dsimp only[cS,List.cons_append,List.nil_append]at L;clear hr Z;cases q with
 |nil h=>
  subst h;have y:=run_append_nil (P:=P) w t o.type e d z X W hz B m c g f A O (by dsimp only at K;omega) (by dsimp only at E;simp only[gZ]at E;omega);refine⟨⟨some ⟨w.heap.size,0,none⟩,m,grownCap w m 0 e,.cells w.heap.size (g++(Builtin.zeroCells z.cells (grownCap w m 0 e-m)).toList) e⟩,I,w.drew.alloc (.cells (g.toArray++Builtin.zeroCells z.cells (grownCap w m 0 e-m)) e),_,⟨.ft _ _ _ _ ?_ ?_ (grownCap_ge w m 0 e), ?_, ?_⟩, ?_,rfl,aX.le_refl I, ?_,Y⟩;simpa using f;have:=grownCap_ge w m 0 e;simp only[List.nil_append,eH,Array.length_toList,size_zeroCells,V,f,<-Nat.add_mul];congr 1;omega;simp;intro e;exact absurd e R
  left;rw[gm,y];rfl
  have:=L.alloc 0 (g.toArray++Builtin.zeroCells z.cells (grownCap w m 0 e-m)) e;simpa[cS,C_]using this
 |ft b n aq D N M hn=>
  have G:w.heap[b]?=some (.cells ⟨l++D⟩ e (0,0)):=L.cells (j:=0) rfl;by_cases p:n+m<=aq;have H:n*d.size+g.length<=(⟨l++D⟩:Array aD).size:=by{show n*d.size+g.length<=(l++D).length;rw[f,M,<-Nat.add_mul];exact Nat.mul_le_mul_right _ p};have y:=run_append_room (P:=P) w t o.type e d X W b n aq ⟨l++D⟩ G B m c g f A T p H;have C:(l++D).take (n*d.size)=l:=by rw[<-N];exact List.take_left
  have Q:(l++g++(l++D).drop (n*d.size+g.length)).length=aq*d.size:=by
   simp only[eH,List.length_drop]at H M⊢;rw[N]at M⊢;have:n*d.size+g.length<=aq*d.size:=by rw[f,<-Nat.add_mul];exact Nat.mul_le_mul_right _ p
   omega
  refine⟨⟨some ⟨b,0,none⟩,n+m,aq,.cells b (l++g++(l++D).drop (n*d.size+g.length)) e⟩,I,w.setRow b ⟨l++g++(l++D).drop (n*d.size+g.length)⟩,_,⟨.ft _ _ _ _ ?_ Q p,rfl,λe=>absurd e R⟩, ?_,rfl,aX.le_refl I, ?_,Y⟩;rw[eH,N,f,Nat.add_mul]
  left;rw[gm,y];simp only[C];rfl
  have:=L.setRow (j:=0) (b:=b) (vs:=l++D) (t:=e) (F7:=l++g++(l++D).drop (n*d.size+g.length)) rfl;simpa[cS,C_,C]using this;have holds:∀j v,l[j]?=some v->w.cell? ((⟨b,0,none⟩:Addr).add j)=some v:=by{intro j v hj;have x2:=(ic.1 hj).1;rw[oC,DZ (b:=b) Y G];simp only[gZ];rw[m5 x2];exact hj};have y:=run_append_grow (P:=P) w t o.type e d z X W hz ⟨b,0,none⟩ n aq l N holds B m c g f A O (by dsimp only at K;omega) (growslice_fits O E);refine⟨⟨some ⟨w.heap.size,0,none⟩,n+m,grownCap w (n+m) aq e,.cells w.heap.size (l++g++(Builtin.zeroCells z.cells (grownCap w (n+m) aq e-(n+m))).toList) e⟩,I,w.drew.alloc (.cells (l.toArray++g.toArray++Builtin.zeroCells z.cells (grownCap w (n+m) aq e-(n+m))) e),_,⟨.ft _ _ _ _ ?_ ?_ (grownCap_ge w (n+m) aq e),rfl,λe=>absurd e R⟩, ?_,rfl,aX.le_refl I, ?_,Y⟩;rw[eH,N,f,Nat.add_mul];have:=grownCap_ge w (n+m) aq e;simp only[eH,N,f,Array.length_toList,size_zeroCells,V,<-Nat.add_mul];congr 1;omega
  left;rw[gm,y];rfl
  have:=L.alloc 0 (l.toArray++g.toArray++Builtin.zeroCells z.cells (grownCap w (n+m) aq e-(n+m))) e;simpa[cS,C_]using this
end
end
section
def ij(z:aN)(n:Nat):aN:=(List.replicate n z).flatten
def WX(z:aN)(n:Nat):(ij z n).length=n*z.length:=by unfold ij;simp
def ab6(v:aD)(n:Nat):ij [v] n=List.replicate n v:=by
 unfold ij
 induction n with
 |zero=>rfl
 |succ n a=>simp[List.replicate_succ,a]
def ap5(z:aN)(n:Nat):ij z (n+1)=z++ij z n:=by unfold ij;simp[List.replicate_succ]
def ap4(z:aN)(c:z≠[]):∀(n i:Nat),i<n*z.length->(ij z n)[i]?=z[i%z.length]?:=by
 intro n
 induction n with
 |zero=>intro i h;omega
 |succ n b=>
  intro i h;rw[ap5];by_cases a:i<z.length;rw[m5 a,Nat.mod_eq_of_lt a];rw[lQ O,b _ (by rw[Nat.succ_mul]at h;omega)];have:i%z.length=(i-z.length)%z.length:=Nat.mod_eq_sub_mod O;rw[this]
def ap3(z:Array aD)(n:Nat)(f:z.size≠0):(Builtin.zeroCells z n).toList=ij z.toList n:=by
 have a:z.toList≠[]:=λe=>f (by rw[<-Array.length_toList,e];rfl);refine List.ext_getElem? λi=>?_;have c:(Builtin.zeroCells z n).toList.length=n*z.size:=by rw[Array.length_toList,size_zeroCells]
 by_cases b:i<n*z.size;rw[ap4 _ a n i (by simpa using b)];have d:i%z.size<z.size:=Nat.mod_lt _ O;simp[Builtin.zeroCells,b,d,getElem!_pos];rw[oH O,oH (by rw[WX];simp;omega)]
section
variable{P:Program}
structure MkX where
 n:Int
 c:Int
abbrev vz(e:TypeId)(z:aN)(bytes:Nat):aF where
 X:=MkX
 Y:=Nat
 args x:=[.int .i64 x.n,.int .i64 x.c]
 cond x:=0<=x.n/\x.n<=x.c/\x.c*bytes<=281474976710656/\x.c<=9223372036854775807
 val x b:=.returned (.slice (some ⟨b,0,none⟩) x.n.toNat x.c.toNat)
 post x b:=[.cells b (ij z x.c.toNat) e]
variable{o:Oper}
theorem Eo{l c:Operand}{t e:TypeId}{a:TypeInfo}{b:aD}(z:aN)(bytes:Nat)(v:o.op= .makeSlice t l c)
  (G:P.underlying t=some (.slice e)) (D:P.info? e=some a) (H:a.zero=some b) (h:b.cells=⟨z⟩) (U:a.size=z.length) (p:z≠[]) (B:a.bytes=bytes):gY P o (vz e z bytes):=by
 refine⟨λx F I w ρ u C J E=>?_⟩;obtain⟨n,d⟩:=x;obtain⟨y,r,k,i⟩:=C;simp only[v,Op.operands,vz]at u;have j:ρ l= .int .i64 n/\ρ c= .int .i64 d:=by simpa using u
 obtain⟨q,m⟩:=j;subst B;have s:b.cells.size≠0:=by rw[h];simpa using p
 have f:madeCells b.cells (d.toNat*a.size)=Builtin.zeroCells b.cells d.toNat:=by
  have:b.cells.size=a.size:=by rw[h,U];rfl
  unfold Builtin.zeroCells madeCells;rw[this]
 have g:=run_make (P:=P) w t e a b G D H .i64 .i64 n d y r (by rw[Int.mul_comm];exact k) i;refine⟨w.heap.size,I,w.alloc (.cells (Builtin.zeroCells b.cells d.toNat) e),_,ai, ?_,rfl,aX.le_refl I, ?_,Y⟩;rw[f]at g;simp[execOp,v,q,m,g,Sem.run];have:=(E.new 1 (.cells (Builtin.zeroCells b.cells d.toNat) e));have e1:(Builtin.zeroCells b.cells d.toNat).toList=ij z d.toNat:=by rw[ap3 _ _ s,h]
 have A:Sat I [(0,F),(1,.cells w.heap.size (ij z d.toNat) e)] (w.alloc (.cells (Builtin.zeroCells b.cells d.toNat) e)):=by{rw[<-e1];exact this};exact Sat.pick [1,0] rfl rfl A
theorem gY.D1{C b:aF}(p:gY P o b)
  (h:∀x F,C.cond x->C.aE x F->∃a,b.cond a/\b.aE a F/\C.args x=b.args a/\C.pre x=b.pre a/\
   ∀e,b.bS a e->∃y,C.bS x y/\b.val a e=C.val x y/\b.post a e=C.post x y):gY P o C:=by
 refine⟨λx F I w ρ k t z l=>?_⟩;obtain⟨a,f,i,m,n,B⟩:=h x F t z;rw[m]at k;rw[n]at l;obtain⟨e,J,D,v,c,d,A,g,j,u⟩:=p.h a F I w ρ k f i l;obtain⟨y,q,r,s⟩:=B e c;exact⟨y,J,D,v,q,d,by rw[<-r];exact A,g,by rw[<-s];exact j,u⟩
end
end
section
variable{P:Program}
structure qD where
 b:Nat
 o:Nat
 len:Nat
 aq:Nat
 n:Int
def dy(k:Nat):j5 where
 X:=qD
 args x:=[.slice (some ⟨x.b,x.o,none⟩) x.len x.aq,.int .i64 x.n]
 cond x:=0<=x.n/\x.n<x.len
 val x:=.pointer (some ⟨x.b,x.o+x.n.toNat*k,none⟩)
variable{cs ys:aN}{k:Nat}{a:bv}{r:Row}{e:TypeId}
theorem bZ{o:Oper}{x i:Operand}{t:TypeId}{a:TypeInfo}(k:Nat)(h:o.op= .indexAddr t x i)(q:P.underlying t=some (.slice e))(g:P.info? e=some a)(U:a.size=k):cN P o (dy k):=by
 refine⟨λX w ρ f m=>?_⟩;obtain⟨b,d,len,aq,n⟩:=X;obtain⟨j,l⟩:=m;simp only[h,Op.operands,dy]at f;obtain⟨r,p⟩:ρ x= .slice (some ⟨b,d,none⟩) len aq/\ρ i= .int .i64 n:=by simpa using f
 have c:P.cellsOf e=a.size:=by unfold Program.cellsOf;simp[g]
 subst U;simp[execOp,h,r,p,Instr.indexAt,asIntOf,run_underlying q,run_sizeOf w g,c,j,l,oC,Sem.run,dy]
inductive e6(k:Nat)(ys:aN):bv->Nat->Prop
 |nil (h:ys=[]):e6 k ys none 0
 |ft (b o n:Nat) (h:ys.length=n*k):e6 k ys (some ⟨b,o,none⟩) n
 |zero (a:Addr) (h:ys=[]):e6 k ys (some a) 0
def e8(F:ag)(a:bv)(ys:aN):Prop:=∀b,a=some b->cR F b ys
theorem e8.sub{A B:ag}(hs:Sub A B)(h:e8 A a ys):e8 B a ys:=λb e=>(h b e).sub hs
theorem e6.some{n:Nat}(h:e6 k ys a n)(hn:0<n):∃b o,a=some ⟨b,o,none⟩:=by
 cases h with
 |nil _=>exact absurd hn (Nat.lt_irrefl 0)
 |ft b o n _=>exact⟨b,o,rfl⟩
 |zero _ _=>exact absurd hn (Nat.lt_irrefl 0)
theorem e6.len{n:Nat}(h:e6 k ys a n):ys.length=n*k:=by
 cases h with
 |nil h=>subst h;simp
 |ft b o n h=>exact h
 |zero _ h=>subst h;simp
theorem bl.af(h:bl e k cs r):e6 k cs r.a r.n:=by
 cases h with
 |nil h=>exact .nil h
 |ft b n aq f a c d=>exact .ft b 0 n a
theorem bl.FY(h:bl e k cs r):e8 r.A r.a cs:=by
 cases h with
 |nil h=>intro c e;cases e
 |ft b n aq i d f g=>
  intro c e;cases e;refine cR.cells λj u a=>?_;rw[gZ,m5];exact a;exact(ic.1 a).1
theorem e8.look{F:ag}{b o j:Nat}{v:aD}(h:e8 F (some ⟨b,o,none⟩) ys)(a:ys[j]?=some v):aH F ⟨b,o+j,none⟩ v:=by
 have:=h _ rfl j v a
 rwa [oC]at this
end
section
variable{P:Program}
def gG(W:World):ag:=.cJ {holds:=λI _ _=>aX.le (hp W) I,El:=λ_ _ _ _ _ h=>h,mono:=λ_ _ _ _ h k=>aX.le_trans k h}
variable{W w':World}
theorem zl{a:Addr}{v:aD}(h:W.cell? a=some v):aH (gG W) a v:=⟨λI d o c b=>by
 have b:aX.le (hp W) I:=b;rw[<-afU]at h;unfold wY at h⊢;cases e:hp W a.block with
 |none=>rw[e]at h;simp at h
 |some f=>rw[e]at h;rw[c _ _ (b _ _ e)];exact h⟩
structure AW(W w':World):Prop where
 heap:∀b,b<W.heap.size->w'.heap[b]?=W.heap[b]?
 os:w'.os=W.os
 output:w'.output=W.output
theorem entry{f:FuncId}{C:aF}(i:gD P f C)(x:C.X)(W:World)(c:C.pre x=[])(n:C.cond x)(o:C.aE x (gG W)):
  Calls P f ⟨C.args x⟩ W λe w'=>(∃y,C.bS x y/\e=C.val x y)/\AW W w':=by
 refine(i.h x (gG W) (hp W) W n o ⟨⟨λ_ _=>False,λj=>?_,λ_ _ _ h=>h.elim,λ_ _ h=>h.elim⟩,λ_ _ h=>h⟩).mono ?_;rw[c];cases j with
 |zero=>exact aX.le_refl _
 |succ j=>trivial
 rintro e w' ⟨y,J,l,m,g,d,a⟩;refine⟨⟨y,l,m⟩,λb k=>?_,a.1,a.2⟩;have e:=d.oM b _ (g b (W.heap[b]) (by simp[hp,k]));rw[show w'.heap[b]?=hp w' b from rfl,e];simp[k]
theorem AW.keptBut(h:AW W w')(a:MemPlace->Prop):W.keptBut w' a:=by
 refine⟨h.os,h.output,λi b=>?_⟩;rw[h.heap i b];split <;> simp_all
theorem AW.same(h:AW W w'){p:MemPlace}(hp:p.block<W.heap.size):W.sameAt w' p:=by
 cases p with
 |cell b o=>exact World.cell?_of_block (w:=W) (h.heap b hp)
 |map b=>exact h.heap b hp
theorem abG{H:Type}{h_:TypeId×aD->H}(l:laidOutB P=true){W k:World}(U:AW W k):∀(e:List TypeId)(j:aN)(f:List (DataW H))(i:List MemPlace),
  (e.all λt=>P.readableRec t&&Nat.blt t P.types.size)=true->(∀p∈i,p.block<W.heap.size)->DataW.TrodAll h_ P W 0 (λ_=>true) true e j f i->
  DataW.TrodAll h_ P k 0 (λb=>decide (b<W.heap.size)) true e j f i
 | [],[],[],_,_,_,h=>h
 |t::e,v::j,d::f,i,g,a,h=>by
  obtain⟨p,q,m,n,rfl⟩:=h;simp only[List.all_cons,iP]at g;refine⟨p,q,WideElems.Trod_stays l g.1.1 (Nat.le_of_ble_eq_true g.1.2) m (λx c=>U.same (a x (by simp[c]))) (λx c=>by simpa using a x (by simp[c])),abG l U e j f q g.2 (λx c=>a x (by simp[c])) n,rfl⟩
 | [],[],_::_,_,_,_,h=>h.elim
 | [],_::_,_,_,_,_,h=>by cases h
 |_::_,[],_,_,_,_,h=>by cases h
 |_::_,_::_,[],_,_,_,h=>by cases h
theorem alU{H:Type}{h_:TypeId×aD->H}(u:laidOutB P=true){f:Func}{s:ChangeSpec}{b d c:Bool}{m:World}{args:Array aD}{ds i:List (DataW H)}{a:List MemPlace}
  (g:DataW.Whole h_ P f.params.toList s.vars b W args.toList ds i a) (o:s.vars=[]) (hs:s.fn H (ds++i)={results:=[.lit (.bool true)],args:=ds}) (U:AW W m)
  {tb:TypeId} (r:P.underlying tb=some .bool) (v:f.resultTypes=#[tb]) (l:(f.params.toList.all λt=>P.readableRec t&&Nat.blt t P.types.size)=true):
  s.post h_ P f b d c false W args (.bool true) m:=by
 have k:=g.lt;obtain⟨p,q,n,j,e,_,_⟩:=g;have g:DataW.Whole h_ P f.params.toList s.vars b W args.toList ds i a:=⟨p,q,n,j,e,by assumption,by assumption⟩;rw[o]at j;obtain⟨rfl,rfl⟩:=Go.ChangeShapes.trodVars_none j;rw[dQ]at e;subst e;refine⟨ds,[],a,[],a,[],g, ?_, ?_, ?_,U.keptBut _,λh=>by cases h⟩;rw[hs,v];exact Go.ChangeShapes.trodAll_mk1 (⟨1,by simp[DataW.trod,Value.cells,r]⟩);rw[hs];exact abG u U _ _ _ _ l k n;rw[hs,o];rfl
end
section
def uG(P:Program)(t:TypeId):DataW ax->Option aD
 | .lit l=>match P.underlying t,l with
  |some .bool,.bool b=>some (.bool b)
  |some (.int k),.int a z=>if a=k then some (.int k z) else none
  |some (.float k),.float a b=>if a=k then some (.float k b) else none
  |some .string,.string c=>some (.string ⟨c.toArray⟩)
  |_,_=>none
 |_=>none
def I4(P:Program)(f:TypeId->DataW ax->Option (aN)):List (TypeId×Nat)->Nat->List (DataW ax)->Option (aN)
 | [],_,[]=>some []
 |x::r,k,d::a=>if x.2=k then (f x.1 d).bind λl=>if l.length=P.cellsOf x.1 then (I4 P f r (k+l.length) a).map λm=>l++m else none else none
 |_,_,_=>none
def j9(P:Program):Nat->TypeId->DataW ax->Option (aN)
 |0,t,d=>(uG P t d).map λv=>[v]
 |n+1,t,d=>match d,P.underlying t with
  | .agg a,some (.struct b)=>(I4 P (j9 P n) (b.toList.map λf=>(f.type,f.offset)) 0 a).bind λl=>if l.length=P.cellsOf t then some l else none
  | .agg a,some (.array k e)=>(I4 P (j9 P n) ((List.range k).map λi=>(e,i*P.cellsOf e)) 0 a).bind λl=>if l.length=P.cellsOf t then some l else none
  |d,_=>(uG P t d).map λv=>[v]
section
variable{P:Program}{w:World}{h_:TypeId×aD->ax}{wV:Nat}{sp:Nat->Bool}{held:Bool}
theorem aa6{t:TypeId}{d:DataW ax}{v:aD}{a:Nat}{cs:aN}{p:List MemPlace}(h:DataW.trod h_ P w wV sp held a t cs=some (d,p))(b:uG P t d=some v):cs=[v]:=by
 cases a with
 |zero=>simp[DataW.trod]at h
 |succ n=>
  cases d <;> unfold uG at b <;> dsimp only at b <;> try contradiction
  rename_i l
  unfold DataW.trod at h;cases c:P.underlying t with
  |none=>rw[c]at b;cases b
  |some u=>
   rw[c]at h b;cases u <;> cases l <;> dsimp only at b <;> try contradiction
   all_goals (split at h <;> simp_all)
   all_goals (obtain⟨-,e,-⟩:=h;subst e;rw[<-b])
theorem Wv{f:TypeId->DataW ax->Option (aN)}{m:Nat}(j:∀t d l,f t d=some l->∀cs p,DataW.trod h_ P w wV sp held m t cs=some (d,p)->cs=l){cs:aN}:
  ∀(r:List (TypeId×Nat))(k:Nat)(a:List (DataW ax))(L:aN),I4 P f r k a=some L->
   (∀(i:Nat)x d,r[i]?=some x->a[i]?=some d->∃p,DataW.trod h_ P w wV sp held m x.1 ((cs.drop x.2).take (P.cellsOf x.1))=some (d,p))->cs.length=k+L.length->cs.drop k=L
 | [],k,[],L,h,_,b=>by
  cases h;rw[List.drop_eq_nil_of_le];rw[b];exact bK _
 |x::r,k,d::a,L,h,g,b=>by
  unfold I4 at h;split at h
  rename_i U
  obtain⟨l,o,h⟩:=Option.bind_eq_some_iff.1 h;split at h
  rename_i u
  obtain⟨q,s,rfl⟩:=Option.map_eq_some_iff.1 h;obtain⟨p,hp⟩:=g 0 x d rfl rfl;have e1:=j _ _ _ o _ _ hp;rw[U,<-u]at e1;rw[eH]at b;have n:=Wv j r (k+l.length) a q s (λi y e z v=>g (i+1) y e z v) O;have c:=List.take_append_drop l.length (cs.drop k);rw[e1,List.drop_drop,n]at c;exact c.symm;cases h;cases h
 | [],_,_::_,_,h,_,_=>by cases h
 |_::_,_,[],_,h,_,_=>by cases h
theorem Ld:∀(n:Nat)(t:TypeId)(d:DataW ax)(l:aN),j9 P n t d=some l->∀(a:Nat)(g:aN)(p:List MemPlace),DataW.trod h_ P w wV sp held a t g=some (d,p)->g=l
 |0,t,d,l,h,a,g,p,hp=>by
  unfold j9 at h;obtain⟨v,s,rfl⟩:=Option.map_eq_some_iff.1 h;exact aa6 hp s
 |n+1,t,d,l,h,a,g,p,hp=>by
  unfold j9 at h;split at h
  rename_i B H u
  obtain⟨L,r,h⟩:=Option.bind_eq_some_iff.1 h;split at h
  rename_i C
  cases h;obtain⟨G,m,rfl,c,F,z,b⟩:=DataW.trod_struct u hp;cases c;have:=Wv (m:=m) (λt d l e g p=>Ld n t d l e m g p) _ 0 _ l r (λi x d c o=>by
   rw[fZ,Option.map_eq_some_iff]at c o;obtain⟨f,D,rfl⟩:=c;obtain⟨y,A,rfl⟩:=o;exact⟨y.2,by rw[b i f (by simpa using D),A]⟩) O
  simpa using this;cases h
  rename_i B k e u
  obtain⟨L,r,h⟩:=Option.bind_eq_some_iff.1 h;split at h
  rename_i C
  cases h;obtain⟨G,m,rfl,c,F,z,b⟩:=DataW.trod_array u hp;cases c;have:=Wv (m:=m) (λt d l e g p=>Ld n t d l e m g p) _ 0 _ l r (λi x d c o=>by
   rw[fZ,Option.map_eq_some_iff]at c o;obtain⟨j,E,rfl⟩:=c;obtain⟨y,A,rfl⟩:=o;obtain⟨q,rfl⟩:=ic.1 E;rw[List.length_range]at q;rw[List.getElem_range];exact⟨y.2,by rw[b i q,A]⟩) O
  simpa using this;cases h;obtain⟨v,s,rfl⟩:=Option.map_eq_some_iff.1 h;exact aa6 hp s
theorem abj{b:Nat}{t e:TypeId}{cs:aN}{ds sd:List (DataW ax)}{p:List MemPlace}(G:P.underlying t=some (.slice e))(hp:DataW.trod h_ P w wV sp held b t cs=some (.slice ds sd,p)):
  ∃a c,cs=[.slice (some a) ds.length c]/\∀(n i:Nat)(d:DataW ax)(l:aN),ds[i]?=some d->j9 P n e d=some l->∀(j:Nat)(v:aD),l[j]?=some v->w.cell? (a.add (i*P.cellsOf e+j))=some v:=by
 rcases DataW.trod_slice G hp with⟨_,h⟩| ⟨a,len,aq,K,rs,m,rfl,rfl,h,J,F,A,B,f,_,_⟩;cases h;cases h;refine⟨a,aq,by simp[*],λn i d l o C j v q=>?_⟩;rw[fZ,Option.map_eq_some_iff]at o;obtain⟨y,H,rfl⟩:=o;have D:i<len:=by grind
 have k:=f i D;rw[H]at k;obtain⟨r,s,u⟩:=Option.bind_eq_some_iff.1 k;have x:=Ld n e y.1 l C m r y.2 u;subst x;obtain⟨_,I,z⟩:=World.cells?_some s;have E:=(ic.1 q).1;have g:=z j O;rw[q]at g;rw[Addr.add_add]at g;exact g
theorem abk{a:Addr}{v:aD}(h:w.cell? a=some v):a.spot=none:=by
 unfold World.cell? at h;split at h;cases b:a.spot with
 |none=>rfl
 |some s=>rw[b]at h;simp at h
 cases h
end
def u9(P:Program)(w:World)(n:String)(d:DataW ax):Prop:=
 ∃g t b a p,P.globalNamed n=some g/\(P.globals[g]?).map (·.type)=some t/\w.var? P n=some b/\DataW.trod (λ_=>()) P w 0 (λ_=>true) false a t b.toList=some (d,p)
def abU{P:Program}{w:World}:∀{l:List (String×DataW ax)}{c:List MemPlace},DataW.LaidVars P w l c->∀x∈l,u9 P w x.1 x.2
 | [],_,_,_,b=>by cases b
 | (n,d)::r,c,h,x,b=>by
  obtain⟨g,t,f,a,p,q,i,j,k,m,o,_⟩:=h;rcases List.mem_cons.1 b with e|e;subst e;exact⟨g,t,f,a,p,i,j,k,m⟩;exact abU o x e
def sE{P:Program}{w:World}{l:List (String×DataW ax)}(h:laidMet P l w)(i:Nat){n:String}{d:DataW ax}(a:l[i]?=some (n,d)):u9 P w n d:=
 let ⟨_,b,_⟩:=h
 abU b _ (iz a)
section
variable{P:Program}{w:World}{n:String}{d:DataW ax}{g:Nat}{t e:TypeId}{l:aN}
theorem u9.flat(h:u9 P w n d)(j:P.globalNamed n=some g)(m:(P.globals[g]?).map (·.type)=some t)(k:Nat)(i:j9 P k t d=some l):∃t f,w.heap[g]?=some (.cells ⟨l⟩ t f):=by
 obtain⟨q,r,e,c,p,a,b,o,hp⟩:=h;obtain rfl:=Option.some.inj (j.symm.trans a);obtain rfl:=Option.some.inj (m.symm.trans b);have:=Ld k _ _ _ i _ _ _ hp;obtain⟨cl⟩:=e;have this:cl=l:=this;subst this;unfold World.var? at o;grind
theorem u9.look(h:u9 P w n d)(b:P.globalNamed n=some g)(c:(P.globals[g]?).map (·.type)=some t)(k:Nat)(a:j9 P k t d=some l)(i:Nat){v:aD}(j:l[i]?=some v):aH (gG w) ⟨g,i,none⟩ v:=by
 obtain⟨t,f,e⟩:=h.flat b c k a;refine zl ?_;unfold World.cell?;simp[*]
theorem u9.WD{ds sd:List (DataW ax)}(h:u9 P w n (.slice ds sd))(x:P.globalNamed n=some g)(F:(P.globals[g]?).map (·.type)=some t)(G:P.underlying t=some (.slice e))(k:Nat)(z:∃d v l,ds[0]?=some d/\j9 P k e d=some (v::l)):
  ∃b o c,aH (gG w) ⟨g,0,none⟩ (.slice (some ⟨b,o,none⟩) ds.length c)/\∀(i:Nat)(d:DataW ax)(l:aN),ds[i]?=some d->j9 P k e d=some l->∀(j:Nat)(v:aD),l[j]?=some v->aH (gG w) ⟨b,o+(i*P.cellsOf e+j),none⟩ v:=by
 obtain⟨K,N,J,q,p,f,m,H,hp⟩:=h;obtain rfl:=Option.some.inj (x.symm.trans f);obtain rfl:=Option.some.inj (F.symm.trans m);obtain⟨a,c,A,r⟩:=abj G hp;obtain⟨y,I,M,q1,q2⟩:=z;have u:=abk (r k 0 y _ q1 q2 0 I rfl);obtain⟨b,o,s⟩:=a;have B:s=none:=by{rw[Nat.zero_mul]at u;exact u};subst B;refine⟨b,o,c,zl ?_,λi d l C D j v E=>zl ?_⟩;rw[World.var?_cell x H 0,<-Array.getElem?_toList,A];rfl;have L:=r k i d l C D j v E;have e:(Addr.mk b o none).add (i*P.cellsOf e+j)=⟨b,o+(i*P.cellsOf e+j),none⟩:=by{unfold Addr.add;simp[*]};grind
theorem u9.anz{k:Nat}{s:TypeId}{l:List (List (DataW ax))}(h:u9 P w n (.agg (l.map λf=>.slice f [])))(H:P.globalNamed n=some g)(T:(P.globals[g]?).map (·.type)=some t)(U:P.underlying t=some (.array k e))(R:P.underlying e=some (.slice s))(O:P.cellsOf e=1)(hs:P.cellsOf s=1):
  ∀(i:Nat)(f:List (DataW ax)),l[i]?=some f->(∃d v,f[0]?=some d/\uG P s d=some v)->
   ∃b o c,aH (gG w) ⟨g,i,none⟩ (.slice (some ⟨b,o,none⟩) f.length c)/\∀(j:Nat)(d:DataW ax)(v:aD),f[j]?=some d->uG P s d=some v->aH (gG w) ⟨b,o+j,none⟩ v:=by
 obtain⟨g0,t0,Z,F,p,A,C,V,hp⟩:=h;obtain rfl:=Option.some.inj (H.symm.trans A);obtain rfl:=Option.some.inj (T.symm.trans C);obtain⟨J,m,rfl,hx,hl,W,u⟩:=DataW.trod_array U hp;intro i f hi ⟨K,I,q1,q2⟩;have X:l.map (λf=>(.slice f []:DataW ax))=J.map (·.1):=by{grind};have x:(J.map (·.1))[i]?=some (.slice f []):=by grind
 rw[fZ,Option.map_eq_some_iff]at x;obtain⟨⟨y,q⟩,Y,r⟩:=x;have r:y= .slice f []:=r;subst r;have B:i<k:=by grind
 have G:=u i B;rw[Y,O,Nat.mul_one]at G;obtain⟨a,c,e1,D⟩:=abj R G;have E:∀{d:DataW ax}{v:aD},uG P s d=some v->j9 P 0 s d=some [v]:=λh=>by unfold j9;simp[*]
 have M:=D 0 0 K [I] q1 (E q2) 0 I rfl;have z:=abk M;rw[Nat.zero_mul]at z;obtain⟨b,o,sp⟩:=a;have z:sp=none:=z;subst z;refine⟨b,o,c,zl ?_,λj d v S Q=>zl ?_⟩;have L:=congrArg (·[0]?) e1;simp only[List.getElem?_take,List.getElem?_drop]at L;rw[World.var?_cell H V i,<-Array.getElem?_toList];grind;have N:=D 0 j d [v] S (E Q) 0 v rfl;rw[hs,Nat.mul_one,Nat.add_zero]at N;have e:(Addr.mk b o none).add j=⟨b,o+j,none⟩:=by{unfold Addr.add;simp[*]};grind
end
section
variable{H:Type}{h_:TypeId×aD->H}
theorem anl{a:Assume}{C:Checked}{os:Os}{f:FuncId}{l:Func}{s:ChangeSpec}{k:List PathCond}{b m g again:Bool}{X:World->Prop}
  (K:∀(w J:World),w.heap=J.heap->X w->X J)
  (F:ownKnob C.prog.godebug=none) (n:os.Started) (p:C.prog.inits.idxOf? f=none) (A:C.prog.funcs[f]?=some l)
  (o:∃(w:World)(c:Tape)(i:Input),w.os=os/\(w.forCall c i).Shaped C.prog/\i.vars=[]/\Input.okWide C.prog (w.forCall c i) .any w.heap.size f i/\
   ((s.pre h_ C.prog l k b (w.forCall c i).memory i.args/\X (w.forCall c i).memory)/\sizedMet h_ C.prog l (OpenSpec.ofChange s) b (w.forCall c i).memory i.args)/\a.holds C.prog (lone (Frame.enter C.prog f i.args .normal) [] (w.forCall c i)))
  (h:∀(W:World)(wV:Nat)(args:Array aD)(x y:List (DataW H))(d:List MemPlace),
   (∀(j:Nat)t v,l.params[j]?=some t->args[j]?=some v->Value.okWide C.prog W .any wV t v)->
   DataW.Whole h_ C.prog l.params.toList s.vars b W args.toList x y d->W.ShapedOpen C.prog->
   (DataW.weightsEach C.prog (l.params.toList++s.plain.varTypes C.prog) (x++y)).all (·<=reachBytes)=true->X W->
   Calls C.prog f args W λe G=>∃v,e= .returned v/\s.post h_ C.prog l b m g again W args v G):
  ReturnsInHanded a C os f .any (λw args=>(s.pre h_ C.prog l k b w args/\X w)/\sizedMet h_ C.prog l (OpenSpec.ofChange s) b w args) (s.post h_ C.prog l b m g again):=by
 refine returnsInHanded_of_calls F n p o ?_;intro w c i _ D _ B r _;obtain⟨_,_,_,z,q,_,_,_,_,u⟩:=B;have e:z=l:=Option.some.inj (q.symm.trans A);subst e;obtain⟨⟨⟨x,y,d,I,_⟩,M⟩,N⟩:=r;have E:=DataW.Whole.of_heap (w':=w.forCall c i) (by rfl) I;refine(h (w.forCall c i) w.heap.size i.args x y d u E D (N.weights I) (K _ _ (by rfl) M)).mono λe G⟨v,L,hp⟩=>?_;subst L;exact ChangeSpec.post_blind hp
end
end
section
variable{A:ag}{I:aX}{As Ks:List ag}{dJ:a_}{cs:aN}{k:Nat}{r:Row}{S:St}{e:TypeId}{w:World}
theorem jk(j:Nat)(c:j∉dJ)(e:gt S j=A):Sub A (.cJ (rest S dJ)):=by
 intro I h o b;obtain⟨f,a,_,_⟩:=b;have:=a j;rw[Ll]at this;simp only[c,if_false]at this;rw[e]at this;exact⟨_,this⟩
theorem CP(j:Nat)(b:j∉dJ)(a:gt S j=r.A)(h:bl e k cs r):e8 (.cJ (rest S dJ)) r.a cs:=e8.sub (jk j b a) h.FY
theorem afD{t:Bool}{A B:Prop}(h:t=true)(a:A):Br t A B:=ar (λ_=>a) (λe=>by rw[h]at e;cases e)
theorem bl.KO(h:bl e k cs r)(hn:0<r.n):∃b,r.a=some ⟨b,0,none⟩:=by
 cases h with
 |nil _=>exact absurd hn (Nat.lt_irrefl 0)
 |ft b n aq d a c hn=>exact⟨b,rfl⟩
def tR(As:List ag):ag:=.cJ (rest (bu As) [])
theorem R8{j:Nat}(h:j<Ks.length):gt (bu (Ks++As)) j=Ks.getD j .d7:=by
 rw[vp,eG,m5 h,eG]
theorem Lm(Ks As:List ag)(i:Nat):gt (bu (Ks++As)) (Ks.length+i)=As.getD i .d7:=by
 rw[vp,eG,lQ O,eG];congr 2;omega
theorem Sat.X_(h:Sat I (bu (Ks++As)) w):Sat I (bu (Ks++[tR As])) w:=by
 obtain⟨⟨f,n,d,o⟩,s⟩:=h;refine⟨⟨λj b=>(j<Ks.length/\f j b)\/(j=Ks.length/\∃i,f (Ks.length+i) b),λj=>?_, ?_, ?_⟩,s⟩;by_cases m:j<Ks.length;rw[R8 m];have:=n j;rw[R8 m]at this;have e:(λb=>(j<Ks.length/\f j b)\/(j=Ks.length/\∃i,f (Ks.length+i) b))=f j:=by{funext b;apply propext;constructor;rintro(⟨_,h⟩| ⟨h,_⟩);exact h;omega;intro h;exact .inl ⟨m,h⟩};dsimp only;rw[e];exact this;by_cases r:j=Ks.length;subst r;have g:gt (bu (Ks++[tR As])) Ks.length=tR As:=Lm Ks [tR As] 0;rw[g];refine⟨λi=>f (Ks.length+i),λi=>?_,λi j b k l=>?_,λi b k=>.inr ⟨rfl,i,k⟩⟩;have:=n (Ks.length+i);rw[Lm]at this;show(gt (bu As) i).holds I (hp w) _;rw[vp];exact this;have:=d _ _ _ k l;omega;have g:gt (bu (Ks++[tR As])) j= .d7:=by{rw[vp,eG,oH (by simp;omega)];rfl};rw[g];trivial;rintro i j b (⟨p,a⟩| ⟨p,t,a⟩) (⟨q,c⟩| ⟨q,u,c⟩);exact d _ _ _ a c;have:=d _ _ _ a c;omega;have:=d _ _ _ a c;omega;omega;rintro j b (⟨_,h⟩| ⟨_,i,h⟩);exact o _ _ h;exact o _ _ h
theorem Sat.abL(h:Sat I (bu (Ks++[tR As])) w):Sat I (bu (Ks++As)) w:=by
 obtain⟨⟨f,l,k,m⟩,u⟩:=h;have n:=l Ks.length;have r:gt (bu (Ks++[tR As])) Ks.length=tR As:=Lm Ks [tR As] 0;rw[r]at n;obtain⟨g,s,t,d⟩:=n;refine⟨⟨λj b=>(j<Ks.length/\f j b)\/(Ks.length<=j/\g (j-Ks.length) b),λj=>?_, ?_, ?_⟩,u⟩;by_cases o:j<Ks.length;have:=l j;rw[R8 o]at this⊢;have e:(λb=>(j<Ks.length/\f j b)\/(Ks.length<=j/\g (j-Ks.length) b))=f j:=by{funext b;apply propext;constructor;rintro(⟨_,h⟩| ⟨h,_⟩);exact h;omega;intro h;exact .inl ⟨o,h⟩};dsimp only;rw[e];exact this;obtain⟨i,rfl⟩:∃i,j=Ks.length+i:=⟨j-Ks.length,O⟩;have:=s i;replace this:(gt (bu As) i).holds I (hp w) (g i):=this;rw[vp]at this;rw[Lm];have e:(λb=>(Ks.length+i<Ks.length/\f (Ks.length+i) b)\/(Ks.length<=Ks.length+i/\g (Ks.length+i-Ks.length) b))=g i:=by{funext b;apply propext;rw[Nat.add_sub_cancel_left];constructor;rintro(⟨h,_⟩| ⟨_,h⟩);omega;exact h;intro h;exact .inr ⟨Nat.le_add_right _ _,h⟩};dsimp only;rw[e];exact this;rintro i j b (⟨p,a⟩| ⟨p,a⟩) (⟨q,c⟩| ⟨q,c⟩);exact k _ _ _ a c;have:=k _ _ _ a (d _ _ c);omega;have:=k _ _ _ (d _ _ a) c;omega;have:=t _ _ _ a c;omega;rintro j b (⟨_,h⟩| ⟨_,h⟩);exact m _ _ h;exact m _ _ (d _ _ h)
theorem acY{a:Addr}{v:aD}(i:Nat)(h:As[i]?=some A)(b:aH A a v):aH (tR As) a v:=by
 refine aH.rest (j:=i) X ?_;rw[vp,eG,h];exact b
theorem ao{S':St}(l:a_)(a:nodupB l=true:=by exact rfl)(b:bu (l.map (gt S))=S':=by exact rfl):ay S S':=ay.pick l a b
theorem iy{p:Prop}(h:p:=by exact⟨(),trivial,rfl,ay.pick [0] rfl rfl⟩):p:=h
theorem bB(j:Nat)(h:j∉dJ:=by simp)(e:gt S j=A:=by exact rfl):Sub A (.cJ (rest S dJ)):=jk j h e
end
structure PN where
 a:bv
 n:Nat
 aq:Nat
 h:Int
def CW:j5 where
 X:=PN
 args x:=[.slice x.a x.n x.aq,.int .i64 x.h]
 cond x:=0<=x.h/\x.h<=x.aq
 val x:=.slice x.a x.h.toNat x.aq
def WE{P:Program}{o:Oper}{t e:TypeId}{x y:Operand}{d:TypeInfo}(g:o.op= .slice t x none (some y) none)(m:P.underlying t=some (.slice e))(l:P.info? e=some d):cN P o CW:=by
 refine⟨λq w ρ f k=>?_⟩;obtain⟨a,n,aq,h⟩:=q;obtain⟨i,j⟩:=k;simp only[g,Op.operands,CW]at f;have c:ρ x= .slice a n aq/\ρ y= .int .i64 h:=by simpa using f
 obtain⟨p,r⟩:=c;simp[execOp,g,p,r,Instr.sliceAt,Instr.slice,Instr.sliceBounds,Instr.sliceBound,asIntOf,run_underlying m,run_sizeOf w l,i,j,CW];intro _;cases a with
 |none=>rfl
 |some b=>simp[Addr.add]
end Go.Proofs.YthhiffpfleacaaaGreatDoor
