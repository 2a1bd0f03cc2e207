/- A part of the proof that pennantlaw07.PrintSpread answers true at every input. -/
import Derived.Test.YthhiffpfleacaaaGreatDoorPPaa
set_option linter.all false
namespace Go.Proofs.YthhiffpfleacaaaGreatDoor
set_option maxRecDepth 100000
open Go.Value (int slice string bool pointer agg tuple func float iface nilIface)
open Go.IntKind (i64 u8 u64 i32 u32 u16 i8 i16)
open Go.FloatKind (f64)
open Go.Ending (returned panicked)
open Go.Proofs.Tryz
section
structure a8 where
 ak:Int
 aJ:ah
 aT:Nat
 au:Int
 aB:Bool
structure aR where
 ak:Int
 op:ah
 aT:Nat
 b:aM
 au:Int
structure ap where
 i:Nat
 a:List aR
 h:Int
 loops:Int
 d:Int
inductive PR(α:Type)where
 |ok (a:α) (s:ap)
 |stop (p e:Int) (s:ap)
 |out
def j(α:Type):=ap->PR α
def ret{α:Type}(a:α):j α:=λs=>.ok a s
def bP{α β:Type}(m:j α)(f:α->j β):j β:=λs=>
 match m s with
 | .ok a t=>f a t
 | .stop p e t=>.stop p e t
 | .out=>.out
instance:Monad j where
 pure:=ret
 bind:=bP
def SJ{α:Type}:j α:=λ_=>.out
def ahj{α:Type}(p e:Int):j α:=λs=>.stop p e s
def fd:j ap:=λs=>.ok s s
def jU(s:ap):j ax:=λ_=>.ok () s
def fh:j ax:=λs=>.ok () {s with i:=s.i+1}
def dX(x:aR):j Int:=λs=>.ok s.a.length {s with a:=s.a++[x]}
def bx(a b:ah):Bool:=a==b
def qm:ah:=⟨#[63]⟩
def colon:ah:=⟨#[58]⟩
def YD:ah:=⟨#[46]⟩
def lb:ah:=⟨#[91]⟩
def rb:ah:=⟨#[93]⟩
def lp:ah:=⟨#[40]⟩
def rp:ah:=⟨#[41]⟩
def lc:ah:=⟨#[123]⟩
def rc:ah:=⟨#[125]⟩
def qV:ah:=⟨#[44]⟩
def dt:ah:=⟨#[59]⟩
def eq:ah:=⟨#[61]⟩
def Jj:ah:=⟨#[116,114,117,101]⟩
def Jh:ah:=⟨#[102,97,108,115,101]⟩
def Ji:ah:=⟨#[110,117,108,108]⟩
def uK:ah:=⟨#[102,117,110,99,116,105,111,110]⟩
def WL:ah:=⟨#[100,101,108,101,116,101]⟩
def oi:ah:=⟨#[118,97,114]⟩
def wi:ah:=⟨#[105,110]⟩
def rN:ah:=⟨#[114,101,116,117,114,110]⟩
def rK:ah:=⟨#[98,114,101,97,107]⟩
def rL:ah:=⟨#[99,111,110,116,105,110,117,101]⟩
def tw:ah:=⟨#[116,104,114,111,119]⟩
def C6:ah:=⟨#[105,102]⟩
def C4:ah:=⟨#[101,108,115,101]⟩
def C8:ah:=⟨#[119,104,105,108,101]⟩
def C5:ah:=⟨#[102,111,114]⟩
def C7:ah:=⟨#[116,114,121]⟩
def abu:ah:=⟨#[99,97,116,99,104]⟩
def rM:ah:=⟨#[102,105,110,97,108,108,121]⟩
def F3:ah:=⟨#[115,119,105,116,99,104]⟩
def C3:ah:=⟨#[99,97,115,101]⟩
def uJ:ah:=⟨#[100,101,102,97,117,108,116]⟩
def pp:ah:=⟨#[43,43]⟩
def mm:ah:=⟨#[45,45]⟩
def pB:List (List ah):=[[⟨#[124,124]⟩],[⟨#[38,38]⟩],[⟨#[124]⟩],[⟨#[94]⟩],[⟨#[38]⟩],[⟨#[61,61]⟩,⟨#[33,61]⟩,⟨#[61,61,61]⟩,⟨#[33,61,61]⟩],[⟨#[60]⟩,⟨#[62]⟩,⟨#[60,61]⟩,⟨#[62,61]⟩,⟨#[105,110]⟩],[⟨#[60,60]⟩,⟨#[62,62]⟩,⟨#[62,62,62]⟩],[⟨#[43]⟩,⟨#[45]⟩],[⟨#[42]⟩,⟨#[47]⟩,⟨#[37]⟩]]
def qQ:List ah:=[⟨#[61]⟩,⟨#[43,61]⟩,⟨#[45,61]⟩,⟨#[42,61]⟩,⟨#[47,61]⟩,⟨#[37,61]⟩]
def wu:List ah:=[⟨#[45]⟩,⟨#[43]⟩,⟨#[33]⟩,⟨#[126]⟩,⟨#[116,121,112,101,111,102]⟩,⟨#[100,101,108,101,116,101]⟩]
def cI(l:List ah)(t:ah):Bool:=l.any λx=>bx t x
def iI:Nat:=4607182418800017408
def uL:Nat:=4611686018427387904
def wm:Nat:=4613937818241073152
section
variable(L:List a8)(ae:Int)(aO:Nat->ah)(wide:ah->ah)
def I(s:ap):a8:=(L[s.i]?).getD ⟨0,.empty,0,ae,false⟩
def K(s:ap)(ahead:Nat)(t:ah):Bool:=
 match L[s.i+ahead]? with
 |none=>false
 |some x=>(x.ak==5||x.ak==2)&&bx x.aJ t
def nameV(s:ap)(ahead:Nat):Bool:=
 match L[s.i+ahead]? with
 |none=>false
 |some x=>x.ak==1
def ju{α:Type}:j α:=λs=>.stop (I L ae s).au 60 s
def cT(t:ah):j Bool:=λs=>bif K L s 0 t then .ok true {s with i:=s.i+1} else .ok false s
def cu(t:ah):j ax:=λs=>bif K L s 0 t then .ok () {s with i:=s.i+1} else .stop (I L ae s).au 60 s
def jM(ahead:Nat)(t:ah):j Bool:=λs=>.ok (K L s ahead t) s
def gk:j a8:=λs=>.ok (I L ae s) s
def dG(s:ap)(k:Int):Int:=((s.a[k.toNat]?).map (·.au)).getD 0
def uc(s:ap)(k:Int):Int:=((s.a[k.toNat]?).map (·.ak)).getD 0
def fz(k:Int):j Int:=λs=>.ok (dG s k) s
def mD(k:Int)(a:Bool):j ax:=λs=>
 bif uc s k !=8&&(uc s k !=9&&(uc s k !=3|| !a)) then .stop (dG s k) 61 s else .ok () s
def iM:j ah:=λs=>bif (I L ae s).ak !=1 then .stop (I L ae s).au 60 s else .ok (I L ae s).aJ {s with i:=s.i+1}
def eh:j ax:=λs=>
 bif K L s 0 dt then .ok () {s with i:=s.i+1}
 else bif K L s 0 rc||(decide (s.i>=L.length)||(I L ae s).aB) then .ok () s else .stop (I L ae s).au 60 s
def ec:j Int:=λs=>
 let x:=I L ae s
 bif x.ak==1||x.ak==2 then dX ⟨2,wide x.aJ,0,[],x.au⟩ {s with i:=s.i+1}
 else bif x.ak==3 then dX ⟨2,wide (aO x.aT),0,[],x.au⟩ {s with i:=s.i+1}
 else bif x.ak==4 then dX ⟨2,x.aJ,0,[],x.au⟩ {s with i:=s.i+1}
 else .stop x.au 60 s
def kF:j Int:=do
 let x <-gk L ae
 dX ⟨36,.empty,0,[],x.au⟩
inductive aj where
 |bf|cond|level (n:Nat)|ig (n:Nat) (left:Int)|unary|eo|suffix|eX (k:Int)|eV (b:aM)|de (b:aM)|dr (b:aM)|dL
 |func (ak:Int)|ed (b:aM)|block (body:Bool)|gQ (b:aM) (body:Bool)|paren|vars|eO (b:aM)|loop|dv (au:Int)|d5 (au:Int)|choose (au:Int)|fk (b:aM) (seen:Bool)|fM (b:aM)
 |simple (x:a8)|cw (body:Bool)|prog (b:aM)
def one(m:j (aM)):j Int:=bP m λl=>ret (l.headD 0)
def cj(x:aR):j (aM):=bP (dX x) λk=>ret [k]
def P:Nat->aj->j (aM)
 |0,_=>SJ
 |f+1,.bf=>do
  let left <-one (P f .cond)
  let x <-gk L ae
  bif x.ak !=5|| !cI qQ x.aJ then ret [left] else do
   mD left true
   fh
   let right <-one (P f .bf)
   cj ⟨16,x.aJ,0,[left,right],<-fz left⟩
 |f+1,.cond=>do
  let c <-one (P f (.level 0))
  let g <-cT L qm
  bif !g then ret [c] else do
   let a <-one (P f .bf)
   cu L ae colon
   let b <-one (P f .bf)
   cj ⟨15,.empty,0,[c,a,b],<-fz c⟩
 |f+1,.level n=>bif n==10 then P f .unary else do
   let left <-one (P f (.level (n+1)))
   P f (.ig n left)
 |f+1,.ig n left=>do
  let x <-gk L ae
  bif (x.ak !=5&&x.ak !=2)|| !cI ((pB[n]?).getD []) x.aJ then ret [left] else do
   fh
   let right <-one (P f (.level (n+1)))
   let k <-dX ⟨bif decide (n<2) then 14 else 13,x.aJ,0,[left,right],<-fz left⟩
   P f (.ig n k)
 |f+1,.unary=>do
  let x <-gk L ae
  bif x.ak !=5&&x.ak !=2 then P f .eo
  else bif cI wu x.aJ then do
   fh
   let k <-one (P f .unary)
   bif bx x.aJ WL then mD k false else ret ()
   cj ⟨11,x.aJ,0,[k],x.au⟩
  else bif cI [pp,mm] x.aJ then do
   fh
   let k <-one (P f .unary)
   mD k true
   cj ⟨12,x.aJ,iI,[k],x.au⟩
  else P f .eo
 |f+1,.eo=>do
  let k <-one (P f .suffix)
  let x <-gk L ae
  bif x.ak !=5||(x.aB||(!bx x.aJ pp&& !bx x.aJ mm)) then ret [k] else do
   mD k true
   fh
   cj ⟨12,x.aJ,0,[k],<-fz k⟩
 |f+1,.suffix=>do
  let k <-one (P f .dL)
  P f (.eX k)
 |f+1,.eX k=>do
  let g <-cT L YD
  bif g then do
   let x <-gk L ae
   bif x.ak !=1&&x.ak !=2 then ju L ae else ret ()
   fh
   let m <-dX ⟨8,x.aJ,0,[k],<-fz k⟩
   P f (.eX m)
  else do
   let g <-cT L lb
   bif g then do
    let e <-one (P f .bf)
    cu L ae rb
    let m <-dX ⟨9,.empty,0,[k,e],<-fz k⟩
    P f (.eX m)
   else do
    let g <-cT L lp
    bif g then do
     let l <-P f (.eV [k])
     let m <-dX ⟨10,.empty,0,l,<-fz k⟩
     P f (.eX m)
    else ret [k]
 |f+1,.eV l=>do
  let g <-cT L rp
  bif g then ret l else do
   bif decide (l.length>1) then cu L ae qV else ret ()
   let e <-one (P f .bf)
   P f (.eV (l++[e]))
 |f+1,.de l=>do
  let g <-cT L rb
  bif g then ret l else do
   let e <-one (P f .bf)
   let h <-jM L 0 rb
   bif !h then cu L ae qV else ret ()
   P f (.de (l++[e]))
 |f+1,.dr l=>do
  let g <-cT L rc
  bif g then ret l else do
   let k <-ec L ae aO wide
   cu L ae colon
   let e <-one (P f .bf)
   let h <-jM L 0 rc
   bif !h then cu L ae qV else ret ()
   P f (.dr (l++[k]++[e]))
 |f+1,.dL=>do
  let x <-gk L ae
  bif x.ak==3 then do
   fh
   cj ⟨1,.empty,x.aT,[],x.au⟩
  else bif x.ak==4 then do
   fh
   cj ⟨2,x.aJ,0,[],x.au⟩
  else bif x.ak==1 then do
   fh
   cj ⟨3,x.aJ,0,[],x.au⟩
  else do
   let s <-fd
   bif K L s 0 Jj||(K L s 0 Jh||K L s 0 Ji) then do
    fh
    cj ⟨4,x.aJ,0,[],x.au⟩
   else bif K L s 0 uK then P f (.func 7)
   else do
    let g <-cT L lp
    bif g then do
     let k <-one (P f .bf)
     cu L ae rp
     ret [k]
    else do
     let g <-cT L lb
     bif g then do
      let l <-P f (.de [])
      cj ⟨5,.empty,0,l,x.au⟩
     else do
      let g <-cT L lc
      bif g then do
       let l <-P f (.dr [])
       cj ⟨6,.empty,0,l,x.au⟩
      else ju L ae
 |f+1,.func ak=>do
  let x <-gk L ae
  fh
  let s <-fd
  let q <-bif ak==35||nameV L s 0 then iM L ae else ret .empty
  cu L ae lp
  let u <-P f (.ed [])
  let s <-fd
  jU {s with h:=s.h+1,loops:=0,d:=0}
  let b <-one (P f (.block true))
  let t <-fd
  jU {t with h:=t.h-1,loops:=s.loops,d:=s.d}
  cj ⟨ak,q,0,u++[b],x.au⟩
 |f+1,.ed l=>do
  let g <-cT L rp
  bif g then ret l else do
   bif decide (l.length>0) then cu L ae qV else ret ()
   let x <-gk L ae
   let w <-iM L ae
   let k <-dX ⟨3,w,0,[],x.au⟩
   P f (.ed (l++[k]))
 |f+1,.block body=>do
  let x <-gk L ae
  cu L ae lc
  let l <-P f (.gQ [] body)
  cj ⟨23,.empty,0,l,x.au⟩
 |f+1,.gQ l body=>do
  let g <-cT L rc
  bif g then ret l else do
   let k <-one (P f (.cw body))
   P f (.gQ (l++[k]) body)
 |f+1,.paren=>do
  cu L ae lp
  let k <-one (P f .bf)
  cu L ae rp
  ret [k]
 |f+1,.vars=>do
  let x <-gk L ae
  fh
  let l <-P f (.eO [])
  cj ⟨21,.empty,0,l,x.au⟩
 |f+1,.eO l=>do
  let x <-gk L ae
  let w <-iM L ae
  let g <-cT L eq
  let p <-bif g then P f .bf else ret []
  let k <-dX ⟨22,w,0,p,x.au⟩
  let h <-cT L qV
  bif !h then ret (l++[k]) else P f (.eO (l++[k]))
 |f+1,.loop=>do
  let s <-fd
  jU {s with loops:=s.loops+1,d:=s.d+1}
  let k <-one (P f (.cw false))
  let t <-fd
  jU {t with loops:=t.loops-1,d:=t.d-1}
  ret [k]
 |f+1,.dv au=>do
  cu L ae lp
  let s <-fd
  let v:Nat:=bif K L s 0 oi then 1 else 0
  bif nameV L s v&&K L s (v+1) wi then do
   jU {s with i:=s.i+v+2}
   let e <-one (P f .bf)
   cu L ae rp
   let b <-one (P f .loop)
   cj ⟨27,((L[s.i+v]?).map (·.aJ)).getD .empty,bif v==1 then iI else 0,[e,b],au⟩
  else do
   let a <-bif v==1 then one (P f .vars) else bif K L s 0 dt then kF L ae else do
    let x <-gk L ae
    let e <-one (P f .bf)
    dX ⟨20,.empty,0,[e],x.au⟩
   cu L ae dt
   let h <-jM L 0 dt
   let c <-bif h then kF L ae else one (P f .bf)
   cu L ae dt
   let h <-jM L 0 rp
   let d <-bif h then kF L ae else one (P f .bf)
   cu L ae rp
   let b <-one (P f .loop)
   cj ⟨26,.empty,0,[a,c,d,b],au⟩
 |f+1,.d5 au=>do
  let b <-one (P f (.block false))
  let g <-cT L abu
  let (q,p) <-bif g then do
    cu L ae lp
    let w <-iM L ae
    cu L ae rp
    let c <-one (P f (.block false))
    ret (w,[c])
   else ret (.empty,[])
  let s <-fd
  bif !g&& !K L s 0 rM then ju L ae else ret ()
  let h <-cT L rM
  let r <-bif h then P f (.block false) else ret []
  cj ⟨34-2,q,bif g then (bif h then wm else iI) else uL,[b]++p++r,au⟩
 |f+1,.choose au=>do
  let c <-one (P f .paren)
  cu L ae lc
  let s <-fd
  jU {s with d:=s.d+1}
  let l <-P f (.fk [c] false)
  let t <-fd
  jU {t with d:=t.d-1}
  cj ⟨33,.empty,0,l,au⟩
 |f+1,.fk l seen=>do
  let g <-cT L rc
  bif g then ret l else do
   let x <-gk L ae
   let g <-cT L C3
   let p <-bif g then P f .bf else do
    let h <-jM L 0 uJ
    bif h&& !seen then do
     fh
     ret []
    else ju L ae
   cu L ae colon
   let all <-P f (.fM p)
   let k <-dX ⟨34,.empty,bif g then 0 else iI,all,x.au⟩
   P f (.fk (l++[k]) (bif g then seen else true))
 |f+1,.fM l=>do
  let s <-fd
  bif !K L s 0 C3&&(!K L s 0 uJ&& !K L s 0 rc) then do
   let k <-one (P f (.cw false))
   P f (.fM (l++[k]))
  else ret l
 |f+1,.simple x=>do
  let s <-fd
  let ak <-bif bx x.aJ rN&&decide (s.h>0) then ret 28 else bif bx x.aJ rK&&decide (s.d>0) then ret 29 else bif bx x.aJ rL&&decide (s.loops>0) then ret 30 else bif bx x.aJ tw then ret 31 else ju L ae
  fh
  let n <-gk L ae
  let s <-fd
  bif ak==(31:Int)&&n.aB then ju L ae else ret ()
  let p <-bif ak==(31:Int)||(ak==(28:Int)&&(decide (s.i<L.length)&&(!n.aB&&(!K L s 0 dt&& !K L s 0 rc)))) then P f .bf else ret []
  eh L ae
  cj ⟨ak,.empty,0,p,x.au⟩
 |f+1,.cw body=>do
  let x <-gk L ae
  let s <-fd
  bif K L s 0 lc then P f (.block false)
  else bif K L s 0 dt then do
   let k <-kF L ae
   fh
   ret [k]
  else do
   let o:j (aM):=do
    let e <-one (P f .bf)
    eh L ae
    cj ⟨20,.empty,0,[e],x.au⟩
   bif x.ak==2 then
    bif bx x.aJ oi then do
     let v <-one (P f .vars)
     eh L ae
     ret [v]
    else bif cI [rN,rK,rL,tw] x.aJ then P f (.simple x)
    else bif bx x.aJ uK then (bif !body then ju L ae else P f (.func 35))
    else bif bx x.aJ C6 then do
     fh
     let c <-one (P f .paren)
     let a <-one (P f (.cw false))
     let g <-cT L C4
     let p <-bif g then P f (.cw false) else ret []
     cj ⟨24,.empty,0,[c,a]++p,x.au⟩
    else bif bx x.aJ C8 then do
     fh
     let c <-one (P f .paren)
     let b <-one (P f .loop)
     cj ⟨25,.empty,0,[c,b],x.au⟩
    else bif bx x.aJ C5 then do
     fh
     P f (.dv x.au)
    else bif bx x.aJ C7 then do
     fh
     P f (.d5 x.au)
    else bif bx x.aJ F3 then do
     fh
     P f (.choose x.au)
    else o
   else o
 |f+1,.prog l=>do
  let s <-fd
  bif decide (s.i<L.length) then do
   let k <-one (P f (.cw true))
   P f (.prog (l++[k]))
  else cj ⟨37,.empty,0,l,0⟩
end
end
def L(s:ah)(i:Nat):Nat:=((s.data[i]?).map UInt8.toNat).getD 0
def cF(l:a_):ah:=⟨⟨l.map λn=>UInt8.ofNat n⟩⟩
def oE(b c a:Nat):Bool:=decide (c<=b)&&decide (b<=a)
def c6(s:ah)(i:Nat):Option (Nat×Nat):=
 bif decide (i<s.size) then
  (match Lib.decodeN (s.size-i) (L s i) (L s (i+1)) (L s (i+2)) (L s (i+3))with
  | (c,n)=>bif c==65533&&n==1 then none else some (c,n))
 else none
def jl(c:Nat):a_:=
 bif decide (c>65535) then
  let d:=c-65536
  [(55296+d/1024)/256,(55296+d/1024)%256,(56320+d%1024)/256,(56320+d%1024)%256]
 else [c/256,c%256]
def nu(s:ah):Nat->Nat->a_->a_
 |0,_,o=>o
 |f+1,i,o=>bif decide (i<s.size) then (match c6 s i with|some (c,n)=>nu s f (i+n) (o++jl c)|none=>[]) else o
def bo(s:ah):ah:=cF (nu s (s.size+1) 0 [])
def iD(c:Nat):Bool:=c==10||(c==13||(c==8232||c==8233))
def t8(c:Nat):Bool:=c==9||(c==11||(c==12||(c==32||(c==160||c==65279))))
def dn(s:ah)(i:Nat)(t:a_):Bool:=decide (i+t.length<=s.size)&&(List.range t.length).all λk=>L s (i+k)==t.getD k 0
def pA(s:ah)(t:a_):Nat->Nat->Option Nat
 |0,_=>none
 |f+1,i=>bif dn s i t then some i else bif decide (i<s.size) then pA s t f (i+1) else none
def f_(s:ah):Nat->Nat->Nat×Bool
 |0,i=>(i,true)
 |f+1,i=>bif decide (i<s.size) then (match c6 s i with|none=>(i,false)|some (c,n)=>bif iD c then (i,true) else f_ s f (i+n)) else (i,true)
def eY(s:ah):Nat->Nat->Bool->Bool×Bool
 |0,_,aB=>(true,aB)
 |f+1,i,aB=>bif decide (i<s.size) then (match c6 s i with|none=>(false,aB)|some (c,n)=>eY s f (i+n) (aB||iD c)) else (true,aB)
def cW(s:ah):Nat->Nat->Bool->Int×Nat×Bool
 |0,i,aB=>(-1,i,aB)
 |f+1,i,aB=>
  bif decide (i<s.size) then
   match c6 s i with
   |none=>(i,i,aB)
   |some (c,n)=>
    bif iD c then cW s f (i+n) true
    else bif t8 c then cW s f (i+n) aB
    else bif dn s i [47,47] then
     bif (f_ s (s.size+1) i).2 then cW s f (f_ s (s.size+1) i).1 aB else ((f_ s (s.size+1) i).1,(f_ s (s.size+1) i).1,aB)
    else bif dn s i [47,42] then
     match pA (s.extract (i+2) s.size) [42,47] (s.size+1) 0 with
     |none=>(i,i,aB)
     |some k=>
      let r:=eY (s.extract (i+2) (i+2+k)) (s.size+1) 0 aB
      bif r.1 then cW s f (i+k+4) r.2 else (i,i,r.2)
    else (-1,i,aB)
  else (-1,i,aB)
def gn(b:Nat):Bool:=oE b 97 122||(oE b 65 90||(b==95||b==36))
def bE(b:Nat):Bool:=oE b 48 57
def gf(b:Nat):Bool:=bE b||oE (b|||32) 97 102
def gL(s:ah)(p:Nat->Bool):Nat->Nat->Nat
 |0,i=>i
 |f+1,i=>bif decide (i<s.size)&&p (L s i) then gL s p f (i+1) else i
def bw(s:ah)(p:Nat->Bool)(i:Nat):Nat:=gL s p (s.size+1) i
def d8(s:ah)(i:Nat):Nat×Bool:=
 bif L s i==48&&(decide (i+1<s.size)&&(L s (i+1)|||32)==120) then
  let j:=bw s gf (i+2)
  (j,decide (j>i+2)&& !(gn (L s j)||bE (L s j)))
 else
  let j:=bw s bE i
  bif decide (j-i>1)&&L s i==48 then (j,false) else
   let a:=bif L s j==46 then bw s bE (j+1) else j
   bif (L s a|||32)==101 then
    let c:=bif L s (a+1)==43||L s (a+1)==45 then a+2 else a+1
    let b:=bw s bE c
    (b,decide (b>c)&& !(gn (L s b)||bE (L s b)))
   else (a,!(gn (L s a)||bE (L s a)))
def eB(s:ah):Nat->Nat->Nat->Nat×Option Nat
 |0,i,u=>(i,some u)
 |n+1,i,u=>bif decide (i<s.size)&&gf (L s i) then eB s n (i+1) (u*16+(bif bE (L s i) then L s i-48 else (L s i|||32)-97+10)) else (i,none)
def w7:List (Nat×Nat):=[(98,8),(116,9),(110,10),(118,11),(102,12),(114,13)]
def eE(s:ah)(i:Nat):Nat×Option (a_):=
 match c6 s i with
 |none=>(i,none)
 |some (c,n)=>
  let j:=i+n
  match w7.find? λp=>p.1==c with
  |some p=>(j,some [0,p.2])
  |none=>
   bif c==120 then ((eB s 2 j 0).1,(eB s 2 j 0).2.map λu=>[u/256%256,u%256])
   else bif c==117 then ((eB s 4 j 0).1,(eB s 4 j 0).2.map λu=>[u/256%256,u%256])
   else bif c==48 then (j,bif bE (L s j) then none else some [0,0])
   else bif oE c 49 57 then (j,none)
   else bif c==13&&L s j==10 then (j+1,some [])
   else bif iD c then (j,some [])
   else (j,some (jl c))
def lE(s:ah)(mark:Nat):Nat->Nat->a_->Nat×Option (a_)
 |0,i,_=>(i,none)
 |f+1,i,o=>
  match c6 s i with
  |none=>(i,none)
  |some (c,n)=>
   bif c==10||c==13 then (i,none)
   else bif c==mark then (i+n,some o)
   else bif c==92 then
    match eE s (i+n)with
    | (j,none)=>(j,none)
    | (j,some u)=>lE s mark f j (o++u)
   else lE s mark f (i+n) (o++jl c)
def fx:List ah:=[⟨#[62,62,62]⟩,⟨#[61,61,61]⟩,⟨#[33,61,61]⟩,⟨#[60,61]⟩,⟨#[62,61]⟩,⟨#[61,61]⟩,⟨#[33,61]⟩,⟨#[43,43]⟩,⟨#[45,45]⟩,⟨#[60,60]⟩,⟨#[62,62]⟩,⟨#[38,38]⟩,⟨#[124,124]⟩,⟨#[43,61]⟩,⟨#[45,61]⟩,⟨#[42,61]⟩,⟨#[47,61]⟩,⟨#[37,61]⟩,⟨#[123]⟩,⟨#[125]⟩,⟨#[40]⟩,⟨#[41]⟩,⟨#[91]⟩,⟨#[93]⟩,⟨#[59]⟩,⟨#[44]⟩,⟨#[46]⟩,⟨#[60]⟩,⟨#[62]⟩,⟨#[43]⟩,⟨#[45]⟩,⟨#[42]⟩,⟨#[47]⟩,⟨#[37]⟩,⟨#[38]⟩,⟨#[124]⟩,⟨#[94]⟩,⟨#[33]⟩,⟨#[126]⟩,⟨#[63]⟩,⟨#[58]⟩,⟨#[61]⟩]
def WT:ah:=⟨#[32,98,114,101,97,107,32,99,97,115,101,32,99,97,116,99,104,32,99,108,97,115,115,32,99,111,110,115,116,32,99,111,110,116,105,110,117,101,32,100,101,98,117,103,103,101,114,32,100,101,102,97,117,108,116,32,100,101,108,101,116,101,32,100,111,32,101,108,115,101,32,101,110,117,109,32,101,120,112,111,114,116,32,101,120,116,101,110,100,115,32,102,97,108,115,101,32,102,105,110,97,108,108,121,32,102,111,114,32,102,117,110,99,116,105,111,110,32,105,102,32,105,109,112,111,114,116,32,105,110,32,105,110,115,116,97,110,99,101,111,102,32,108,101,116,32,110,101,119,32,110,117,108,108,32,114,101,116,117,114,110,32,115,117,112,101,114,32,115,119,105,116,99,104,32,116,104,105,115,32,116,104,114,111,119,32,116,114,117,101,32,116,114,121,32,116,121,112,101,111,102,32,118,97,114,32,118,111,105,100,32,119,104,105,108,101,32,119,105,116,104,32,121,105,101,108,100,32]⟩
def dF(t:ah):a_:=t.data.toList.map UInt8.toNat
def Db(t:ah):Bool:=decide (t.size>0)&&(!Lib.contains t.data.toList [32]&&Lib.contains WT.data.toList ([32]++t.data.toList++[32]))
def gH(aT:Nat->Nat)(s:ah)(i:Nat)(aB:Bool):Nat×Option a8:=
 let b:=L s i
 bif gn b then
  let j:=bw s (λb=>gn b||bE b) i
  let t:=s.extract i j
  (j,some ⟨bif Db t then 2 else 1,t,0,i,aB⟩)
 else bif bE b||(b==46&&(decide (i+1<s.size)&&bE (L s (i+1)))) then
  ((d8 s i).1,bif (d8 s i).2 then some ⟨3,.empty,aT i,i,aB⟩ else none)
 else bif b==34||b==39 then
  match lE s b (s.size+1) (i+1) []with
  | (j,none)=>(j,none)
  | (j,some u)=>(j,some ⟨4,cF u,0,i,aB⟩)
 else
  match fx.find? λm=>dn s i (dF m)with
  |none=>(i,none)
  |some m=>(i+m.size,some ⟨5,m,0,i,aB⟩)
def kh(aT:Nat->Nat)(s:ah):Nat->Nat->Bool->List a8->List a8×Int
 |0,_,_,_=>([],0)
 |f+1,i,aB,o=>
  match cW s (s.size+1) i aB with
  | (at_,j,aB)=>
   bif decide (at_>=0) then ([],at_)
   else bif j==s.size then (o,-1)
   else match gH aT s j aB with
    | (_,none)=>([],j)
    | (k,some x)=>kh aT s f k false (o++[x])
def xj(aT:Nat->Nat)(s:ah):List a8×Int:=kh aT s (s.size+1) 0 false []
section
def g(S:List (Nat×ag))(l:a_):ag:=.cJ (rest S l)
def aqP(a b:Int):Ending:=.panicked [{v:=.iface 51 (.agg ⟨[.int .i64 a,.int .i64 b]⟩),recovered:=false}]
def V(b i:Nat):Prop:=d6 ⟨b,i,none⟩ b
def aA(z:Int):Prop:=(-9223372036854775808:Int)<=z/\z<=9223372036854775807
def bQ(b:Nat)(p:Prop):Prop:=d6 ⟨b,0,none⟩ b/\d6 ⟨b,1,none⟩ b/\d6 ⟨b,2,none⟩ b/\d6 ⟨b,3,none⟩ b/\d6 ⟨b,4,none⟩ b/\p
abbrev Z(z:Int):aD:=.int .i64 z
abbrev u(z:Int):aD:=.int .u8 z
abbrev T(z:Int):aD:=.int .u64 z
abbrev eA(z:Int):aD:=.int .i32 z
abbrev C(s:ah):aD:=.string s
abbrev H(b:Bool):aD:=.bool b
abbrev W(a:bv):aD:=.pointer a
abbrev Q:= @Value.slice
abbrev ce:= @Value.iface
abbrev D:= @ag.cells
abbrev sx:= @ag.iG
abbrev fN:= @ag.cJ
abbrev aY:=ag.d7
def bU(z:Int):=BitVec.ofInt IntKind.u64.bits z
def ib(z:Int):=BitVec.ofInt IntKind.i64.bits z
def aZ(z:Int):Int:=IntKind.u64.wrap z
def bR(z:Int):Int:=IntKind.i64.wrap z
def Hg(z:Int):Int:=IntKind.i32.wrap z
def aK(p:Prop)[Decidable p](a b:Prop):Prop:=Br (decide p) a b
abbrev al(v:aD):Ending:=.returned v
def aQ{X:Type}(p:X->(Nat->aD)->Prop):Prop:=∀a j,p a j
section
variable{X:Type}{A:Prop}{aa:aN}{pp:List ag}{fa:X->aN}{fp:X->List ag}{c r K:X->Prop}
theorem ba(ok:A)(z:X)(b:c z)(d:r z)(k:K z)(a:aa=fa z:=by exact rfl)(hp:pp=fp z:=by exact rfl):A/\true=true/\∃z,aa=fa z/\pp=fp z/\c z/\r z/\K z:=⟨ok,rfl,z,a,hp,b,d,k⟩
theorem bG(ok:A)(z:X)(b:c z)(k:K z)(a:aa=fa z:=by exact rfl)(hp:pp=fp z:=by exact rfl)(d:r z:=by exact trivial):A/\true=true/\∃z,aa=fa z/\pp=fp z/\c z/\r z/\K z:=⟨ok,rfl,z,a,hp,b,d,k⟩
theorem kH(ok:A)(z:X)(k:K z)(a:aa=fa z:=by exact rfl)(hp:pp=fp z:=by exact rfl)(b:c z:=by exact trivial)(d:r z:=by exact trivial):A/\true=true/\∃z,aa=fa z/\pp=fp z/\c z/\r z/\K z:=⟨ok,rfl,z,a,hp,b,d,k⟩
end
def fv(f:FuncId)(C:aF)(aa:aN)(k:C.X->C.Y->Prop):=gD prog f C/\true=true/\∃z,aa=C.args z/\[]=C.pre z/\True/\True/\∀y,True->k z y
def cG(f:FuncId)(C:aF)(c:C.X->Prop)(aa:aN)(k:C.X->C.Y->Prop):=gD prog f C/\true=true/\∃z,aa=C.args z/\[]=C.pre z/\c z/\True/\∀y,True->k z y
def bz(f:FuncId)(C:aF)(c:C.X->Prop)(r:C.X->ag->Prop)(aa:aN)(R:ag)(k:C.X->C.Y->Prop):=gD prog f C/\true=true/\∃z,aa=C.args z/\[]=C.pre z/\c z/\r z R/\∀y,True->k z y
def dK(f:FuncId)(C:aF)(c:C.X->Prop)(aa:aN)(pp:List ag)(k:C.X->C.Y->Prop):=gD prog f C/\true=true/\∃z,aa=C.args z/\pp=C.pre z/\c z/\True/\∀y,True->k z y
def dP(f:FuncId)(C:aF)(c:C.X->Prop)(r:C.X->ag->Prop)(l:C.X->C.Y->Prop)(aa:aN)(pp:List ag)(R:ag)(k:C.X->C.Y->Prop):=gD prog f C/\true=true/\∃z,aa=C.args z/\pp=C.pre z/\c z/\r z R/\∀y,l z y->k z y
def vm(f:FuncId)(C:aF)(c:C.X->Prop)(l:C.X->C.Y->Prop)(aa:aN)(k:C.X->C.Y->Prop):=gD prog f C/\true=true/\∃z,aa=C.args z/\[]=C.pre z/\c z/\True/\∀y,l z y->k z y
def za(f:FuncId)(C:aF)(c:C.X->Prop)(l:C.X->C.Y->Prop)(aa:aN)(pp:List ag)(k:C.X->C.Y->Prop):=gD prog f C/\true=true/\∃z,aa=C.args z/\pp=C.pre z/\c z/\True/\∀y,l z y->k z y
def aqN(o:Oper)(C:aF)(aa:aN)(k:C.X->C.Y->Prop):=gY prog o C/\true=true/\∃z,aa=C.args z/\[]=C.pre z/\True/\True/\∀y,True->k z y
def zb(o:Oper)(C:aF)(c:C.X->Prop)(aa:aN)(k:C.X->C.Y->Prop):=gY prog o C/\true=true/\∃z,aa=C.args z/\[]=C.pre z/\c z/\True/\∀y,True->k z y
def vn(o:Oper)(C:aF)(c:C.X->Prop)(r:C.X->ag->Prop)(aa:aN)(R:ag)(k:C.X->C.Y->Prop):=gY prog o C/\true=true/\∃z,aa=C.args z/\[]=C.pre z/\c z/\r z R/\∀y,True->k z y
def lh(o:Oper)(C:aF)(c:C.X->Prop)(aa:aN)(pp:List ag)(k:C.X->C.Y->Prop):=gY prog o C/\true=true/\∃z,aa=C.args z/\pp=C.pre z/\c z/\True/\∀y,True->k z y
def jc(o:Oper)(C:aF)(c:C.X->Prop)(r:C.X->ag->Prop)(l:C.X->C.Y->Prop)(aa:aN)(pp:List ag)(R:ag)(k:C.X->C.Y->Prop):=gY prog o C/\true=true/\∃z,aa=C.args z/\pp=C.pre z/\c z/\r z R/\∀y,l z y->k z y
def Lg(o:Oper)(C:aF)(c:C.X->Prop)(l:C.X->C.Y->Prop)(aa:aN)(k:C.X->C.Y->Prop):=gY prog o C/\true=true/\∃z,aa=C.args z/\[]=C.pre z/\c z/\True/\∀y,l z y->k z y
def R4(o:Oper)(C:aF)(c:C.X->Prop)(l:C.X->C.Y->Prop)(aa:aN)(pp:List ag)(k:C.X->C.Y->Prop):=gY prog o C/\true=true/\∃z,aa=C.args z/\pp=C.pre z/\c z/\True/\∀y,l z y->k z y
def aI(C:aF):OH:=.c C [] []
def q(C:aF):OH:=.c C [0] [0]
def z(n:Nat):OH:=.q [.aS n]
def F:OH:=.q []
def cD:OH:=.q [.ex 0 (.int .i64)]
def dU(C:aF):OH:=.o C [0] [0]
def ahJ:prog.follows .mixedOrders=true:=by kernel_rfl
def aqO{a b:Nat}(h:Nat.ble a b=true):a<=b:=Nat.le_of_ble_eq_true h
def dV{X:Type}:X->ag->Nat->Option Inv:=λ_ _ _=>none
def gj:Nat->a_:=λ_=>[]
abbrev aG(f:FuncId)(C:aF):Prop:=gD prog f C
def fo{f:FuncId}{a:Func}{c:Code}{C:aF}(N:Nat)(p:prog.funcs[f]?=some a)(o:C.X->ag->List (Nat×Nat×OH))(hs:List (Nat×Nat×OH))(d b:C.X->ag->Nat->Option Inv)(e:Nat->a_)(g:List LH){v:C.X->ag->Prop}(h:∀x F,C.cond x->C.aE x F->v x F)
  (m:a.body=some c:=by exact rfl) (k:a.ntmps=N:=by kernel_rfl) (q:∀x,(C.args x).length<=N:=by intro _;exact Nat.le_of_ble_eq_true rfl) (n:∀x F,v x F=Body prog N a ⟨U (o x F++hs),d x F,b x F,e⟩ g c (lP (C.args x)) (bu (C.pre x++[F])) (l C x F):=by intro _ _;kernel_rfl):gD prog f C:=
 ahG ahJ p m k q (λx F=>⟨U (o x F++hs),d x F,b x F,e⟩) g λx F i j=>Eq.mp (n x F) (h x F i j)
def cY{f:FuncId}{a:Func}{C:aF}(e:prog.funcs[f]?=some a)(o:List (Nat×Nat×OH)){v:C.X->ag->Prop}(h:∀x F,C.cond x->C.aE x F->v x F){c:Code}(b:a.body=some c:=by exact rfl)(g:∀x,(C.args x).length<=a.ntmps:=by intro _;exact Nat.le_of_ble_eq_true rfl)(d:∀x F,v x F=Body prog a.ntmps a ⟨U (o++[]),dV x F,dV x F,gj⟩ [] c (lP (C.args x)) (bu (C.pre x++[F])) (l C x F):=by intro _ _;kernel_rfl):gD prog f C:=
 fo a.ntmps e (λ_ _=>o) [] dV dV gj [] h b rfl g d
def iB{f:FuncId}{a:Func}{C:aF}(e:prog.funcs[f]?=some a)(o:C.X->ag->List (Nat×Nat×OH)){v:C.X->ag->Prop}(h:∀x F,C.cond x->C.aE x F->v x F){c:Code}(b:a.body=some c:=by exact rfl)(g:∀x,(C.args x).length<=a.ntmps:=by intro _;exact Nat.le_of_ble_eq_true rfl)(d:∀x F,v x F=Body prog a.ntmps a ⟨U (o x F++[]),dV x F,dV x F,gj⟩ [] c (lP (C.args x)) (bu (C.pre x++[F])) (l C x F):=by intro _ _;kernel_rfl):gD prog f C:=
 fo a.ntmps e o [] dV dV gj [] h b rfl g d
def mt{f:FuncId}{a:Func}{C:aF}(g:prog.funcs[f]?=some a)(o:C.X->ag->List (Nat×Nat×OH))(b:C.X->ag->Nat->Option Inv){v:C.X->ag->Prop}(h:∀x F,C.cond x->C.aE x F->v x F){c:Code}(d:a.body=some c:=by exact rfl)(i:∀x,(C.args x).length<=a.ntmps:=by intro _;exact Nat.le_of_ble_eq_true rfl)(e:∀x F,v x F=Body prog a.ntmps a ⟨U (o x F++[]),b x F,dV x F,gj⟩ [] c (lP (C.args x)) (bu (C.pre x++[F])) (l C x F):=by intro _ _;kernel_rfl):gD prog f C:=
 fo a.ntmps g o [] b dV gj [] h d rfl i e
def oI{f:FuncId}{a:Func}{C:aF}(g:prog.funcs[f]?=some a)(o:C.X->ag->List (Nat×Nat×OH))(b:C.X->ag->Nat->Option Inv){v:C.X->ag->Prop}(h:∀x F,C.cond x->C.aE x F->v x F){c:Code}(d:a.body=some c:=by exact rfl)(i:∀x,(C.args x).length<=a.ntmps:=by intro _;exact Nat.le_of_ble_eq_true rfl)(e:∀x F,v x F=Body prog a.ntmps a ⟨U (o x F++[]),dV x F,b x F,gj⟩ [] c (lP (C.args x)) (bu (C.pre x++[F])) (l C x F):=by intro _ _;kernel_rfl):gD prog f C:=
 fo a.ntmps g o [] dV b gj [] h d rfl i e
def rh{f:FuncId}{a:Func}{C:aF}(i:prog.funcs[f]?=some a)(o:C.X->ag->List (Nat×Nat×OH))(d b:C.X->ag->Nat->Option Inv){v:C.X->ag->Prop}(h:∀x F,C.cond x->C.aE x F->v x F){c:Code}(e:a.body=some c:=by exact rfl)(j:∀x,(C.args x).length<=a.ntmps:=by intro _;exact Nat.le_of_ble_eq_true rfl)(g:∀x F,v x F=Body prog a.ntmps a ⟨U (o x F++[]),d x F,b x F,gj⟩ [] c (lP (C.args x)) (bu (C.pre x++[F])) (l C x F):=by intro _ _;kernel_rfl):gD prog f C:=
 fo a.ntmps i o [] d b gj [] h e rfl j g
def Al{p q:Int}(h:p=q):returned (.int .i64 p)= .returned (.int .i64 q):=congrArg (λq=>returned (int .i64 q)) h
def l7{p q:Bool}(h:p=q):returned (.bool p)= .returned (.bool q):=congrArg (λq=>returned (bool q)) h
def B1{c:Nat}(h:c<256):u8.wrap (↑(BitVec.ofInt u8.bits (↑c:Int)|||BitVec.ofInt u8.bits 32).toNat:Int)=((c|||32:Nat):Int):=by
 have:∀d:Fin 256,u8.wrap (↑(BitVec.ofInt u8.bits (↑d.val:Int)|||BitVec.ofInt u8.bits 32).toNat:Int)=((d.val|||32:Nat):Int):=by decide
 exact this ⟨c,h⟩
def gR(s:ah)(i:Int):B s i=(L s i.toNat:Int):=by
 unfold B L;rw[eG,Array.getElem?_toList];cases s.data[i.toNat]? <;> rfl
def wX{s:ah}{i:Nat}(h:s.size<=i):L s i=0:=by
 unfold L;simp[*]
def ir(s:ah)(i:Nat):L s i<256:=by
 unfold L;cases h:s.data[i]? with
 |none=>show(0:Nat)<256;omega
 |some b=>exact b.toNat_lt
structure AS where
 c:Nat
abbrev yT(p:Nat->Bool):aF where
 X:=AS
 args x:=[u x.c]
 cond x:=x.c<256
 val x _:=al (H (p x.c))
abbrev ue:aF:=yT gn
abbrev qX:aF:=yT bE
abbrev Ay:aF:=yT gf
abbrev gc:=al (H true)
def UF(x:AS)(F:ag):=Br ((x.c:Int)==95) (l ue x F gc [(0,F)]) (l ue x F (al (H ((x.c:Int)==36))) [(0,F)])
def S8(x:AS)(F:ag):=aK ((x.c:Int)>=65) (aK ((x.c:Int)<=90) (l ue x F gc [(0,F)]) (UF x F)) (UF x F)
def ai9(x:AS)(F:ag)(a:ue.cond x)(b:ue.aE x F):aK ((x.c:Int)>=97) (aK ((x.c:Int)<=122) (l ue x F gc [(0,F)]) (S8 x F)) (S8 x F):=by
 delta gc UF S8 H aK al
 repeat' (first| (refine ar (λ_=>?_) (λ_=>?_)))
 all_goals (refine⟨(),ai,l7 (Bool.eq_iff_iff.2 ?_),ao [0]⟩;simp_all [gn,oE];try omega)
def Sn:gD prog 88 ue:=cY func88 [] ai9
abbrev cM:=H false
abbrev cm:=al cM
def agC(x:AS)(F:ag)(a:qX.cond x)(b:qX.aE x F):aK ((x.c:Int)>=48) (l qX x F (al (H (decide ((x.c:Int)<=57)))) [(0,F)]) (l qX x F cm [(0,F)]):=by
 delta cM cm H aK al
 repeat' (first| (refine ar (λ_=>?_) (λ_=>?_)))
 all_goals (refine⟨(),ai,l7 (Bool.eq_iff_iff.2 ?_),ao [0]⟩;simp_all [bE,oE];try omega)
def yV:gD prog 91 qX:=cY func91 [] agC
def T0:=cG 91 qX (λa=>a.c<256)
def aon(x:AS)(F:ag)(d:Ay.cond x)(f:Ay.aE x F):T0 [u ↑x.c] (λb a=>Br (bE b.c) (l Ay x F gc [(0,F)]) (aK (u8.wrap (↑(BitVec.ofInt u8.bits (x.c:Int)|||BitVec.ofInt u8.bits (32:Int)).toNat:Int)>=97) (l Ay x F (al (H (decide (u8.wrap (↑(BitVec.ofInt u8.bits (x.c:Int)|||BitVec.ofInt u8.bits (32:Int)).toNat:Int)<=102)))) [(0,F)]) (l Ay x F cm [(0,F)]))):=by
 delta T0 gc cM cm cG u H aK al;have c:x.c<256:=d;have e:u8.wrap (↑(BitVec.ofInt u8.bits (↑x.c:Int)|||BitVec.ofInt u8.bits 32).toNat:Int)=((x.c|||32:Nat):Int):=B1 c;refine bG yV x c λ_ _=>?_
 repeat' (first| (refine ar (λ_=>?_) (λ_=>?_)))
 all_goals (refine⟨(),ai,l7 (Bool.eq_iff_iff.2 ?_),ao [0]⟩;simp_all [gf,oE];try omega)
def abi:gD prog 116 Ay:=cY func116 [(1,1,aI qX)] aon
structure c4 where
 b:Nat
 af:ah
 i:Int
 aB:Bool
 oa:bv
 on:Nat
 oc:Nat
def qF(x:c4)(F:ag):Prop:=aH F ⟨x.b,0,none⟩ (.string x.af)/\aH F ⟨x.b,1,none⟩ (.int .i64 x.i)
def qF.sub{x:c4}{A B:ag}(hs:Sub A B)(h:qF x A):qF x B:=⟨h.1.sub hs,h.2.sub hs⟩
abbrev lZ(x:c4):bv:=some ⟨x.b,0,none⟩
abbrev oR:aF where
 X:=c4
 args x:=[W (lZ x)]
 cond x:=0<=x.i/\x.af.size<=1048576
 aE x F:=qF x F
 val x _:=al (u (L x.af x.i.toNat))
 eL _ _ _ a h:=qF.sub a h
def T1(aa:ag)(b:Addr)(c:Int->Prop):=∃(a:Int),aH aa b (Z a)/\c a
def T2(aa:ag)(b:Addr)(c:ah->Prop):=∃(a:ah),aH aa b (C a)/\c a
def alz(x:c4)(F:ag)(i:oR.cond x)(j:oR.aE x F):true=true/\T1 F ⟨x.b,1,none⟩ (λd=>T2 F ⟨x.b,0,none⟩ (λc=>aK (d<c.size) (true=true/\T2 F ⟨x.b,0,none⟩ (λb=>T1 F ⟨x.b,1,none⟩ (λa=>(0<=a/\a<b.size)/\l oR x F (al (u (B b a))) [(0,F)]))) (l oR x F (al (u 0)) [(0,F)]))):=by
 delta T1 T2 Z u C aK al;have g:0<=x.i:=i.1;obtain⟨e,f⟩:=j;refine⟨rfl,x.i,f,x.af,e,bd (λh=>⟨rfl,x.af,e,x.i,f,⟨g,h⟩,(),ai, ?_,ao [0]⟩) (λh=>⟨(),ai, ?_,ao [0]⟩)⟩;show returned _=returned _;rw[gR];show returned _=returned _;rw[wX O] <;> rfl
def vE:gD prog 87 oR:=cY func87 [(1,3,cD),(1,7,.q [.ex 0 .str]),(2,3,.q [.ex 0 .str]),(2,7,cD)] alz
abbrev An:aF where
 X:=c4
 args x:=[W (lZ x)]
 cond x:=0<=x.i/\x.i<=x.af.size/\x.af.size<=1048576
 aE x F:=qF x F
 val x _:=al (C (x.af.extract x.i.toNat x.af.size))
 eL _ _ _ a h:=qF.sub a h
def anD(x:c4)(F:ag)(e:An.cond x)(f:An.aE x F):true=true/\T2 F ⟨x.b,0,none⟩ (λb=>T1 F ⟨x.b,1,none⟩ (λa=>(0<=a/\a<=b.size/\(b.size:Int)<=(b.size:Int))/\l An x F (al (C (b.extract a.toNat (b.size:Int).toNat))) [(0,F)])):=by
 delta T2 T1 Z C al;obtain⟨c,d,_⟩:=e;obtain⟨g,h⟩:=f;exact⟨rfl,x.af,g,x.i,h,⟨c,d,cH _⟩,(),ai,rfl,ao [0]⟩
def Wo:gD prog 84 An:=cY func84 [(1,3,.q [.ex 0 .str]),(1,7,cD)] anD
end
end Go.Proofs.YthhiffpfleacaaaGreatDoor
namespace Go.Proofs
section
open Tryz
def bV{α:Type}{a b:α}{o:Option α}(h:o=some a)(e:a=b:=by kernel_rfl):o=some b:=h.trans (congrArg some e)
open Go.Shelf
def aea:Go.Shelf.Ren:=⟨λ|119=>178|n=>n,λ|21=>21|4=>4|n=>n,λ|n=>n⟩
def ad_:Go.Proofs.Lays.n119 prog aea:={
 mixed:=by kernel_rfl
 f119:=bV func178
 t4:=underlying4
 a4:=isAgg4
 z4:=sizeOf4
 v4:=zeroValue4
 t21:=underlying21
 a21:=isAgg21
 z21:=sizeOf21
 v21:=zeroValue21}
def Tryz.utf8_ValidRune(r:Int)(w:World):
  Calls prog 178 #[.int .i32 r] w λe a=>e= .returned (.bool (Lib.validRune r))/\a=w:=Any.utf8_ValidRune ad_ r w
def aqG:Go.Shelf.Ren:=⟨λ|137=>175|217=>137|266=>171|n=>n,λ|9=>9|5=>5|3=>3|n=>n,λ|n=>n⟩
def aen:Go.Shelf.Ren:=⟨λ|217=>137|266=>171|n=>n,λ|9=>9|5=>5|3=>3|n=>n,λ|n=>n⟩
def aem:Go.Proofs.Lays.n217 prog aen:={
 mixed:=by kernel_rfl
 f217:=bV func137
 f266:=bV func171
 t3:=underlying3
 a3:=isAgg3
 z3:=sizeOf3
 v3:=zeroValue3
 t5:=underlying5
 a5:=isAgg5
 z5:=sizeOf5
 v5:=zeroValue5
 t9:=underlying9
 a9:=isAgg9
 z9:=sizeOf9
 v9:=zeroValue9}
open Go.RowKit Go.Lib in
def Tryz.stringslite_IndexByte(s:ByteArray)(c:Int)(w:World):
  Calls prog 137 #[.string s,.int .u8 c] w λe w'=>e= .returned (.int .i64 (Lib.indexByte s.data.toList c.toNat.toUInt8))/\w'=w:=Any.stringslite_IndexByte aem s c w
def aqH:Go.Shelf.Ren:=⟨λ|219=>114|217=>137|225=>138|224=>139|267=>140|266=>171|314=>172|n=>n,λ|9=>9|3=>3|4=>4|5=>5|46=>100|146=>178|51=>155|n=>n,λ|1=>4|n=>n⟩
def aee:Go.Shelf.Ren:=⟨λ|143=>85|219=>114|217=>137|225=>138|224=>139|267=>140|266=>171|314=>172|n=>n,λ|9=>9|3=>3|4=>4|5=>5|46=>100|146=>178|51=>155|n=>n,λ|1=>4|n=>n⟩
def aed:Go.Proofs.Lays.n143 prog aee:={
 mixed:=by kernel_rfl
 f143:=bV func85
 f217:=bV func137
 f219:=bV func114
 f224:=bV func139
 f225:=bV func138
 f266:=bV func171
 f267:=bV func140
 f314:=bV func172
 t3:=underlying3
 a3:=isAgg3
 z3:=sizeOf3
 v3:=zeroValue3
 t4:=underlying4
 a4:=isAgg4
 z4:=sizeOf4
 v4:=zeroValue4
 t5:=underlying5
 a5:=isAgg5
 z5:=sizeOf5
 v5:=zeroValue5
 t9:=underlying9
 a9:=isAgg9
 z9:=sizeOf9
 v9:=zeroValue9
 t46:=underlying100
 a46:=isAgg100
 z46:=sizeOf100
 v46:=zeroValue100
 t51:=underlying155
 a51:=isAgg155
 z51:=sizeOf155
 v51:=zeroValue155
 t146:=underlying178
 a146:=isAgg178
 z146:=sizeOf178
 v146:=zeroValue178
 g1:=by kernel_rfl}
open Go.RowKit Go.Lib in
def Tryz.strings_Index(s sub:ByteArray)(m:Int)(w:World)(hs:s.size<4294967281)(hm:w.cell? ⟨4,0,none⟩=some (.int .i64 m)):
  Calls prog 85 #[.string s,.string sub] w λe w'=>e= .returned (.int .i64 (Lib.index s.data.toList sub.data.toList))/\w'=w:=Any.strings_Index aed s sub m w hs hm
def aeg:Go.Shelf.Ren:=⟨λ|144=>115|143=>85|219=>114|217=>137|225=>138|224=>139|267=>140|266=>171|314=>172|n=>n,λ|9=>9|4=>4|3=>3|5=>5|46=>100|146=>178|51=>155|n=>n,λ|1=>4|n=>n⟩
def aef:Go.Proofs.Lays.n144 prog aeg:={
 mixed:=by kernel_rfl
 f143:=bV func85
 f144:=bV func115
 f217:=bV func137
 f219:=bV func114
 f224:=bV func139
 f225:=bV func138
 f266:=bV func171
 f267:=bV func140
 f314:=bV func172
 t3:=underlying3
 a3:=isAgg3
 z3:=sizeOf3
 v3:=zeroValue3
 t4:=underlying4
 a4:=isAgg4
 z4:=sizeOf4
 v4:=zeroValue4
 t5:=underlying5
 a5:=isAgg5
 z5:=sizeOf5
 v5:=zeroValue5
 t9:=underlying9
 a9:=isAgg9
 z9:=sizeOf9
 v9:=zeroValue9
 t46:=underlying100
 a46:=isAgg100
 z46:=sizeOf100
 v46:=zeroValue100
 t51:=underlying155
 a51:=isAgg155
 z51:=sizeOf155
 v51:=zeroValue155
 t146:=underlying178
 a146:=isAgg178
 z146:=sizeOf178
 v146:=zeroValue178
 g1:=by kernel_rfl}
open Go.RowKit Go.Lib in
def Tryz.strings_Contains(s sub:ByteArray)(m:Int)(w:World)(hs:s.size<4294967281)(hm:w.cell? ⟨4,0,none⟩=some (.int .i64 m)):
  Calls prog 115 #[.string s,.string sub] w λe w'=>e= .returned (.bool (Lib.contains s.data.toList sub.data.toList))/\w'=w:=Any.strings_Contains aef s sub m w hs hm
def ael:Go.Shelf.Ren:=⟨λ|197=>107|260=>134|n=>n,λ|9=>9|21=>21|3=>3|4=>4|5=>5|105=>124|119=>183|0=>0|46=>100|139=>186|138=>185|n=>n,λ|3=>8|4=>9|n=>n⟩
def aek:Go.Proofs.Lays.n197 prog ael:={
 mixed:=by kernel_rfl
 f197:=bV func107
 f260:=bV func134
 t0:=underlying0
 a0:=isAgg0
 z0:=sizeOf0
 v0:=zeroValue0
 t3:=underlying3
 a3:=isAgg3
 z3:=sizeOf3
 v3:=zeroValue3
 t4:=underlying4
 a4:=isAgg4
 z4:=sizeOf4
 v4:=zeroValue4
 t5:=underlying5
 a5:=isAgg5
 z5:=sizeOf5
 v5:=zeroValue5
 t9:=underlying9
 a9:=isAgg9
 z9:=sizeOf9
 v9:=zeroValue9
 t21:=underlying21
 a21:=isAgg21
 z21:=sizeOf21
 v21:=zeroValue21
 t46:=underlying100
 a46:=isAgg100
 z46:=sizeOf100
 v46:=zeroValue100
 t105:=underlying124
 a105:=isAgg124
 z105:=sizeOf124
 v105:=zeroValue124
 t119:=underlying183
 a119:=isAgg183
 z119:=sizeOf183
 t138:=underlying185
 a138:=isAgg185
 z138:=sizeOf185
 v138:=zeroValue185
 t139:=underlying186
 a139:=isAgg186
 z139:=sizeOf186
 v139:=zeroValue186
 g3:=by kernel_rfl
 g4:=by kernel_rfl}
open Go.RowKit Go.Lib in
def Tryz.utf8_DecodeRuneInString(s:ByteArray)(w:World)(hT:Lib.Utf8Tabs 8 9 w):
  Calls prog 107 #[.string s] w λe w'=>e= .returned (.tuple #[.int .i32 (Lib.decodeGo s).1,.int .i64 (Lib.decodeGo s).2])/\Below w.heap.size w w':=Any.utf8_DecodeRuneInString aek s w hT
end
end Go.Proofs
namespace Go.Proofs.YthhiffpfleacaaaGreatDoor
set_option maxRecDepth 100000
open Go.Value (int slice string bool pointer agg tuple func float iface nilIface)
open Go.IntKind (i64 u8 u64 i32 u32 u16 i8 i16)
open Go.FloatKind (f64)
open Go.Ending (returned panicked)
open Go.Proofs.Tryz
section
variable{I:aX}{S:St}{w:World}
theorem Sat.below{w':World}(h:Sat I S w)(g:RowKit.Below w.heap.size w w'):Sat I S w':=by
 obtain⟨f,i,k,e⟩:=h.nW;have m:∀b,b<w.heap.size->hp w b=hp w' b:=λb c=>(g.block b c).symm;refine⟨⟨f,λj=>ag.local (λb a=>m b (e _ _ a).2) (i j),k,λj b a=>⟨(e _ _ a).1,Nat.lt_of_lt_of_le (e _ _ a).2 g.size⟩⟩,λb o l=>?_⟩;have n:=h.oM b o l;have c:b<w.heap.size:=by{rcases Nat.lt_or_ge b w.heap.size with d|d;exact d;have:hp w b=none:=Array.getElem?_eq_none d;grind};grind
theorem qC{P:Program}{f:FuncId}(C:aF)(c:∀x,C.pre x=[])(y:∀x,C.cond x->C.Y)(d:∀x h,C.bS x (y x h))(a:∀x h,C.post x (y x h)=[])
  (h:∀(x:C.X)(F:ag)(I:aX)(w:World)(b:C.cond x),C.aE x F->Sat I (bu [F]) w->Calls P f ⟨C.args x⟩ w λe j=>e=C.val x (y x b)/\RowKit.Below w.heap.size w j):gD P f C:=by
 refine⟨λx F I w b l i=>?_⟩;rw[c]at i;refine(h x F I w b l i).mono ?_;rintro e j ⟨k,g⟩;exact⟨y x b,I,d x b,k,aX.le_refl I,by rw[a];exact i.below g,g.os,g.output⟩
theorem Sat.xr{F:ag}(h:Sat I (bu [F]) w){a:Addr}{v:aD}(b:aH F a v):w.cell? a=some v:=Sat.look (j:=0) h b
structure gv(F:ag):Prop where
 first:∀c,c<256->aH F ⟨8,c,none⟩ (.int .u8 (Lib.firstT c))
 accLo:∀i,i<16->aH F ⟨9,2*i,none⟩ (.int .u8 (Lib.accLo i))
 accHi:∀i,i<16->aH F ⟨9,2*i+1,none⟩ (.int .u8 (Lib.accHi i))
theorem gv.sub{A B:ag}(h:gv A)(hs:Sub A B):gv B:=⟨λc b=>(h.first c b).sub hs,λi a=>(h.accLo i a).sub hs,λi a=>(h.accHi i a).sub hs⟩
theorem gv.rest{a:a_}{j:Nat}(d:j∉a)(h:gv (gt S j)):gv (.cJ (rest S a)):=⟨λc e=>(h.first c e).rest d,λi b=>(h.accLo i b).rest d,λi b=>(h.accHi i b).rest d⟩
structure W8 where
 s:ah
abbrev KZ:aF where
 X:=W8
 args x:=[C x.s]
 aE _ F:=gv F
 val x _:=.returned (.tuple #[.int .i32 (Lib.decodeGo x.s).1,.int .i64 (Lib.decodeGo x.s).2])
theorem agr:aG 107 KZ:=qC KZ (λ_=>rfl) (λ_ _=>()) (λ_ _=>ai) (λ_ _=>rfl) λx F I w _ a b=>
 Go.Proofs.Tryz.utf8_DecodeRuneInString x.s w ⟨λc e=>b.xr (a.first c e),λi d=>⟨b.xr (a.accLo i d),b.xr (a.accHi i d)⟩⟩
theorem ahX(s:ah)(k:Nat):(s.get! k).toNat=L s k:=by
 obtain⟨d⟩:=s;show(d[k]!).toNat=((d[k]?).map UInt8.toNat).getD 0;rw[getElem!_def];cases d[k]? <;> rfl
theorem afI(s:ah)(i k:Nat):L (s.extract i s.size) k=L s (i+k):=by
 unfold L;by_cases h:i+k<s.size;rw[show(s.extract i s.size).data=s.data.extract i s.size from ByteArray.data_extract,Array.getElem?_extract];grind;rw[Array.getElem?_eq_none (show s.data.size<=i+k by have:s.data.size=s.size:=rfl;omega)];rw[Array.getElem?_eq_none (show(s.extract i s.size).data.size<=k by have:(s.extract i s.size).data.size=(s.extract i s.size).size:=rfl;rw[this,iA];omega)]
theorem YA(n a b c d:Nat)(e:a<256):(Lib.decodeN n a b c d).1<=1114111:=by
 unfold Lib.decodeN
 repeat' split
 all_goals omega
theorem agq(s:ah):(Lib.decodeGo s).1<=1114111:=by
 unfold Lib.decodeGo;split;omega;rw[Lib.decode_at];exact YA _ _ _ _ _ (UInt8.toNat_lt _)
theorem akc{s:ah}{i:Nat}(h:i<s.size):c6 s i=bif (Lib.decodeGo (s.extract i s.size)).1==65533&&(Lib.decodeGo (s.extract i s.size)).2==1 then none else some ((Lib.decodeGo (s.extract i s.size)).1,(Lib.decodeGo (s.extract i s.size)).2):=by
 have a:(s.extract i s.size).size=s.size-i:=by simp[*]
 have b:Lib.decodeGo (s.extract i s.size)=Lib.decodeN (s.size-i) (L s i) (L s (i+1)) (L s (i+2)) (L s (i+3)):=by{unfold Lib.decodeGo;rw[if_neg O,Lib.decode_at,a];simp only[ahX,afI,Nat.sub_zero,Nat.add_zero,gZ]};unfold c6;simp[*]
theorem ags(n a b c d:Nat)(h:1<=n):(Lib.decodeN n a b c d).2<=n/\1<=(Lib.decodeN n a b c d).2:=by
 unfold Lib.decodeN
 repeat' split
 all_goals omega
theorem lV{s:ah}{i c n:Nat}(h:c6 s i=some (c,n)):i+n<=s.size/\1<=n/\c<=1114111:=by
 unfold c6 at h;by_cases d:i<s.size;have a:=ags (s.size-i) (L s i) (L s (i+1)) (L s (i+2)) (L s (i+3)) O;have b:=YA (s.size-i) (L s i) (L s (i+1)) (L s (i+2)) (L s (i+3)) (ir s i);grind;grind
structure A0 where
 s:ah
 i:Int
def iL(A B:Type):Xu (A ⊕ B):=⟨A,B,Sum.inl,Sum.inr,λy=>match y with| .inl a=>.inl ⟨a,rfl⟩| .inr b=>.inr ⟨b,rfl⟩⟩
abbrev qd:aF where
 X:=A0
 Y:=(Nat×Nat) ⊕ ax
 args x:=[C x.s,Z x.i]
 cond x:=0<=x.i
 aE _ F:=gv F
 bS x y:=match y with
  | .inl a=>c6 x.s x.i.toNat=some (a.1,a.2)
  | .inr _=>c6 x.s x.i.toNat=none
 val _ y:=match y with
  | .inl a=>.returned (.tuple #[.int .i64 a.1,.int .i64 a.2,.bool true])
  | .inr _=>.returned (.tuple #[.int .i64 0,.int .i64 0,.bool false])
 sum:=some (iL (Nat×Nat) ax)
def Nj(x:A0)(F:ag):=l qd x F (al (tuple ⟨[Z 0,Z 0,H false]⟩)) [(0,F)]
abbrev cO(F:ag):=g [(0,F)] []
def TD(b:W8)(x:A0)(F:ag):=aA (↑(Lib.decodeGo b.s).fst:Int)/\l qd x F (al (tuple ⟨[Z (↑(Lib.decodeGo b.s).fst:Int),Z (↑(Lib.decodeGo b.s).snd:Int),H true]⟩)) [(0,F)]
theorem akf(x:A0)(F:ag)(r:qd.cond x)(t:qd.aE x F):aK (x.i<0) (Nj x F) (aK (x.i>=x.s.size) (Nj x F) ((0<=x.i/\x.i<=x.s.size/\(x.s.size:Int)<=(x.s.size:Int))/\bz 107 KZ (λ_=>True) (λ_=>gv) [C (x.s.extract x.i.toNat (x.s.size:Int).toNat)] (cO F) (λb a=>Br ((↑(Lib.decodeGo b.s).fst:Int)==65533) (Br ((↑(Lib.decodeGo b.s).snd:Int)==1) (Nj x F) (TD b x F)) (TD b x F)))):=by
 delta Nj cO TD g aA bz Z C H aK al;have o:0<=x.i:=r;have no:c6 x.s x.i.toNat=none->l qd x F (returned (tuple #[.int .i64 0,.int .i64 0,.bool false])) [(0,F)]:=λe=>⟨.inr (),e,rfl,ao [0]⟩;refine bd (λh=>absurd h O) (λ_=>bd (λh=>no ?_) (λh=>⟨⟨o,O,cH _⟩,agr,rfl,⟨x.s.extract x.i.toNat x.s.size⟩,rfl,rfl,ai,gv.rest (j:=0) X t,λ_ _=>?_⟩));unfold c6;grind;dsimp only;have m:=akc (s:=x.s) (i:=x.i.toNat) O;have k:=agq (x.s.extract x.i.toNat x.s.size);revert m k;generalize Lib.decodeGo (x.s.extract x.i.toNat x.s.size)=d;obtain⟨c,n⟩:=d;intro m k;have f:c6 x.s x.i.toNat=some (c,n)->l qd x F (returned (tuple #[.int .i64 c,.int .i64 n,.bool true])) [(0,F)]:=λe=>⟨.inl (c,n),e,rfl,ao [0]⟩;refine ar (λp=>ar (λq=>no ?_) (λq=>⟨aC,f ?_⟩)) (λp=>⟨aC,f ?_⟩)
 all_goals grind
theorem Ew:aG 83 qd:=cY func83 [(3,3,aI KZ)] akf
end
def bJ(l:a_):aN:=l.map λ(n:Nat)=>int .u8 (n:Int)
def AF(l:a_):(bJ l).length=l.length:=by simp[bJ]
def AE(a b:a_):bJ (a++b)=bJ a++bJ b:=by simp[bJ]
def F5{l:a_}{u:aD}(h:u∈bJ l):u.oneCell'=true:=by
 obtain⟨n,_,rfl⟩:=List.mem_map.1 h;rfl
def abh(u:Nat):(↑u:Int).fdiv (2^min (Int.toNat 8) i64.bits)=((u/256:Nat):Int):=by
 show(↑u:Int).fdiv (256:Int)=_;grind
def Ju(u:Nat):u8.wrap (↑u:Int)=((u%256:Nat):Int):=by
 rfl
structure KJ where
 r:Row
 l:a_
 u:Nat
abbrev AG:aF where
 X:=KJ
 Y:=Row
 args x:=[Q x.r.a x.r.n x.r.aq,Z x.u]
 pre x:=[x.r.A]
 cond x:=bl 5 1 (bJ x.l) x.r/\x.u<65536/\x.r.n<=4194304
 bS x y:=bl 5 1 (bJ (x.l++[x.u/256,x.u%256])) y/\y.n=x.r.n+2
 val _ y:=al (Q y.a y.n y.aq)
 post _ y:=[y.A]
def Fp(b:rS):=∀(a:aD),a∈b.ys->a.oneCell'=true
def jx(b:rS):=b.a=none->b.m=0/\b.c=0
abbrev E9:rS->ag->Prop:=λb c=>(∀(a:Addr),b.a=some a->cR c a b.ys)
abbrev bq(c:Nat):bv:=some ⟨c,0,none⟩
abbrev Uv(x:KJ):aN:=[u ((x.u:Int).fdiv ((2:Int)^min (Int.toNat (8:Int)) i64.bits)),u (u8.wrap (x.u:Int))]
abbrev kq(a:Row):=Q a.a a.n a.aq
def ape(x:KJ)(F:ag)(n:AG.cond x)(q:AG.aE x F):(0<=(x.u:Int).fdiv ((2:Int)^min (Int.toNat (8:Int)) i64.bits)/\(x.u:Int).fdiv ((2:Int)^min (Int.toNat (8:Int)) i64.bits)<=255)/\∀(c:Nat),jc (aL f177 1 7) (cS (5:TypeId) 1 1) (λb=>bl 5 1 b.cs b.r/\b.ys.length=b.m*1/\Fp b/\(b.r.n+b.m)*1<=140737488355328/\b.r.n+b.m<=9223372036854775807/\jx b) E9 (λb a=>bl 5 1 (b.cs++b.ys) a/\a.n=b.r.n+b.m/\(b.m=0->a=b.r)) [Q x.r.a x.r.n x.r.aq,Q (bq c) 2 2] [x.r.A] (g [(0,x.r.A),(1,F),(2060,D c (Uv x) 5)] [0]) (λb a=>l AG x F (al (kq a)) [(0,a.A),(1,F),(2060,D c (Uv x) 5)]):=by
 delta Fp jx E9 bq Uv kq g jc u Q D al;obtain⟨e,r,p⟩:=n;have e1:(↑x.u:Int).fdiv (2^min (Int.toNat 8) i64.bits)=((x.u/256:Nat):Int):=abh x.u;have f:u8.wrap (↑x.u:Int)=((x.u%256:Nat):Int):=Ju x.u;rw[e1,f];refine⟨aC,λb=>ba (iN (P:=prog) 1 1 rfl rfl rfl rfl rfl rfl rfl (by decide)) ⟨x.r,bJ x.l,some ⟨b,0,none⟩,2,2,bJ [x.u/256,x.u%256]⟩ ⟨e,rfl,λ_ h=>F5 h,by grind,by grind,X⟩ (?_) (?_)⟩;intro a m;cases m;exact cR.rest (j:=2060) X (cR.cells (λj d o=>by rw[gZ];exact o));rintro y ⟨i,k,-⟩;exact⟨y,⟨by rw[AE];exact i,k⟩,rfl,ao [0,1]⟩
def WQ:aG 177 AG:=cY func177 [(1,5,F),(1,6,.n 2060),(1,7,dU (cS 5 1 1))] ape
structure B2X where
 a:bv
 n:Nat
 aq:Nat
 l:a_
abbrev yS:aF where
 X:=B2X
 args x:=[Q x.a x.n x.aq]
 cond x:=e6 1 (bJ x.l) x.a x.n
 aE x F:=e8 F x.a (bJ x.l)
 val x _:=al (C (cF x.l))
def ahK:∀(l:a_)(a:List UInt8),(l.map λ(n:Nat)=>(n:Int)).foldl (λ(r:ah)(n:Int)=>r.push (UInt8.ofNat n.toNat)) ⟨⟨a⟩⟩=⟨⟨a++l.map λn=>UInt8.ofNat n⟩⟩:=by
 intro l
 induction l with
 |nil=>intro a;simp
 |cons n l b=>
  simp[*]
def G1{P:Program}{o:Oper}{af c e:TypeId}{x:Operand}(B:o.op= .convert af c x)(hs:P.underlying af=some (.slice e))(E:P.underlying e=some (.int .u8))(D:P.underlying c=some .string):gY P o yS:=by
 refine⟨λy F I w ρ C z t f=>?_⟩;obtain⟨a,n,aq,l⟩:=y;have t:e8 F a (bJ l):=t;simp only[B,Op.operands,yS]at C;have r:ρ x= .slice a n aq:=by grind
 have q:(Conv.bytesToString (.slice a n aq)).run P w= .ok (.string (cF l)) w:=by
  have d:=z.len;rw[AF]at d;cases p:a with
  |none=>
   subst p;cases z with
   |nil h=>
    have:l=[]:=by cases l with|nil=>rfl|cons a l=>simp[bJ]at h
    subst this;rfl
  |some m=>
   subst p;have g:∀i u,(bJ l)[i]?=some u->w.cell? (m.add i)=some u:=λi u G=>f.xr (t m rfl i u G);have A:=run_loadCells_list (P:=P) w m (bJ l) (λj v H=>g j v H);rw[AF,d,Nat.mul_one]at A;have s:(loadCells m n).run P w= .ok ((l.map λ(k:Nat)=>(k:Int)).map (int .u8)).toArray w:=by{rw[A];simp[bJ,Function.comp_def]};rw[run_bytesToString w m n aq _ s];have:=ahK l [];rw[List.nil_append]at this;exact congrArg (λb=>Result.ok (string b) w) this
 refine⟨(),I,w,.string (cF l),ai,.inl ?_,rfl,aX.le_refl I,f,cn.refl w⟩;simp only[execOp,B,r];show((convert af c (.slice a n aq))>>=λv=>(pure (Next.value v):Sem Next)).run P w=_;rw[Sem.run_bind,run_convert_bytes_string w af c e a n aq hs E D,q];rfl
def ae1{d:Nat}(h:d<2^63):i64.wrap (↑(BitVec.ofInt i64.bits (d:Int)&&& BitVec.ofInt i64.bits 1023).toNat:Int)=((d%1024:Nat):Int):=by
 show i64.wrap (↑((BitVec.ofNat 64 d&&& BitVec.ofNat 64 1023:BitVec 64).toNat):Int)=_;have:(BitVec.ofNat 64 d&&& BitVec.ofNat 64 1023).toNat=d%1024:=by{rw[BitVec.toNat_and,BitVec.toNat_ofNat,BitVec.toNat_ofNat];have a:d%2^64=d:=Nat.mod_eq_of_lt O;rw[a];exact Nat.and_two_pow_sub_one_eq_mod d 10};rw[this];exact dw (i:=.i64) aC
def agt(n a b c d:Nat)(h:a<256):(Lib.decodeN n a b c d).1>65535->4<=(Lib.decodeN n a b c d).2:=by
 unfold Lib.decodeN
 repeat' split
 all_goals omega
def akg{s:ah}{i c n:Nat}(h:c6 s i=some (c,n))(b:c>65535):4<=n:=by
 unfold c6 at h;by_cases d:i<s.size;have a:=agt (s.size-i) (L s i) (L s (i+1)) (L s (i+2)) (L s (i+3)) (ir s i);grind;grind
structure e9 where
 s:ah
abbrev Da:aF where
 X:=e9
 Y:=Int×Int
 args x:=[C x.s]
 cond x:=x.s.size<=1048576
 aE _ F:=gv F
 val x y:=.returned (.tuple #[.string (bo x.s),.int .i64 y.1,.int .i64 y.2])
structure DS where
 r:Row
 o:a_
 i:Nat
 f:Nat
def apz(x:e9)(F:ag):Nat->Option Inv:=fun
 |0=>some {X:=DS,P:=λd=>bl 5 1 (bJ d.o) d.r/\d.i<=x.s.size/\d.r.n<=2*d.i/\x.s.size<d.i+d.f/\nu x.s (x.s.size+1) 0 []=nu x.s d.f d.i d.o,mu:=λd=>x.s.size-d.i,lv:=λd=>[(0,C x.s),(5,Q d.r.a d.r.n d.r.aq),(6,Z d.i)],st:=λd=>[d.r.A,F]}
 |_=>none
def T3(b:Oper):=zb b (vz (5:TypeId) [u 0] 1) (λa=>0<=a.n/\a.n<=a.c/\a.c*(↑(1:Nat):Int)<=281474976710656/\a.c<=9223372036854775807)
def ML(z:DS)(a:e9):=bl 5 1 (bJ z.o) z.r/\z.i<=a.s.size/\z.r.n<=2*z.i/\a.s.size<z.i+z.f/\nu a.s (a.s.size+1) 0 []=nu a.s z.f z.i z.o
def T4(b:aN)(e:ag)(c:A0->Nat×Nat->Prop)(d:A0->ax->Prop):=aG 83 qd/\true=true/\∃(z:A0),b=[C z.s,Z z.i]/\([]:List ag)=[]/\0<=z.i/\gv e/\(∀(a:Nat×Nat),c6 z.s z.i.toNat=some (a.fst,a.snd)->c z a)/\∀(f:ax),c6 z.s z.i.toNat=none->d z f
def T5:=za 177 AG (λa=>bl 5 1 (bJ a.l) a.r/\a.u<65536/\a.r.n<=4194304) (λa b=>bl 5 1 (bJ (a.l++[a.u/256,a.u%256])) b/\b.n=a.r.n+2)
def T6(a:e9)(e1:ag)(c d:aD)(b:St)(mm:Nat):=∃(z:DS),ML z a/\(C a.s=C a.s/\c=Q z.r.a z.r.n z.r.aq/\d=Z ↑z.i/\True)/\ay b [(0,z.r.A),(1,e1)]/\a.s.size-z.i<mm
abbrev U2(i:DS)(f:Nat×Nat)(x:e9)(F:ag):KJ->Row->Prop:=λc b=>aA ((i.i:Int)+(f.snd:Int))/\T6 x F (kq b) (Z ((i.i:Int)+(f.snd:Int))) [(0,b.A),(1,F)] (x.s.size-i.i)
def T7(b:Oper):=vn b yS (λa=>e6 1 (bJ a.l) a.a a.n) (λa c=>e8 c a.a (bJ a.l))
def apA(x:e9)(F:ag)(v:Da.cond x)(J:Da.aE x F):aA (2*(x.s.size:Int))/\T3 (aL f146 1 3) [Z 0,Z (2*(x.s.size:Int))] (λk j=>(∃(a:DS),ML a x/\(C x.s=C x.s/\Q (bq j) k.n.toNat k.c.toNat=Q a.r.a a.r.n a.r.aq/\Z 0=Z ↑a.i/\True)/\ay [(0,F),(1,D j (ij [u 0] k.c.toNat) 5)] [(0,a.r.A),(1,F)])/\aQ λ(i:DS)_=>ML i x->aK ((i.i:Int)<(x.s.size:Int)) (T4 [C x.s,Z ↑i.i] (g [(0,i.r.A),(1,F)] []) (λm f=>aK ((f.fst:Int)>65535) (aA ((f.fst:Int)-65536)/\aA (55296+((f.fst:Int)-65536).fdiv ((2:Int)^min (Int.toNat (10:Int)) i64.bits))/\T5 [Q i.r.a i.r.n i.r.aq,Z (55296+((f.fst:Int)-65536).fdiv ((2:Int)^min (Int.toNat (10:Int)) i64.bits))] [i.r.A] (λe d=>aA (56320+bR (↑(ib ((f.fst:Int)-65536)&&& ib (1023:Int)).toNat:Int))/\T5 [Q d.a d.n d.aq,Z (56320+bR (↑(ib ((f.fst:Int)-65536)&&& ib (1023:Int)).toNat:Int))] [d.A] (U2 i f x F))) (T5 [Q i.r.a i.r.n i.r.aq,Z ↑f.fst] [i.r.A] (U2 i f x F))) (λm a=>l Da x F (al (tuple ⟨[C ⟨#[]⟩,Z ↑i.i,Z 10]⟩)) [(0,i.r.A),(1,F)])) (T7 (aL f146 12 1) [Q i.r.a i.r.n i.r.aq] (g [(0,i.r.A),(1,F)] []) (λb a=>l Da x F (al (tuple ⟨[C (cF b.l),Z 0,Z 0]⟩)) [(0,i.r.A),(1,F)]))):=by
 delta T3 ML bq T4 T5 T6 kq U2 T7 g aA za zb vn Z u C Q D ib bR aK al aQ;have M:x.s.size<=1048576:=v;refine⟨aC,Eo (P:=prog) [.int .u8 0] 1 rfl rfl rfl rfl rfl rfl X rfl,rfl,⟨0,2*x.s.size⟩,rfl,rfl,⟨cH 0,by grind,by grind,by grind⟩,ai,λb _=>⟨⟨⟨⟨some ⟨b,0,none⟩,0,(2*(x.s.size:Int)).toNat,.cells b (ij [.int .u8 0] (2*(x.s.size:Int)).toNat) 5⟩,[],0,x.s.size+1⟩,⟨.ft b 0 _ (ij [.int .u8 0] _) rfl (by rw[eH,WX];simp[bJ]) (b7 _),b7 _,b7 _,by simp[*],rfl⟩,aU,ao [1,0]⟩, ?_⟩⟩;rintro⟨r,o,i,f⟩ N ⟨s,B,E,G,t⟩;dsimp only at s B E G t⊢;refine bd (λI=>ba Ew ⟨x.s,i⟩ (by simp[*]) (gv.rest (j:=1) X J) ⟨?_, ?_⟩) (λH=>ba (G1 rfl rfl rfl rfl) ⟨r.a,r.n,r.aq,o⟩ s.af (CP 0 X rfl s) λ_ _=>⟨(0,0),ai, ?_,ao [1]⟩);rintro⟨c,n⟩ p;have p:c6 x.s (i:Int).toNat=some (c,n):=p;rw[cy]at p;obtain⟨f1,f2,f3⟩:=lV p;obtain⟨q,rfl⟩:∃q,f=q+1:=⟨f-1,O⟩;have step:nu x.s (q+1) i o=nu x.s q (i+n) (o++jl c):=by{rw[nu,bp (show i<x.s.size by omega),aW,p]};refine bd (λv=>?_) (λv=>?_);have e1:55296+((↑c:Int)-65536).fdiv (2^min (Int.toNat 10) i64.bits)=((55296+(c-65536)/1024:Nat):Int):=by{have:(↑c:Int)-65536=((c-65536:Nat):Int):=O;rw[this];show 55296+((c-65536:Nat):Int).fdiv (1024:Int)=_;rw[Int.fdiv_eq_ediv_of_nonneg _ O];omega};have z:56320+i64.wrap (↑(BitVec.ofInt i64.bits ((↑c:Int)-65536)&&& BitVec.ofInt i64.bits 1023).toNat:Int)=((56320+(c-65536)%1024:Nat):Int):=by{have:(↑c:Int)-65536=((c-65536:Nat):Int):=O;rw[this,ae1 O];omega};rw[e1,z];have A:jl c=[(55296+(c-65536)/1024)/256,(55296+(c-65536)/1024)%256]++[(56320+(c-65536)%1024)/256,(56320+(c-65536)%1024)%256]:=by{unfold jl;grind};refine⟨aC,aC,WQ,rfl,⟨r,o,55296+(c-65536)/1024⟩,rfl,rfl,⟨s,by grind,by grind⟩,ai,λy w=>⟨aC,WQ,rfl,⟨y,_,56320+(c-65536)%1024⟩,rfl,rfl,⟨w.1,bX,by grind⟩,ai,λL K=>⟨aC,⟨L,o++jl c,i+n,q⟩,⟨?_,f1, ?_,by grind,t.trans step⟩,⟨rfl,rfl,by rfl,ai⟩,ao [0,1],by grind⟩⟩⟩;grind;have R:c>65535->4<=n:=λh=>akg p h;grind;have A:jl c=[c/256,c%256]:=by{unfold jl;grind};refine bG WQ ⟨r,o,c⟩ ⟨s,by grind,by grind⟩ λy w=>⟨aC,⟨y,o++jl c,i+n,q⟩,⟨by simp[*],f1,by grind,by grind,t.trans step⟩,⟨rfl,rfl,by rfl,ai⟩,ao [0,1],by grind⟩;intro _ p;rw[cy]at p;obtain⟨q,rfl⟩:∃q,f=q+1:=⟨f-1,O⟩;refine⟨(i,10),ai, ?_,ao [1]⟩;have:bo x.s=⟨#[]⟩:=by{unfold bo;rw[t,nu,bp (show i<x.s.size by omega),aW,p];rfl};show returned _=returned (.tuple #[.string (bo x.s),_,_]);rw[this];have:bo x.s=cF o:=by
  unfold bo;rw[t];cases f with
  |zero=>rfl
  |succ f=>rw[nu,bF (show ¬i<x.s.size by omega)] <;> rfl
 show returned _=returned (.tuple #[.string (bo x.s),_,_]);rw[this]
def abW:aG 146 Da:=mt func146 (λ_ _=>[(1,3,.o (vz 5 [.int .u8 0] 1) [] [1]),(4,2,aI qd),(9,4,q AG),(9,8,q AG),(10,2,q AG),(12,1,.o yS [] [])]) apz apA
section
abbrev wC:aF where
 X:=e9
 args x:=[C x.s]
 cond x:=x.s.size<=1048576
 aE _ F:=gv F
 val x _:=al (C (bo x.s))
def wOv(b:e9)(a:ag):List (Nat×Nat×OH):=[(1,1,aI Da)]
abbrev xY:e9->Prop:=λa=>a.s.size<=1048576
def T8:=bz 146 Da xY (λ_=>gv)
def apE(x:e9)(F:ag)(c:wC.cond x)(d:wC.aE x F):T8 [C x.s] (cO F) (λb a=>l wC x F (al (C (bo b.s))) [(0,F)]):=by
 delta xY T8 cO g bz C al;exact ba abW x c (gv.rest (j:=0) X d) λ_ _=>iy
def Pj:aG 118 wC:=iB func118 wOv apE
def apO(x:e9)(F:ag)(c:wC.cond x)(d:wC.aE x F):T8 [C x.s] (cO F) (λb a=>l wC x F (al (C (bo b.s))) [(0,F)]):=by
 delta xY T8 cO g bz C al;exact ba abW x c (gv.rest (j:=0) X d) λ_ _=>iy
def WU:aG 216 wC:=iB func216 wOv apO
structure Gl(F:ag):Prop where
 qu:gv F
 mx:∃m,aH F ⟨4,0,none⟩ (.int .i64 m)
 LJ:∀i m,fx[i]?=some m->aH F ⟨1,i,none⟩ (.string m)
def Gl.sub{A B:ag}(h:Gl A)(hs:Sub A B):Gl B:=⟨h.qu.sub hs,let ⟨m,a⟩:=h.mx;⟨m,a.sub hs⟩,λi m a=>(h.LJ i m a).sub hs⟩
def Gl.rest{S:St}{a:a_}{j:Nat}(b:j∉a)(h:Gl (gt S j)):Gl (.cJ (rest S a)):=⟨h.qu.rest b,let ⟨m,c⟩:=h.mx;⟨m,c.rest b⟩,λi m c=>(h.LJ i m c).rest b⟩
structure kB where
 a:ah
 b:ah
def iR(s p:ah):Bool:=decide (s.size>=p.size)&&(s.extract 0 p.size).toList==p.toList
abbrev m7:aF where
 X:=kB
 args x:=[C x.a,C x.b]
 val x _:=al (H (iR x.a x.b))
def ah_(x:kB)(F:ag)(a:m7.cond x)(b:m7.aE x F):aK ((x.a.size:Int)>=(x.b.size:Int)) (((0:Int)<=0/\0<=(x.b.size:Int)/\(x.b.size:Int)<=(x.a.size:Int))/\l m7 x F (al (H ((x.a.extract (Int.toNat (0:Int)) (x.b.size:Int).toNat).toList==x.b.toList))) [(0,F)]) (l m7 x F cm [(0,F)]):=by
 delta cM cm H aK al;refine bd (λh=>⟨⟨O,O,O⟩,(),ai,l7 ?_,ao [0]⟩) (λh=>⟨(),ai,l7 ?_,ao [0]⟩);unfold iR;grind;unfold iR;grind
def ah9:aG 98 m7:=cY func98 [] ah_
def ah8(x:kB)(F:ag)(c:m7.cond x)(d:m7.aE x F):fv 98 m7 [C x.a,C x.b] (λb a=>l m7 x F (al (H (iR b.a b.b))) [(0,F)]):=by
 delta fv C H al;exact kH ah9 x λ_ _=>iy
def BH:aG 56 m7:=cY func56 [(1,2,aI m7)] ah8
abbrev Ly:aF where
 X:=kB
 args x:=[C x.a,C x.b]
 cond x:=x.a.size<=1048576
 aE _ F:=Gl F
 val x _:=al (Z (Lib.index x.a.data.toList x.b.data.toList))
def RowKit.Below.of_eq{B:Nat}{w w':World}(h:w'=w):RowKit.Below B w w':=h▸RowKit.Below.refl B w
def aiD:aG 85 Ly:=qC Ly (λ_=>rfl) (λ_ _=>()) (λ_ _=>ai) (λ_ _=>rfl) λx F I w a c d=>by
 obtain⟨m,b⟩:=c.mx;have a:x.a.size<=1048576:=a;exact(Go.Proofs.Tryz.strings_Index x.a x.b m w O (d.xr b)).mono λe f h=>⟨h.1,RowKit.Below.of_eq h.2⟩
abbrev G5:aF where
 X:=kB
 args x:=[C x.a,C x.b]
 cond x:=x.a.size<=1048576
 aE _ F:=Gl F
 val x _:=al (H (Lib.contains x.a.data.toList x.b.data.toList))
def Yv:aG 115 G5:=qC G5 (λ_=>rfl) (λ_ _=>()) (λ_ _=>ai) (λ_ _=>rfl) λx F I w a c d=>by
 obtain⟨m,b⟩:=c.mx;have a:x.a.size<=1048576:=a;exact(Go.Proofs.Tryz.strings_Contains x.a x.b m w O (d.xr b)).mono λe f h=>⟨h.1,RowKit.Below.of_eq h.2⟩
variable{c:Nat}
theorem BT(h:c=10\/c=13\/c=8232\/c=8233):iD c=true:=by rcases h with rfl|rfl|rfl|rfl <;> rfl
theorem LO(e1:((c:Int)==10)=false)(a:((c:Int)==13)=false)(b:((c:Int)==8232)=false)(d:((c:Int)==8233)=false):iD c=false:=by
 have a:=fw.1 a;have b:=fw.1 b;have d:=fw.1 d;unfold iD;grind
structure uY where
 l:c4
 s:ah
structure fE where
 i:Nat
 f:Nat
 aB:Bool
abbrev Cx(x:uY):bv:=some ⟨x.l.b,0,none⟩
abbrev VD(x:uY):aN:=[C x.l.af,Z x.l.i,H x.l.aB,Q x.l.oa x.l.on x.l.oc]
abbrev v8:aF where
 X:=uY
 args x:=[W (Cx x),C x.s]
 pre x:=[D x.l.b (VD x) 82]
 cond x:=x.s.size<=1048576
 aE _ F:=Gl F
 val x _:=al (H (eY x.s (x.s.size+1) 0 x.l.aB).1)
 post x _:=[D x.l.b [C x.l.af,Z x.l.i,H (eY x.s (x.s.size+1) 0 x.l.aB).2,Q x.l.oa x.l.on x.l.oc] 82]
abbrev V8(x:uY)(d:fE):aN:=[C x.l.af,Z x.l.i,H d.aB,Q x.l.oa x.l.on x.l.oc]
def anq(x:uY)(F:ag):Nat->Option Inv:=fun
 |0=>some {X:=fE,P:=λd=>d.i<=x.s.size/\x.s.size<d.i+d.f/\eY x.s (x.s.size+1) 0 x.l.aB=eY x.s d.f d.i d.aB,mu:=λd=>x.s.size-d.i,lv:=λd=>[(0,W (Cx x)),(1,C x.s),(5,Z d.i)],st:=λd=>[D x.l.b (V8 x d) 82,F]}
 |_=>none
def Nc(z:fE)(a:uY):=z.i<=a.s.size/\a.s.size<z.i+z.f/\eY a.s (a.s.size+1) 0 a.l.aB=eY a.s z.f z.i z.aB
abbrev Cb(a:uY)(z:fE)(e1:ag):=[(0,D a.l.b (V8 a z) 82),(1,e1)]
def T9(a:uY)(e1:ag)(c:aD)(b:St)(mm:Nat):=∃(z:fE),Nc z a/\(W (Cx a)=W (Cx a)/\C a.s=C a.s/\c=Z ↑z.i/\True)/\ay b (Cb a z e1)/\a.s.size-z.i<mm
def IU(x:uY)(e:fE)(b:Nat×Nat)(F:ag):=V x.l.b 2/\aA ((e.i:Int)+(b.snd:Int))/\T9 x F (Z ((e.i:Int)+(b.snd:Int))) [(0,D x.l.b [C x.l.af,Z x.l.i,H true,Q x.l.oa x.l.on x.l.oc] 82),(1,F)] (x.s.size-e.i)
theorem ans(x:uY)(F:ag)(s:v8.cond x)(w:v8.aE x F):(∃(a:fE),Nc a x/\(W (Cx x)=W (Cx x)/\C x.s=C x.s/\Z 0=Z ↑a.i/\True)/\ay [(0,D x.l.b (VD x) 82),(1,F)] (Cb x a F))/\aQ λ(e:fE)_=>Nc e x->aK ((e.i:Int)<(x.s.size:Int)) (T4 [C x.s,Z ↑e.i] (g (Cb x e F) []) (λc b=>Br ((b.fst:Int)==10) (IU x e b F) (Br ((b.fst:Int)==13) (IU x e b F) (Br ((b.fst:Int)==8232) (IU x e b F) (Br ((b.fst:Int)==8233) (IU x e b F) (aA ((e.i:Int)+(b.snd:Int))/\T9 x F (Z ((e.i:Int)+(b.snd:Int))) (Cb x e F) (x.s.size-e.i)))))) (λc a=>l v8 x F cm (Cb x e F))) (l v8 x F gc (Cb x e F)):=by
 delta Nc Cx VD V8 Cb T4 T9 IU cM cm gc g V aA Z C H W Q D aK al aQ;have y:x.s.size<=1048576:=s;refine⟨⟨⟨0,x.s.size+1,x.l.aB⟩,⟨b7 _,by simp[*],rfl⟩,aU,ao [0,1]⟩, ?_⟩;rintro⟨i,f,aB⟩ z ⟨q,r,k⟩;dsimp only at q r k⊢;obtain⟨h,rfl⟩:∃h,f=h+1:=⟨f-1,O⟩;refine bd (λu=>ba Ew ⟨x.s,i⟩ (by simp[*]) (gv.rest (j:=1) X w.qu) ⟨?_, ?_⟩) (λt=>⟨(),ai,l7 ?_, ?_⟩)
 ·rintro⟨c,n⟩ d;have d:c6 x.s (i:Int).toNat=some (c,n):=d;rw[cy]at d;obtain⟨f1,f2,f3⟩:=lV d;have step:eY x.s (h+1) i aB=eY x.s h (i+n) (aB||iD c):=by
   rw[eY,bp (show i<x.s.size by omega),aW,d]
  dsimp only;refine ar (λe=>?_) (λe1=>ar (λe=>?_) (λm=>ar (λe=>?_) (λo=>ar (λe=>?_) (λp=>?_))))
  case refine_5=>
   have v:iD c=false:=LO e1 m o p;exact⟨aC,⟨i+n,h,aB⟩,⟨f1,by grind,k.trans (by simp[*])⟩,⟨rfl,rfl,by rfl,ai⟩,ao [0,1],by grind⟩
  all_goals
   have v:iD c=true:=BT (by grind);exact⟨Y,aC,⟨i+n,h,true⟩,⟨f1,by grind,k.trans (by simp[*])⟩,⟨rfl,rfl,by rfl,ai⟩,ao [0,1],by grind⟩
 intro _ d;have d:c6 x.s (i:Int).toNat=none:=d;rw[cy]at d;have e:eY x.s (x.s.size+1) 0 x.l.aB=(false,aB):=by{rw[k,eY,bp (show i<x.s.size by omega),aW,d]};exact⟨(),ai,l7 (by rw[e]),ay.pick [0,1] rfl (by rw[show v8.post x ()=_ from rfl];simp only[v8,e];rfl)⟩;rw[k,eY,bF (show ¬i<x.s.size by omega)] <;> rfl;have e:eY x.s (x.s.size+1) 0 x.l.aB=(true,aB):=by{rw[k,eY,bF (show ¬i<x.s.size by omega)] <;> rfl};exact ay.pick [0,1] rfl (by simp only[v8,e];rfl)
theorem anr:aG 86 v8:=fo 42 func86 (λ_ _=>[(3,2,aI qd)]) [(7,3,.w [LH.aS (0:Nat)])] anq dV gj [] ans
end
section
def Zd(s:ah)(i:Nat)(t:a_)(m:∀b∈t,b<256)(p:i<=s.size):dn s i t=(t.map λn=>UInt8.ofNat n).isPrefixOf (s.data.toList.drop i):=by
 rw[Bool.eq_iff_iff,List.isPrefixOf_iff_prefix,List.prefix_iff_getElem?];unfold dn;rw[iP,decide_eq_true_eq,List.all_eq_true];have l:s.data.toList.length=s.size:=X;constructor;rintro⟨o,f⟩ k U;have a:k<t.length:=by simpa using U
 have:=f k (List.mem_range.2 a);rw[beq_iff_eq]at this;have c:i+k<s.data.toList.length:=O;rw[List.getElem?_drop,da c];congr 1;simp only[List.getElem_map];have j:L s (i+k)=(s.data.toList[i+k]).toNat:=by{unfold L;rw[<-Array.getElem?_toList,da c] <;> rfl};rw[j,eG,da a]at this;have g:s.data.toList[i+k].toNat=t[k]:=this;rw[<-g,UInt8.ofNat_toNat];intro h;have key:∀k(U:k<t.length),i+k<s.size/\L s (i+k)=t[k]:=by{intro k U;have:=h k (by simpa using U);rw[List.getElem?_drop]at this;simp only[List.getElem_map]at this;have c:i+k<s.data.toList.length:=by{rcases Nat.lt_or_ge (i+k) s.data.toList.length with d|d;exact d;rw[oH d]at this;cases this};refine⟨O, ?_⟩;unfold L;rw[<-Array.getElem?_toList,this];show(UInt8.ofNat t[k]).toNat=t[k];rw[UInt8.toNat_ofNat'];exact Nat.mod_eq_of_lt (m _ (List.getElem_mem U))};refine⟨?_,λk U=>?_⟩;rcases Nat.eq_zero_or_pos t.length with e|e;omega;have:=(key (t.length-1) O).1;omega;have a:=List.mem_range.1 U;rw[beq_iff_eq,(key k a).2,eG,da a] <;> rfl
def ah7(s p:ah):iR s p=p.data.toList.isPrefixOf s.data.toList:=by
 unfold iR;rw[Bool.eq_iff_iff,List.isPrefixOf_iff_prefix,iP,decide_eq_true_eq,beq_iff_eq];have a:s.data.toList.length=s.size:=X;have hp:p.data.toList.length=p.size:=X;have e:(s.extract 0 p.size).toList=s.data.toList.take p.size:=by rw[ByteArray.toList_eq];simp
 rw[e,ByteArray.toList_eq,List.prefix_iff_eq_take,hp];constructor;rintro⟨_,h⟩;exact h.symm;intro h;refine⟨?_,h.symm⟩;have:=congrArg List.length h;rw[List.length_take,hp,a]at this;omega
def Hb(s:ah)(i:Nat):(s.extract i s.size).data.toList=s.data.toList.drop i:=by
 rw[ByteArray.data_extract];have:s.data.size=s.size:=rfl;simp only[Array.toList_extract,List.extract_eq_take_drop];exact List.take_of_length_le X
def Sa{s:ah}{i:Nat}{t:a_}(c:∀b∈t,b<256)(a:i<=s.size):iR (s.extract i s.size) (cF t)=dn s i t:=by
 rw[ah7,Zd s i t c a,Hb] <;> rfl
def index_ge(l sub:List UInt8): -1<=Lib.index l sub:=by
 induction l with
 |nil=>unfold Lib.index;split <;> omega
 |cons b l a=>unfold Lib.index;split;omega;split <;> omega
def aig(s:ah)(t:a_)(k:∀b∈t,b<256):∀(f i:Nat),s.size<i+f->i<=s.size->
  pA s t f i=if Lib.index (s.data.toList.drop i) (t.map λn=>UInt8.ofNat n)= -1 then none else some (i+(Lib.index (s.data.toList.drop i) (t.map λn=>UInt8.ofNat n)).toNat):=by
 intro f
 induction f with
 |zero=>intro i g d;omega
 |succ f l=>
  intro i g d;have m:s.data.toList.length=s.size:=X;rw[pA,Zd s i t k d];by_cases a:i<s.size;have c:s.data.toList.drop i=s.data.toList[i]'(O)::s.data.toList.drop (i+1):=List.drop_eq_getElem_cons O;rw[c,bp a];unfold Lib.index;cases hp:(t.map λn=>UInt8.ofNat n).isPrefixOf (s.data.toList[i]'(O)::s.data.toList.drop (i+1))with
  |true=>simp
  |false=>
   rw[y,aW,l (i+1) O O];have j:=index_ge (s.data.toList.drop (i+1)) (t.map λn=>UInt8.ofNat n);generalize Lib.index (s.data.toList.drop (i+1)) (t.map λn=>UInt8.ofNat n)=q at*;by_cases e:q= -1;subst e;simp;have h:¬q+1= -1:=by omega
   simp only[e,if_false,beq_iff_eq,Bool.false_eq_true,h];congr 1;omega
  have c:s.data.toList.drop i=[]:=List.drop_eq_nil_of_le O;rw[c,bF a];unfold Lib.index;cases t with
  |nil=>simp
  |cons b t=>simp
def aip(l sub:List UInt8):Lib.index l sub+sub.length<=l.length\/Lib.index l sub= -1:=by
 induction l with
 |nil=>
  unfold Lib.index;cases sub with
  |nil=>exact .inl X
  |cons b t=>exact .inr rfl
 |cons b l c=>
  unfold Lib.index;split
  rename_i h
  have:=(List.isPrefixOf_iff_prefix.1 h).length_le;exact .inl O;split;exact .inr rfl
  rename_i h
  rcases c with a|a;exact .inl (by simp only[kI];omega);rw[a]at h;exact absurd rfl h
variable{c:Nat}
theorem aoz(h:c=9\/c=11\/c=12\/c=32\/c=160\/c=65279):t8 c=true:=by rcases h with rfl|rfl|rfl|rfl|rfl|rfl <;> rfl
theorem aow(e1:((c:Int)==9)=false)(a:((c:Int)==11)=false)(b:((c:Int)==12)=false)(d:((c:Int)==32)=false)(e:((c:Int)==160)=false)(f:((c:Int)==65279)=false):t8 c=false:=by
 have e1:=fw.1 e1;have a:=fw.1 a;have b:=fw.1 b;have d:=fw.1 d;have e:=fw.1 e;have f:=fw.1 f;unfold t8;rw[fw.2 (show c≠9 by omega),fw.2 (show c≠11 by omega),fw.2 (show c≠12 by omega),fw.2 (show c≠32 by omega),fw.2 (show c≠160 by omega),fw.2 (show c≠65279 by omega)] <;> rfl
end
def ani(s:ah):∀(f g i:Nat)(aB:Bool),s.size<i+f->s.size<i+g->eY s f i aB=eY s g i aB:=by
 intro f
 induction f with
 |zero=>
  intro g i aB a b;cases g with
  |zero=>rfl
  |succ g=>rw[eY,eY,bF (show ¬i<s.size by omega)] <;> rfl
 |succ f h=>
  intro g i aB a b;cases g with
  |zero=>rw[eY,eY,bF (show ¬i<s.size by omega)] <;> rfl
  |succ g=>
   rw[eY,eY];by_cases e:i<s.size;cases d:c6 s i with
   |none=>rfl
   |some p=>
    obtain⟨c,n⟩:=p;have:=lV d;grind
   simp[*]
abbrev Ci(x:c4):aN:=[C x.af,Z x.i,H x.aB,Q x.oa x.on x.oc]
abbrev qU:aF where
 X:=c4
 args x:=[W (lZ x)]
 pre x:=[D x.b (Ci x) 82]
 cond x:=0<=x.i/\x.i<=x.af.size/\x.af.size<=1048576
 aE _ F:=Gl F
 val x _:=al (Z (cW x.af (x.af.size+1) x.i.toNat x.aB).1)
 post x _:=[D x.b [C x.af,Z ((cW x.af (x.af.size+1) x.i.toNat x.aB).2.1:Nat),H (cW x.af (x.af.size+1) x.i.toNat x.aB).2.2,Q x.oa x.on x.oc] 82]
structure k_ where
 i:Nat
 f:Nat
 aB:Bool
 k:Nat
def Yd:(T:Type)×(fE×k_->T):=⟨k_,λd=>d.2⟩
def afu(x:c4)(F:ag):Nat->Option Inv:=fun
 |0=>some {X:=k_,P:=λd=>d.i<=x.af.size/\x.af.size<d.i+d.f/\cW x.af (x.af.size+1) x.i.toNat x.aB=cW x.af d.f d.i d.aB,mu:=λd=>x.af.size-d.i,lv:=λd=>[(0,W (lZ x))],st:=λd=>[D x.b [C x.af,Z d.i,H d.aB,Q x.oa x.on x.oc] 82,F]}
 |3=>some {X:=fE×k_,P:=λd=>d.2.i<=d.1.i/\d.1.i<=x.af.size/\x.af.size<d.1.i+d.1.f/\f_ x.af (x.af.size+1) d.2.i=f_ x.af d.1.f d.1.i,mu:=λd=>x.af.size-d.1.i,lv:=λd=>[(0,W (lZ x))],st:=λd=>[D x.b [C x.af,Z d.1.i,H d.2.aB,Q x.oa x.on x.oc] 82,F],gh:=some Yd}
 |_=>none
def MT(z:k_)(a:c4):=z.i<=a.af.size/\a.af.size<z.i+z.f/\cW a.af (a.af.size+1) a.i.toNat a.aB=cW a.af z.f z.i z.aB
def Iw(a:c4):=W (lZ a)=W (lZ a)/\True
abbrev Ae(x:c4)(F:ag):=[(0,D x.b (Ci x) 82),(1,F)]
abbrev rB(a:c4)(z:k_)(e1:ag):=[(0,D a.b [C a.af,Z ↑z.i,H z.aB,Q a.oa a.on a.oc] 82),(1,e1)]
def Gx(a:c4)(e1:ag)(b:St)(mm:Nat):=∃(z:k_),MT z a/\Iw a/\ay b (rB a z e1)/\a.af.size-z.i<mm
def IT(x:c4)(q:k_)(n:Nat×Nat)(F:ag):=V x.b 2/\V x.b 1/\aA ((q.i:Int)+(n.snd:Int))/\V x.b 1/\Gx x F [(0,D x.b [C x.af,Z ((q.i:Int)+(n.snd:Int)),H true,Q x.oa x.on x.oc] 82),(1,F)] (x.af.size-q.i)
def Cu(x:c4)(q:k_)(n:Nat×Nat)(F:ag):=V x.b 1/\aA ((q.i:Int)+(n.snd:Int))/\V x.b 1/\Gx x F [(0,D x.b [C x.af,Z ((q.i:Int)+(n.snd:Int)),H q.aB,Q x.oa x.on x.oc] 82),(1,F)] (x.af.size-q.i)
def vO(a:c4):=0<=a.i/\a.i<=a.af.size/\a.af.size<=1048576
def Gy:=bz 84 An (λa=>vO a) qF
def u6:=fv 56 m7
def MB(a:fE×k_)(x:c4)(f:k_):=(a.snd.i<=a.fst.i/\a.fst.i<=x.af.size/\x.af.size<a.fst.i+a.fst.f/\f_ x.af (x.af.size+1) a.snd.i=f_ x.af a.fst.f a.fst.i)/\Yd.snd a=f
abbrev FE(x:c4)(a:fE×k_)(F:ag):=[(0,D x.b [C x.af,Z ↑a.fst.i,H a.snd.aB,Q x.oa x.on x.oc] 82),(1,F)]
def Fk(x:c4)(F:ag)(e:fE×k_)(q:k_):=Gx x F (FE x e F) (x.af.size-q.i)
abbrev mN:=Z (-1)
abbrev rA:=al mN
def afx(x:c4)(F:ag)(hc:qU.cond x)(hr:qU.aE x F):(∃(a:k_),MT a x/\Iw x/\ay (Ae x F) (rB x a F))/\aQ λ(q:k_)_=>MT q x->true=true/\V x.b 1/\V x.b 0/\aK ((q.i:Int)<(x.af.size:Int)) (true=true/\V x.b 0/\V x.b 1/\T4 [C x.af,Z ↑q.i] (g (rB x q F) []) (λo n=>Br ((n.fst:Int)==10) (IT x q n F) (Br ((n.fst:Int)==13) (IT x q n F) (Br ((n.fst:Int)==8232) (IT x q n F) (Br ((n.fst:Int)==8233) (IT x q n F) (Br ((n.fst:Int)==9) (Cu x q n F) (Br ((n.fst:Int)==11) (Cu x q n F) (Br ((n.fst:Int)==12) (Cu x q n F) (Br ((n.fst:Int)==32) (Cu x q n F) (Br ((n.fst:Int)==160) (Cu x q n F) (Br ((n.fst:Int)==65279) (Cu x q n F) (Gy [W (lZ x)] (g (rB x q F) []) (λm s=>u6 [C (m.af.extract m.i.toNat m.af.size),C ⟨#[47,47]⟩] (λk j=>Br (iR k.a k.b) (∃(f:k_),(∃(a:fE×k_),MB a x f/\Iw x/\ay (rB x q F) (FE x a F))/\aQ λ(e:fE×k_)_=>MB e x f->true=true/\V x.b 1/\V x.b 0/\aK ((e.fst.i:Int)<(x.af.size:Int)) (true=true/\V x.b 0/\V x.b 1/\T4 [C x.af,Z ↑e.fst.i] (g (FE x e F) []) (λc b=>Br ((b.fst:Int)==10) (Fk x F e q) (Br ((b.fst:Int)==13) (Fk x F e q) (Br ((b.fst:Int)==8232) (Fk x F e q) (Br ((b.fst:Int)==8233) (Fk x F e q) (V x.b 1/\aA ((e.fst.i:Int)+(b.snd:Int))/\V x.b 1/\∃(a:fE×k_),MB a x f/\Iw x/\ay [(0,D x.b [C x.af,Z ((e.fst.i:Int)+(b.snd:Int)),H e.snd.aB,Q x.oa x.on x.oc] 82),(1,F)] (FE x a F)/\x.af.size-a.fst.i<x.af.size-e.fst.i))))) (λc a=>V x.b 1/\l qU x F (al (Z ↑e.fst.i)) (FE x e F))) (Fk x F e q)) (Gy [W (lZ x)] (g (rB x q F) []) (λi h=>u6 [C (i.af.extract i.i.toNat i.af.size),C ⟨#[47,42]⟩] (λu f=>Br (iR u.a u.b) (true=true/\V x.b 0/\V x.b 1/\aA ((q.i:Int)+2)/\(0<=(q.i:Int)+2/\(q.i:Int)+2<=(x.af.size:Int)/\(x.af.size:Int)<=(x.af.size:Int))/\bz 85 Ly (λe=>e.a.size<=1048576) (λ_=>Gl) [C (x.af.extract ((q.i:Int)+2).toNat (x.af.size:Int).toNat),C ⟨#[42,47]⟩] (g (rB x q F) []) (λe d=>true=true/\aK (Lib.index e.a.data.toList e.b.data.toList<0) (V x.b 1/\l qU x F (al (Z ↑q.i)) (rB x q F)) (V x.b 0/\V x.b 1/\aA ((q.i:Int)+2)/\V x.b 1/\aA ((q.i:Int)+2)/\aA ((q.i:Int)+2+Lib.index e.a.data.toList e.b.data.toList)/\(0<=(q.i:Int)+2/\(q.i:Int)+2<=(q.i:Int)+2+Lib.index e.a.data.toList e.b.data.toList/\(q.i:Int)+2+Lib.index e.a.data.toList e.b.data.toList<=x.af.size)/\dP 86 v8 (λc=>c.s.size<=1048576) (λ_=>Gl) (λ_ _=>True) [W (lZ x),C (x.af.extract ((q.i:Int)+2).toNat ((q.i:Int)+2+Lib.index e.a.data.toList e.b.data.toList).toNat)] [D x.b [C x.af,Z ↑q.i,H q.aB,Q x.oa x.on x.oc] 82] (g (rB x q F) [0]) (λc b=>Br (!(eY c.s (c.s.size+1) 0 c.l.aB).fst) (d6 ⟨x.b,1,none⟩ c.l.b/\l qU x F (al (Z c.l.i)) [(0,D c.l.b [C c.l.af,Z c.l.i,H (eY c.s (c.s.size+1) 0 c.l.aB).snd,Q c.l.oa c.l.on c.l.oc] 82),(1,F)]) (d6 ⟨x.b,1,none⟩ c.l.b/\aA (Lib.index e.a.data.toList e.b.data.toList+4)/\aA (c.l.i+(Lib.index e.a.data.toList e.b.data.toList+4))/\d6 ⟨x.b,1,none⟩ c.l.b/\Gx x F [(0,D c.l.b [C c.l.af,Z (c.l.i+(Lib.index e.a.data.toList e.b.data.toList+4)),H (eY c.s (c.s.size+1) 0 c.l.aB).snd,Q c.l.oa c.l.on c.l.oc] 82),(1,F)] (x.af.size-q.i)))))) (l qU x F rA (rB x q F)))))))))))))))))) (λo a=>V x.b 1/\l qU x F (al (Z ↑q.i)) (rB x q F))) (l qU x F rA (rB x q F)):=by
 delta MT lZ Iw Ci Ae rB T4 Gx IT Cu vO Gy u6 MB FE Fk mN rA g V aA fv bz dP Z C H W Q D aK al aQ;obtain⟨h0,x6,hs⟩:=hc;refine⟨⟨⟨x.i.toNat,x.af.size+1,x.aB,0⟩,⟨bX,bX,rfl⟩,⟨rfl,ai⟩,ay.pick [0,1] rfl (by dsimp only;rw[Int.toNat_of_nonneg h0] <;> rfl)⟩, ?_⟩;rintro⟨i,f,aB,k0⟩ js ⟨h1,h2,N⟩;dsimp only at h1 h2 N⊢;have ae:∀{p:Int}{j:Nat}{ln:Bool},cW x.af f i aB=(p,j,ln)->l qU x F (returned (int i64 p)) [(0,ag.cells x.b [string x.af,int i64 (j:Int),bool ln,slice x.oa x.on x.oc] 82),(1,F)]:=λ{p j ln}e=>by{have e':=N.trans e;exact⟨(),ai,by show returned _=returned (.int .i64 (cW x.af (x.af.size+1) x.i.toNat x.aB).1);rw[e'],ay.pick [0,1] rfl (by simp only[qU,e'];rfl)⟩};obtain⟨A,rfl⟩:∃A,f=A+1:=⟨f-1,O⟩;refine⟨rfl,Y,Y,bd (λx7=>⟨rfl,Y,Y,Ew,rfl,⟨x.af,i⟩,rfl,rfl,bX,gv.rest (j:=1) X hr.qu, ?_, ?_⟩) (λx4=>ae (by rw[cW,bF (show ¬i<x.af.size by omega)] <;> rfl))⟩
 ·rintro⟨c,n⟩ z;have z:c6 x.af (i:Int).toNat=some (c,n):=z;rw[cy]at z;obtain⟨f1,f2,f3⟩:=lV z;have go:cW x.af (A+1) i aB=bif iD c then cW x.af A (i+n) true else bif t8 c then cW x.af A (i+n) aB else bif dn x.af i [47,47] then bif (f_ x.af (x.af.size+1) i).2 then cW x.af A (f_ x.af (x.af.size+1) i).1 aB else ((f_ x.af (x.af.size+1) i).1,(f_ x.af (x.af.size+1) i).1,aB) else bif dn x.af i [47,42] then (match pA (x.af.extract (i+2) x.af.size) [42,47] (x.af.size+1) 0 with|none=>((i:Int),i,aB)|some k=>let r:=eY (x.af.extract (i+2) (i+2+k)) (x.af.size+1) 0 aB;bif r.1 then cW x.af A (i+k+4) r.2 else ((i:Int),i,r.2)) else (-1,i,aB):=by
   rw[cW,bp (show i<x.af.size by omega),aW,z]
   try rfl
  dsimp only;refine ar (λe=>?_) (λe1=>ar (λe=>?_) (λR=>ar (λe=>?_) (λe3=>ar (λe=>?_) (λe4=>?_))))
  case refine_5=>
   have hn:iD c=false:=LO e1 R e3 e4;rw[hn,y]at go;refine ar (λe=>?_) (λs1=>ar (λe=>?_) (λs2=>ar (λe=>?_) (λs3=>ar (λe=>?_) (λs4=>ar (λe=>?_) (λs5=>ar (λe=>?_) (λs6=>?_))))))
   case refine_7=>
    have M:t8 c=false:=aow s1 s2 s3 s4 s5 s6;rw[M,y]at go;have lx:∀{S:St}{b:Nat},gt S 0=ag.cells b [string x.af,int i64 (i:Int),bool aB,slice x.oa x.on x.oc] 82->qF (c4.mk b x.af (i:Int) aB x.oa x.on x.oc) (.cJ (rest S [])):=λhS=>⟨aH.rest (j:=0) X (by rw[hS];exact aH.cells rfl),aH.rest (j:=0) X (by rw[hS];exact aH.cells rfl)⟩;refine ba Wo ⟨x.b,x.af,i,aB,x.oa,x.on,x.oc⟩ ⟨bX,bX,hs⟩ (lx rfl) λ_ _=>kH BH ⟨x.af.extract (i:Int).toNat x.af.size,⟨#[47,47]⟩⟩ λ_ _=>?_;dsimp only;have q1:iR (x.af.extract (i:Int).toNat x.af.size) {data:=#[(47:UInt8),(47:UInt8)]}=dn x.af i [47,47]:=by rw[cy];exact Sa (t:=[47,47]) (by decide) h1
    rw[q1];refine ar (λhb=>?_) (λhb=>?_)
    ·rw[hb,aW]at go;refine⟨⟨i,A+1,aB,0⟩,⟨(⟨i,x.af.size+1,false⟩,⟨i,A+1,aB,0⟩),⟨⟨bK _,h1,bX,rfl⟩,rfl⟩,⟨rfl,ai⟩,ao [0,1]⟩, ?_⟩;rintro⟨⟨B,f2,l2⟩,d⟩ x8 ⟨⟨g1,g2,g3,g4⟩,hd⟩;have hd:d=⟨i,A+1,aB,0⟩:=hd;subst hd;dsimp only at g1 g2 g3 g4⊢;obtain⟨I,rfl⟩:∃I,f2=I+1:=⟨f2-1,O⟩;have out:i<B->f_ x.af (I+1) B=(B,true)->∃(v:k_),(v.i<=x.af.size/\x.af.size<v.i+v.f/\cW x.af (x.af.size+1) x.i.toNat x.aB=cW x.af v.f v.i v.aB)/\(pointer (some {block:=x.b,off:=0})=pointer (some {block:=x.b,off:=0})/\True)/\ay [(0,ag.cells x.b [string x.af,int i64 (B:Int),bool aB,slice x.oa x.on x.oc] 82),(1,F)] [(0,ag.cells x.b [string x.af,int i64 (v.i:Int),bool v.aB,slice x.oa x.on x.oc] 82),(1,F)]/\x.af.size-v.i<x.af.size-i:=λhi he=>by
      rw[g4,he]at go;exact⟨⟨B,A,aB,0⟩,⟨g2,bX,N.trans go⟩,⟨rfl,ai⟩,ao [0,1],bX⟩
     refine⟨rfl,Y,Y,bd (λx3=>⟨rfl,Y,Y,Ew,rfl,⟨x.af,B⟩,rfl,rfl,bX,gv.rest (j:=1) X hr.qu, ?_, ?_⟩) (λT=>out O (by rw[f_,bF (show ¬B<x.af.size by omega)] <;> rfl))⟩
     ·rintro⟨P,n2⟩ w;have w:c6 x.af (B:Int).toNat=some (P,n2):=w;rw[cy]at w;obtain⟨k1,k2,k3⟩:=lV w;dsimp only;refine ar (λe=>?_) (λe1=>ar (λe=>?_) (λR=>ar (λe=>?_) (λe3=>ar (λe=>?_) (λe4=>?_))))
      case refine_5=>
       have G:iD P=false:=LO e1 R e3 e4;refine⟨Y,aC,Y,(⟨B+n2,I,false⟩,⟨i,A+1,aB,0⟩),⟨⟨bX,k1,bX, ?_⟩,rfl⟩,⟨rfl,ai⟩,ay.pick [0,1] rfl (by dsimp only;rw[Int.natCast_add] <;> rfl),bX⟩;rw[g4,f_,bp (show B<x.af.size by omega),aW,w];show(bif iD P then _ else _)=_;rw[G,y]
      all_goals
       have G:iD P=true:=BT (by have:=beq_iff_eq.1 e;omega);have hi:i<B:=by
        rcases Nat.lt_or_ge i B with h|h;exact h;have:B=i:=by omega
        rw[this,z]at w;cases w;rw[hn]at G;cases G
       refine out hi ?_;rw[f_,bp (show B<x.af.size by omega),aW,w];show(bif iD P then _ else _)=_;rw[G,aW]
     intro _ w;have w:c6 x.af (B:Int).toNat=none:=w;rw[cy]at w;have e:f_ x.af (x.af.size+1) i=(B,false):=by{rw[g4,f_,bp (show B<x.af.size by omega),aW,w]};rw[e]at go;exact⟨Y,ae go⟩
    rw[hb,y]at go;refine ba Wo ⟨x.b,x.af,i,aB,x.oa,x.on,x.oc⟩ ⟨bX,bX,hs⟩ (lx rfl) λ_ _=>kH BH ⟨x.af.extract (i:Int).toNat x.af.size,⟨#[47,42]⟩⟩ λ_ _=>?_;dsimp only;have q2:iR (x.af.extract (i:Int).toNat x.af.size) {data:=#[(47:UInt8),(42:UInt8)]}=dn x.af i [47,42]:=by rw[cy];exact Sa (t:=[47,42]) (by decide) h1
    rw[q2];refine ar (λE=>?_) (λE=>?_);rw[E,aW]at go;have x5:i+2<=x.af.size:=by{unfold dn at E;rw[iP,decide_eq_true_eq]at E;exact E.1};have x2:(x.af.extract (i+2) x.af.size).size=x.af.size-(i+2):=by rw[iA];omega
    have J:pA (x.af.extract (i+2) x.af.size) [42,47] (x.af.size+1) 0=if Lib.index (x.af.extract (i+2) x.af.size).data.toList (ByteArray.mk #[42,47]).data.toList= -1 then none else some (0+(Lib.index (x.af.extract (i+2) x.af.size).data.toList (ByteArray.mk #[42,47]).data.toList).toNat):=aig (x.af.extract (i+2) x.af.size) [42,47] (by decide) (x.af.size+1) 0 O O
    have x1:(x.af.extract (i+2) x.af.size).data.toList.length=x.af.size-(i+2):=by rw[<-x2];simp
    have x0:Lib.index (x.af.extract (i+2) x.af.size).data.toList (ByteArray.mk #[42,47]).data.toList+(2:Nat)<=(x.af.extract (i+2) x.af.size).data.toList.length\/Lib.index (x.af.extract (i+2) x.af.size).data.toList (ByteArray.mk #[42,47]).data.toList= -1:=aip _ _;have T:=index_ge (x.af.extract (i+2) x.af.size).data.toList (ByteArray.mk #[42,47]).data.toList;rw[x1]at x0;have ei:((i:Int)+2).toNat=i+2:=O;refine⟨rfl,Y,Y,aC,⟨O,O,cH _⟩,aiD,rfl,⟨x.af.extract (i+2) x.af.size,⟨#[42,47]⟩⟩,by rw[ei,cy],rfl,bX,Gl.rest (j:=1) X hr,λ_ _=>⟨rfl, ?_⟩⟩;dsimp only;generalize Lib.index (x.af.extract (i+2) x.af.size).data.toList (ByteArray.mk #[42,47]).data.toList=q at*;refine bd (λhq=>⟨Y,ae ?_⟩) (λhq=>?_);rw[go,J,if_pos O];obtain⟨k,rfl⟩:∃k:Nat,q=k:=⟨q.toNat,O⟩;have U:k+2<=x.af.size-(i+2):=O;rw[J,if_neg O]at go;have R:((i:Int)+2+(k:Int)).toNat=i+2+k:=O;have er:eY (x.af.extract (i+2) (i+2+k)) (x.af.size+1) 0 aB=eY (x.af.extract (i+2) (i+2+k)) ((x.af.extract (i+2) (i+2+k)).size+1) 0 aB:=ani _ _ _ _ _ (by rw[iA];omega) O;have K:cW x.af (A+1) i aB=bif (eY (x.af.extract (i+2) (i+2+k)) ((x.af.extract (i+2) (i+2+k)).size+1) 0 aB).1 then cW x.af A (i+k+4) (eY (x.af.extract (i+2) (i+2+k)) ((x.af.extract (i+2) (i+2+k)).size+1) 0 aB).2 else ((i:Int),i,(eY (x.af.extract (i+2) (i+2+k)) ((x.af.extract (i+2) (i+2+k)).size+1) 0 aB).2):=by{rw[<-er,go];show(bif (eY (x.af.extract (i+2) (i+2+(0+(k:Int).toNat))) (x.af.size+1) 0 aB).1 then cW x.af A (i+(0+(k:Int).toNat)+4) _ else _)=_;rw[gZ,cy]};refine⟨Y,Y,aC,Y,aC,aC,⟨O,O,O⟩,anr,rfl,⟨⟨x.b,x.af,i,aB,x.oa,x.on,x.oc⟩,x.af.extract (i+2) (i+2+k)⟩,by rw[ei,R] <;> rfl,rfl,by dsimp only;rw[iA];omega,Gl.rest (j:=1) X hr,λ_ _=>?_⟩;dsimp only;generalize eY (x.af.extract (i+2) (i+2+k)) ((x.af.extract (i+2) (i+2+k)).size+1) 0 aB=rr at*;obtain⟨ok,ln⟩:=rr;dsimp only at K⊢;refine ar (λL=>⟨Y,ae ?_⟩) (λL=>⟨Y,aC,aC,Y,⟨i+k+4,A,ln,0⟩,⟨bX,bX,N.trans ?_⟩,⟨rfl,ai⟩,ay.pick [0,1] rfl (by dsimp only;rw[show((i+k+4:Nat):Int)=(i:Int)+((k:Int)+4) by omega] <;> rfl),bX⟩);have:ok=false:=by simpa using L
    rw[K,this] <;> rfl;have:ok=true:=by simpa using L
    rw[K,this] <;> rfl;rw[E,y]at go;exact ae go
   all_goals
    have M:t8 c=true:=aoz (by have:=beq_iff_eq.1 e;omega);rw[M,aW]at go;exact⟨Y,aC,Y,⟨i+n,A,aB,0⟩,⟨f1,bX,N.trans go⟩,⟨rfl,ai⟩,ay.pick [0,1] rfl (by dsimp only;rw[Int.natCast_add] <;> rfl),bX⟩
  all_goals
   have hn:iD c=true:=BT (by have:=beq_iff_eq.1 e;omega);rw[hn,aW]at go;exact⟨Y,Y,aC,Y,⟨i+n,A,true,0⟩,⟨f1,bX,N.trans go⟩,⟨rfl,ai⟩,ay.pick [0,1] rfl (by dsimp only;rw[Int.natCast_add] <;> rfl),bX⟩
 intro _ z;have z:c6 x.af (i:Int).toNat=none:=z;rw[cy]at z;exact⟨Y,ae (by rw[cW,bp (show i<x.af.size by omega),aW,z])⟩
def afv:aG 49 qU:=fo 204 func49 (λ_ _=>[(2,8,aI qd),(11,1,aI An),(11,2,aI m7),(13,8,aI qd),(18,1,aI An),(18,2,aI m7),(19,10,aI Ly),(20,21,q v8),(21,3,z 0),(22,3,z 0),(22,9,.w [.aS 0])]) [(1,3,z 0),(1,7,z 0),(2,3,z 0),(2,7,z 0),(7,3,.w [LH.aS (0:Nat)]),(10,3,z 0),(12,3,z 0),(19,3,z 0),(5,3,z 0),(8,3,z 0),(10,8,.w [LH.aS (0:Nat)]),(12,7,z 0),(19,7,z 0),(8,8,.w [LH.aS (0:Nat)]),(13,3,z 0),(20,7,z 0),(13,7,z 0),(20,11,z 0),(17,3,z 0),(15,3,z 0),(20,16,z 0),(17,8,.w [LH.aS (0:Nat)])] afu dV gj [] afx
def iE(b:Nat):Bool:=gn b||bE b
abbrev Hs:aF:=yT iE
def Dz:=cG 88 ue (λa=>a.c<256)
def ai5(x:AS)(F:ag)(g:Hs.cond x)(h:Hs.aE x F):Dz [u ↑x.c] (λd c=>Br (gn d.c) (l Hs x F gc [(0,F)]) (T0 [u ↑x.c] (λb a=>l Hs x F (al (H (bE b.c))) [(0,F)]))):=by
 delta Dz gc T0 cG u H al;have f:x.c<256:=g;refine bG Sn x f λ_ _=>ar (λe=>⟨(),ai,l7 (by unfold iE;simp[*]),ao [0]⟩) (λe=>bG yV x f λ_ _=>⟨(),ai,l7 (by unfold iE;simp[*]),ao [0]⟩)
def ai4:aG 90 Hs:=cY func90 [(1,1,aI ue),(1,4,aI qX)] ai5
def aa3(s:ah)(p:Nat->Bool):∀(f i:Nat),i<=s.size->i<=gL s p f i/\gL s p f i<=s.size:=by
 intro f
 induction f with
 |zero=>intro i h;exact⟨bK _,h⟩
 |succ f a=>
  intro i h;rw[gL];grind
abbrev FM(bA:Nat)(p:Nat->Bool):aF where
 X:=c4
 args x:=[.pointer (some ⟨x.b,0,none⟩),.func (.func bA) #[] #[]]
 pre x:=[D x.b (Ci x) 82]
 cond x:=0<=x.i/\x.i<=x.af.size/\x.af.size<=1048576
 val x _:=al (C (x.af.extract x.i.toNat (bw x.af p x.i.toNat)))
 post x _:=[D x.b [C x.af,Z (bw x.af p x.i.toNat:Nat),H x.aB,Q x.oa x.on x.oc] 82]
def Wq(bA:Nat)(p:Nat->Bool)(x:c4)(F:ag):Nat->Option Inv:=fun
 |0=>some {X:=fE,P:=λd=>x.i.toNat<=d.i/\d.i<=x.af.size/\x.af.size<d.i+d.f/\bw x.af p x.i.toNat=gL x.af p d.f d.i,mu:=λd=>x.af.size-d.i,lv:=λd=>[(0,.pointer (some ⟨x.b,0,none⟩)),(1,.func (.func bA) #[] #[]),(5,.int .i64 x.i)],st:=λd=>[D x.b [C x.af,Z d.i,H x.aB,Q x.oa x.on x.oc] 82,F]}
 |_=>none
def Wr(p:Nat->Bool)(b:c4)(a:ag):List (Nat×Nat×OH):=[(2,21,.c (yT p) [] [])]
abbrev Ap:aF:=FM 90 iE
def MY(x:c4)(a:fE):=x.i.toNat<=a.i/\a.i<=x.af.size/\x.af.size<a.i+a.f/\bw x.af iE x.i.toNat=gL x.af iE a.f a.i
def TP(x:c4):=W (lZ x)=W (lZ x)/\func (Fn.func 90) ⟨[]⟩ ⟨[]⟩=func (Fn.func 90) ⟨[]⟩ ⟨[]⟩/\Z x.i=Z x.i/\True
abbrev sW(x:c4)(a:fE)(F:ag):=[(0,D x.b [C x.af,Z ↑a.i,H x.aB,Q x.oa x.on x.oc] 82),(1,F)]
def FC(e:fE)(x:c4):=0<=(e.i:Int)/\(e.i:Int)<(x.af.size:Int)
abbrev EZ(x:c4)(e:fE)(F:ag):=[(0,D x.b [C x.af,Z ((e.i:Int)+1),H x.aB,Q x.oa x.on x.oc] 82),(1,F)]
def ES(x:c4)(e:fE):=0<=x.i/\x.i<=e.i/\(e.i:Int)<=(x.af.size:Int)
abbrev EP(x:c4)(e:fE):=al (C (x.af.extract x.i.toNat (e.i:Int).toNat))
def Vx(x:c4)(e:fE)(F:ag):=true=true/\V x.b 0/\V x.b 1/\ES x e/\l Ap x F (EP x e) (sW x e F)
def anK(x:c4)(F:ag)(o:Ap.cond x)(r:Ap.aE x F):V x.b 1/\(∃(a:fE),MY x a/\TP x/\ay (Ae x F) (sW x a F))/\aQ λ(e:fE)_=>MY x e->true=true/\V x.b 1/\V x.b 0/\aK ((e.i:Int)<(x.af.size:Int)) (V x.b 0/\V x.b 1/\FC e x/\cG 90 (yT iE) (λc=>c.c<256) [u (B x.af (e.i:Int))] (λc b=>Br (iE c.c) (V x.b 1/\aA ((e.i:Int)+1)/\V x.b 1/\∃(a:fE),MY x a/\TP x/\ay (EZ x e F) (sW x a F)/\x.af.size-a.i<x.af.size-e.i) (Vx x e F))) (Vx x e F):=by
 delta MY lZ TP Ci Ae sW FC EZ ES EP Vx V aA cG Z u C H W Q D aK al aQ;obtain⟨g,q,s⟩:=o;refine⟨Y,⟨⟨x.i.toNat,x.af.size+1,false⟩,⟨bK _,by simp[*],by grind,rfl⟩,aU,ay.pick [0,1] rfl (by dsimp only;rw[Int.toNat_of_nonneg g] <;> rfl)⟩, ?_⟩;rintro⟨i,f,_⟩ t ⟨k,m,n,h⟩;dsimp only at k m n h⊢;obtain⟨d,rfl⟩:∃d,f=d+1:=⟨f-1,O⟩;have ae:gL x.af iE (d+1) i=i->l Ap x F (returned (string (x.af.extract x.i.toNat (i:Int).toNat))) [(0,ag.cells x.b [string x.af,int i64 (i:Int),bool x.aB,slice x.oa x.on x.oc] 82),(1,F)]:=λe=>
  ⟨(),ai,by show returned _=returned (.string (x.af.extract x.i.toNat (bw x.af iE x.i.toNat)));simp[*],ay.pick [0,1] rfl (by simp only[Ap,FM,h,e];rfl)⟩
 refine⟨rfl,Y,Y,bd (λj=>⟨Y,Y,⟨O,j⟩,ai4,rfl,⟨L x.af i⟩,by rw[gR,cy],rfl,ir _ _,ai,λ_ _=>ar (λe=>?_) (λe=>?_)⟩) (λp=>⟨rfl,Y,Y,⟨g,O,O⟩,ae (by rw[gL,bF (show ¬i<x.af.size by omega)] <;> rfl)⟩)⟩;exact⟨Y,aC,Y,⟨i+1,d,false⟩,⟨by grind,by grind,by grind,h.trans (by rw[gL,bp (show i<x.af.size by omega),e] <;> rfl)⟩,aU,ay.pick [0,1] rfl (by rfl),by grind⟩;exact⟨rfl,Y,Y,⟨g,O,O⟩,ae (by rw[gL,bp (show i<x.af.size by omega),e] <;> rfl)⟩
def anJ:aG 89 Ap:=fo 50 func89 (Wr iE) [(1,3,z 0),(2,3,z 0),(2,7,z 0),(2,15,z 0),(4,3,z 0),(2,19,z 0),(4,8,z 0),(3,3,z 0),(3,7,.w [LH.aS (0:Nat)])] (Wq 90 iE) dV gj [] anK
abbrev wb:aF:=FM 91 bE
def MV(x:c4)(a:fE):=x.i.toNat<=a.i/\a.i<=x.af.size/\x.af.size<a.i+a.f/\bw x.af bE x.i.toNat=gL x.af bE a.f a.i
def TQ(x:c4):=W (lZ x)=W (lZ x)/\func (Fn.func 91) ⟨[]⟩ ⟨[]⟩=func (Fn.func 91) ⟨[]⟩ ⟨[]⟩/\Z x.i=Z x.i/\True
def Vv(x:c4)(e:fE)(F:ag):=true=true/\V x.b 0/\V x.b 1/\ES x e/\l wb x F (EP x e) (sW x e F)
def anI(x:c4)(F:ag)(o:wb.cond x)(r:wb.aE x F):V x.b 1/\(∃(a:fE),MV x a/\TQ x/\ay (Ae x F) (sW x a F))/\aQ λ(e:fE)_=>MV x e->true=true/\V x.b 1/\V x.b 0/\aK ((e.i:Int)<(x.af.size:Int)) (V x.b 0/\V x.b 1/\FC e x/\cG 91 (yT bE) (λc=>c.c<256) [u (B x.af (e.i:Int))] (λc b=>Br (bE c.c) (V x.b 1/\aA ((e.i:Int)+1)/\V x.b 1/\∃(a:fE),MV x a/\TQ x/\ay (EZ x e F) (sW x a F)/\x.af.size-a.i<x.af.size-e.i) (Vv x e F))) (Vv x e F):=by
 delta MV lZ TQ Ci Ae sW FC EZ ES EP Vv V aA cG Z u C H W Q D aK al aQ;obtain⟨g,q,s⟩:=o;refine⟨Y,⟨⟨x.i.toNat,x.af.size+1,false⟩,⟨bK _,by simp[*],by grind,rfl⟩,aU,ay.pick [0,1] rfl (by dsimp only;rw[Int.toNat_of_nonneg g] <;> rfl)⟩, ?_⟩;rintro⟨i,f,_⟩ t ⟨k,m,n,h⟩;dsimp only at k m n h⊢;obtain⟨d,rfl⟩:∃d,f=d+1:=⟨f-1,O⟩;have ae:gL x.af bE (d+1) i=i->l wb x F (returned (string (x.af.extract x.i.toNat (i:Int).toNat))) [(0,ag.cells x.b [string x.af,int i64 (i:Int),bool x.aB,slice x.oa x.on x.oc] 82),(1,F)]:=λe=>
  ⟨(),ai,by show returned _=returned (.string (x.af.extract x.i.toNat (bw x.af bE x.i.toNat)));simp[*],ay.pick [0,1] rfl (by simp only[wb,FM,h,e];rfl)⟩
 refine⟨rfl,Y,Y,bd (λj=>⟨Y,Y,⟨O,j⟩,yV,rfl,⟨L x.af i⟩,by rw[gR,cy],rfl,ir _ _,ai,λ_ _=>ar (λe=>?_) (λe=>?_)⟩) (λp=>⟨rfl,Y,Y,⟨g,O,O⟩,ae (by rw[gL,bF (show ¬i<x.af.size by omega)] <;> rfl)⟩)⟩;exact⟨Y,aC,Y,⟨i+1,d,false⟩,⟨by grind,by grind,by grind,h.trans (by rw[gL,bp (show i<x.af.size by omega),e] <;> rfl)⟩,aU,ay.pick [0,1] rfl (by rfl),by grind⟩;exact⟨rfl,Y,Y,⟨g,O,O⟩,ae (by rw[gL,bp (show i<x.af.size by omega),e] <;> rfl)⟩
def Wp:aG 89 wb:=fo 50 func89 (Wr bE) [(1,3,z 0),(2,3,z 0),(2,7,z 0),(2,15,z 0),(4,3,z 0),(2,19,z 0),(4,8,z 0),(3,3,z 0),(3,7,.w [LH.aS (0:Nat)])] (Wq 91 bE) dV gj [] anI
abbrev Aq:aF:=FM 116 gf
def MW(x:c4)(a:fE):=x.i.toNat<=a.i/\a.i<=x.af.size/\x.af.size<a.i+a.f/\bw x.af gf x.i.toNat=gL x.af gf a.f a.i
def TL(x:c4):=W (lZ x)=W (lZ x)/\func (Fn.func 116) ⟨[]⟩ ⟨[]⟩=func (Fn.func 116) ⟨[]⟩ ⟨[]⟩/\Z x.i=Z x.i/\True
def Vy(x:c4)(e:fE)(F:ag):=true=true/\V x.b 0/\V x.b 1/\ES x e/\l Aq x F (EP x e) (sW x e F)
def anM(x:c4)(F:ag)(o:Aq.cond x)(r:Aq.aE x F):V x.b 1/\(∃(a:fE),MW x a/\TL x/\ay (Ae x F) (sW x a F))/\aQ λ(e:fE)_=>MW x e->true=true/\V x.b 1/\V x.b 0/\aK ((e.i:Int)<(x.af.size:Int)) (V x.b 0/\V x.b 1/\FC e x/\cG 116 (yT gf) (λc=>c.c<256) [u (B x.af (e.i:Int))] (λc b=>Br (gf c.c) (V x.b 1/\aA ((e.i:Int)+1)/\V x.b 1/\∃(a:fE),MW x a/\TL x/\ay (EZ x e F) (sW x a F)/\x.af.size-a.i<x.af.size-e.i) (Vy x e F))) (Vy x e F):=by
 delta MW lZ TL Ci Ae sW FC EZ ES EP Vy V aA cG Z u C H W Q D aK al aQ;obtain⟨g,q,s⟩:=o;refine⟨Y,⟨⟨x.i.toNat,x.af.size+1,false⟩,⟨bK _,by simp[*],by grind,rfl⟩,aU,ay.pick [0,1] rfl (by dsimp only;rw[Int.toNat_of_nonneg g] <;> rfl)⟩, ?_⟩;rintro⟨i,f,_⟩ t ⟨k,m,n,h⟩;dsimp only at k m n h⊢;obtain⟨d,rfl⟩:∃d,f=d+1:=⟨f-1,O⟩;have ae:gL x.af gf (d+1) i=i->l Aq x F (returned (string (x.af.extract x.i.toNat (i:Int).toNat))) [(0,ag.cells x.b [string x.af,int i64 (i:Int),bool x.aB,slice x.oa x.on x.oc] 82),(1,F)]:=λe=>
  ⟨(),ai,by show returned _=returned (.string (x.af.extract x.i.toNat (bw x.af gf x.i.toNat)));simp[*],ay.pick [0,1] rfl (by simp only[Aq,FM,h,e];rfl)⟩
 refine⟨rfl,Y,Y,bd (λj=>⟨Y,Y,⟨O,j⟩,abi,rfl,⟨L x.af i⟩,by rw[gR,cy],rfl,ir _ _,ai,λ_ _=>ar (λe=>?_) (λe=>?_)⟩) (λp=>⟨rfl,Y,Y,⟨g,O,O⟩,ae (by rw[gL,bF (show ¬i<x.af.size by omega)] <;> rfl)⟩)⟩;exact⟨Y,aC,Y,⟨i+1,d,false⟩,⟨by grind,by grind,by grind,h.trans (by rw[gL,bp (show i<x.af.size by omega),e] <;> rfl)⟩,aU,ay.pick [0,1] rfl (by rfl),by grind⟩;exact⟨rfl,Y,Y,⟨g,O,O⟩,ae (by rw[gL,bp (show i<x.af.size by omega),e] <;> rfl)⟩
def anL:aG 89 Aq:=fo 50 func89 (Wr gf) [(1,3,z 0),(2,3,z 0),(2,7,z 0),(2,15,z 0),(4,3,z 0),(2,19,z 0),(4,8,z 0),(3,3,z 0),(3,7,.w [LH.aS (0:Nat)])] (Wq 116 gf) dV gj [] anM
def AA(s:ah):(!s.toList==(ByteArray.mk #[]).toList)=decide (s.size>0):=by
 have h:s.toList=s.data.toList:=ByteArray.toList_eq s;have a:(ByteArray.mk #[]).toList=[]:=by simp[*]
 have b:s.data.toList.length=s.size:=X;grind
def aqS(s:ah):(ByteArray.mk #[32]++s++ByteArray.mk #[32]).data.toList=[32]++s.data.toList++[32]:=X
def apK:WT.size<=1048576:=by decide+kernel
structure XZ where
 s:ah
abbrev AK:aF where
 X:=XZ
 args x:=[C x.s]
 cond x:=x.s.size<=1048570
 aE _ F:=Gl F
 val x _:=al (H (Db x.s))
abbrev gy:ah:=ByteArray.mk #[]
def Qa:=bz 115 G5 (λa=>a.a.size<=1048576) (λ_=>Gl)
abbrev mG:ah:=ByteArray.mk #[32]
def apS(x:XZ)(F:ag)(i:AK.cond x)(f:AK.aE x F):Br (!x.s.toList==gy.toList) (Qa [C x.s,C ⟨#[32]⟩] (cO F) (λd c=>Br (!Lib.contains d.a.data.toList d.b.data.toList) (1+x.s.size<=9223372036854775807/\(mG++x.s).size+1<=9223372036854775807/\Qa [C {data:=(([32,98,114,101,97,107,32,99,97,115,101,32,99,97,116,99,104,32,99,108,97,115,115,32,99,111,110,115,116,32,99,111,110,116,105,110,117,101,32,100,101,98,117,103,103,101,114,32,100,101,102,97,117,108,116,32,100].append [101,108,101,116,101,32,100,111,32,101,108,115,101,32,101,110,117,109,32,101,120,112,111,114,116,32,101,120,116,101,110,100,115,32,102,97,108,115,101,32,102,105,110,97,108,108,121,32,102,111,114,32,102,117,110,99,116]).append ([105,111,110,32,105,102,32,105,109,112,111,114,116,32,105,110,32,105,110,115,116,97,110,99,101,111,102,32,108,101,116,32,110,101,119,32,110,117,108,108,32,114,101,116,117,114,110,32,115,117,112,101,114,32,115,119,105].append [116,99,104,32,116,104,105,115,32,116,104,114,111,119,32,116,114,117,101,32,116,114,121,32,116,121,112,101,111,102,32,118,97,114,32,118,111,105,100,32,119,104,105,108,101,32,119,105,116,104,32,121,105,101,108,100,32])).toArray},C (mG++x.s++mG)] (cO F) (λb a=>l AK x F (al (H (Lib.contains b.a.data.toList b.b.data.toList))) [(0,F)])) (l AK x F cm [(0,F)]))) (l AK x F cm [(0,F)]):=by
 delta gy Qa cO mG cM cm g bz C H al;have k:x.s.size<=1048570:=i;have m:(ByteArray.mk #[32]++x.s).size=1+x.s.size:=ie;refine ar (λe=>ba Yv ⟨x.s,⟨#[32]⟩⟩ (by grind) (Gl.rest (j:=0) X f) λ_ _=>ar (λh=>⟨O,O,Yv,rfl,⟨WT,⟨#[32]⟩++x.s++⟨#[32]⟩⟩,rfl,rfl,apK,Gl.rest (j:=0) X f,λ_ _=>⟨(),ai,l7 ?_,ao [0]⟩⟩) (λh=>⟨(),ai,l7 ?_,ao [0]⟩)) (λe=>⟨(),ai,l7 ?_,ao [0]⟩);rw[AA]at e;unfold Db;simp[*];unfold Db;simp[*];rw[AA]at e;unfold Db;simp[*]
def apP:aG 92 AK:=cY func92 [(1,4,aI G5),(1,11,aI G5)] apS
def ab0(n:Int):0<=u8.wrap n/\u8.wrap n<256:=by
 simp only[IntKind.wrap,IntKind.bits,IntKind.signed,lj,Bool.false_eq_true,if_false];omega
def aom{b:Nat}(h:b<256)(a:gf b=true):((bif bE b then 48 else 97)<=(bif bE b then b else b|||32))/\(bif bE b then b-48 else (b|||32)-97+10)<16:=by
 have:∀d:Fin 256,gf d.val=true->((bif bE d.val then 48 else 97)<=(bif bE d.val then d.val else d.val|||32))/\(bif bE d.val then d.val-48 else (d.val|||32)-97+10)<16:=by decide
 exact this ⟨b,h⟩ a
structure rW where
 l:c4
 n:Nat
structure wG where
 k:Nat
 i:Nat
 u:Nat
def zg(s:ah)(n i:Nat):ah:=match (eB s n i 0).2 with|some u=>cF [u/256%256,u%256]|none=>⟨#[]⟩
abbrev zR(x:rW):bv:=some ⟨x.l.b,0,none⟩
abbrev VC(x:rW):aN:=[C x.l.af,Z x.l.i,H x.l.aB,Q x.l.oa x.l.on x.l.oc]
abbrev vh:aF where
 X:=rW
 args x:=[W (zR x),Z x.n]
 pre x:=[D x.l.b (VC x) 82]
 cond x:=0<=x.l.i/\x.l.i<=x.l.af.size/\x.l.af.size<=1048576/\x.n<=4
 val x _:=.returned (.tuple #[.string (zg x.l.af x.n x.l.i.toNat),.bool (eB x.l.af x.n x.l.i.toNat 0).2.isSome])
 post x _:=[D x.l.b [C x.l.af,Z ((eB x.l.af x.n x.l.i.toNat 0).1:Nat),H x.l.aB,Q x.l.oa x.l.on x.l.oc] 82]
def agz(x:rW)(F:ag):Nat->Option Inv:=fun
 |0=>some {X:=wG,P:=λd=>d.k<=x.n/\d.i<=x.l.af.size/\d.u<16^d.k/\eB x.l.af x.n x.l.i.toNat 0=eB x.l.af (x.n-d.k) d.i d.u,mu:=λd=>x.n-d.k,lv:=λd=>[(0,W (zR x)),(6,Z d.u),(9,Z x.n),(10,Z d.k)],st:=λd=>[D x.l.b [C x.l.af,Z d.i,H x.l.aB,Q x.l.oa x.l.on x.l.oc] 82,F]}
 |_=>none
def MS(z:wG)(a:rW):=z.k<=a.n/\z.i<=a.l.af.size/\z.u<Nat.pow 16 z.k/\eB a.l.af a.n a.l.i.toNat 0=eB a.l.af (a.n-z.k) z.i z.u
abbrev S7(a:rW)(z:wG):aN:=[C a.l.af,Z ↑z.i,H a.l.aB,Q a.l.oa a.l.on a.l.oc]
abbrev IN(a:rW)(z:wG)(e1:ag):=[(0,D a.l.b (S7 a z) 82),(1,e1)]
def pY:=bz 87 oR (λa=>0<=a.i/\a.af.size<=1048576) qF
abbrev ur(g:c4):aN:=[u (↑(L g.af g.i.toNat):Int)]
abbrev sM:=al (tuple ⟨[C ⟨#[]⟩,H false]⟩)
def Qo(a:rW)(e1:ag)(c d:aD)(b:St)(mm:Nat):=∃(z:wG),MS z a/\(W (zR a)=W (zR a)/\c=Z ↑z.u/\Z ↑a.n=Z ↑a.n/\d=Z ↑z.k/\True)/\ay b (IN a z e1)/\a.n-z.k<mm
abbrev U7(x:rW)(i:wG)(F:ag):=[(0,D x.l.b [C x.l.af,Z ((i.i:Int)+1),H x.l.aB,Q x.l.oa x.l.on x.l.oc] 82),(1,F)]
abbrev TX(x:rW)(i:wG)(F:ag)(c:Nat):=[(0,D x.l.b (S7 x i) 82),(1,F),(14050,D c [u ((i.u:Int).fdiv ((2:Int)^min (Int.toNat (8:Int)) i64.bits)),u (u8.wrap (i.u:Int))] 5)]
def agB(x:rW)(F:ag)(K:vh.cond x)(hr:vh.aE x F):(∃(a:wG),MS a x/\(W (zR x)=W (zR x)/\Z 0=Z ↑a.u/\Z ↑x.n=Z ↑x.n/\Z 0=Z ↑a.k/\True)/\ay [(0,D x.l.b (VC x) 82),(1,F)] (IN x a F))/\aQ λ(i:wG)_=>MS i x->aK ((i.k:Int)<(x.n:Int)) (pY [W (zR x)] (g (IN x i F) []) (λn f=>cG 116 Ay (λe=>e.c<256) (ur n) (λe d=>Br (!gf e.c) (l vh x F sM (IN x i F)) (aA (u8.wrap ((↑(L n.af n.i.toNat):Int)-48))/\T0 (ur n) (λc b=>Br (!bE c.c) (aA (u8.wrap (u8.wrap (↑(BitVec.ofInt u8.bits (↑(L n.af n.i.toNat):Int)|||BitVec.ofInt u8.bits (32:Int)).toNat:Int)-97))/\aA (u8.wrap (u8.wrap (↑(BitVec.ofInt u8.bits (↑(L n.af n.i.toNat):Int)|||BitVec.ofInt u8.bits (32:Int)).toNat:Int)-97)+10)/\aA ((i.u:Int)*16)/\aA ((i.u:Int)*16+(u8.wrap (u8.wrap (↑(BitVec.ofInt u8.bits (↑(L n.af n.i.toNat):Int)|||BitVec.ofInt u8.bits (32:Int)).toNat:Int)-97)+10))/\V x.l.b 1/\aA ((i.i:Int)+1)/\V x.l.b 1/\aA ((i.k:Int)+1)/\Qo x F (Z ((i.u:Int)*16+(u8.wrap (u8.wrap (↑(BitVec.ofInt u8.bits (↑(L n.af n.i.toNat):Int)|||BitVec.ofInt u8.bits (32:Int)).toNat:Int)-97)+10))) (Z ((i.k:Int)+1)) (U7 x i F) (x.n-i.k)) (aA ((i.u:Int)*16)/\aA ((i.u:Int)*16+u8.wrap ((↑(L n.af n.i.toNat):Int)-48))/\V x.l.b 1/\aA ((i.i:Int)+1)/\V x.l.b 1/\aA ((i.k:Int)+1)/\Qo x F (Z ((i.u:Int)*16+u8.wrap ((↑(L n.af n.i.toNat):Int)-48))) (Z ((i.k:Int)+1)) (U7 x i F) (x.n-i.k))))))) ((0<=(i.u:Int).fdiv ((2:Int)^min (Int.toNat (8:Int)) i64.bits)/\(i.u:Int).fdiv ((2:Int)^min (Int.toNat (8:Int)) i64.bits)<=255)/\∀(c:Nat),T7 (aL f148 13 6) [Q (bq c) 2 2] (g (TX x i F c) []) (λb a=>l vh x F (al (tuple ⟨[C (cF b.l),H true]⟩)) (TX x i F c))):=by
 delta MS zR VC S7 IN pY ur sM T0 Qo U7 T7 bq TX g V aA cG bz vn Z u C H W Q D aK al aQ;obtain⟨G,R,T,hn⟩:=K;refine⟨⟨⟨0,x.l.i.toNat,0⟩,⟨b7 _,by simp[*],Nat.one_pos,rfl⟩,aU,ay.pick [0,1] rfl (by dsimp only;rw[Int.toNat_of_nonneg G] <;> rfl)⟩, ?_⟩;rintro⟨k,i,o⟩ js ⟨I,J,B,v⟩;dsimp only at I J B v⊢;have hu:o<65536:=Nat.lt_of_lt_of_le B (show 16^k<=16^4 from pw O O);refine bd (λS=>?_) (λM=>?_);refine ba vE ⟨x.l.b,x.l.af,i,x.l.aB,x.l.oa,x.l.on,x.l.oc⟩ ⟨by simp[*],T⟩ ⟨aH.rest (j:=0) X (aH.cells rfl),aH.rest (j:=0) X (aH.cells rfl)⟩ λ_ _=>⟨abi,rfl,⟨L x.l.af i⟩,by rfl,rfl,ir _ _,ai,λ_ _=>?_⟩;dsimp only;rw[cy];have w:=ir x.l.af i;obtain⟨m,E⟩:∃m,x.n-k=m+1:=⟨x.n-k-1,O⟩;refine ar (λq=>?_) (λq=>?_);have q:gf (L x.l.af i)=false:=by grind
 have e:eB x.l.af x.n x.l.i.toNat 0=(i,none):=by{rw[v,E,eB,q,nO] <;> rfl};exact⟨(),ai,by show returned _=returned (.tuple #[.string (zg x.l.af x.n x.l.i.toNat),.bool _]);unfold zg;grind,ay.pick [0,1] rfl (by simp only[vh,e];rfl)⟩;have q:gf (L x.l.af i)=true:=by grind
 have N:i<x.l.af.size:=by{rcases Nat.lt_or_ge i x.l.af.size with h|h;exact h;rw[wX h]at q;cases q};have step:eB x.l.af (x.n-k) i o=eB x.l.af (x.n-(k+1)) (i+1) (o*16+(bif bE (L x.l.af i) then L x.l.af i-48 else (L x.l.af i|||32)-97+10)):=by{rw[E,eB,bp N,q,show x.n-(k+1)=m by omega] <;> rfl};rw[B1 w];have r:=aom w q;have p:∀d:Nat,d<16->(bif bE (L x.l.af i) then L x.l.af i-48 else (L x.l.af i|||32)-97+10)=d->o*16+d<Nat.pow 16 (k+1)/\eB x.l.af x.n x.l.i.toNat 0=eB x.l.af (x.n-(k+1)) (i+1) (o*16+d):=λd r e=>by{refine⟨?_, ?_⟩;have:Nat.pow 16 (k+1)=Nat.pow 16 k*16:=Nat.pow_succ ..;omega;grind};refine⟨⟨by have:=ab0 ((L x.l.af i:Int)-48);omega,by have:=ab0 ((L x.l.af i:Int)-48);omega⟩,yV,rfl,⟨L x.l.af i⟩,rfl,rfl,w,ai,λ_ _=>ar (λs=>?_) (λs=>?_)⟩;have s:bE (L x.l.af i)=false:=by grind
 simp only[s,y]at p r;have t:u8.wrap (((L x.l.af i|||32:Nat):Int)-97)=(((L x.l.af i|||32)-97:Nat):Int):=by{rw[show(((L x.l.af i|||32:Nat):Int)-97)=(((L x.l.af i|||32)-97:Nat):Int) by omega,Ju];omega};rw[t];obtain⟨z,A⟩:=p _ r.2 rfl;exact⟨aC,aC,aC,aC,Y,aC,Y,aC,⟨k+1,i+1,o*16+((L x.l.af i|||32)-97+10)⟩,⟨by grind,by grind,z,A⟩,⟨rfl,by rfl,rfl,rfl,ai⟩,ay.pick [0,1] rfl (by rfl),by grind⟩;have s:bE (L x.l.af i)=true:=by grind
 simp only[s,aW]at p r;have t:u8.wrap ((L x.l.af i:Int)-48)=((L x.l.af i-48:Nat):Int):=by{rw[show((L x.l.af i:Int)-48)=((L x.l.af i-48:Nat):Int) by omega,Ju];omega};rw[t];obtain⟨z,A⟩:=p _ r.2 rfl;exact⟨aC,aC,Y,aC,Y,aC,⟨k+1,i+1,o*16+(L x.l.af i-48)⟩,⟨by grind,by grind,z,A⟩,⟨rfl,by rfl,rfl,rfl,ai⟩,ay.pick [0,1] rfl (by rfl),by grind⟩;have U:x.n-k=0:=O;have e:eB x.l.af x.n x.l.i.toNat 0=(i,some o):=by rw[v,U,eB]
 rw[abh,Ju];refine⟨aC,λb=>ba (G1 rfl rfl rfl rfl) ⟨some ⟨b,0,none⟩,2,2,[o/256,o%256]⟩ (.ft b 0 2 rfl) (?_) λ_ _=>⟨(),ai, ?_,ay.pick [0,1] rfl (by simp only[vh,e];rfl)⟩⟩;intro ad h;cases h;exact cR.rest (j:=14050) X (cR.cells (λj o P=>by rw[gZ];exact P));show returned _=returned (.tuple #[.string (zg x.l.af x.n x.l.i.toNat),.bool _]);unfold zg;grind
def YB:aG 148 vh:=fo 47 func148 (λ_ _=>[(4,1,aI oR),(5,1,aI Ay),(8,1,aI qX),(13,4,F),(13,5,.n 14050),(13,6,.o yS [] [])]) [(11,3,z 0),(11,7,.w [LH.aS (0:Nat)])] agz dV gj [] agB
section
structure bD where
 nv:ah->Nat
 tv:Nat->ah
 rd:ag->Prop
 mono:∀{A B:ag},rd A->Sub A B->rd B
 rest:∀{S:St}{dJ:a_}{j:Nat},j∉dJ->rd (gt S j)->rd (.cJ (rest S dJ))
structure eu(K:bD)(F:ag):Prop where
 gl:Gl F
 rd:K.rd F
def eu.sub{K:bD}{A B:ag}(h:eu K A)(hs:Sub A B):eu K B:=⟨h.gl.sub hs,K.mono h.rd hs⟩
def eu.rest{K:bD}{S:St}{a:a_}{j:Nat}(b:j∉a)(h:eu K (gt S j)):eu K (.cJ (rest S a)):=⟨h.gl.rest b,K.rest b h.rd⟩
abbrev pE(K:bD):aF where
 X:=e9
 args x:=[C x.s]
 cond x:=x.s.size<=8388608
 aE _ F:=K.rd F
 val x _:=al (float f64 (K.nv x.s))
 eL _ _ _ a h:=K.mono h a
structure i7 where
 K:bD
 l:c4
abbrev xB(x:i7):bv:=some ⟨x.l.b,0,none⟩
abbrev Ns(x:i7):aN:=[C x.l.af,Z x.l.i,H x.l.aB,Q x.l.oa x.l.on x.l.oc]
abbrev qc:aF where
 X:=i7
 args x:=[W (xB x)]
 pre x:=[D x.l.b (Ns x) 82]
 cond x:=0<=x.l.i/\x.l.i<=x.l.af.size/\x.l.af.size<=1048576/\aG 117 (pE x.K)
 aE x F:=eu x.K F
 val x _:=.returned (.tuple #[.float .f64 (bif (d8 x.l.af x.l.i.toNat).2 then x.K.nv (bo (x.l.af.extract x.l.i.toNat (d8 x.l.af x.l.i.toNat).1)) else 0),.bool (d8 x.l.af x.l.i.toNat).2])
 post x _:=[D x.l.b [C x.l.af,Z ((d8 x.l.af x.l.i.toNat).1:Nat),H x.l.aB,Q x.l.oa x.l.on x.l.oc] 82]
def aj4(x:i7)(a:ag):List (Nat×Nat×OH):=[(2,1,aI oR),(4,1,q Aq),(6,1,q wb),(9,1,aI oR),(11,1,q wb),(12,1,aI oR),(14,1,aI oR),(14,5,aI oR),(16,1,q wb),(18,1,aI oR),(19,1,aI ue),(19,4,aI qX),(21,10,aI wC),(21,11,aI (pE x.K))]
def aO(s:ah)(j:Nat):Nat×Bool:=(j,!(gn (L s j)||bE (L s j)))
def BW(s:ah)(j:Nat):Nat×Bool:=(bw s bE j,decide (bw s bE j>j)&& !(gn (L s (bw s bE j))||bE (L s (bw s bE j))))
def rm(s:ah)(j:Nat):Nat×Bool:=bif (L s j|||32)==101 then BW s (bif L s (j+1)==43||L s (j+1)==45 then j+2 else j+1) else aO s j
def BU(s:ah)(j:Nat):Nat×Bool:=rm s (bif L s j==46 then bw s bE (j+1) else j)
def zr(s:ah)(i j:Nat):Nat×Bool:=bif decide (j-i>1)&&L s i==48 then (j,false) else BU s j
def LU(s:ah)(i:Nat):Nat×Bool:=zr s i (bw s bE i)
def BV(s:ah)(i:Nat):d8 s i=bif L s i==48&&(decide (i+1<s.size)&&(L s (i+1)|||32)==120) then (bw s gf (i+2),decide (bw s gf (i+2)>i+2)&& !(gn (L s (bw s gf (i+2)))||bE (L s (bw s gf (i+2))))) else LU s i:=rfl
def lH{A B C:Prop}(f:(A->B)->C)(g:A->B):C:=f g
def fY{n:Nat}(k:Nat){v:Bool}(h:((n:Int)==(k:Int))=v):(n==k)=v:=by
 rw[<-h,Bool.eq_iff_iff,beq_iff_eq,beq_iff_eq];omega
variable{s:ah}{i:Nat}
theorem wW(h:L s i≠0):i<s.size:=by
 rcases Nat.lt_or_ge i s.size with a|a;exact a;exact absurd (wX a) h
theorem n_(s:ah)(p:Nat->Bool)(h:i<=s.size):i<=bw s p i/\bw s p i<=s.size:=aa3 s p _ i h
theorem YP{j:Nat}(h:j<=s.size):((s.extract i j).toList==(ByteArray.mk #[]).toList)= !decide (j>i):=by
 have a:=AA (s.extract i j);rw[iA,Nat.min_eq_left h]at a;grind
theorem Yi{j k:Nat}(h:i+k<j)(a:j<=s.size):L (s.extract i j) k=L s (i+k):=by
 unfold L;congr 2;rw[ByteArray.data_extract,Array.getElem?_extract,if_pos (by simp only[ByteArray.size]at a;omega)]
theorem WR(c:Nat):(jl c).length<=4:=by
 unfold jl;cases decide (c>65535) <;> simp
theorem apC(s:ah):∀(f i:Nat)(o:a_),(nu s f i o).length<=o.length+4*(s.size-i):=by
 intro f
 induction f with
 |zero=>intro i o;show o.length<=_;omega
 |succ f d=>
  intro i o;rw[nu];by_cases b:i<s.size;rw[bp b,aW];cases h:c6 s i with
  |none=>exact b7 _
  |some a=>
   obtain⟨c,n⟩:=a;obtain⟨f1,f2,f3⟩:=lV h;have e:=d (i+n) (o++jl c);have g:=WR c;grind
  simp[*]
theorem WS(s:ah):(bo s).size<=4*s.size:=by
 have h:=apC s (s.size+1) 0 [];have e:(bo s).size=(nu s (s.size+1) 0 []).length:=by{unfold bo cF ByteArray.size;simp};grind
structure lL where
 j:Nat
def ZR(x:i7):List (Nat×aD):=[(0,.pointer (some ⟨x.l.b,0,none⟩)),(4,.int .i64 x.l.i)]
def ZS(x:i7)(F:ag)(j:Nat):List ag:=[.cells x.l.b [.string x.l.af,.int .i64 j,.bool x.l.aB,.slice x.l.oa x.l.on x.l.oc] 82,F]
def LK(x:i7)(F:ag)(g:ah->Nat->Nat×Bool):Inv:={X:=lL,P:=λd=>x.l.i.toNat<=d.j/\d.j<=x.l.af.size/\d8 x.l.af x.l.i.toNat=g x.l.af d.j,mu:=λ_=>0,lv:=λ_=>ZR x,st:=λd=>ZS x F d.j}
def aj3(x:i7)(F:ag):Nat->Option Inv:=fun
 |7=>some {X:=lL,P:=λd=>x.l.i.toNat<=d.j/\d.j<=x.l.af.size/\d8 x.l.af x.l.i.toNat=zr x.l.af x.l.i.toNat d.j,mu:=λ_=>0,lv:=λd=>(5,.string (x.l.af.extract x.l.i.toNat d.j))::ZR x,st:=λd=>ZS x F d.j}
 |9=>some (LK x F BU)
 |12=>some (LK x F rm)
 |16=>some (LK x F BW)
 |18=>some (LK x F aO)
 |_=>none
abbrev CJ(x:i7):aN:=[W (xB x)]
abbrev zC:=al (tuple ⟨[float f64 0,H false]⟩)
abbrev UD(c:c4)(F:ag):=[(0,D c.b [C c.af,Z (↑(bw c.af gf c.i.toNat):Int),H c.aB,Q c.oa c.on c.oc] 82),(1,F)]
def Uy(a:i7)(z:lL):=a.l.i.toNat<=z.j/\z.j<=a.l.af.size/\d8 a.l.af a.l.i.toNat=(z.j,!(gn (L a.l.af z.j)||bE (L a.l.af z.j)))
def Ia(a:i7):=W (xB a)=W (xB a)/\Z a.l.i=Z a.l.i/\True
abbrev mH(x:i7)(m:lL)(F:ag):=[(0,D x.l.b [C x.l.af,Z ↑m.j,H x.l.aB,Q x.l.oa x.l.on x.l.oc] 82),(1,F)]
def J7(a:i7)(e1:ag)(b:St):=∃(z:lL),Uy a z/\Ia a/\ay b (mH a z e1)
def J9:=dK 89 wb (λa=>vO a)
abbrev NQ(x:i7):aN:=[W (xB x),func (Fn.func 91) ⟨[]⟩ ⟨[]⟩]
def U1(x:i7)(m:lL):=x.l.i.toNat<=m.j/\m.j<=x.l.af.size/\d8 x.l.af x.l.i.toNat=zr x.l.af x.l.i.toNat m.j
def XC(a:i7)(e1:ag)(c:aD)(b:St):=∃(z:lL),U1 a z/\(c=C (a.l.af.extract a.l.i.toNat z.j)/\W (xB a)=W (xB a)/\Z a.l.i=Z a.l.i/\True)/\ay b (mH a z e1)
abbrev HR(c:c4)(F:ag):=[(0,D c.b [C c.af,Z (↑(bw c.af bE c.i.toNat):Int),H c.aB,Q c.oa c.on c.oc] 82),(1,F)]
def Vk(x:i7)(k:lL):=x.l.i.toNat<=k.j/\k.j<=x.l.af.size/\d8 x.l.af x.l.i.toNat=BU x.l.af k.j
def QC(a:i7)(e1:ag)(b:St):=∃(z:lL),Vk a z/\Ia a/\ay b (mH a z e1)
abbrev H7(x:i7)(k:lL):aN:=[C x.l.af,Z ((k.j:Int)+1),H x.l.aB,Q x.l.oa x.l.on x.l.oc]
def Vl(x:i7)(i:lL):=x.l.i.toNat<=i.j/\i.j<=x.l.af.size/\d8 x.l.af x.l.i.toNat=rm x.l.af i.j
def QJ(a:i7)(e1:ag)(b:St):=∃(z:lL),Vl a z/\Ia a/\ay b (mH a z e1)
def Ts(x:i7)(e:lL):=x.l.i.toNat<=e.j/\e.j<=x.l.af.size/\d8 x.l.af x.l.i.toNat=(bw x.l.af bE e.j,decide (bw x.l.af bE e.j>e.j)&& !(gn (L x.l.af (bw x.l.af bE e.j))||bE (L x.l.af (bw x.l.af bE e.j))))
def QN(a:i7)(e1:ag)(b:St):=∃(z:lL),Ts a z/\Ia a/\ay b (mH a z e1)
def TB(x:i7)(i:lL)(F:ag):=V x.l.b 1/\aA ((i.j:Int)+1+(1:Int))/\V x.l.b 1/\QN x F [(0,D x.l.b [C x.l.af,Z ((i.j:Int)+1+(1:Int)),H x.l.aB,Q x.l.oa x.l.on x.l.oc] 82),(1,F)]
def q4(x:i7)(F:ag):=J9 (NQ x) [D x.l.b (Ns x) 82] (λc b=>XC x F (C (c.af.extract c.i.toNat (bw c.af bE c.i.toNat))) (HR c F))/\aQ λ(m:lL)_=>U1 x m->aK ((↑(x.l.af.extract x.l.i.toNat m.j).size:Int)>1) (((0:Int)<=0/\0<(↑(x.l.af.extract x.l.i.toNat m.j).size:Int))/\Br (B (x.l.af.extract x.l.i.toNat m.j) (0:Int)==(48:Int)) (l qc x F zC (mH x m F)) (QC x F (mH x m F))) (QC x F (mH x m F))/\aQ λ(k:lL)_=>Vk x k->pY (CJ x) (g (mH x k F) []) (λe d=>Br ((↑(L e.af e.i.toNat):Int)==46) (V x.l.b 1/\aA ((k.j:Int)+1)/\V x.l.b 1/\J9 (NQ x) [D x.l.b (H7 x k) 82] (λc b=>QJ x F (HR c F))) (QJ x F (mH x k F)))/\aQ λ(i:lL)_=>Vl x i->pY (CJ x) (g (mH x i F) []) (λa f=>Br (u8.wrap (↑(BitVec.ofInt u8.bits (↑(L a.af a.i.toNat):Int)|||BitVec.ofInt u8.bits (32:Int)).toNat:Int)==101) (V x.l.b 1/\aA ((i.j:Int)+1)/\V x.l.b 1/\pY (CJ x) (g [(0,D x.l.b (H7 x i) 82),(1,F)] []) (λe d=>Br ((↑(L e.af e.i.toNat):Int)==43) (TB x i F) (pY (CJ x) (g [(0,D x.l.b (H7 x i) 82),(1,F)] []) (λc b=>Br ((↑(L c.af c.i.toNat):Int)==45) (TB x i F) (QN x F [(0,D x.l.b (H7 x i) 82),(1,F)]))))/\aQ λ(e:lL)_=>Ts x e->J9 (NQ x) [D x.l.b [C x.l.af,Z ↑e.j,H x.l.aB,Q x.l.oa x.l.on x.l.oc] 82] (λc b=>Br ((c.af.extract c.i.toNat (bw c.af bE c.i.toNat)).toList==gy.toList) (l qc x F zC (HR c F)) (J7 x F (HR c F)))) (J7 x F (mH x i F)))
def Ba:=bz 118 wC xY (λ_=>gv)
theorem aj6(x:i7)(F:ag)(hc:qc.cond x)(P:qc.aE x F):V x.l.b 1/\(true=true/\pY (CJ x) (g [(0,D x.l.b (Ns x) 82),(1,F)] []) (λo n=>Br ((↑(L o.af o.i.toNat):Int)==48) (V x.l.b 1/\aA (x.l.i+1)/\V x.l.b 0/\aK (x.l.i+1<(x.l.af.size:Int)) (V x.l.b 0/\V x.l.b 1/\aA (x.l.i+1)/\(0<=x.l.i+1/\x.l.i+1<(x.l.af.size:Int))/\Br (u8.wrap (↑(BitVec.ofInt u8.bits (B x.l.af (x.l.i+1))|||BitVec.ofInt u8.bits (32:Int)).toNat:Int)==120) (V x.l.b 1/\aA (x.l.i+2)/\V x.l.b 1/\dK 89 Aq (λc=>vO c) [W (xB x),func (Fn.func 116) ⟨[]⟩ ⟨[]⟩] [D x.l.b [C x.l.af,Z (x.l.i+2),H x.l.aB,Q x.l.oa x.l.on x.l.oc] 82] (λc b=>Br ((c.af.extract c.i.toNat (bw c.af gf c.i.toNat)).toList==gy.toList) (l qc x F zC (UD c F)) (J7 x F (UD c F)))) (q4 x F)) (q4 x F)) (q4 x F)))/\aQ λ(m:lL)_=>Uy x m->pY (CJ x) (g (mH x m F) []) (λj i=>Dz (ur j) (λh p=>Br (gn h.c) (l qc x F zC (mH x m F)) (T0 (ur j) (λf e=>Br (bE f.c) (l qc x F zC (mH x m F)) (true=true/\V x.l.b 0/\V x.l.b 1/\(0<=x.l.i/\x.l.i<=m.j/\(m.j:Int)<=(x.l.af.size:Int))/\Ba [C (x.l.af.extract x.l.i.toNat (m.j:Int).toNat)] (g (mH x m F) []) (λd c=>bz 117 (pE x.K) (λb=>b.s.size<=8388608) (λ_=>x.K.3) [C (bo d.s)] (g (mH x m F) []) (λb a=>l qc x F (al (tuple ⟨[float f64 (x.K.nv b.s),H true]⟩)) (mH x m F)))))))):=by
 delta pY xB CJ Ns vO gy zC UD Uy Ia mH J7 J9 NQ U1 XC HR Vk QC H7 Vl QJ Ts QN TB q4 Dz ur T0 xY Ba g V aA cG bz dK Z u C H W Q D aK al aQ;obtain⟨K,b,af,i0,aB,v,on,w⟩:=x;obtain⟨I,J,y,hN⟩:=hc;replace P:eu K F:=P;dsimp only at I J y hN;obtain⟨i,rfl⟩:∃i:Nat,i0=(i:Int):=⟨i0.toNat,(Int.toNat_of_nonneg I).symm⟩;dsimp only;rw[cy];have hi:i<=af.size:=O;have ae:∀(j:Nat),d8 af i=(j,false)->l qc ⟨K,b,af,(i:Int),aB,v,on,w⟩ F (returned (tuple #[float f64 0,bool false])) [(0,ag.cells b [string af,int i64 (j:Int),bool aB,slice v on w] 82),(1,F)]:=λj e=>
  ⟨(),ai,by show returned _=returned (.tuple #[.float .f64 (bif (d8 af (i:Int).toNat).2 then _ else 0),.bool (d8 af (i:Int).toNat).2]);simp[*],ay.pick [0,1] rfl (by simp only[qc,cy,e];rfl)⟩
 refine⟨Y,lH (A:=d8 af i=LU af i) (λk=>⟨rfl,vE,rfl,⟨b,af,i,aB,v,on,w⟩,rfl,rfl,⟨I,y⟩,⟨aH.rest (j:=0) X (aH.cells rfl),aH.rest (j:=0) X (aH.cells rfl)⟩,λ_ _=>ar (λt=>⟨Y,aC,Y,bd (λE=>⟨Y,Y,aC,aC,ar (λG=>?_) (λG=>k ?_)⟩) (λE=>k ?_)⟩) (λt=>k ?_)⟩) (λU=>?_), ?_⟩
 ·replace t:((L af (i:Int).toNat:Int)==48)=true:=t;rw[cy]at t;replace t:=fY 48 t;rw[gR,show((i:Int)+1).toNat=i+1 by omega,B1 (ir _ _)]at G;replace G:=fY 120 G;obtain⟨S,z⟩:=n_ af gf (show i+2<=af.size by omega);have eN:d8 af i=(bw af gf (i+2),decide (bw af gf (i+2)>i+2)&& !(gn (L af (bw af gf (i+2)))||bE (L af (bw af gf (i+2))))):=by
   rw[BV,t,G,bp (show i+1<af.size by omega)] <;> rfl
  refine⟨Y,aC,Y,anL,rfl,⟨b,af,(i:Int)+2,aB,v,on,w⟩,rfl,rfl,⟨by grind,by grind,y⟩,ai,λ_ _=>?_⟩;dsimp only;rw[show((i:Int)+2).toNat=i+2 by omega,YP z];refine ar (λh=>ae _ ?_) (λh=>⟨⟨bw af gf (i+2)⟩,⟨by grind,z, ?_⟩,aU,ao [0,1]⟩)
  all_goals grind
 replace t:((L af (i:Int).toNat:Int)==48)=true:=t;rw[gR,show((i:Int)+1).toNat=i+1 by omega,B1 (ir _ _)]at G;rw[BV,fY 120 G,nO,nO] <;> rfl;rw[BV,bF (show ¬i+1<af.size by omega),lj,nO] <;> rfl;replace t:((L af (i:Int).toNat:Int)==48)=false:=t;rw[cy]at t;rw[BV,fY 48 t,lj] <;> rfl
 ·obtain⟨S,z⟩:=n_ af bE hi;refine⟨bG Wp ⟨b,af,i,aB,v,on,w⟩ ⟨I,J,y⟩ λ_ _=>⟨⟨bw af bE i⟩,⟨S,z,U⟩,aU,ao [0,1]⟩, ?_⟩;rintro⟨j⟩ R ⟨s,r,q⟩;dsimp only at s r q⊢;have sz:(af.extract i j).size=j-i:=by simp[*]
  rw[sz];refine⟨bd (λt=>⟨aC,ar (λE=>ae j ?_) (λE=>⟨⟨j⟩,⟨s,r, ?_⟩,aU,ao [0,1]⟩)⟩) (λt=>⟨⟨j⟩,⟨s,r, ?_⟩,aU,ao [0,1]⟩), ?_⟩;rw[gR,show Int.toNat 0=0 from rfl,Yi O r,Nat.add_zero]at E;rw[q,zr,fY 48 E,bp (show j-i>1 by omega)] <;> rfl;rw[gR,show Int.toNat 0=0 from rfl,Yi O r,Nat.add_zero]at E;rw[q,zr,fY 48 E,nO] <;> rfl;rw[q,zr,bF (show ¬j-i>1 by omega)] <;> rfl;clear s r q sz;rintro⟨j⟩ R ⟨s,r,q⟩;dsimp only at s r q⊢;refine⟨ba vE ⟨b,af,j,aB,v,on,w⟩ ⟨by simp[*],y⟩ ⟨aH.rest (j:=0) X (aH.cells rfl),aH.rest (j:=0) X (aH.cells rfl)⟩ λ_ _=>ar (λc=>?_) (λc=>⟨⟨j⟩,⟨s,r, ?_⟩,aU,ao [0,1]⟩), ?_⟩;replace c:((L af (j:Int).toNat:Int)==46)=true:=c;rw[cy]at c;replace c:=fY 46 c;have N:j<af.size:=wW (by grind);obtain⟨S,z⟩:=n_ af bE (show j+1<=af.size by omega);exact⟨Y,aC,Y,Wp,rfl,⟨b,af,(j:Int)+1,aB,v,on,w⟩,rfl,rfl,⟨by grind,by grind,y⟩,ai,λ_ _=>⟨⟨bw af bE (j+1)⟩,⟨by grind,z,by rw[q,BU,c] <;> rfl⟩,aU,ao [0,1]⟩⟩;replace c:((L af (j:Int).toNat:Int)==46)=false:=c;rw[cy]at c;rw[q,BU,fY 46 c] <;> rfl;clear s r q;rintro⟨j⟩ R ⟨s,r,q⟩;dsimp only at s r q⊢;refine ba vE ⟨b,af,j,aB,v,on,w⟩ ⟨by simp[*],y⟩ ⟨aH.rest (j:=0) X (aH.cells rfl),aH.rest (j:=0) X (aH.cells rfl)⟩ λ_ _=>?_;dsimp only;rw[cy,B1 (ir _ _)];refine ar (λc=>?_) (λc=>⟨⟨j⟩,⟨s,r, ?_⟩,aU,ao [0,1]⟩)
  ·replace c:=fY 101 c;have N:j<af.size:=by
    rcases Nat.lt_or_ge j af.size with h|h;exact h;rw[wX h]at c;cases c
   have T:d8 af i=BW af (bif L af (j+1)==43||L af (j+1)==45 then j+2 else j+1):=by rw[q,rm,c] <;> rfl
   have M:((j:Int)+1).toNat=j+1:=O;refine⟨Y,aC,Y,ba vE ⟨b,af,(j:Int)+1,aB,v,on,w⟩ ⟨by grind,y⟩ ⟨aH.rest (j:=0) X (aH.cells rfl),aH.rest (j:=0) X (aH.cells rfl)⟩ λ_ _=>ar (λd=>?_) (λd=>ba vE ⟨b,af,(j:Int)+1,aB,v,on,w⟩ ⟨by grind,y⟩ ⟨aH.rest (j:=0) X (aH.cells rfl),aH.rest (j:=0) X (aH.cells rfl)⟩ λ_ _=>ar (λe=>?_) (λe=>?_)), ?_⟩;replace d:((L af ((j:Int)+1).toNat:Int)==43)=true:=d;rw[M]at d;replace d:=fY 43 d;have N:j+1<af.size:=wW (by grind);exact⟨Y,aC,Y,⟨j+2⟩,⟨by grind,by grind,by rw[T,d] <;> rfl⟩,aU,ao [0,1]⟩;replace e:((L af ((j:Int)+1).toNat:Int)==45)=true:=e;rw[M]at e;replace e:=fY 45 e;have N:j+1<af.size:=wW (by grind);exact⟨Y,aC,Y,⟨j+2⟩,⟨by grind,by grind,by rw[T,e,oG] <;> rfl⟩,aU,ao [0,1]⟩;replace d:((L af ((j:Int)+1).toNat:Int)==43)=false:=d;replace e:((L af ((j:Int)+1).toNat:Int)==45)=false:=e;rw[M]at d e;exact⟨⟨j+1⟩,⟨by grind,by grind,by rw[T,fY 43 d,fY 45 e] <;> rfl⟩,aU,ao [0,1]⟩;clear T M s r q c N;rintro⟨j⟩ R ⟨s,r,q⟩;dsimp only at s r q⊢;obtain⟨S,z⟩:=n_ af bE r;refine bG Wp ⟨b,af,j,aB,v,on,w⟩ ⟨by simp[*],by simp[*],y⟩ λ_ _=>?_;dsimp only;rw[cy,YP z];refine ar (λh=>ae _ ?_) (λh=>⟨⟨bw af bE j⟩,⟨by grind,z, ?_⟩,aU,ao [0,1]⟩)
   all_goals grind
  rw[q,rm,fY 101 c] <;> rfl
 rintro⟨j⟩ R ⟨s,r,q⟩;dsimp only at s r q⊢;refine ba vE ⟨b,af,j,aB,v,on,w⟩ ⟨by simp[*],y⟩ ⟨aH.rest (j:=0) X (aH.cells rfl),aH.rest (j:=0) X (aH.cells rfl)⟩ λ_ _=>?_;dsimp only;rw[cy];have hb:=ir af j;refine bG Sn ⟨L af j⟩ hb λ_ _=>ar (λc=>ae j ?_) (λc=>bG yV ⟨L af j⟩ hb λ_ _=>ar (λd=>ae j ?_) (λd=>⟨rfl,Y,Y,⟨I,O,O⟩,Pj,rfl,⟨af.extract i j⟩,rfl,rfl, ?_,gv.rest (j:=1) X P.gl.qu,λ_ _=>ba hN ⟨bo (af.extract i j)⟩ (?_) (K.rest (j:=1) X P.rd) λ_ _=>⟨(),ai, ?_,ay.pick [0,1] rfl ?_⟩⟩));simp[*];simp[*];dsimp only;rw[iA];omega;have:=WS (af.extract i j);rw[iA]at this;grind;show returned _=returned (.tuple #[.float .f64 (bif (d8 af (i:Int).toNat).2 then K.nv (bo (af.extract (i:Int).toNat (d8 af (i:Int).toNat).1)) else 0),.bool (d8 af (i:Int).toNat).2]);simp[*];simp only[qc,cy,q];rfl
theorem aj5:aG 93 qc:=fo 122 func93 aj4 [(1,3,z 0),(2,7,z 0),(10,3,z 0),(13,3,z 0),(21,3,z 0),(2,12,z 0),(10,7,.w [LH.aS (0:Nat)]),(13,7,.w [LH.aS (0:Nat)]),(21,8,z 0),(2,20,z 0),(15,3,z 0),(2,24,z 0),(15,7,.w [LH.aS (0:Nat)]),(3,3,z 0),(3,7,.w [LH.aS (0:Nat)])] dV aj3 gj [] aj6
end
section
def O8(p s:ah):Lib.strCells (p++s)=Lib.strCells p++Lib.strCells s:=by
 unfold Lib.strCells;simp[*]
def aoK{s:ah}(h:s.size=0):Lib.strCells s=[]:=List.eq_nil_of_length_eq_zero (by rw[Lib.strCells_length,h])
structure W6 where
 r:Row
 p:ah
 s:ah
def pa(e:TypeId)(p:ah)(r:Row):Prop:=bl e 1 (Lib.strCells p) r/\(r.a=none\/0<r.aq)
abbrev tQ(e:TypeId):aF where
 X:=W6
 Y:=Row
 args x:=[Q x.r.a x.r.n x.r.aq,C x.s]
 pre x:=[x.r.A]
 cond x:=pa e x.p x.r/\x.r.n+x.s.size<=140737488355328
 bS x r:=pa e (x.p++x.s) r
 val _ r:=al r.v
 post _ r:=[r.A]
section
variable{P:Program}
theorem ae6{o:Oper}{s x:Operand}{t u e:TypeId}{c:TypeInfo}{z:aD}(T:o.op= .call {callee:=.builtin .append,args:=#[s,x],argTypes:=#[t,u]})
  (E:P.underlying t=some (.slice e)) (G:P.underlying u=some .string) (D:P.info? e=some c) (V:c.zero=some z) (U:c.size=1) (hb:c.bytes=1) (C:z.cells.size=1):gY P o (tQ e):=by
 refine⟨λx F I w ρ R W hr m=>?_⟩;obtain⟨r,p,str⟩:=x;obtain⟨⟨d,k⟩,q⟩:=W;dsimp only at d q k;simp only[T,Op.operands,Call.operands,tQ]at R;have H:ρ s= .slice r.a r.n r.aq/\ρ x= .string str:=by grind
 obtain⟨M,N⟩:=H;have gm:∀Q,(execOp ρ o).run P Q=((Builtin.append_ #[t,u] o.type #[.slice r.a r.n r.aq,.string str]).run P Q).andThen λv w2=>.ok (.value v) w2:=by{intro Q;simp[execOp,T,resolve,invoke,builtin,M,N]};have L:Lib.strCells str=(str.data.map (λb=>int .u8 b.toNat)).toList:=by unfold Lib.strCells;simp
 by_cases S:str.size=0;have hy:=aoK S;refine⟨r,I,w,r.v,⟨by rw[O8,hy,dQ];omega,k⟩, ?_,rfl,aX.le_refl I,m,cn.refl w⟩;have K:=d.le;rw[gm];cases d <;> simp[Builtin.append_,run_underlying E,run_underlying G,sizeOf,typeInfo,D,Builtin.lenOf,Builtin.firstCells,storeCells,K,S,Row.v];clear hr R;dsimp only[tQ,List.cons_append,List.nil_append]at m;have B:=Lib.strCells_length str;cases d with
 |nil h=>
  have a:=run_append_nil_string (P:=P) w t u o.type e c z E G D V str O O (by grind);have J:=grownCap_ge w str.size 0 e;refine⟨⟨some ⟨w.heap.size,0,none⟩,str.size,grownCap w str.size 0 e,.cells w.heap.size (Lib.strCells str++(Builtin.zeroCells z.cells (grownCap w str.size 0 e-str.size)).toList) e⟩,I,w.drew.alloc (.cells (str.data.map (λb=>int .u8 b.toNat)++Builtin.zeroCells z.cells (grownCap w str.size 0 e-str.size)) e),_,⟨?_, ?_⟩, ?_,rfl,aX.le_refl I, ?_,Y⟩;rw[O8,h,List.nil_append];exact .ft _ _ _ _ (by simp[*]) (by simp only[eH,Array.length_toList,size_zeroCells,C,B];omega) J;grind
  left;rw[gm,a] <;> rfl
  have:=m.alloc 0 (str.data.map (λb=>int .u8 b.toNat)++Builtin.zeroCells z.cells (grownCap w str.size 0 e-str.size)) e;simpa[tQ,C_,L]using this
 |ft b n aq g Z x1 hn=>
  have i:w.heap[b]?=some (.cells ⟨Lib.strCells p++g⟩ e (0,0)):=m.cells (j:=0) rfl;dsimp only at q;by_cases f:n+str.size<=aq;have y:n+str.size<=(⟨Lib.strCells p++g⟩:Array aD).size:=by{simp[*]};have a:=Lib.run_append_room_string (P:=P) w t u o.type e c E G D U b n aq ⟨Lib.strCells p++g⟩ i str f y;have l:(Lib.strCells p++g).take n=Lib.strCells p:=by rw[show n=(Lib.strCells p).length by omega];exact List.take_left
  have A:(Lib.strCells p++Lib.strCells str++(Lib.strCells p++g).drop (n+str.size)).length=aq*1:=by{grind};refine⟨⟨some ⟨b,0,none⟩,n+str.size,aq,.cells b (Lib.strCells p++Lib.strCells str++(Lib.strCells p++g).drop (n+str.size)) e⟩,I,w.setRow b ⟨Lib.strCells p++Lib.strCells str++(Lib.strCells p++g).drop (n+str.size)⟩,_,⟨?_, ?_⟩, ?_,rfl,aX.le_refl I, ?_,Y⟩;rw[O8];exact .ft _ _ _ _ (by simp[*]) A f;omega
  left;rw[gm,a];simp only[l];rfl
  have:=m.setRow (j:=0) (b:=b) (vs:=Lib.strCells p++g) (t:=e) (F7:=Lib.strCells p++Lib.strCells str++(Lib.strCells p++g).drop (n+str.size)) rfl;simpa[tQ,C_]using this;have holds:∀j v,(Lib.strCells p)[j]?=some v->w.cell? ((⟨b,0,none⟩:Addr).add j)=some v:=by{intro j v X;have x0:=(ic.1 X).1;rw[oC,DZ (b:=b) Y i];grind};have a:=Lib.run_append_grow_string (P:=P) w t u o.type e c z E G D V ⟨b,0,none⟩ n aq (Lib.strCells p) (by simp[*]) holds str O O (growslice_fits O (by simp[*]));have J:=grownCap_ge w (n+str.size) aq e;refine⟨⟨some ⟨w.heap.size,0,none⟩,n+str.size,grownCap w (n+str.size) aq e,.cells w.heap.size (Lib.strCells p++Lib.strCells str++(Builtin.zeroCells z.cells (grownCap w (n+str.size) aq e-(n+str.size))).toList) e⟩,I,w.drew.alloc (.cells ((Lib.strCells p).toArray++(Lib.strCells str).toArray++Builtin.zeroCells z.cells (grownCap w (n+str.size) aq e-(n+str.size))) e),_,⟨?_, ?_⟩, ?_,rfl,aX.le_refl I, ?_,Y⟩;rw[O8];refine .ft _ _ _ _ (by simp[*]) ?_ J;simp only[eH,Z,B,Array.length_toList,size_zeroCells,C];omega;grind
  left;rw[gm,a] <;> rfl
  have:=m.alloc 0 ((Lib.strCells p).toArray++(Lib.strCells str).toArray++Builtin.zeroCells z.cells (grownCap w (n+str.size) aq e-(n+str.size))) e;simpa[tQ,C_]using this
end
end
section
section
variable{P:Program}
structure Xt where
 a:bv
 n:Nat
 aq:Nat
def Js:j5 where
 X:=Xt
 args x:=[.slice x.a x.n x.aq]
 cond x:=x.a=none\/0<x.aq
 val x:=.pointer x.a
variable{o:Oper}{s x:Operand}{dst af t:TypeId}{j:TypeInfo}
theorem apk(f:o.op= .call {callee:=.builtin .unsafeSliceData,args:=#[s],argTypes:=#[t]}):cN P o Js:=by
 refine⟨λx w ρ g d=>?_⟩;obtain⟨a,n,aq⟩:=x;simp only[f,Op.operands,Call.operands,Js]at g;have c:ρ s= .slice a n aq:=by grind
 have b:(Builtin.unsafeSliceData_ #[t] o.type #[.slice a n aq]).run P w= .ok (.pointer a) w:=by
  cases a with
  |none=>rfl
  |some e=>
   have d:(some e:bv)=none\/0<aq:=d;exact Lib.run_unsafeSliceData_row w _ _ e n aq (Or.elim d (λh=>nomatch h) (λh=>O))
 simp[execOp,f,resolve,invoke,builtin,c,b,Js]
structure UsX where
 r:Row
 p:ah
abbrev F6(e:TypeId):aF where
 X:=UsX
 args x:=[W x.r.a,Z x.r.n]
 pre x:=[x.r.A]
 cond x:=pa e x.p x.r/\x.p.size<=9223372036854775807
 val x _:=al (C x.p)
 post _ _:=[.d7]
theorem abR{t it e:TypeId}(m:o.op= .call {callee:=.builtin .unsafeString,args:=#[s,x],argTypes:=#[t,it]})(hp:P.underlying t=some (.pointer e))(y:P.cellsOf e=1):gY P o (F6 e):=by
 refine⟨λa F I w ρ N v W B=>?_⟩;obtain⟨r,p⟩:=a;obtain⟨⟨d,l⟩,D⟩:=v;dsimp only at d l D;simp only[m,Op.operands,Call.operands,F6]at N;have u:ρ s= .pointer r.a/\ρ x= .int .i64 r.n:=by grind
 obtain⟨q,g⟩:=u;have H:r.n=p.size:=by have:=d.len;rw[Lib.strCells_length]at this;omega
 have A:p.data.toList.length=p.size:=X;have drop:∀(i:World),(∀c,∀b,r.a=some ⟨b,0,none⟩->c≠b->i.heap[c]?=w.heap[c]?)->i.heap.size=w.heap.size->(r.a=none->i=w)->Sat I (bu ((F6 e).post ⟨r,p⟩ ()++[F])) i:=by
  intro i K L M;have key:Sat I (gC (bu [r.A,F]) 0 .d7) i:=by
   cases d with
   |nil h=>rw[M rfl];exact B
   |ft b n aq J S C H=>
    exact B.write (j:=0) (b:=b) (λo m=>m.1) (λc v=>K c b rfl v) L (λ_ _=>ai)
  exact key
 by_cases E:p.size=0;have z:p= .empty:=by
  apply ByteArray.ext;apply Array.eq_empty_of_size_eq_zero;simp[*]
 have f:=Lib.run_unsafeString_none (P:=P) w t it o.type r.a;refine⟨(),I,w,.string p,ai,.inl ?_,rfl,aX.le_refl I,drop w (λ_ _ _ _=>rfl) rfl (λ_=>rfl),cn.refl w⟩;rw[show(r.n:Int)=0 by omega]at g;simp[execOp,m,resolve,invoke,builtin,q,g,f,z];cases d with
 |nil h=>exact absurd (by grind) E
 |ft b n aq J S C U=>
  have k:w.heap[b]?=some (.cells ⟨Lib.strCells p++J⟩ e (0,0)):=B.cells (j:=0) rfl;have f:=Lib.run_unsafeString_row (P:=P) w t it o.type e hp y b aq (by unfold World.shape?;simp[*]) p.data.toList (by grind) (by grind) O (by
   intro j x G;rw[oC,DZ (b:=b) Y k];simp only[gZ];have T:=(ic.1 G).1;rw[m5 (by grind)];simp[Lib.strCells,G])
  rw[A]at f;refine⟨(),I,w.freeze ⟨b,0,none⟩ p.size,.string p,ai,.inl ?_,rfl,aX.le_refl I,drop _ ?_ ?_ (λh=>by cases h), ?_⟩;rw[H]at g;simp[execOp,m,resolve,invoke,builtin,q,g,f];intro c V Q R;cases Q;unfold World.freeze;grind;unfold World.freeze;simp[*];unfold World.freeze;rw[if_neg E];exact Y
structure PH where
 c:Int
def FJ:j5 where
 X:=PH
 args x:=[.int .i32 x.c]
 cond _:=True
 val x:=.string (Utf8.encode x.c)
theorem Wf(d:o.op= .convert af dst x)(hs:(P.underlying af).isSome=true)(f:P.underlying dst=some .string):cN P o FJ:=by
 refine⟨λy w ρ e g=>?_⟩;obtain⟨c⟩:=y;simp only[d,Op.operands,FJ]at e;have b:ρ x= .int .i32 c:=by grind
 have a:=run_convert_int_string (P:=P) w af dst .i32 c hs f;simp only[execOp,d,b];rw[Sem.run_bind,a];rfl
structure BdX where
 b:Nat
structure pd(F:ag)(b:Nat)(t:TypeId):Prop where
 h:∀(I:aX)(m:Hp)(o:wJ),F.holds I m o->∃vs:aN,m b=some (.cells ⟨vs⟩ t (0,0))/\vs.length=2
theorem pd.sub{A B:ag}{b:Nat}(hs:Sub A B)(h:pd A b t):pd B b t:=⟨λI m o c=>let ⟨d,a⟩:=hs I m o c;h.h I m d a⟩
theorem pd.cells{b:Nat}{t:TypeId}(u v:aD):pd (.cells b [u,v] t) b t:=⟨λ_ _ _ h=>⟨_,h.2,rfl⟩⟩
theorem pd.get{I:aX}{S:St}{w:World}{j b:Nat}(h:pd (gt S j) b t)(hs:Sat I S w):∃a:aN,w.heap[b]?=some (.cells ⟨a⟩ t (0,0))/\a.length=2:=by
 obtain⟨f,c,_⟩:=hs.nW;exact h.h _ _ _ (c j)
abbrev Bv(t:TypeId):aF where
 X:=BdX
 args x:=[W (some ⟨x.b,0,none⟩)]
 aE x F:=pd F x.b t
 val x _:=al (W (some ⟨x.b,0,none⟩))
theorem agi{u:TypeId}(g:o.op= .convert af dst x)(hs:P.underlying af=some (.pointer t))(k:P.underlying dst=some .unsafePointer)(n:P.info? t=some j)(l:j.size≠0):gY P o (Bv u):=by
 refine⟨λy F I w ρ i f m a=>?_⟩;obtain⟨b⟩:=y;simp only[g,Op.operands,Bv]at i;have d:ρ x= .pointer (some ⟨b,0,none⟩):=by grind
 obtain⟨p,c,f⟩:=pd.get (j:=0) (show pd (gt (bu [F]) 0) b u from m) a;have h:=Lib.run_to_unsafe (P:=P) w ⟨b,0,none⟩ hs k n l (e:=u) (cells:=2) (by simp[World.shape?,c,f]) (show(0:Nat)<2 by decide);refine⟨(),I,w,_,ai,.inl ?_,rfl,aX.le_refl I,a,cn.refl w⟩;simp only[execOp,g,d];simp[*]
theorem agh(g:o.op= .convert af dst x)(hs:P.underlying af=some .unsafePointer)(k:P.underlying dst=some (.pointer t))(n:P.info? t=some j)(l:liesAt P P.depth t (2/P.cellsOf t) 0 t 1=true):gY P o (Bv t):=by
 refine⟨λy F I w ρ i f m a=>?_⟩;obtain⟨b⟩:=y;simp only[g,Op.operands,Bv]at i;have d:ρ x= .pointer (some ⟨b,0,none⟩):=by grind
 obtain⟨p,c,f⟩:=pd.get (j:=0) (show pd (gt (bu [F]) 0) b t from m) a;have h:=Lib.run_from_unsafe (P:=P) w ⟨b,0,none⟩ hs k n (e:=t) (cells:=2) (by simp[World.shape?,c,f]) l;refine⟨(),I,w,_,ai,.inl ?_,rfl,aX.le_refl I,a,cn.refl w⟩;simp only[execOp,g,d];simp[*]
structure JL where
 a:bv
def Hw(f:FuncId):j5 where
 X:=JL
 args x:=[.func (.func f) #[] #[],.pointer x.a]
 cond _:=True
 val x:=.pointer x.a
theorem aj_{f:FuncId}{d:Func}{ts:Array TypeId}(g:o.op= .call {callee:=.value (.func f),args:=#[x],argTypes:=ts})
  (k:P.funcs[f]?=some d) (c:(d.name== "runtime.NumGoroutine")=false) (i:d.body.isNone=true) (hn:Extern.findNext d=none) (j:Extern.find d=some Extern.AbiNoEscape.same):cN P o (Hw f):=by
 refine⟨λy w ρ h l=>?_⟩;obtain⟨a⟩:=y;simp only[g,Op.operands,Call.operands,Hw]at h;have e:ρ (.func f)= .func (.func f) #[] #[]/\ρ x= .pointer a:=by grind
 have b:=run_callFunc_extern (P:=P) k c i hn j #[.pointer a] w;rw[Lib.run_noEscape]at b;simp[execOp,g,resolve,Deferred.ofValue,invoke,e.1,e.2,b,Hw]
end
end
section
section
variable{P:Program}
def HG:j5 where
 X:=JL
 args x:=[.pointer x.a,.pointer none]
 cond _:=True
 val x:=.bool x.a.isNone
theorem alO{o:Oper}{t u:TypeId}{x y:Operand}(d:o.op= .binOp .eql t x y u)(h:P.underlying t=some (.pointer (P.pointee t))):cN P o HG:=by
 refine⟨λX w ρ e g=>?_⟩;obtain⟨a⟩:=X;simp only[d,Op.operands,HG]at e;have b:ρ x= .pointer a/\ρ y= .pointer none:=by grind
 have c:=run_eql_pointer_nil (P:=P) w t a h;have f:(eqGuard .eql t x y (.pointer a) (.pointer none)).run P w= .ok () w:=by cases a <;> rfl
 simp[execOp,d,b.1,b.2,f,c,HG]
structure yB where
 a:Addr
def HK:j5 where
 X:=yB
 args x:=[.pointer (some x.a),.pointer (some x.a)]
 cond _:=True
 val _:=.bool false
theorem amr{o:Oper}{t u e:TypeId}{j:TypeInfo}{x y:Operand}(d:o.op= .binOp .neq t x y u)(h:P.underlying t=some (.pointer e))(i:P.info? e=some j):cN P o HK:=by
 refine⟨λX w ρ f k=>?_⟩;obtain⟨a⟩:=X;simp only[d,Op.operands,HK]at f;have b:ρ x= .pointer (some a)/\ρ y= .pointer (some a):=by grind
 have c:=Lib.run_neq_ptr_same (P:=P) w a h i;have g:(eqGuard .neq t x y (.pointer (some a)) (.pointer (some a))).run P w= .ok () w:=rfl;simp[execOp,d,b.1,b.2,g,c,HK]
end
structure Jz where
 b:Nat
 p:bv
 v:aD
abbrev CI(x:Jz):bv:=some ⟨x.b,0,none⟩
abbrev Bp:aF where
 X:=Jz
 args x:=[W (CI x)]
 pre x:=[D x.b [W x.p,x.v] 104]
 cond x:=x.p=none\/x.p=some ⟨x.b,0,none⟩
 val _ _:=.returned (.tuple #[])
 post x _:=[D x.b [W (CI x),x.v] 104]
def QV(a:Oper):=vn a (Bv (104:TypeId)) (λ_=>True) (λb c=>pd c b.b 104)
abbrev Oo(x:Jz)(F:ag):=[(0,D x.b [W x.p,x.v] 104),(1,F)]
abbrev eK:=al (tuple ⟨[]⟩)
def afN(x:Jz)(F:ag)(j:Bp.cond x)(k:Bp.aE x F):V x.b 0/\cN prog (aL f108 0 4) HG/\∃(f:JL),[W x.p,W none]=[W f.a,W none]/\True/\Br f.a.isNone (QV (aL f108 1 2) [W (CI x)] (g (Oo x F) []) (λe d=>cN prog (aL f108 1 3) (Hw (135:FuncId))/\∃(c:JL),[func (Fn.func 135) ⟨[]⟩ ⟨[]⟩,W (some ⟨e.b,0,none⟩)]=[func (Fn.func 135) ⟨[]⟩ ⟨[]⟩,W c.a]/\True/\QV (aL f108 1 4) [W c.a] (g (Oo x F) []) (λb a=>V x.b 0/\l Bp x F eK [(0,D x.b [W (some ⟨b.b,0,none⟩),x.v] 104),(1,F)]))) (V x.b 0/\cN prog (aL f108 2 5) HK/\∃(a:yB),[W x.p,W (CI x)]=[W (some a.a),W (some a.a)]/\True/\l Bp x F eK (Oo x F)):=by
 delta QV CI Oo eK g V vn W D al;have i:pd (.cJ (rest [(0,ag.cells x.b [pointer x.p,x.v] 104),(1,F)] [])) x.b 104:=(pd.cells _ _).sub (bB 0);refine⟨Y,alO rfl rfl,⟨x.p⟩,rfl,ai,ar (λh=>?_) (λh=>?_)⟩;exact ba (agi rfl rfl rfl rfl (by decide)) ⟨x.b⟩ trivial i λ_ _=>⟨aj_ rfl rfl rfl rfl rfl bg,⟨some ⟨x.b,0,none⟩⟩,rfl,ai,agh rfl rfl rfl rfl bg,rfl,⟨x.b⟩,rfl,rfl,ai,i,λ_ _=>⟨Y,(),ai,rfl,ao [0,1]⟩⟩
 ·have hp:x.p=some ⟨x.b,0,none⟩:=by
   rcases j with j|j
   all_goals grind
  exact⟨Y,amr rfl rfl rfl,⟨⟨x.b,0,none⟩⟩,by rw[hp],ai,(),ai,rfl,ay.pick [0,1] rfl (by rw[hp] <;> rfl)⟩
def afM:aG 108 Bp:=fo 20 func108 (λ_ _=>[(0,4,.qo HG),(2,5,.qo HK),(1,2,.o (Bv 104) [] []),(1,3,.qo (Hw 135)),(1,4,.o (Bv 104) [] [])]) [(0,3,z 0),(1,7,.w [LH.aS (0:Nat)]),(2,3,z 0)] dV dV gj [] afN
structure yD where
 b:Nat
 p:bv
 r:Row
 t:ah
 s:ah
abbrev uu(x:yD):bv:=some ⟨x.b,0,none⟩
abbrev xL(x:yD):aN:=[W x.p,Q x.r.a x.r.n x.r.aq]
abbrev Fl(x:yD)(r:Row):aN:=[W (uu x),Q r.a r.n r.aq]
abbrev Dc:aF where
 X:=yD
 Y:=Row
 args x:=[W (uu x),C x.s]
 pre x:=[D x.b (xL x) 104,x.r.A]
 cond x:=(x.p=none\/x.p=some ⟨x.b,0,none⟩)/\pa 5 x.t x.r/\x.r.n+x.s.size<=140737488355328
 bS x r:=pa 5 (x.t++x.s) r
 val x _:=.returned (.tuple #[.int .i64 x.s.size,.nilIface])
 post x r:=[D x.b (Fl x r) 104,r.A]
def apT(x:yD)(F:ag):Nat->Option Inv:=fun
 |2=>some {X:=ax,P:=λ_=>True,mu:=λ_=>0,lv:=λ_=>[(0,W (uu x)),(1,C x.s)],st:=λ_=>[D x.b [W (uu x),Q x.r.a x.r.n x.r.aq] 104,x.r.A,F]}
 |_=>none
def DH(b:Oper):=R4 b (tQ (5:TypeId)) (λa=>pa 5 a.p a.r/\a.r.n+a.s.size<=140737488355328) (λa c=>pa 5 (a.p++a.s) c)
def apU(x:yD)(F:ag)(g:Dc.cond x)(f:Dc.aE x F):dK 108 Bp (λc=>(c.p=none\/c.p=some ⟨c.b,0,none⟩)) [W (uu x)] [D x.b (xL x) 104] (λc b=>∃(a:ax),True/\(W (uu x)=W (uu x)/\C x.s=C x.s/\True)/\ay [(0,D c.b [W (CI c),c.v] 104),(1,x.r.A),(2,F)] [(0,D x.b [W (uu x),Q x.r.a x.r.n x.r.aq] 104),(1,x.r.A),(2,F)])/\aQ λ(d:ax)_=>True->V x.b 1/\DH (aL f71 2 6) [Q x.r.a x.r.n x.r.aq,C x.s] [x.r.A] (λb a=>V x.b 1/\l Dc x F (al (tuple ⟨[Z ↑x.s.size,nilIface]⟩)) [(0,D x.b (Fl x a) 104),(1,a.A),(2,F)]):=by
 delta uu xL CI DH Fl V dK R4 Z C W Q D al aQ;obtain⟨hp,e,h⟩:=g;refine⟨bG afM ⟨x.b,x.p,.slice x.r.a x.r.n x.r.aq⟩ hp λ_ _=>⟨(),ai,aU,ao [0,1,2]⟩, ?_⟩;intro _ i _;exact⟨Y,ae6 rfl rfl rfl rfl rfl rfl rfl rfl,rfl,⟨x.r,x.t,x.s⟩,rfl,rfl,⟨e,h⟩,ai,λr f=>⟨Y,r,f,rfl,ao [0,1,2]⟩⟩
def ab1:aG 71 Dc:=fo 19 func71 (λ_ _=>[(1,1,q Bp),(2,6,.o (tQ 5) [1] [1])]) [(2,4,z 0),(2,9,.w [LH.aS (0:Nat)])] dV apT gj [] apU
abbrev DY:aF where
 X:=yD
 args x:=[W (uu x)]
 pre x:=[D x.b (xL x) 104,x.r.A]
 cond x:=pa 5 x.t x.r/\x.t.size<=140737488355328
 val x _:=al (C x.t)
 post x _:=[D x.b (xL x) 104,.d7]
def Kv(b:Oper):=lh b (F6 (5:TypeId)) (λa=>pa 5 a.p a.r/\a.p.size<=9223372036854775807)
def afF(x:yD)(F:ag)(e:DY.cond x)(f:DY.aE x F):true=true/\V x.b 1/\cN prog (aL f72 1 4) Js/\∃(c:Xt),[Q x.r.a x.r.n x.r.aq]=[Q c.a c.n c.aq]/\(c.a=none\/0<c.aq)/\V x.b 1/\Kv (aL f72 1 10) [W c.a,Z ↑x.r.n] [x.r.A] (λb a=>l DY x F (al (C b.p)) [(0,D x.b (xL x) 104),(1,aY),(2,F)]):=by
 delta Kv xL V lh Z C W Q D aY al;obtain⟨d,g⟩:=e;exact⟨rfl,Y,apk rfl,⟨x.r.a,x.r.n,x.r.aq⟩,rfl,d.2,Y,abR rfl rfl bg,rfl,⟨x.r,x.t⟩,rfl,rfl,⟨d,by grind⟩,ai,λ_ _=>⟨(),ai,rfl,ao [0,1,2]⟩⟩
def afE:aG 72 DY:=fo 14 func72 (λ_ _=>[(1,4,.qo Js),(1,10,.o (F6 5) [1] [1])]) [(1,3,z 0),(1,8,z 0)] dV dV gj [] afF
end
section
def Sc(c:Nat):Prop:=c<55296\/(57343<c/\c<=1114111)
variable{c:Nat}
theorem ZX{s:ah}{i n:Nat}(h:c6 s i=some (c,n)):Sc c:=by
 unfold c6 at h;by_cases j:i<s.size;rw[bp j,aW]at h;have e:=Lib.decodeN_valid (s.size-i) (L s i) (L s (i+1)) (L s (i+2)) (L s (i+3)) (ir s i);revert h e;generalize Lib.decodeN (s.size-i) (L s i) (L s (i+1)) (L s (i+2)) (L s (i+3))=d;obtain⟨b,f⟩:=d;intro h e;have a:(bif b==65533&&f==1 then none else some (b,f))=some (c,n):=h;cases g:(b==65533&&f==1)with
 |true=>rw[g]at a;cases a
 |false=>rw[g]at a;cases a;exact e
 grind
def fX(c:Nat):a_:=
 if c<128 then [c] else if c<2048 then [192+c/64,128+c%64] else if c<65536 then [224+c/4096,128+c/64%64,128+c%64] else [240+c/262144,128+c/4096%64,128+c/64%64,128+c%64]
theorem RN(h:Sc c):Utf8.encode (c:Int)=cF (fX c):=by
 have a:Utf8.valid (c:Int)=true:=by{unfold Utf8.valid;unfold Sc at h;simp;omega};unfold Utf8.encode fX cF;simp only[cy,if_true]
 repeat' split
 all_goals first|rfl| (exfalso;omega)
theorem se(l:a_):(cF l).size=l.length:=by
 unfold cF ByteArray.size;simp
theorem G3{l:a_}(h:∀b∈l,b<256)(k:Nat):L (cF l) k=l.getD k 0:=by
 unfold L cF;simp only[List.getElem?_toArray,fZ,eG];cases U:l[k]? with
 |none=>rfl
 |some b=>
  have:=h b (iz U);simp[*]
theorem YH(h:Sc c):∀b∈fX c,b<256:=by
 unfold Sc at h;unfold fX;intro b a;split at a;grind;split at a;grind;split at a;simp at a;omega;simp at a;omega
theorem akd(h:Sc c):c6 (cF (fX c)) 0=some (c,(fX c).length):=by
 have b:=YH h;unfold c6;rw[se,G3 b,G3 b,G3 b,G3 b,Nat.sub_zero];unfold Sc at h;have key:Lib.decodeN (fX c).length ((fX c).getD 0 0) ((fX c).getD (0+1) 0) ((fX c).getD (0+2) 0) ((fX c).getD (0+3) 0)=(c,(fX c).length):=by{unfold fX;by_cases a:c<128;rw[if_pos a];unfold Lib.decodeN;simp[*];rw[if_neg a];by_cases d:c<2048;rw[if_pos d];unfold Lib.decodeN;grind;rw[if_neg d];by_cases f:c<65536;rw[if_pos f];show Lib.decodeN 3 (224+c/4096) (128+c/64%64) (128+c%64) 0=(c,3);have e:(224+c/4096)%16*4096+(128+c/64%64)%64*64+(128+c%64)%64=c:=O;unfold Lib.decodeN;rw[if_neg O,if_neg O,if_pos O,e,if_pos O];rw[if_neg f];show Lib.decodeN 4 (240+c/262144) (128+c/4096%64) (128+c/64%64) (128+c%64)=(c,4);have e:(240+c/262144)%8*262144+(128+c/4096%64)%64*4096+(128+c/64%64)%64*64+(128+c%64)%64=c:=O;unfold Lib.decodeN;rw[if_neg O,if_neg O,if_neg O,if_pos O,e,if_pos O]};have g:1<=(fX c).length:=by{unfold fX;grind};rw[key,bp (show 0<(fX c).length by omega),aW];have i:(c==65533&&(fX c).length==1)=false:=by{by_cases a:c=65533;subst a;rfl;simp[*]};simp[*]
theorem apD(h:Sc c):bo (cF (fX c))=cF (jl c):=by
 unfold bo;have a:=akd h;obtain⟨_,f2,_⟩:=lV a;rw[se];obtain⟨f,b⟩:∃f,(fX c).length=f+1:=⟨(fX c).length-1,O⟩;have e1:nu (cF (fX c)) ((fX c).length+1) 0 []=jl c:=by{rw[nu,bp (show 0<(cF (fX c)).size by omega),aW,a];show nu (cF (fX c)) (fX c).length (0+(fX c).length) ([]++jl c)=jl c;rw[gZ,List.nil_append];generalize U:(fX c).length=k;rw[b]at U;subst U;rw[nu,bF (show ¬f+1<(cF (fX c)).size by rw[se];omega)];rfl};rw[e1]
theorem abX(h:Sc c):bo (Utf8.encode (c:Int))=cF (jl c):=by rw[RN h,apD h]
theorem agM:(fX c).length<=4:=by
 unfold fX
 repeat' split
 all_goals simp
theorem RO(h:Sc c):(Utf8.encode (c:Int)).size<=4:=by rw[RN h,se];exact agM
theorem agN(h:Sc c)(d:128<=c):2<=(Utf8.encode (c:Int)).size/\∀k,k<(Utf8.encode (c:Int)).size->128<=L (Utf8.encode (c:Int)) k:=by
 rw[RN h,se];refine⟨?_,λk U=>?_⟩;unfold fX;grind;rw[G3 (YH h)];have a:(fX c).getD k 0∈fX c:=by{simp[*]};revert a;generalize (fX c).getD k 0=b;unfold fX;rw[if_neg O];intro a;split at a;grind;split at a;simp at a;omega;simp at a;omega
theorem Yh(a b:a_):cF a++cF b=cF (a++b):=by
 apply ByteArray.ext;unfold cF;simp
end
end Go.Proofs.YthhiffpfleacaaaGreatDoor
