/- Part of the proof that ParseParens answers true at every input. -/
import Derived.Test.YtdkchodgklpomaaGreatDoorPPah
set_option linter.all false
namespace Go.Proofs.YtdkchodgklpomaaGreatDoor
set_option maxRecDepth 100000
open Go.Value (int slice string bool pointer agg tuple func float iface nilIface)
open Go.IntKind (i64 u8 u64 i32 u32 u16 i8 i16)
open Go.FloatKind (f64)
open Go.Ending (returned panicked)
section
open Go
def c_(z:Int):Int:=bif decide (z>=9) then 27 else (pw z.toNat:Nat)
section
variable(lc:Nat->Nat×ByteArray)
def l9:Nat->bq->Int->bq×Int
 |0,d,e=>(d,e)
 |f+1,d,e=>bif decide (d.dp>0) then l9 f (eh lc d (0-c_ d.dp)) (e+c_ d.dp) else (d,e)
def kU:Nat->bq->Int->bq×Int
 |0,d,e=>(d,e)
 |f+1,d,e=>bif decide (d.dp<0)||(d.dp==0&&decide (d.at_ 0<53)) then kU f (eh lc d (c_ (0-d.dp))) (e-c_ (0-d.dp)) else (d,e)
def Um(m e:Int):Int:=u64.wrap ((BitVec.ofInt u64.bits (u64.wrap ((BitVec.ofInt u64.bits m&&& BitVec.ofInt u64.bits (u64.wrap (u64.wrap (1*2^min (Int.toNat 52) u64.bits)-1))).toNat:Int))|||BitVec.ofInt u64.bits (u64.wrap (u64.wrap (i64.wrap ((BitVec.ofInt i64.bits (e- -1023)&&& BitVec.ofInt i64.bits (i64.wrap (i64.wrap (1*2^min (Int.toNat 11) i64.bits)-1))).toNat:Int))*2^min (Int.toNat 52) u64.bits))).toNat:Int)
def rA(ng:Bool)(m e:Int)(a:Bool):Int×Bool:=bif ng then (u64.wrap ((BitVec.ofInt u64.bits (Um m e)|||BitVec.ofInt u64.bits (u64.wrap (u64.wrap (1*2^min (Int.toNat 52) u64.bits)*2^min (Int.toNat 11) u64.bits))).toNat:Int),a) else (Um m e,a)
def yv(ng:Bool):Int×Bool:=bif ng then rA true 0 1024 true else rA false 0 1024 true
def yu(ng:Bool)(m e:Int):Int×Bool:=bif u64.wrap ((BitVec.ofInt u64.bits m&&& BitVec.ofInt u64.bits (u64.wrap (1*2^min (Int.toNat 52) u64.bits))).toNat:Int)==0 then rA ng m (-1023) false else rA ng m e false
def DE(ng:Bool)(m e:Int):Int×Bool:=bif m==u64.wrap (2*2^min (Int.toNat 52) u64.bits) then (bif decide (e+1- -1023>=2047) then yv ng else yu ng (m.fdiv (2^min (Int.toNat 1) u64.bits)) (e+1)) else yu ng m e
def AZ(d:bq)(e:Int):Int×Bool:=bif decide (e- -1023>=2047) then yv d.ng else DE d.ng (lP (eh lc d 53)) e
def AY(d:bq)(e:Int):Int×Bool:=bif decide (e-1< -1023+1) then AZ lc (eh lc d (0-(-1023+1-(e-1)))) (e-1+(-1023+1-(e-1))) else AZ lc d (e-1)
def ny(p:bq×Int):Int×Bool:=AY lc p.1 p.2
def Uk(d:bq):Int×Bool:=ny lc (kU lc 6000 (l9 lc 700 d 0).1 (l9 lc 700 d 0).2)
def dT(d:bq):Int×Bool:=bif d.nd==0 then rA d.ng 0 (-1023) false else bif decide (d.dp>310) then yv d.ng else bif decide (d.dp< -330) then rA d.ng 0 (-1023) false else Uk lc d
end
theorem D3{z:Int}(h:0<=z):(1<=c_ z/\c_ z<=27)/\(1<=z->3<=c_ z):=by
 unfold c_;by_cases q:z>=9
 ·simp[*]
 ·rw[bF q,aM];have k:∀i,i<9->1<=pw i/\pw i<=27/\(1<=i->3<=pw i):=by decide
  grind
variable{n:Nat}
theorem ajG{lc:Nat->Nat×ByteArray}{d:bq}(a:1<=n)(b:n<=60):eh lc d (0-(n:Int))=my d n:=by
 unfold eh;rw[bF (show ¬0<0-(n:Int) by omega),bv (show 0-(n:Int)<0 by omega),aM,aU,Co,show(-(0-(n:Int))).toNat=n by omega,show(200000:Nat)=199999+1 from rfl,qF,bF (show ¬60<n by omega),aM]
theorem ajH{lc:Nat->Nat×ByteArray}{d:bq}(a:1<=n)(b:n<=60):eh lc d (n:Int)=oy d n (lc n):=by
 unfold eh;rw[bv (show 0<(n:Int) by omega),aU,Co,show((n:Int)).toNat=n by omega,show(200000:Nat)=199999+1 from rfl,qE,bF (show ¬60<n by omega),aM]
def mA(d:bq):Nat:=2*d.dp.toNat+(bif decide (56<=d.at_ 0) then 1 else 0)
def mB(d:bq):Nat:=bif decide (0<d.dp) then 0 else 16*(0-d.dp).toNat+(58-d.at_ 0).toNat
theorem NX(d:bq):2*d.dp.toNat<=mA d/\mA d<=2*d.dp.toNat+1:=by
 unfold mA;grind
theorem aj4{lc:Nat->Nat×ByteArray}{d:bq}(hd:d.norm)(hp:0<d.dp):(eh lc d (0-c_ d.dp)).norm/\(eh lc d (0-c_ d.dp)).ng=d.ng/\(eh lc d (0-c_ d.dp)).dp<=d.dp/\d.dp-30<=(eh lc d (0-c_ d.dp)).dp/\mA (eh lc d (0-c_ d.dp))<mA d:=by
 obtain⟨⟨o,p⟩,f⟩:=D3 (z:=d.dp) ae;have f:=f ae;obtain⟨n,hn⟩:∃n:Nat,c_ d.dp=(n:Int):=⟨(c_ d.dp).toNat,ae⟩;rw[hn]at o p f⊢;rw[ajG ae ae];obtain⟨a1,a2,a3,a4,a5,i⟩:=Kg hd (k:=n) ae ae;have m1:=NX d;have s:=NX (my d n);refine⟨a1,a5,ae,ae,?_⟩;by_cases m:kH d n=1
 ·obtain⟨g,b⟩:=i m;have r:=hd.g9 0 (by have:=hd.pos;omega);have a:n=3:=by
   have q:8<=2^n:=by
    have:2^3<=2^n:=mN (by decide) ae;exact this
   rcases Nat.lt_or_ge n 4 with h|h
   ·omega
   ·have:2^4<=2^n:=mN (by decide) h;have:16<=2^n:=this;omega
  rw[a]at g b⊢;have l:(2:Nat)^3=8:=by decide
  rw[l]at g b;have e:(my d 3).dp=d.dp:=by rw[<-a];omega
  have c:d.at_ 0=((48+dE d 0:Nat):Int):=by
   have:=hd.gP 0 (by have:=hd.pos;omega);unfold dE;omega
  have j:(my d 3).at_ 0=48+((dE d 0/8:Nat):Int):=b;unfold mA;rw[e,bF (show ¬56<=(my d 3).at_ 0 by rw[j];omega),bv (show 56<=d.at_ 0 by rw[c];omega)];exact io _
 ·omega
theorem WX{lc:Nat->Nat×ByteArray}(a:pX lc){d:bq}(hd:d.norm)(hp:(decide (d.dp<0)||(d.dp==0&&decide (d.at_ 0<53)))=true):(eh lc d (c_ (0-d.dp))).norm/\(eh lc d (c_ (0-d.dp))).ng=d.ng/\d.dp<=(eh lc d (c_ (0-d.dp))).dp/\(eh lc d (c_ (0-d.dp))).dp<=d.dp+27/\mB (eh lc d (c_ (0-d.dp)))<mB d:=by
 have g:d.dp<=0:=by
  grind
 obtain⟨⟨h,i⟩,-⟩:=D3 (z:=0-d.dp) ae;obtain⟨n,hn⟩:∃n:Nat,c_ (0-d.dp)=(n:Int):=⟨(c_ (0-d.dp)).toNat,ae⟩;rw[hn]at h i⊢;have b:=a n ae ae;rw[ajH ae ae];obtain⟨a1,a2,a3,a4⟩:=Hr hd ae b;have f:=Ho (d:=d) b;have k:=hd.gP 0 (by have:=hd.pos;omega);have l:=a1.gP 0 (by have:=a1.pos;omega);have j:=a1.fst;refine⟨a1,a3,ae,ae,?_⟩;unfold mB;rw[bF (show ¬0<d.dp by omega),aM];by_cases e:0<(oy d n (lc n)).dp
 ·rw[bv e,aU];omega
 ·rw[bF e,aM];by_cases c:lG d (lc n)=0
  ·have:=a4 c;rw[c]at a2;omega
  ·omega
structure fw where
 b:Nat
 d:bq
 tb:Nat->Nat
 lc:Nat->Nat×ByteArray
def BU(x:fw):=af x.b (a7 x.d) 158
def iv(x:fw):Option Addr:=some ⟨x.b,0,none⟩
def qa:aQ where
 X:=fw
 Y:=bq
 args x:=[ag (iv x),ag d7]
 pre x:=[BU x]
 cond x:=(x.d.ds.length=800/\(x.d.nd=0\/x.d.norm))/\pX x.lc/\ -3000000000<=x.d.dp/\x.d.dp<=3000000000
 aO x F:=gF x.tb x.lc F
 bZ _ y:=y.ds.length=800
 val x _:=.returned (.tuple #[.int .u64 (dT x.lc x.d).1,.bool (dT x.lc x.d).2])
 post x y:=[af x.b (a7 y) 158]
noncomputable def GZ:Func:={Tryz.f131 with body:=some (abR 1 0 Tryz.f131)}
def Ul(x:fw):List (Nat×Value):=[(1,.pointer (some ⟨11,0,none⟩))]
structure cQ where
 d:bq
 e:Int
 m:Int
 o:Bool
 f:Nat
def sF(x:fw):List (Nat×Value):=[(0,.pointer (some ⟨x.b,0,none⟩)),(1,.pointer (some ⟨11,0,none⟩))]
def sG(x:fw)(F:ah)(s:cQ):List ah:=[.cells x.b (a7 s.d) 158,F]
def acU(x:fw)(F:ah):Nat->Option Inv:=fun
 |0=>some {X:=cQ,P:=fun s=>(s.d.norm/\s.d.ng=x.d.ng)/\(-330<=s.d.dp/\s.d.dp<=310)/\(0<=s.e/\s.e+27*s.f<=18900)/\mA s.d<s.f/\dT x.lc x.d=ny x.lc (kU x.lc 6000 (l9 x.lc s.f s.d s.e).1 (l9 x.lc s.f s.d s.e).2),mu:=fun s=>s.f,lv:=fun s=>sF x++[(5,.bool false),(6,.int .i64 s.e)],st:=sG x F}
 |2=>some {X:=cQ,P:=fun s=>(s.d.norm/\s.d.ng=x.d.ng)/\(-330<=s.d.dp/\s.d.dp<=30)/\(s.e<=18900/\27*s.f<=s.e+162000)/\mB s.d<s.f/\dT x.lc x.d=ny x.lc (kU x.lc s.f s.d s.e),mu:=fun s=>s.f,lv:=fun s=>sF x++[(5,.bool false),(6,.int .i64 s.e)],st:=sG x F}
 |_=>none
def G0:(T:Type)×(cQ->T):=⟨cQ,fun s=>s⟩
def acT(x:fw)(F:ah):Nat->Option Inv:=fun
 |16=>some {X:=cQ,gh:=some G0,P:=fun s=>(s.d.norm/\s.d.ng=x.d.ng)/\(0<s.d.dp/\s.d.dp<=310)/\(0<=s.e/\s.e+27*s.f<=18900)/\mA s.d<s.f/\s.m=c_ s.d.dp/\dT x.lc x.d=ny x.lc (kU x.lc 6000 (l9 x.lc s.f s.d s.e).1 (l9 x.lc s.f s.d s.e).2),mu:=fun s=>s.f,lv:=fun s=>sF x++[(5,.bool false),(6,.int .i64 s.e),(8,.int .i64 s.m)],st:=sG x F}
 |23=>some {X:=cQ,gh:=some G0,P:=fun s=>(s.d.norm/\s.d.ng=x.d.ng)/\(-330<=s.d.dp/\(decide (s.d.dp<0)||(s.d.dp==0&&decide (s.d.at_ 0<53)))=true)/\(s.e<=18900/\27*s.f<=s.e+162000)/\mB s.d<s.f/\s.m=c_ (0-s.d.dp)/\dT x.lc x.d=ny x.lc (kU x.lc s.f s.d s.e),mu:=fun s=>s.f,lv:=fun s=>sF x++[(5,.bool false),(6,.int .i64 s.e),(9,.int .i64 s.m)],st:=sG x F}
 |18=>some {X:=cQ,P:=fun s=>(s.d.norm/\s.d.ng=x.d.ng)/\(-330<=s.d.dp/\s.d.dp<=0)/\(0<=s.e/\s.e<=18900)/\dT x.lc x.d=ny x.lc (kU x.lc 6000 s.d s.e),mu:=fun _=>0,lv:=fun s=>sF x++[(5,.bool false),(6,.int .i64 s.e)],st:=sG x F}
 |25=>some {X:=cQ,P:=fun s=>(s.d.norm/\s.d.ng=x.d.ng)/\(-330<=s.d.dp/\s.d.dp<=30)/\(-162000<=s.e/\s.e<=18900)/\dT x.lc x.d=AY x.lc s.d s.e,mu:=fun _=>0,lv:=fun s=>sF x++[(5,.bool false),(6,.int .i64 s.e)],st:=sG x F}
 |30=>some {X:=cQ,P:=fun s=>(s.d.norm/\s.d.ng=x.d.ng)/\(-50000000<=s.d.dp/\s.d.dp<=50000000)/\(-162001<=s.e/\s.e<=18900)/\dT x.lc x.d=AZ x.lc s.d s.e,mu:=fun _=>0,lv:=fun s=>sF x++[(5,.bool false),(6,.int .i64 s.e)],st:=sG x F}
 |37=>some {X:=cQ,P:=fun s=>(s.d.ds.length=800/\s.d.ng=x.d.ng)/\(-162001<=s.e/\s.e<=18901)/\dT x.lc x.d=yu x.d.ng s.m s.e,mu:=fun _=>0,lv:=fun s=>sF x++[(5,.bool false),(6,.int .i64 s.e),(7,.int .u64 s.m)],st:=sG x F}
 |39=>some {X:=cQ,P:=fun s=>(s.d.ds.length=800/\s.d.ng=x.d.ng)/\dT x.lc x.d=yv x.d.ng,mu:=fun _=>0,lv:=fun s=>sF x,st:=sG x F}
 |42=>some {X:=cQ,P:=fun s=>(s.d.ds.length=800/\s.d.ng=x.d.ng)/\(-162001<=s.e/\s.e<=18901)/\dT x.lc x.d=rA x.d.ng s.m s.e s.o,mu:=fun _=>0,lv:=fun s=>sF x++[(5,.bool s.o),(6,.int .i64 s.e),(7,.int .u64 s.m)],st:=sG x F}
 |_=>none
def A8:OH:=.q [.ex 1 (.is (.int .u64 52))]
def DK:OH:=.q [.ex 1 (.is (.int .u64 11))]
def uk:OH:=.q [.ex 1 (.is (.int .i64 (-1023)))]
def acV(b:fw)(a:ah):List (Nat×Nat×OH):=[(3,3,iH 0),(5,3,uk),(6,3,iH 0),(7,3,iH 0),(9,3,uk),(11,3,iH 0),(13,3,iH 0),(13,4,.q [.ex 1 .slice]),(15,0,.q [.ex 1 .slice]),(15,4,iH 0),(15,5,.qo (gb 1)),(15,6,.q [.ex 1 (.int .i64)]),(16,3,bu pL),
 (18,3,iH 0),(18,9,iH 0),(18,16,bH 0),(18,17,aX),(20,3,iH 0),(20,5,.q [.ex 1 .slice]),(22,0,.q [.ex 1 .slice]),(22,4,iH 0),(22,6,.qo (gb 1)),(22,7,.q [.ex 1 (.int .i64)]),(23,2,bu pL),
 (26,4,uk),(27,3,uk),(28,3,bu pL),(30,4,uk),(30,9,DK),(30,10,aX),(30,11,aX),(31,4,A8),(31,5,aX),(31,6,aX),(31,7,bu pL),(32,1,bu u3),(33,4,A8),(33,5,aX),(33,6,aX),(34,1,aX),(36,4,uk),(36,9,DK),(36,10,aX),(36,11,aX),(37,4,A8),(37,5,aX),(37,6,aX),(37,7,aX),(38,3,uk),
 (40,3,DK),(40,4,aX),(40,5,aX),(40,9,uk),(40,10,aX),(42,4,A8),(42,5,aX),(42,6,aX),(42,7,aX),(43,5,uk),(43,10,DK),(43,11,aX),(43,12,aX),(43,13,aX),(43,14,aX),(43,18,A8),(43,19,aX),(43,20,aX),(44,3,.q [.ex 0 .bool]),(45,4,A8),(45,5,aX),(45,9,DK),(45,10,aX),(45,11,aX)]
noncomputable def Un(x:aQ.X qa)(F:ah):jc where
 op:=hk ((acV x F)++[])
 yB:=acU x F
 cut:=acT x F
 yT:=(fun _=>[])
def zk(z:cQ)(e0:fw):=z.d.ds.length=800/\z.d.ng=e0.d.ng
def EU(z:cQ):=(-162001:Int)<=z.e/\z.e<=18901
def gf(x:fw)(q:cQ)(F:ah):=[(0,af x.b (a7 q.d) 158),(1,F)]
def C5(e0:fw)(e1:ah)(v0 v1 v2:Value)(a:St):=∃(z:cQ),(zk z e0/\EU z/\dT e0.lc e0.d=rA e0.d.ng z.m z.e z.o)/\(ag (iv e0)=ag (iv e0)/\ag d7=ag d7/\v0=aj z.o/\v1=ad z.e/\v2=aA z.m/\True)/\aE a (gf e0 z e1)
def P6(F:ah)(x:fw):=aP F ⟨11,2,none⟩ ml/\C5 x F c6 ml (aA 0) [(0,af x.b (a7 x.d) 158),(1,F)]
def F2(e0:fw)(e1:ah)(a:St):=∃(z:cQ),(zk z e0/\dT e0.lc e0.d=yv e0.d.ng)/\(ag (iv e0)=ag (iv e0)/\ag d7=ag d7/\True)/\aE a (gf e0 z e1)
def wO(e:cQ)(x:fw):=e.d.norm/\e.d.ng=x.d.ng
def HP(a:cQ)(x:fw):=wO a x/\((-330:Int)<=a.d.dp/\a.d.dp<=310)/\(0<=a.e/\a.e+27*(a.f:Int)<=18900)/\mA a.d<a.f/\dT x.lc x.d=ny x.lc (kU x.lc 6000 (l9 x.lc a.f a.d a.e).fst (l9 x.lc a.f a.d a.e).snd)
def td(x:fw)(q:cQ):=af x.b (a7 q.d) 158
def OT(z:cQ)(e0:fw)(e1:cQ):=(wO z e0/\(0<z.d.dp/\z.d.dp<=310)/\(0<=z.e/\z.e+27*(z.f:Int)<=18900)/\mA z.d<z.f/\z.m=c_ z.d.dp/\dT e0.lc e0.d=ny e0.lc (kU e0.lc 6000 (l9 e0.lc z.f z.d z.e).fst (l9 e0.lc z.f z.d z.e).snd))/\G0.snd z=e1
def QE(e0:fw)(v0:Value)(z:cQ)(v1:Value):=ag (iv e0)=ag (iv e0)/\ag d7=ag d7/\aj false=aj false/\v0=ad z.e/\v1=ad z.m/\True
def Lr(e0:fw)(e1:cQ)(a:ah)(v0 v1:Value)(b:St):=∃(z:cQ),OT z e0 e1/\QE e0 v0 z v1/\aE b (gf e0 z a)
def C6(aa:List Value)(pp:List ah)(rr:ah)(b:sn->bq->Prop):=aC 156 pL/\true=true/\∃(z:sn),aa=[ag (lK z),ad z.k]/\pp=[af z.b (a7 z.d) 158]/\(z.d.norm/\pX z.lc/\(-200000:Int)<=z.k/\z.k<=200000/\(-100000000:Int)<=z.d.dp/\z.d.dp<=100000000)/\gF z.tb z.lc rr/\∀(a:bq),a=eh z.lc z.d z.k->b z a
def Pz(a:cQ)(x:fw):=wO a x/\((-330:Int)<=a.d.dp/\a.d.dp<=0)/\(0<=a.e/\a.e<=18900)/\dT x.lc x.d=ny x.lc (kU x.lc 6000 a.d a.e)
def P7(x:fw)(o a:cQ):=ag (iv x)=ag (iv x)/\ag d7=ag d7/\aj false=aj false/\ad o.e=ad a.e/\True
def H0(z:cQ)(e0:fw):=wO z e0/\((-330:Int)<=z.d.dp/\z.d.dp<=30)/\(z.e<=18900/\27*z.f<=z.e+162000)/\mB z.d<z.f/\dT e0.lc e0.d=ny e0.lc (kU e0.lc z.f z.d z.e)
def ON(e:cQ)(x:fw)(l:cQ):=(wO e x/\((-330:Int)<=e.d.dp/\(decide (e.d.dp<0)||e.d.dp==0&&decide (e.d.at_ 0<53))=true)/\(e.e<=18900/\27*e.f<=e.e+162000)/\mB e.d<e.f/\e.m=c_ ((0:Int)-e.d.dp)/\dT x.lc x.d=ny x.lc (kU x.lc e.f e.d e.e))/\G0.snd e=l
def Ls(e0:fw)(e1:cQ)(a:ah)(v0 v1:Value)(b:St):=∃(z:cQ),ON z e0 e1/\QE e0 v0 z v1/\aE b (gf e0 z a)
def IC(e0:fw)(v0:Value)(z:cQ):=ag (iv e0)=ag (iv e0)/\ag d7=ag d7/\aj false=aj false/\v0=ad z.e/\True
def SN(e0:fw)(e1:ah)(v0:Value)(a:St)(mm:Nat):=∃(z:cQ),H0 z e0/\IC e0 v0 z/\aE a (gf e0 z e1)/\z.f<mm
def O6(x:fw)(q:cQ)(F:ah):=∃(l:cQ),(true=true/\T1 (td x q) ⟨x.b,801,none⟩ (fun k=>eI F ⟨13,0,none⟩ (fun j i h=>aS (bU ((0:Int)-k)>=(i:Int)) (Ls x l F (ad q.e) (ad 27) (gf x q F)) (true=true/\eI F ⟨13,0,none⟩ (fun g f e=>T1 (td x q) ⟨x.b,801,none⟩ (fun d=>iS (ba GZ 22 6) [au g f e,ad (bU ((0:Int)-d))] (fun c=>T1 F ⟨c.b,c.o+c.n.toNat*1,none⟩ (fun b=>Ls x l F (ad q.e) (ad b) (gf x q F)))))))))/\aT fun(e:cQ)_=>ON e x l->C6 [ag (iv x),ad e.m] [af x.b (a7 e.d) 158] (aH (gf x e F) [0]) (fun c b=>bM (e.e-e.m)/\SN x F (ad (e.e-e.m)) [(0,af c.b (a7 b) 158),(1,F)] q.f)
def PL(z:cQ)(e0:fw):=wO z e0/\((-330:Int)<=z.d.dp/\z.d.dp<=30)/\((-162000:Int)<=z.e/\z.e<=18900)/\dT e0.lc e0.d=AY e0.lc z.d z.e
def Lt(e0:fw)(e1:ah)(v0:Value)(a:St):=∃(z:cQ),PL z e0/\IC e0 v0 z/\aE a (gf e0 z e1)
def Pn(z:cQ)(e0:fw):=wO z e0/\((-50000000:Int)<=z.d.dp/\z.d.dp<=50000000)/\((-162001:Int)<=z.e/\z.e<=18900)/\dT e0.lc e0.d=AZ e0.lc z.d z.e
def Lu(e0:fw)(e1:ah)(v0:Value)(a:St):=∃(z:cQ),Pn z e0/\IC e0 v0 z/\aE a (gf e0 z e1)
def P9(i:cQ):=(-9223372036854775808:Int)<=i.e-(-1023:Int)/\i.e-(-1023:Int)<=(9223372036854775807:Int)
def Lv(e0:fw)(e1:ah)(v0 v1:Value)(a:St):=∃(z:cQ),(zk z e0/\EU z/\dT e0.lc e0.d=yu e0.d.ng z.m z.e)/\(ag (iv e0)=ag (iv e0)/\ag d7=ag d7/\aj false=aj false/\v0=ad z.e/\v1=aA z.m/\True)/\aE a (gf e0 z e1)
theorem acY(x:fw)(F:ah)(K:qa.cond x)(A:qa.aO x F):(T1 (BU x) ⟨x.b,800,none⟩ (fun v=>Br (v==0) (P6 F x) (T1 (BU x) ⟨x.b,801,none⟩ (fun u=>aS (u>310) (F2 x F [(0,af x.b (a7 x.d) 158),(1,F)]) (T1 (BU x) ⟨x.b,801,none⟩ (fun t=>aS (t<(-330:Int)) (P6 F x) (((∃(a:cQ),HP a x/\(ag (iv x)=ag (iv x)/\ag d7=ag d7/\aj false=aj false/\ad 0=ad a.e/\True)/\aE [(0,af x.b (a7 x.d) 158),(1,F)] (gf x a F))/\aT fun(o:cQ)_=>HP o x->T1 (td x o) ⟨x.b,801,none⟩ (fun m=>aS (m>0) (∃(l:cQ),(true=true/\T1 (td x o) ⟨x.b,801,none⟩ (fun k=>eI F ⟨13,0,none⟩ (fun j i h=>aS (k>=i) (Lr x l F (ad o.e) (ad 27) (gf x o F)) (true=true/\eI F ⟨13,0,none⟩ (fun g f e=>T1 (td x o) ⟨x.b,801,none⟩ (fun d=>iS (ba GZ 15 5) [au g f e,ad d] (fun c=>T1 F ⟨c.b,c.o+c.n.toNat*1,none⟩ (fun b=>Lr x l F (ad o.e) (ad b) (gf x o F)))))))))/\aT fun(e:cQ)_=>OT e x l->C6 [ag (iv x),ad (bU ((0:Int)-e.m))] [af x.b (a7 e.d) 158] (aH (gf x e F) [0]) (fun c b=>bM (e.e+e.m)/\∃(a:cQ),HP a x/\(ag (iv x)=ag (iv x)/\ag d7=ag d7/\aj false=aj false/\ad (e.e+e.m)=ad a.e/\True)/\aE [(0,af c.b (a7 b) 158),(1,F)] (gf x a F)/\a.f<o.f)) (∃(a:cQ),Pz a x/\P7 x o a/\aE (gf x o F) (gf x a F))))/\aT fun(s:cQ)_=>Pz s x->((∃(a:cQ),H0 a x/\P7 x s a/\aE (gf x s F) (gf x a F))/\aT fun(q:cQ)_=>H0 q x->T1 (td x q) ⟨x.b,801,none⟩ (fun o=>aS (o<0) (O6 x q F) (T1 (td x q) ⟨x.b,801,none⟩ (fun n=>Br (n==0) (((0:Int)<=(0:Int)/\0<(↑(800:Nat):Int))/\iR (td x q) ⟨x.b,0,none⟩ (fun m=>aS (m<53) (O6 x q F) (Lt x F (ad q.e) (gf x q F)))) (Lt x F (ad q.e) (gf x q F))))))/\aT fun(k:cQ)_=>PL k x->((-9223372036854775808:Int)<=k.e-1/\k.e-1<=(9223372036854775807:Int))/\(aP F ⟨11,2,none⟩ ml/\Em/\aS (k.e-1<(-1023:Int)+(1:Int)) (aP F ⟨11,2,none⟩ ml/\Em/\bM ((-1023:Int)+(1:Int)-(k.e-1))/\C6 [ag (iv x),ad (bU ((0:Int)-((-1023:Int)+(1:Int)-(k.e-1))))] [af x.b (a7 k.d) 158] (aH (gf x k F) [0]) (fun c b=>bM (k.e-1+((-1023:Int)+(1:Int)-(k.e-1)))/\Lu x F (ad (k.e-1+((-1023:Int)+(1:Int)-(k.e-1)))) [(0,af c.b (a7 b) 158),(1,F)])) (Lu x F (ad (k.e-1)) (gf x k F)))/\aT fun(i:cQ)_=>Pn i x->true=true/\aP F ⟨11,2,none⟩ ml/\P9 i/\aP F ⟨11,1,none⟩ tq/\aS (i.e-(-1023:Int)>=bU (bU ((1:Int)*(2:Int)^min (Int.toNat (11:Int)) i64.bits)-1)) (F2 x F (gf x i F)) (aP F ⟨11,0,none⟩ ld/\C6 [ag (iv x),ad (bU (bf ((1:Int)+(52:Int))))] [af x.b (a7 i.d) 158] (aH (gf x i F) [0]) (fun g f=>aC 157 u3/\true=true/\∃(e:km),[ag (iv x)]=[ag (iw e)]/\[af g.b (a7 f) 158]=[af e.b (a7 e.d) 158]/\e.d.ok/\True/\∀(d:Unit),True->(aP F ⟨11,0,none⟩ ld/\Br (lP e.d==bf ((2:Int)*(2:Int)^min (Int.toNat (52:Int)) u64.bits)) (((-9223372036854775808:Int)<=i.e+1/\i.e+1<=(9223372036854775807:Int))/\true=true/\aP F ⟨11,2,none⟩ ml/\((-9223372036854775808:Int)<=i.e+1-(-1023:Int)/\i.e+1-(-1023:Int)<=(9223372036854775807:Int))/\aP F ⟨11,1,none⟩ tq/\aS (i.e+1-(-1023:Int)>=bU (bU ((1:Int)*(2:Int)^min (Int.toNat (11:Int)) i64.bits)-1)) (F2 x F (lI e F)) (Lv x F (ad (i.e+1)) (aA ((lP e.d).fdiv ((2:Int)^min (Int.toNat (1:Int)) u64.bits))) (lI e F))) (Lv x F (ad i.e) (aA (lP e.d)) (lI e F)))/\aT fun(c:cQ)_=>(zk c x/\EU c/\dT x.lc x.d=yu x.d.ng c.m c.e)->aP F ⟨11,0,none⟩ ld/\Br (bf (↑(b7 c.m&&& b7 (bf ((1:Int)*(2:Int)^min (Int.toNat (52:Int)) u64.bits))).toNat:Int)==0) (aP F ⟨11,2,none⟩ ml/\C5 x F c6 ml (aA c.m) (gf x c F)) (C5 x F c6 (ad c.e) (aA c.m) (gf x c F))))))))))/\aT fun(c:cQ)_=>(zk c x/\dT x.lc x.d=yv x.d.ng)->true=true/\aP F ⟨11,1,none⟩ tq/\aP F ⟨11,2,none⟩ ml/\C5 x F (aj true) (ad (bU (bU (bU ((1:Int)*(2:Int)^min (Int.toNat (11:Int)) i64.bits)-1)+(-1023:Int)))) (aA 0) (gf x c F))/\aT fun(c:cQ)_=>(zk c x/\EU c/\dT x.lc x.d=rA x.d.ng c.m c.e c.o)->aP F ⟨11,0,none⟩ ld/\true=true/\aP F ⟨11,2,none⟩ ml/\P9 c/\aP F ⟨11,1,none⟩ tq/\aP F ⟨11,0,none⟩ ld/\vJ (td x c) ⟨x.b,802,none⟩ (fun a=>Br a (true=true/\aP F ⟨11,0,none⟩ ld/\aP F ⟨11,1,none⟩ tq/\ar qa x F (ax (tuple {toList:=[aA (bf (↑(b7 (bf (↑(b7 (bf (↑(b7 c.m&&& b7 (bf (bf ((1:Int)*(2:Int)^min (Int.toNat (52:Int)) u64.bits)-1))).toNat:Int))|||b7 (bf (bf (bU (↑(gQ (c.e-(-1023:Int))&&& gQ (bU (bU ((1:Int)*(2:Int)^min (Int.toNat (11:Int)) i64.bits)-1))).toNat:Int))*2^min (Int.toNat (52:Int)) u64.bits))).toNat:Int))|||b7 (bf (bf ((1:Int)*(2:Int)^min (Int.toNat (52:Int)) u64.bits)*2^min (Int.toNat (11:Int)) u64.bits))).toNat:Int)),aj c.o]})) (gf x c F)) (ar qa x F (ax (tuple ⟨[aA (bf (↑(b7 (bf (↑(b7 c.m&&& b7 (bf (bf ((1:Int)*(2:Int)^min (Int.toNat (52:Int)) u64.bits)-1))).toNat:Int))|||b7 (bf (bf (bU (↑(gQ (c.e-(-1023:Int))&&& gQ (bU (bU ((1:Int)*(2:Int)^min (Int.toNat (11:Int)) i64.bits)-1))).toNat:Int))*2^min (Int.toNat (52:Int)) u64.bits))).toNat:Int)),aj c.o]⟩)) (gf x c F))):=by
 delta T1 BU ml zk EU iv d7 gf C5 c6 P6 F2 wO HP td eI OT QE Lr iS lK C6 Pz P7 H0 ON Ls IC SN O6 iR PL Lt Em Pn Lu P9 tq ld iw lI Lv vJ aH bM ad a8 aA aj ag au af b7 gQ bf bU aS ax aT;obtain⟨b,d,tb,lc⟩:=x;obtain⟨⟨hl,hd⟩,G,U,V⟩:=K;replace A:gF tb lc F:=A;dsimp only at hl hd G U V⊢;obtain⟨X,Y,pc,t1,t2⟩:=A.pt;have w:∀v:bq,aE [(0,.cells b (a7 v) 158),(1,F)] [(0,.cells b (a7 v) 158),(1,F)]:=fun v=>az [0,1];have rr:∀v:bq,gF tb lc (.dq (rest [(0,.cells b (a7 v) 158),(1,F)] [0])):=fun v=>A.sub (bP 1);have Q:i64.wrap (i64.wrap (1*2^min (Int.toNat 11) i64.bits)-1)=2047:=by decide
 refine⟨⟨⟨d.nd,jM hl,aG (fun q=>⟨A.i2,⟨d,-1023,0,false,0⟩,⟨⟨hl,rfl⟩,⟨by simp[*],by simp[*]⟩,by unfold dT;simp[*]⟩,aV,w _⟩) (fun q=>?_)⟩,?_⟩,?_⟩
 ·have S:d.norm:=by
   grind
  refine⟨d.dp,kX hl,bo (fun q1=>⟨⟨d,0,0,true,0⟩,⟨⟨hl,rfl⟩,by unfold dT;simp[*]⟩,aV,w _⟩) (fun q1=>⟨d.dp,kX hl,bo (fun q2=>⟨A.i2,⟨d,-1023,0,false,0⟩,⟨⟨hl,rfl⟩,⟨by simp[*],by simp[*]⟩,by unfold dT;simp[*]⟩,aV,w _⟩) (fun q2=>?_)⟩)⟩;have W:dT lc d=ny lc (kU lc 6000 (l9 lc 700 d 0).1 (l9 lc 700 d 0).2):=by
   unfold dT Uk;simp[*]
  have hm0:=NX d;refine⟨⟨⟨⟨d,0,0,false,700⟩,⟨⟨S,rfl⟩,⟨by grind,by grind⟩,⟨cD _,by simp[*]⟩,by grind,W⟩,aV,w _⟩,?_⟩,?_⟩
  ·rintro⟨D,e,_,_,f⟩ J ⟨⟨g1,p⟩,⟨g3,g4⟩,⟨C,E⟩,O,r⟩;dsimp only at g1 p g3 g4 C E O r⊢;obtain⟨f,rfl⟩:∃j,f=j+1:=⟨f-1,ae⟩;refine⟨D.dp,kX g1.len,bo (fun q=>?_) (fun q=>⟨⟨D,e,0,false,0⟩,⟨⟨g1,p⟩,⟨g3,by grind⟩,⟨C,by grind⟩,by rw[r,l9,bF q,aM]⟩,aV,w _⟩)⟩;obtain⟨⟨w1,w2⟩,-⟩:=D3 (z:=D.dp) ae;have st:∀m:Int,m=c_ D.dp->((((D.norm/\D.ng=d.ng)/\(0<D.dp/\D.dp<=310)/\(0<=e/\e+27*((f+1:Nat):Int)<=18900)/\mA D<f+1/\m=c_ D.dp/\dT lc d=ny lc (kU lc 6000 (l9 lc (f+1) D e).1 (l9 lc (f+1) D e).2)))):=fun m hm=>⟨⟨g1,p⟩,⟨ae,g4⟩,⟨C,E⟩,O,hm,r⟩;refine⟨⟨D,e,c_ D.dp,false,f+1⟩,⟨rfl,D.dp,kX g1.len,_,9,pc,t1,bo (fun q1=>⟨⟨D,e,c_ D.dp,false,f+1⟩,⟨st _ rfl,rfl⟩,⟨rfl,rfl,rfl,rfl,?_,ao⟩,w _⟩) (fun q1=>⟨rfl,_,9,pc,t1,D.dp,kX g1.len,h9 1 rfl rfl rfl rfl,⟨X,Y,9,pc,D.dp⟩,rfl,⟨by grind,by grind⟩,(pw D.dp.toNat:Nat),?_,⟨D,e,c_ D.dp,false,f+1⟩,⟨st _ rfl,rfl⟩,⟨rfl,rfl,rfl,rfl,?_,ao⟩,w _⟩)⟩,?_⟩
   ·unfold c_;grind
   ·grind
   ·unfold c_;grind
   ·rintro⟨B,P,Z,o2,f2⟩ J ⟨-,I⟩;obtain⟨rfl,rfl,rfl,rfl,rfl⟩:=cQ.mk.inj I;obtain⟨s1,s2,R,L,s5⟩:=aj4 (lc:=lc) g1 q;dsimp only;refine⟨Fh,rfl,⟨b,B,0-c_ B.dp,tb,lc⟩,by rw[dz (i:=.i64) (n:=0-c_ B.dp) aK],rfl,⟨g1,G,by grind,by grind,by grind,by grind⟩,rr B,?_⟩;rintro y rfl;exact⟨aK,⟨eh lc B (0-c_ B.dp),P+c_ B.dp,0,false,f⟩,⟨⟨s1,s2.trans p⟩,⟨by grind,by grind⟩,⟨by grind,by grind⟩,by grind,by rw[r,l9,bv q,aU]⟩,aV,w _,by simp[*]⟩
  rintro⟨D,e,_,_,_⟩ J ⟨⟨g1,p⟩,⟨g3,g4⟩,⟨C,E⟩,r⟩;dsimp only at g1 p g3 g4 C E r⊢;have N:mB D<6000:=by
   have h0:=g1.gP 0 (by have:=g1.pos;omega);unfold mB;grind
  refine⟨⟨⟨⟨D,e,0,false,6000⟩,⟨⟨g1,p⟩,⟨g3,by grind⟩,⟨E,by grind⟩,N,r⟩,aV,w _⟩,?_⟩,?_⟩
  ·clear g1 p g3 g4 C E r N D e;rintro⟨D,e,_,_,f⟩ J ⟨⟨g1,p⟩,⟨g3,g4⟩,⟨C,E⟩,O,r⟩;dsimp only at g1 p g3 g4 C E O r⊢;obtain⟨f,rfl⟩:∃j,f=j+1:=⟨f-1,ae⟩;have out:(decide (D.dp<0)||(D.dp==0&&decide (D.at_ 0<53)))=false->dT lc d=AY lc D e:=fun h=>by
    rw[r,kU,h,aM];rfl
   refine⟨D.dp,kX g1.len,bo (fun q=>?_) (fun q=>⟨D.dp,kX g1.len,aG (fun q1=>⟨⟨by decide,by decide⟩,D.at_ 0,wa g1.len (by decide),bo (fun q2=>?_) (fun q2=>⟨⟨D,e,0,false,0⟩,⟨⟨g1,p⟩,⟨g3,g4⟩,⟨by grind,ae⟩,out (by simp[*])⟩,aV,w _⟩)⟩) (fun q1=>⟨⟨D,e,0,false,0⟩,⟨⟨g1,p⟩,⟨g3,g4⟩,⟨by grind,ae⟩,out (by simp[*])⟩,aV,w _⟩)⟩)⟩
   ·have K:(decide (D.dp<0)||(D.dp==0&&decide (D.at_ 0<53)))=true:=by simp[*]
    have T:D.dp<=0:=by
     omega
    obtain⟨⟨w1,w2⟩,-⟩:=D3 (z:=0-D.dp) ae;have st:(((D.norm/\D.ng=d.ng)/\(-330<=D.dp/\(decide (D.dp<0)||(D.dp==0&&decide (D.at_ 0<53)))=true)/\(e<=18900/\27*((f+1:Nat):Int)<=e+162000)/\mB D<f+1/\c_ (0-D.dp)=c_ (0-D.dp)/\dT lc d=ny lc (kU lc (f+1) D e))):=⟨⟨g1,p⟩,⟨g3,K⟩,⟨C,E⟩,O,rfl,r⟩;have H:i64.wrap (0-D.dp)=0-D.dp:=dz (i:=.i64) (n:=0-D.dp) aK;refine⟨⟨D,e,c_ (0-D.dp),false,f+1⟩,⟨rfl,D.dp,kX g1.len,_,9,pc,t1,bo (fun q5=>⟨⟨D,e,c_ (0-D.dp),false,f+1⟩,⟨st,rfl⟩,⟨rfl,rfl,rfl,rfl,?_,ao⟩,w _⟩) (fun q5=>⟨rfl,_,9,pc,t1,D.dp,kX g1.len,h9 1 rfl rfl rfl rfl,⟨X,Y,9,pc,0-D.dp⟩,by rw[H],⟨by simp[*],by grind⟩,(pw (0-D.dp).toNat:Nat),?_,⟨D,e,c_ (0-D.dp),false,f+1⟩,⟨st,rfl⟩,⟨rfl,rfl,rfl,rfl,?_,ao⟩,w _⟩)⟩,?_⟩
    ·rw[H]at q5;unfold c_;grind
    ·grind
    ·rw[H]at q5;unfold c_;grind
    ·rintro⟨B,P,Z,o2,f2⟩ J ⟨-,I⟩;obtain⟨rfl,rfl,rfl,rfl,rfl⟩:=cQ.mk.inj I;obtain⟨s1,s2,R,L,s5⟩:=WX G g1 K;dsimp only;refine br Fh ⟨b,B,c_ (0-B.dp),tb,lc⟩ ⟨g1,G,by grind,by grind,by grind,by grind⟩ (rr B) (?_);rintro y rfl;exact⟨aK,⟨eh lc B (c_ (0-B.dp)),P-c_ (0-B.dp),0,false,f⟩,⟨⟨s1,s2.trans p⟩,⟨by grind,by grind⟩,⟨by grind,by grind⟩,by grind,by rw[r,kU,K,aU]⟩,aV,w _,by simp[*]⟩
   ·have K:(decide (D.dp<0)||(D.dp==0&&decide (D.at_ 0<53)))=true:=by simp[*]
    have T:D.dp<=0:=by
     grind
    obtain⟨⟨w1,w2⟩,-⟩:=D3 (z:=0-D.dp) ae;have st:(((D.norm/\D.ng=d.ng)/\(-330<=D.dp/\(decide (D.dp<0)||(D.dp==0&&decide (D.at_ 0<53)))=true)/\(e<=18900/\27*((f+1:Nat):Int)<=e+162000)/\mB D<f+1/\c_ (0-D.dp)=c_ (0-D.dp)/\dT lc d=ny lc (kU lc (f+1) D e))):=⟨⟨g1,p⟩,⟨g3,K⟩,⟨C,E⟩,O,rfl,r⟩;have H:i64.wrap (0-D.dp)=0-D.dp:=dz (i:=.i64) (n:=0-D.dp) aK;refine⟨⟨D,e,c_ (0-D.dp),false,f+1⟩,⟨rfl,D.dp,kX g1.len,_,9,pc,t1,bo (fun q5=>⟨⟨D,e,c_ (0-D.dp),false,f+1⟩,⟨st,rfl⟩,⟨rfl,rfl,rfl,rfl,?_,ao⟩,w _⟩) (fun q5=>⟨rfl,_,9,pc,t1,D.dp,kX g1.len,h9 1 rfl rfl rfl rfl,⟨X,Y,9,pc,0-D.dp⟩,by rw[H],⟨by simp[*],by grind⟩,(pw (0-D.dp).toNat:Nat),?_,⟨D,e,c_ (0-D.dp),false,f+1⟩,⟨st,rfl⟩,⟨rfl,rfl,rfl,rfl,?_,ao⟩,w _⟩)⟩,?_⟩
    ·omega
    ·grind
    ·rw[H]at q5;unfold c_;grind
    ·rintro⟨B,P,Z,o2,f2⟩ J ⟨-,I⟩;obtain⟨rfl,rfl,rfl,rfl,rfl⟩:=cQ.mk.inj I;obtain⟨s1,s2,R,L,s5⟩:=WX G g1 K;dsimp only;refine br Fh ⟨b,B,c_ (0-B.dp),tb,lc⟩ ⟨g1,G,by grind,by grind,by grind,by grind⟩ (rr B) (?_);rintro y rfl;exact⟨aK,⟨eh lc B (c_ (0-B.dp)),P-c_ (0-B.dp),0,false,f⟩,⟨⟨s1,s2.trans p⟩,⟨by grind,by grind⟩,⟨by grind,by grind⟩,by grind,by rw[r,kU,K,aU]⟩,aV,w _,by simp[*]⟩
  clear g1 p g3 g4 C E r N D e;rintro⟨D,e,_,_,_⟩ J ⟨⟨g1,p⟩,⟨g3,g4⟩,⟨C,E⟩,r⟩;dsimp only at g1 p g3 g4 C E r⊢;refine⟨aK,⟨A.i2,⟨by decide,by decide⟩,bo (fun q=>⟨A.i2,⟨by decide,by decide⟩,aK,Fh,rfl,⟨b,D,0-(-1023+1-(e-1)),tb,lc⟩,by rw[dz (i:=.i64) (n:=0-(-1023+1-(e-1))) aK],rfl,⟨g1,G,by grind,by grind,by grind,by grind⟩,rr D,?_⟩) (fun q=>⟨⟨D,e-1,0,false,0⟩,⟨⟨g1,p⟩,⟨by grind,by grind⟩,⟨by grind,by grind⟩,by rw[r,AY,bF q,aM]⟩,aV,w _⟩)⟩,?_⟩
  ·rintro y rfl;obtain⟨s1,s2,R,L⟩:=WQ G g1 (k:=0-(-1023+1-(e-1))) ae ae;exact⟨aK,⟨eh lc D (0-(-1023+1-(e-1))),e-1+(-1023+1-(e-1)),0,false,0⟩,⟨⟨s1,L.trans p⟩,⟨by grind,by grind⟩,⟨by grind,by grind⟩,by rw[r,AY,bv q,aU]⟩,aV,w _⟩
  clear g1 p g3 g4 C E r D e;rintro⟨D,e,_,_,_⟩ J ⟨⟨g1,p⟩,⟨g3,g4⟩,⟨C,E⟩,r⟩;dsimp only at g1 p g3 g4 C E r⊢;rw[Q];obtain⟨s1,s2,R,L⟩:=WQ G g1 (k:=53) (by decide) (by decide);refine⟨rfl,A.i2,aK,A.i1,bo (fun q=>⟨⟨D,0,0,true,0⟩,⟨⟨g1.len,p⟩,by rw[r,AZ,bv q,aU,p]⟩,aV,w _⟩) (fun q=>⟨A.i0,Fh,rfl,⟨b,D,53,tb,lc⟩,by rw[show i64.wrap (u64.wrap (1+52))=53 by decide],rfl,⟨g1,G,by simp[*],by simp[*],by grind,by grind⟩,rr D,?_⟩)⟩;rintro y rfl;have M:dT lc d=DE d.ng (lP (eh lc D 53)) e:=by rw[r,AZ,bF q,aM,p]
  refine bO aiU ⟨b,eh lc D 53⟩ s1.ok fun _ _=>⟨⟨A.i0,aG (fun q1=>⟨aK,rfl,A.i2,aK,A.i1,bo (fun q2=>⟨⟨eh lc D 53,0,0,true,0⟩,⟨⟨s1.len,L.trans p⟩,by rw[M,DE,q1,aU,bv q2,aU]⟩,aV,w _⟩) (fun q2=>⟨⟨eh lc D 53,e+1,(lP (eh lc D 53)).fdiv (2^min (Int.toNat 1) u64.bits),false,0⟩,⟨⟨s1.len,L.trans p⟩,⟨by grind,by grind⟩,by rw[M,DE,q1,aU,bF q2,aM]⟩,aV,w _⟩)⟩) (fun q1=>⟨⟨eh lc D 53,e,lP (eh lc D 53),false,0⟩,⟨⟨s1.len,L.trans p⟩,⟨ae,by grind⟩,by rw[M,DE,q1,aM]⟩,aV,w _⟩)⟩,?_⟩;rintro⟨D,e,m,_,_⟩ J ⟨⟨g1,p⟩,⟨C,E⟩,r⟩;dsimp only at g1 p C E r⊢;exact⟨A.i0,aG (fun q=>⟨A.i2,⟨D,-1023,m,false,0⟩,⟨⟨g1,p⟩,⟨by simp[*],by simp[*]⟩,by rw[r,yu,q,aU]⟩,aV,w _⟩) (fun q=>⟨⟨D,e,m,false,0⟩,⟨⟨g1,p⟩,⟨C,E⟩,by rw[r,yu,q,aM]⟩,aV,w _⟩)⟩
 ·rintro⟨D,_,_,_,_⟩ J ⟨⟨g1,p⟩,r⟩;dsimp only at g1 p r⊢;refine⟨rfl,A.i1,A.i2,⟨D,1024,0,true,0⟩,⟨⟨g1,p⟩,⟨by simp[*],by simp[*]⟩,?_⟩,⟨rfl,rfl,rfl,congrArg _ (show _=(1024:Int) by decide),rfl,ao⟩,w _⟩;rw[r,yv];rfl
 ·rintro⟨D,e,m,o,_⟩ J ⟨⟨g1,p⟩,⟨C,E⟩,r⟩;dsimp only at g1 p C E r⊢;refine⟨A.i0,rfl,A.i2,aK,A.i1,A.i0,D.ng,afz g1,aG (fun q=>⟨rfl,A.i0,A.i1,D,g1,?_,w _⟩) (fun q=>⟨D,g1,?_,w _⟩)⟩
  ·show _=returned (.tuple #[.int .u64 (dT lc d).1,.bool (dT lc d).2]);rw[r,rA,<-p,q];rfl
  ·show _=returned (.tuple #[.int .u64 (dT lc d).1,.bool (dT lc d).2]);rw[r,rA,<-p,q];rfl
theorem acW(x:aQ.X qa)(F:ah)(a:qa.cond x)(b:qa.aO x F):pW Tryz.prog 243 GZ (Un x F) [] (g_ GZ) (mK (aQ.args qa x)) (bD (aQ.pre qa x++[F])) (Ul x) (ar qa x F):=
 Eq.mpr bl (acY x F a b)
theorem acX:aC 131 qa:=
 adg (N:=243) (l1:=1) (l0:=0) bl (r:=vZ (g_ Tryz.f131)) (c:=WF (g_ Tryz.f131)) Tryz.func131 bl bl (fun _=>Nat.le_of_ble_eq_true rfl) bl bl bl bl bl bl bl bl bl bl Un [] Ul (fun _ h=>nomatch h) acW
end
section
open Go
structure fx where
 i:Int
 sd:Bool
 sg:Bool
 d:bq
structure el where
 i:Int
 d:bq
 sg:Int
 e:Int
 us:Bool
def dZ:bq:=⟨List.replicate 800 0,0,0,false,false⟩
def bq.lB(d:bq)(p:Int):bq:=⟨d.ds,d.nd,p,d.ng,d.tr⟩
def bq.Fw(d:bq)(t:Bool):bq:=⟨d.ds,d.nd,d.dp,d.ng,t⟩
def bq.push(d:bq)(c:Int):bq:=⟨d.ds.set d.nd.toNat c,d.nd+1,d.dp,d.ng,d.tr⟩
def nU(s:ByteArray)(x:fx):Nat×fx:=
 bif aF s x.i==95 then (0,⟨x.i+1,x.sd,x.sg,x.d⟩)
 else bif aF s x.i==46 then (bif x.sd then (2,x) else (0,⟨x.i+1,true,x.sg,x.d.lB x.d.nd⟩))
 else bif eG (aF s x.i) then
  (bif (bif aF s x.i==48 then x.d.nd==0 else false) then (0,⟨x.i+1,x.sd,true,x.d.lB (x.d.dp-1)⟩)
  else bif decide (x.d.nd<800) then (0,⟨x.i+1,x.sd,true,x.d.push (aF s x.i)⟩)
  else bif aF s x.i !=48 then (0,⟨x.i+1,x.sd,true,x.d.Fw true⟩) else (0,⟨x.i+1,x.sd,true,x.d⟩))
 else (1,x)
def tD(s:ByteArray):Nat->fx->Option fx
 |0,x=>some x
 |f+1,x=>bif (nU s x).1==0 then tD s f (nU s x).2 else bif (nU s x).1==1 then some x else none
def tC(s:ByteArray)(i:Int)(d:bq):Option bq:=bif i !=(s.size:Int) then none else some d
def Cn(s:ByteArray)(f:Nat)(i e:Int)(us:Bool)(d:bq)(sg:Int):Option bq:=tC s (jU s f i e us).1 (d.lB (d.dp+(jU s f i e us).2.1*sg))
def va(s:ByteArray)(i:Int)(d:bq)(sg:Int):Option bq:=
 bif (bif (bif decide (i>=s.size) then true else decide (aF s i<48)) then true else decide (aF s i>57)) then none
 else Cn s ((s.size:Int)-i).toNat i 0 false d sg
def Cm(s:ByteArray)(i:Int)(d:bq):Option bq:=
 bif decide (i>=s.size) then none
 else bif aF s i==43 then va s (i+1) d 1
 else bif aF s i==45 then va s (i+1) d (-1) else va s i d 1
def w_(s:ByteArray)(i:Int)(d:bq):Option bq:=
 bif (bif decide (i<s.size) then eA (aF s i)==101 else false) then Cm s (i+1) d else tC s i d
def qA(s:ByteArray)(x:fx):Option bq:=
 bif !x.sg then none else bif !x.sd then w_ s x.i (x.d.lB x.d.nd) else w_ s x.i x.d
def WI(s:ByteArray):Option bq:=(tD s ((s.size:Int)-c3 s).toNat ⟨c3 s,false,false,⟨dZ.ds,0,0,bX s,false⟩⟩).bind (qA s)
def eD(s:ByteArray):Option bq:=bif decide (0>=(s.size:Int)) then none else WI s
structure bq.ip(d:bq):Prop where
 len:d.ds.length=800
 lo:0<=d.nd
 hi:d.nd<=800
 gP:∀i:Nat,(i:Int)<d.nd->48<=d.at_ i/\d.at_ i<=57
 fst:1<=d.nd->d.at_ 0≠48
theorem bq.ip.or{d:bq}(h:d.ip):d.nd=0\/d.norm:=by
 rcases Int.lt_or_le 0 d.nd with q|q
 ·exact .inr ⟨h.len,ae,h.hi,h.gP,h.fst ae⟩
 ·exact .inl (by have:=h.lo;omega)
theorem bq.ip.lB{d:bq}(h:d.ip)(p:Int):(d.lB p).ip:=⟨h.len,h.lo,h.hi,h.gP,h.fst⟩
theorem bq.ip.Fw{d:bq}(h:d.ip)(t:Bool):(d.Fw t).ip:=⟨h.len,h.lo,h.hi,h.gP,h.fst⟩
theorem bq.ip.push{d:bq}(h:d.ip){c:Int}(hn:d.nd<800)(f:48<=c)(g:c<=57)(j:d.nd=0->c≠48):(d.push c).ip:=by
 have b:=h.lo;have hl:=h.len;have a:∀i,(d.push c).at_ i=if i=d.nd.toNat then c else d.at_ i:=fun i=>by
  show(d.ds.set d.nd.toNat c).getD i 0=_;rw[fg,List.getElem?_set];by_cases e:d.nd.toNat=i
  ·grind
  ·rw[if_neg e,if_neg (fun h=>e h.symm),<-fg];rfl
 refine⟨?_,?_,?_,fun i hi=>?_,fun _=>?_⟩
 ·show(d.ds.set d.nd.toNat c).length=800;simp[*]
 ·show 0<=d.nd+1;omega
 ·show d.nd+1<=800;omega
 ·have hi:(i:Int)<d.nd+1:=hi;rw[a];by_cases e:i=d.nd.toNat
  ·omega
  ·rw[if_neg e];exact h.gP i ae
 ·rw[a];by_cases e:0=d.nd.toNat
  ·omega
  ·rw[if_neg e];exact h.fst ae
theorem TL(n t:Bool):(⟨dZ.ds,0,0,n,t⟩:bq).ip:=⟨by unfold dZ;dsimp only;rw[List.length_replicate],cD _,bg,fun i hi=>by dsimp only at hi;omega,fun h=>by dsimp only at h;omega⟩
structure em where
 b:Nat
 s:ByteArray
 d:bq
def jr(x:em):Option Addr:=some ⟨x.b,0,none⟩
def vc:aQ where
 X:=em
 Y:=bq
 args x:=[ag (jr x),ai x.s]
 pre x:=[af x.b (a7 x.d) 158]
 cond x:=x.s.size<=1000000000/\x.d=dZ
 bZ x y:=y.ds.length=800/\∀v,eD x.s=some v->y=v/\v.ip/\ -3000000000<=v.dp/\v.dp<=3000000000
 val x _:=ax (aj (eD x.s).isSome)
 post x y:=[af x.b (a7 y) 158]
 eM _ _ _ _ h:=h
def xa(s:ByteArray)(x:fx):Prop:=(0<=x.i/\x.i<=s.size)/\x.d.ip/\x.d.nd<=x.i/\ -x.i<=x.d.dp/\x.d.dp<=x.i
def WJ:(T:Type)×(fx->T):=⟨fx,fun d=>d⟩
def WK:(T:Type)×(el->T):=⟨el,fun d=>d⟩
def RU(x:em)(d:fx):List (Nat×Value):=[(0,.pointer (some ⟨x.b,0,none⟩)),(1,.string x.s),(4,.bool false),(5,.int .i64 d.i),(6,.bool d.sd),(7,.bool d.sg)]
def RV(x:em)(d:el):List (Nat×Value):=[(0,.pointer (some ⟨x.b,0,none⟩)),(1,.string x.s),(4,.bool false),(5,.int .i64 d.i),(8,.int .i64 d.sg),(9,.int .i64 d.e)]
def pJ(s:ByteArray)(x:el):Prop:=(0<=x.i/\x.i<=s.size)/\x.d.ip/\ -1000000000<=x.d.dp/\x.d.dp<=1000000000
def rP(x:em)(d:fx):=af x.b (a7 d.d) 158
def wG(x:em)(d:el):=af x.b (a7 d.d) 158
def aju(x:em)(F:ah):Nat->Option Inv:=fun
 |1=>some {X:=fx,P:=fun d=>xa x.s d/\eD x.s=(tD x.s ((x.s.size:Int)-d.i).toNat d).bind (qA x.s),mu:=fun d=>((x.s.size:Int)-d.i).toNat,lv:=fun d=>RU x d,st:=fun d=>[rP x d,F]}
 |5=>some {X:=el,P:=fun d=>pJ x.s d/\(d.sg=1\/d.sg= -1)/\0<=d.e/\d.e<=100100/\eD x.s=Cn x.s ((x.s.size:Int)-d.i).toNat d.i d.e d.us d.d d.sg,mu:=fun d=>((x.s.size:Int)-d.i).toNat,lv:=fun d=>RV x d,st:=fun d=>[wG x d,F]}
 |_=>none
def ajt(x:em)(F:ah):Nat->Option Inv:=fun
 |11=>some {X:=fx,P:=fun d=>0<x.s.size/\d=⟨c3 x.s,false,false,⟨dZ.ds,0,0,bX x.s,false⟩⟩,mu:=fun _=>0,lv:=fun d=>[(0,ag (jr x)),(1,ai x.s),(4,c6),(5,ad d.i)],st:=fun d=>[rP x d,F]}
 |24=>some {X:=fx,gh:=some WJ,P:=fun d=>xa x.s d/\d.i<x.s.size/\d.sg=true/\(bif aF x.s d.i==48 then d.d.nd==0 else false)=false,mu:=fun _=>0,lv:=fun d=>RU x d,st:=fun d=>[rP x d,F]}
 |29=>some {X:=fx,P:=fun d=>xa x.s d/\eD x.s=qA x.s d,mu:=fun _=>0,lv:=fun d=>RU x d,st:=fun d=>[rP x d,F]}
 |32=>some {X:=el,P:=fun d=>pJ x.s d/\eD x.s=w_ x.s d.i d.d,mu:=fun _=>0,lv:=fun d=>[(0,ag (jr x)),(1,ai x.s),(4,c6),(5,ad d.i)],st:=fun d=>[wG x d,F]}
 |42=>some {X:=el,P:=fun d=>pJ x.s d/\(d.sg=1\/d.sg= -1)/\eD x.s=va x.s d.i d.d d.sg,mu:=fun _=>0,lv:=fun d=>[(0,ag (jr x)),(1,ai x.s),(4,c6),(5,ad d.i),(8,ad d.sg)],st:=fun d=>[wG x d,F]}
 |46=>some {X:=el,gh:=some WK,P:=fun d=>pJ x.s d/\d.i<x.s.size/\(aF x.s d.i==95||eG (aF x.s d.i))=true,mu:=fun _=>0,lv:=fun d=>RV x d,st:=fun d=>[wG x d,F]}
 |49=>some {X:=el,P:=fun d=>pJ x.s d/\(d.sg=1\/d.sg= -1)/\0<=d.e/\d.e<=100100/\eD x.s=tC x.s d.i (d.d.lB (d.d.dp+d.e*d.sg)),mu:=fun _=>0,lv:=fun d=>RV x d,st:=fun d=>[wG x d,F]}
 |50=>some {X:=el,P:=fun d=>((0<=d.i/\d.i<=x.s.size)/\d.d.ip/\ -3000000000<=d.d.dp/\d.d.dp<=3000000000)/\eD x.s=tC x.s d.i d.d,mu:=fun _=>0,lv:=fun d=>[(0,ag (jr x)),(1,ai x.s),(4,c6),(5,ad d.i)],st:=fun d=>[wG x d,F]}
 |_=>none
def I9(x:em)(F:ah):=[(0,af x.b (((a7 x.d).set 802 c6).set 803 c6) 158),(1,F)]
def QT(e0:em)(z:fx):=0<e0.s.size/\z=⟨c3 e0.s,false,false,⟨dZ.ds,(0:Int),(0:Int),bX e0.s,false⟩⟩
def nO(e0:em)(z:fx)(e1:ah):=[(0,af e0.b (a7 z.d) 158),(1,e1)]
def F3(e0:em)(e1:ah)(v0:Value)(a:St):=∃(z:fx),QT e0 z/\(ag (jr e0)=ag (jr e0)/\ai e0.s=ai e0.s/\aj false=aj false/\v0=ad z.i/\True)/\aE a (nO e0 z e1)
def I1(e0:em)(z:fx):=xa e0.s z/\eD e0.s=(tD e0.s (e0.s.size-z.i).toNat z).bind (qA e0.s)
def wM(i:fx)(x:em):=0<=i.i/\i.i<x.s.size
def y_(i:fx):=(-9223372036854775808:Int)<=i.i+1/\i.i+1<=(9223372036854775807:Int)
def Iw(e0:em)(v0:Value)(z:fx)(v1 v2:Value):=ag (jr e0)=ag (jr e0)/\ai e0.s=ai e0.s/\aj false=aj false/\v0=ad z.i/\v1=aj z.sd/\v2=aj z.sg/\True
def xP(e0:em)(e1:ah)(v0 v1 v2:Value)(a:St)(mm:Nat):=∃(z:fx),I1 e0 z/\Iw e0 v0 z v1 v2/\aE a (nO e0 z e1)/\(e0.s.size-z.i).toNat<mm
def zy(i:fx):=ad (i.i+1)
def JR(x:em)(i:fx):=aw x.b 801/\801<(a7 i.d).length
def Qw(e0:em)(z e1:fx):=(xa e0.s z/\z.i<e0.s.size/\z.sg=true/\(bif aF e0.s z.i==48 then z.d.nd==0 else false)=false)/\WJ.snd z=e1
def Lw(e0:em)(e1:fx)(a:ah)(v0 v1 v2:Value)(b:St):=∃(z:fx),Qw e0 z e1/\Iw e0 v0 z v1 v2/\aE b (nO e0 z a)
def SO(e0:em)(e1:ah)(v0 v1 v2:Value)(a:St):=∃(z:fx),(xa e0.s z/\eD e0.s=qA e0.s z)/\Iw e0 v0 z v1 v2/\aE a (nO e0 z e1)
def Jl(x:em)(F:ah)(i:fx):=SO x F (ad i.i) (aj i.sd) (aj i.sg) (nO x i F)
def QF(e0:em)(v0:Value)(z:el):=ag (jr e0)=ag (jr e0)/\ai e0.s=ai e0.s/\aj false=aj false/\v0=ad z.i/\True
def jR(e0:em)(z:el)(e1:ah):=[(0,af e0.b (a7 z.d) 158),(1,e1)]
def Lx(e0:em)(e1:ah)(v0:Value)(a:St):=∃(z:el),(pJ e0.s z/\eD e0.s=w_ e0.s z.i z.d)/\QF e0 v0 z/\aE a (jR e0 z e1)
def uR(f:el)(x:em):=0<=f.i/\f.i<x.s.size
def Io(l:el):=(-9223372036854775808:Int)<=l.i+1/\l.i+1<=(9223372036854775807:Int)
def B5(x:em)(F:ah)(l:el):=ar vc x F cV (jR x l F)
def Qe(l:el):=(-9223372036854775808:Int)<=l.i+1+(1:Int)/\l.i+1+(1:Int)<=(9223372036854775807:Int)
def Ry(e0:em)(z:el):=pJ e0.s z/\(z.sg=1\/z.sg=(-1:Int))/\eD e0.s=va e0.s z.i z.d z.sg
def F4(e0:em)(e1:ah)(v0 v1:Value)(a:St):=∃(z:el),Ry e0 z/\(ag (jr e0)=ag (jr e0)/\ai e0.s=ai e0.s/\aj false=aj false/\v0=ad z.i/\v1=ad z.sg/\True)/\aE a (jR e0 z e1)
def Ik(e0:em)(z:el):=pJ e0.s z/\(z.sg=1\/z.sg=(-1:Int))/\0<=z.e/\z.e<=100100/\eD e0.s=Cn e0.s (e0.s.size-z.i).toNat z.i z.e z.us z.d z.sg
def Q_(e0:em)(z e1:el):=(pJ e0.s z/\z.i<e0.s.size/\(aF e0.s z.i==95||eG (aF e0.s z.i))=true)/\WK.snd z=e1
def Ip(e0:em)(v0:Value)(z:el)(v1 v2:Value):=ag (jr e0)=ag (jr e0)/\ai e0.s=ai e0.s/\aj false=aj false/\v0=ad z.i/\v1=ad z.sg/\v2=ad z.e/\True
def Ly(e0:em)(e1:el)(a:ah)(v0 v1 v2:Value)(b:St):=∃(z:el),Q_ e0 z e1/\Ip e0 v0 z v1 v2/\aE b (jR e0 z a)
def P4(e0:em)(z:el):=pJ e0.s z/\(z.sg=1\/z.sg=(-1:Int))/\0<=z.e/\z.e<=100100/\eD e0.s=tC e0.s z.i (z.d.lB (z.d.dp+z.e*z.sg))
def Lz(e0:em)(e1:ah)(v0 v1 v2:Value)(a:St):=∃(z:el),P4 e0 z/\Ip e0 v0 z v1 v2/\aE a (jR e0 z e1)
def O7(f:el)(x:em)(d:el)(F:ah):=uR f x/\Br (aF x.s f.i==95) (Ly x d F (ad f.i) (ad f.sg) (ad f.e) (jR x f F)) (Lz x F (ad f.i) (ad f.sg) (ad f.e) (jR x f F))
def LA(e0:em)(e1:ah)(v0 v1 v2:Value)(a:St)(mm:Nat):=∃(z:el),Ik e0 z/\Ip e0 v0 z v1 v2/\aE a (jR e0 z e1)/\(e0.s.size-z.i).toNat<mm
def QX(c:el)(x:em)(F:ah)(f:el):=Io c/\LA x F (ad (c.i+1)) (ad c.sg) (ad c.e) (jR x c F) ((x.s.size-f.i).toNat)
def P2(z:el)(e0:em):=((0<=z.i/\z.i<=e0.s.size)/\z.d.ip/\(-3000000000:Int)<=z.d.dp/\z.d.dp<=3000000000)/\eD e0.s=tC e0.s z.i z.d
def F5(e0:em)(e1:ah)(v0:Value)(a:St):=∃(z:el),P2 z e0/\QF e0 v0 z/\aE a (jR e0 z e1)
theorem ajx(x:em)(F:ah)(hc:vc.cond x)(hr:vc.aO x F):(aw x.b 802/\802<(a7 x.d).length)/\(aw x.b 803/\803<((a7 x.d).set 802 c6).length)/\aS (0>=(x.s.size:Int)) (ar vc x F cV (I9 x F)) ((((0:Int)<=(0:Int)/\0<(x.s.size:Int))/\Br (aF x.s (0:Int)==(43:Int)) (BF/\F3 x F B0 (I9 x F)) (Br (aF x.s (0:Int)==(45:Int)) (BF/\(aw x.b 802/\802<(((a7 x.d).set 802 c6).set 803 c6).length)/\F3 x F B0 [(0,af x.b ((((a7 x.d).set 802 c6).set 803 c6).set 802 (aj true)) 158),(1,F)]) (F3 x F (ad 0) (I9 x F))))/\aT fun(p:fx)_=>QT x p->((∃(a:fx),I1 x a/\(ag (jr x)=ag (jr x)/\ai x.s=ai x.s/\aj false=aj false/\ad p.i=ad a.i/\aj false=aj a.sd/\aj false=aj a.sg/\True)/\aE (nO x p F) (nO x a F))/\aT fun(i:fx)_=>I1 x i->aS (i.i<x.s.size) (wM i x/\Br (aF x.s i.i==95) (y_ i/\xP x F (zy i) (aj i.sd) (aj i.sg) (nO x i F) ((x.s.size-i.i).toNat)) (wM i x/\Br (aF x.s i.i==46) (Br i.sd (ar vc x F cV (nO x i F)) (T1 (rP x i) ⟨x.b,800,none⟩ (fun b=>JR x i/\y_ i/\xP x F (zy i) (aj true) (aj i.sg) [(0,af x.b ((a7 i.d).set 801 (ad b)) 158),(1,F)] ((x.s.size-i.i).toNat)))) (wM i x/\aS (48<=aF x.s i.i) (wM i x/\aS (aF x.s i.i<=57) (∃(g:fx),(wM i x/\Br (aF x.s i.i==48) (T1 (rP x i) ⟨x.b,800,none⟩ (fun c=>Br (c==0) (T1 (rP x i) ⟨x.b,801,none⟩ (fun b=>nR b/\JR x i/\y_ i/\xP x F (zy i) (aj i.sd) (aj true) [(0,af x.b ((a7 i.d).set 801 (ad (b-1))) 158),(1,F)] ((x.s.size-i.i).toNat))) (Lw x g F (ad i.i) (aj i.sd) (aj true) (nO x i F)))) (Lw x g F (ad i.i) (aj i.sd) (aj true) (nO x i F)))/\aT fun(f:fx)_=>Qw x f g->T1 (rP x f) ⟨x.b,800,none⟩ (fun d=>aS (d<800) (true=true/\T1 (rP x f) ⟨x.b,800,none⟩ (fun c=>wM f x/\(0<=c/\c<(↑(800:Nat):Int))/\(d9 ⟨x.b,0+c.toNat*1,none⟩ x.b/\0+c.toNat*1<(a7 f.d).length)/\T1 (af x.b ((a7 f.d).set (0+c.toNat*1) (a8 (aF x.s f.i))) 158) ⟨x.b,800,none⟩ (fun b=>dx b/\(aw x.b 800/\800<((a7 f.d).set (0+c.toNat*1) (a8 (aF x.s f.i))).length)/\y_ f/\xP x F (zy f) (aj f.sd) (aj f.sg) [(0,af x.b (((a7 f.d).set (0+c.toNat*1) (a8 (aF x.s f.i))).set 800 (ad (b+1))) 158),(1,F)] ((x.s.size-i.i).toNat)))) (wM f x/\Br (aF x.s f.i !=48) ((aw x.b 803/\803<(a7 f.d).length)/\y_ f/\xP x F (zy f) (aj f.sd) (aj f.sg) [(0,af x.b ((a7 f.d).set 803 (aj true)) 158),(1,F)] ((x.s.size-i.i).toNat)) (y_ f/\xP x F (zy f) (aj f.sd) (aj f.sg) (nO x f F) ((x.s.size-i.i).toNat))))) (Jl x F i)) (Jl x F i)))) (Jl x F i))/\aT fun(n:fx)_=>(xa x.s n/\eD x.s=qA x.s n)->Br (!n.sg) (ar vc x F cV (nO x n F)) (Br (!n.sd) (T1 (rP x n) ⟨x.b,800,none⟩ (fun b=>JR x n/\Lx x F (ad n.i) [(0,af x.b ((a7 n.d).set 801 (ad b)) 158),(1,F)])) (Lx x F (ad n.i) (nO x n F))/\aT fun(l:el)_=>(pJ x.s l/\eD x.s=w_ x.s l.i l.d)->aS (l.i<x.s.size) (uR l x/\nn [a8 (aF x.s l.i)] (fun j i=>Br (eA j.c==101) (Io l/\aS (l.i+1>=(x.s.size:Int)) (B5 x F l) (((0<=l.i+1/\l.i+1<(x.s.size:Int))/\Br (aF x.s (l.i+1)==43) (Qe l/\F4 x F (ad (l.i+1+(1:Int))) (ad 1) (jR x l F)) (Br (aF x.s (l.i+1)==45) (Qe l/\F4 x F (ad (l.i+1+(1:Int))) (ad (-1)) (jR x l F)) (F4 x F (ad (l.i+1)) (ad 1) (jR x l F))))/\aT fun(h:el)_=>Ry x h->aS (h.i>=x.s.size) (B5 x F h) (uR h x/\aS (aF x.s h.i<48) (B5 x F h) (uR h x/\aS (aF x.s h.i>57) (B5 x F h) (((∃(a:el),Ik x a/\(ag (jr x)=ag (jr x)/\ai x.s=ai x.s/\aj false=aj false/\ad h.i=ad a.i/\ad h.sg=ad a.sg/\ad 0=ad a.e/\True)/\aE (jR x h F) (jR x a F))/\aT fun(f:el)_=>Ik x f->∃(d:el),aS (f.i<x.s.size) (uR f x/\aS (48<=aF x.s f.i) (uR f x/\aS (aF x.s f.i<=57) (Ly x d F (ad f.i) (ad f.sg) (ad f.e) (jR x f F)) (O7 f x d F)) (O7 f x d F)) (Lz x F (ad f.i) (ad f.sg) (ad f.e) (jR x f F))/\aT fun(c:el)_=>Q_ x c d->uR c x/\Br (aF x.s c.i==95) (QX c x F f) (aS (c.e<10000) (((-9223372036854775808:Int)<=c.e*10/\c.e*10<=(9223372036854775807:Int))/\uR c x/\bM (aF x.s c.i)/\bM (c.e*10+aF x.s c.i)/\((-9223372036854775808:Int)<=c.e*10+aF x.s c.i-48/\c.e*10+aF x.s c.i-48<=(9223372036854775807:Int))/\Io c/\LA x F (ad (c.i+1)) (ad c.sg) (ad (c.e*10+aF x.s c.i-48)) (jR x c F) ((x.s.size-f.i).toNat)) (QX c x F f)))/\aT fun(d:el)_=>P4 x d->T1 (wG x d) ⟨x.b,801,none⟩ (fun b=>bM (d.e*d.sg)/\bM (b+d.e*d.sg)/\(aw x.b 801/\801<(a7 d.d).length)/\F5 x F (ad d.i) [(0,af x.b ((a7 d.d).set 801 (ad (b+d.e*d.sg))) 158),(1,F)])))))) (F5 x F (ad l.i) (jR x l F)))) (F5 x F (ad l.i) (jR x l F))/\aT fun(b:el)_=>P2 b x->Br (b.i !=x.s.size) (B5 x F b) (ar vc x F fm (jR x b F)))):=by
 delta c6 cV I9 BF QT jr nO F3 B0 I1 wM y_ Iw xP zy T1 rP JR nR Qw Lw dx SO Jl QF jR Lx uR nn Io B5 Qe Ry F4 Ik Q_ Ip Ly P4 Lz O7 LA QX wG P2 F5 fm aw bM ad a8 ai aj ag af aS ax aT;obtain⟨b,s,d⟩:=x;obtain⟨hs,hd⟩:=hc;dsimp only at hs hd⊢;subst hd;have L:dZ.ds.length=800:=(TL false false).len;have t:∀v:bq,aE [(0,.cells b (a7 v) 158),(1,F)] [(0,.cells b (a7 v) 158),(1,F)]:=fun v=>az [0,1];have no:∀D:bq,D.ds.length=800->eD s=none->ar vc ⟨b,s,dZ⟩ F (returned (bool false)) [(0,.cells b (a7 D) 158),(1,F)]:=fun D hD e=>
  ⟨D,⟨hD,fun v(h:eD s=some v)=>by rw[e]at h;cases h⟩,by show _=returned (.bool (eD s).isSome);simp[*],t D⟩
 have hB:∀i,0<=aF s i/\aF s i<=255:=fun i=>by
  rw[f_];have:=g0 s i.toNat;omega
 have hI:0<=c3 s/\c3 s<=1:=by
  unfold c3;grind
 have hz1:((a7 dZ).set 802 (.bool false)).set 803 (.bool false)=a7 ⟨dZ.ds,0,0,false,false⟩:=by
  rfl
 refine⟨⟨aq,by rw[jg L];decide⟩,⟨aq,by rw[List.length_set,jg L];decide⟩,?_⟩;rw[hz1];refine bo (fun h0=>no _ L (by unfold eD;grind)) (fun h0=>?_);have hp:0<s.size:=ae;have hV:eD s=WI s:=by unfold eD;grind
 have T:(⟨dZ.ds,0,0,false,false⟩:bq).ds.length=800:=L;refine⟨⟨⟨cD _,ae⟩,aG (fun h=>⟨aK,⟨c3 s,false,false,⟨dZ.ds,0,0,bX s,false⟩⟩,⟨hp,rfl⟩,?_,?_⟩) (fun h=>aG (fun A=>⟨aK,⟨aq,by rw[jg T];decide⟩,⟨c3 s,false,false,⟨dZ.ds,0,0,bX s,false⟩⟩,⟨hp,rfl⟩,?_,?_⟩) (fun A=>⟨⟨c3 s,false,false,⟨dZ.ds,0,0,bX s,false⟩⟩,⟨hp,rfl⟩,?_,?_⟩))⟩,?_⟩
 ·have b:c3 s=1:=by unfold c3;simp[*]
  simp[*]
 ·have a:bX s=false:=by unfold bX;simp[*]
  simp[*]
 ·have b:c3 s=1:=by unfold c3;simp[*]
  simp[*]
 ·have a:bX s=true:=by unfold bX;simp[*]
  rw[a,ajv T];simp[*]
 ·have b:c3 s=0:=by unfold c3;simp[*]
  simp[*]
 ·have a:bX s=false:=by unfold bX;simp[*]
  simp[*]
 rintro _ Q ⟨-,rfl⟩;dsimp only;have hv0:eD s=(tD s ((s.size:Int)-c3 s).toNat ⟨c3 s,false,false,⟨dZ.ds,0,0,bX s,false⟩⟩).bind (qA s):=hV;refine⟨⟨⟨⟨c3 s,false,false,⟨dZ.ds,0,0,bX s,false⟩⟩,⟨⟨⟨hI.1,by grind⟩,TL _ _,hI.1,by simp[*],hI.1⟩,hv0⟩,(by simp[*]),t _⟩,?_⟩,?_⟩
 ·rintro⟨i,sd,sg,D⟩ Q ⟨⟨⟨o,w⟩,m,M,y,z⟩,r⟩;dsimp only at o w m M y z r⊢;have hl:=m.len;refine bo (fun C=>?_) (fun UG=>⟨⟨i,sd,sg,D⟩,⟨⟨⟨o,w⟩,m,M,y,z⟩,by rw[r,show((s.size:Int)-i).toNat=0 by omega,tD];rfl⟩,(by simp[*]),t _⟩);obtain⟨k,hk⟩:∃k,((s.size:Int)-i).toNat=k+1:=⟨((s.size:Int)-i).toNat-1,ae⟩;rw[hk]at r;have B: -9223372036854775808<=i+1/\i+1<=9223372036854775807:=aK;have K:∀S:fx,nU s ⟨i,sd,sg,D⟩=(0,S)->S.i=i+1->eD s=(tD s ((s.size:Int)-S.i).toNat S).bind (qA s):=fun S e1 X=>by
   rw[r,tD,e1,show((s.size:Int)-S.i).toNat=k by omega];rfl
  have stop:nU s ⟨i,sd,sg,D⟩=(1,⟨i,sd,sg,D⟩)->eD s=qA s ⟨i,sd,sg,D⟩:=fun e1=>by rw[r,tD,e1];rfl
  refine⟨⟨o,C⟩,aG (fun J=>⟨B,⟨i+1,sd,sg,D⟩,⟨⟨⟨by grind,by grind⟩,m,by grind,by grind,by grind⟩,K _ (by unfold nU;simp[*]) rfl⟩,(by simp[*]),t _,by grind⟩) (fun J=>⟨⟨o,C⟩,aG (fun A=>aG (fun E=>no D hl (by rw[r,tD,show nU s ⟨i,sd,sg,D⟩=(2,⟨i,sd,sg,D⟩) by unfold nU;simp[*]];rfl)) (fun E=>⟨D.nd,jM hl,⟨aq,by rw[jg hl];decide⟩,B,⟨i+1,true,sg,D.lB D.nd⟩,⟨⟨⟨by grind,by grind⟩,m.lB _,?_,?_,?_⟩,K _ (by unfold nU;simp[*]) rfl⟩,(by simp[*]),?_,by grind⟩)) (fun A=>⟨⟨o,C⟩,bo (fun q=>⟨⟨o,C⟩,bo (fun q2=>?_) (fun q2=>⟨⟨i,sd,sg,D⟩,⟨⟨⟨o,w⟩,m,M,y,z⟩,stop ?_⟩,(by simp[*]),t _⟩)⟩) (fun q=>⟨⟨i,sd,sg,D⟩,⟨⟨⟨o,w⟩,m,M,y,z⟩,stop ?_⟩,(by simp[*]),t _⟩)⟩)⟩)⟩
  ·show D.nd<=i+1;omega
  ·show-(i+1)<=D.nd;have:=m.lo;omega
  ·show D.nd<=i+1;omega
  ·rw[zH hl];exact t _
  ·have hD:eG (aF s i)=true:=by unfold eG;simp[*]
   have W:xa s ⟨i,sd,true,D⟩:=⟨⟨o,w⟩,m,M,y,z⟩;refine⟨⟨i,sd,true,D⟩,⟨⟨o,C⟩,aG (fun E=>⟨D.nd,jM hl,aG (fun Z=>⟨D.dp,kX hl,aK,⟨aq,by rw[jg hl];decide⟩,B,⟨i+1,sd,true,D.lB (D.dp-1)⟩,⟨⟨⟨by grind,by grind⟩,m.lB _,?_,?_,?_⟩,K _ (by unfold nU;simp[*]) rfl⟩,(by simp[*]),?_,by grind⟩) (fun Z=>⟨⟨i,sd,true,D⟩,⟨⟨W,C,rfl,by simp[*]⟩,rfl⟩,(by simp[*]),t _⟩)⟩) (fun E=>⟨⟨i,sd,true,D⟩,⟨⟨W,C,rfl,by rw[E];rfl⟩,rfl⟩,(by simp[*]),t _⟩)⟩,?_⟩
   ·show D.nd<=i+1;omega
   ·show-(i+1)<=D.dp-1;omega
   ·show D.dp-1<=i+1;omega
   ·rw[zH hl];exact t _
   rintro Y NI ⟨⟨-,-,-,hz⟩,O⟩;have O:Y=⟨i,sd,true,D⟩:=O;subst O;dsimp only at hz⊢;have U:D.nd=0->aF s i≠48:=fun J A=>by
    grind
   refine⟨D.nd,jM hl,bo (fun q5=>⟨rfl,D.nd,jM hl,⟨o,C⟩,⟨m.lo,ae⟩,⟨aq,by rw[jg hl];omega⟩,?_⟩) (fun q5=>⟨⟨o,C⟩,aG (fun q6=>⟨⟨aq,by rw[jg hl];decide⟩,B,⟨i+1,sd,true,D.Fw true⟩,⟨⟨⟨by grind,by grind⟩,m.Fw _,?_,?_,?_⟩,K _ (by unfold nU;simp[*]) rfl⟩,(by simp[*]),?_,by grind⟩) (fun q6=>⟨B,⟨i+1,sd,true,D⟩,⟨⟨⟨by grind,by grind⟩,m,by grind,by grind,by grind⟩,K _ (by unfold nU;simp[*]) rfl⟩,(by simp[*]),t _,by grind⟩)⟩)⟩
   ·have V:(a7 D).set (0+D.nd.toNat*1) (.int .u8 (aF s i))=a7 ⟨D.ds.set D.nd.toNat (aF s i),D.nd,D.dp,D.ng,D.tr⟩:=by
     rw[show 0+D.nd.toNat*1=D.nd.toNat by omega,R3 hl ae]
    rw[V];have P:(⟨D.ds.set D.nd.toNat (aF s i),D.nd,D.dp,D.ng,D.tr⟩:bq).ds.length=800:=by
     simp[*]
    refine⟨D.nd,jM P,⟨by have:=m.lo;omega,ae⟩,⟨aq,by rw[jg P];decide⟩,B,⟨i+1,sd,true,D.push (aF s i)⟩,⟨⟨⟨by grind,by grind⟩,m.push q5 q q2 U,?_,?_,?_⟩,K _ (by unfold nU;simp[*]) rfl⟩,(by simp[*]),?_,by grind⟩
    ·show D.nd+1<=i+1;omega
    ·show-(i+1)<=D.dp;omega
    ·show D.dp<=i+1;omega
    ·rw[Fg P];exact t _
   ·show D.nd<=i+1;omega
   ·show-(i+1)<=D.dp;omega
   ·show D.dp<=i+1;omega
   ·rw[Kk hl];exact t _
  ·unfold nU;rw[J,A,show eG (aF s i)=false by unfold eG;simp[*]];rfl
  ·unfold nU;rw[J,A,show eG (aF s i)=false by unfold eG;simp[*]];rfl
 rintro⟨i,sd,sg,D⟩ Q ⟨⟨⟨o,w⟩,m,M,y,z⟩,r⟩;dsimp only at o w m M y z r⊢;have hl:=m.len;refine aG (fun h=>no D hl (by rw[r];unfold qA;simp[*])) (fun h=>⟨aG (fun A=>⟨D.nd,jM hl,⟨aq,by rw[jg hl];decide⟩,⟨i,D.lB D.nd,0,0,false⟩,⟨⟨⟨o,w⟩,m.lB _,?_,?_⟩,by rw[r];unfold qA;simp[*]⟩,(by simp[*]),?_⟩) (fun A=>⟨⟨i,D,0,0,false⟩,⟨⟨⟨o,w⟩,m,by grind,by grind⟩,by rw[r];unfold qA;simp[*]⟩,(by simp[*]),t _⟩),?_⟩)
 ·show-1000000000<=D.nd;have:=m.lo;omega
 ·show D.nd<=1000000000;have:=m.hi;omega
 ·rw[zH hl];exact t _
 clear r o w m M y z h hl D i;rintro⟨i,D,_,_,_⟩ Q ⟨⟨⟨o,w⟩,m,y,z⟩,r⟩;dsimp only at o w m y z r⊢;have hl:=m.len;refine⟨bo (fun h=>⟨⟨o,h⟩,qh,rfl,⟨_⟩,rfl,rfl,ao,ao,fun _ _=>aG (fun A=>?_) (fun A=>⟨⟨i,D,0,0,false⟩,⟨⟨⟨o,w⟩,m,by grind,by grind⟩,?_⟩,(by simp[*]),t _⟩)⟩) (fun h=>⟨⟨i,D,0,0,false⟩,⟨⟨⟨o,w⟩,m,by grind,by grind⟩,?_⟩,(by simp[*]),t _⟩),?_⟩
 ·have I:eD s=Cm s (i+1) D:=by
   rw[r];unfold w_;rw[bv h,show(eA (aF s i)==101)=true from A];rfl
  have oG:∀j sg,i+1<=j->j<=(s.size:Int)->pJ s ⟨j,D,sg,0,false⟩:=fun j sg a c=>⟨⟨by grind,c⟩,m,y,z⟩;refine⟨aK,bo (fun E=>no D hl (by rw[I];unfold Cm;simp[*])) (fun E=>⟨⟨aK,aG (fun Z=>⟨aK,⟨i+1+1,D,1,0,false⟩,⟨oG _ _ ae ae,.inl rfl,?_⟩,(by simp[*]),t _⟩) (fun Z=>aG (fun h5=>⟨aK,⟨i+1+1,D,-1,0,false⟩,⟨oG _ _ ae ae,.inr rfl,?_⟩,(by simp[*]),t _⟩) (fun h5=>⟨⟨i+1,D,1,0,false⟩,⟨oG _ _ ae ae,.inl rfl,?_⟩,(by simp[*]),t _⟩))⟩,?_⟩)⟩
  ·rw[I];unfold Cm;simp[*]
  ·rw[I];unfold Cm;simp[*]
  ·rw[I];unfold Cm;simp[*]
  clear oG E I A h r o w m y z hl D i;rintro⟨i,D,sg,_,_⟩ Q ⟨⟨⟨o,w⟩,m,y,z⟩,u,r⟩;dsimp only at o w m y z u r⊢;have hl:=m.len;refine bo (fun h=>no D hl (by rw[r];unfold va;simp[*])) (fun h=>⟨⟨o,ae⟩,bo (fun A=>no D hl (by rw[r];unfold va;simp[*])) (fun A=>⟨⟨o,ae⟩,bo (fun E=>no D hl (by rw[r];unfold va;simp[*])) (fun E=>⟨⟨⟨⟨i,D,sg,0,false⟩,⟨⟨⟨o,w⟩,m,y,z⟩,u,cD _,by simp[*],by rw[r];unfold va;simp[*]⟩,(by simp[*]),t _⟩,?_⟩,?_⟩)⟩)⟩)
  ·clear h A E r o w m y z u hl D i;rintro⟨i,D,sg,e,us⟩ Q ⟨⟨⟨o,w⟩,m,y,z⟩,u,G,H,r⟩;dsimp only at o w m y z u G H r⊢;have ok:pJ s ⟨i,D,sg,e,us⟩:=⟨⟨o,w⟩,m,y,z⟩;have out:jU s ((s.size:Int)-i).toNat i e us=(i,e,us)->eD s=tC s i (D.lB (D.dp+e*sg)):=fun x=>by
    rw[r];unfold Cn;rw[x]
   have un:∀k,jU s (k+1) i e us=bif aF s i==95 then jU s k (i+1) e true else bif eG (aF s i) then jU s k (i+1) (bif decide (e<10000) then e*10+aF s i-48 else e) us else (i,e,us):=fun k=>rfl
   have N:i<(s.size:Int)->(aF s i==95)=false->eG (aF s i)=false->eD s=tC s i (D.lB (D.dp+e*sg)):=fun h J A=>out (by
    rw[show((s.size:Int)-i).toNat=(((s.size:Int)-i).toNat-1)+1 by omega,un,J,A];rfl)
   have nD:(¬(48<=aF s i/\aF s i<=57))->eG (aF s i)=false:=fun h=>by
    unfold eG;grind
   refine⟨⟨i,D,sg,e,us⟩,bo (fun h=>⟨⟨o,h⟩,bo (fun J=>⟨⟨o,h⟩,bo (fun A=>⟨⟨i,D,sg,e,us⟩,⟨⟨ok,h,?_⟩,rfl⟩,(by simp[*]),t _⟩) (fun A=>⟨⟨o,h⟩,aG (fun E=>⟨⟨i,D,sg,e,us⟩,⟨⟨ok,h,?_⟩,rfl⟩,(by simp[*]),t _⟩) (fun E=>⟨⟨i,D,sg,e,us⟩,⟨ok,u,G,H,N h E (nD (fun c=>A c.2))⟩,(by simp[*]),t _⟩)⟩)⟩) (fun J=>⟨⟨o,h⟩,aG (fun E=>⟨⟨i,D,sg,e,us⟩,⟨⟨ok,h,?_⟩,rfl⟩,(by simp[*]),t _⟩) (fun E=>⟨⟨i,D,sg,e,us⟩,⟨ok,u,G,H,N h E (nD (fun c=>J c.1))⟩,(by simp[*]),t _⟩)⟩)⟩) (fun h=>⟨⟨i,D,sg,e,us⟩,⟨ok,u,G,H,out (by rw[show((s.size:Int)-i).toNat=0 by omega];rfl)⟩,(by simp[*]),t _⟩),?_⟩
   ·show(aF s i==95||eG (aF s i))=true;unfold eG;simp[*]
   ·simp[*]
   ·simp[*]
   rintro Y NI ⟨⟨-,h,hc⟩,O⟩;have O:Y=⟨i,D,sg,e,us⟩:=O;subst O;dsimp only at h hc⊢;obtain⟨k,hk⟩:∃k,((s.size:Int)-i).toNat=k+1:=⟨((s.size:Int)-i).toNat-1,ae⟩;have hkk:((s.size:Int)-(i+1)).toNat=k:=ae;have B: -9223372036854775808<=i+1/\i+1<=9223372036854775807:=aK;have hb:=hB i;have K:∀X R,jU s (k+1) i e us=jU s k (i+1) X R->eD s=Cn s ((s.size:Int)-(i+1)).toNat (i+1) X R D sg:=fun X R x=>by
    rw[r,hk,hkk];unfold Cn;rw[x]
   have hD:(aF s i==95)=false->eG (aF s i)=true:=fun J=>by grind
   refine⟨⟨o,h⟩,aG (fun J=>⟨B,⟨i+1,D,sg,e,true⟩,⟨⟨⟨by grind,by grind⟩,m,y,z⟩,u,G,H,K _ _ (by simp[*])⟩,(by simp[*]),t _,by simp[*]⟩) (fun J=>bo (fun A=>⟨aK,⟨o,h⟩,aK,aK,aK,B,⟨i+1,D,sg,e*10+aF s i-48,us⟩,⟨⟨⟨by grind,by grind⟩,m,y,z⟩,u,?_,?_,K _ _ (by simp[*])⟩,(by simp[*]),t _,by simp[*]⟩) (fun A=>⟨B,⟨i+1,D,sg,e,us⟩,⟨⟨⟨by grind,by grind⟩,m,y,z⟩,u,G,H,K _ _ (by simp[*])⟩,(by simp[*]),t _,by simp[*]⟩))⟩
   all_goals grind
  ·clear h A E r o w m y z u hl D i;rintro⟨i,D,sg,e,us⟩ Q ⟨⟨⟨o,w⟩,m,y,z⟩,u,G,H,r⟩;dsimp only at o w m y z u G H r⊢;have hl:=m.len;have hes: -100100<=e*sg/\e*sg<=100100:=by rcases u with rfl|rfl <;> omega
   refine⟨D.dp,kX hl,aK,aK,⟨aq,by rw[jg hl];decide⟩,⟨i,D.lB (D.dp+e*sg),0,0,false⟩,⟨⟨⟨o,w⟩,m.lB _,?_,?_⟩,r⟩,(by simp[*]),?_⟩
   ·show-3000000000<=D.dp+e*sg;omega
   ·show D.dp+e*sg<=3000000000;omega
   ·rw[zH hl];exact t _
 ·rw[r];unfold w_;rw[bv h,show(eA (aF s i)==101)=false from A];rfl
 ·rw[r];unfold w_;simp[*]
 clear r o w m y z hl D i;rintro⟨i,D,_,_,_⟩ Q ⟨⟨⟨o,w⟩,m,y,z⟩,r⟩;dsimp only at o w m y z r⊢;refine aG (fun h=>no D m.len (by rw[r];unfold tC;simp[*])) (fun h=>?_);have e:eD s=some D:=by rw[r];unfold tC;simp[*]
 refine⟨D,⟨m.len,fun v(hv':eD s=some v)=>?_⟩,by show _=returned (.bool (eD s).isSome);grind,t D⟩;grind
theorem ajw:aC 130 vc:=fo 224 Tryz.func130 (fun _ _=>[(19,4,iH 0),(22,8,iH 0),(23,3,iH 0),(24,3,iH 0),(25,4,iH 0),(26,3,iH 0),(31,4,iH 0),(32,8,aW kY),(49,3,iH 0)]) [(2,3,.w [LH.ex (0:Nat) iE.any]),(3,3,.w [LH.ex (0:Nat) iE.any]),(10,3,.w [LH.ex (0:Nat) iE.any]),(19,7,.w [LH.ex (0:Nat) iE.any]),(23,7,.w [LH.ex (0:Nat) iE.any]),(25,11,.w [LH.ex (0:Nat) iE.any]),(28,3,.w [LH.ex (0:Nat) iE.any]),(31,7,.w [LH.ex (0:Nat) iE.any]),(49,10,.w [LH.ex (0:Nat) iE.any]),(26,7,.w [LH.ex (0:Nat) iE.any])] aju ajt bA [] ajx
end
section
open Go
section
variable{s:ByteArray}{hx:Bool}
theorem alJ{x y:dn}(h:lX s x)(hi:x.i<s.size)(e:mE s hx x=some y):lX s y/\y.i=x.i+1:=by
 obtain⟨d,f,b,c,g,i,j,k,l,a⟩:=h;unfold mE at e;simp only[cond_eq_ite]at e
 repeat' split at e
 all_goals first|cases e|skip
 all_goals
  refine⟨⟨?_,?_,?_,?_,?_,?_,?_,?_,?_,?_⟩,rfl⟩
  all_goals first
   |exact b
   |exact c
   |exact(fW _).1
   |exact(fW _).2
   | (dsimp only;omega)
theorem XL:∀(f:Nat)(x:dn),lX s x->(f:Int)=s.size-x.i->lX s (pR s hx f x)
 |0,x,h,_=>h
 |f+1,x,h,e=>by
  rw[pR];cases hs:mE s hx x with
  |none=>exact h
  |some y=>
   obtain⟨a,b⟩:=alJ h ae hs;exact XL f y a ae
theorem KO:∀(f:Nat)(i e:Int)(us:Bool),0<=i->(f:Int)=s.size-i->0<=e->e<=100100->(0<=(jU s f i e us).1/\(jU s f i e us).1<=s.size)/\0<=(jU s f i e us).2.1/\(jU s f i e us).2.1<=100100
 |0,i,e,us,c,d,a,b=>⟨⟨c,by show i<=_;omega⟩,a,b⟩
 |f+1,i,e,us,c,d,a,b=>by
  rw[jU];cases aF s i==95 with
  |true=>exact KO f (i+1) e true ae ae a b
  |false=>
   rw[aM];cases hd:eG (aF s i)with
   |true=>
    rw[aU];have g:48<=aF s i/\aF s i<=57:=by
     unfold eG at hd;by_cases q:48<=aF s i
     ·rw[bv q,aU]at hd;exact⟨q,j7 hd⟩
     ·rw[bF q]at hd;cases hd
    by_cases q:e<10000
    ·rw[bv q,aU];exact KO f (i+1) _ us ae ae ae ae
    ·rw[bF q,aM];exact KO f (i+1) e us ae ae a b
   |false=>exact⟨⟨c,by show i<=_;omega⟩,a,b⟩
structure RB(s:ByteArray)(r:p4):Prop where
 m0:0<=r.m
 m1:r.m<=18446744073709551615
 e0: -10000000000<=r.e
 e1:r.e<=10000000000
 i0:0<=r.i
 i1:r.i<=s.size
variable{ng tr us:Bool}{m i dp nm:Int}
theorem E_(a:0<=m)(b:m<=18446744073709551615)(c:0<=i)(d:i<=s.size):RB s (Ab ng hx m tr i):=⟨a,b,by show _<=(0:Int);omega,by show(0:Int)<=_;omega,c,d⟩
theorem Wl(e:0<=m)(f:m<=18446744073709551615)(g:0<=i)(h:i<=s.size)(a: -5000000000<=dp)(b:dp<=5000000000)(c:0<=nm)(d:nm<=5000000000):RB s (oU s ng hx m tr us i dp nm):=by
 refine⟨e,f,?_,?_,g,h⟩
 all_goals
  unfold oU;dsimp only;cases m !=0
  ·rw[aM];omega
  ·rw[aU];omega
theorem RI{sg:Int}(f:0<=m)(g:m<=18446744073709551615)(h:0<=i)(j:i<=s.size)(a: -4000000000<=dp)(b:dp<=4000000000)(c:0<=nm)(d:nm<=5000000000)(e:sg=1\/sg= -1):RB s (sb s ng hx m tr us i dp nm sg):=by
 unfold sb;generalize (bif (bif decide (i>=s.size) then true else decide (aF s i<48)) then true else decide (aF s i>57))=q;cases q with
 |true=>exact E_ f g h j
 |false=>
  rw[aM];obtain⟨⟨x1,x2⟩,x3,x4⟩:=KO (s:=s) ((s.size:Int)-i).toNat i 0 us h ae ae ae;generalize jU s ((s.size:Int)-i).toNat i 0 us=z at*;obtain⟨k,z2,z3⟩:=z;dsimp only at x1 x2 x3 x4⊢;refine Wl f g x1 x2 ?_ ?_ c d
  all_goals rcases e with rfl|rfl <;> omega
theorem Wk(e:0<=m)(f:m<=18446744073709551615)(g:0<=i)(h:i<=s.size)(a: -4000000000<=dp)(b:dp<=4000000000)(c:0<=nm)(d:nm<=5000000000):RB s (tO s ng hx m tr us i dp nm):=by
 unfold tO;cases hp:pQ s hx i with
 |false=>
  rw[aM];cases eY hx==16
  ·exact Wl e f g h ae ae c d
  ·exact E_ e f g h
 |true=>
  rw[aU];have hi:i<s.size:=by
   unfold pQ at hp;by_cases q:i<s.size
   ·exact q
   ·rw[bF q]at hp;cases hp
  unfold Aa;by_cases q:i+1>=s.size
  ·rw[bv q];exact E_ e f ae ae
  ·rw[bF q,aM];cases aF s (i+1)==43
   ·rw[aM];cases aF s (i+1)==45
    ·exact RI e f ae ae a b c d (.inl rfl)
    ·exact RI e f ae ae a b c d (.inr rfl)
   ·exact RI e f ae ae a b c d (.inl rfl)
theorem Wj(e:0<=m)(f:m<=18446744073709551615)(g:0<=i)(h:i<=s.size)(a: -1000000000<=dp)(b:dp<=1000000000)(c:0<=nm)(d:nm<=1000000000):RB s (xy s ng hx m tr us i dp nm):=by
 unfold xy;cases eY hx==16
 ·exact Wk e f g h ae ae c ae
 ·exact Wk e f g h ae ae ae ae
theorem aiI{x:dn}(h:lX s x)(hs:s.size<=1000000000):RB s (oT s ng hx x):=by
 obtain⟨a,b,c,d,g,i,j,k,e,f⟩:=h;unfold oT;cases !x.sg
 ·rw[aM];cases !x.sd
  ·exact Wj c d a b ae ae e ae
  ·exact Wj c d a b ae ae e ae
 ·exact E_ c d a b
theorem alK(hs:s.size<=1000000000):RB s (fc s):=by
 have d:0<=c3 s/\c3 s<=1:=by
  unfold c3;cases aF s 0==43 <;> cases aF s 0==45 <;> decide
 unfold fc;by_cases c:0>=(s.size:Int)
 ·rw[bv c];exact E_ ae ae ae ae
 ·rw[bF c,aM];have a:0<=lW s/\lW s<=s.size:=by
   unfold lW;cases b:bp s with
   |true=>
    unfold bp at b;by_cases q:c3 s+2<s.size
    ·rw[aU];omega
    ·rw[bF q]at b;cases b
   |false=>rw[aM];omega
  exact aiI (XL _ _ ⟨a.1,a.2,bg,bg,bg,a.1,bg,a.1,bg,a.1⟩ bg) hs
end
theorem alX(s:ByteArray):0<=(ei s).2.1:=by
 have b:∀t sg ns,0<=ns->0<=(qO t sg ns).2.1:=fun t sg ns h=>by
  unfold qO;cases q:m9 t==3 with
  |true=>show 0<=ns+m9 t;rw[eq_of_beq q];omega
  |false=>
   cases q2:m9 t==8 with
   |true=>show 0<=ns+m9 t;rw[eq_of_beq q2];omega
   |false=>exact cD 0
 have a:(0:Int)<=((0,0,false):Nat×Int×Bool).2.1:=cD 0;unfold ei;cases (s.size:Int)==0 with
 |true=>exact a
 |false=>
  cases aF s 0==43||aF s 0==45 with
  |true=>exact b _ _ _ ae
  |false=>
   cases aF s 0==105||aF s 0==73 with
   |true=>exact b _ _ _ (cD 0)
   |false=>
    cases aF s 0==110||aF s 0==78 with
    |true=>
     cases ij s vl==3 with
     |true=>show(0:Int)<=3;omega
     |false=>exact a
    |false=>exact a
end
section
open Go
theorem jW.view{P:Program}{f:FuncId}{C D:aQ}(h:jW P f C)(g:D.X->C.X)(l:∀x,C.args (g x)=D.args x)(hp:∀x,C.pre (g x)=D.pre x)(m:∀x,D.cond x->C.cond (g x))(o:∀x F,D.cond x->D.aO x F->C.aO (g x) F)
  (p:∀x y,D.cond x->C.bZ (g x) y->∃z,D.bZ x z/\C.val (g x) y=D.val x z/\C.post (g x) y=D.post x z):jW P f D:=⟨fun x F I w a b hs=>by
 have:=h.h (g x) F I w (m x a) (o x F a b) (by rw[hp];exact hs);rw[l]at this;refine Calls.mono this (fun e w' n=>?_);obtain⟨y,J,c,d,i,j,k⟩:=n;obtain⟨z,q,r,s⟩:=p x y a c;exact⟨z,J,q,d.trans r,i,by rw[<-s];exact j,k⟩⟩
structure Tc where
 v:Nat
 n:Nat
 b:Bool
def Sq:aQ where
 X:=bK
 Y:=Tc
 args x:=[ai x.s]
 cond x:=x.s.size<=1000000000
 bZ x y:=ei x.s=(y.v,(y.n:Int),y.b)
 val _ y:=.returned (.tuple #[.float .f64 y.v,.int .i64 y.n,.bool y.b])
theorem alV:aC 123 Sq:=alY.view (fun x=>x) (fun _=>rfl) (fun _=>rfl) (fun _ h=>h) (fun _ _ _ h=>h) (fun x _ _ _=>by
 have h:=alX x.s;have e:(((ei x.s).2.1.toNat:Nat):Int)=(ei x.s).2.1:=by omega
 refine⟨⟨(ei x.s).1,(ei x.s).2.1.toNat,(ei x.s).2.2⟩,?_,?_,rfl⟩
 ·show ei x.s=((ei x.s).1,(((ei x.s).2.1.toNat:Nat):Int),(ei x.s).2.2);rw[e]
 ·show _=returned (.tuple #[.float .f64 (ei x.s).1,.int .i64 ((ei x.s).2.1.toNat:Nat),.bool (ei x.s).2.2]);rw[e];rfl)
structure o_ where
 m:Nat
 e:Int
 n:Bool
 t:Bool
 h:Bool
 i:Nat
 o:Bool
def Sp:aQ where
 X:=bK
 Y:=o_
 args x:=[ai x.s]
 cond x:=x.s.size<=1000000000
 bZ x y:=fc x.s=⟨(y.m:Int),y.e,y.n,y.t,y.h,(y.i:Int),y.o⟩/\y.m<18446744073709551616/\ -10000000000<=y.e/\y.e<=10000000000/\y.i<=x.s.size
 val _ y:=.returned (.tuple #[.int .u64 y.m,.int .i64 y.e,.bool y.n,.bool y.t,.bool y.h,.int .i64 y.i,.bool y.o])
theorem alL:aC 124 Sp:=alQ.view (fun x=>x) (fun _=>rfl) (fun _=>rfl) (fun _ h=>h) (fun _ _ _ h=>h) (fun x _ f _=>by
 have b:=alK (s:=x.s) f;have e0:∃r,fc x.s=r:=⟨_,rfl⟩;obtain⟨⟨m,e,n,t,h,i,o⟩,a⟩:=e0;rw[a]at b;obtain⟨c,d,b3,b4,b5,b6⟩:=b;dsimp only at c d b3 b4 b5 b6;obtain⟨m,rfl⟩:∃k:Nat,m=(k:Int):=⟨m.toNat,ae⟩;obtain⟨i,rfl⟩:∃k:Nat,i=(k:Int):=⟨i.toNat,ae⟩;refine⟨⟨m,e,n,t,h,i,o⟩,⟨a,bg,b3,b4,bg⟩,?_,rfl⟩;show returned (KN (fc x.s))=_;rw[a];rfl)
def Sm:aQ where
 X:=gN
 Y:=Nat ⊕ Nat
 args x:=[ai x.s,ag d7,aA x.m,ad x.e,aj x.ng,aj x.tr]
 cond x:=0<=x.m/\x.m<=18446744073709551615/\ -10000000000<=x.e/\x.e<=10000000000
 aO x F:=gF x.tb x.lc F
 bZ x y:=match y with
  | .inl v=>(dr x).1=v/\((dr x).2==0)=true
  | .inr v=>(dr x).1=v/\((dr x).2==0)=false
 val _ y:=match y with
  | .inl v=>.returned (.tuple #[.float .f64 v,.nilIface])
  | .inr v=>.returned (.tuple #[.float .f64 v,.iface 128 (.int .i64 1)])
 sum:=some (hU Nat Nat)
theorem alz:aC 125 Sm:=alE.view (fun x=>x) (fun _=>rfl) (fun _=>rfl) (fun _ h=>h) (fun _ _ _ h=>h) (fun x _ _ _=>by
 cases h:(dr x).2==0 with
 |true=>exact⟨.inl (dr x).1,⟨rfl,h⟩,by show returned (.tuple #[.float .f64 (dr x).1,vo (dr x).2])=_;unfold vo;rw[h];rfl,rfl⟩
 |false=>exact⟨.inr (dr x).1,⟨rfl,h⟩,by show returned (.tuple #[.float .f64 (dr x).1,vo (dr x).2])=_;unfold vo;rw[h];rfl,rfl⟩)
def GY:aQ where
 X:=jV
 Y:=Nat ⊕ Nat
 args x:=[aA x.m,ad x.e,aA x.g]
 cond x:=x.m<18446744073709551616/\ -348<=x.e/\x.e<348/\x.g<18446744073709551616/\∀i,x.tb i<18446744073709551616
 aO x F:=∀i,i<1392->aP F ⟨15,i,none⟩ (.int .u64 (x.tb i))
 bZ x y:=match y with
  | .inl v=>gw x=(v,0)
  | .inr v=>gw x=(v,1)
 val _ y:=match y with
  | .inl v=>.returned (.tuple #[.float .f64 v,.nilIface])
  | .inr v=>.returned (.tuple #[.float .f64 v,.iface 128 (.int .i64 1)])
 eM _ _ _ hs h:=fun i hi=>(h i hi).sub hs
 sum:=some (hU Nat Nat)
theorem Nh:aC 135 GY:=acH.view (fun x=>x) (fun _=>rfl) (fun _=>rfl) (fun _ h=>h) (fun _ _ _ h=>h) (fun x y _ h=>by
 cases y with
 |inl u=>exact⟨.inl (gw x).1,Prod.ext rfl h,rfl,rfl⟩
 |inr u=>exact⟨.inr (gw x).1,Prod.ext rfl h,rfl,rfl⟩)
structure Sr where
 v:Nat
 b:Bool
def MN:aQ where
 X:=m_
 Y:=Sr
 args x:=[aA x.m,ad x.e,aj x.n]
 cond x:= -100000<=x.e/\x.e<=100000
 aO x F:=gF x.tb x.lc F
 bZ x y:=lu x=(y.v,y.b)
 val _ y:=.returned (.tuple #[.float .f64 y.v,.bool y.b])
theorem aan:aC 134 MN:=aaq.view (fun x=>x) (fun _=>rfl) (fun _=>rfl) (fun _ h=>h) (fun _ _ _ h=>h) (fun x _ _ _=>⟨⟨(lu x).1,(lu x).2⟩,rfl,rfl,rfl⟩)
structure SL where
 d:bq
 ok:Bool
def RZ:aQ where
 X:=em
 Y:=SL
 args x:=[ag (jr x),ai x.s]
 pre x:=[af x.b (a7 x.d) 158]
 cond x:=x.s.size<=1000000000/\x.d=dZ
 bZ x y:=y.d.ds.length=800/\y.ok=(eD x.s).isSome/\∀v,eD x.s=some v->y.d=v/\v.ip/\ -3000000000<=v.dp/\v.dp<=3000000000
 val _ y:=ax (aj y.ok)
 post x y:=[af x.b (a7 y.d) 158]
 eM _ _ _ _ h:=h
theorem ajs:aC 130 RZ:=ajw.view (fun x=>x) (fun _=>rfl) (fun _=>rfl) (fun _ h=>h) (fun _ _ _ h=>h) (fun x y _ h=>⟨⟨y,(eD x.s).isSome⟩,⟨h.1,rfl,h.2⟩,rfl,rfl⟩)
structure SB where
 d:bq
 v:Int
 o:Bool
def Nk:aQ where
 X:=fw
 Y:=SB
 args x:=[ag (iv x),ag d7]
 pre x:=[BU x]
 cond x:=(x.d.ds.length=800/\(x.d.nd=0\/x.d.norm))/\pX x.lc/\ -3000000000<=x.d.dp/\x.d.dp<=3000000000
 aO x F:=gF x.tb x.lc F
 bZ x y:=dT x.lc x.d=(y.v,y.o)
 val _ y:=.returned (.tuple #[.int .u64 y.v,.bool y.o])
 post x y:=[af x.b (a7 y.d) 158]
theorem acS:aC 131 Nk:=acX.view (fun x=>x) (fun _=>rfl) (fun _=>rfl) (fun _ h=>h) (fun _ _ _ h=>h) (fun x y _ h=>⟨⟨y,(dT x.lc x.d).1,(dT x.lc x.d).2⟩,rfl,rfl,rfl⟩)
end
section
open Go
def o_.of(z:p4):o_:=⟨z.m.toNat,z.e,z.n,z.t,z.h,z.i.toNat,z.o⟩
def lT(n:Bool):Nat:=bif n then 9223372036854775808 else 0
def MS(n:Bool)(k:Int):Nat:=(u64.wrap ((BitVec.ofInt u64.bits (u64.wrap ((bif n then 1 else 0)*2^min (Int.toNat 63) u64.bits))|||BitVec.ofInt u64.bits k).toNat:Int)).toNat
def x_(lc:Nat->Nat×ByteArray)(s:ByteArray)(r:o_):sc:=
 match eD (s.extract 0 r.i)with
 |none=>⟨0,r.i,2⟩
 |some v=>⟨(dT lc v).1.toNat,r.i,bif (dT lc v).2 then 1 else 0⟩
def t8(tb:Nat->Nat)(lc:Nat->Nat×ByteArray)(s:ByteArray)(r:o_):sc:=
 bif !r.t then ⟨(gw ⟨r.m,r.e,lT r.n,tb⟩).1,r.i,(gw ⟨r.m,r.e,lT r.n,tb⟩).2⟩
 else bif cG .eql (gw ⟨r.m,r.e,lT r.n,tb⟩).1 (gw ⟨(u64.wrap ((r.m:Int)+1)).toNat,r.e,lT r.n,tb⟩).1 then ⟨(gw ⟨r.m,r.e,lT r.n,tb⟩).1,r.i,(gw ⟨r.m,r.e,lT r.n,tb⟩).2⟩
 else x_ lc s r
def rk(tb:Nat->Nat)(lc:Nat->Nat×ByteArray)(s:ByteArray)(r:o_):sc:=
 bif !r.o then ⟨0,r.i,2⟩
 else bif r.h then ⟨(dr ⟨s.extract 0 r.i,r.m,r.e,r.n,r.t,tb,lc⟩).1,r.i,bif (dr ⟨s.extract 0 r.i,r.m,r.e,r.n,r.t,tb,lc⟩).2==0 then 0 else 1⟩
 else bif (r.m:Int)==0 then ⟨MS r.n 0,r.i,0⟩
 else bif decide (r.e>310) then ⟨MS r.n 9218868437227405312,r.i,1⟩
 else bif decide (r.e< -345) then ⟨MS r.n 0,r.i,0⟩
 else bif !r.t then (bif (lu ⟨r.m,r.e,r.n,tb,lc⟩).2 then ⟨(lu ⟨r.m,r.e,r.n,tb,lc⟩).1,r.i,0⟩ else t8 tb lc s r)
 else t8 tb lc s r
def vO(tb:Nat->Nat)(lc:Nat->Nat×ByteArray)(s:ByteArray):sc:=
 bif (ei s).2.2 then ⟨(ei s).1,(ei s).2.1.toNat,0⟩ else rk tb lc s (o_.of (fc s))
structure oX where
 s:ByteArray
 tb:Nat->Nat
 lc:Nat->Nat×ByteArray
 av:ByteArray->sc
def ly:aQ where
 X:=oX
 Y:=Unit ⊕ Unit
 args x:=[ai x.s]
 cond x:=(x.s.size<=8388610/\pX x.lc/\∀i,x.tb i<18446744073709551616)/\x.av=vO x.tb x.lc
 aO x F:=gF x.tb x.lc F
 bZ x y:=match y with
  | .inl _=>(x.av x.s).e=0
  | .inr _=>(x.av x.s).e≠0/\(x.av x.s).e<=2
 val x y:=match y with
  | .inl _=>.returned (.tuple #[.float .f64 (x.av x.s).v,.int .i64 (x.av x.s).n,.nilIface])
  | .inr _=>.returned (.tuple #[.float .f64 (x.av x.s).v,.int .i64 (x.av x.s).n,.iface 128 (.int .i64 (x.av x.s).e)])
 sum:=some (hU Unit Unit)
structure qR where
 r:o_
def Td(x:oX)(r:o_):List (Nat×Value):=[(0,.string x.s),(3,.int .i64 r.i),(4,.nilIface),(2,.float .f64 0)]
def Dq(x:oX)(r:o_):Prop:=r.m<18446744073709551616/\r.i<=x.s.size
def aau(x:oX)(F:ah):Nat->Option Inv:=fun
 |22=>some {X:=qR,P:=fun d=>Dq x d.r/\ -345<=d.r.e/\d.r.e<=310/\x.av x.s=t8 x.tb x.lc x.s d.r,mu:=fun _=>0,lv:=fun d=>Td x d.r++[(8,.int .u64 d.r.m),(9,.int .i64 d.r.e),(11,.bool d.r.t),(16,.int .u64 (bif d.r.n then 9223372036854775808 else 0))],st:=fun _=>[F]}
 |28=>some {X:=qR,P:=fun d=>Dq x d.r/\x.av x.s=x_ x.lc x.s d.r,mu:=fun _=>0,lv:=fun d=>Td x d.r,st:=fun _=>[F]}
 |_=>none
def OJ(x:oX)(F:ah)(j:tT)(k:o_):=ar ly x F (ax (tuple ⟨[float f64 (bf (↑(b7 (bf ((bif j.b then (1:Int) else (0:Int))*2^min (Int.toNat (63:Int)) u64.bits))|||b7 (0:Int)).toNat:Int)).toNat,ad ↑k.i,nilIface]⟩)) [(0,F)]
def Rj(e0:oX)(z:qR):=Dq e0 z.r/\(-345:Int)<=z.r.e/\z.r.e<=310/\e0.av e0.s=t8 e0.tb e0.lc e0.s z.r
def SP(e0:oX)(e1:ah)(v0 v1 v2 v3 v4:Value)(a:St):=∃(z:qR),Rj e0 z/\(ai e0.s=ai e0.s/\v0=ad ↑z.r.i/\nilIface=nilIface/\float f64 0=float f64 0/\v1=aA ↑z.r.m/\v2=ad z.r.e/\v3=aj z.r.t/\v4=aA (bif z.r.n then (9223372036854775808:Int) else (0:Int))/\True)/\aE a [(0,e1)]
def O5(x:oX)(F:ah)(k:o_)(j:tT):=SP x F (ad ↑k.i) (aA ↑k.m) (ad k.e) (aj k.t) (aA (bf ((bif j.b then (1:Int) else (0:Int))*2^min (Int.toNat (63:Int)) u64.bits))) [(0,F)]
def F6(aa:List Value)(rr:ah)(c:jV->Nat->Prop)(d:jV->Nat->Prop):=aC 135 GY/\true=true/\∃(z:jV),aa=[aA ↑z.m,ad z.e,aA ↑z.g]/\([]:List ah)=[]/\(z.m<18446744073709551616/\(-348:Int)<=z.e/\z.e<348/\z.g<18446744073709551616/\∀(w0:Nat),z.tb w0<18446744073709551616)/\(∀(w0:Nat),w0<1392->aP rr ⟨15,w0,none⟩ (aA (↑(z.tb w0):Int)))/\(∀(a:Nat),gw z=(a,0)->c z a)/\∀(b:Nat),gw z=(b,1)->d z b
def PF(h:qR):List Value:=[aA (bf ((h.r.m:Int)+1)),ad h.r.e,aA (bif h.r.n then (9223372036854775808:Int) else (0:Int))]
def xQ(b:Oper)(aa:List Value)(a:Nat×Nat->Prop):=dJ Tryz.prog b (mM BinOp.eql)/\∃(z:Nat×Nat),aa=(qs z)/\True/\a z
def LB(e0:oX)(e1:ah)(v0:Value)(a:St):=∃(z:qR),(Dq e0 z.r/\e0.av e0.s=x_ e0.lc e0.s z.r)/\(ai e0.s=ai e0.s/\v0=ad ↑z.r.i/\nilIface=nilIface/\float f64 0=float f64 0/\True)/\aE a [(0,e1)]
def OU(e:Nat)(x:oX)(F:ah)(h:qR):jV->Nat->Prop:=fun d c=>xQ (ba Tryz.f117 26 2) [float f64 e,float f64 c] (fun b=>Br (cG BinOp.eql b.fst b.snd) (ar ly x F (ax (tuple ⟨[float f64 e,ad ↑h.r.i,nilIface]⟩)) [(0,F)]) (LB x F (ad ↑h.r.i) [(0,F)]))
def Rh(x:oX)(F:ah)(e:Nat)(h:qR):=ar ly x F (ax (tuple ⟨[float f64 e,ad ↑h.r.i,fh 128 (ad 1)]⟩)) [(0,F)]
def OO(e:Nat)(x:oX)(F:ah)(h:qR):jV->Nat->Prop:=fun d c=>xQ (ba Tryz.f117 26 2) [float f64 e,float f64 c] (fun b=>Br (cG BinOp.eql b.fst b.snd) (Rh x F e h) (LB x F (ad ↑h.r.i) [(0,F)]))
theorem aat(x:oX)(F:ah)(A:ly.cond x)(G:ly.aO x F):aC 123 Sq/\true=true/\∃(n:bK),[ai x.s]=[ai n.s]/\([]:List ah)=[]/\n.s.size<=1000000000/\True/\∀(m:Tc),ei n.s=(m.v,(m.n:Int),m.b)->Br m.b (ar ly x F (ax (tuple ⟨[float f64 m.v,ad ↑m.n,nilIface]⟩)) [(0,F)]) (aC 124 Sp/\true=true/\∃(l:bK),[ai x.s]=[ai l.s]/\([]:List ah)=[]/\l.s.size<=1000000000/\True/\∀(k:o_),(fc l.s=⟨(k.m:Int),k.e,k.n,k.t,k.h,(k.i:Int),k.o⟩/\k.m<18446744073709551616/\(-10000000000:Int)<=k.e/\k.e<=10000000000/\k.i<=l.s.size)->Br (!k.o) (ar ly x F (ax (tuple ⟨[float f64 0,ad ↑k.i,fh 128 (ad 2)]⟩)) [(0,F)]) (Br k.h (((0:Int)<=(0:Int)/\0<=(k.i:Int)/\(k.i:Int)<=(x.s.size:Int))/\aC 125 Sm/\true=true/\∃(b:gN),[ai (x.s.extract (Int.toNat (0:Int)) (k.i:Int).toNat),ag d7,aA ↑k.m,ad k.e,aj k.n,aj k.t]=[ai b.s,ag d7,aA b.m,ad b.e,aj b.ng,aj b.tr]/\([]:List ah)=[]/\(0<=b.m/\b.m<=18446744073709551615/\(-10000000000:Int)<=b.e/\b.e<=10000000000)/\gF b.tb b.lc (cP F)/\(∀(a:Nat),((dr b).fst=a/\((dr b).snd==0)=true)->ar ly x F (ax (tuple ⟨[float f64 a,ad ↑k.i,nilIface]⟩)) [(0,F)])/\∀(a:Nat),((dr b).fst=a/\((dr b).snd==0)=false)->ar ly x F (ax (tuple ⟨[float f64 a,ad ↑k.i,fh 128 (ad 1)]⟩)) [(0,F)]) ((aP F ⟨10,0,none⟩ (aj true)/\Dg [aj k.n] (fun j i=>Br ((k.m:Int)==0) (OJ x F j k) (aS (k.e>310) (ar ly x F (ax (tuple ⟨[float f64 (bf (↑(b7 (bf ((bif j.b then (1:Int) else (0:Int))*2^min (Int.toNat (63:Int)) u64.bits))|||b7 (9218868437227405312:Int)).toNat:Int)).toNat,ad ↑k.i,fh 128 (ad 1)]⟩)) [(0,F)]) (aS (k.e<(-345:Int)) (OJ x F j k) (Br (!k.t) (aC 134 MN/\true=true/\∃(c:m_),[aA ↑k.m,ad k.e,aj k.n]=[aA ↑c.m,ad c.e,aj c.n]/\([]:List ah)=[]/\((-100000:Int)<=c.e/\c.e<=100000)/\gF c.tb c.lc (cP F)/\∀(b:Sr),lu c=(b.v,b.b)->Br b.b (ar ly x F (ax (tuple ⟨[float f64 b.v,ad ↑k.i,nilIface]⟩)) [(0,F)]) (O5 x F k j)) (O5 x F k j)/\aT fun(h:qR)_=>Rj x h->F6 [aA ↑h.r.m,ad h.r.e,aA (bif h.r.n then (9223372036854775808:Int) else (0:Int))] (cP F) (fun f e=>Br (!h.r.t) (ar ly x F (ax (tuple ⟨[float f64 e,ad ↑h.r.i,nilIface]⟩)) [(0,F)]) (F6 (PF h) (cP F) (OU e x F h) (OU e x F h))) (fun f e=>Br (!h.r.t) (Rh x F e h) (F6 (PF h) (cP F) (OO e x F h) (OO e x F h))))))))/\aT fun(g:qR)_=>(Dq x g.r/\x.av x.s=x_ x.lc x.s g.r)->∀(e:Nat),((0:Int)<=(0:Int)/\0<=(g.r.i:Int)/\(g.r.i:Int)<=(x.s.size:Int))/\aC 130 RZ/\true=true/\∃(d:em),[ag (bI e),ai (x.s.extract (Int.toNat (0:Int)) (g.r.i:Int).toNat)]=[ag (jr d),ai d.s]/\[af e (List.replicate 800 (a8 0)++[ad 0,ad 0,aj false,aj false]) 158]=[af d.b (a7 d.d) 158]/\(d.s.size<=1000000000/\d.d=dZ)/\True/\∀(c:SL),(c.d.ds.length=800/\c.ok=(eD d.s).isSome/\∀(a:bq),eD d.s=some a->c.d=a/\a.ip/\(-3000000000:Int)<=a.dp/\a.dp<=3000000000)->Br (!c.ok) (ar ly x F (ax (tuple ⟨[float f64 0,ad ↑g.r.i,fh 128 (ad 2)]⟩)) [(0,F),(5000,af d.b (a7 c.d) 158)]) (aC 131 Nk/\true=true/\∃(b:fw),[ag (bI e),ag d7]=[ag (iv b),ag d7]/\[af d.b (a7 c.d) 158]=[af b.b (a7 b.d) 158]/\((b.d.ds.length=800/\(b.d.nd=0\/b.d.norm))/\pX b.lc/\(-3000000000:Int)<=b.d.dp/\b.d.dp<=3000000000)/\gF b.tb b.lc (aH [(0,F),(5000,af d.b (a7 c.d) 158)] [5000])/\∀(a:SB),dT b.lc b.d=(a.v,a.o)->Br a.o (ar ly x F (ax (tuple ⟨[float f64 a.v.toNat,ad ↑g.r.i,fh 128 (ad 1)]⟩)) [(0,F),(5000,af b.b (a7 a.d) 158)]) (ar ly x F (ax (tuple ⟨[float f64 a.v.toNat,ad ↑g.r.i,nilIface]⟩)) [(0,F),(5000,af b.b (a7 a.d) 158)]))))):=by
 delta d7 cP Dg OJ Rj SP O5 F6 PF qs xQ LB OU Rh OO bI jr iv aH ad a8 aA ai aj ag fh af b7 bf aS ax aT;obtain⟨s,tb,lc,av⟩:=x;obtain⟨⟨W,M,H⟩,E⟩:=A;replace G:gF tb lc F:=G;dsimp only at W M H E⊢;have t:aE [(0,F)] [(0,F)]:=az [0];have rr:gF tb lc (.dq (rest [(0,F)] [])):=G.sub (bP 0);have o:∀(v n:Nat)(S:St),av s=⟨v,n,0⟩->aE S [(0,F)]->ar ly ⟨s,tb,lc,av⟩ F (returned (tuple #[.float .f64 v,.int .i64 n,.nilIface])) S:=fun v n S e h=>
  ⟨.inl (),by show(av s).e=0;rw[e],by show _=returned (.tuple #[.float .f64 (av s).v,.int .i64 (av s).n,.nilIface]);rw[e],h⟩
 have p:∀(v n k:Nat)(S:St),k=1\/k=2->av s=⟨v,n,k⟩->aE S [(0,F)]->ar ly ⟨s,tb,lc,av⟩ F (returned (tuple #[.float .f64 v,.int .i64 n,.iface 128 (.int .i64 (k:Nat))])) S:=fun v n k S hk e h=>
  ⟨.inr (),by show(av s).e≠0/\(av s).e<=2;grind,by show _=returned (.tuple #[.float .f64 (av s).v,.int .i64 (av s).n,.iface 128 (.int .i64 (av s).e)]);rw[e],h⟩
 refine bO alV ⟨s⟩ (by grind) fun y Y=>aG (fun q=>o _ _ _ ?_ t) (fun q=>?_)
 ·rw[E];unfold vO;simp[*]
 refine bO alL ⟨s⟩ (by grind) fun r⟨I,m1,e0,e1,i1⟩=>?_;have u:av s=rk tb lc s r:=by
  rw[E];unfold vO;rw[Y];dsimp only;rw[q,I];rfl
 refine aG (fun q1=>p 0 r.i 2 _ (.inr rfl) (by rw[u];unfold rk;simp[*]) t) (fun q1=>aG (fun q2=>?_) (fun q2=>⟨?_,?_⟩))
 ·refine⟨⟨cD _,ae,by simp[*]⟩,alz,rfl,⟨s.extract 0 r.i,r.m,r.e,r.n,r.t,tb,lc⟩,rfl,rfl,⟨by simp[*],by grind,e0,e1⟩,rr,fun a w=>o _ _ _ ?_ t,fun a w=>p _ _ 1 _ (.inl rfl) ?_ t⟩
  ·rw[u];unfold rk;simp[*]
  ·rw[u];unfold rk;simp[*]
 ·have sg:∀n:Bool,int .u64 (u64.wrap ((bif n then 1 else 0)*2^min (Int.toNat 63) u64.bits))=int .u64 (bif n then 9223372036854775808 else 0):=fun n=>by cases n <;> exact congrArg _ (by decide)
  refine⟨G.DY,MR,rfl,⟨r.n⟩,rfl,rfl,ao,ao,fun _ _=>aG (fun q3=>o _ _ _ ?_ t) (fun q3=>bo (fun q4=>p _ _ 1 _ (.inl rfl) ?_ t) (fun q4=>bo (fun q5=>o _ _ _ ?_ t) (fun q5=>⟨aG (fun q6=>br aan ⟨r.m,r.e,r.n,tb,lc⟩ ⟨by grind,by grind⟩ rr fun z I=>aG (fun q7=>o _ _ _ ?_ t) (fun q7=>⟨⟨r⟩,⟨⟨m1,i1⟩,by grind,by grind,?_⟩,⟨rfl,rfl,rfl,rfl,rfl,rfl,rfl,sg _,ao⟩,t⟩)) (fun q6=>⟨⟨r⟩,⟨⟨m1,i1⟩,by grind,by grind,?_⟩,⟨rfl,rfl,rfl,rfl,rfl,rfl,rfl,sg _,ao⟩,t⟩),?_⟩)))⟩
  ·rw[u];unfold rk;rw[show(!r.o)=false from q1,q2,q3];rfl
  ·rw[u];unfold rk;rw[show(!r.o)=false from q1,q2,q3,bv q4];rfl
  ·rw[u];unfold rk;rw[show(!r.o)=false from q1,q2,q3,bF q4,bv q5];rfl
  ·rw[u];unfold rk;simp[*]
  ·show av s=t8 tb lc s r;rw[u];unfold rk;simp[*]
  ·show av s=t8 tb lc s r;rw[u];unfold rk;simp[*]
  rintro⟨r⟩ Z ⟨⟨m1,i1⟩,e0,e1,u⟩;dsimp only at m1 i1 e0 e1 u⊢;have sN:(bif r.n then (9223372036854775808:Int) else 0)=((lT r.n:Nat):Int):=by unfold lT;cases r.n <;> rfl
  have L:lT r.n<18446744073709551616:=by unfold lT;cases r.n <;> decide
  have u1:=fW ((r.m:Int)+1);have uN:u64.wrap ((r.m:Int)+1)=(((u64.wrap ((r.m:Int)+1)).toNat:Nat):Int):=ae;have P:∀a k:Nat,k<=1->gw ⟨r.m,r.e,lT r.n,tb⟩=(a,k)->(!r.t)=true->av s=⟨a,r.i,k⟩:=fun a k _ h N=>by
   rw[u];unfold t8;grind
  have B:∀a k c j:Nat,gw ⟨r.m,r.e,lT r.n,tb⟩=(a,k)->gw ⟨(u64.wrap ((r.m:Int)+1)).toNat,r.e,lT r.n,tb⟩=(c,j)->(!r.t)=false->cG .eql a c=true->av s=⟨a,r.i,k⟩:=fun a k c j h h' N X=>by
   rw[u];unfold t8;grind
  have C:∀a k c j:Nat,gw ⟨r.m,r.e,lT r.n,tb⟩=(a,k)->gw ⟨(u64.wrap ((r.m:Int)+1)).toNat,r.e,lT r.n,tb⟩=(c,j)->(!r.t)=false->cG .eql a c=false->av s=x_ lc s r:=fun a k c j h h' N X=>by
   rw[u];unfold t8;grind
  refine⟨Nh,rfl,⟨r.m,r.e,lT r.n,tb⟩,by rw[sN],rfl,⟨m1,by grind,by grind,L,H⟩,rr.pow,fun a w=>aG (fun q=>o _ _ _ (P a 0 ae w q) t) (fun q=>⟨Nh,rfl,⟨(u64.wrap ((r.m:Int)+1)).toNat,r.e,lT r.n,tb⟩,by grind,rfl,⟨by grind,by grind,by grind,L,H⟩,rr.pow,fun c A=>⟨nz (.inl rfl) rfl,(a,c),rfl,ao,aG (fun q2=>o _ _ _ (B a 0 c 0 w A q q2) t) (fun q2=>⟨⟨r⟩,⟨⟨m1,i1⟩,C a 0 c 0 w A q q2⟩,aV,t⟩)⟩,fun c A=>⟨nz (.inl rfl) rfl,(a,c),rfl,ao,aG (fun q2=>o _ _ _ (B a 0 c 1 w A q q2) t) (fun q2=>⟨⟨r⟩,⟨⟨m1,i1⟩,C a 0 c 1 w A q q2⟩,aV,t⟩)⟩⟩),
   fun a w=>aG (fun q=>p _ _ 1 _ (.inl rfl) (P a 1 ae w q) t) (fun q=>⟨Nh,rfl,⟨(u64.wrap ((r.m:Int)+1)).toNat,r.e,lT r.n,tb⟩,by grind,rfl,⟨by grind,by grind,by grind,L,H⟩,rr.pow,fun c A=>⟨nz (.inl rfl) rfl,(a,c),rfl,ao,aG (fun q2=>p _ _ 1 _ (.inl rfl) (B a 1 c 0 w A q q2) t) (fun q2=>⟨⟨r⟩,⟨⟨m1,i1⟩,C a 1 c 0 w A q q2⟩,aV,t⟩)⟩,fun c A=>⟨nz (.inl rfl) rfl,(a,c),rfl,ao,aG (fun q2=>p _ _ 1 _ (.inl rfl) (B a 1 c 1 w A q q2) t) (fun q2=>⟨⟨r⟩,⟨⟨m1,i1⟩,C a 1 c 1 w A q q2⟩,aV,t⟩)⟩⟩)⟩
 rintro⟨r⟩ Z ⟨⟨m1,i1⟩,u⟩ b;dsimp only at m1 i1 u⊢;have fQ:(s.extract 0 r.i).size<=1000000000:=by rw[gS];omega
 refine⟨⟨cD _,ae,ae⟩,ajs,rfl,⟨b,s.extract 0 r.i,dZ⟩,rfl,bl,⟨fQ,rfl⟩,ao,fun y⟨Q,y2,R⟩=>?_⟩;dsimp only at Q y2 R⊢;have K:∀D:bq,gF tb lc (.dq (rest [(0,F),(5000,.cells b (a7 D) 158)] [5000])):=fun D=>G.sub (bP 0);have J:∀D:bq,aE [(0,F),(5000,.cells b (a7 D) 158)] [(0,F)]:=fun D=>az [0];cases O:eD (s.extract 0 r.i)with
 |none=>
  refine aG (fun _=>p 0 r.i 2 _ (.inr rfl) (by rw[u];unfold x_;rw[O]) (J _)) (fun h=>?_);grind
 |some v=>
  obtain⟨T,U,d3,d4⟩:=R v O;refine aG (fun h=>?_) (fun _=>br acS ⟨b,y.d,tb,lc⟩ ⟨⟨Q,by rw[T];exact U.or⟩,M,by simp[*],by simp[*]⟩ (K _) fun z I=>?_)
  ·grind
  have I:dT lc v=(z.v,z.o):=by grind
  have V:av s=⟨z.v.toNat,r.i,bif z.o then 1 else 0⟩:=by rw[u];unfold x_;simp[*]
  exact aG (fun q=>p _ _ 1 _ (.inl rfl) (by grind) (J _)) (fun q=>o _ _ _ (by grind) (J _))
theorem aas:aC 117 ly:=fo 143 Tryz.func117 (fun _ _=>[(1,1,aW Sq),(4,1,aW Sp),(8,7,aW Sm),(10,0,.q [.ex 0 (.is (.bool true))]),(11,1,aW ub),(11,2,aX),(13,1,aX),(13,2,aX),(15,1,aX),(15,2,aX),(17,1,aX),(17,2,aX),(19,3,aW MN),(22,3,aW GY),(25,1,aX),(25,4,aW GY),(26,2,.qo (mM .eql)),(28,0,.n 5000),(29,3,.c RZ [5000] [5000]),(31,0,.c Nk [5000] [5000]),(32,1,aX)]) [] aY aau bA [] aat
theorem aam{tb:Nat->Nat}{lc:Nat->Nat×ByteArray}(a:pX lc)(b:∀i,tb i<18446744073709551616){K:bQ}(c:∀F,K.rd F->gF tb lc F):aC 117 (vN (vO tb lc) K):=
 aas.view (fun x=>⟨x.s,tb,lc,vO tb lc⟩) (fun _=>rfl) (fun _=>rfl) (fun _ h=>⟨⟨h,a,b⟩,rfl⟩) (fun _ F _ h=>c F h) (fun _ y _ h=>by
  cases y with
  |inl u=>exact⟨.inl u,h,rfl,rfl⟩
  |inr u=>exact⟨.inr u,h,rfl,rfl⟩)
end
section
open Go
theorem agJ{tb:Nat->Nat}{lc:Nat->Nat×ByteArray}(a:pX lc)(b:∀i,tb i<18446744073709551616){K:bQ}(d:∀F,K.rd F->gF tb lc F)(c:∀F,K.rd F->se F)(e:K.nv=kD (HI (vO tb lc))):aC 72 (nJ K):=
 agz.view (fun x=>⟨K,HI (vO tb lc),x.s⟩) (fun _=>rfl) (fun _=>rfl) (fun _ h=>⟨h,ahi (aam a b d) aka c⟩) (fun _ _ _ h=>h) (fun x _ _ _=>⟨(),ao,by show _=returned (.float .f64 (K.nv x.s));rw[e];rfl,rfl⟩)
end
section
open Go
def oN(i:Int):Int:=(i*631305-261663).fdiv (2^min (Int.toNat 21) i64.bits)
def ox(i:Int):Int:=(i*78913).fdiv (2^min (Int.toNat 18) i64.bits)
def Cr:aQ where
 X:=l4
 args x:=[ad x.i]
 cond x:= -100000<=x.i/\x.i<=100000
 val x _:=ax (ad (oN x.i))
def yD:aQ where
 X:=l4
 args x:=[ad x.i]
 cond x:= -100000<=x.i/\x.i<=100000
 val x _:=ax (ad (ox x.i))
theorem ajO(x:l4)(F:ah)(a:Cr.cond x)(c:Cr.aO x F):((-9223372036854775808:Int)<=x.i*631305/\x.i*631305<=(9223372036854775807:Int))/\((-9223372036854775808:Int)<=x.i*631305-(261663:Int)/\x.i*631305-(261663:Int)<=(9223372036854775807:Int))/\ar Cr x F (ax (ad ((x.i*631305-(261663:Int)).fdiv ((2:Int)^min (Int.toNat (21:Int)) i64.bits)))) [(0,F)]:=by
 delta ad ax;have b: -100000<=x.i/\x.i<=100000:=a;exact⟨aK,aK,(),ao,rfl,az [0]⟩
theorem ajN:aC 206 Cr:=fo 7 Tryz.func206 (fun _ _=>[]) [] aY aY bA [] ajO
theorem ae3(x:l4)(F:ah)(a:yD.cond x)(c:yD.aO x F):((-9223372036854775808:Int)<=x.i*78913/\x.i*78913<=(9223372036854775807:Int))/\ar yD x F (ax (ad ((x.i*78913).fdiv ((2:Int)^min (Int.toNat (18:Int)) i64.bits)))) [(0,F)]:=by
 delta ad ax;have b: -100000<=x.i/\x.i<=100000:=a;exact⟨aK,(),ao,rfl,az [0]⟩
theorem Hj:aC 185 yD:=fo 6 Tryz.func185 (fun _ _=>[]) [] aY aY bA [] ae3
structure CV where
 u:Int
 d:Int
def sW(x:CV):Int:=u64.wrap (x.u+u64.wrap x.d)
def yJ:aQ where
 X:=CV
 args x:=[aA x.u,ad x.d]
 val x _:=ax (aA (sW x))
theorem agm(x:CV)(F:ah)(a:yJ.cond x)(b:yJ.aO x F):ar yJ x F (ax (aA (bf (x.u+bf x.d)))) [(0,F)]:=by
 delta aA bf ax;exact im
theorem VD:aC 207 yJ:=fo 9 Tryz.func207 (fun _ _=>[(1,2,aX),(1,3,aX)]) [] aY aY bA [] agm
def oi(u:Int):Int:=(u64.wrap (u+3)).fdiv (2^min (Int.toNat 2) u64.bits)
def sI(u:Int):Int:=(u64.wrap (u+0)).fdiv (2^min (Int.toNat 2) u64.bits)
def TB(b:p0)(a:ah):List (Nat×Nat×OH):=[(1,1,aX),(1,2,aX)]
theorem abz(x:p0)(F:ah)(a:(iN oi).cond x)(b:(iN oi).aO x F):ar (iN oi) x F (ax (aA ((bf (x.u+3)).fdiv ((2:Int)^min (Int.toNat (2:Int)) u64.bits)))) [(0,F)]:=by
 delta aA bf ax;exact im
theorem aby:aC 208 (iN oi):=fo 6 Tryz.func208 TB [] aY aY bA [] abz
theorem ade(x:p0)(F:ah)(a:(iN sI).cond x)(b:(iN sI).aO x F):ar (iN sI) x F (ax (aA ((bf (x.u+0)).fdiv ((2:Int)^min (Int.toNat (2:Int)) u64.bits)))) [(0,F)]:=by
 delta aA bf ax;exact im
theorem adc:aC 209 (iN sI):=fo 6 Tryz.func209 TB [] aY aY bA [] ade
end
end Go.Proofs.YtdkchodgklpomaaGreatDoor
