/- Part of the proof that ParseJoins answers true at every input. -/
import Derived.Test.YtdkchodgklpomaaGreatDoorPJah
set_option linter.all false
namespace Go.Proofs.YtdkchodgklpomaaGreatDoor
set_option maxRecDepth 100000
open Go.Value (int slice string bool pointer agg tuple func float iface nilIface)
open Go.IntKind (i64 u8 u64 i32 u32 u16 i8 i16)
open Go.FloatKind (f64)
open Go.Ending (returned panicked)
section
open Go
def de(z:Int):Int:=bif decide (z>=9) then 27 else (pX z.toNat:Nat)
section
variable(lc:Nat->Nat×ByteArray)
def mG:Nat->bq->Int->bq×Int
 |0,d,e=>(d,e)
 |f+1,d,e=>bif decide (d.dp>0) then mG f (ep lc d (0-de d.dp)) (e+de d.dp) else (d,e)
def lA:Nat->bq->Int->bq×Int
 |0,d,e=>(d,e)
 |f+1,d,e=>bif decide (d.dp<0)||(d.dp==0&&decide (d.at_ 0<53)) then lA f (ep lc d (de (0-d.dp))) (e-de (0-d.dp)) else (d,e)
def UG(m e:Int):Int:=u64.wrap ((BitVec.ofInt u64.bits (u64.wrap ((BitVec.ofInt u64.bits m&&& BitVec.ofInt u64.bits (u64.wrap (u64.wrap (1*2^min (Int.toNat 52) u64.bits)-1))).toNat:Int))|||BitVec.ofInt u64.bits (u64.wrap (u64.wrap (i64.wrap ((BitVec.ofInt i64.bits (e- -1023)&&& BitVec.ofInt i64.bits (i64.wrap (i64.wrap (1*2^min (Int.toNat 11) i64.bits)-1))).toNat:Int))*2^min (Int.toNat 52) u64.bits))).toNat:Int)
def sa(ng:Bool)(m e:Int)(a:Bool):Int×Bool:=bif ng then (u64.wrap ((BitVec.ofInt u64.bits (UG m e)|||BitVec.ofInt u64.bits (u64.wrap (u64.wrap (1*2^min (Int.toNat 52) u64.bits)*2^min (Int.toNat 11) u64.bits))).toNat:Int),a) else (UG m e,a)
def yZ(ng:Bool):Int×Bool:=bif ng then sa true 0 1024 true else sa false 0 1024 true
def yY(ng:Bool)(m e:Int):Int×Bool:=bif u64.wrap ((BitVec.ofInt u64.bits m&&& BitVec.ofInt u64.bits (u64.wrap (1*2^min (Int.toNat 52) u64.bits))).toNat:Int)==0 then sa ng m (-1023) false else sa ng m e false
def DJ(ng:Bool)(m e:Int):Int×Bool:=bif m==u64.wrap (2*2^min (Int.toNat 52) u64.bits) then (bif decide (e+1- -1023>=2047) then yZ ng else yY ng (m.fdiv (2^min (Int.toNat 1) u64.bits)) (e+1)) else yY ng m e
def A_(d:bq)(e:Int):Int×Bool:=bif decide (e- -1023>=2047) then yZ d.ng else DJ d.ng (ml (ep lc d 53)) e
def A9(d:bq)(e:Int):Int×Bool:=bif decide (e-1< -1023+1) then A_ lc (ep lc d (0-(-1023+1-(e-1)))) (e-1+(-1023+1-(e-1))) else A_ lc d (e-1)
def nY(p:bq×Int):Int×Bool:=A9 lc p.1 p.2
def UE(d:bq):Int×Bool:=nY lc (lA lc 6000 (mG lc 700 d 0).1 (mG lc 700 d 0).2)
def d1(d:bq):Int×Bool:=bif d.nd==0 then sa d.ng 0 (-1023) false else bif decide (d.dp>310) then yZ d.ng else bif decide (d.dp< -330) then sa d.ng 0 (-1023) false else UE lc d
end
theorem D8{z:Int}(h:0<=z):(1<=de z/\de z<=27)/\(1<=z->3<=de z):=by
 unfold de;by_cases q:z>=9
 ·simp[*]
 ·rw[bF q,aN];have k:∀i,i<9->1<=pX i/\pX i<=27/\(1<=i->3<=pX i):=by decide
  grind
variable{n:Nat}
theorem ajZ{lc:Nat->Nat×ByteArray}{d:bq}(a:1<=n)(b:n<=60):ep lc d (0-(n:Int))=mX d n:=by
 unfold ep;rw[bF (show ¬0<0-(n:Int) by omega),bw (show 0-(n:Int)<0 by omega),aN,aU,Cw,show(-(0-(n:Int))).toNat=n by omega,show(200000:Nat)=199999+1 from rfl,rq,bF (show ¬60<n by omega),aN]
theorem aj0{lc:Nat->Nat×ByteArray}{d:bq}(a:1<=n)(b:n<=60):ep lc d (n:Int)=oV d n (lc n):=by
 unfold ep;rw[bw (show 0<(n:Int) by omega),aU,Cw,show((n:Int)).toNat=n by omega,show(200000:Nat)=199999+1 from rfl,rn,bF (show ¬60<n by omega),aN]
def mA(d:bq):Nat:=2*d.dp.toNat+(bif decide (56<=d.at_ 0) then 1 else 0)
def mB(d:bq):Nat:=bif decide (0<d.dp) then 0 else 16*(0-d.dp).toNat+(58-d.at_ 0).toNat
theorem Of(d:bq):2*d.dp.toNat<=mA d/\mA d<=2*d.dp.toNat+1:=by
 unfold mA;grind
theorem akj{lc:Nat->Nat×ByteArray}{d:bq}(hd:d.norm)(hp:0<d.dp):(ep lc d (0-de d.dp)).norm/\(ep lc d (0-de d.dp)).ng=d.ng/\(ep lc d (0-de d.dp)).dp<=d.dp/\d.dp-30<=(ep lc d (0-de d.dp)).dp/\mA (ep lc d (0-de d.dp))<mA d:=by
 obtain⟨⟨l,m⟩,e⟩:=D8 (z:=d.dp) ae;have e:=e ae;obtain⟨n,hn⟩:∃n:Nat,de d.dp=(n:Int):=⟨(de d.dp).toNat,ae⟩;rw[hn]at l m e⊢;rw[ajZ ae ae];obtain⟨a1,a2,a3,a4,a5,f⟩:=Ku hd (k:=n) ae ae;have m1:=Of d;have q:=Of (mX d n);refine⟨a1,a5,ae,ae,?_⟩;by_cases j:k_ d n=1
 ·obtain⟨b1,b2⟩:=f j;have p:=hd.g9 0 (by have:=hd.pos;omega);have a:n=3:=by
   have o:8<=2^n:=by
    have:2^3<=2^n:=nn (by decide) ae;exact this
   rcases Nat.lt_or_ge n 4 with h|h
   ·omega
   ·have:2^4<=2^n:=nn (by decide) h;have:16<=2^n:=this;omega
  rw[a]at b1 b2⊢;have i:(2:Nat)^3=8:=by decide
  rw[i]at b1 b2;have c:(mX d 3).dp=d.dp:=by rw[<-a];omega
  have b:d.at_ 0=((48+dI d 0:Nat):Int):=by
   have:=hd.gV 0 (by have:=hd.pos;omega);unfold dI;omega
  have g:(mX d 3).at_ 0=48+((dI d 0/8:Nat):Int):=b2;unfold mA;rw[c,bF (show ¬56<=(mX d 3).at_ 0 by rw[g];omega),bw (show 56<=d.at_ 0 by rw[b];omega)];exact gZ _
 ·omega
theorem Xh{lc:Nat->Nat×ByteArray}(a:qq lc){d:bq}(hd:d.norm)(hp:(decide (d.dp<0)||(d.dp==0&&decide (d.at_ 0<53)))=true):(ep lc d (de (0-d.dp))).norm/\(ep lc d (de (0-d.dp))).ng=d.ng/\d.dp<=(ep lc d (de (0-d.dp))).dp/\(ep lc d (de (0-d.dp))).dp<=d.dp+27/\mB (ep lc d (de (0-d.dp)))<mB d:=by
 have g:d.dp<=0:=by
  grind
 obtain⟨⟨h,i⟩,-⟩:=D8 (z:=0-d.dp) ae;obtain⟨n,hn⟩:∃n:Nat,de (0-d.dp)=(n:Int):=⟨(de (0-d.dp)).toNat,ae⟩;rw[hn]at h i⊢;have b:=a n ae ae;rw[aj0 ae ae];obtain⟨a1,a2,a3,a4⟩:=HA hd ae b;have f:=Hy (d:=d) b;have k:=hd.gV 0 (by have:=hd.pos;omega);have l:=a1.gV 0 (by have:=a1.pos;omega);have j:=a1.fst;refine⟨a1,a3,ae,ae,?_⟩;unfold mB;rw[bF (show ¬0<d.dp by omega),aN];by_cases e:0<(oV d n (lc n)).dp
 ·rw[bw e,aU];omega
 ·rw[bF e,aN];by_cases c:l9 d (lc n)=0
  ·have:=a4 c;rw[c]at a2;omega
  ·omega
structure fD where
 b:Nat
 d:bq
 tb:Nat->Nat
 lc:Nat->Nat×ByteArray
def B4(x:fD):=af x.b (aZ x.d) 158
def iC(x:fD):Option Addr:=some ⟨x.b,0,none⟩
def qE:aR where
 X:=fD
 Y:=bq
 args x:=[ag (iC x),ag eb]
 pre x:=[B4 x]
 cond x:=(x.d.ds.length=800/\(x.d.nd=0\/x.d.norm))/\qq x.lc/\ -3000000000<=x.d.dp/\x.d.dp<=3000000000
 aO x F:=gL x.tb x.lc F
 b_ _ y:=y.ds.length=800
 val x _:=.returned (.tuple #[.int .u64 (d1 x.lc x.d).1,.bool (d1 x.lc x.d).2])
 post x y:=[af x.b (aZ y) 158]
noncomputable def G5:Func:={Tryz.f131 with body:=some (ab6 1 0 Tryz.f131)}
def UF(x:fD):List (Nat×Value):=[(1,.pointer (some ⟨11,0,none⟩))]
structure cR where
 d:bq
 e:Int
 m:Int
 o:Bool
 f:Nat
def tj(x:fD):List (Nat×Value):=[(0,.pointer (some ⟨x.b,0,none⟩)),(1,.pointer (some ⟨11,0,none⟩))]
def tk(x:fD)(F:ah)(s:cR):List ah:=[.cells x.b (aZ s.d) 158,F]
def adb(x:fD)(F:ah):Nat->Option Inv:=fun
 |0=>some {X:=cR,P:=fun s=>(s.d.norm/\s.d.ng=x.d.ng)/\(-330<=s.d.dp/\s.d.dp<=310)/\(0<=s.e/\s.e+27*s.f<=18900)/\mA s.d<s.f/\d1 x.lc x.d=nY x.lc (lA x.lc 6000 (mG x.lc s.f s.d s.e).1 (mG x.lc s.f s.d s.e).2),mu:=fun s=>s.f,lv:=fun s=>tj x++[(5,.bool false),(6,.int .i64 s.e)],st:=tk x F}
 |2=>some {X:=cR,P:=fun s=>(s.d.norm/\s.d.ng=x.d.ng)/\(-330<=s.d.dp/\s.d.dp<=30)/\(s.e<=18900/\27*s.f<=s.e+162000)/\mB s.d<s.f/\d1 x.lc x.d=nY x.lc (lA x.lc s.f s.d s.e),mu:=fun s=>s.f,lv:=fun s=>tj x++[(5,.bool false),(6,.int .i64 s.e)],st:=tk x F}
 |_=>none
def G6:(T:Type)×(cR->T):=⟨cR,fun s=>s⟩
def ada(x:fD)(F:ah):Nat->Option Inv:=fun
 |16=>some {X:=cR,gh:=some G6,P:=fun s=>(s.d.norm/\s.d.ng=x.d.ng)/\(0<s.d.dp/\s.d.dp<=310)/\(0<=s.e/\s.e+27*s.f<=18900)/\mA s.d<s.f/\s.m=de s.d.dp/\d1 x.lc x.d=nY x.lc (lA x.lc 6000 (mG x.lc s.f s.d s.e).1 (mG x.lc s.f s.d s.e).2),mu:=fun s=>s.f,lv:=fun s=>tj x++[(5,.bool false),(6,.int .i64 s.e),(8,.int .i64 s.m)],st:=tk x F}
 |23=>some {X:=cR,gh:=some G6,P:=fun s=>(s.d.norm/\s.d.ng=x.d.ng)/\(-330<=s.d.dp/\(decide (s.d.dp<0)||(s.d.dp==0&&decide (s.d.at_ 0<53)))=true)/\(s.e<=18900/\27*s.f<=s.e+162000)/\mB s.d<s.f/\s.m=de (0-s.d.dp)/\d1 x.lc x.d=nY x.lc (lA x.lc s.f s.d s.e),mu:=fun s=>s.f,lv:=fun s=>tj x++[(5,.bool false),(6,.int .i64 s.e),(9,.int .i64 s.m)],st:=tk x F}
 |18=>some {X:=cR,P:=fun s=>(s.d.norm/\s.d.ng=x.d.ng)/\(-330<=s.d.dp/\s.d.dp<=0)/\(0<=s.e/\s.e<=18900)/\d1 x.lc x.d=nY x.lc (lA x.lc 6000 s.d s.e),mu:=fun _=>0,lv:=fun s=>tj x++[(5,.bool false),(6,.int .i64 s.e)],st:=tk x F}
 |25=>some {X:=cR,P:=fun s=>(s.d.norm/\s.d.ng=x.d.ng)/\(-330<=s.d.dp/\s.d.dp<=30)/\(-162000<=s.e/\s.e<=18900)/\d1 x.lc x.d=A9 x.lc s.d s.e,mu:=fun _=>0,lv:=fun s=>tj x++[(5,.bool false),(6,.int .i64 s.e)],st:=tk x F}
 |30=>some {X:=cR,P:=fun s=>(s.d.norm/\s.d.ng=x.d.ng)/\(-50000000<=s.d.dp/\s.d.dp<=50000000)/\(-162001<=s.e/\s.e<=18900)/\d1 x.lc x.d=A_ x.lc s.d s.e,mu:=fun _=>0,lv:=fun s=>tj x++[(5,.bool false),(6,.int .i64 s.e)],st:=tk x F}
 |37=>some {X:=cR,P:=fun s=>(s.d.ds.length=800/\s.d.ng=x.d.ng)/\(-162001<=s.e/\s.e<=18901)/\d1 x.lc x.d=yY x.d.ng s.m s.e,mu:=fun _=>0,lv:=fun s=>tj x++[(5,.bool false),(6,.int .i64 s.e),(7,.int .u64 s.m)],st:=tk x F}
 |39=>some {X:=cR,P:=fun s=>(s.d.ds.length=800/\s.d.ng=x.d.ng)/\d1 x.lc x.d=yZ x.d.ng,mu:=fun _=>0,lv:=fun s=>tj x,st:=tk x F}
 |42=>some {X:=cR,P:=fun s=>(s.d.ds.length=800/\s.d.ng=x.d.ng)/\(-162001<=s.e/\s.e<=18901)/\d1 x.lc x.d=sa x.d.ng s.m s.e s.o,mu:=fun _=>0,lv:=fun s=>tj x++[(5,.bool s.o),(6,.int .i64 s.e),(7,.int .u64 s.m)],st:=tk x F}
 |_=>none
def Be:OH:=.q [.ex 1 (.is (.int .u64 52))]
def DP:OH:=.q [.ex 1 (.is (.int .u64 11))]
def uT:OH:=.q [.ex 1 (.is (.int .i64 (-1023)))]
def adc(b:fD)(a:ah):List (Nat×Nat×OH):=[(3,3,iH 0),(5,3,uT),(6,3,iH 0),(7,3,iH 0),(9,3,uT),(11,3,iH 0),(13,3,iH 0),(13,4,.q [.ex 1 .slice]),(15,0,.q [.ex 1 .slice]),(15,4,iH 0),(15,5,.qo (fJ 1)),(15,6,.q [.ex 1 (.int .i64)]),(16,3,bv qd),
 (18,3,iH 0),(18,9,iH 0),(18,16,bH 0),(18,17,aW),(20,3,iH 0),(20,5,.q [.ex 1 .slice]),(22,0,.q [.ex 1 .slice]),(22,4,iH 0),(22,6,.qo (fJ 1)),(22,7,.q [.ex 1 (.int .i64)]),(23,2,bv qd),
 (26,4,uT),(27,3,uT),(28,3,bv qd),(30,4,uT),(30,9,DP),(30,10,aW),(30,11,aW),(31,4,Be),(31,5,aW),(31,6,aW),(31,7,bv qd),(32,1,bv vy),(33,4,Be),(33,5,aW),(33,6,aW),(34,1,aW),(36,4,uT),(36,9,DP),(36,10,aW),(36,11,aW),(37,4,Be),(37,5,aW),(37,6,aW),(37,7,aW),(38,3,uT),
 (40,3,DP),(40,4,aW),(40,5,aW),(40,9,uT),(40,10,aW),(42,4,Be),(42,5,aW),(42,6,aW),(42,7,aW),(43,5,uT),(43,10,DP),(43,11,aW),(43,12,aW),(43,13,aW),(43,14,aW),(43,18,Be),(43,19,aW),(43,20,aW),(44,3,.q [.ex 0 .bool]),(45,4,Be),(45,5,aW),(45,9,DP),(45,10,aW),(45,11,aW)]
noncomputable def UH(x:aR.X qE)(F:ah):jj where
 op:=hk ((adc x F)++[])
 y9:=adb x F
 cut:=ada x F
 zo:=(fun _=>[])
def zL(z:cR)(e0:fD):=z.d.ds.length=800/\z.d.ng=e0.d.ng
def EZ(z:cR):=(-162001:Int)<=z.e/\z.e<=18901
def gq(x:fD)(q:cR)(F:ah):=[(0,af x.b (aZ q.d) 158),(1,F)]
def C_(e0:fD)(e1:ah)(v0 v1 v2:Value)(a:St):=∃(z:cR),(zL z e0/\EZ z/\d1 e0.lc e0.d=sa e0.d.ng z.m z.e z.o)/\(ag (iC e0)=ag (iC e0)/\ag eb=ag eb/\v0=aj z.o/\v1=ad z.e/\v2=az z.m/\True)/\aE a (gq e0 z e1)
def Qq(F:ah)(x:fD):=aQ F ⟨11,2,none⟩ mQ/\C_ x F dk mQ (az 0) [(0,af x.b (aZ x.d) 158),(1,F)]
def F8(e0:fD)(e1:ah)(a:St):=∃(z:cR),(zL z e0/\d1 e0.lc e0.d=yZ e0.d.ng)/\(ag (iC e0)=ag (iC e0)/\ag eb=ag eb/\True)/\aE a (gq e0 z e1)
def xn(e:cR)(x:fD):=e.d.norm/\e.d.ng=x.d.ng
def H3(a:cR)(x:fD):=xn a x/\((-330:Int)<=a.d.dp/\a.d.dp<=310)/\(0<=a.e/\a.e+27*(a.f:Int)<=18900)/\mA a.d<a.f/\d1 x.lc x.d=nY x.lc (lA x.lc 6000 (mG x.lc a.f a.d a.e).fst (mG x.lc a.f a.d a.e).snd)
def tP(x:fD)(q:cR):=af x.b (aZ q.d) 158
def Pd(z:cR)(e0:fD)(e1:cR):=(xn z e0/\(0<z.d.dp/\z.d.dp<=310)/\(0<=z.e/\z.e+27*(z.f:Int)<=18900)/\mA z.d<z.f/\z.m=de z.d.dp/\d1 e0.lc e0.d=nY e0.lc (lA e0.lc 6000 (mG e0.lc z.f z.d z.e).fst (mG e0.lc z.f z.d z.e).snd))/\G6.snd z=e1
def Q0(e0:fD)(v0:Value)(z:cR)(v1:Value):=ag (iC e0)=ag (iC e0)/\ag eb=ag eb/\aj false=aj false/\v0=ad z.e/\v1=ad z.m/\True
def LI(e0:fD)(e1:cR)(a:ah)(v0 v1:Value)(b:St):=∃(z:cR),Pd z e0 e1/\Q0 e0 v0 z v1/\aE b (gq e0 z a)
def Da(aa:List Value)(pp:List ah)(rr:ah)(b:sX->bq->Prop):=aD 156 qd/\true=true/\∃(z:sX),aa=[ag (me z),ad z.k]/\pp=[af z.b (aZ z.d) 158]/\(z.d.norm/\qq z.lc/\(-200000:Int)<=z.k/\z.k<=200000/\(-100000000:Int)<=z.d.dp/\z.d.dp<=100000000)/\gL z.tb z.lc rr/\∀(a:bq),a=ep z.lc z.d z.k->b z a
def PZ(a:cR)(x:fD):=xn a x/\((-330:Int)<=a.d.dp/\a.d.dp<=0)/\(0<=a.e/\a.e<=18900)/\d1 x.lc x.d=nY x.lc (lA x.lc 6000 a.d a.e)
def Qr(x:fD)(o a:cR):=ag (iC x)=ag (iC x)/\ag eb=ag eb/\aj false=aj false/\ad o.e=ad a.e/\True
def Id(z:cR)(e0:fD):=xn z e0/\((-330:Int)<=z.d.dp/\z.d.dp<=30)/\(z.e<=18900/\27*z.f<=z.e+162000)/\mB z.d<z.f/\d1 e0.lc e0.d=nY e0.lc (lA e0.lc z.f z.d z.e)
def O8(e:cR)(x:fD)(l:cR):=(xn e x/\((-330:Int)<=e.d.dp/\(decide (e.d.dp<0)||e.d.dp==0&&decide (e.d.at_ 0<53))=true)/\(e.e<=18900/\27*e.f<=e.e+162000)/\mB e.d<e.f/\e.m=de ((0:Int)-e.d.dp)/\d1 x.lc x.d=nY x.lc (lA x.lc e.f e.d e.e))/\G6.snd e=l
def LJ(e0:fD)(e1:cR)(a:ah)(v0 v1:Value)(b:St):=∃(z:cR),O8 z e0 e1/\Q0 e0 v0 z v1/\aE b (gq e0 z a)
def IR(e0:fD)(v0:Value)(z:cR):=ag (iC e0)=ag (iC e0)/\ag eb=ag eb/\aj false=aj false/\v0=ad z.e/\True
def Ta(e0:fD)(e1:ah)(v0:Value)(a:St)(mm:Nat):=∃(z:cR),Id z e0/\IR e0 v0 z/\aE a (gq e0 z e1)/\z.f<mm
def Pu(x:fD)(q:cR)(F:ah):=∃(l:cR),(true=true/\T1 (tP x q) ⟨x.b,801,none⟩ (fun k=>eA F ⟨13,0,none⟩ (fun j i h=>aS (bV ((0:Int)-k)>=(i:Int)) (LJ x l F (ad q.e) (ad 27) (gq x q F)) (true=true/\eA F ⟨13,0,none⟩ (fun g f e=>T1 (tP x q) ⟨x.b,801,none⟩ (fun d=>i6 (a7 G5 22 6) [au g f e,ad (bV ((0:Int)-d))] (fun c=>T1 F ⟨c.b,c.o+c.n.toNat*1,none⟩ (fun b=>LJ x l F (ad q.e) (ad b) (gq x q F)))))))))/\aT fun(e:cR)_=>O8 e x l->Da [ag (iC x),ad e.m] [af x.b (aZ e.d) 158] (aH (gq x e F) [0]) (fun c b=>bK (e.e-e.m)/\Ta x F (ad (e.e-e.m)) [(0,af c.b (aZ b) 158),(1,F)] q.f)
def P7(z:cR)(e0:fD):=xn z e0/\((-330:Int)<=z.d.dp/\z.d.dp<=30)/\((-162000:Int)<=z.e/\z.e<=18900)/\d1 e0.lc e0.d=A9 e0.lc z.d z.e
def LK(e0:fD)(e1:ah)(v0:Value)(a:St):=∃(z:cR),P7 z e0/\IR e0 v0 z/\aE a (gq e0 z e1)
def PL(z:cR)(e0:fD):=xn z e0/\((-50000000:Int)<=z.d.dp/\z.d.dp<=50000000)/\((-162001:Int)<=z.e/\z.e<=18900)/\d1 e0.lc e0.d=A_ e0.lc z.d z.e
def LL(e0:fD)(e1:ah)(v0:Value)(a:St):=∃(z:cR),PL z e0/\IR e0 v0 z/\aE a (gq e0 z e1)
def Qs(i:cR):=(-9223372036854775808:Int)<=i.e-(-1023:Int)/\i.e-(-1023:Int)<=(9223372036854775807:Int)
def LM(e0:fD)(e1:ah)(v0 v1:Value)(a:St):=∃(z:cR),(zL z e0/\EZ z/\d1 e0.lc e0.d=yY e0.d.ng z.m z.e)/\(ag (iC e0)=ag (iC e0)/\ag eb=ag eb/\aj false=aj false/\v0=ad z.e/\v1=az z.m/\True)/\aE a (gq e0 z e1)
theorem adg(x:fD)(F:ah)(K:qE.cond x)(A:qE.aO x F):(T1 (B4 x) ⟨x.b,800,none⟩ (fun v=>Br (v==0) (Qq F x) (T1 (B4 x) ⟨x.b,801,none⟩ (fun u=>aS (u>310) (F8 x F [(0,af x.b (aZ x.d) 158),(1,F)]) (T1 (B4 x) ⟨x.b,801,none⟩ (fun t=>aS (t<(-330:Int)) (Qq F x) (((∃(a:cR),H3 a x/\(ag (iC x)=ag (iC x)/\ag eb=ag eb/\aj false=aj false/\ad 0=ad a.e/\True)/\aE [(0,af x.b (aZ x.d) 158),(1,F)] (gq x a F))/\aT fun(o:cR)_=>H3 o x->T1 (tP x o) ⟨x.b,801,none⟩ (fun m=>aS (m>0) (∃(l:cR),(true=true/\T1 (tP x o) ⟨x.b,801,none⟩ (fun k=>eA F ⟨13,0,none⟩ (fun j i h=>aS (k>=i) (LI x l F (ad o.e) (ad 27) (gq x o F)) (true=true/\eA F ⟨13,0,none⟩ (fun g f e=>T1 (tP x o) ⟨x.b,801,none⟩ (fun d=>i6 (a7 G5 15 5) [au g f e,ad d] (fun c=>T1 F ⟨c.b,c.o+c.n.toNat*1,none⟩ (fun b=>LI x l F (ad o.e) (ad b) (gq x o F)))))))))/\aT fun(e:cR)_=>Pd e x l->Da [ag (iC x),ad (bV ((0:Int)-e.m))] [af x.b (aZ e.d) 158] (aH (gq x e F) [0]) (fun c b=>bK (e.e+e.m)/\∃(a:cR),H3 a x/\(ag (iC x)=ag (iC x)/\ag eb=ag eb/\aj false=aj false/\ad (e.e+e.m)=ad a.e/\True)/\aE [(0,af c.b (aZ b) 158),(1,F)] (gq x a F)/\a.f<o.f)) (∃(a:cR),PZ a x/\Qr x o a/\aE (gq x o F) (gq x a F))))/\aT fun(s:cR)_=>PZ s x->((∃(a:cR),Id a x/\Qr x s a/\aE (gq x s F) (gq x a F))/\aT fun(q:cR)_=>Id q x->T1 (tP x q) ⟨x.b,801,none⟩ (fun o=>aS (o<0) (Pu x q F) (T1 (tP x q) ⟨x.b,801,none⟩ (fun n=>Br (n==0) (((0:Int)<=(0:Int)/\0<(↑(800:Nat):Int))/\iZ (tP x q) ⟨x.b,0,none⟩ (fun m=>aS (m<53) (Pu x q F) (LK x F (ad q.e) (gq x q F)))) (LK x F (ad q.e) (gq x q F))))))/\aT fun(k:cR)_=>P7 k x->((-9223372036854775808:Int)<=k.e-1/\k.e-1<=(9223372036854775807:Int))/\(aQ F ⟨11,2,none⟩ mQ/\Es/\aS (k.e-1<(-1023:Int)+(1:Int)) (aQ F ⟨11,2,none⟩ mQ/\Es/\bK ((-1023:Int)+(1:Int)-(k.e-1))/\Da [ag (iC x),ad (bV ((0:Int)-((-1023:Int)+(1:Int)-(k.e-1))))] [af x.b (aZ k.d) 158] (aH (gq x k F) [0]) (fun c b=>bK (k.e-1+((-1023:Int)+(1:Int)-(k.e-1)))/\LL x F (ad (k.e-1+((-1023:Int)+(1:Int)-(k.e-1)))) [(0,af c.b (aZ b) 158),(1,F)])) (LL x F (ad (k.e-1)) (gq x k F)))/\aT fun(i:cR)_=>PL i x->true=true/\aQ F ⟨11,2,none⟩ mQ/\Qs i/\aQ F ⟨11,1,none⟩ tY/\aS (i.e-(-1023:Int)>=bV (bV ((1:Int)*(2:Int)^min (Int.toNat (11:Int)) i64.bits)-1)) (F8 x F (gq x i F)) (aQ F ⟨11,0,none⟩ lL/\Da [ag (iC x),ad (bV (bd ((1:Int)+(52:Int))))] [af x.b (aZ i.d) 158] (aH (gq x i F) [0]) (fun g f=>aD 157 vy/\true=true/\∃(e:kJ),[ag (iC x)]=[ag (iD e)]/\[af g.b (aZ f) 158]=[af e.b (aZ e.d) 158]/\e.d.ok/\True/\∀(d:Unit),True->(aQ F ⟨11,0,none⟩ lL/\Br (ml e.d==bd ((2:Int)*(2:Int)^min (Int.toNat (52:Int)) u64.bits)) (((-9223372036854775808:Int)<=i.e+1/\i.e+1<=(9223372036854775807:Int))/\true=true/\aQ F ⟨11,2,none⟩ mQ/\((-9223372036854775808:Int)<=i.e+1-(-1023:Int)/\i.e+1-(-1023:Int)<=(9223372036854775807:Int))/\aQ F ⟨11,1,none⟩ tY/\aS (i.e+1-(-1023:Int)>=bV (bV ((1:Int)*(2:Int)^min (Int.toNat (11:Int)) i64.bits)-1)) (F8 x F (mc e F)) (LM x F (ad (i.e+1)) (az ((ml e.d).fdiv ((2:Int)^min (Int.toNat (1:Int)) u64.bits))) (mc e F))) (LM x F (ad i.e) (az (ml e.d)) (mc e F)))/\aT fun(c:cR)_=>(zL c x/\EZ c/\d1 x.lc x.d=yY x.d.ng c.m c.e)->aQ F ⟨11,0,none⟩ lL/\Br (bd (↑(ce c.m&&& ce (bd ((1:Int)*(2:Int)^min (Int.toNat (52:Int)) u64.bits))).toNat:Int)==0) (aQ F ⟨11,2,none⟩ mQ/\C_ x F dk mQ (az c.m) (gq x c F)) (C_ x F dk (ad c.e) (az c.m) (gq x c F))))))))))/\aT fun(c:cR)_=>(zL c x/\d1 x.lc x.d=yZ x.d.ng)->true=true/\aQ F ⟨11,1,none⟩ tY/\aQ F ⟨11,2,none⟩ mQ/\C_ x F (aj true) (ad (bV (bV (bV ((1:Int)*(2:Int)^min (Int.toNat (11:Int)) i64.bits)-1)+(-1023:Int)))) (az 0) (gq x c F))/\aT fun(c:cR)_=>(zL c x/\EZ c/\d1 x.lc x.d=sa x.d.ng c.m c.e c.o)->aQ F ⟨11,0,none⟩ lL/\true=true/\aQ F ⟨11,2,none⟩ mQ/\Qs c/\aQ F ⟨11,1,none⟩ tY/\aQ F ⟨11,0,none⟩ lL/\wd (tP x c) ⟨x.b,802,none⟩ (fun a=>Br a (true=true/\aQ F ⟨11,0,none⟩ lL/\aQ F ⟨11,1,none⟩ tY/\ar qE x F (ay (tuple {toList:=[az (bd (↑(ce (bd (↑(ce (bd (↑(ce c.m&&& ce (bd (bd ((1:Int)*(2:Int)^min (Int.toNat (52:Int)) u64.bits)-1))).toNat:Int))|||ce (bd (bd (bV (↑(gY (c.e-(-1023:Int))&&& gY (bV (bV ((1:Int)*(2:Int)^min (Int.toNat (11:Int)) i64.bits)-1))).toNat:Int))*2^min (Int.toNat (52:Int)) u64.bits))).toNat:Int))|||ce (bd (bd ((1:Int)*(2:Int)^min (Int.toNat (52:Int)) u64.bits)*2^min (Int.toNat (11:Int)) u64.bits))).toNat:Int)),aj c.o]})) (gq x c F)) (ar qE x F (ay (tuple ⟨[az (bd (↑(ce (bd (↑(ce c.m&&& ce (bd (bd ((1:Int)*(2:Int)^min (Int.toNat (52:Int)) u64.bits)-1))).toNat:Int))|||ce (bd (bd (bV (↑(gY (c.e-(-1023:Int))&&& gY (bV (bV ((1:Int)*(2:Int)^min (Int.toNat (11:Int)) i64.bits)-1))).toNat:Int))*2^min (Int.toNat (52:Int)) u64.bits))).toNat:Int)),aj c.o]⟩)) (gq x c F))):=by
 delta T1 B4 mQ zL EZ iC eb gq C_ dk Qq F8 xn H3 tP eA Pd Q0 LI i6 me Da PZ Qr Id O8 LJ IR Ta Pu iZ P7 LK Es PL LL Qs tY lL iD mc LM wd aH bK ad ba az aj ag au af ce gY bd bV aS ay aT;obtain⟨b,d,tb,lc⟩:=x;obtain⟨⟨hl,hd⟩,G,U,V⟩:=K;replace A:gL tb lc F:=A;dsimp only at hl hd G U V⊢;obtain⟨X,Y,pc,t1,t2⟩:=A.pt;have w:∀v:bq,aE [(0,.cells b (aZ v) 158),(1,F)] [(0,.cells b (aZ v) 158),(1,F)]:=fun v=>aA [0,1];have rr:∀v:bq,gL tb lc (.du (rest [(0,.cells b (aZ v) 158),(1,F)] [0])):=fun v=>A.sub (bU 1);have Q:i64.wrap (i64.wrap (1*2^min (Int.toNat 11) i64.bits)-1)=2047:=by decide
 refine⟨⟨⟨d.nd,jZ hl,aG (fun q=>⟨A.i2,⟨d,-1023,0,false,0⟩,⟨⟨hl,rfl⟩,⟨by simp[*],by simp[*]⟩,by unfold d1;simp[*]⟩,aV,w _⟩) (fun q=>?_)⟩,?_⟩,?_⟩
 ·have S:d.norm:=by
   grind
  refine⟨d.dp,lE hl,bo (fun q1=>⟨⟨d,0,0,true,0⟩,⟨⟨hl,rfl⟩,by unfold d1;simp[*]⟩,aV,w _⟩) (fun q1=>⟨d.dp,lE hl,bo (fun q2=>⟨A.i2,⟨d,-1023,0,false,0⟩,⟨⟨hl,rfl⟩,⟨by simp[*],by simp[*]⟩,by unfold d1;simp[*]⟩,aV,w _⟩) (fun q2=>?_)⟩)⟩;have W:d1 lc d=nY lc (lA lc 6000 (mG lc 700 d 0).1 (mG lc 700 d 0).2):=by
   unfold d1 UE;simp[*]
  have hm0:=Of d;refine⟨⟨⟨⟨d,0,0,false,700⟩,⟨⟨S,rfl⟩,⟨by grind,by grind⟩,⟨cE _,by simp[*]⟩,by grind,W⟩,aV,w _⟩,?_⟩,?_⟩
  ·rintro⟨D,e,_,_,f⟩ J ⟨⟨g1,p⟩,⟨g3,g4⟩,⟨C,E⟩,O,r⟩;dsimp only at g1 p g3 g4 C E O r⊢;obtain⟨f,rfl⟩:∃j,f=j+1:=⟨f-1,ae⟩;refine⟨D.dp,lE g1.len,bo (fun q=>?_) (fun q=>⟨⟨D,e,0,false,0⟩,⟨⟨g1,p⟩,⟨g3,by grind⟩,⟨C,by grind⟩,by rw[r,mG,bF q,aN]⟩,aV,w _⟩)⟩;obtain⟨⟨w1,w2⟩,-⟩:=D8 (z:=D.dp) ae;have st:∀m:Int,m=de D.dp->((((D.norm/\D.ng=d.ng)/\(0<D.dp/\D.dp<=310)/\(0<=e/\e+27*((f+1:Nat):Int)<=18900)/\mA D<f+1/\m=de D.dp/\d1 lc d=nY lc (lA lc 6000 (mG lc (f+1) D e).1 (mG lc (f+1) D e).2)))):=fun m hm=>⟨⟨g1,p⟩,⟨ae,g4⟩,⟨C,E⟩,O,hm,r⟩;refine⟨⟨D,e,de D.dp,false,f+1⟩,⟨rfl,D.dp,lE g1.len,_,9,pc,t1,bo (fun q1=>⟨⟨D,e,de D.dp,false,f+1⟩,⟨st _ rfl,rfl⟩,⟨rfl,rfl,rfl,rfl,?_,ao⟩,w _⟩) (fun q1=>⟨rfl,_,9,pc,t1,D.dp,lE g1.len,gG 1 rfl rfl rfl rfl,⟨X,Y,9,pc,D.dp⟩,rfl,⟨by grind,by grind⟩,(pX D.dp.toNat:Nat),?_,⟨D,e,de D.dp,false,f+1⟩,⟨st _ rfl,rfl⟩,⟨rfl,rfl,rfl,rfl,?_,ao⟩,w _⟩)⟩,?_⟩
   ·unfold de;grind
   ·grind
   ·unfold de;grind
   ·rintro⟨B,P,Z,o2,f2⟩ J ⟨-,I⟩;obtain⟨rfl,rfl,rfl,rfl,rfl⟩:=cR.mk.inj I;obtain⟨s1,s2,R,L,s5⟩:=akj (lc:=lc) g1 q;dsimp only;refine⟨Fm,rfl,⟨b,B,0-de B.dp,tb,lc⟩,by rw[dG (i:=.i64) (n:=0-de B.dp) aK],rfl,⟨g1,G,by grind,by grind,by grind,by grind⟩,rr B,?_⟩;rintro y rfl;exact⟨aK,⟨ep lc B (0-de B.dp),P+de B.dp,0,false,f⟩,⟨⟨s1,s2.trans p⟩,⟨by grind,by grind⟩,⟨by grind,by grind⟩,by grind,by rw[r,mG,bw q,aU]⟩,aV,w _,by simp[*]⟩
  rintro⟨D,e,_,_,_⟩ J ⟨⟨g1,p⟩,⟨g3,g4⟩,⟨C,E⟩,r⟩;dsimp only at g1 p g3 g4 C E r⊢;have N:mB D<6000:=by
   have h0:=g1.gV 0 (by have:=g1.pos;omega);unfold mB;grind
  refine⟨⟨⟨⟨D,e,0,false,6000⟩,⟨⟨g1,p⟩,⟨g3,by grind⟩,⟨E,by grind⟩,N,r⟩,aV,w _⟩,?_⟩,?_⟩
  ·clear g1 p g3 g4 C E r N D e;rintro⟨D,e,_,_,f⟩ J ⟨⟨g1,p⟩,⟨g3,g4⟩,⟨C,E⟩,O,r⟩;dsimp only at g1 p g3 g4 C E O r⊢;obtain⟨f,rfl⟩:∃j,f=j+1:=⟨f-1,ae⟩;have out:(decide (D.dp<0)||(D.dp==0&&decide (D.at_ 0<53)))=false->d1 lc d=A9 lc D e:=fun h=>by
    rw[r,lA,h,aN];rfl
   refine⟨D.dp,lE g1.len,bo (fun q=>?_) (fun q=>⟨D.dp,lE g1.len,aG (fun q1=>⟨⟨by decide,by decide⟩,D.at_ 0,wG g1.len (by decide),bo (fun q2=>?_) (fun q2=>⟨⟨D,e,0,false,0⟩,⟨⟨g1,p⟩,⟨g3,g4⟩,⟨by grind,ae⟩,out (by simp[*])⟩,aV,w _⟩)⟩) (fun q1=>⟨⟨D,e,0,false,0⟩,⟨⟨g1,p⟩,⟨g3,g4⟩,⟨by grind,ae⟩,out (by simp[*])⟩,aV,w _⟩)⟩)⟩
   ·have K:(decide (D.dp<0)||(D.dp==0&&decide (D.at_ 0<53)))=true:=by simp[*]
    have T:D.dp<=0:=by
     omega
    obtain⟨⟨w1,w2⟩,-⟩:=D8 (z:=0-D.dp) ae;have st:(((D.norm/\D.ng=d.ng)/\(-330<=D.dp/\(decide (D.dp<0)||(D.dp==0&&decide (D.at_ 0<53)))=true)/\(e<=18900/\27*((f+1:Nat):Int)<=e+162000)/\mB D<f+1/\de (0-D.dp)=de (0-D.dp)/\d1 lc d=nY lc (lA lc (f+1) D e))):=⟨⟨g1,p⟩,⟨g3,K⟩,⟨C,E⟩,O,rfl,r⟩;have H:i64.wrap (0-D.dp)=0-D.dp:=dG (i:=.i64) (n:=0-D.dp) aK;refine⟨⟨D,e,de (0-D.dp),false,f+1⟩,⟨rfl,D.dp,lE g1.len,_,9,pc,t1,bo (fun q5=>⟨⟨D,e,de (0-D.dp),false,f+1⟩,⟨st,rfl⟩,⟨rfl,rfl,rfl,rfl,?_,ao⟩,w _⟩) (fun q5=>⟨rfl,_,9,pc,t1,D.dp,lE g1.len,gG 1 rfl rfl rfl rfl,⟨X,Y,9,pc,0-D.dp⟩,by rw[H],⟨by simp[*],by grind⟩,(pX (0-D.dp).toNat:Nat),?_,⟨D,e,de (0-D.dp),false,f+1⟩,⟨st,rfl⟩,⟨rfl,rfl,rfl,rfl,?_,ao⟩,w _⟩)⟩,?_⟩
    ·rw[H]at q5;unfold de;grind
    ·grind
    ·rw[H]at q5;unfold de;grind
    ·rintro⟨B,P,Z,o2,f2⟩ J ⟨-,I⟩;obtain⟨rfl,rfl,rfl,rfl,rfl⟩:=cR.mk.inj I;obtain⟨s1,s2,R,L,s5⟩:=Xh G g1 K;dsimp only;refine bs Fm ⟨b,B,de (0-B.dp),tb,lc⟩ ⟨g1,G,by grind,by grind,by grind,by grind⟩ (rr B) (?_);rintro y rfl;exact⟨aK,⟨ep lc B (de (0-B.dp)),P-de (0-B.dp),0,false,f⟩,⟨⟨s1,s2.trans p⟩,⟨by grind,by grind⟩,⟨by grind,by grind⟩,by grind,by rw[r,lA,K,aU]⟩,aV,w _,by simp[*]⟩
   ·have K:(decide (D.dp<0)||(D.dp==0&&decide (D.at_ 0<53)))=true:=by simp[*]
    have T:D.dp<=0:=by
     grind
    obtain⟨⟨w1,w2⟩,-⟩:=D8 (z:=0-D.dp) ae;have st:(((D.norm/\D.ng=d.ng)/\(-330<=D.dp/\(decide (D.dp<0)||(D.dp==0&&decide (D.at_ 0<53)))=true)/\(e<=18900/\27*((f+1:Nat):Int)<=e+162000)/\mB D<f+1/\de (0-D.dp)=de (0-D.dp)/\d1 lc d=nY lc (lA lc (f+1) D e))):=⟨⟨g1,p⟩,⟨g3,K⟩,⟨C,E⟩,O,rfl,r⟩;have H:i64.wrap (0-D.dp)=0-D.dp:=dG (i:=.i64) (n:=0-D.dp) aK;refine⟨⟨D,e,de (0-D.dp),false,f+1⟩,⟨rfl,D.dp,lE g1.len,_,9,pc,t1,bo (fun q5=>⟨⟨D,e,de (0-D.dp),false,f+1⟩,⟨st,rfl⟩,⟨rfl,rfl,rfl,rfl,?_,ao⟩,w _⟩) (fun q5=>⟨rfl,_,9,pc,t1,D.dp,lE g1.len,gG 1 rfl rfl rfl rfl,⟨X,Y,9,pc,0-D.dp⟩,by rw[H],⟨by simp[*],by grind⟩,(pX (0-D.dp).toNat:Nat),?_,⟨D,e,de (0-D.dp),false,f+1⟩,⟨st,rfl⟩,⟨rfl,rfl,rfl,rfl,?_,ao⟩,w _⟩)⟩,?_⟩
    ·omega
    ·grind
    ·rw[H]at q5;unfold de;grind
    ·rintro⟨B,P,Z,o2,f2⟩ J ⟨-,I⟩;obtain⟨rfl,rfl,rfl,rfl,rfl⟩:=cR.mk.inj I;obtain⟨s1,s2,R,L,s5⟩:=Xh G g1 K;dsimp only;refine bs Fm ⟨b,B,de (0-B.dp),tb,lc⟩ ⟨g1,G,by grind,by grind,by grind,by grind⟩ (rr B) (?_);rintro y rfl;exact⟨aK,⟨ep lc B (de (0-B.dp)),P-de (0-B.dp),0,false,f⟩,⟨⟨s1,s2.trans p⟩,⟨by grind,by grind⟩,⟨by grind,by grind⟩,by grind,by rw[r,lA,K,aU]⟩,aV,w _,by simp[*]⟩
  clear g1 p g3 g4 C E r N D e;rintro⟨D,e,_,_,_⟩ J ⟨⟨g1,p⟩,⟨g3,g4⟩,⟨C,E⟩,r⟩;dsimp only at g1 p g3 g4 C E r⊢;refine⟨aK,⟨A.i2,⟨by decide,by decide⟩,bo (fun q=>⟨A.i2,⟨by decide,by decide⟩,aK,Fm,rfl,⟨b,D,0-(-1023+1-(e-1)),tb,lc⟩,by rw[dG (i:=.i64) (n:=0-(-1023+1-(e-1))) aK],rfl,⟨g1,G,by grind,by grind,by grind,by grind⟩,rr D,?_⟩) (fun q=>⟨⟨D,e-1,0,false,0⟩,⟨⟨g1,p⟩,⟨by grind,by grind⟩,⟨by grind,by grind⟩,by rw[r,A9,bF q,aN]⟩,aV,w _⟩)⟩,?_⟩
  ·rintro y rfl;obtain⟨s1,s2,R,L⟩:=Xa G g1 (k:=0-(-1023+1-(e-1))) ae ae;exact⟨aK,⟨ep lc D (0-(-1023+1-(e-1))),e-1+(-1023+1-(e-1)),0,false,0⟩,⟨⟨s1,L.trans p⟩,⟨by grind,by grind⟩,⟨by grind,by grind⟩,by rw[r,A9,bw q,aU]⟩,aV,w _⟩
  clear g1 p g3 g4 C E r D e;rintro⟨D,e,_,_,_⟩ J ⟨⟨g1,p⟩,⟨g3,g4⟩,⟨C,E⟩,r⟩;dsimp only at g1 p g3 g4 C E r⊢;rw[Q];obtain⟨s1,s2,R,L⟩:=Xa G g1 (k:=53) (by decide) (by decide);refine⟨rfl,A.i2,aK,A.i1,bo (fun q=>⟨⟨D,0,0,true,0⟩,⟨⟨g1.len,p⟩,by rw[r,A_,bw q,aU,p]⟩,aV,w _⟩) (fun q=>⟨A.i0,Fm,rfl,⟨b,D,53,tb,lc⟩,by rw[show i64.wrap (u64.wrap (1+52))=53 by decide],rfl,⟨g1,G,by simp[*],by simp[*],by grind,by grind⟩,rr D,?_⟩)⟩;rintro y rfl;have M:d1 lc d=DJ d.ng (ml (ep lc D 53)) e:=by rw[r,A_,bF q,aN,p]
  refine bO ajd ⟨b,ep lc D 53⟩ s1.ok fun _ _=>⟨⟨A.i0,aG (fun q1=>⟨aK,rfl,A.i2,aK,A.i1,bo (fun q2=>⟨⟨ep lc D 53,0,0,true,0⟩,⟨⟨s1.len,L.trans p⟩,by rw[M,DJ,q1,aU,bw q2,aU]⟩,aV,w _⟩) (fun q2=>⟨⟨ep lc D 53,e+1,(ml (ep lc D 53)).fdiv (2^min (Int.toNat 1) u64.bits),false,0⟩,⟨⟨s1.len,L.trans p⟩,⟨by grind,by grind⟩,by rw[M,DJ,q1,aU,bF q2,aN]⟩,aV,w _⟩)⟩) (fun q1=>⟨⟨ep lc D 53,e,ml (ep lc D 53),false,0⟩,⟨⟨s1.len,L.trans p⟩,⟨ae,by grind⟩,by rw[M,DJ,q1,aN]⟩,aV,w _⟩)⟩,?_⟩;rintro⟨D,e,m,_,_⟩ J ⟨⟨g1,p⟩,⟨C,E⟩,r⟩;dsimp only at g1 p C E r⊢;exact⟨A.i0,aG (fun q=>⟨A.i2,⟨D,-1023,m,false,0⟩,⟨⟨g1,p⟩,⟨by simp[*],by simp[*]⟩,by rw[r,yY,q,aU]⟩,aV,w _⟩) (fun q=>⟨⟨D,e,m,false,0⟩,⟨⟨g1,p⟩,⟨C,E⟩,by rw[r,yY,q,aN]⟩,aV,w _⟩)⟩
 ·rintro⟨D,_,_,_,_⟩ J ⟨⟨g1,p⟩,r⟩;dsimp only at g1 p r⊢;refine⟨rfl,A.i1,A.i2,⟨D,1024,0,true,0⟩,⟨⟨g1,p⟩,⟨by simp[*],by simp[*]⟩,?_⟩,⟨rfl,rfl,rfl,congrArg _ (show _=(1024:Int) by decide),rfl,ao⟩,w _⟩;rw[r,yZ];rfl
 ·rintro⟨D,e,m,o,_⟩ J ⟨⟨g1,p⟩,⟨C,E⟩,r⟩;dsimp only at g1 p C E r⊢;refine⟨A.i0,rfl,A.i2,aK,A.i1,A.i0,D.ng,afY g1,aG (fun q=>⟨rfl,A.i0,A.i1,D,g1,?_,w _⟩) (fun q=>⟨D,g1,?_,w _⟩)⟩
  ·show _=returned (.tuple #[.int .u64 (d1 lc d).1,.bool (d1 lc d).2]);rw[r,sa,<-p,q];rfl
  ·show _=returned (.tuple #[.int .u64 (d1 lc d).1,.bool (d1 lc d).2]);rw[r,sa,<-p,q];rfl
theorem ade(x:aR.X qE)(F:ah)(a:qE.cond x)(b:qE.aO x F):qp Tryz.prog 243 G5 (UH x F) [] (hH G5) (nh (aR.args qE x)) (bC (aR.pre qE x++[F])) (UF x) (ar qE x F):=
 Eq.mpr bl (adg x F a b)
theorem adf:aD 131 qE:=
 ady (N:=243) (l1:=1) (l0:=0) bl (r:=wy (hH Tryz.f131)) (c:=W1 (hH Tryz.f131)) Tryz.func131 bl bl (fun _=>Nat.le_of_ble_eq_true rfl) bl bl bl bl bl bl bl bl bl bl UH [] UF (fun _ h=>nomatch h) ade
end
section
open Go
structure fE where
 i:Int
 sd:Bool
 sg:Bool
 d:bq
structure ey where
 i:Int
 d:bq
 sg:Int
 e:Int
 us:Bool
def dZ:bq:=⟨List.replicate 800 0,0,0,false,false⟩
def bq.lY(d:bq)(p:Int):bq:=⟨d.ds,d.nd,p,d.ng,d.tr⟩
def bq.FD(d:bq)(t:Bool):bq:=⟨d.ds,d.nd,d.dp,d.ng,t⟩
def bq.push(d:bq)(c:Int):bq:=⟨d.ds.set d.nd.toNat c,d.nd+1,d.dp,d.ng,d.tr⟩
def ox(s:ByteArray)(x:fE):Nat×fE:=
 bif aF s x.i==95 then (0,⟨x.i+1,x.sd,x.sg,x.d⟩)
 else bif aF s x.i==46 then (bif x.sd then (2,x) else (0,⟨x.i+1,true,x.sg,x.d.lY x.d.nd⟩))
 else bif eP (aF s x.i) then
  (bif (bif aF s x.i==48 then x.d.nd==0 else false) then (0,⟨x.i+1,x.sd,true,x.d.lY (x.d.dp-1)⟩)
  else bif decide (x.d.nd<800) then (0,⟨x.i+1,x.sd,true,x.d.push (aF s x.i)⟩)
  else bif aF s x.i !=48 then (0,⟨x.i+1,x.sd,true,x.d.FD true⟩) else (0,⟨x.i+1,x.sd,true,x.d⟩))
 else (1,x)
def uc(s:ByteArray):Nat->fE->Option fE
 |0,x=>some x
 |f+1,x=>bif (ox s x).1==0 then uc s f (ox s x).2 else bif (ox s x).1==1 then some x else none
def ub(s:ByteArray)(i:Int)(d:bq):Option bq:=bif i !=(s.size:Int) then none else some d
def Cu(s:ByteArray)(f:Nat)(i e:Int)(us:Bool)(d:bq)(sg:Int):Option bq:=ub s (j_ s f i e us).1 (d.lY (d.dp+(j_ s f i e us).2.1*sg))
def vE(s:ByteArray)(i:Int)(d:bq)(sg:Int):Option bq:=
 bif (bif (bif decide (i>=s.size) then true else decide (aF s i<48)) then true else decide (aF s i>57)) then none
 else Cu s ((s.size:Int)-i).toNat i 0 false d sg
def Ct(s:ByteArray)(i:Int)(d:bq):Option bq:=
 bif decide (i>=s.size) then none
 else bif aF s i==43 then vE s (i+1) d 1
 else bif aF s i==45 then vE s (i+1) d (-1) else vE s i d 1
def xH(s:ByteArray)(i:Int)(d:bq):Option bq:=
 bif (bif decide (i<s.size) then eK (aF s i)==101 else false) then Ct s (i+1) d else ub s i d
def rj(s:ByteArray)(x:fE):Option bq:=
 bif !x.sg then none else bif !x.sd then xH s x.i (x.d.lY x.d.nd) else xH s x.i x.d
def W4(s:ByteArray):Option bq:=(uc s ((s.size:Int)-c9 s).toNat ⟨c9 s,false,false,⟨dZ.ds,0,0,bY s,false⟩⟩).bind (rj s)
def eN(s:ByteArray):Option bq:=bif decide (0>=(s.size:Int)) then none else W4 s
structure bq.iy(d:bq):Prop where
 len:d.ds.length=800
 lo:0<=d.nd
 hi:d.nd<=800
 gV:∀i:Nat,(i:Int)<d.nd->48<=d.at_ i/\d.at_ i<=57
 fst:1<=d.nd->d.at_ 0≠48
theorem bq.iy.or{d:bq}(h:d.iy):d.nd=0\/d.norm:=by
 rcases Int.lt_or_le 0 d.nd with q|q
 ·exact .inr ⟨h.len,ae,h.hi,h.gV,h.fst ae⟩
 ·exact .inl (by have:=h.lo;omega)
theorem bq.iy.lY{d:bq}(h:d.iy)(p:Int):(d.lY p).iy:=⟨h.len,h.lo,h.hi,h.gV,h.fst⟩
theorem bq.iy.FD{d:bq}(h:d.iy)(t:Bool):(d.FD t).iy:=⟨h.len,h.lo,h.hi,h.gV,h.fst⟩
theorem bq.iy.push{d:bq}(h:d.iy){c:Int}(hn:d.nd<800)(f:48<=c)(g:c<=57)(j:d.nd=0->c≠48):(d.push c).iy:=by
 have b:=h.lo;have hl:=h.len;have a:∀i,(d.push c).at_ i=if i=d.nd.toNat then c else d.at_ i:=fun i=>by
  show(d.ds.set d.nd.toNat c).getD i 0=_;rw[ft,List.getElem?_set];by_cases e:d.nd.toNat=i
  ·grind
  ·rw[if_neg e,if_neg (fun h=>e h.symm),<-ft];rfl
 refine⟨?_,?_,?_,fun i hi=>?_,fun _=>?_⟩
 ·show(d.ds.set d.nd.toNat c).length=800;simp[*]
 ·show 0<=d.nd+1;omega
 ·show d.nd+1<=800;omega
 ·have hi:(i:Int)<d.nd+1:=hi;rw[a];by_cases e:i=d.nd.toNat
  ·omega
  ·rw[if_neg e];exact h.gV i ae
 ·rw[a];by_cases e:0=d.nd.toNat
  ·omega
  ·rw[if_neg e];exact h.fst ae
theorem Uh(n t:Bool):(⟨dZ.ds,0,0,n,t⟩:bq).iy:=⟨by unfold dZ;dsimp only;rw[List.length_replicate],cE _,a_,fun i hi=>by dsimp only at hi;omega,fun h=>by dsimp only at h;omega⟩
structure ez where
 b:Nat
 s:ByteArray
 d:bq
def jz(x:ez):Option Addr:=some ⟨x.b,0,none⟩
def vG:aR where
 X:=ez
 Y:=bq
 args x:=[ag (jz x),ai x.s]
 pre x:=[af x.b (aZ x.d) 158]
 cond x:=x.s.size<=1000000000/\x.d=dZ
 b_ x y:=y.ds.length=800/\∀v,eN x.s=some v->y=v/\v.iy/\ -3000000000<=v.dp/\v.dp<=3000000000
 val x _:=ay (aj (eN x.s).isSome)
 post x y:=[af x.b (aZ y) 158]
 eT _ _ _ _ h:=h
def xI(s:ByteArray)(x:fE):Prop:=(0<=x.i/\x.i<=s.size)/\x.d.iy/\x.d.nd<=x.i/\ -x.i<=x.d.dp/\x.d.dp<=x.i
def W5:(T:Type)×(fE->T):=⟨fE,fun d=>d⟩
def W6:(T:Type)×(ey->T):=⟨ey,fun d=>d⟩
def Sj(x:ez)(d:fE):List (Nat×Value):=[(0,.pointer (some ⟨x.b,0,none⟩)),(1,.string x.s),(4,.bool false),(5,.int .i64 d.i),(6,.bool d.sd),(7,.bool d.sg)]
def Sk(x:ez)(d:ey):List (Nat×Value):=[(0,.pointer (some ⟨x.b,0,none⟩)),(1,.string x.s),(4,.bool false),(5,.int .i64 d.i),(8,.int .i64 d.sg),(9,.int .i64 d.e)]
def qb(s:ByteArray)(x:ey):Prop:=(0<=x.i/\x.i<=s.size)/\x.d.iy/\ -1000000000<=x.d.dp/\x.d.dp<=1000000000
def sz(x:ez)(d:fE):=af x.b (aZ d.d) 158
def w8(x:ez)(d:ey):=af x.b (aZ d.d) 158
def ajN(x:ez)(F:ah):Nat->Option Inv:=fun
 |1=>some {X:=fE,P:=fun d=>xI x.s d/\eN x.s=(uc x.s ((x.s.size:Int)-d.i).toNat d).bind (rj x.s),mu:=fun d=>((x.s.size:Int)-d.i).toNat,lv:=fun d=>Sj x d,st:=fun d=>[sz x d,F]}
 |5=>some {X:=ey,P:=fun d=>qb x.s d/\(d.sg=1\/d.sg= -1)/\0<=d.e/\d.e<=100100/\eN x.s=Cu x.s ((x.s.size:Int)-d.i).toNat d.i d.e d.us d.d d.sg,mu:=fun d=>((x.s.size:Int)-d.i).toNat,lv:=fun d=>Sk x d,st:=fun d=>[w8 x d,F]}
 |_=>none
def ajM(x:ez)(F:ah):Nat->Option Inv:=fun
 |11=>some {X:=fE,P:=fun d=>0<x.s.size/\d=⟨c9 x.s,false,false,⟨dZ.ds,0,0,bY x.s,false⟩⟩,mu:=fun _=>0,lv:=fun d=>[(0,ag (jz x)),(1,ai x.s),(4,dk),(5,ad d.i)],st:=fun d=>[sz x d,F]}
 |24=>some {X:=fE,gh:=some W5,P:=fun d=>xI x.s d/\d.i<x.s.size/\d.sg=true/\(bif aF x.s d.i==48 then d.d.nd==0 else false)=false,mu:=fun _=>0,lv:=fun d=>Sj x d,st:=fun d=>[sz x d,F]}
 |29=>some {X:=fE,P:=fun d=>xI x.s d/\eN x.s=rj x.s d,mu:=fun _=>0,lv:=fun d=>Sj x d,st:=fun d=>[sz x d,F]}
 |32=>some {X:=ey,P:=fun d=>qb x.s d/\eN x.s=xH x.s d.i d.d,mu:=fun _=>0,lv:=fun d=>[(0,ag (jz x)),(1,ai x.s),(4,dk),(5,ad d.i)],st:=fun d=>[w8 x d,F]}
 |42=>some {X:=ey,P:=fun d=>qb x.s d/\(d.sg=1\/d.sg= -1)/\eN x.s=vE x.s d.i d.d d.sg,mu:=fun _=>0,lv:=fun d=>[(0,ag (jz x)),(1,ai x.s),(4,dk),(5,ad d.i),(8,ad d.sg)],st:=fun d=>[w8 x d,F]}
 |46=>some {X:=ey,gh:=some W6,P:=fun d=>qb x.s d/\d.i<x.s.size/\(aF x.s d.i==95||eP (aF x.s d.i))=true,mu:=fun _=>0,lv:=fun d=>Sk x d,st:=fun d=>[w8 x d,F]}
 |49=>some {X:=ey,P:=fun d=>qb x.s d/\(d.sg=1\/d.sg= -1)/\0<=d.e/\d.e<=100100/\eN x.s=ub x.s d.i (d.d.lY (d.d.dp+d.e*d.sg)),mu:=fun _=>0,lv:=fun d=>Sk x d,st:=fun d=>[w8 x d,F]}
 |50=>some {X:=ey,P:=fun d=>((0<=d.i/\d.i<=x.s.size)/\d.d.iy/\ -3000000000<=d.d.dp/\d.d.dp<=3000000000)/\eN x.s=ub x.s d.i d.d,mu:=fun _=>0,lv:=fun d=>[(0,ag (jz x)),(1,ai x.s),(4,dk),(5,ad d.i)],st:=fun d=>[w8 x d,F]}
 |_=>none
def Jm(x:ez)(F:ah):=[(0,af x.b (((aZ x.d).set 802 dk).set 803 dk) 158),(1,F)]
def Re(e0:ez)(z:fE):=0<e0.s.size/\z=⟨c9 e0.s,false,false,⟨dZ.ds,(0:Int),(0:Int),bY e0.s,false⟩⟩
def om(e0:ez)(z:fE)(e1:ah):=[(0,af e0.b (aZ z.d) 158),(1,e1)]
def F9(e0:ez)(e1:ah)(v0:Value)(a:St):=∃(z:fE),Re e0 z/\(ag (jz e0)=ag (jz e0)/\ai e0.s=ai e0.s/\aj false=aj false/\v0=ad z.i/\True)/\aE a (om e0 z e1)
def Je(e0:ez)(z:fE):=xI e0.s z/\eN e0.s=(uc e0.s (e0.s.size-z.i).toNat z).bind (rj e0.s)
def xi(i:fE)(x:ez):=0<=i.i/\i.i<x.s.size
def zA(i:fE):=(-9223372036854775808:Int)<=i.i+1/\i.i+1<=(9223372036854775807:Int)
def IK(e0:ez)(v0:Value)(z:fE)(v1 v2:Value):=ag (jz e0)=ag (jz e0)/\ai e0.s=ai e0.s/\aj false=aj false/\v0=ad z.i/\v1=aj z.sd/\v2=aj z.sg/\True
def yv(e0:ez)(e1:ah)(v0 v1 v2:Value)(a:St)(mm:Nat):=∃(z:fE),Je e0 z/\IK e0 v0 z v1 v2/\aE a (om e0 z e1)/\(e0.s.size-z.i).toNat<mm
def zX(i:fE):=ad (i.i+1)
def J9(x:ez)(i:fE):=aw x.b 801/\801<(aZ i.d).length
def QR(e0:ez)(z e1:fE):=(xI e0.s z/\z.i<e0.s.size/\z.sg=true/\(bif aF e0.s z.i==48 then z.d.nd==0 else false)=false)/\W5.snd z=e1
def LN(e0:ez)(e1:fE)(a:ah)(v0 v1 v2:Value)(b:St):=∃(z:fE),QR e0 z e1/\IK e0 v0 z v1 v2/\aE b (om e0 z a)
def Tb(e0:ez)(e1:ah)(v0 v1 v2:Value)(a:St):=∃(z:fE),(xI e0.s z/\eN e0.s=rj e0.s z)/\IK e0 v0 z v1 v2/\aE a (om e0 z e1)
def JB(x:ez)(F:ah)(i:fE):=Tb x F (ad i.i) (aj i.sd) (aj i.sg) (om x i F)
def Q1(e0:ez)(v0:Value)(z:ey):=ag (jz e0)=ag (jz e0)/\ai e0.s=ai e0.s/\aj false=aj false/\v0=ad z.i/\True
def j6(e0:ez)(z:ey)(e1:ah):=[(0,af e0.b (aZ z.d) 158),(1,e1)]
def LO(e0:ez)(e1:ah)(v0:Value)(a:St):=∃(z:ey),(qb e0.s z/\eN e0.s=xH e0.s z.i z.d)/\Q1 e0 v0 z/\aE a (j6 e0 z e1)
def vl(f:ey)(x:ez):=0<=f.i/\f.i<x.s.size
def IC(l:ey):=(-9223372036854775808:Int)<=l.i+1/\l.i+1<=(9223372036854775807:Int)
def Ce(x:ez)(F:ah)(l:ey):=ar vG x F cQ (j6 x l F)
def Qz(l:ey):=(-9223372036854775808:Int)<=l.i+1+(1:Int)/\l.i+1+(1:Int)<=(9223372036854775807:Int)
def RV(e0:ez)(z:ey):=qb e0.s z/\(z.sg=1\/z.sg=(-1:Int))/\eN e0.s=vE e0.s z.i z.d z.sg
def F_(e0:ez)(e1:ah)(v0 v1:Value)(a:St):=∃(z:ey),RV e0 z/\(ag (jz e0)=ag (jz e0)/\ai e0.s=ai e0.s/\aj false=aj false/\v0=ad z.i/\v1=ad z.sg/\True)/\aE a (j6 e0 z e1)
def Iy(e0:ez)(z:ey):=qb e0.s z/\(z.sg=1\/z.sg=(-1:Int))/\0<=z.e/\z.e<=100100/\eN e0.s=Cu e0.s (e0.s.size-z.i).toNat z.i z.e z.us z.d z.sg
def Rw(e0:ez)(z e1:ey):=(qb e0.s z/\z.i<e0.s.size/\(aF e0.s z.i==95||eP (aF e0.s z.i))=true)/\W6.snd z=e1
def ID(e0:ez)(v0:Value)(z:ey)(v1 v2:Value):=ag (jz e0)=ag (jz e0)/\ai e0.s=ai e0.s/\aj false=aj false/\v0=ad z.i/\v1=ad z.sg/\v2=ad z.e/\True
def LP(e0:ez)(e1:ey)(a:ah)(v0 v1 v2:Value)(b:St):=∃(z:ey),Rw e0 z e1/\ID e0 v0 z v1 v2/\aE b (j6 e0 z a)
def Qo(e0:ez)(z:ey):=qb e0.s z/\(z.sg=1\/z.sg=(-1:Int))/\0<=z.e/\z.e<=100100/\eN e0.s=ub e0.s z.i (z.d.lY (z.d.dp+z.e*z.sg))
def LQ(e0:ez)(e1:ah)(v0 v1 v2:Value)(a:St):=∃(z:ey),Qo e0 z/\ID e0 v0 z v1 v2/\aE a (j6 e0 z e1)
def Pq(f:ey)(x:ez)(d:ey)(F:ah):=vl f x/\Br (aF x.s f.i==95) (LP x d F (ad f.i) (ad f.sg) (ad f.e) (j6 x f F)) (LQ x F (ad f.i) (ad f.sg) (ad f.e) (j6 x f F))
def LS(e0:ez)(e1:ah)(v0 v1 v2:Value)(a:St)(mm:Nat):=∃(z:ey),Iy e0 z/\ID e0 v0 z v1 v2/\aE a (j6 e0 z e1)/\(e0.s.size-z.i).toNat<mm
def Ri(c:ey)(x:ez)(F:ah)(f:ey):=IC c/\LS x F (ad (c.i+1)) (ad c.sg) (ad c.e) (j6 x c F) ((x.s.size-f.i).toNat)
def Qm(z:ey)(e0:ez):=((0<=z.i/\z.i<=e0.s.size)/\z.d.iy/\(-3000000000:Int)<=z.d.dp/\z.d.dp<=3000000000)/\eN e0.s=ub e0.s z.i z.d
def Ga(e0:ez)(e1:ah)(v0:Value)(a:St):=∃(z:ey),Qm z e0/\Q1 e0 v0 z/\aE a (j6 e0 z e1)
theorem ajQ(x:ez)(F:ah)(Z:vG.cond x)(hr:vG.aO x F):(aw x.b 802/\802<(aZ x.d).length)/\(aw x.b 803/\803<((aZ x.d).set 802 dk).length)/\aS (0>=(x.s.size:Int)) (ar vG x F cQ (Jm x F)) ((((0:Int)<=(0:Int)/\0<(x.s.size:Int))/\Br (aF x.s (0:Int)==(43:Int)) (BM/\F9 x F B_ (Jm x F)) (Br (aF x.s (0:Int)==(45:Int)) (BM/\(aw x.b 802/\802<(((aZ x.d).set 802 dk).set 803 dk).length)/\F9 x F B_ [(0,af x.b ((((aZ x.d).set 802 dk).set 803 dk).set 802 (aj true)) 158),(1,F)]) (F9 x F (ad 0) (Jm x F))))/\aT fun(p:fE)_=>Re x p->((∃(a:fE),Je x a/\(ag (jz x)=ag (jz x)/\ai x.s=ai x.s/\aj false=aj false/\ad p.i=ad a.i/\aj false=aj a.sd/\aj false=aj a.sg/\True)/\aE (om x p F) (om x a F))/\aT fun(i:fE)_=>Je x i->aS (i.i<x.s.size) (xi i x/\Br (aF x.s i.i==95) (zA i/\yv x F (zX i) (aj i.sd) (aj i.sg) (om x i F) ((x.s.size-i.i).toNat)) (xi i x/\Br (aF x.s i.i==46) (Br i.sd (ar vG x F cQ (om x i F)) (T1 (sz x i) ⟨x.b,800,none⟩ (fun b=>J9 x i/\zA i/\yv x F (zX i) (aj true) (aj i.sg) [(0,af x.b ((aZ i.d).set 801 (ad b)) 158),(1,F)] ((x.s.size-i.i).toNat)))) (xi i x/\aS (48<=aF x.s i.i) (xi i x/\aS (aF x.s i.i<=57) (∃(g:fE),(xi i x/\Br (aF x.s i.i==48) (T1 (sz x i) ⟨x.b,800,none⟩ (fun c=>Br (c==0) (T1 (sz x i) ⟨x.b,801,none⟩ (fun b=>ou b/\J9 x i/\zA i/\yv x F (zX i) (aj i.sd) (aj true) [(0,af x.b ((aZ i.d).set 801 (ad (b-1))) 158),(1,F)] ((x.s.size-i.i).toNat))) (LN x g F (ad i.i) (aj i.sd) (aj true) (om x i F)))) (LN x g F (ad i.i) (aj i.sd) (aj true) (om x i F)))/\aT fun(f:fE)_=>QR x f g->T1 (sz x f) ⟨x.b,800,none⟩ (fun d=>aS (d<800) (true=true/\T1 (sz x f) ⟨x.b,800,none⟩ (fun c=>xi f x/\(0<=c/\c<(↑(800:Nat):Int))/\(ed ⟨x.b,0+c.toNat*1,none⟩ x.b/\0+c.toNat*1<(aZ f.d).length)/\T1 (af x.b ((aZ f.d).set (0+c.toNat*1) (ba (aF x.s f.i))) 158) ⟨x.b,800,none⟩ (fun b=>dE b/\(aw x.b 800/\800<((aZ f.d).set (0+c.toNat*1) (ba (aF x.s f.i))).length)/\zA f/\yv x F (zX f) (aj f.sd) (aj f.sg) [(0,af x.b (((aZ f.d).set (0+c.toNat*1) (ba (aF x.s f.i))).set 800 (ad (b+1))) 158),(1,F)] ((x.s.size-i.i).toNat)))) (xi f x/\Br (aF x.s f.i !=48) ((aw x.b 803/\803<(aZ f.d).length)/\zA f/\yv x F (zX f) (aj f.sd) (aj f.sg) [(0,af x.b ((aZ f.d).set 803 (aj true)) 158),(1,F)] ((x.s.size-i.i).toNat)) (zA f/\yv x F (zX f) (aj f.sd) (aj f.sg) (om x f F) ((x.s.size-i.i).toNat))))) (JB x F i)) (JB x F i)))) (JB x F i))/\aT fun(n:fE)_=>(xI x.s n/\eN x.s=rj x.s n)->Br (!n.sg) (ar vG x F cQ (om x n F)) (Br (!n.sd) (T1 (sz x n) ⟨x.b,800,none⟩ (fun b=>J9 x n/\LO x F (ad n.i) [(0,af x.b ((aZ n.d).set 801 (ad b)) 158),(1,F)])) (LO x F (ad n.i) (om x n F))/\aT fun(l:ey)_=>(qb x.s l/\eN x.s=xH x.s l.i l.d)->aS (l.i<x.s.size) (vl l x/\nS [ba (aF x.s l.i)] (fun j i=>Br (eK j.c==101) (IC l/\aS (l.i+1>=(x.s.size:Int)) (Ce x F l) (((0<=l.i+1/\l.i+1<(x.s.size:Int))/\Br (aF x.s (l.i+1)==43) (Qz l/\F_ x F (ad (l.i+1+(1:Int))) (ad 1) (j6 x l F)) (Br (aF x.s (l.i+1)==45) (Qz l/\F_ x F (ad (l.i+1+(1:Int))) (ad (-1)) (j6 x l F)) (F_ x F (ad (l.i+1)) (ad 1) (j6 x l F))))/\aT fun(h:ey)_=>RV x h->aS (h.i>=x.s.size) (Ce x F h) (vl h x/\aS (aF x.s h.i<48) (Ce x F h) (vl h x/\aS (aF x.s h.i>57) (Ce x F h) (((∃(a:ey),Iy x a/\(ag (jz x)=ag (jz x)/\ai x.s=ai x.s/\aj false=aj false/\ad h.i=ad a.i/\ad h.sg=ad a.sg/\ad 0=ad a.e/\True)/\aE (j6 x h F) (j6 x a F))/\aT fun(f:ey)_=>Iy x f->∃(d:ey),aS (f.i<x.s.size) (vl f x/\aS (48<=aF x.s f.i) (vl f x/\aS (aF x.s f.i<=57) (LP x d F (ad f.i) (ad f.sg) (ad f.e) (j6 x f F)) (Pq f x d F)) (Pq f x d F)) (LQ x F (ad f.i) (ad f.sg) (ad f.e) (j6 x f F))/\aT fun(c:ey)_=>Rw x c d->vl c x/\Br (aF x.s c.i==95) (Ri c x F f) (aS (c.e<10000) (((-9223372036854775808:Int)<=c.e*10/\c.e*10<=(9223372036854775807:Int))/\vl c x/\bK (aF x.s c.i)/\bK (c.e*10+aF x.s c.i)/\((-9223372036854775808:Int)<=c.e*10+aF x.s c.i-48/\c.e*10+aF x.s c.i-48<=(9223372036854775807:Int))/\IC c/\LS x F (ad (c.i+1)) (ad c.sg) (ad (c.e*10+aF x.s c.i-48)) (j6 x c F) ((x.s.size-f.i).toNat)) (Ri c x F f)))/\aT fun(d:ey)_=>Qo x d->T1 (w8 x d) ⟨x.b,801,none⟩ (fun b=>bK (d.e*d.sg)/\bK (b+d.e*d.sg)/\(aw x.b 801/\801<(aZ d.d).length)/\Ga x F (ad d.i) [(0,af x.b ((aZ d.d).set 801 (ad (b+d.e*d.sg))) 158),(1,F)])))))) (Ga x F (ad l.i) (j6 x l F)))) (Ga x F (ad l.i) (j6 x l F))/\aT fun(b:ey)_=>Qm b x->Br (b.i !=x.s.size) (Ce x F b) (ar vG x F gH (j6 x b F)))):=by
 delta dk cQ Jm BM Re jz om F9 B_ Je xi zA IK yv zX T1 sz J9 ou QR LN dE Tb JB Q1 j6 LO vl nS IC Ce Qz RV F_ Iy Rw ID LP Qo LQ Pq LS Ri w8 Qm Ga gH aw bK ad ba ai aj ag af aS ay aT;obtain⟨b,s,d⟩:=x;obtain⟨hs,hd⟩:=Z;dsimp only at hs hd⊢;subst hd;have J:dZ.ds.length=800:=(Uh false false).len;have r:∀v:bq,aE [(0,.cells b (aZ v) 158),(1,F)] [(0,.cells b (aZ v) 158),(1,F)]:=fun v=>aA [0,1];have no:∀D:bq,D.ds.length=800->eN s=none->ar vG ⟨b,s,dZ⟩ F (returned (bool false)) [(0,.cells b (aZ D) 158),(1,F)]:=fun D X e=>
  ⟨D,⟨X,fun v(h:eN s=some v)=>by rw[e]at h;cases h⟩,by show _=returned (.bool (eN s).isSome);simp[*],r D⟩
 have hB:∀i,0<=aF s i/\aF s i<=255:=fun i=>by
  rw[gB];have:=hF s i.toNat;omega
 have Y:0<=c9 s/\c9 s<=1:=by
  unfold c9;grind
 have x2:((aZ dZ).set 802 (.bool false)).set 803 (.bool false)=aZ ⟨dZ.ds,0,0,false,false⟩:=by
  rfl
 refine⟨⟨al,by rw[jm J];decide⟩,⟨al,by rw[List.length_set,jm J];decide⟩,?_⟩;rw[x2];refine bo (fun h0=>no _ J (by unfold eN;grind)) (fun h0=>?_);have hp:0<s.size:=ae;have hV:eN s=W4 s:=by unfold eN;grind
 have Q:(⟨dZ.ds,0,0,false,false⟩:bq).ds.length=800:=J;refine⟨⟨⟨cE _,ae⟩,aG (fun h=>⟨aK,⟨c9 s,false,false,⟨dZ.ds,0,0,bY s,false⟩⟩,⟨hp,rfl⟩,?_,?_⟩) (fun h=>aG (fun y=>⟨aK,⟨al,by rw[jm Q];decide⟩,⟨c9 s,false,false,⟨dZ.ds,0,0,bY s,false⟩⟩,⟨hp,rfl⟩,?_,?_⟩) (fun y=>⟨⟨c9 s,false,false,⟨dZ.ds,0,0,bY s,false⟩⟩,⟨hp,rfl⟩,?_,?_⟩))⟩,?_⟩
 ·have b:c9 s=1:=by unfold c9;simp[*]
  simp[*]
 ·have a:bY s=false:=by unfold bY;simp[*]
  simp[*]
 ·have b:c9 s=1:=by unfold c9;simp[*]
  simp[*]
 ·have a:bY s=true:=by unfold bY;simp[*]
  rw[a,ajO Q];simp[*]
 ·have b:c9 s=0:=by unfold c9;simp[*]
  simp[*]
 ·have a:bY s=false:=by unfold bY;simp[*]
  simp[*]
 rintro _ N ⟨-,rfl⟩;dsimp only;have x1:eN s=(uc s ((s.size:Int)-c9 s).toNat ⟨c9 s,false,false,⟨dZ.ds,0,0,bY s,false⟩⟩).bind (rj s):=hV;refine⟨⟨⟨⟨c9 s,false,false,⟨dZ.ds,0,0,bY s,false⟩⟩,⟨⟨⟨Y.1,by grind⟩,Uh _ _,Y.1,by simp[*],Y.1⟩,x1⟩,(by simp[*]),r _⟩,?_⟩,?_⟩
 ·rintro⟨i,sd,sg,D⟩ N ⟨⟨⟨k1,k2⟩,m,k3,u,w⟩,o⟩;dsimp only at k1 k2 m k3 u w o⊢;have hl:=m.len;refine bo (fun A=>?_) (fun Hj=>⟨⟨i,sd,sg,D⟩,⟨⟨⟨k1,k2⟩,m,k3,u,w⟩,by rw[o,show((s.size:Int)-i).toNat=0 by omega,uc];rfl⟩,(by simp[*]),r _⟩);obtain⟨k,hk⟩:∃k,((s.size:Int)-i).toNat=k+1:=⟨((s.size:Int)-i).toNat-1,ae⟩;rw[hk]at o;have z: -9223372036854775808<=i+1/\i+1<=9223372036854775807:=aK;have I:∀P:fE,ox s ⟨i,sd,sg,D⟩=(0,P)->P.i=i+1->eN s=(uc s ((s.size:Int)-P.i).toNat P).bind (rj s):=fun P e1 U=>by
   rw[o,uc,e1,show((s.size:Int)-P.i).toNat=k by omega];rfl
  have stop:ox s ⟨i,sd,sg,D⟩=(1,⟨i,sd,sg,D⟩)->eN s=rj s ⟨i,sd,sg,D⟩:=fun e1=>by rw[o,uc,e1];rfl
  refine⟨⟨k1,A⟩,aG (fun H=>⟨z,⟨i+1,sd,sg,D⟩,⟨⟨⟨by grind,by grind⟩,m,by grind,by grind,by grind⟩,I _ (by unfold ox;simp[*]) rfl⟩,(by simp[*]),r _,by grind⟩) (fun H=>⟨⟨k1,A⟩,aG (fun y=>aG (fun B=>no D hl (by rw[o,uc,show ox s ⟨i,sd,sg,D⟩=(2,⟨i,sd,sg,D⟩) by unfold ox;simp[*]];rfl)) (fun B=>⟨D.nd,jZ hl,⟨al,by rw[jm hl];decide⟩,z,⟨i+1,true,sg,D.lY D.nd⟩,⟨⟨⟨by grind,by grind⟩,m.lY _,?_,?_,?_⟩,I _ (by unfold ox;simp[*]) rfl⟩,(by simp[*]),?_,by grind⟩)) (fun y=>⟨⟨k1,A⟩,bo (fun q=>⟨⟨k1,A⟩,bo (fun q2=>?_) (fun q2=>⟨⟨i,sd,sg,D⟩,⟨⟨⟨k1,k2⟩,m,k3,u,w⟩,stop ?_⟩,(by simp[*]),r _⟩)⟩) (fun q=>⟨⟨i,sd,sg,D⟩,⟨⟨⟨k1,k2⟩,m,k3,u,w⟩,stop ?_⟩,(by simp[*]),r _⟩)⟩)⟩)⟩
  ·show D.nd<=i+1;omega
  ·show-(i+1)<=D.nd;have:=m.lo;omega
  ·show D.nd<=i+1;omega
  ·rw[Ac hl];exact r _
  ·have X:eP (aF s i)=true:=by unfold eP;simp[*]
   have T:xI s ⟨i,sd,true,D⟩:=⟨⟨k1,k2⟩,m,k3,u,w⟩;refine⟨⟨i,sd,true,D⟩,⟨⟨k1,A⟩,aG (fun B=>⟨D.nd,jZ hl,aG (fun W=>⟨D.dp,lE hl,aK,⟨al,by rw[jm hl];decide⟩,z,⟨i+1,sd,true,D.lY (D.dp-1)⟩,⟨⟨⟨by grind,by grind⟩,m.lY _,?_,?_,?_⟩,I _ (by unfold ox;simp[*]) rfl⟩,(by simp[*]),?_,by grind⟩) (fun W=>⟨⟨i,sd,true,D⟩,⟨⟨T,A,rfl,by simp[*]⟩,rfl⟩,(by simp[*]),r _⟩)⟩) (fun B=>⟨⟨i,sd,true,D⟩,⟨⟨T,A,rfl,by rw[B];rfl⟩,rfl⟩,(by simp[*]),r _⟩)⟩,?_⟩
   ·show D.nd<=i+1;omega
   ·show-(i+1)<=D.dp-1;omega
   ·show D.dp-1<=i+1;omega
   ·rw[Ac hl];exact r _
   rintro V x3 ⟨⟨-,-,-,hz⟩,L⟩;have L:V=⟨i,sd,true,D⟩:=L;subst L;dsimp only at hz⊢;have R:D.nd=0->aF s i≠48:=fun H y=>by
    grind
   refine⟨D.nd,jZ hl,bo (fun q5=>⟨rfl,D.nd,jZ hl,⟨k1,A⟩,⟨m.lo,ae⟩,⟨al,by rw[jm hl];omega⟩,?_⟩) (fun q5=>⟨⟨k1,A⟩,aG (fun q6=>⟨⟨al,by rw[jm hl];decide⟩,z,⟨i+1,sd,true,D.FD true⟩,⟨⟨⟨by grind,by grind⟩,m.FD _,?_,?_,?_⟩,I _ (by unfold ox;simp[*]) rfl⟩,(by simp[*]),?_,by grind⟩) (fun q6=>⟨z,⟨i+1,sd,true,D⟩,⟨⟨⟨by grind,by grind⟩,m,by grind,by grind,by grind⟩,I _ (by unfold ox;simp[*]) rfl⟩,(by simp[*]),r _,by grind⟩)⟩)⟩
   ·have S:(aZ D).set (0+D.nd.toNat*1) (.int .u8 (aF s i))=aZ ⟨D.ds.set D.nd.toNat (aF s i),D.nd,D.dp,D.ng,D.tr⟩:=by
     rw[show 0+D.nd.toNat*1=D.nd.toNat by omega,Sp hl ae]
    rw[S];have M:(⟨D.ds.set D.nd.toNat (aF s i),D.nd,D.dp,D.ng,D.tr⟩:bq).ds.length=800:=by
     simp[*]
    refine⟨D.nd,jZ M,⟨by have:=m.lo;omega,ae⟩,⟨al,by rw[jm M];decide⟩,z,⟨i+1,sd,true,D.push (aF s i)⟩,⟨⟨⟨by grind,by grind⟩,m.push q5 q q2 R,?_,?_,?_⟩,I _ (by unfold ox;simp[*]) rfl⟩,(by simp[*]),?_,by grind⟩
    ·show D.nd+1<=i+1;omega
    ·show-(i+1)<=D.dp;omega
    ·show D.dp<=i+1;omega
    ·rw[Fl M];exact r _
   ·show D.nd<=i+1;omega
   ·show-(i+1)<=D.dp;omega
   ·show D.dp<=i+1;omega
   ·rw[Ky hl];exact r _
  ·unfold ox;rw[H,y,show eP (aF s i)=false by unfold eP;simp[*]];rfl
  ·unfold ox;rw[H,y,show eP (aF s i)=false by unfold eP;simp[*]];rfl
 rintro⟨i,sd,sg,D⟩ N ⟨⟨⟨k1,k2⟩,m,k3,u,w⟩,o⟩;dsimp only at k1 k2 m k3 u w o⊢;have hl:=m.len;refine aG (fun h=>no D hl (by rw[o];unfold rj;simp[*])) (fun h=>⟨aG (fun y=>⟨D.nd,jZ hl,⟨al,by rw[jm hl];decide⟩,⟨i,D.lY D.nd,0,0,false⟩,⟨⟨⟨k1,k2⟩,m.lY _,?_,?_⟩,by rw[o];unfold rj;simp[*]⟩,(by simp[*]),?_⟩) (fun y=>⟨⟨i,D,0,0,false⟩,⟨⟨⟨k1,k2⟩,m,by grind,by grind⟩,by rw[o];unfold rj;simp[*]⟩,(by simp[*]),r _⟩),?_⟩)
 ·show-1000000000<=D.nd;have:=m.lo;omega
 ·show D.nd<=1000000000;have:=m.hi;omega
 ·rw[Ac hl];exact r _
 clear o k1 k2 m k3 u w h hl D i;rintro⟨i,D,_,_,_⟩ N ⟨⟨⟨k1,k2⟩,m,u,w⟩,o⟩;dsimp only at k1 k2 m u w o⊢;have hl:=m.len;refine⟨bo (fun h=>⟨⟨k1,h⟩,qM,rfl,⟨_⟩,rfl,rfl,ao,ao,fun _ _=>aG (fun y=>?_) (fun y=>⟨⟨i,D,0,0,false⟩,⟨⟨⟨k1,k2⟩,m,by grind,by grind⟩,?_⟩,(by simp[*]),r _⟩)⟩) (fun h=>⟨⟨i,D,0,0,false⟩,⟨⟨⟨k1,k2⟩,m,by grind,by grind⟩,?_⟩,(by simp[*]),r _⟩),?_⟩
 ·have G:eN s=Ct s (i+1) D:=by
   rw[o];unfold xH;rw[bw h,show(eK (aF s i)==101)=true from y];rfl
  have mg:∀j sg,i+1<=j->j<=(s.size:Int)->qb s ⟨j,D,sg,0,false⟩:=fun j sg a c=>⟨⟨by grind,c⟩,m,u,w⟩;refine⟨aK,bo (fun B=>no D hl (by rw[G];unfold Ct;simp[*])) (fun B=>⟨⟨aK,aG (fun W=>⟨aK,⟨i+1+1,D,1,0,false⟩,⟨mg _ _ ae ae,.inl rfl,?_⟩,(by simp[*]),r _⟩) (fun W=>aG (fun h5=>⟨aK,⟨i+1+1,D,-1,0,false⟩,⟨mg _ _ ae ae,.inr rfl,?_⟩,(by simp[*]),r _⟩) (fun h5=>⟨⟨i+1,D,1,0,false⟩,⟨mg _ _ ae ae,.inl rfl,?_⟩,(by simp[*]),r _⟩))⟩,?_⟩)⟩
  ·rw[G];unfold Ct;simp[*]
  ·rw[G];unfold Ct;simp[*]
  ·rw[G];unfold Ct;simp[*]
  clear mg B G y h o k1 k2 m u w hl D i;rintro⟨i,D,sg,_,_⟩ N ⟨⟨⟨k1,k2⟩,m,u,w⟩,t,o⟩;dsimp only at k1 k2 m u w t o⊢;have hl:=m.len;refine bo (fun h=>no D hl (by rw[o];unfold vE;simp[*])) (fun h=>⟨⟨k1,ae⟩,bo (fun y=>no D hl (by rw[o];unfold vE;simp[*])) (fun y=>⟨⟨k1,ae⟩,bo (fun B=>no D hl (by rw[o];unfold vE;simp[*])) (fun B=>⟨⟨⟨⟨i,D,sg,0,false⟩,⟨⟨⟨k1,k2⟩,m,u,w⟩,t,cE _,by simp[*],by rw[o];unfold vE;simp[*]⟩,(by simp[*]),r _⟩,?_⟩,?_⟩)⟩)⟩)
  ·clear h y B o k1 k2 m u w t hl D i;rintro⟨i,D,sg,e,us⟩ N ⟨⟨⟨k1,k2⟩,m,u,w⟩,t,C,E,o⟩;dsimp only at k1 k2 m u w t C E o⊢;have ok:qb s ⟨i,D,sg,e,us⟩:=⟨⟨k1,k2⟩,m,u,w⟩;have out:j_ s ((s.size:Int)-i).toNat i e us=(i,e,us)->eN s=ub s i (D.lY (D.dp+e*sg)):=fun x=>by
    rw[o];unfold Cu;rw[x]
   have un:∀k,j_ s (k+1) i e us=bif aF s i==95 then j_ s k (i+1) e true else bif eP (aF s i) then j_ s k (i+1) (bif decide (e<10000) then e*10+aF s i-48 else e) us else (i,e,us):=fun k=>rfl
   have K:i<(s.size:Int)->(aF s i==95)=false->eP (aF s i)=false->eN s=ub s i (D.lY (D.dp+e*sg)):=fun h H y=>out (by
    rw[show((s.size:Int)-i).toNat=(((s.size:Int)-i).toNat-1)+1 by omega,un,H,y];rfl)
   have nD:(¬(48<=aF s i/\aF s i<=57))->eP (aF s i)=false:=fun h=>by
    unfold eP;grind
   refine⟨⟨i,D,sg,e,us⟩,bo (fun h=>⟨⟨k1,h⟩,bo (fun H=>⟨⟨k1,h⟩,bo (fun y=>⟨⟨i,D,sg,e,us⟩,⟨⟨ok,h,?_⟩,rfl⟩,(by simp[*]),r _⟩) (fun y=>⟨⟨k1,h⟩,aG (fun B=>⟨⟨i,D,sg,e,us⟩,⟨⟨ok,h,?_⟩,rfl⟩,(by simp[*]),r _⟩) (fun B=>⟨⟨i,D,sg,e,us⟩,⟨ok,t,C,E,K h B (nD (fun c=>y c.2))⟩,(by simp[*]),r _⟩)⟩)⟩) (fun H=>⟨⟨k1,h⟩,aG (fun B=>⟨⟨i,D,sg,e,us⟩,⟨⟨ok,h,?_⟩,rfl⟩,(by simp[*]),r _⟩) (fun B=>⟨⟨i,D,sg,e,us⟩,⟨ok,t,C,E,K h B (nD (fun c=>H c.1))⟩,(by simp[*]),r _⟩)⟩)⟩) (fun h=>⟨⟨i,D,sg,e,us⟩,⟨ok,t,C,E,out (by rw[show((s.size:Int)-i).toNat=0 by omega];rfl)⟩,(by simp[*]),r _⟩),?_⟩
   ·show(aF s i==95||eP (aF s i))=true;unfold eP;simp[*]
   ·simp[*]
   ·simp[*]
   rintro V x3 ⟨⟨-,h,Z⟩,L⟩;have L:V=⟨i,D,sg,e,us⟩:=L;subst L;dsimp only at h Z⊢;obtain⟨k,hk⟩:∃k,((s.size:Int)-i).toNat=k+1:=⟨((s.size:Int)-i).toNat-1,ae⟩;have x0:((s.size:Int)-(i+1)).toNat=k:=ae;have z: -9223372036854775808<=i+1/\i+1<=9223372036854775807:=aK;have hb:=hB i;have I:∀U O,j_ s (k+1) i e us=j_ s k (i+1) U O->eN s=Cu s ((s.size:Int)-(i+1)).toNat (i+1) U O D sg:=fun U O x=>by
    rw[o,hk,x0];unfold Cu;rw[x]
   have X:(aF s i==95)=false->eP (aF s i)=true:=fun H=>by grind
   refine⟨⟨k1,h⟩,aG (fun H=>⟨z,⟨i+1,D,sg,e,true⟩,⟨⟨⟨by grind,by grind⟩,m,u,w⟩,t,C,E,I _ _ (by simp[*])⟩,(by simp[*]),r _,by simp[*]⟩) (fun H=>bo (fun y=>⟨aK,⟨k1,h⟩,aK,aK,aK,z,⟨i+1,D,sg,e*10+aF s i-48,us⟩,⟨⟨⟨by grind,by grind⟩,m,u,w⟩,t,?_,?_,I _ _ (by simp[*])⟩,(by simp[*]),r _,by simp[*]⟩) (fun y=>⟨z,⟨i+1,D,sg,e,us⟩,⟨⟨⟨by grind,by grind⟩,m,u,w⟩,t,C,E,I _ _ (by simp[*])⟩,(by simp[*]),r _,by simp[*]⟩))⟩
   all_goals grind
  ·clear h y B o k1 k2 m u w t hl D i;rintro⟨i,D,sg,e,us⟩ N ⟨⟨⟨k1,k2⟩,m,u,w⟩,t,C,E,o⟩;dsimp only at k1 k2 m u w t C E o⊢;have hl:=m.len;have hes: -100100<=e*sg/\e*sg<=100100:=by rcases t with rfl|rfl <;> omega
   refine⟨D.dp,lE hl,aK,aK,⟨al,by rw[jm hl];decide⟩,⟨i,D.lY (D.dp+e*sg),0,0,false⟩,⟨⟨⟨k1,k2⟩,m.lY _,?_,?_⟩,o⟩,(by simp[*]),?_⟩
   ·show-3000000000<=D.dp+e*sg;omega
   ·show D.dp+e*sg<=3000000000;omega
   ·rw[Ac hl];exact r _
 ·rw[o];unfold xH;rw[bw h,show(eK (aF s i)==101)=false from y];rfl
 ·rw[o];unfold xH;simp[*]
 clear o k1 k2 m u w hl D i;rintro⟨i,D,_,_,_⟩ N ⟨⟨⟨k1,k2⟩,m,u,w⟩,o⟩;dsimp only at k1 k2 m u w o⊢;refine aG (fun h=>no D m.len (by rw[o];unfold ub;simp[*])) (fun h=>?_);have e:eN s=some D:=by rw[o];unfold ub;simp[*]
 refine⟨D,⟨m.len,fun v(hv':eN s=some v)=>?_⟩,by show _=returned (.bool (eN s).isSome);grind,r D⟩;grind
theorem ajP:aD 130 vG:=fo 224 Tryz.func130 (fun _ _=>[(19,4,iH 0),(22,8,iH 0),(23,3,iH 0),(24,3,iH 0),(25,4,iH 0),(26,3,iH 0),(31,4,iH 0),(32,8,aX lF),(49,3,iH 0)]) [(2,3,.w [LH.ex (0:Nat) iN.any]),(3,3,.w [LH.ex (0:Nat) iN.any]),(10,3,.w [LH.ex (0:Nat) iN.any]),(19,7,.w [LH.ex (0:Nat) iN.any]),(23,7,.w [LH.ex (0:Nat) iN.any]),(25,11,.w [LH.ex (0:Nat) iN.any]),(28,3,.w [LH.ex (0:Nat) iN.any]),(31,7,.w [LH.ex (0:Nat) iN.any]),(49,10,.w [LH.ex (0:Nat) iN.any]),(26,7,.w [LH.ex (0:Nat) iN.any])] ajN ajM bA [] ajQ
end
section
open Go
section
variable{s:ByteArray}{hx:Bool}
theorem alW{x y:dt}(h:my s x)(hi:x.i<s.size)(e:m8 s hx x=some y):my s y/\y.i=x.i+1:=by
 obtain⟨k1,k2,k3,b,c,d,f,g,i,a⟩:=h;unfold m8 at e;simp only[cond_eq_ite]at e
 repeat' split at e
 all_goals first|cases e|skip
 all_goals
  refine⟨⟨?_,?_,?_,?_,?_,?_,?_,?_,?_,?_⟩,rfl⟩
  all_goals first
   |exact k3
   |exact b
   |exact(gf _).1
   |exact(gf _).2
   | (dsimp only;omega)
theorem X0:∀(f:Nat)(x:dt),my s x->(f:Int)=s.size-x.i->my s (qi s hx f x)
 |0,x,h,_=>h
 |f+1,x,h,e=>by
  rw[qi];cases hs:m8 s hx x with
  |none=>exact h
  |some y=>
   obtain⟨a,b⟩:=alW h ae hs;exact X0 f y a ae
theorem K1:∀(f:Nat)(i e:Int)(us:Bool),0<=i->(f:Int)=s.size-i->0<=e->e<=100100->(0<=(j_ s f i e us).1/\(j_ s f i e us).1<=s.size)/\0<=(j_ s f i e us).2.1/\(j_ s f i e us).2.1<=100100
 |0,i,e,us,c,d,a,b=>⟨⟨c,by show i<=_;omega⟩,a,b⟩
 |f+1,i,e,us,c,d,a,b=>by
  rw[j_];cases aF s i==95 with
  |true=>exact K1 f (i+1) e true ae ae a b
  |false=>
   rw[aN];cases hd:eP (aF s i)with
   |true=>
    rw[aU];have g:48<=aF s i/\aF s i<=57:=by
     unfold eP at hd;by_cases q:48<=aF s i
     ·rw[bw q,aU]at hd;exact⟨q,jS hd⟩
     ·rw[bF q]at hd;cases hd
    by_cases q:e<10000
    ·rw[bw q,aU];exact K1 f (i+1) _ us ae ae ae ae
    ·rw[bF q,aN];exact K1 f (i+1) e us ae ae a b
   |false=>exact⟨⟨c,by show i<=_;omega⟩,a,b⟩
structure RB(s:ByteArray)(r:qx):Prop where
 m0:0<=r.m
 m1:r.m<=18446744073709551615
 e0: -10000000000<=r.e
 e1:r.e<=10000000000
 i0:0<=r.i
 i1:r.i<=s.size
variable{ng tr us:Bool}{m i dp nm:Int}
theorem Fe(a:0<=m)(b:m<=18446744073709551615)(c:0<=i)(d:i<=s.size):RB s (Av ng hx m tr i):=⟨a,b,by show _<=(0:Int);omega,by show(0:Int)<=_;omega,c,d⟩
theorem WH(e:0<=m)(f:m<=18446744073709551615)(g:0<=i)(h:i<=s.size)(a: -5000000000<=dp)(b:dp<=5000000000)(c:0<=nm)(d:nm<=5000000000):RB s (pn s ng hx m tr us i dp nm):=by
 refine⟨e,f,?_,?_,g,h⟩
 all_goals
  unfold pn;dsimp only;cases m !=0
  ·rw[aN];omega
  ·rw[aU];omega
theorem R7{sg:Int}(f:0<=m)(g:m<=18446744073709551615)(h:0<=i)(j:i<=s.size)(a: -4000000000<=dp)(b:dp<=4000000000)(c:0<=nm)(d:nm<=5000000000)(e:sg=1\/sg= -1):RB s (sQ s ng hx m tr us i dp nm sg):=by
 unfold sQ;generalize (bif (bif decide (i>=s.size) then true else decide (aF s i<48)) then true else decide (aF s i>57))=q;cases q with
 |true=>exact Fe f g h j
 |false=>
  rw[aN];obtain⟨⟨x1,x2⟩,x3,x4⟩:=K1 (s:=s) ((s.size:Int)-i).toNat i 0 us h ae ae ae;generalize j_ s ((s.size:Int)-i).toNat i 0 us=z at*;obtain⟨k,z2,z3⟩:=z;dsimp only at x1 x2 x3 x4⊢;refine WH f g x1 x2 ?_ ?_ c d
  all_goals rcases e with rfl|rfl <;> omega
theorem WG(e:0<=m)(f:m<=18446744073709551615)(g:0<=i)(h:i<=s.size)(a: -4000000000<=dp)(b:dp<=4000000000)(c:0<=nm)(d:nm<=5000000000):RB s (uq s ng hx m tr us i dp nm):=by
 unfold uq;cases hp:qh s hx i with
 |false=>
  rw[aN];cases e8 hx==16
  ·exact WH e f g h ae ae c d
  ·exact Fe e f g h
 |true=>
  rw[aU];have hi:i<s.size:=by
   unfold qh at hp;by_cases q:i<s.size
   ·exact q
   ·rw[bF q]at hp;cases hp
  unfold Au;by_cases q:i+1>=s.size
  ·rw[bw q];exact Fe e f ae ae
  ·rw[bF q,aN];cases aF s (i+1)==43
   ·rw[aN];cases aF s (i+1)==45
    ·exact R7 e f ae ae a b c d (.inl rfl)
    ·exact R7 e f ae ae a b c d (.inr rfl)
   ·exact R7 e f ae ae a b c d (.inl rfl)
theorem WF(e:0<=m)(f:m<=18446744073709551615)(g:0<=i)(h:i<=s.size)(a: -1000000000<=dp)(b:dp<=1000000000)(c:0<=nm)(d:nm<=1000000000):RB s (ye s ng hx m tr us i dp nm):=by
 unfold ye;cases e8 hx==16
 ·exact WG e f g h ae ae c ae
 ·exact WG e f g h ae ae ae ae
theorem ai2{x:dt}(h:my s x)(hs:s.size<=1000000000):RB s (pm s ng hx x):=by
 obtain⟨k1,k2,k3,a,d,e,f,g,b,c⟩:=h;unfold pm;cases !x.sg
 ·rw[aN];cases !x.sd
  ·exact WF k3 a k1 k2 ae ae b ae
  ·exact WF k3 a k1 k2 ae ae b ae
 ·exact Fe k3 a k1 k2
theorem alX(hs:s.size<=1000000000):RB s (fk s):=by
 have d:0<=c9 s/\c9 s<=1:=by
  unfold c9;cases aF s 0==43 <;> cases aF s 0==45 <;> decide
 unfold fk;by_cases c:0>=(s.size:Int)
 ·rw[bw c];exact Fe ae ae ae ae
 ·rw[bF c,aN];have a:0<=mw s/\mw s<=s.size:=by
   unfold mw;cases b:bp s with
   |true=>
    unfold bp at b;by_cases q:c9 s+2<s.size
    ·rw[aU];omega
    ·rw[bF q]at b;cases b
   |false=>rw[aN];omega
  exact ai2 (X0 _ _ ⟨a.1,a.2,a_,a_,a_,a.1,a_,a.1,a_,a.1⟩ a_) hs
end
theorem al_(s:ByteArray):0<=(et s).2.1:=by
 have b:∀t sg ns,0<=ns->0<=(rE t sg ns).2.1:=fun t sg ns h=>by
  unfold rE;cases q:nK t==3 with
  |true=>show 0<=ns+nK t;rw[eq_of_beq q];omega
  |false=>
   cases q2:nK t==8 with
   |true=>show 0<=ns+nK t;rw[eq_of_beq q2];omega
   |false=>exact cE 0
 have a:(0:Int)<=((0,0,false):Nat×Int×Bool).2.1:=cE 0;unfold et;cases (s.size:Int)==0 with
 |true=>exact a
 |false=>
  cases aF s 0==43||aF s 0==45 with
  |true=>exact b _ _ _ ae
  |false=>
   cases aF s 0==105||aF s 0==73 with
   |true=>exact b _ _ _ (cE 0)
   |false=>
    cases aF s 0==110||aF s 0==78 with
    |true=>
     cases ir s vP==3 with
     |true=>show(0:Int)<=3;omega
     |false=>exact a
    |false=>exact a
end
section
open Go
theorem kf.view{P:Program}{f:FuncId}{C D:aR}(h:kf P f C)(g:D.X->C.X)(l:∀x,C.args (g x)=D.args x)(hp:∀x,C.pre (g x)=D.pre x)(m:∀x,D.cond x->C.cond (g x))(o:∀x F,D.cond x->D.aO x F->C.aO (g x) F)
  (p:∀x y,D.cond x->C.b_ (g x) y->∃z,D.b_ x z/\C.val (g x) y=D.val x z/\C.post (g x) y=D.post x z):kf P f D:=⟨fun x F I w a b hs=>by
 have:=h.h (g x) F I w (m x a) (o x F a b) (by rw[hp];exact hs);rw[l]at this;refine Calls.mono this (fun e w' n=>?_);obtain⟨y,J,c,d,i,j,k⟩:=n;obtain⟨z,k1,k2,k3⟩:=p x y a c;exact⟨z,J,k1,d.trans k2,i,by rw[<-k3];exact j,k⟩⟩
structure Tz where
 v:Nat
 n:Nat
 b:Bool
def SM:aR where
 X:=bL
 Y:=Tz
 args x:=[ai x.s]
 cond x:=x.s.size<=1000000000
 b_ x y:=et x.s=(y.v,(y.n:Int),y.b)
 val _ y:=.returned (.tuple #[.float .f64 y.v,.int .i64 y.n,.bool y.b])
theorem al8:aD 123 SM:=ama.view (fun x=>x) (fun _=>rfl) (fun _=>rfl) (fun _ h=>h) (fun _ _ _ h=>h) (fun x _ _ _=>by
 have h:=al_ x.s;have e:(((et x.s).2.1.toNat:Nat):Int)=(et x.s).2.1:=by omega
 refine⟨⟨(et x.s).1,(et x.s).2.1.toNat,(et x.s).2.2⟩,?_,?_,rfl⟩
 ·show et x.s=((et x.s).1,(((et x.s).2.1.toNat:Nat):Int),(et x.s).2.2);rw[e]
 ·show _=returned (.tuple #[.float .f64 (et x.s).1,.int .i64 ((et x.s).2.1.toNat:Nat),.bool (et x.s).2.2]);rw[e];rfl)
structure pD where
 m:Nat
 e:Int
 n:Bool
 t:Bool
 h:Bool
 i:Nat
 o:Bool
def SL:aR where
 X:=bL
 Y:=pD
 args x:=[ai x.s]
 cond x:=x.s.size<=1000000000
 b_ x y:=fk x.s=⟨(y.m:Int),y.e,y.n,y.t,y.h,(y.i:Int),y.o⟩/\y.m<18446744073709551616/\ -10000000000<=y.e/\y.e<=10000000000/\y.i<=x.s.size
 val _ y:=.returned (.tuple #[.int .u64 y.m,.int .i64 y.e,.bool y.n,.bool y.t,.bool y.h,.int .i64 y.i,.bool y.o])
theorem alY:aD 124 SL:=al3.view (fun x=>x) (fun _=>rfl) (fun _=>rfl) (fun _ h=>h) (fun _ _ _ h=>h) (fun x _ c _=>by
 have b:=alX (s:=x.s) c;have e0:∃r,fk x.s=r:=⟨_,rfl⟩;obtain⟨⟨m,e,n,t,h,i,o⟩,a⟩:=e0;rw[a]at b;obtain⟨b1,b2,b3,b4,b5,b6⟩:=b;dsimp only at b1 b2 b3 b4 b5 b6;obtain⟨m,rfl⟩:∃k:Nat,m=(k:Int):=⟨m.toNat,ae⟩;obtain⟨i,rfl⟩:∃k:Nat,i=(k:Int):=⟨i.toNat,ae⟩;refine⟨⟨m,e,n,t,h,i,o⟩,⟨a,a_,b3,b4,a_⟩,?_,rfl⟩;show returned (K0 (fk x.s))=_;rw[a];rfl)
def SI:aR where
 X:=gT
 Y:=Nat ⊕ Nat
 args x:=[ai x.s,ag eb,az x.m,ad x.e,aj x.ng,aj x.tr]
 cond x:=0<=x.m/\x.m<=18446744073709551615/\ -10000000000<=x.e/\x.e<=10000000000
 aO x F:=gL x.tb x.lc F
 b_ x y:=match y with
  | .inl v=>(dw x).1=v/\((dw x).2==0)=true
  | .inr v=>(dw x).1=v/\((dw x).2==0)=false
 val _ y:=match y with
  | .inl v=>.returned (.tuple #[.float .f64 v,.nilIface])
  | .inr v=>.returned (.tuple #[.float .f64 v,.iface 128 (.int .i64 1)])
 sum:=some (ia Nat Nat)
theorem alM:aD 125 SI:=alR.view (fun x=>x) (fun _=>rfl) (fun _=>rfl) (fun _ h=>h) (fun _ _ _ h=>h) (fun x _ _ _=>by
 cases h:(dw x).2==0 with
 |true=>exact⟨.inl (dw x).1,⟨rfl,h⟩,by show returned (.tuple #[.float .f64 (dw x).1,vS (dw x).2])=_;unfold vS;rw[h];rfl,rfl⟩
 |false=>exact⟨.inr (dw x).1,⟨rfl,h⟩,by show returned (.tuple #[.float .f64 (dw x).1,vS (dw x).2])=_;unfold vS;rw[h];rfl,rfl⟩)
def G4:aR where
 X:=ke
 Y:=Nat ⊕ Nat
 args x:=[az x.m,ad x.e,az x.g]
 cond x:=x.m<18446744073709551616/\ -348<=x.e/\x.e<348/\x.g<18446744073709551616/\∀i,x.tb i<18446744073709551616
 aO x F:=∀i,i<1392->aQ F ⟨15,i,none⟩ (.int .u64 (x.tb i))
 b_ x y:=match y with
  | .inl v=>gE x=(v,0)
  | .inr v=>gE x=(v,1)
 val _ y:=match y with
  | .inl v=>.returned (.tuple #[.float .f64 v,.nilIface])
  | .inr v=>.returned (.tuple #[.float .f64 v,.iface 128 (.int .i64 1)])
 eT _ _ _ hs h:=fun i hi=>(h i hi).sub hs
 sum:=some (ia Nat Nat)
theorem Nz:aD 135 G4:=acZ.view (fun x=>x) (fun _=>rfl) (fun _=>rfl) (fun _ h=>h) (fun _ _ _ h=>h) (fun x y _ h=>by
 cases y with
 |inl u=>exact⟨.inl (gE x).1,Prod.ext rfl h,rfl,rfl⟩
 |inr u=>exact⟨.inr (gE x).1,Prod.ext rfl h,rfl,rfl⟩)
structure SN where
 v:Nat
 b:Bool
def M4:aR where
 X:=nL
 Y:=SN
 args x:=[az x.m,ad x.e,aj x.n]
 cond x:= -100000<=x.e/\x.e<=100000
 aO x F:=gL x.tb x.lc F
 b_ x y:=lV x=(y.v,y.b)
 val _ y:=.returned (.tuple #[.float .f64 y.v,.bool y.b])
theorem aaA:aD 134 M4:=aaD.view (fun x=>x) (fun _=>rfl) (fun _=>rfl) (fun _ h=>h) (fun _ _ _ h=>h) (fun x _ _ _=>⟨⟨(lV x).1,(lV x).2⟩,rfl,rfl,rfl⟩)
structure S_ where
 d:bq
 ok:Bool
def So:aR where
 X:=ez
 Y:=S_
 args x:=[ag (jz x),ai x.s]
 pre x:=[af x.b (aZ x.d) 158]
 cond x:=x.s.size<=1000000000/\x.d=dZ
 b_ x y:=y.d.ds.length=800/\y.ok=(eN x.s).isSome/\∀v,eN x.s=some v->y.d=v/\v.iy/\ -3000000000<=v.dp/\v.dp<=3000000000
 val _ y:=ay (aj y.ok)
 post x y:=[af x.b (aZ y.d) 158]
 eT _ _ _ _ h:=h
theorem ajL:aD 130 So:=ajP.view (fun x=>x) (fun _=>rfl) (fun _=>rfl) (fun _ h=>h) (fun _ _ _ h=>h) (fun x y _ h=>⟨⟨y,(eN x.s).isSome⟩,⟨h.1,rfl,h.2⟩,rfl,rfl⟩)
structure SX where
 d:bq
 v:Int
 o:Bool
def NC:aR where
 X:=fD
 Y:=SX
 args x:=[ag (iC x),ag eb]
 pre x:=[B4 x]
 cond x:=(x.d.ds.length=800/\(x.d.nd=0\/x.d.norm))/\qq x.lc/\ -3000000000<=x.d.dp/\x.d.dp<=3000000000
 aO x F:=gL x.tb x.lc F
 b_ x y:=d1 x.lc x.d=(y.v,y.o)
 val _ y:=.returned (.tuple #[.int .u64 y.v,.bool y.o])
 post x y:=[af x.b (aZ y.d) 158]
theorem ac_:aD 131 NC:=adf.view (fun x=>x) (fun _=>rfl) (fun _=>rfl) (fun _ h=>h) (fun _ _ _ h=>h) (fun x y _ h=>⟨⟨y,(d1 x.lc x.d).1,(d1 x.lc x.d).2⟩,rfl,rfl,rfl⟩)
end
section
open Go
def pD.of(z:qx):pD:=⟨z.m.toNat,z.e,z.n,z.t,z.h,z.i.toNat,z.o⟩
def mr(n:Bool):Nat:=bif n then 9223372036854775808 else 0
def M_(n:Bool)(k:Int):Nat:=(u64.wrap ((BitVec.ofInt u64.bits (u64.wrap ((bif n then 1 else 0)*2^min (Int.toNat 63) u64.bits))|||BitVec.ofInt u64.bits k).toNat:Int)).toNat
def yF(lc:Nat->Nat×ByteArray)(s:ByteArray)(r:pD):sR:=
 match eN (s.extract 0 r.i)with
 |none=>⟨0,r.i,2⟩
 |some v=>⟨(d1 lc v).1.toNat,r.i,bif (d1 lc v).2 then 1 else 0⟩
def uF(tb:Nat->Nat)(lc:Nat->Nat×ByteArray)(s:ByteArray)(r:pD):sR:=
 bif !r.t then ⟨(gE ⟨r.m,r.e,mr r.n,tb⟩).1,r.i,(gE ⟨r.m,r.e,mr r.n,tb⟩).2⟩
 else bif cG .eql (gE ⟨r.m,r.e,mr r.n,tb⟩).1 (gE ⟨(u64.wrap ((r.m:Int)+1)).toNat,r.e,mr r.n,tb⟩).1 then ⟨(gE ⟨r.m,r.e,mr r.n,tb⟩).1,r.i,(gE ⟨r.m,r.e,mr r.n,tb⟩).2⟩
 else yF lc s r
def rW(tb:Nat->Nat)(lc:Nat->Nat×ByteArray)(s:ByteArray)(r:pD):sR:=
 bif !r.o then ⟨0,r.i,2⟩
 else bif r.h then ⟨(dw ⟨s.extract 0 r.i,r.m,r.e,r.n,r.t,tb,lc⟩).1,r.i,bif (dw ⟨s.extract 0 r.i,r.m,r.e,r.n,r.t,tb,lc⟩).2==0 then 0 else 1⟩
 else bif (r.m:Int)==0 then ⟨M_ r.n 0,r.i,0⟩
 else bif decide (r.e>310) then ⟨M_ r.n 9218868437227405312,r.i,1⟩
 else bif decide (r.e< -345) then ⟨M_ r.n 0,r.i,0⟩
 else bif !r.t then (bif (lV ⟨r.m,r.e,r.n,tb,lc⟩).2 then ⟨(lV ⟨r.m,r.e,r.n,tb,lc⟩).1,r.i,0⟩ else uF tb lc s r)
 else uF tb lc s r
def wj(tb:Nat->Nat)(lc:Nat->Nat×ByteArray)(s:ByteArray):sR:=
 bif (et s).2.2 then ⟨(et s).1,(et s).2.1.toNat,0⟩ else rW tb lc s (pD.of (fk s))
structure pr where
 s:ByteArray
 tb:Nat->Nat
 lc:Nat->Nat×ByteArray
 av:ByteArray->sR
def lW:aR where
 X:=pr
 Y:=Unit ⊕ Unit
 args x:=[ai x.s]
 cond x:=(x.s.size<=8388610/\qq x.lc/\∀i,x.tb i<18446744073709551616)/\x.av=wj x.tb x.lc
 aO x F:=gL x.tb x.lc F
 b_ x y:=match y with
  | .inl _=>(x.av x.s).e=0
  | .inr _=>(x.av x.s).e≠0/\(x.av x.s).e<=2
 val x y:=match y with
  | .inl _=>.returned (.tuple #[.float .f64 (x.av x.s).v,.int .i64 (x.av x.s).n,.nilIface])
  | .inr _=>.returned (.tuple #[.float .f64 (x.av x.s).v,.int .i64 (x.av x.s).n,.iface 128 (.int .i64 (x.av x.s).e)])
 sum:=some (ia Unit Unit)
structure rH where
 r:pD
def TA(x:pr)(r:pD):List (Nat×Value):=[(0,.string x.s),(3,.int .i64 r.i),(4,.nilIface),(2,.float .f64 0)]
def Dv(x:pr)(r:pD):Prop:=r.m<18446744073709551616/\r.i<=x.s.size
def aaH(x:pr)(F:ah):Nat->Option Inv:=fun
 |22=>some {X:=rH,P:=fun d=>Dv x d.r/\ -345<=d.r.e/\d.r.e<=310/\x.av x.s=uF x.tb x.lc x.s d.r,mu:=fun _=>0,lv:=fun d=>TA x d.r++[(8,.int .u64 d.r.m),(9,.int .i64 d.r.e),(11,.bool d.r.t),(16,.int .u64 (bif d.r.n then 9223372036854775808 else 0))],st:=fun _=>[F]}
 |28=>some {X:=rH,P:=fun d=>Dv x d.r/\x.av x.s=yF x.lc x.s d.r,mu:=fun _=>0,lv:=fun d=>TA x d.r,st:=fun _=>[F]}
 |_=>none
def O3(x:pr)(F:ah)(j:uw)(k:pD):=ar lW x F (ay (tuple ⟨[float f64 (bd (↑(ce (bd ((bif j.b then (1:Int) else (0:Int))*2^min (Int.toNat (63:Int)) u64.bits))|||ce (0:Int)).toNat:Int)).toNat,ad ↑k.i,nilIface]⟩)) [(0,F)]
def RG(e0:pr)(z:rH):=Dv e0 z.r/\(-345:Int)<=z.r.e/\z.r.e<=310/\e0.av e0.s=uF e0.tb e0.lc e0.s z.r
def Tc(e0:pr)(e1:ah)(v0 v1 v2 v3 v4:Value)(a:St):=∃(z:rH),RG e0 z/\(ai e0.s=ai e0.s/\v0=ad ↑z.r.i/\nilIface=nilIface/\float f64 0=float f64 0/\v1=az ↑z.r.m/\v2=ad z.r.e/\v3=aj z.r.t/\v4=az (bif z.r.n then (9223372036854775808:Int) else (0:Int))/\True)/\aE a [(0,e1)]
def Pp(x:pr)(F:ah)(k:pD)(j:uw):=Tc x F (ad ↑k.i) (az ↑k.m) (ad k.e) (aj k.t) (az (bd ((bif j.b then (1:Int) else (0:Int))*2^min (Int.toNat (63:Int)) u64.bits))) [(0,F)]
def Gb(aa:List Value)(rr:ah)(c:ke->Nat->Prop)(k1:ke->Nat->Prop):=aD 135 G4/\true=true/\∃(z:ke),aa=[az ↑z.m,ad z.e,az ↑z.g]/\([]:List ah)=[]/\(z.m<18446744073709551616/\(-348:Int)<=z.e/\z.e<348/\z.g<18446744073709551616/\∀(w0:Nat),z.tb w0<18446744073709551616)/\(∀(w0:Nat),w0<1392->aQ rr ⟨15,w0,none⟩ (az (↑(z.tb w0):Int)))/\(∀(a:Nat),gE z=(a,0)->c z a)/\∀(b:Nat),gE z=(b,1)->k1 z b
def P3(h:rH):List Value:=[az (bd ((h.r.m:Int)+1)),ad h.r.e,az (bif h.r.n then (9223372036854775808:Int) else (0:Int))]
def yw(b:Oper)(aa:List Value)(a:Nat×Nat->Prop):=dR Tryz.prog b (nj BinOp.eql)/\∃(z:Nat×Nat),aa=(qV z)/\True/\a z
def LU(e0:pr)(e1:ah)(v0:Value)(a:St):=∃(z:rH),(Dv e0 z.r/\e0.av e0.s=yF e0.lc e0.s z.r)/\(ai e0.s=ai e0.s/\v0=ad ↑z.r.i/\nilIface=nilIface/\float f64 0=float f64 0/\True)/\aE a [(0,e1)]
def Pe(e:Nat)(x:pr)(F:ah)(h:rH):ke->Nat->Prop:=fun d c=>yw (a7 Tryz.f117 26 2) [float f64 e,float f64 c] (fun b=>Br (cG BinOp.eql b.fst b.snd) (ar lW x F (ay (tuple ⟨[float f64 e,ad ↑h.r.i,nilIface]⟩)) [(0,F)]) (LU x F (ad ↑h.r.i) [(0,F)]))
def RE(x:pr)(F:ah)(e:Nat)(h:rH):=ar lW x F (ay (tuple ⟨[float f64 e,ad ↑h.r.i,fu 128 (ad 1)]⟩)) [(0,F)]
def O9(e:Nat)(x:pr)(F:ah)(h:rH):ke->Nat->Prop:=fun d c=>yw (a7 Tryz.f117 26 2) [float f64 e,float f64 c] (fun b=>Br (cG BinOp.eql b.fst b.snd) (RE x F e h) (LU x F (ad ↑h.r.i) [(0,F)]))
theorem aaG(x:pr)(F:ah)(A:lW.cond x)(G:lW.aO x F):aD 123 SM/\true=true/\∃(n:bL),[ai x.s]=[ai n.s]/\([]:List ah)=[]/\n.s.size<=1000000000/\True/\∀(m:Tz),et n.s=(m.v,(m.n:Int),m.b)->Br m.b (ar lW x F (ay (tuple ⟨[float f64 m.v,ad ↑m.n,nilIface]⟩)) [(0,F)]) (aD 124 SL/\true=true/\∃(l:bL),[ai x.s]=[ai l.s]/\([]:List ah)=[]/\l.s.size<=1000000000/\True/\∀(k:pD),(fk l.s=⟨(k.m:Int),k.e,k.n,k.t,k.h,(k.i:Int),k.o⟩/\k.m<18446744073709551616/\(-10000000000:Int)<=k.e/\k.e<=10000000000/\k.i<=l.s.size)->Br (!k.o) (ar lW x F (ay (tuple ⟨[float f64 0,ad ↑k.i,fu 128 (ad 2)]⟩)) [(0,F)]) (Br k.h (((0:Int)<=(0:Int)/\0<=(k.i:Int)/\(k.i:Int)<=(x.s.size:Int))/\aD 125 SI/\true=true/\∃(b:gT),[ai (x.s.extract (Int.toNat (0:Int)) (k.i:Int).toNat),ag eb,az ↑k.m,ad k.e,aj k.n,aj k.t]=[ai b.s,ag eb,az b.m,ad b.e,aj b.ng,aj b.tr]/\([]:List ah)=[]/\(0<=b.m/\b.m<=18446744073709551615/\(-10000000000:Int)<=b.e/\b.e<=10000000000)/\gL b.tb b.lc (cP F)/\(∀(a:Nat),((dw b).fst=a/\((dw b).snd==0)=true)->ar lW x F (ay (tuple ⟨[float f64 a,ad ↑k.i,nilIface]⟩)) [(0,F)])/\∀(a:Nat),((dw b).fst=a/\((dw b).snd==0)=false)->ar lW x F (ay (tuple ⟨[float f64 a,ad ↑k.i,fu 128 (ad 1)]⟩)) [(0,F)]) ((aQ F ⟨10,0,none⟩ (aj true)/\Dm [aj k.n] (fun j i=>Br ((k.m:Int)==0) (O3 x F j k) (aS (k.e>310) (ar lW x F (ay (tuple ⟨[float f64 (bd (↑(ce (bd ((bif j.b then (1:Int) else (0:Int))*2^min (Int.toNat (63:Int)) u64.bits))|||ce (9218868437227405312:Int)).toNat:Int)).toNat,ad ↑k.i,fu 128 (ad 1)]⟩)) [(0,F)]) (aS (k.e<(-345:Int)) (O3 x F j k) (Br (!k.t) (aD 134 M4/\true=true/\∃(c:nL),[az ↑k.m,ad k.e,aj k.n]=[az ↑c.m,ad c.e,aj c.n]/\([]:List ah)=[]/\((-100000:Int)<=c.e/\c.e<=100000)/\gL c.tb c.lc (cP F)/\∀(b:SN),lV c=(b.v,b.b)->Br b.b (ar lW x F (ay (tuple ⟨[float f64 b.v,ad ↑k.i,nilIface]⟩)) [(0,F)]) (Pp x F k j)) (Pp x F k j)/\aT fun(h:rH)_=>RG x h->Gb [az ↑h.r.m,ad h.r.e,az (bif h.r.n then (9223372036854775808:Int) else (0:Int))] (cP F) (fun f e=>Br (!h.r.t) (ar lW x F (ay (tuple ⟨[float f64 e,ad ↑h.r.i,nilIface]⟩)) [(0,F)]) (Gb (P3 h) (cP F) (Pe e x F h) (Pe e x F h))) (fun f e=>Br (!h.r.t) (RE x F e h) (Gb (P3 h) (cP F) (O9 e x F h) (O9 e x F h))))))))/\aT fun(g:rH)_=>(Dv x g.r/\x.av x.s=yF x.lc x.s g.r)->∀(e:Nat),((0:Int)<=(0:Int)/\0<=(g.r.i:Int)/\(g.r.i:Int)<=(x.s.size:Int))/\aD 130 So/\true=true/\∃(d:ez),[ag (bI e),ai (x.s.extract (Int.toNat (0:Int)) (g.r.i:Int).toNat)]=[ag (jz d),ai d.s]/\[af e (List.replicate 800 (ba 0)++[ad 0,ad 0,aj false,aj false]) 158]=[af d.b (aZ d.d) 158]/\(d.s.size<=1000000000/\d.d=dZ)/\True/\∀(c:S_),(c.d.ds.length=800/\c.ok=(eN d.s).isSome/\∀(a:bq),eN d.s=some a->c.d=a/\a.iy/\(-3000000000:Int)<=a.dp/\a.dp<=3000000000)->Br (!c.ok) (ar lW x F (ay (tuple ⟨[float f64 0,ad ↑g.r.i,fu 128 (ad 2)]⟩)) [(0,F),(5000,af d.b (aZ c.d) 158)]) (aD 131 NC/\true=true/\∃(b:fD),[ag (bI e),ag eb]=[ag (iC b),ag eb]/\[af d.b (aZ c.d) 158]=[af b.b (aZ b.d) 158]/\((b.d.ds.length=800/\(b.d.nd=0\/b.d.norm))/\qq b.lc/\(-3000000000:Int)<=b.d.dp/\b.d.dp<=3000000000)/\gL b.tb b.lc (aH [(0,F),(5000,af d.b (aZ c.d) 158)] [5000])/\∀(a:SX),d1 b.lc b.d=(a.v,a.o)->Br a.o (ar lW x F (ay (tuple ⟨[float f64 a.v.toNat,ad ↑g.r.i,fu 128 (ad 1)]⟩)) [(0,F),(5000,af b.b (aZ a.d) 158)]) (ar lW x F (ay (tuple ⟨[float f64 a.v.toNat,ad ↑g.r.i,nilIface]⟩)) [(0,F),(5000,af b.b (aZ a.d) 158)]))))):=by
 delta eb cP Dm O3 RG Tc Pp Gb P3 qV yw LU Pe RE O9 bI jz iC aH ad ba az ai aj ag fu af ce bd aS ay aT;obtain⟨s,tb,lc,av⟩:=x;obtain⟨⟨U,M,H⟩,E⟩:=A;replace G:gL tb lc F:=G;dsimp only at U M H E⊢;have t:aE [(0,F)] [(0,F)]:=aA [0];have rr:gL tb lc (.du (rest [(0,F)] [])):=G.sub (bU 0);have o:∀(v n:Nat)(S:St),av s=⟨v,n,0⟩->aE S [(0,F)]->ar lW ⟨s,tb,lc,av⟩ F (returned (tuple #[.float .f64 v,.int .i64 n,.nilIface])) S:=fun v n S e h=>
  ⟨.inl (),by show(av s).e=0;rw[e],by show _=returned (.tuple #[.float .f64 (av s).v,.int .i64 (av s).n,.nilIface]);rw[e],h⟩
 have p:∀(v n k:Nat)(S:St),k=1\/k=2->av s=⟨v,n,k⟩->aE S [(0,F)]->ar lW ⟨s,tb,lc,av⟩ F (returned (tuple #[.float .f64 v,.int .i64 n,.iface 128 (.int .i64 (k:Nat))])) S:=fun v n k S hk e h=>
  ⟨.inr (),by show(av s).e≠0/\(av s).e<=2;grind,by show _=returned (.tuple #[.float .f64 (av s).v,.int .i64 (av s).n,.iface 128 (.int .i64 (av s).e)]);rw[e],h⟩
 refine bO al8 ⟨s⟩ (by grind) fun y W=>aG (fun q=>o _ _ _ ?_ t) (fun q=>?_)
 ·rw[E];unfold wj;simp[*]
 refine bO alY ⟨s⟩ (by grind) fun r⟨I,m1,e0,e1,i1⟩=>?_;have u:av s=rW tb lc s r:=by
  rw[E];unfold wj;rw[W];dsimp only;rw[q,I];rfl
 refine aG (fun q1=>p 0 r.i 2 _ (.inr rfl) (by rw[u];unfold rW;simp[*]) t) (fun q1=>aG (fun q2=>?_) (fun q2=>⟨?_,?_⟩))
 ·refine⟨⟨cE _,ae,by simp[*]⟩,alM,rfl,⟨s.extract 0 r.i,r.m,r.e,r.n,r.t,tb,lc⟩,rfl,rfl,⟨by simp[*],by grind,e0,e1⟩,rr,fun a w=>o _ _ _ ?_ t,fun a w=>p _ _ 1 _ (.inl rfl) ?_ t⟩
  ·rw[u];unfold rW;simp[*]
  ·rw[u];unfold rW;simp[*]
 ·have sg:∀n:Bool,int .u64 (u64.wrap ((bif n then 1 else 0)*2^min (Int.toNat 63) u64.bits))=int .u64 (bif n then 9223372036854775808 else 0):=fun n=>by cases n <;> exact congrArg _ (by decide)
  refine⟨G.D3,M8,rfl,⟨r.n⟩,rfl,rfl,ao,ao,fun _ _=>aG (fun q3=>o _ _ _ ?_ t) (fun q3=>bo (fun q4=>p _ _ 1 _ (.inl rfl) ?_ t) (fun q4=>bo (fun q5=>o _ _ _ ?_ t) (fun q5=>⟨aG (fun q6=>bs aaA ⟨r.m,r.e,r.n,tb,lc⟩ ⟨by grind,by grind⟩ rr fun z I=>aG (fun q7=>o _ _ _ ?_ t) (fun q7=>⟨⟨r⟩,⟨⟨m1,i1⟩,by grind,by grind,?_⟩,⟨rfl,rfl,rfl,rfl,rfl,rfl,rfl,sg _,ao⟩,t⟩)) (fun q6=>⟨⟨r⟩,⟨⟨m1,i1⟩,by grind,by grind,?_⟩,⟨rfl,rfl,rfl,rfl,rfl,rfl,rfl,sg _,ao⟩,t⟩),?_⟩)))⟩
  ·rw[u];unfold rW;rw[show(!r.o)=false from q1,q2,q3];rfl
  ·rw[u];unfold rW;rw[show(!r.o)=false from q1,q2,q3,bw q4];rfl
  ·rw[u];unfold rW;rw[show(!r.o)=false from q1,q2,q3,bF q4,bw q5];rfl
  ·rw[u];unfold rW;simp[*]
  ·show av s=uF tb lc s r;rw[u];unfold rW;simp[*]
  ·show av s=uF tb lc s r;rw[u];unfold rW;simp[*]
  rintro⟨r⟩ X ⟨⟨m1,i1⟩,e0,e1,u⟩;dsimp only at m1 i1 e0 e1 u⊢;have Y:(bif r.n then (9223372036854775808:Int) else 0)=((mr r.n:Nat):Int):=by unfold mr;cases r.n <;> rfl
  have L:mr r.n<18446744073709551616:=by unfold mr;cases r.n <;> decide
  have u1:=gf ((r.m:Int)+1);have uN:u64.wrap ((r.m:Int)+1)=(((u64.wrap ((r.m:Int)+1)).toNat:Nat):Int):=ae;have P:∀a k:Nat,k<=1->gE ⟨r.m,r.e,mr r.n,tb⟩=(a,k)->(!r.t)=true->av s=⟨a,r.i,k⟩:=fun a k _ h N=>by
   rw[u];unfold uF;grind
  have B:∀a k c j:Nat,gE ⟨r.m,r.e,mr r.n,tb⟩=(a,k)->gE ⟨(u64.wrap ((r.m:Int)+1)).toNat,r.e,mr r.n,tb⟩=(c,j)->(!r.t)=false->cG .eql a c=true->av s=⟨a,r.i,k⟩:=fun a k c j h h' N V=>by
   rw[u];unfold uF;grind
  have C:∀a k c j:Nat,gE ⟨r.m,r.e,mr r.n,tb⟩=(a,k)->gE ⟨(u64.wrap ((r.m:Int)+1)).toNat,r.e,mr r.n,tb⟩=(c,j)->(!r.t)=false->cG .eql a c=false->av s=yF lc s r:=fun a k c j h h' N V=>by
   rw[u];unfold uF;grind
  refine⟨Nz,rfl,⟨r.m,r.e,mr r.n,tb⟩,by rw[Y],rfl,⟨m1,by grind,by grind,L,H⟩,rr.pow,fun a w=>aG (fun q=>o _ _ _ (P a 0 ae w q) t) (fun q=>⟨Nz,rfl,⟨(u64.wrap ((r.m:Int)+1)).toNat,r.e,mr r.n,tb⟩,by grind,rfl,⟨by grind,by grind,by grind,L,H⟩,rr.pow,fun c A=>⟨nZ (.inl rfl) rfl,(a,c),rfl,ao,aG (fun q2=>o _ _ _ (B a 0 c 0 w A q q2) t) (fun q2=>⟨⟨r⟩,⟨⟨m1,i1⟩,C a 0 c 0 w A q q2⟩,aV,t⟩)⟩,fun c A=>⟨nZ (.inl rfl) rfl,(a,c),rfl,ao,aG (fun q2=>o _ _ _ (B a 0 c 1 w A q q2) t) (fun q2=>⟨⟨r⟩,⟨⟨m1,i1⟩,C a 0 c 1 w A q q2⟩,aV,t⟩)⟩⟩),
   fun a w=>aG (fun q=>p _ _ 1 _ (.inl rfl) (P a 1 ae w q) t) (fun q=>⟨Nz,rfl,⟨(u64.wrap ((r.m:Int)+1)).toNat,r.e,mr r.n,tb⟩,by grind,rfl,⟨by grind,by grind,by grind,L,H⟩,rr.pow,fun c A=>⟨nZ (.inl rfl) rfl,(a,c),rfl,ao,aG (fun q2=>p _ _ 1 _ (.inl rfl) (B a 1 c 0 w A q q2) t) (fun q2=>⟨⟨r⟩,⟨⟨m1,i1⟩,C a 1 c 0 w A q q2⟩,aV,t⟩)⟩,fun c A=>⟨nZ (.inl rfl) rfl,(a,c),rfl,ao,aG (fun q2=>p _ _ 1 _ (.inl rfl) (B a 1 c 1 w A q q2) t) (fun q2=>⟨⟨r⟩,⟨⟨m1,i1⟩,C a 1 c 1 w A q q2⟩,aV,t⟩)⟩⟩)⟩
 rintro⟨r⟩ X ⟨⟨m1,i1⟩,u⟩ b;dsimp only at m1 i1 u⊢;have fW:(s.extract 0 r.i).size<=1000000000:=by rw[hT];omega
 refine⟨⟨cE _,ae,ae⟩,ajL,rfl,⟨b,s.extract 0 r.i,dZ⟩,rfl,bl,⟨fW,rfl⟩,ao,fun y⟨y1,y2,y3⟩=>?_⟩;dsimp only at y1 y2 y3⊢;have K:∀D:bq,gL tb lc (.du (rest [(0,F),(5000,.cells b (aZ D) 158)] [5000])):=fun D=>G.sub (bU 0);have J:∀D:bq,aE [(0,F),(5000,.cells b (aZ D) 158)] [(0,F)]:=fun D=>aA [0];cases O:eN (s.extract 0 r.i)with
 |none=>
  refine aG (fun _=>p 0 r.i 2 _ (.inr rfl) (by rw[u];unfold yF;rw[O]) (J _)) (fun h=>?_);grind
 |some v=>
  obtain⟨Q,R,Z,d4⟩:=y3 v O;refine aG (fun h=>?_) (fun _=>bs ac_ ⟨b,y.d,tb,lc⟩ ⟨⟨y1,by rw[Q];exact R.or⟩,M,by simp[*],by simp[*]⟩ (K _) fun z I=>?_)
  ·grind
  have I:d1 lc v=(z.v,z.o):=by grind
  have T:av s=⟨z.v.toNat,r.i,bif z.o then 1 else 0⟩:=by rw[u];unfold yF;simp[*]
  exact aG (fun q=>p _ _ 1 _ (.inl rfl) (by grind) (J _)) (fun q=>o _ _ _ (by grind) (J _))
theorem aaF:aD 117 lW:=fo 143 Tryz.func117 (fun _ _=>[(1,1,aX SM),(4,1,aX SL),(8,7,aX SI),(10,0,.q [.ex 0 (.is (.bool true))]),(11,1,aX uJ),(11,2,aW),(13,1,aW),(13,2,aW),(15,1,aW),(15,2,aW),(17,1,aW),(17,2,aW),(19,3,aX M4),(22,3,aX G4),(25,1,aW),(25,4,aX G4),(26,2,.qo (nj .eql)),(28,0,.n 5000),(29,3,.c So [5000] [5000]),(31,0,.c NC [5000] [5000]),(32,1,aW)]) [] aY aaH bA [] aaG
theorem aaz{tb:Nat->Nat}{lc:Nat->Nat×ByteArray}(a:qq lc)(b:∀i,tb i<18446744073709551616){K:bR}(c:∀F,K.rd F->gL tb lc F):aD 117 (wi (wj tb lc) K):=
 aaF.view (fun x=>⟨x.s,tb,lc,wj tb lc⟩) (fun _=>rfl) (fun _=>rfl) (fun _ h=>⟨⟨h,a,b⟩,rfl⟩) (fun _ F _ h=>c F h) (fun _ y _ h=>by
  cases y with
  |inl u=>exact⟨.inl u,h,rfl,rfl⟩
  |inr u=>exact⟨.inr u,h,rfl,rfl⟩)
end
section
open Go
theorem ag9{tb:Nat->Nat}{lc:Nat->Nat×ByteArray}(a:qq lc)(b:∀i,tb i<18446744073709551616){K:bR}(d:∀F,K.rd F->gL tb lc F)(c:∀F,K.rd F->sS F)(e:K.nv=kX (HT (wj tb lc))):aD 72 (oe K):=
 agY.view (fun x=>⟨K,HT (wj tb lc),x.s⟩) (fun _=>rfl) (fun _=>rfl) (fun _ h=>⟨h,ahE (aaz a b d) aks c⟩) (fun _ _ _ h=>h) (fun x _ _ _=>⟨(),ao,by show _=returned (.float .f64 (K.nv x.s));rw[e];rfl,rfl⟩)
end
section
open Go
def pa(i:Int):Int:=(i*631305-261663).fdiv (2^min (Int.toNat 21) i64.bits)
def oU(i:Int):Int:=(i*78913).fdiv (2^min (Int.toNat 18) i64.bits)
def Cz:aR where
 X:=mC
 args x:=[ad x.i]
 cond x:= -100000<=x.i/\x.i<=100000
 val x _:=ay (ad (pa x.i))
def za:aR where
 X:=mC
 args x:=[ad x.i]
 cond x:= -100000<=x.i/\x.i<=100000
 val x _:=ay (ad (oU x.i))
theorem aj7(x:mC)(F:ah)(a:Cz.cond x)(c:Cz.aO x F):((-9223372036854775808:Int)<=x.i*631305/\x.i*631305<=(9223372036854775807:Int))/\((-9223372036854775808:Int)<=x.i*631305-(261663:Int)/\x.i*631305-(261663:Int)<=(9223372036854775807:Int))/\ar Cz x F (ay (ad ((x.i*631305-(261663:Int)).fdiv ((2:Int)^min (Int.toNat (21:Int)) i64.bits)))) [(0,F)]:=by
 delta ad ay;have b: -100000<=x.i/\x.i<=100000:=a;exact⟨aK,aK,(),ao,rfl,aA [0]⟩
theorem aj6:aD 206 Cz:=fo 7 Tryz.func206 (fun _ _=>[]) [] aY aY bA [] aj7
theorem afw(x:mC)(F:ah)(a:za.cond x)(c:za.aO x F):((-9223372036854775808:Int)<=x.i*78913/\x.i*78913<=(9223372036854775807:Int))/\ar za x F (ay (ad ((x.i*78913).fdiv ((2:Int)^min (Int.toNat (18:Int)) i64.bits)))) [(0,F)]:=by
 delta ad ay;have b: -100000<=x.i/\x.i<=100000:=a;exact⟨aK,(),ao,rfl,aA [0]⟩
theorem Hu:aD 185 za:=fo 6 Tryz.func185 (fun _ _=>[]) [] aY aY bA [] afw
structure C2 where
 u:Int
 d:Int
def tF(x:C2):Int:=u64.wrap (x.u+u64.wrap x.d)
def zg:aR where
 X:=C2
 args x:=[az x.u,ad x.d]
 val x _:=ay (az (tF x))
theorem agJ(x:C2)(F:ah)(a:zg.cond x)(b:zg.aO x F):ar zg x F (ay (az (bd (x.u+bd x.d)))) [(0,F)]:=by
 delta az bd ay;exact iS
theorem VZ:aD 207 zg:=fo 9 Tryz.func207 (fun _ _=>[(1,2,aW),(1,3,aW)]) [] aY aY bA [] agJ
def oN(u:Int):Int:=(u64.wrap (u+3)).fdiv (2^min (Int.toNat 2) u64.bits)
def tm(u:Int):Int:=(u64.wrap (u+0)).fdiv (2^min (Int.toNat 2) u64.bits)
def TY(b:qw)(a:ah):List (Nat×Nat×OH):=[(1,1,aW),(1,2,aW)]
theorem abO(x:qw)(F:ah)(a:(iV oN).cond x)(b:(iV oN).aO x F):ar (iV oN) x F (ay (az ((bd (x.u+3)).fdiv ((2:Int)^min (Int.toNat (2:Int)) u64.bits)))) [(0,F)]:=by
 delta az bd ay;exact iS
theorem abN:aD 208 (iV oN):=fo 6 Tryz.func208 TY [] aY aY bA [] abO
theorem adw(x:qw)(F:ah)(a:(iV tm).cond x)(b:(iV tm).aO x F):ar (iV tm) x F (ay (az ((bd (x.u+0)).fdiv ((2:Int)^min (Int.toNat (2:Int)) u64.bits)))) [(0,F)]:=by
 delta az bd ay;exact iS
theorem adv:aD 209 (iV tm):=fo 6 Tryz.func209 TY [] aY aY bA [] adw
end
end Go.Proofs.YtdkchodgklpomaaGreatDoor
