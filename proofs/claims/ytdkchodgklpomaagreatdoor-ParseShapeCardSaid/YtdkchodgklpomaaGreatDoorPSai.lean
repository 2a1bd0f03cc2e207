/- Part of the proof that ParseShape answers true at every input. -/
import Derived.Test.YtdkchodgklpomaaGreatDoorPSah
set_option linter.all false
namespace Go.Proofs.YtdkchodgklpomaaGreatDoor
set_option maxRecDepth 100000
open Go.Value (int slice string bool pointer agg tuple func float iface nilIface)
open Go.IntKind (i64 u8 u64 i32 u32 u16 i8 i16)
open Go.FloatKind (f64)
open Go.Ending (returned panicked)
section
open Go
def df(z:Int):Int:=bif decide (z>=9) then 27 else (rM z.toNat:Nat)
section
variable(lc:Nat->Nat×ByteArray)
def nW:Nat->bn->Int->bn×Int
 |0,d,e=>(d,e)
 |f+1,d,e=>bif decide (d.dp>0) then nW f (ec lc d (0-df d.dp)) (e+df d.dp) else (d,e)
def mF:Nat->bn->Int->bn×Int
 |0,d,e=>(d,e)
 |f+1,d,e=>bif decide (d.dp<0)||(d.dp==0&&decide (d.at_ 0<53)) then mF f (ec lc d (df (0-d.dp))) (e-df (0-d.dp)) else (d,e)
def Y0(m e:Int):Int:=u64.wrap ((BitVec.ofInt u64.bits (u64.wrap ((BitVec.ofInt u64.bits m&&& BitVec.ofInt u64.bits (u64.wrap (u64.wrap (1*2^min (Int.toNat 52) u64.bits)-1))).toNat:Int))|||BitVec.ofInt u64.bits (u64.wrap (u64.wrap (i64.wrap ((BitVec.ofInt i64.bits (e- -1023)&&& BitVec.ofInt i64.bits (i64.wrap (i64.wrap (1*2^min (Int.toNat 11) i64.bits)-1))).toNat:Int))*2^min (Int.toNat 52) u64.bits))).toNat:Int)
def uB(ng:Bool)(m e:Int)(ov:Bool):Int×Bool:=bif ng then (u64.wrap ((BitVec.ofInt u64.bits (Y0 m e)|||BitVec.ofInt u64.bits (u64.wrap (u64.wrap (1*2^min (Int.toNat 52) u64.bits)*2^min (Int.toNat 11) u64.bits))).toNat:Int),ov) else (Y0 m e,ov)
def By(ng:Bool):Int×Bool:=bif ng then uB true 0 1024 true else uB false 0 1024 true
def Bx(ng:Bool)(m e:Int):Int×Bool:=bif u64.wrap ((BitVec.ofInt u64.bits m&&& BitVec.ofInt u64.bits (u64.wrap (1*2^min (Int.toNat 52) u64.bits))).toNat:Int)==0 then uB ng m (-1023) false else uB ng m e false
def Gx(ng:Bool)(m e:Int):Int×Bool:=bif m==u64.wrap (2*2^min (Int.toNat 52) u64.bits) then (bif decide (e+1- -1023>=2047) then By ng else Bx ng (m.fdiv (2^min (Int.toNat 1) u64.bits)) (e+1)) else Bx ng m e
def DM(d:bn)(e:Int):Int×Bool:=bif decide (e- -1023>=2047) then By d.ng else Gx d.ng (nF (ec lc d 53)) e
def DL(d:bn)(e:Int):Int×Bool:=bif decide (e-1< -1023+1) then DM lc (ec lc d (0-(-1023+1-(e-1)))) (e-1+(-1023+1-(e-1))) else DM lc d (e-1)
def pG(p:bn×Int):Int×Bool:=DL lc p.1 p.2
def YY(d:bn):Int×Bool:=pG lc (mF lc 6000 (nW lc 700 d 0).1 (nW lc 700 d 0).2)
def dN(d:bn):Int×Bool:=bif d.nd==0 then uB d.ng 0 (-1023) false else bif decide (d.dp>310) then By d.ng else bif decide (d.dp< -330) then uB d.ng 0 (-1023) false else YY lc d
end
theorem Hm{z:Int}(h:0<=z):(1<=df z/\df z<=27)/\(1<=z->3<=df z):=by
 unfold df;by_cases q:z>=9
 ·simp[*]
 ·rw[bK q,aU];have k:∀i,i<9->1<=rM i/\rM i<=27/\(1<=i->3<=rM i):=by decide
  grind
variable{n:Nat}
theorem aoP{lc:Nat->Nat×ByteArray}{d:bn}(h1:1<=n)(h2:n<=60):ec lc d (0-(n:Int))=oG d n:=by
 unfold ec;rw[bK (show ¬0<0-(n:Int) by omega),bG (show 0-(n:Int)<0 by omega),aU,bf,Fi,show(-(0-(n:Int))).toNat=n by omega,show(200000:Nat)=199999+1 from rfl,tQ,bK (show ¬60<n by omega),aU]
theorem aoQ{lc:Nat->Nat×ByteArray}{d:bn}(h1:1<=n)(h2:n<=60):ec lc d (n:Int)=qy d n (lc n):=by
 unfold ec;rw[bG (show 0<(n:Int) by omega),bf,Fi,show((n:Int)).toNat=n by omega,show(200000:Nat)=199999+1 from rfl,tP,bK (show ¬60<n by omega),aU]
def mA(d:bn):Nat:=2*d.dp.toNat+(bif decide (56<=d.at_ 0) then 1 else 0)
def mB(d:bn):Nat:=bif decide (0<d.dp) then 0 else 16*(0-d.dp).toNat+(58-d.at_ 0).toNat
theorem SG(d:bn):2*d.dp.toNat<=mA d/\mA d<=2*d.dp.toNat+1:=by
 unfold mA;grind
theorem apd{lc:Nat->Nat×ByteArray}{d:bn}(hd:d.norm)(hp:0<d.dp):(ec lc d (0-df d.dp)).norm/\(ec lc d (0-df d.dp)).ng=d.ng/\(ec lc d (0-df d.dp)).dp<=d.dp/\d.dp-30<=(ec lc d (0-df d.dp)).dp/\mA (ec lc d (0-df d.dp))<mA d:=by
 obtain⟨⟨p1,p2⟩,p3⟩:=Hm (z:=d.dp) af;have p3:=p3 af;obtain⟨n,hn⟩:∃n:Nat,df d.dp=(n:Int):=⟨(df d.dp).toNat,af⟩;rw[hn]at p1 p2 p3⊢;rw[aoP af af];obtain⟨a1,a2,a3,a4,a5,a6⟩:=N3 hd (k:=n) af af;have m1:=SG d;have m2:=SG (oG d n);refine⟨a1,a5,af,af,?_⟩;by_cases hR:mi d n=1
 ·obtain⟨b1,b2⟩:=a6 hR;have h9:=hd.g9 0 (by have:=hd.pos;omega);have RY:n=3:=by
   have h3:8<=2^n:=by
    have:2^3<=2^n:=oV (by decide) af;exact this
   rcases Nat.lt_or_ge n 4 with h|h
   ·omega
   ·have:2^4<=2^n:=oV (by decide) h;have:16<=2^n:=this;omega
  rw[RY]at b1 b2⊢;have h8:(2:Nat)^3=8:=by decide
  rw[h8]at b1 b2;have hdp:(oG d 3).dp=d.dp:=by rw[<-RY];omega
  have uD:d.at_ 0=((48+dB d 0:Nat):Int):=by
   have:=hd.iA 0 (by have:=hd.pos;omega);unfold dB;omega
  have h7:(oG d 3).at_ 0=48+((dB d 0/8:Nat):Int):=b2;unfold mA;rw[hdp,bK (show ¬56<=(oG d 3).at_ 0 by rw[h7];omega),bG (show 56<=d.at_ 0 by rw[uD];omega)];exact jj _
 ·omega
theorem ab5{lc:Nat->Nat×ByteArray}(hU:sv lc){d:bn}(hd:d.norm)(hp:(decide (d.dp<0)||(d.dp==0&&decide (d.at_ 0<53)))=true):(ec lc d (df (0-d.dp))).norm/\(ec lc d (df (0-d.dp))).ng=d.ng/\d.dp<=(ec lc d (df (0-d.dp))).dp/\(ec lc d (df (0-d.dp))).dp<=d.dp+27/\mB (ec lc d (df (0-d.dp)))<mB d:=by
 have vQ:d.dp<=0:=by
  grind
 obtain⟨⟨p1,p2⟩,-⟩:=Hm (z:=0-d.dp) af;obtain⟨n,hn⟩:∃n:Nat,df (0-d.dp)=(n:Int):=⟨(df (0-d.dp)).toNat,af⟩;rw[hn]at p1 p2⊢;have hc:=hU n af af;rw[aoQ af af];obtain⟨a1,a2,a3,a4⟩:=Ld hd af hc;have bS:=Lb (d:=d) hc;have h0:=hd.iA 0 (by have:=hd.pos;omega);have h1:=a1.iA 0 (by have:=a1.pos;omega);have f1:=a1.fst;refine⟨a1,a3,af,af,?_⟩;unfold mB;rw[bK (show ¬0<d.dp by omega),aU];by_cases hq:0<(qy d n (lc n)).dp
 ·rw[bG hq,bf];omega
 ·rw[bK hq,aU];by_cases he:np d (lc n)=0
  ·have:=a4 he;rw[he]at a2;omega
  ·omega
structure fO where
 b:Nat
 d:bn
 tb:Nat->Nat
 lc:Nat->Nat×ByteArray
def EP(x:fO):=ag x.b (aZ x.d) 158
def jt(x:fO):Option Addr:=some ⟨x.b,0,none⟩
def sM:aR where
 X:=fO
 Y:=bn
 args x:=[ah (jt x),ah dV]
 pre x:=[EP x]
 cond x:=(x.d.ds.length=800/\(x.d.nd=0\/x.d.norm))/\sv x.lc/\ -3000000000<=x.d.dp/\x.d.dp<=3000000000
 aQ x F:=ic x.tb x.lc F
 cd _ y:=y.ds.length=800
 val x _:=.returned (.tuple #[.int .u64 (dN x.lc x.d).1,.bool (dN x.lc x.d).2])
 post x y:=[ag x.b (aZ y) 158]
noncomputable def Kl:Func:={Tryz.f131 with body:=some (agr 1 0 Tryz.f131)}
def YZ(x:fO):List (Nat×Value):=[(1,.pointer (some ⟨11,0,none⟩))]
structure cY where
 d:bn
 e:Int
 m:Int
 o:Bool
 f:Nat
def vG(x:fO):List (Nat×Value):=[(0,.pointer (some ⟨x.b,0,none⟩)),(1,.pointer (some ⟨11,0,none⟩))]
def vH(x:fO)(F:ai)(s:cY):List ai:=[.cells x.b (aZ s.d) 158,F]
def ahw(x:fO)(F:ai):Nat->Option Inv:=fun
 |0=>some {X:=cY,P:=fun s=>(s.d.norm/\s.d.ng=x.d.ng)/\(-330<=s.d.dp/\s.d.dp<=310)/\(0<=s.e/\s.e+27*s.f<=18900)/\mA s.d<s.f/\dN x.lc x.d=pG x.lc (mF x.lc 6000 (nW x.lc s.f s.d s.e).1 (nW x.lc s.f s.d s.e).2),mu:=fun s=>s.f,lv:=fun s=>vG x++[(5,.bool false),(6,.int .i64 s.e)],st:=vH x F}
 |2=>some {X:=cY,P:=fun s=>(s.d.norm/\s.d.ng=x.d.ng)/\(-330<=s.d.dp/\s.d.dp<=30)/\(s.e<=18900/\27*s.f<=s.e+162000)/\mB s.d<s.f/\dN x.lc x.d=pG x.lc (mF x.lc s.f s.d s.e),mu:=fun s=>s.f,lv:=fun s=>vG x++[(5,.bool false),(6,.int .i64 s.e)],st:=vH x F}
 |_=>none
def Km:(T:Type)×(cY->T):=⟨cY,fun s=>s⟩
def ahv(x:fO)(F:ai):Nat->Option Inv:=fun
 |16=>some {X:=cY,gh:=some Km,P:=fun s=>(s.d.norm/\s.d.ng=x.d.ng)/\(0<s.d.dp/\s.d.dp<=310)/\(0<=s.e/\s.e+27*s.f<=18900)/\mA s.d<s.f/\s.m=df s.d.dp/\dN x.lc x.d=pG x.lc (mF x.lc 6000 (nW x.lc s.f s.d s.e).1 (nW x.lc s.f s.d s.e).2),mu:=fun s=>s.f,lv:=fun s=>vG x++[(5,.bool false),(6,.int .i64 s.e),(8,.int .i64 s.m)],st:=vH x F}
 |23=>some {X:=cY,gh:=some Km,P:=fun s=>(s.d.norm/\s.d.ng=x.d.ng)/\(-330<=s.d.dp/\(decide (s.d.dp<0)||(s.d.dp==0&&decide (s.d.at_ 0<53)))=true)/\(s.e<=18900/\27*s.f<=s.e+162000)/\mB s.d<s.f/\s.m=df (0-s.d.dp)/\dN x.lc x.d=pG x.lc (mF x.lc s.f s.d s.e),mu:=fun s=>s.f,lv:=fun s=>vG x++[(5,.bool false),(6,.int .i64 s.e),(9,.int .i64 s.m)],st:=vH x F}
 |18=>some {X:=cY,P:=fun s=>(s.d.norm/\s.d.ng=x.d.ng)/\(-330<=s.d.dp/\s.d.dp<=0)/\(0<=s.e/\s.e<=18900)/\dN x.lc x.d=pG x.lc (mF x.lc 6000 s.d s.e),mu:=fun _=>0,lv:=fun s=>vG x++[(5,.bool false),(6,.int .i64 s.e)],st:=vH x F}
 |25=>some {X:=cY,P:=fun s=>(s.d.norm/\s.d.ng=x.d.ng)/\(-330<=s.d.dp/\s.d.dp<=30)/\(-162000<=s.e/\s.e<=18900)/\dN x.lc x.d=DL x.lc s.d s.e,mu:=fun _=>0,lv:=fun s=>vG x++[(5,.bool false),(6,.int .i64 s.e)],st:=vH x F}
 |30=>some {X:=cY,P:=fun s=>(s.d.norm/\s.d.ng=x.d.ng)/\(-50000000<=s.d.dp/\s.d.dp<=50000000)/\(-162001<=s.e/\s.e<=18900)/\dN x.lc x.d=DM x.lc s.d s.e,mu:=fun _=>0,lv:=fun s=>vG x++[(5,.bool false),(6,.int .i64 s.e)],st:=vH x F}
 |37=>some {X:=cY,P:=fun s=>(s.d.ds.length=800/\s.d.ng=x.d.ng)/\(-162001<=s.e/\s.e<=18901)/\dN x.lc x.d=Bx x.d.ng s.m s.e,mu:=fun _=>0,lv:=fun s=>vG x++[(5,.bool false),(6,.int .i64 s.e),(7,.int .u64 s.m)],st:=vH x F}
 |39=>some {X:=cY,P:=fun s=>(s.d.ds.length=800/\s.d.ng=x.d.ng)/\dN x.lc x.d=By x.d.ng,mu:=fun _=>0,lv:=fun s=>vG x,st:=vH x F}
 |42=>some {X:=cY,P:=fun s=>(s.d.ds.length=800/\s.d.ng=x.d.ng)/\(-162001<=s.e/\s.e<=18901)/\dN x.lc x.d=uB x.d.ng s.m s.e s.o,mu:=fun _=>0,lv:=fun s=>vG x++[(5,.bool s.o),(6,.int .i64 s.e),(7,.int .u64 s.m)],st:=vH x F}
 |_=>none
def D4:OH:=.q [.ex 1 (.is (.int .u64 52))]
def G5:OH:=.q [.ex 1 (.is (.int .u64 11))]
def xV:OH:=.q [.ex 1 (.is (.int .i64 (-1023)))]
def ahx(_x:fO)(_F:ai):List (Nat×Nat×OH):=[(3,3,iH 0),(5,3,xV),(6,3,iH 0),(7,3,iH 0),(9,3,xV),(11,3,iH 0),(13,3,iH 0),(13,4,.q [.ex 1 .slice]),(15,0,.q [.ex 1 .slice]),(15,4,iH 0),(15,5,.qo (h_ 1)),(15,6,.q [.ex 1 (.int .i64)]),(16,3,bq rZ),
 (18,3,iH 0),(18,9,iH 0),(18,16,bH 0),(18,17,aW),(20,3,iH 0),(20,5,.q [.ex 1 .slice]),(22,0,.q [.ex 1 .slice]),(22,4,iH 0),(22,6,.qo (h_ 1)),(22,7,.q [.ex 1 (.int .i64)]),(23,2,bq rZ),
 (26,4,xV),(27,3,xV),(28,3,bq rZ),(30,4,xV),(30,9,G5),(30,10,aW),(30,11,aW),(31,4,D4),(31,5,aW),(31,6,aW),(31,7,bq rZ),(32,1,bq yG),(33,4,D4),(33,5,aW),(33,6,aW),(34,1,aW),(36,4,xV),(36,9,G5),(36,10,aW),(36,11,aW),(37,4,D4),(37,5,aW),(37,6,aW),(37,7,aW),(38,3,xV),
 (40,3,G5),(40,4,aW),(40,5,aW),(40,9,xV),(40,10,aW),(42,4,D4),(42,5,aW),(42,6,aW),(42,7,aW),(43,5,xV),(43,10,G5),(43,11,aW),(43,12,aW),(43,13,aW),(43,14,aW),(43,18,D4),(43,19,aW),(43,20,aW),(44,3,.q [.ex 0 .bool]),(45,4,D4),(45,5,aW),(45,9,G5),(45,10,aW),(45,11,aW)]
noncomputable def Y1(x:aR.X sM)(F:ai):kj where
 op:=hk ((ahx x F)++[])
 BO:=ahw x F
 cut:=ahv x F
 B1:=(fun _=>[])
def Cn(z:cY)(e0:fO):=z.d.ds.length=800/\z.d.ng=e0.d.ng
def Ia(z:cY):=(-162001:Int)<=z.e/\z.e<=18901
def gN(x:fO)(q:cY)(F:ai):=[(0,ag x.b (aZ q.d) 158),(1,F)]
def F0(e0:fO)(e1:ai)(v0 v1 v2:Value)(ss:St):=∃(z:cY),(Cn z e0/\Ia z/\dN e0.lc e0.d=uB e0.d.ng z.m z.e z.o)/\(ah (jt e0)=ah (jt e0)/\ah dV=ah dV/\v0=ak z.o/\v1=ae z.e/\v2=aA z.m/\True)/\aD ss (gN e0 z e1)
def UV(F:ai)(x:fO):=aO F ⟨11,2,none⟩ oz/\F0 x F dq oz (aA 0) [(0,ag x.b (aZ x.d) 158),(1,F)]
def Jj(e0:fO)(e1:ai)(ss:St):=∃(z:cY),(Cn z e0/\dN e0.lc e0.d=By e0.d.ng)/\(ah (jt e0)=ah (jt e0)/\ah dV=ah dV/\True)/\aD ss (gN e0 z e1)
def Ah(e:cY)(x:fO):=e.d.norm/\e.d.ng=x.d.ng
def LG(a:cY)(x:fO):=Ah a x/\((-330:Int)<=a.d.dp/\a.d.dp<=310)/\(0<=a.e/\a.e+27*(a.f:Int)<=18900)/\mA a.d<a.f/\dN x.lc x.d=pG x.lc (mF x.lc 6000 (nW x.lc a.f a.d a.e).fst (nW x.lc a.f a.d a.e).snd)
def wq(x:fO)(q:cY):=ag x.b (aZ q.d) 158
def TC(z:cY)(e0:fO)(e1:cY):=(Ah z e0/\(0<z.d.dp/\z.d.dp<=310)/\(0<=z.e/\z.e+27*(z.f:Int)<=18900)/\mA z.d<z.f/\z.m=df z.d.dp/\dN e0.lc e0.d=pG e0.lc (mF e0.lc 6000 (nW e0.lc z.f z.d z.e).fst (nW e0.lc z.f z.d z.e).snd))/\Km.snd z=e1
def Vt(e0:fO)(v0:Value)(z:cY)(v1:Value):=ah (jt e0)=ah (jt e0)/\ah dV=ah dV/\ak false=ak false/\v0=ae z.e/\v1=ae z.m/\True
def Pe(e0:fO)(e1:cY)(e2:ai)(v0 v1:Value)(ss:St):=∃(z:cY),TC z e0 e1/\Vt e0 v0 z v1/\aD ss (gN e0 z e2)
def F1(aa:List Value)(pp:List ai)(rr:ai)(k0:vp->bn->Prop):=aC 156 rZ/\true=true/\∃(z:vp),aa=[ah (nz z),ae z.k]/\pp=[ag z.b (aZ z.d) 158]/\(z.d.norm/\sv z.lc/\(-200000:Int)<=z.k/\z.k<=200000/\(-100000000:Int)<=z.d.dp/\z.d.dp<=100000000)/\ic z.tb z.lc rr/\∀(u0:bn),u0=ec z.lc z.d z.k->k0 z u0
def Ut(a:cY)(x:fO):=Ah a x/\((-330:Int)<=a.d.dp/\a.d.dp<=0)/\(0<=a.e/\a.e<=18900)/\dN x.lc x.d=pG x.lc (mF x.lc 6000 a.d a.e)
def UW(x:fO)(o a:cY):=ah (jt x)=ah (jt x)/\ah dV=ah dV/\ak false=ak false/\ae o.e=ae a.e/\True
def LS(z:cY)(e0:fO):=Ah z e0/\((-330:Int)<=z.d.dp/\z.d.dp<=30)/\(z.e<=18900/\27*z.f<=z.e+162000)/\mB z.d<z.f/\dN e0.lc e0.d=pG e0.lc (mF e0.lc z.f z.d z.e)
def Tw(e:cY)(x:fO)(l:cY):=(Ah e x/\((-330:Int)<=e.d.dp/\(decide (e.d.dp<0)||e.d.dp==0&&decide (e.d.at_ 0<53))=true)/\(e.e<=18900/\27*e.f<=e.e+162000)/\mB e.d<e.f/\e.m=df ((0:Int)-e.d.dp)/\dN x.lc x.d=pG x.lc (mF x.lc e.f e.d e.e))/\Km.snd e=l
def Pf(e0:fO)(e1:cY)(e2:ai)(v0 v1:Value)(ss:St):=∃(z:cY),Tw z e0 e1/\Vt e0 v0 z v1/\aD ss (gN e0 z e2)
def Mx(e0:fO)(v0:Value)(z:cY):=ah (jt e0)=ah (jt e0)/\ah dV=ah dV/\ak false=ak false/\v0=ae z.e/\True
def XC(e0:fO)(e1:ai)(v0:Value)(ss:St)(mm:Nat):=∃(z:cY),LS z e0/\Mx e0 v0 z/\aD ss (gN e0 z e1)/\z.f<mm
def TL(x:fO)(q:cY)(F:ai):=∃(l:cY),(true=true/\T1 (wq x q) ⟨x.b,801,none⟩ (fun k=>e8 F ⟨13,0,none⟩ (fun j i h=>aP (bY ((0:Int)-k)>=(i:Int)) (Pf x l F (ae q.e) (ae 27) (gN x q F)) (true=true/\e8 F ⟨13,0,none⟩ (fun g f e=>T1 (wq x q) ⟨x.b,801,none⟩ (fun d=>kl (a8 Kl 22 6) [au g f e,ae (bY ((0:Int)-d))] (fun c=>T1 F ⟨c.b,c.o+c.n.toNat*1,none⟩ (fun b=>Pf x l F (ae q.e) (ae b) (gN x q F)))))))))/\aS fun(e:cY)_=>Tw e x l->F1 [ah (jt x),ae e.m] [ag x.b (aZ e.d) 158] (aH (gN x e F) [0]) (fun c b=>bT (e.e-e.m)/\XC x F (ae (e.e-e.m)) [(0,ag c.b (aZ b) 158),(1,F)] q.f)
def UC(z:cY)(e0:fO):=Ah z e0/\((-330:Int)<=z.d.dp/\z.d.dp<=30)/\((-162000:Int)<=z.e/\z.e<=18900)/\dN e0.lc e0.d=DL e0.lc z.d z.e
def Pg(e0:fO)(e1:ai)(v0:Value)(ss:St):=∃(z:cY),UC z e0/\Mx e0 v0 z/\aD ss (gN e0 z e1)
def Uh(z:cY)(e0:fO):=Ah z e0/\((-50000000:Int)<=z.d.dp/\z.d.dp<=50000000)/\((-162001:Int)<=z.e/\z.e<=18900)/\dN e0.lc e0.d=DM e0.lc z.d z.e
def Ph(e0:fO)(e1:ai)(v0:Value)(ss:St):=∃(z:cY),Uh z e0/\Mx e0 v0 z/\aD ss (gN e0 z e1)
def UX(i:cY):=(-9223372036854775808:Int)<=i.e-(-1023:Int)/\i.e-(-1023:Int)<=(9223372036854775807:Int)
def Pi(e0:fO)(e1:ai)(v0 v1:Value)(ss:St):=∃(z:cY),(Cn z e0/\Ia z/\dN e0.lc e0.d=Bx e0.d.ng z.m z.e)/\(ah (jt e0)=ah (jt e0)/\ah dV=ah dV/\ak false=ak false/\v0=ae z.e/\v1=aA z.m/\True)/\aD ss (gN e0 z e1)
theorem ahA(x:fO)(F:ai)(hc:sM.cond x)(hr:sM.aQ x F):(T1 (EP x) ⟨x.b,800,none⟩ (fun v=>Br (v==0) (UV F x) (T1 (EP x) ⟨x.b,801,none⟩ (fun u=>aP (u>310) (Jj x F [(0,ag x.b (aZ x.d) 158),(1,F)]) (T1 (EP x) ⟨x.b,801,none⟩ (fun t=>aP (t<(-330:Int)) (UV F x) (((∃(a:cY),LG a x/\(ah (jt x)=ah (jt x)/\ah dV=ah dV/\ak false=ak false/\ae 0=ae a.e/\True)/\aD [(0,ag x.b (aZ x.d) 158),(1,F)] (gN x a F))/\aS fun(o:cY)_=>LG o x->T1 (wq x o) ⟨x.b,801,none⟩ (fun m=>aP (m>0) (∃(l:cY),(true=true/\T1 (wq x o) ⟨x.b,801,none⟩ (fun k=>e8 F ⟨13,0,none⟩ (fun j i h=>aP (k>=i) (Pe x l F (ae o.e) (ae 27) (gN x o F)) (true=true/\e8 F ⟨13,0,none⟩ (fun g f e=>T1 (wq x o) ⟨x.b,801,none⟩ (fun d=>kl (a8 Kl 15 5) [au g f e,ae d] (fun c=>T1 F ⟨c.b,c.o+c.n.toNat*1,none⟩ (fun b=>Pe x l F (ae o.e) (ae b) (gN x o F)))))))))/\aS fun(e:cY)_=>TC e x l->F1 [ah (jt x),ae (bY ((0:Int)-e.m))] [ag x.b (aZ e.d) 158] (aH (gN x e F) [0]) (fun c b=>bT (e.e+e.m)/\∃(a:cY),LG a x/\(ah (jt x)=ah (jt x)/\ah dV=ah dV/\ak false=ak false/\ae (e.e+e.m)=ae a.e/\True)/\aD [(0,ag c.b (aZ b) 158),(1,F)] (gN x a F)/\a.f<o.f)) (∃(a:cY),Ut a x/\UW x o a/\aD (gN x o F) (gN x a F))))/\aS fun(s:cY)_=>Ut s x->((∃(a:cY),LS a x/\UW x s a/\aD (gN x s F) (gN x a F))/\aS fun(q:cY)_=>LS q x->T1 (wq x q) ⟨x.b,801,none⟩ (fun o=>aP (o<0) (TL x q F) (T1 (wq x q) ⟨x.b,801,none⟩ (fun n=>Br (n==0) (((0:Int)<=(0:Int)/\0<(↑(800:Nat):Int))/\jP (wq x q) ⟨x.b,0,none⟩ (fun m=>aP (m<53) (TL x q F) (Pg x F (ae q.e) (gN x q F)))) (Pg x F (ae q.e) (gN x q F))))))/\aS fun(k:cY)_=>UC k x->((-9223372036854775808:Int)<=k.e-1/\k.e-1<=(9223372036854775807:Int))/\(aO F ⟨11,2,none⟩ oz/\HG/\aP (k.e-1<(-1023:Int)+(1:Int)) (aO F ⟨11,2,none⟩ oz/\HG/\bT ((-1023:Int)+(1:Int)-(k.e-1))/\F1 [ah (jt x),ae (bY ((0:Int)-((-1023:Int)+(1:Int)-(k.e-1))))] [ag x.b (aZ k.d) 158] (aH (gN x k F) [0]) (fun c b=>bT (k.e-1+((-1023:Int)+(1:Int)-(k.e-1)))/\Ph x F (ae (k.e-1+((-1023:Int)+(1:Int)-(k.e-1)))) [(0,ag c.b (aZ b) 158),(1,F)])) (Ph x F (ae (k.e-1)) (gN x k F)))/\aS fun(i:cY)_=>Uh i x->true=true/\aO F ⟨11,2,none⟩ oz/\UX i/\aO F ⟨11,1,none⟩ wE/\aP (i.e-(-1023:Int)>=bY (bY ((1:Int)*(2:Int)^min (Int.toNat (11:Int)) i64.bits)-1)) (Jj x F (gN x i F)) (aO F ⟨11,0,none⟩ mR/\F1 [ah (jt x),ae (bY (bc ((1:Int)+(52:Int))))] [ag x.b (aZ i.d) 158] (aH (gN x i F) [0]) (fun g f=>aC 157 yG/\true=true/\∃(e:lY),[ah (jt x)]=[ah (ju e)]/\[ag g.b (aZ f) 158]=[ag e.b (aZ e.d) 158]/\e.d.ok/\True/\∀(d:Unit),True->(aO F ⟨11,0,none⟩ mR/\Br (nF e.d==bc ((2:Int)*(2:Int)^min (Int.toNat (52:Int)) u64.bits)) (((-9223372036854775808:Int)<=i.e+1/\i.e+1<=(9223372036854775807:Int))/\true=true/\aO F ⟨11,2,none⟩ oz/\((-9223372036854775808:Int)<=i.e+1-(-1023:Int)/\i.e+1-(-1023:Int)<=(9223372036854775807:Int))/\aO F ⟨11,1,none⟩ wE/\aP (i.e+1-(-1023:Int)>=bY (bY ((1:Int)*(2:Int)^min (Int.toNat (11:Int)) i64.bits)-1)) (Jj x F (nu e F)) (Pi x F (ae (i.e+1)) (aA ((nF e.d).fdiv ((2:Int)^min (Int.toNat (1:Int)) u64.bits))) (nu e F))) (Pi x F (ae i.e) (aA (nF e.d)) (nu e F)))/\aS fun(c:cY)_=>(Cn c x/\Ia c/\dN x.lc x.d=Bx x.d.ng c.m c.e)->aO F ⟨11,0,none⟩ mR/\Br (bc (↑(cf c.m&&& cf (bc ((1:Int)*(2:Int)^min (Int.toNat (52:Int)) u64.bits))).toNat:Int)==0) (aO F ⟨11,2,none⟩ oz/\F0 x F dq oz (aA c.m) (gN x c F)) (F0 x F dq (ae c.e) (aA c.m) (gN x c F))))))))))/\aS fun(c:cY)_=>(Cn c x/\dN x.lc x.d=By x.d.ng)->true=true/\aO F ⟨11,1,none⟩ wE/\aO F ⟨11,2,none⟩ oz/\F0 x F (ak true) (ae (bY (bY (bY ((1:Int)*(2:Int)^min (Int.toNat (11:Int)) i64.bits)-1)+(-1023:Int)))) (aA 0) (gN x c F))/\aS fun(c:cY)_=>(Cn c x/\Ia c/\dN x.lc x.d=uB x.d.ng c.m c.e c.o)->aO F ⟨11,0,none⟩ mR/\true=true/\aO F ⟨11,2,none⟩ oz/\UX c/\aO F ⟨11,1,none⟩ wE/\aO F ⟨11,0,none⟩ mR/\zf (wq x c) ⟨x.b,802,none⟩ (fun a=>Br a (true=true/\aO F ⟨11,0,none⟩ mR/\aO F ⟨11,1,none⟩ wE/\aq sM x F (az (tuple {toList:=[aA (bc (↑(cf (bc (↑(cf (bc (↑(cf c.m&&& cf (bc (bc ((1:Int)*(2:Int)^min (Int.toNat (52:Int)) u64.bits)-1))).toNat:Int))|||cf (bc (bc (bY (↑(iC (c.e-(-1023:Int))&&& iC (bY (bY ((1:Int)*(2:Int)^min (Int.toNat (11:Int)) i64.bits)-1))).toNat:Int))*2^min (Int.toNat (52:Int)) u64.bits))).toNat:Int))|||cf (bc (bc ((1:Int)*(2:Int)^min (Int.toNat (52:Int)) u64.bits)*2^min (Int.toNat (11:Int)) u64.bits))).toNat:Int)),ak c.o]})) (gN x c F)) (aq sM x F (az (tuple ⟨[aA (bc (↑(cf (bc (↑(cf c.m&&& cf (bc (bc ((1:Int)*(2:Int)^min (Int.toNat (52:Int)) u64.bits)-1))).toNat:Int))|||cf (bc (bc (bY (↑(iC (c.e-(-1023:Int))&&& iC (bY (bY ((1:Int)*(2:Int)^min (Int.toNat (11:Int)) i64.bits)-1))).toNat:Int))*2^min (Int.toNat (52:Int)) u64.bits))).toNat:Int)),ak c.o]⟩)) (gN x c F))):=by
 delta T1 EP oz Cn Ia jt dV gN F0 dq UV Jj Ah LG wq e8 TC Vt Pe kl nz F1 Ut UW LS Tw Pf Mx XC TL jP UC Pg HG Uh Ph UX wE mR ju nu Pi zf aH bT ae a_ aA ak ah au ag cf iC bc bY aP az aS;obtain⟨b,d,tb,lc⟩:=x;obtain⟨⟨hl,hd⟩,hU,vR,iE⟩:=hc;replace hr:ic tb lc F:=hr;dsimp only at hl hd hU vR iE⊢;obtain⟨pb,po,pc,t1,t2⟩:=hr.pt;have P1:∀v:bn,aD [(0,.cells b (aZ v) 158),(1,F)] [(0,.cells b (aZ v) 158),(1,F)]:=fun v=>aB [0,1];have rr:∀v:bn,ic tb lc (.dv (rest [(0,.cells b (aZ v) 158),(1,F)] [0])):=fun v=>hr.sub (b_ 1);have aie:i64.wrap (i64.wrap (1*2^min (Int.toNat 11) i64.bits)-1)=2047:=by decide
 refine⟨⟨⟨d.nd,lg hl,aG (fun q=>⟨hr.i2,⟨d,-1023,0,false,0⟩,⟨⟨hl,rfl⟩,⟨by simp[*],by simp[*]⟩,by unfold dN;simp[*]⟩,aV,P1 _⟩) (fun q=>?_)⟩,?_⟩,?_⟩
 ·have hdn:d.norm:=by
   grind
  refine⟨d.dp,mL hl,bl (fun q1=>⟨⟨d,0,0,true,0⟩,⟨⟨hl,rfl⟩,by unfold dN;simp[*]⟩,aV,P1 _⟩) (fun q1=>⟨d.dp,mL hl,bl (fun q2=>⟨hr.i2,⟨d,-1023,0,false,0⟩,⟨⟨hl,rfl⟩,⟨by simp[*],by simp[*]⟩,by unfold dN;simp[*]⟩,aV,P1 _⟩) (fun q2=>?_)⟩)⟩;have Sf:dN lc d=pG lc (mF lc 6000 (nW lc 700 d 0).1 (nW lc 700 d 0).2):=by
   unfold dN YY;simp[*]
  have hm0:=SG d;refine⟨⟨⟨⟨d,0,0,false,700⟩,⟨⟨hdn,rfl⟩,⟨by grind,by grind⟩,⟨cN _,by simp[*]⟩,by grind,Sf⟩,aV,P1 _⟩,?_⟩,?_⟩
  ·rintro⟨D,e,_,_,f⟩ js ⟨⟨g1,g2⟩,⟨g3,g4⟩,⟨g5,g6⟩,g7,g8⟩;dsimp only at g1 g2 g3 g4 g5 g6 g7 g8⊢;obtain⟨f,rfl⟩:∃j,f=j+1:=⟨f-1,af⟩;refine⟨D.dp,mL g1.len,bl (fun q=>?_) (fun q=>⟨⟨D,e,0,false,0⟩,⟨⟨g1,g2⟩,⟨g3,by grind⟩,⟨g5,by grind⟩,by rw[g8,nW,bK q,aU]⟩,aV,P1 _⟩)⟩;obtain⟨⟨w1,w2⟩,-⟩:=Hm (z:=D.dp) af;have st:∀m:Int,m=df D.dp->((((D.norm/\D.ng=d.ng)/\(0<D.dp/\D.dp<=310)/\(0<=e/\e+27*((f+1:Nat):Int)<=18900)/\mA D<f+1/\m=df D.dp/\dN lc d=pG lc (mF lc 6000 (nW lc (f+1) D e).1 (nW lc (f+1) D e).2)))):=fun m hm=>⟨⟨g1,g2⟩,⟨af,g4⟩,⟨g5,g6⟩,g7,hm,g8⟩;refine⟨⟨D,e,df D.dp,false,f+1⟩,⟨rfl,D.dp,mL g1.len,_,9,pc,t1,bl (fun q1=>⟨⟨D,e,df D.dp,false,f+1⟩,⟨st _ rfl,rfl⟩,⟨rfl,rfl,rfl,rfl,?_,ao⟩,P1 _⟩) (fun q1=>⟨rfl,_,9,pc,t1,D.dp,mL g1.len,jp 1 rfl rfl rfl rfl,⟨pb,po,9,pc,D.dp⟩,rfl,⟨by grind,by grind⟩,(rM D.dp.toNat:Nat),?_,⟨D,e,df D.dp,false,f+1⟩,⟨st _ rfl,rfl⟩,⟨rfl,rfl,rfl,rfl,?_,ao⟩,P1 _⟩)⟩,?_⟩
   ·unfold df;grind
   ·grind
   ·unfold df;grind
   ·rintro⟨D2,e2,m2,o2,f2⟩ js ⟨-,v_⟩;obtain⟨rfl,rfl,rfl,rfl,rfl⟩:=cY.mk.inj v_;obtain⟨s1,s2,s3,s4,s5⟩:=apd (lc:=lc) g1 q;dsimp only;refine⟨IA,rfl,⟨b,D2,0-df D2.dp,tb,lc⟩,by rw[dA (i:=.i64) (n:=0-df D2.dp) aJ],rfl,⟨g1,hU,by grind,by grind,by grind,by grind⟩,rr D2,?_⟩;rintro y rfl;exact⟨aJ,⟨ec lc D2 (0-df D2.dp),e2+df D2.dp,0,false,f⟩,⟨⟨s1,s2.trans g2⟩,⟨by grind,by grind⟩,⟨by grind,by grind⟩,by grind,by rw[g8,nW,bG q,bf]⟩,aV,P1 _,by simp[*]⟩
  rintro⟨D,e,_,_,_⟩ js ⟨⟨g1,g2⟩,⟨g3,g4⟩,⟨g5,g6⟩,g8⟩;dsimp only at g1 g2 g3 g4 g5 g6 g8⊢;have RX:mB D<6000:=by
   have h0:=g1.iA 0 (by have:=g1.pos;omega);unfold mB;grind
  refine⟨⟨⟨⟨D,e,0,false,6000⟩,⟨⟨g1,g2⟩,⟨g3,by grind⟩,⟨g6,by grind⟩,RX,g8⟩,aV,P1 _⟩,?_⟩,?_⟩
  ·clear g1 g2 g3 g4 g5 g6 g8 RX D e;rintro⟨D,e,_,_,f⟩ js ⟨⟨g1,g2⟩,⟨g3,g4⟩,⟨g5,g6⟩,g7,g8⟩;dsimp only at g1 g2 g3 g4 g5 g6 g7 g8⊢;obtain⟨f,rfl⟩:∃j,f=j+1:=⟨f-1,af⟩;have out:(decide (D.dp<0)||(D.dp==0&&decide (D.at_ 0<53)))=false->dN lc d=DL lc D e:=fun h=>by
    rw[g8,mF,h,aU];rfl
   refine⟨D.dp,mL g1.len,bl (fun q=>?_) (fun q=>⟨D.dp,mL g1.len,aG (fun q1=>⟨⟨by decide,by decide⟩,D.at_ 0,zI g1.len (by decide),bl (fun q2=>?_) (fun q2=>⟨⟨D,e,0,false,0⟩,⟨⟨g1,g2⟩,⟨g3,g4⟩,⟨by grind,af⟩,out (by simp[*])⟩,aV,P1 _⟩)⟩) (fun q1=>⟨⟨D,e,0,false,0⟩,⟨⟨g1,g2⟩,⟨g3,g4⟩,⟨by grind,af⟩,out (by simp[*])⟩,aV,P1 _⟩)⟩)⟩
   ·have hc:(decide (D.dp<0)||(D.dp==0&&decide (D.at_ 0<53)))=true:=by simp[*]
    have vQ:D.dp<=0:=by
     omega
    obtain⟨⟨w1,w2⟩,-⟩:=Hm (z:=0-D.dp) af;have st:(((D.norm/\D.ng=d.ng)/\(-330<=D.dp/\(decide (D.dp<0)||(D.dp==0&&decide (D.at_ 0<53)))=true)/\(e<=18900/\27*((f+1:Nat):Int)<=e+162000)/\mB D<f+1/\df (0-D.dp)=df (0-D.dp)/\dN lc d=pG lc (mF lc (f+1) D e))):=⟨⟨g1,g2⟩,⟨g3,hc⟩,⟨g5,g6⟩,g7,rfl,g8⟩;have DY:i64.wrap (0-D.dp)=0-D.dp:=dA (i:=.i64) (n:=0-D.dp) aJ;refine⟨⟨D,e,df (0-D.dp),false,f+1⟩,⟨rfl,D.dp,mL g1.len,_,9,pc,t1,bl (fun q5=>⟨⟨D,e,df (0-D.dp),false,f+1⟩,⟨st,rfl⟩,⟨rfl,rfl,rfl,rfl,?_,ao⟩,P1 _⟩) (fun q5=>⟨rfl,_,9,pc,t1,D.dp,mL g1.len,jp 1 rfl rfl rfl rfl,⟨pb,po,9,pc,0-D.dp⟩,by rw[DY],⟨by simp[*],by grind⟩,(rM (0-D.dp).toNat:Nat),?_,⟨D,e,df (0-D.dp),false,f+1⟩,⟨st,rfl⟩,⟨rfl,rfl,rfl,rfl,?_,ao⟩,P1 _⟩)⟩,?_⟩
    ·rw[DY]at q5;unfold df;grind
    ·grind
    ·rw[DY]at q5;unfold df;grind
    ·rintro⟨D2,e2,m2,o2,f2⟩ js ⟨-,v_⟩;obtain⟨rfl,rfl,rfl,rfl,rfl⟩:=cY.mk.inj v_;obtain⟨s1,s2,s3,s4,s5⟩:=ab5 hU g1 hc;dsimp only;refine bp IA ⟨b,D2,df (0-D2.dp),tb,lc⟩ ⟨g1,hU,by grind,by grind,by grind,by grind⟩ (rr D2) (?_);rintro y rfl;exact⟨aJ,⟨ec lc D2 (df (0-D2.dp)),e2-df (0-D2.dp),0,false,f⟩,⟨⟨s1,s2.trans g2⟩,⟨by grind,by grind⟩,⟨by grind,by grind⟩,by grind,by rw[g8,mF,hc,bf]⟩,aV,P1 _,by simp[*]⟩
   ·have hc:(decide (D.dp<0)||(D.dp==0&&decide (D.at_ 0<53)))=true:=by simp[*]
    have vQ:D.dp<=0:=by
     grind
    obtain⟨⟨w1,w2⟩,-⟩:=Hm (z:=0-D.dp) af;have st:(((D.norm/\D.ng=d.ng)/\(-330<=D.dp/\(decide (D.dp<0)||(D.dp==0&&decide (D.at_ 0<53)))=true)/\(e<=18900/\27*((f+1:Nat):Int)<=e+162000)/\mB D<f+1/\df (0-D.dp)=df (0-D.dp)/\dN lc d=pG lc (mF lc (f+1) D e))):=⟨⟨g1,g2⟩,⟨g3,hc⟩,⟨g5,g6⟩,g7,rfl,g8⟩;have DY:i64.wrap (0-D.dp)=0-D.dp:=dA (i:=.i64) (n:=0-D.dp) aJ;refine⟨⟨D,e,df (0-D.dp),false,f+1⟩,⟨rfl,D.dp,mL g1.len,_,9,pc,t1,bl (fun q5=>⟨⟨D,e,df (0-D.dp),false,f+1⟩,⟨st,rfl⟩,⟨rfl,rfl,rfl,rfl,?_,ao⟩,P1 _⟩) (fun q5=>⟨rfl,_,9,pc,t1,D.dp,mL g1.len,jp 1 rfl rfl rfl rfl,⟨pb,po,9,pc,0-D.dp⟩,by rw[DY],⟨by simp[*],by grind⟩,(rM (0-D.dp).toNat:Nat),?_,⟨D,e,df (0-D.dp),false,f+1⟩,⟨st,rfl⟩,⟨rfl,rfl,rfl,rfl,?_,ao⟩,P1 _⟩)⟩,?_⟩
    ·omega
    ·grind
    ·rw[DY]at q5;unfold df;grind
    ·rintro⟨D2,e2,m2,o2,f2⟩ js ⟨-,v_⟩;obtain⟨rfl,rfl,rfl,rfl,rfl⟩:=cY.mk.inj v_;obtain⟨s1,s2,s3,s4,s5⟩:=ab5 hU g1 hc;dsimp only;refine bp IA ⟨b,D2,df (0-D2.dp),tb,lc⟩ ⟨g1,hU,by grind,by grind,by grind,by grind⟩ (rr D2) (?_);rintro y rfl;exact⟨aJ,⟨ec lc D2 (df (0-D2.dp)),e2-df (0-D2.dp),0,false,f⟩,⟨⟨s1,s2.trans g2⟩,⟨by grind,by grind⟩,⟨by grind,by grind⟩,by grind,by rw[g8,mF,hc,bf]⟩,aV,P1 _,by simp[*]⟩
  clear g1 g2 g3 g4 g5 g6 g8 RX D e;rintro⟨D,e,_,_,_⟩ js ⟨⟨g1,g2⟩,⟨g3,g4⟩,⟨g5,g6⟩,g8⟩;dsimp only at g1 g2 g3 g4 g5 g6 g8⊢;refine⟨aJ,⟨hr.i2,⟨by decide,by decide⟩,bl (fun q=>⟨hr.i2,⟨by decide,by decide⟩,aJ,IA,rfl,⟨b,D,0-(-1023+1-(e-1)),tb,lc⟩,by rw[dA (i:=.i64) (n:=0-(-1023+1-(e-1))) aJ],rfl,⟨g1,hU,by grind,by grind,by grind,by grind⟩,rr D,?_⟩) (fun q=>⟨⟨D,e-1,0,false,0⟩,⟨⟨g1,g2⟩,⟨by grind,by grind⟩,⟨by grind,by grind⟩,by rw[g8,DL,bK q,aU]⟩,aV,P1 _⟩)⟩,?_⟩
  ·rintro y rfl;obtain⟨s1,s2,s3,s4⟩:=abX hU g1 (k:=0-(-1023+1-(e-1))) af af;exact⟨aJ,⟨ec lc D (0-(-1023+1-(e-1))),e-1+(-1023+1-(e-1)),0,false,0⟩,⟨⟨s1,s4.trans g2⟩,⟨by grind,by grind⟩,⟨by grind,by grind⟩,by rw[g8,DL,bG q,bf]⟩,aV,P1 _⟩
  clear g1 g2 g3 g4 g5 g6 g8 D e;rintro⟨D,e,_,_,_⟩ js ⟨⟨g1,g2⟩,⟨g3,g4⟩,⟨g5,g6⟩,g8⟩;dsimp only at g1 g2 g3 g4 g5 g6 g8⊢;rw[aie];obtain⟨s1,s2,s3,s4⟩:=abX hU g1 (k:=53) (by decide) (by decide);refine⟨rfl,hr.i2,aJ,hr.i1,bl (fun q=>⟨⟨D,0,0,true,0⟩,⟨⟨g1.len,g2⟩,by rw[g8,DM,bG q,bf,g2]⟩,aV,P1 _⟩) (fun q=>⟨hr.i0,IA,rfl,⟨b,D,53,tb,lc⟩,by rw[show i64.wrap (u64.wrap (1+52))=53 by decide],rfl,⟨g1,hU,by simp[*],by simp[*],by grind,by grind⟩,rr D,?_⟩)⟩;rintro y rfl;have Rv:dN lc d=Gx d.ng (nF (ec lc D 53)) e:=by rw[g8,DM,bK q,aU,g2]
  refine bV an4 ⟨b,ec lc D 53⟩ s1.ok fun _ _=>⟨⟨hr.i0,aG (fun q1=>⟨aJ,rfl,hr.i2,aJ,hr.i1,bl (fun q2=>⟨⟨ec lc D 53,0,0,true,0⟩,⟨⟨s1.len,s4.trans g2⟩,by rw[Rv,Gx,q1,bf,bG q2,bf]⟩,aV,P1 _⟩) (fun q2=>⟨⟨ec lc D 53,e+1,(nF (ec lc D 53)).fdiv (2^min (Int.toNat 1) u64.bits),false,0⟩,⟨⟨s1.len,s4.trans g2⟩,⟨by grind,by grind⟩,by rw[Rv,Gx,q1,bf,bK q2,aU]⟩,aV,P1 _⟩)⟩) (fun q1=>⟨⟨ec lc D 53,e,nF (ec lc D 53),false,0⟩,⟨⟨s1.len,s4.trans g2⟩,⟨af,by grind⟩,by rw[Rv,Gx,q1,aU]⟩,aV,P1 _⟩)⟩,?_⟩;rintro⟨D,e,m,_,_⟩ js ⟨⟨g1,g2⟩,⟨g5,g6⟩,g8⟩;dsimp only at g1 g2 g5 g6 g8⊢;exact⟨hr.i0,aG (fun q=>⟨hr.i2,⟨D,-1023,m,false,0⟩,⟨⟨g1,g2⟩,⟨by simp[*],by simp[*]⟩,by rw[g8,Bx,q,bf]⟩,aV,P1 _⟩) (fun q=>⟨⟨D,e,m,false,0⟩,⟨⟨g1,g2⟩,⟨g5,g6⟩,by rw[g8,Bx,q,aU]⟩,aV,P1 _⟩)⟩
 ·rintro⟨D,_,_,_,_⟩ js ⟨⟨g1,g2⟩,g8⟩;dsimp only at g1 g2 g8⊢;refine⟨rfl,hr.i1,hr.i2,⟨D,1024,0,true,0⟩,⟨⟨g1,g2⟩,⟨by simp[*],by simp[*]⟩,?_⟩,⟨rfl,rfl,rfl,congrArg _ (show _=(1024:Int) by decide),rfl,ao⟩,P1 _⟩;rw[g8,By];rfl
 ·rintro⟨D,e,m,o,_⟩ js ⟨⟨g1,g2⟩,⟨g5,g6⟩,g8⟩;dsimp only at g1 g2 g5 g6 g8⊢;refine⟨hr.i0,rfl,hr.i2,aJ,hr.i1,hr.i0,D.ng,akU g1,aG (fun q=>⟨rfl,hr.i0,hr.i1,D,g1,?_,P1 _⟩) (fun q=>⟨D,g1,?_,P1 _⟩)⟩
  ·show _=returned (.tuple #[.int .u64 (dN lc d).1,.bool (dN lc d).2]);rw[g8,uB,<-g2,q];rfl
  ·show _=returned (.tuple #[.int .u64 (dN lc d).1,.bool (dN lc d).2]);rw[g8,uB,<-g2,q];rfl
theorem ahy(x:aR.X sM)(F:ai)(hc:sM.cond x)(hr:sM.aQ x F):su Tryz.prog 243 Kl (Y1 x F) [] (iN Kl) (oS (aR.args sM x)) (bD (aR.pre sM x++[F])) (YZ x) (aq sM x F):=
 Eq.mpr bh (ahA x F hc hr)
theorem ahz:aC 131 sM:=
 ahQ (N:=243) (l1:=1) (l0:=0) bh (r:=zA (iN Tryz.f131)) (c:=sc1 (iN Tryz.f131)) Tryz.func131 bh bh (fun _=>Nat.le_of_ble_eq_true rfl) bh bh bh bh bh bh bh bh bh bh Y1 [] YZ (fun _ h=>nomatch h) ahy
end
section
open Go
structure fP where
 i:Int
 sd:Bool
 sg:Bool
 d:bn
structure eA where
 i:Int
 d:bn
 sg:Int
 e:Int
 us:Bool
def dZ:bn:=⟨List.replicate 800 0,0,0,false,false⟩
def bn.na(d:bn)(p:Int):bn:=⟨d.ds,d.nd,p,d.ng,d.tr⟩
def bn.IP(d:bn)(t:Bool):bn:=⟨d.ds,d.nd,d.dp,d.ng,t⟩
def bn.push(d:bn)(c:Int):bn:=⟨d.ds.set d.nd.toNat c,d.nd+1,d.dp,d.ng,d.tr⟩
def p4(s:ByteArray)(x:fP):Nat×fP:=
 bif aE s x.i==95 then (0,⟨x.i+1,x.sd,x.sg,x.d⟩)
 else bif aE s x.i==46 then (bif x.sd then (2,x) else (0,⟨x.i+1,true,x.sg,x.d.na x.d.nd⟩))
 else bif eS (aE s x.i) then
  (bif (bif aE s x.i==48 then x.d.nd==0 else false) then (0,⟨x.i+1,x.sd,true,x.d.na (x.d.dp-1)⟩)
  else bif decide (x.d.nd<800) then (0,⟨x.i+1,x.sd,true,x.d.push (aE s x.i)⟩)
  else bif aE s x.i !=48 then (0,⟨x.i+1,x.sd,true,x.d.IP true⟩) else (0,⟨x.i+1,x.sd,true,x.d⟩))
 else (1,x)
def wM(s:ByteArray):Nat->fP->Option fP
 |0,x=>some x
 |f+1,x=>bif (p4 s x).1==0 then wM s f (p4 s x).2 else bif (p4 s x).1==1 then some x else none
def wL(s:ByteArray)(i:Int)(d:bn):Option bn:=bif i !=(s.size:Int) then none else some d
def Fh(s:ByteArray)(f:Nat)(i e:Int)(us:Bool)(d:bn)(sg:Int):Option bn:=wL s (lz s f i e us).1 (d.na (d.dp+(lz s f i e us).2.1*sg))
def yM(s:ByteArray)(i:Int)(d:bn)(sg:Int):Option bn:=
 bif (bif (bif decide (i>=s.size) then true else decide (aE s i<48)) then true else decide (aE s i>57)) then none
 else Fh s ((s.size:Int)-i).toNat i 0 false d sg
def Fg(s:ByteArray)(i:Int)(d:bn):Option bn:=
 bif decide (i>=s.size) then none
 else bif aE s i==43 then yM s (i+1) d 1
 else bif aE s i==45 then yM s (i+1) d (-1) else yM s i d 1
def Az(s:ByteArray)(i:Int)(d:bn):Option bn:=
 bif (bif decide (i<s.size) then eJ (aE s i)==101 else false) then Fg s (i+1) d else wL s i d
def tL(s:ByteArray)(x:fP):Option bn:=
 bif !x.sg then none else bif !x.sd then Az s x.i (x.d.na x.d.nd) else Az s x.i x.d
def abQ(s:ByteArray):Option bn:=(wM s ((s.size:Int)-c_ s).toNat ⟨c_ s,false,false,⟨dZ.ds,0,0,b7 s,false⟩⟩).bind (tL s)
def eO(s:ByteArray):Option bn:=bif decide (0>=(s.size:Int)) then none else abQ s
structure bn.jl(d:bn):Prop where
 len:d.ds.length=800
 lo:0<=d.nd
 hi:d.nd<=800
 iA:∀i:Nat,(i:Int)<d.nd->48<=d.at_ i/\d.at_ i<=57
 fst:1<=d.nd->d.at_ 0≠48
theorem bn.jl.or{d:bn}(h:d.jl):d.nd=0\/d.norm:=by
 rcases Int.lt_or_le 0 d.nd with q|q
 ·exact .inr ⟨h.len,af,h.hi,h.iA,h.fst af⟩
 ·exact .inl (by have:=h.lo;omega)
theorem bn.jl.na{d:bn}(h:d.jl)(p:Int):(d.na p).jl:=⟨h.len,h.lo,h.hi,h.iA,h.fst⟩
theorem bn.jl.IP{d:bn}(h:d.jl)(t:Bool):(d.IP t).jl:=⟨h.len,h.lo,h.hi,h.iA,h.fst⟩
theorem bn.jl.push{d:bn}(h:d.jl){c:Int}(hn:d.nd<800)(h1:48<=c)(h2:c<=57)(h3:d.nd=0->c≠48):(d.push c).jl:=by
 have cJ:=h.lo;have hl:=h.len;have X9:∀i,(d.push c).at_ i=if i=d.nd.toNat then c else d.at_ i:=fun i=>by
  show(d.ds.set d.nd.toNat c).getD i 0=_;rw[fD,List.getElem?_set];by_cases e:d.nd.toNat=i
  ·grind
  ·rw[if_neg e,if_neg (fun h=>e h.symm),<-fD];rfl
 refine⟨?_,?_,?_,fun i hi=>?_,fun _=>?_⟩
 ·show(d.ds.set d.nd.toNat c).length=800;simp[*]
 ·show 0<=d.nd+1;omega
 ·show d.nd+1<=800;omega
 ·have hi:(i:Int)<d.nd+1:=hi;rw[X9];by_cases e:i=d.nd.toNat
  ·omega
  ·rw[if_neg e];exact h.iA i af
 ·rw[X9];by_cases e:0=d.nd.toNat
  ·omega
  ·rw[if_neg e];exact h.fst af
theorem YD(n t:Bool):(⟨dZ.ds,0,0,n,t⟩:bn).jl:=⟨by unfold dZ;dsimp only;rw[List.length_replicate],cN _,bd,fun i hi=>by dsimp only at hi;omega,fun h=>by dsimp only at h;omega⟩
structure eB where
 b:Nat
 s:ByteArray
 d:bn
def kF(x:eB):Option Addr:=some ⟨x.b,0,none⟩
def yP:aR where
 X:=eB
 Y:=bn
 args x:=[ah (kF x),aj x.s]
 pre x:=[ag x.b (aZ x.d) 158]
 cond x:=x.s.size<=1000000000/\x.d=dZ
 cd x y:=y.ds.length=800/\∀v,eO x.s=some v->y=v/\v.jl/\ -3000000000<=v.dp/\v.dp<=3000000000
 val x _:=az (ak (eO x.s).isSome)
 post x y:=[ag x.b (aZ y) 158]
 eX _ _ _ _ h:=h
def AA(s:ByteArray)(x:fP):Prop:=(0<=x.i/\x.i<=s.size)/\x.d.jl/\x.d.nd<=x.i/\ -x.i<=x.d.dp/\x.d.dp<=x.i
def seG:(T:Type)×(fP->T):=⟨fP,fun d=>d⟩
def abS:(T:Type)×(eA->T):=⟨eA,fun d=>d⟩
def WK(x:eB)(d:fP):List (Nat×Value):=[(0,.pointer (some ⟨x.b,0,none⟩)),(1,.string x.s),(4,.bool false),(5,.int .i64 d.i),(6,.bool d.sd),(7,.bool d.sg)]
def WL(x:eB)(d:eA):List (Nat×Value):=[(0,.pointer (some ⟨x.b,0,none⟩)),(1,.string x.s),(4,.bool false),(5,.int .i64 d.i),(8,.int .i64 d.sg),(9,.int .i64 d.e)]
def rY(s:ByteArray)(x:eA):Prop:=(0<=x.i/\x.i<=s.size)/\x.d.jl/\ -1000000000<=x.d.dp/\x.d.dp<=1000000000
def uW(x:eB)(d:fP):=ag x.b (aZ d.d) 158
def z_(x:eB)(d:eA):=ag x.b (aZ d.d) 158
def aoE(x:eB)(F:ai):Nat->Option Inv:=fun
 |1=>some {X:=fP,P:=fun d=>AA x.s d/\eO x.s=(wM x.s ((x.s.size:Int)-d.i).toNat d).bind (tL x.s),mu:=fun d=>((x.s.size:Int)-d.i).toNat,lv:=fun d=>WK x d,st:=fun d=>[uW x d,F]}
 |5=>some {X:=eA,P:=fun d=>rY x.s d/\(d.sg=1\/d.sg= -1)/\0<=d.e/\d.e<=100100/\eO x.s=Fh x.s ((x.s.size:Int)-d.i).toNat d.i d.e d.us d.d d.sg,mu:=fun d=>((x.s.size:Int)-d.i).toNat,lv:=fun d=>WL x d,st:=fun d=>[z_ x d,F]}
 |_=>none
def aoD(x:eB)(F:ai):Nat->Option Inv:=fun
 |11=>some {X:=fP,P:=fun d=>0<x.s.size/\d=⟨c_ x.s,false,false,⟨dZ.ds,0,0,b7 x.s,false⟩⟩,mu:=fun _=>0,lv:=fun d=>[(0,ah (kF x)),(1,aj x.s),(4,dq),(5,ae d.i)],st:=fun d=>[uW x d,F]}
 |24=>some {X:=fP,gh:=some seG,P:=fun d=>AA x.s d/\d.i<x.s.size/\d.sg=true/\(bif aE x.s d.i==48 then d.d.nd==0 else false)=false,mu:=fun _=>0,lv:=fun d=>WK x d,st:=fun d=>[uW x d,F]}
 |29=>some {X:=fP,P:=fun d=>AA x.s d/\eO x.s=tL x.s d,mu:=fun _=>0,lv:=fun d=>WK x d,st:=fun d=>[uW x d,F]}
 |32=>some {X:=eA,P:=fun d=>rY x.s d/\eO x.s=Az x.s d.i d.d,mu:=fun _=>0,lv:=fun d=>[(0,ah (kF x)),(1,aj x.s),(4,dq),(5,ae d.i)],st:=fun d=>[z_ x d,F]}
 |42=>some {X:=eA,P:=fun d=>rY x.s d/\(d.sg=1\/d.sg= -1)/\eO x.s=yM x.s d.i d.d d.sg,mu:=fun _=>0,lv:=fun d=>[(0,ah (kF x)),(1,aj x.s),(4,dq),(5,ae d.i),(8,ae d.sg)],st:=fun d=>[z_ x d,F]}
 |46=>some {X:=eA,gh:=some abS,P:=fun d=>rY x.s d/\d.i<x.s.size/\(aE x.s d.i==95||eS (aE x.s d.i))=true,mu:=fun _=>0,lv:=fun d=>WL x d,st:=fun d=>[z_ x d,F]}
 |49=>some {X:=eA,P:=fun d=>rY x.s d/\(d.sg=1\/d.sg= -1)/\0<=d.e/\d.e<=100100/\eO x.s=wL x.s d.i (d.d.na (d.d.dp+d.e*d.sg)),mu:=fun _=>0,lv:=fun d=>WL x d,st:=fun d=>[z_ x d,F]}
 |50=>some {X:=eA,P:=fun d=>((0<=d.i/\d.i<=x.s.size)/\d.d.jl/\ -3000000000<=d.d.dp/\d.d.dp<=3000000000)/\eO x.s=wL x.s d.i d.d,mu:=fun _=>0,lv:=fun d=>[(0,ah (kF x)),(1,aj x.s),(4,dq),(5,ae d.i)],st:=fun d=>[z_ x d,F]}
 |_=>none
def M3(x:eB)(F:ai):=[(0,ag x.b (((aZ x.d).set 802 dq).set 803 dq) 158),(1,F)]
def VI(e0:eB)(z:fP):=0<e0.s.size/\z=⟨c_ e0.s,false,false,⟨dZ.ds,(0:Int),(0:Int),b7 e0.s,false⟩⟩
def pU(e0:eB)(z:fP)(e1:ai):=[(0,ag e0.b (aZ z.d) 158),(1,e1)]
def Jk(e0:eB)(e1:ai)(v0:Value)(ss:St):=∃(z:fP),VI e0 z/\(ah (kF e0)=ah (kF e0)/\aj e0.s=aj e0.s/\ak false=ak false/\v0=ae z.i/\True)/\aD ss (pU e0 z e1)
def MV(e0:eB)(z:fP):=AA e0.s z/\eO e0.s=(wM e0.s (e0.s.size-z.i).toNat z).bind (tL e0.s)
def Af(i:fP)(x:eB):=0<=i.i/\i.i<x.s.size
def Cc(i:fP):=(-9223372036854775808:Int)<=i.i+1/\i.i+1<=(9223372036854775807:Int)
def Mq(e0:eB)(v0:Value)(z:fP)(v1 v2:Value):=ah (kF e0)=ah (kF e0)/\aj e0.s=aj e0.s/\ak false=ak false/\v0=ae z.i/\v1=ak z.sd/\v2=ak z.sg/\True
def A5(e0:eB)(e1:ai)(v0 v1 v2:Value)(ss:St)(mm:Nat):=∃(z:fP),MV e0 z/\Mq e0 v0 z v1 v2/\aD ss (pU e0 z e1)/\(e0.s.size-z.i).toNat<mm
def Cy(i:fP):=ae (i.i+1)
def NJ(x:eB)(i:fP):=ax x.b 801/\801<(aZ i.d).length
def Vl(e0:eB)(z e1:fP):=(AA e0.s z/\z.i<e0.s.size/\z.sg=true/\(bif aE e0.s z.i==48 then z.d.nd==0 else false)=false)/\seG.snd z=e1
def Pj(e0:eB)(e1:fP)(e2:ai)(v0 v1 v2:Value)(ss:St):=∃(z:fP),Vl e0 z e1/\Mq e0 v0 z v1 v2/\aD ss (pU e0 z e2)
def XD(e0:eB)(e1:ai)(v0 v1 v2:Value)(ss:St):=∃(z:fP),(AA e0.s z/\eO e0.s=tL e0.s z)/\Mq e0 v0 z v1 v2/\aD ss (pU e0 z e1)
def Ng(x:eB)(F:ai)(i:fP):=XD x F (ae i.i) (ak i.sd) (ak i.sg) (pU x i F)
def Vu(e0:eB)(v0:Value)(z:eA):=ah (kF e0)=ah (kF e0)/\aj e0.s=aj e0.s/\ak false=ak false/\v0=ae z.i/\True
def lq(e0:eB)(z:eA)(e1:ai):=[(0,ag e0.b (aZ z.d) 158),(1,e1)]
def Pk(e0:eB)(e1:ai)(v0:Value)(ss:St):=∃(z:eA),(rY e0.s z/\eO e0.s=Az e0.s z.i z.d)/\Vu e0 v0 z/\aD ss (lq e0 z e1)
def yv(f:eA)(x:eB):=0<=f.i/\f.i<x.s.size
def Mi(l:eA):=(-9223372036854775808:Int)<=l.i+1/\l.i+1<=(9223372036854775807:Int)
def E0(x:eB)(F:ai)(l:eA):=aq yP x F c7 (lq x l F)
def U3(l:eA):=(-9223372036854775808:Int)<=l.i+1+(1:Int)/\l.i+1+(1:Int)<=(9223372036854775807:Int)
def Wn(e0:eB)(z:eA):=rY e0.s z/\(z.sg=1\/z.sg=(-1:Int))/\eO e0.s=yM e0.s z.i z.d z.sg
def Jl(e0:eB)(e1:ai)(v0 v1:Value)(ss:St):=∃(z:eA),Wn e0 z/\(ah (kF e0)=ah (kF e0)/\aj e0.s=aj e0.s/\ak false=ak false/\v0=ae z.i/\v1=ae z.sg/\True)/\aD ss (lq e0 z e1)
def Md(e0:eB)(z:eA):=rY e0.s z/\(z.sg=1\/z.sg=(-1:Int))/\0<=z.e/\z.e<=100100/\eO e0.s=Fh e0.s (e0.s.size-z.i).toNat z.i z.e z.us z.d z.sg
def V0(e0:eB)(z e1:eA):=(rY e0.s z/\z.i<e0.s.size/\(aE e0.s z.i==95||eS (aE e0.s z.i))=true)/\abS.snd z=e1
def Mj(e0:eB)(v0:Value)(z:eA)(v1 v2:Value):=ah (kF e0)=ah (kF e0)/\aj e0.s=aj e0.s/\ak false=ak false/\v0=ae z.i/\v1=ae z.sg/\v2=ae z.e/\True
def Pl(e0:eB)(e1:eA)(e2:ai)(v0 v1 v2:Value)(ss:St):=∃(z:eA),V0 e0 z e1/\Mj e0 v0 z v1 v2/\aD ss (lq e0 z e2)
def UT(e0:eB)(z:eA):=rY e0.s z/\(z.sg=1\/z.sg=(-1:Int))/\0<=z.e/\z.e<=100100/\eO e0.s=wL e0.s z.i (z.d.na (z.d.dp+z.e*z.sg))
def Pm(e0:eB)(e1:ai)(v0 v1 v2:Value)(ss:St):=∃(z:eA),UT e0 z/\Mj e0 v0 z v1 v2/\aD ss (lq e0 z e1)
def TR(f:eA)(x:eB)(d:eA)(F:ai):=yv f x/\Br (aE x.s f.i==95) (Pl x d F (ae f.i) (ae f.sg) (ae f.e) (lq x f F)) (Pm x F (ae f.i) (ae f.sg) (ae f.e) (lq x f F))
def Pn(e0:eB)(e1:ai)(v0 v1 v2:Value)(ss:St)(mm:Nat):=∃(z:eA),Md e0 z/\Mj e0 v0 z v1 v2/\aD ss (lq e0 z e1)/\(e0.s.size-z.i).toNat<mm
def VM(c:eA)(x:eB)(F:ai)(f:eA):=Mi c/\Pn x F (ae (c.i+1)) (ae c.sg) (ae c.e) (lq x c F) ((x.s.size-f.i).toNat)
def UQ(z:eA)(e0:eB):=((0<=z.i/\z.i<=e0.s.size)/\z.d.jl/\(-3000000000:Int)<=z.d.dp/\z.d.dp<=3000000000)/\eO e0.s=wL e0.s z.i z.d
def Jm(e0:eB)(e1:ai)(v0:Value)(ss:St):=∃(z:eA),UQ z e0/\Vu e0 v0 z/\aD ss (lq e0 z e1)
theorem aoH(x:eB)(F:ai)(hc:yP.cond x)(hr:yP.aQ x F):(ax x.b 802/\802<(aZ x.d).length)/\(ax x.b 803/\803<((aZ x.d).set 802 dq).length)/\aP (0>=(x.s.size:Int)) (aq yP x F c7 (M3 x F)) ((((0:Int)<=(0:Int)/\0<(x.s.size:Int))/\Br (aE x.s (0:Int)==(43:Int)) (EA/\Jk x F EV (M3 x F)) (Br (aE x.s (0:Int)==(45:Int)) (EA/\(ax x.b 802/\802<(((aZ x.d).set 802 dq).set 803 dq).length)/\Jk x F EV [(0,ag x.b ((((aZ x.d).set 802 dq).set 803 dq).set 802 (ak true)) 158),(1,F)]) (Jk x F (ae 0) (M3 x F))))/\aS fun(p:fP)_=>VI x p->((∃(a:fP),MV x a/\(ah (kF x)=ah (kF x)/\aj x.s=aj x.s/\ak false=ak false/\ae p.i=ae a.i/\ak false=ak a.sd/\ak false=ak a.sg/\True)/\aD (pU x p F) (pU x a F))/\aS fun(i:fP)_=>MV x i->aP (i.i<x.s.size) (Af i x/\Br (aE x.s i.i==95) (Cc i/\A5 x F (Cy i) (ak i.sd) (ak i.sg) (pU x i F) ((x.s.size-i.i).toNat)) (Af i x/\Br (aE x.s i.i==46) (Br i.sd (aq yP x F c7 (pU x i F)) (T1 (uW x i) ⟨x.b,800,none⟩ (fun b=>NJ x i/\Cc i/\A5 x F (Cy i) (ak true) (ak i.sg) [(0,ag x.b ((aZ i.d).set 801 (ae b)) 158),(1,F)] ((x.s.size-i.i).toNat)))) (Af i x/\aP (48<=aE x.s i.i) (Af i x/\aP (aE x.s i.i<=57) (∃(g:fP),(Af i x/\Br (aE x.s i.i==48) (T1 (uW x i) ⟨x.b,800,none⟩ (fun c=>Br (c==0) (T1 (uW x i) ⟨x.b,801,none⟩ (fun b=>pY b/\NJ x i/\Cc i/\A5 x F (Cy i) (ak i.sd) (ak true) [(0,ag x.b ((aZ i.d).set 801 (ae (b-1))) 158),(1,F)] ((x.s.size-i.i).toNat))) (Pj x g F (ae i.i) (ak i.sd) (ak true) (pU x i F)))) (Pj x g F (ae i.i) (ak i.sd) (ak true) (pU x i F)))/\aS fun(f:fP)_=>Vl x f g->T1 (uW x f) ⟨x.b,800,none⟩ (fun d=>aP (d<800) (true=true/\T1 (uW x f) ⟨x.b,800,none⟩ (fun c=>Af f x/\(0<=c/\c<(↑(800:Nat):Int))/\(dS ⟨x.b,0+c.toNat*1,none⟩ x.b/\0+c.toNat*1<(aZ f.d).length)/\T1 (ag x.b ((aZ f.d).set (0+c.toNat*1) (a_ (aE x.s f.i))) 158) ⟨x.b,800,none⟩ (fun b=>dw b/\(ax x.b 800/\800<((aZ f.d).set (0+c.toNat*1) (a_ (aE x.s f.i))).length)/\Cc f/\A5 x F (Cy f) (ak f.sd) (ak f.sg) [(0,ag x.b (((aZ f.d).set (0+c.toNat*1) (a_ (aE x.s f.i))).set 800 (ae (b+1))) 158),(1,F)] ((x.s.size-i.i).toNat)))) (Af f x/\Br (aE x.s f.i !=48) ((ax x.b 803/\803<(aZ f.d).length)/\Cc f/\A5 x F (Cy f) (ak f.sd) (ak f.sg) [(0,ag x.b ((aZ f.d).set 803 (ak true)) 158),(1,F)] ((x.s.size-i.i).toNat)) (Cc f/\A5 x F (Cy f) (ak f.sd) (ak f.sg) (pU x f F) ((x.s.size-i.i).toNat))))) (Ng x F i)) (Ng x F i)))) (Ng x F i))/\aS fun(n:fP)_=>(AA x.s n/\eO x.s=tL x.s n)->Br (!n.sg) (aq yP x F c7 (pU x n F)) (Br (!n.sd) (T1 (uW x n) ⟨x.b,800,none⟩ (fun b=>NJ x n/\Pk x F (ae n.i) [(0,ag x.b ((aZ n.d).set 801 (ae b)) 158),(1,F)])) (Pk x F (ae n.i) (pU x n F))/\aS fun(l:eA)_=>(rY x.s l/\eO x.s=Az x.s l.i l.d)->aP (l.i<x.s.size) (yv l x/\pB [a_ (aE x.s l.i)] (fun j i=>Br (eJ j.c==101) (Mi l/\aP (l.i+1>=(x.s.size:Int)) (E0 x F l) (((0<=l.i+1/\l.i+1<(x.s.size:Int))/\Br (aE x.s (l.i+1)==43) (U3 l/\Jl x F (ae (l.i+1+(1:Int))) (ae 1) (lq x l F)) (Br (aE x.s (l.i+1)==45) (U3 l/\Jl x F (ae (l.i+1+(1:Int))) (ae (-1)) (lq x l F)) (Jl x F (ae (l.i+1)) (ae 1) (lq x l F))))/\aS fun(h:eA)_=>Wn x h->aP (h.i>=x.s.size) (E0 x F h) (yv h x/\aP (aE x.s h.i<48) (E0 x F h) (yv h x/\aP (aE x.s h.i>57) (E0 x F h) (((∃(a:eA),Md x a/\(ah (kF x)=ah (kF x)/\aj x.s=aj x.s/\ak false=ak false/\ae h.i=ae a.i/\ae h.sg=ae a.sg/\ae 0=ae a.e/\True)/\aD (lq x h F) (lq x a F))/\aS fun(f:eA)_=>Md x f->∃(d:eA),aP (f.i<x.s.size) (yv f x/\aP (48<=aE x.s f.i) (yv f x/\aP (aE x.s f.i<=57) (Pl x d F (ae f.i) (ae f.sg) (ae f.e) (lq x f F)) (TR f x d F)) (TR f x d F)) (Pm x F (ae f.i) (ae f.sg) (ae f.e) (lq x f F))/\aS fun(c:eA)_=>V0 x c d->yv c x/\Br (aE x.s c.i==95) (VM c x F f) (aP (c.e<10000) (((-9223372036854775808:Int)<=c.e*10/\c.e*10<=(9223372036854775807:Int))/\yv c x/\bT (aE x.s c.i)/\bT (c.e*10+aE x.s c.i)/\((-9223372036854775808:Int)<=c.e*10+aE x.s c.i-48/\c.e*10+aE x.s c.i-48<=(9223372036854775807:Int))/\Mi c/\Pn x F (ae (c.i+1)) (ae c.sg) (ae (c.e*10+aE x.s c.i-48)) (lq x c F) ((x.s.size-f.i).toNat)) (VM c x F f)))/\aS fun(d:eA)_=>UT x d->T1 (z_ x d) ⟨x.b,801,none⟩ (fun b=>bT (d.e*d.sg)/\bT (b+d.e*d.sg)/\(ax x.b 801/\801<(aZ d.d).length)/\Jm x F (ae d.i) [(0,ag x.b ((aZ d.d).set 801 (ae (b+d.e*d.sg))) 158),(1,F)])))))) (Jm x F (ae l.i) (lq x l F)))) (Jm x F (ae l.i) (lq x l F))/\aS fun(b:eA)_=>UQ b x->Br (b.i !=x.s.size) (E0 x F b) (aq yP x F jv (lq x b F)))):=by
 delta dq c7 M3 EA VI kF pU Jk EV MV Af Cc Mq A5 Cy T1 uW NJ pY Vl Pj dw XD Ng Vu lq Pk yv pB Mi E0 U3 Wn Jl Md V0 Mj Pl UT Pm TR Pn VM z_ UQ Jm jv ax bT ae a_ aj ak ah ag aP az aS;obtain⟨b,s,d⟩:=x;obtain⟨hs,hd⟩:=hc;dsimp only at hs hd⊢;subst hd;have KM:dZ.ds.length=800:=(YD false false).len;have P1:∀v:bn,aD [(0,.cells b (aZ v) 158),(1,F)] [(0,.cells b (aZ v) 158),(1,F)]:=fun v=>aB [0,1];have no:∀D:bn,D.ds.length=800->eO s=none->aq yP ⟨b,s,dZ⟩ F (returned (bool false)) [(0,.cells b (aZ D) 158),(1,F)]:=fun D hD e=>
  ⟨D,⟨hD,fun v(h:eO s=some v)=>by rw[e]at h;cases h⟩,by show _=returned (.bool (eO s).isSome);simp[*],P1 D⟩
 have hB:∀i,0<=aE s i/\aE s i<=255:=fun i=>by
  rw[gX];have:=iM s i.toNat;omega
 have hI:0<=c_ s/\c_ s<=1:=by
  unfold c_;grind
 have G3:((aZ dZ).set 802 (.bool false)).set 803 (.bool false)=aZ ⟨dZ.ds,0,0,false,false⟩:=by
  rfl
 refine⟨⟨ap,by rw[kq KM];decide⟩,⟨ap,by rw[List.length_set,kq KM];decide⟩,?_⟩;rw[G3];refine bl (fun h0=>no _ KM (by unfold eO;grind)) (fun h0=>?_);have hp:0<s.size:=af;have hV:eO s=abQ s:=by unfold eO;grind
 have ta:(⟨dZ.ds,0,0,false,false⟩:bn).ds.length=800:=KM;refine⟨⟨⟨cN _,af⟩,aG (fun h=>⟨aJ,⟨c_ s,false,false,⟨dZ.ds,0,0,b7 s,false⟩⟩,⟨hp,rfl⟩,?_,?_⟩) (fun h=>aG (fun h2=>⟨aJ,⟨ap,by rw[kq ta];decide⟩,⟨c_ s,false,false,⟨dZ.ds,0,0,b7 s,false⟩⟩,⟨hp,rfl⟩,?_,?_⟩) (fun h2=>⟨⟨c_ s,false,false,⟨dZ.ds,0,0,b7 s,false⟩⟩,⟨hp,rfl⟩,?_,?_⟩))⟩,?_⟩
 ·have b:c_ s=1:=by unfold c_;simp[*]
  simp[*]
 ·have a:b7 s=false:=by unfold b7;simp[*]
  simp[*]
 ·have b:c_ s=1:=by unfold c_;simp[*]
  simp[*]
 ·have a:b7 s=true:=by unfold b7;simp[*]
  rw[a,aoF ta];simp[*]
 ·have b:c_ s=0:=by unfold c_;simp[*]
  simp[*]
 ·have a:b7 s=false:=by unfold b7;simp[*]
  simp[*]
 rintro _ js ⟨-,rfl⟩;dsimp only;have Sf:eO s=(wM s ((s.size:Int)-c_ s).toNat ⟨c_ s,false,false,⟨dZ.ds,0,0,b7 s,false⟩⟩).bind (tL s):=hV;refine⟨⟨⟨⟨c_ s,false,false,⟨dZ.ds,0,0,b7 s,false⟩⟩,⟨⟨⟨hI.1,by grind⟩,YD _ _,hI.1,by simp[*],hI.1⟩,Sf⟩,(by simp[*]),P1 _⟩,?_⟩,?_⟩
 ·rintro⟨i,sd,sg,D⟩ js ⟨⟨⟨k1,k2⟩,kg,k3,k4,k5⟩,hv⟩;dsimp only at k1 k2 kg k3 k4 k5 hv⊢;have hl:=kg.len;refine bl (fun bP=>?_) (fun jn=>⟨⟨i,sd,sg,D⟩,⟨⟨⟨k1,k2⟩,kg,k3,k4,k5⟩,by rw[hv,show((s.size:Int)-i).toNat=0 by omega,wM];rfl⟩,(by simp[*]),P1 _⟩);obtain⟨k,hk⟩:∃k,((s.size:Int)-i).toNat=k+1:=⟨((s.size:Int)-i).toNat-1,af⟩;rw[hk]at hv;have k_: -9223372036854775808<=i+1/\i+1<=9223372036854775807:=aJ;have nx:∀y0:fP,p4 s ⟨i,sd,sg,D⟩=(0,y0)->y0.i=i+1->eO s=(wM s ((s.size:Int)-y0.i).toNat y0).bind (tL s):=fun y0 e1 e2=>by
   rw[hv,wM,e1,show((s.size:Int)-y0.i).toNat=k by omega];rfl
  have stop:p4 s ⟨i,sd,sg,D⟩=(1,⟨i,sd,sg,D⟩)->eO s=tL s ⟨i,sd,sg,D⟩:=fun e1=>by rw[hv,wM,e1];rfl
  refine⟨⟨k1,bP⟩,aG (fun h1=>⟨k_,⟨i+1,sd,sg,D⟩,⟨⟨⟨by grind,by grind⟩,kg,by grind,by grind,by grind⟩,nx _ (by unfold p4;simp[*]) rfl⟩,(by simp[*]),P1 _,by grind⟩) (fun h1=>⟨⟨k1,bP⟩,aG (fun h2=>aG (fun h3=>no D hl (by rw[hv,wM,show p4 s ⟨i,sd,sg,D⟩=(2,⟨i,sd,sg,D⟩) by unfold p4;simp[*]];rfl)) (fun h3=>⟨D.nd,lg hl,⟨ap,by rw[kq hl];decide⟩,k_,⟨i+1,true,sg,D.na D.nd⟩,⟨⟨⟨by grind,by grind⟩,kg.na _,?_,?_,?_⟩,nx _ (by unfold p4;simp[*]) rfl⟩,(by simp[*]),?_,by grind⟩)) (fun h2=>⟨⟨k1,bP⟩,bl (fun q=>⟨⟨k1,bP⟩,bl (fun q2=>?_) (fun q2=>⟨⟨i,sd,sg,D⟩,⟨⟨⟨k1,k2⟩,kg,k3,k4,k5⟩,stop ?_⟩,(by simp[*]),P1 _⟩)⟩) (fun q=>⟨⟨i,sd,sg,D⟩,⟨⟨⟨k1,k2⟩,kg,k3,k4,k5⟩,stop ?_⟩,(by simp[*]),P1 _⟩)⟩)⟩)⟩
  ·show D.nd<=i+1;omega
  ·show-(i+1)<=D.nd;have:=kg.lo;omega
  ·show D.nd<=i+1;omega
  ·rw[CH hl];exact P1 _
  ·have hD:eS (aE s i)=true:=by unfold eS;simp[*]
   have ok1:AA s ⟨i,sd,true,D⟩:=⟨⟨k1,k2⟩,kg,k3,k4,k5⟩;refine⟨⟨i,sd,true,D⟩,⟨⟨k1,bP⟩,aG (fun h3=>⟨D.nd,lg hl,aG (fun h4=>⟨D.dp,mL hl,aJ,⟨ap,by rw[kq hl];decide⟩,k_,⟨i+1,sd,true,D.na (D.dp-1)⟩,⟨⟨⟨by grind,by grind⟩,kg.na _,?_,?_,?_⟩,nx _ (by unfold p4;simp[*]) rfl⟩,(by simp[*]),?_,by grind⟩) (fun h4=>⟨⟨i,sd,true,D⟩,⟨⟨ok1,bP,rfl,by simp[*]⟩,rfl⟩,(by simp[*]),P1 _⟩)⟩) (fun h3=>⟨⟨i,sd,true,D⟩,⟨⟨ok1,bP,rfl,by rw[h3];rfl⟩,rfl⟩,(by simp[*]),P1 _⟩)⟩,?_⟩
   ·show D.nd<=i+1;omega
   ·show-(i+1)<=D.dp-1;omega
   ·show D.dp-1<=i+1;omega
   ·rw[CH hl];exact P1 _
   rintro d' Sv ⟨⟨-,-,-,hz⟩,he⟩;have he:d'=⟨i,sd,true,D⟩:=he;subst he;dsimp only at hz⊢;have ZO:D.nd=0->aE s i≠48:=fun h1 h2=>by
    grind
   refine⟨D.nd,lg hl,bl (fun q5=>⟨rfl,D.nd,lg hl,⟨k1,bP⟩,⟨kg.lo,af⟩,⟨ap,by rw[kq hl];omega⟩,?_⟩) (fun q5=>⟨⟨k1,bP⟩,aG (fun q6=>⟨⟨ap,by rw[kq hl];decide⟩,k_,⟨i+1,sd,true,D.IP true⟩,⟨⟨⟨by grind,by grind⟩,kg.IP _,?_,?_,?_⟩,nx _ (by unfold p4;simp[*]) rfl⟩,(by simp[*]),?_,by grind⟩) (fun q6=>⟨k_,⟨i+1,sd,true,D⟩,⟨⟨⟨by grind,by grind⟩,kg,by grind,by grind,by grind⟩,nx _ (by unfold p4;simp[*]) rfl⟩,(by simp[*]),P1 _,by grind⟩)⟩)⟩
   ·have KW:(aZ D).set (0+D.nd.toNat*1) (.int .u8 (aE s i))=aZ ⟨D.ds.set D.nd.toNat (aE s i),D.nd,D.dp,D.ng,D.tr⟩:=by
     rw[show 0+D.nd.toNat*1=D.nd.toNat by omega,WS hl af]
    rw[KW];have uF:(⟨D.ds.set D.nd.toNat (aE s i),D.nd,D.dp,D.ng,D.tr⟩:bn).ds.length=800:=by
     simp[*]
    refine⟨D.nd,lg uF,⟨by have:=kg.lo;omega,af⟩,⟨ap,by rw[kq uF];decide⟩,k_,⟨i+1,sd,true,D.push (aE s i)⟩,⟨⟨⟨by grind,by grind⟩,kg.push q5 q q2 ZO,?_,?_,?_⟩,nx _ (by unfold p4;simp[*]) rfl⟩,(by simp[*]),?_,by grind⟩
    ·show D.nd+1<=i+1;omega
    ·show-(i+1)<=D.dp;omega
    ·show D.dp<=i+1;omega
    ·rw[Iz uF];exact P1 _
   ·show D.nd<=i+1;omega
   ·show-(i+1)<=D.dp;omega
   ·show D.dp<=i+1;omega
   ·rw[N6 hl];exact P1 _
  ·unfold p4;rw[h1,h2,show eS (aE s i)=false by unfold eS;simp[*]];rfl
  ·unfold p4;rw[h1,h2,show eS (aE s i)=false by unfold eS;simp[*]];rfl
 rintro⟨i,sd,sg,D⟩ js ⟨⟨⟨k1,k2⟩,kg,k3,k4,k5⟩,hv⟩;dsimp only at k1 k2 kg k3 k4 k5 hv⊢;have hl:=kg.len;refine aG (fun h=>no D hl (by rw[hv];unfold tL;simp[*])) (fun h=>⟨aG (fun h2=>⟨D.nd,lg hl,⟨ap,by rw[kq hl];decide⟩,⟨i,D.na D.nd,0,0,false⟩,⟨⟨⟨k1,k2⟩,kg.na _,?_,?_⟩,by rw[hv];unfold tL;simp[*]⟩,(by simp[*]),?_⟩) (fun h2=>⟨⟨i,D,0,0,false⟩,⟨⟨⟨k1,k2⟩,kg,by grind,by grind⟩,by rw[hv];unfold tL;simp[*]⟩,(by simp[*]),P1 _⟩),?_⟩)
 ·show-1000000000<=D.nd;have:=kg.lo;omega
 ·show D.nd<=1000000000;have:=kg.hi;omega
 ·rw[CH hl];exact P1 _
 clear hv k1 k2 kg k3 k4 k5 h hl D i;rintro⟨i,D,_,_,_⟩ js ⟨⟨⟨k1,k2⟩,kg,k4,k5⟩,hv⟩;dsimp only at k1 k2 kg k4 k5 hv⊢;have hl:=kg.len;refine⟨bl (fun h=>⟨⟨k1,h⟩,tj,rfl,⟨_⟩,rfl,rfl,ao,ao,fun _ _=>aG (fun h2=>?_) (fun h2=>⟨⟨i,D,0,0,false⟩,⟨⟨⟨k1,k2⟩,kg,by grind,by grind⟩,?_⟩,(by simp[*]),P1 _⟩)⟩) (fun h=>⟨⟨i,D,0,0,false⟩,⟨⟨⟨k1,k2⟩,kg,by grind,by grind⟩,?_⟩,(by simp[*]),P1 _⟩),?_⟩
 ·have G0:eO s=Fg s (i+1) D:=by
   rw[hv];unfold Az;rw[bG h,show(eJ (aE s i)==101)=true from h2];rfl
  have tB:∀j sg,i+1<=j->j<=(s.size:Int)->rY s ⟨j,D,sg,0,false⟩:=fun j sg a c=>⟨⟨by grind,c⟩,kg,k4,k5⟩;refine⟨aJ,bl (fun h3=>no D hl (by rw[G0];unfold Fg;simp[*])) (fun h3=>⟨⟨aJ,aG (fun h4=>⟨aJ,⟨i+1+1,D,1,0,false⟩,⟨tB _ _ af af,.inl rfl,?_⟩,(by simp[*]),P1 _⟩) (fun h4=>aG (fun h5=>⟨aJ,⟨i+1+1,D,-1,0,false⟩,⟨tB _ _ af af,.inr rfl,?_⟩,(by simp[*]),P1 _⟩) (fun h5=>⟨⟨i+1,D,1,0,false⟩,⟨tB _ _ af af,.inl rfl,?_⟩,(by simp[*]),P1 _⟩))⟩,?_⟩)⟩
  ·rw[G0];unfold Fg;simp[*]
  ·rw[G0];unfold Fg;simp[*]
  ·rw[G0];unfold Fg;simp[*]
  clear tB h3 G0 h2 h hv k1 k2 kg k4 k5 hl D i;rintro⟨i,D,sg,_,_⟩ js ⟨⟨⟨k1,k2⟩,kg,k4,k5⟩,gI,hv⟩;dsimp only at k1 k2 kg k4 k5 gI hv⊢;have hl:=kg.len;refine bl (fun h=>no D hl (by rw[hv];unfold yM;simp[*])) (fun h=>⟨⟨k1,af⟩,bl (fun h2=>no D hl (by rw[hv];unfold yM;simp[*])) (fun h2=>⟨⟨k1,af⟩,bl (fun h3=>no D hl (by rw[hv];unfold yM;simp[*])) (fun h3=>⟨⟨⟨⟨i,D,sg,0,false⟩,⟨⟨⟨k1,k2⟩,kg,k4,k5⟩,gI,cN _,by simp[*],by rw[hv];unfold yM;simp[*]⟩,(by simp[*]),P1 _⟩,?_⟩,?_⟩)⟩)⟩)
  ·clear h h2 h3 hv k1 k2 kg k4 k5 gI hl D i;rintro⟨i,D,sg,e,us⟩ js ⟨⟨⟨k1,k2⟩,kg,k4,k5⟩,gI,zB,zC,hv⟩;dsimp only at k1 k2 kg k4 k5 gI zB zC hv⊢;have ok:rY s ⟨i,D,sg,e,us⟩:=⟨⟨k1,k2⟩,kg,k4,k5⟩;have out:lz s ((s.size:Int)-i).toNat i e us=(i,e,us)->eO s=wL s i (D.na (D.dp+e*sg)):=fun x=>by
    rw[hv];unfold Fh;rw[x]
   have un:∀k,lz s (k+1) i e us=bif aE s i==95 then lz s k (i+1) e true else bif eS (aE s i) then lz s k (i+1) (bif decide (e<10000) then e*10+aE s i-48 else e) us else (i,e,us):=fun k=>rfl
   have aa7:i<(s.size:Int)->(aE s i==95)=false->eS (aE s i)=false->eO s=wL s i (D.na (D.dp+e*sg)):=fun h h1 h2=>out (by
    rw[show((s.size:Int)-i).toNat=(((s.size:Int)-i).toNat-1)+1 by omega,un,h1,h2];rfl)
   have nD:(¬(48<=aE s i/\aE s i<=57))->eS (aE s i)=false:=fun h=>by
    unfold eS;grind
   refine⟨⟨i,D,sg,e,us⟩,bl (fun h=>⟨⟨k1,h⟩,bl (fun h1=>⟨⟨k1,h⟩,bl (fun h2=>⟨⟨i,D,sg,e,us⟩,⟨⟨ok,h,?_⟩,rfl⟩,(by simp[*]),P1 _⟩) (fun h2=>⟨⟨k1,h⟩,aG (fun h3=>⟨⟨i,D,sg,e,us⟩,⟨⟨ok,h,?_⟩,rfl⟩,(by simp[*]),P1 _⟩) (fun h3=>⟨⟨i,D,sg,e,us⟩,⟨ok,gI,zB,zC,aa7 h h3 (nD (fun c=>h2 c.2))⟩,(by simp[*]),P1 _⟩)⟩)⟩) (fun h1=>⟨⟨k1,h⟩,aG (fun h3=>⟨⟨i,D,sg,e,us⟩,⟨⟨ok,h,?_⟩,rfl⟩,(by simp[*]),P1 _⟩) (fun h3=>⟨⟨i,D,sg,e,us⟩,⟨ok,gI,zB,zC,aa7 h h3 (nD (fun c=>h1 c.1))⟩,(by simp[*]),P1 _⟩)⟩)⟩) (fun h=>⟨⟨i,D,sg,e,us⟩,⟨ok,gI,zB,zC,out (by rw[show((s.size:Int)-i).toNat=0 by omega];rfl)⟩,(by simp[*]),P1 _⟩),?_⟩
   ·show(aE s i==95||eS (aE s i))=true;unfold eS;simp[*]
   ·simp[*]
   ·simp[*]
   rintro d' Sv ⟨⟨-,h,hc⟩,he⟩;have he:d'=⟨i,D,sg,e,us⟩:=he;subst he;dsimp only at h hc⊢;obtain⟨k,hk⟩:∃k,((s.size:Int)-i).toNat=k+1:=⟨((s.size:Int)-i).toNat-1,af⟩;have xH:((s.size:Int)-(i+1)).toNat=k:=af;have k_: -9223372036854775808<=i+1/\i+1<=9223372036854775807:=aJ;have hb:=hB i;have nx:∀e2 W4,lz s (k+1) i e us=lz s k (i+1) e2 W4->eO s=Fh s ((s.size:Int)-(i+1)).toNat (i+1) e2 W4 D sg:=fun e2 W4 x=>by
    rw[hv,hk,xH];unfold Fh;rw[x]
   have hD:(aE s i==95)=false->eS (aE s i)=true:=fun h1=>by grind
   refine⟨⟨k1,h⟩,aG (fun h1=>⟨k_,⟨i+1,D,sg,e,true⟩,⟨⟨⟨by grind,by grind⟩,kg,k4,k5⟩,gI,zB,zC,nx _ _ (by simp[*])⟩,(by simp[*]),P1 _,by simp[*]⟩) (fun h1=>bl (fun h2=>⟨aJ,⟨k1,h⟩,aJ,aJ,aJ,k_,⟨i+1,D,sg,e*10+aE s i-48,us⟩,⟨⟨⟨by grind,by grind⟩,kg,k4,k5⟩,gI,?_,?_,nx _ _ (by simp[*])⟩,(by simp[*]),P1 _,by simp[*]⟩) (fun h2=>⟨k_,⟨i+1,D,sg,e,us⟩,⟨⟨⟨by grind,by grind⟩,kg,k4,k5⟩,gI,zB,zC,nx _ _ (by simp[*])⟩,(by simp[*]),P1 _,by simp[*]⟩))⟩
   all_goals grind
  ·clear h h2 h3 hv k1 k2 kg k4 k5 gI hl D i;rintro⟨i,D,sg,e,us⟩ js ⟨⟨⟨k1,k2⟩,kg,k4,k5⟩,gI,zB,zC,hv⟩;dsimp only at k1 k2 kg k4 k5 gI zB zC hv⊢;have hl:=kg.len;have hes: -100100<=e*sg/\e*sg<=100100:=by rcases gI with rfl|rfl <;> omega
   refine⟨D.dp,mL hl,aJ,aJ,⟨ap,by rw[kq hl];decide⟩,⟨i,D.na (D.dp+e*sg),0,0,false⟩,⟨⟨⟨k1,k2⟩,kg.na _,?_,?_⟩,hv⟩,(by simp[*]),?_⟩
   ·show-3000000000<=D.dp+e*sg;omega
   ·show D.dp+e*sg<=3000000000;omega
   ·rw[CH hl];exact P1 _
 ·rw[hv];unfold Az;rw[bG h,show(eJ (aE s i)==101)=false from h2];rfl
 ·rw[hv];unfold Az;simp[*]
 clear hv k1 k2 kg k4 k5 hl D i;rintro⟨i,D,_,_,_⟩ js ⟨⟨⟨k1,k2⟩,kg,k4,k5⟩,hv⟩;dsimp only at k1 k2 kg k4 k5 hv⊢;refine aG (fun h=>no D kg.len (by rw[hv];unfold wL;simp[*])) (fun h=>?_);have e:eO s=some D:=by rw[hv];unfold wL;simp[*]
 refine⟨D,⟨kg.len,fun v(D1:eO s=some v)=>?_⟩,by show _=returned (.bool (eO s).isSome);grind,P1 D⟩;grind
theorem aoG:aC 130 yP:=fo 224 Tryz.func130 (fun _ _=>[(19,4,iH 0),(22,8,iH 0),(23,3,iH 0),(24,3,iH 0),(25,4,iH 0),(26,3,iH 0),(31,4,iH 0),(32,8,aX mM),(49,3,iH 0)]) [(2,3,.w [LH.ex (0:Nat) jE.any]),(3,3,.w [LH.ex (0:Nat) jE.any]),(10,3,.w [LH.ex (0:Nat) jE.any]),(19,7,.w [LH.ex (0:Nat) jE.any]),(23,7,.w [LH.ex (0:Nat) jE.any]),(25,11,.w [LH.ex (0:Nat) jE.any]),(28,3,.w [LH.ex (0:Nat) jE.any]),(31,7,.w [LH.ex (0:Nat) jE.any]),(49,10,.w [LH.ex (0:Nat) jE.any]),(26,7,.w [LH.ex (0:Nat) jE.any])] aoE aoD bz [] aoH
end
section
open Go
section
variable{s:ByteArray}{hx:Bool}
theorem aqK{x y:du}(h:nN s x)(hi:x.i<s.size)(e:oM s hx x=some y):nN s y/\y.i=x.i+1:=by
 obtain⟨k1,k2,k3,k4,k5,k6,k7,k8,k9,v_⟩:=h;unfold oM at e;simp only[cond_eq_ite]at e
 repeat' split at e
 all_goals first|cases e|skip
 all_goals
  refine⟨⟨?_,?_,?_,?_,?_,?_,?_,?_,?_,?_⟩,rfl⟩
  all_goals first
   |exact k3
   |exact k4
   |exact(gB _).1
   |exact(gB _).2
   | (dsimp only;omega)
theorem acR:∀(f:Nat)(x:du),nN s x->(f:Int)=s.size-x.i->nN s (sj s hx f x)
 |0,x,h,_=>h
 |f+1,x,h,e=>by
  rw[sj];cases hs:oM s hx x with
  |none=>exact h
  |some y=>
   obtain⟨h1,h2⟩:=aqK h af hs;exact acR f y h1 af
theorem OB:∀(f:Nat)(i e:Int)(us:Bool),0<=i->(f:Int)=s.size-i->0<=e->e<=100100->(0<=(lz s f i e us).1/\(lz s f i e us).1<=s.size)/\0<=(lz s f i e us).2.1/\(lz s f i e us).2.1<=100100
 |0,i,e,us,h1,h2,h3,h4=>⟨⟨h1,by show i<=_;omega⟩,h3,h4⟩
 |f+1,i,e,us,h1,h2,h3,h4=>by
  rw[lz];cases aE s i==95 with
  |true=>exact OB f (i+1) e true af af h3 h4
  |false=>
   rw[aU];cases hd:eS (aE s i)with
   |true=>
    rw[bf];have Zi:48<=aE s i/\aE s i<=57:=by
     unfold eS at hd;by_cases q:48<=aE s i
     ·rw[bG q,bf]at hd;exact⟨q,l7 hd⟩
     ·rw[bK q]at hd;cases hd
    by_cases q:e<10000
    ·rw[bG q,bf];exact OB f (i+1) _ us af af af af
    ·rw[bK q,aU];exact OB f (i+1) e us af af h3 h4
   |false=>exact⟨⟨h1,by show i<=_;omega⟩,h3,h4⟩
structure RB(s:ByteArray)(r:sC):Prop where
 m0:0<=r.m
 m1:r.m<=18446744073709551615
 e0: -10000000000<=r.e
 e1:r.e<=10000000000
 i0:0<=r.i
 i1:r.i<=s.size
variable{ng tr us:Bool}{m i dp nm:Int}
theorem Ir(h1:0<=m)(h2:m<=18446744073709551615)(h3:0<=i)(h4:i<=s.size):RB s (C5 ng hx m tr i):=⟨h1,h2,by show _<=(0:Int);omega,by show(0:Int)<=_;omega,h3,h4⟩
theorem abv(h1:0<=m)(h2:m<=18446744073709551615)(h3:0<=i)(h4:i<=s.size)(a: -5000000000<=dp)(b:dp<=5000000000)(c:0<=nm)(d:nm<=5000000000):RB s (qS s ng hx m tr us i dp nm):=by
 refine⟨h1,h2,?_,?_,h3,h4⟩
 all_goals
  unfold qS;dsimp only;cases m !=0
  ·rw[aU];omega
  ·rw[bf];omega
theorem Wy{sg:Int}(h1:0<=m)(h2:m<=18446744073709551615)(h3:0<=i)(h4:i<=s.size)(a: -4000000000<=dp)(b:dp<=4000000000)(c:0<=nm)(d:nm<=5000000000)(gI:sg=1\/sg= -1):RB s (vi s ng hx m tr us i dp nm sg):=by
 unfold vi;generalize (bif (bif decide (i>=s.size) then true else decide (aE s i<48)) then true else decide (aE s i>57))=q;cases q with
 |true=>exact Ir h1 h2 h3 h4
 |false=>
  rw[aU];obtain⟨⟨x1,x2⟩,x3,x4⟩:=OB (s:=s) ((s.size:Int)-i).toNat i 0 us h3 af af af;generalize lz s ((s.size:Int)-i).toNat i 0 us=z at*;obtain⟨z1,z2,z3⟩:=z;dsimp only at x1 x2 x3 x4⊢;refine abv h1 h2 x1 x2 ?_ ?_ c d
  all_goals rcases gI with rfl|rfl <;> omega
theorem abu(h1:0<=m)(h2:m<=18446744073709551615)(h3:0<=i)(h4:i<=s.size)(a: -4000000000<=dp)(b:dp<=4000000000)(c:0<=nm)(d:nm<=5000000000):RB s (wV s ng hx m tr us i dp nm):=by
 unfold wV;cases hp:sf s hx i with
 |false=>
  rw[aU];cases fg hx==16
  ·exact abv h1 h2 h3 h4 af af c d
  ·exact Ir h1 h2 h3 h4
 |true=>
  rw[bf];have hi:i<s.size:=by
   unfold sf at hp;by_cases q:i<s.size
   ·exact q
   ·rw[bK q]at hp;cases hp
  unfold C4;by_cases q:i+1>=s.size
  ·rw[bG q];exact Ir h1 h2 af af
  ·rw[bK q,aU];cases aE s (i+1)==43
   ·rw[aU];cases aE s (i+1)==45
    ·exact Wy h1 h2 af af a b c d (.inl rfl)
    ·exact Wy h1 h2 af af a b c d (.inr rfl)
   ·exact Wy h1 h2 af af a b c d (.inl rfl)
theorem abt(h1:0<=m)(h2:m<=18446744073709551615)(h3:0<=i)(h4:i<=s.size)(a: -1000000000<=dp)(b:dp<=1000000000)(c:0<=nm)(d:nm<=1000000000):RB s (AT s ng hx m tr us i dp nm):=by
 unfold AT;cases fg hx==16
 ·exact abu h1 h2 h3 h4 af af c af
 ·exact abu h1 h2 h3 h4 af af af af
theorem anS{x:du}(h:nN s x)(hs:s.size<=1000000000):RB s (qR s ng hx x):=by
 obtain⟨k1,k2,k3,k4,k5,k6,k7,k8,k9,v_⟩:=h;unfold qR;cases !x.sg
 ·rw[aU];cases !x.sd
  ·exact abt k3 k4 k1 k2 af af k9 af
  ·exact abt k3 k4 k1 k2 af af k9 af
 ·exact Ir k3 k4 k1 k2
theorem aqL(hs:s.size<=1000000000):RB s (fz s):=by
 have hI:0<=c_ s/\c_ s<=1:=by
  unfold c_;cases aE s 0==43 <;> cases aE s 0==45 <;> decide
 unfold fz;by_cases h0:0>=(s.size:Int)
 ·rw[bG h0];exact Ir af af af af
 ·rw[bK h0,aU];have hJ:0<=nM s/\nM s<=s.size:=by
   unfold nM;cases hh:bm s with
   |true=>
    unfold bm at hh;by_cases q:c_ s+2<s.size
    ·rw[bf];omega
    ·rw[bK q]at hh;cases hh
   |false=>rw[aU];omega
  exact anS (acR _ _ ⟨hJ.1,hJ.2,bd,bd,bd,hJ.1,bd,hJ.1,bd,hJ.1⟩ bd) hs
end
theorem aqY(s:ByteArray):0<=(ed s).2.1:=by
 have hA:∀t sg ns,0<=ns->0<=(t7 t sg ns).2.1:=fun t sg ns h=>by
  unfold t7;cases q:pr t==3 with
  |true=>show 0<=ns+pr t;rw[eq_of_beq q];omega
  |false=>
   cases q2:pr t==8 with
   |true=>show 0<=ns+pr t;rw[eq_of_beq q2];omega
   |false=>exact cN 0
 have h0:(0:Int)<=((0,0,false):Nat×Int×Bool).2.1:=cN 0;unfold ed;cases (s.size:Int)==0 with
 |true=>exact h0
 |false=>
  cases aE s 0==43||aE s 0==45 with
  |true=>exact hA _ _ _ af
  |false=>
   cases aE s 0==105||aE s 0==73 with
   |true=>exact hA _ _ _ (cN 0)
   |false=>
    cases aE s 0==110||aE s 0==78 with
    |true=>
     cases jh s yW==3 with
     |true=>show(0:Int)<=3;omega
     |false=>exact h0
    |false=>exact h0
end
section
open Go
theorem lB.view{P:Program}{f:FuncId}{C D:aR}(h:lB P f C)(g:D.X->C.X)(ha:∀x,C.args (g x)=D.args x)(hp:∀x,C.pre (g x)=D.pre x)(hc:∀x,D.cond x->C.cond (g x))(hr:∀x F,D.cond x->D.aQ x F->C.aQ (g x) F)
  (hv:∀x y,D.cond x->C.cd (g x) y->∃z,D.cd x z/\C.val (g x) y=D.val x z/\C.post (g x) y=D.post x z):lB P f D:=⟨fun x F I w RG hrx hs=>by
 have:=h.h (g x) F I w (hc x RG) (hr x F RG hrx) (by rw[hp];exact hs);rw[ha]at this;refine Calls.mono this (fun e w' he=>?_);obtain⟨y,J,h1,h2,h3,h4,h5⟩:=he;obtain⟨z,k1,k2,k3⟩:=hv x y RG h1;exact⟨z,J,k1,h2.trans k2,h3,by rw[<-k3];exact h4,h5⟩⟩
structure X1 where
 v:Nat
 n:Nat
 b:Bool
def Xg:aR where
 X:=bR
 Y:=X1
 args x:=[aj x.s]
 cond x:=x.s.size<=1000000000
 cd x y:=ed x.s=(y.v,(y.n:Int),y.b)
 val _ y:=.returned (.tuple #[.float .f64 y.v,.int .i64 y.n,.bool y.b])
theorem aqW:aC 123 Xg:=aqZ.view (fun x=>x) (fun _=>rfl) (fun _=>rfl) (fun _ h=>h) (fun _ _ _ h=>h) (fun x _ _ _=>by
 have h:=aqY x.s;have e:(((ed x.s).2.1.toNat:Nat):Int)=(ed x.s).2.1:=by omega
 refine⟨⟨(ed x.s).1,(ed x.s).2.1.toNat,(ed x.s).2.2⟩,?_,?_,rfl⟩
 ·show ed x.s=((ed x.s).1,(((ed x.s).2.1.toNat:Nat):Int),(ed x.s).2.2);rw[e]
 ·show _=returned (.tuple #[.float .f64 (ed x.s).1,.int .i64 ((ed x.s).2.1.toNat:Nat),.bool (ed x.s).2.2]);rw[e];rfl)
structure rn where
 m:Nat
 e:Int
 n:Bool
 t:Bool
 h:Bool
 i:Nat
 o:Bool
def Xf:aR where
 X:=bR
 Y:=rn
 args x:=[aj x.s]
 cond x:=x.s.size<=1000000000
 cd x y:=fz x.s=⟨(y.m:Int),y.e,y.n,y.t,y.h,(y.i:Int),y.o⟩/\y.m<18446744073709551616/\ -10000000000<=y.e/\y.e<=10000000000/\y.i<=x.s.size
 val _ y:=.returned (.tuple #[.int .u64 y.m,.int .i64 y.e,.bool y.n,.bool y.t,.bool y.h,.int .i64 y.i,.bool y.o])
theorem aqM:aC 124 Xf:=aqR.view (fun x=>x) (fun _=>rfl) (fun _=>rfl) (fun _ h=>h) (fun _ _ _ h=>h) (fun x _ hc _=>by
 have hb:=aqL (s:=x.s) hc;have e0:∃r,fz x.s=r:=⟨_,rfl⟩;obtain⟨⟨m,e,n,t,h,i,o⟩,hr⟩:=e0;rw[hr]at hb;obtain⟨b1,b2,b3,b4,b5,b6⟩:=hb;dsimp only at b1 b2 b3 b4 b5 b6;obtain⟨m,rfl⟩:∃k:Nat,m=(k:Int):=⟨m.toNat,af⟩;obtain⟨i,rfl⟩:∃k:Nat,i=(k:Int):=⟨i.toNat,af⟩;refine⟨⟨m,e,n,t,h,i,o⟩,⟨hr,bd,b3,b4,bd⟩,?_,rfl⟩;show returned (OA (fz x.s))=_;rw[hr];rfl)
def Xc:aR where
 X:=iw
 Y:=Nat ⊕ Nat
 args x:=[aj x.s,ah dV,aA x.m,ae x.e,ak x.ng,ak x.tr]
 cond x:=0<=x.m/\x.m<=18446744073709551615/\ -10000000000<=x.e/\x.e<=10000000000
 aQ x F:=ic x.tb x.lc F
 cd x y:=match y with
  | .inl v=>(dx x).1=v/\((dx x).2==0)=true
  | .inr v=>(dx x).1=v/\((dx x).2==0)=false
 val _ y:=match y with
  | .inl v=>.returned (.tuple #[.float .f64 v,.nilIface])
  | .inr v=>.returned (.tuple #[.float .f64 v,.iface 128 (.int .i64 1)])
 sum:=some (iX Nat Nat)
theorem aqA:aC 125 Xc:=aqF.view (fun x=>x) (fun _=>rfl) (fun _=>rfl) (fun _ h=>h) (fun _ _ _ h=>h) (fun x _ _ _=>by
 cases h:(dx x).2==0 with
 |true=>exact⟨.inl (dx x).1,⟨rfl,h⟩,by show returned (.tuple #[.float .f64 (dx x).1,yZ (dx x).2])=_;unfold yZ;rw[h];rfl,rfl⟩
 |false=>exact⟨.inr (dx x).1,⟨rfl,h⟩,by show returned (.tuple #[.float .f64 (dx x).1,yZ (dx x).2])=_;unfold yZ;rw[h];rfl,rfl⟩)
def Kk:aR where
 X:=lA
 Y:=Nat ⊕ Nat
 args x:=[aA x.m,ae x.e,aA x.g]
 cond x:=x.m<18446744073709551616/\ -348<=x.e/\x.e<348/\x.g<18446744073709551616/\∀i,x.tb i<18446744073709551616
 aQ x F:=∀i,i<1392->aO F ⟨15,i,none⟩ (.int .u64 (x.tb i))
 cd x y:=match y with
  | .inl v=>hC x=(v,0)
  | .inr v=>hC x=(v,1)
 val _ y:=match y with
  | .inl v=>.returned (.tuple #[.float .f64 v,.nilIface])
  | .inr v=>.returned (.tuple #[.float .f64 v,.iface 128 (.int .i64 1)])
 eX _ _ _ hs h:=fun i hi=>(h i hi).sub hs
 sum:=some (iX Nat Nat)
theorem Ra:aC 135 Kk:=ahj.view (fun x=>x) (fun _=>rfl) (fun _=>rfl) (fun _ h=>h) (fun _ _ _ h=>h) (fun x y _ h=>by
 cases y with
 |inl u=>exact⟨.inl (hC x).1,Prod.ext rfl h,rfl,rfl⟩
 |inr u=>exact⟨.inr (hC x).1,Prod.ext rfl h,rfl,rfl⟩)
structure Xh where
 v:Nat
 b:Bool
def QE:aR where
 X:=pu
 Y:=Xh
 args x:=[aA x.m,ae x.e,ak x.n]
 cond x:= -100000<=x.e/\x.e<=100000
 aQ x F:=ic x.tb x.lc F
 cd x y:=m6 x=(y.v,y.b)
 val _ y:=.returned (.tuple #[.float .f64 y.v,.bool y.b])
theorem ae2:aC 134 QE:=ae5.view (fun x=>x) (fun _=>rfl) (fun _=>rfl) (fun _ h=>h) (fun _ _ _ h=>h) (fun x _ _ _=>⟨⟨(m6 x).1,(m6 x).2⟩,rfl,rfl,rfl⟩)
structure XB where
 d:bn
 ok:Bool
def WQ:aR where
 X:=eB
 Y:=XB
 args x:=[ah (kF x),aj x.s]
 pre x:=[ag x.b (aZ x.d) 158]
 cond x:=x.s.size<=1000000000/\x.d=dZ
 cd x y:=y.d.ds.length=800/\y.ok=(eO x.s).isSome/\∀v,eO x.s=some v->y.d=v/\v.jl/\ -3000000000<=v.dp/\v.dp<=3000000000
 val _ y:=az (ak y.ok)
 post x y:=[ag x.b (aZ y.d) 158]
 eX _ _ _ _ h:=h
theorem aoC:aC 130 WQ:=aoG.view (fun x=>x) (fun _=>rfl) (fun _=>rfl) (fun _ h=>h) (fun _ _ _ h=>h) (fun x y _ h=>⟨⟨y,(eO x.s).isSome⟩,⟨h.1,rfl,h.2⟩,rfl,rfl⟩)
structure Xq where
 d:bn
 v:Int
 o:Bool
def Rd:aR where
 X:=fO
 Y:=Xq
 args x:=[ah (jt x),ah dV]
 pre x:=[EP x]
 cond x:=(x.d.ds.length=800/\(x.d.nd=0\/x.d.norm))/\sv x.lc/\ -3000000000<=x.d.dp/\x.d.dp<=3000000000
 aQ x F:=ic x.tb x.lc F
 cd x y:=dN x.lc x.d=(y.v,y.o)
 val _ y:=.returned (.tuple #[.int .u64 y.v,.bool y.o])
 post x y:=[ag x.b (aZ y.d) 158]
theorem ahu:aC 131 Rd:=ahz.view (fun x=>x) (fun _=>rfl) (fun _=>rfl) (fun _ h=>h) (fun _ _ _ h=>h) (fun x y _ h=>⟨⟨y,(dN x.lc x.d).1,(dN x.lc x.d).2⟩,rfl,rfl,rfl⟩)
end
section
open Go
def rn.of(z:sC):rn:=⟨z.m.toNat,z.e,z.n,z.t,z.h,z.i.toNat,z.o⟩
def nI(n:Bool):Nat:=bif n then 9223372036854775808 else 0
def QL(n:Bool)(k:Int):Nat:=(u64.wrap ((BitVec.ofInt u64.bits (u64.wrap ((bif n then 1 else 0)*2^min (Int.toNat 63) u64.bits))|||BitVec.ofInt u64.bits k).toNat:Int)).toNat
def Bd(lc:Nat->Nat×ByteArray)(s:ByteArray)(r:rn):vj:=
 match eO (s.extract 0 r.i)with
 |none=>⟨0,r.i,2⟩
 |some v=>⟨(dN lc v).1.toNat,r.i,bif (dN lc v).2 then 1 else 0⟩
def xi(tb:Nat->Nat)(lc:Nat->Nat×ByteArray)(s:ByteArray)(r:rn):vj:=
 bif !r.t then ⟨(hC ⟨r.m,r.e,nI r.n,tb⟩).1,r.i,(hC ⟨r.m,r.e,nI r.n,tb⟩).2⟩
 else bif cR .eql (hC ⟨r.m,r.e,nI r.n,tb⟩).1 (hC ⟨(u64.wrap ((r.m:Int)+1)).toNat,r.e,nI r.n,tb⟩).1 then ⟨(hC ⟨r.m,r.e,nI r.n,tb⟩).1,r.i,(hC ⟨r.m,r.e,nI r.n,tb⟩).2⟩
 else Bd lc s r
def ur(tb:Nat->Nat)(lc:Nat->Nat×ByteArray)(s:ByteArray)(r:rn):vj:=
 bif !r.o then ⟨0,r.i,2⟩
 else bif r.h then ⟨(dx ⟨s.extract 0 r.i,r.m,r.e,r.n,r.t,tb,lc⟩).1,r.i,bif (dx ⟨s.extract 0 r.i,r.m,r.e,r.n,r.t,tb,lc⟩).2==0 then 0 else 1⟩
 else bif (r.m:Int)==0 then ⟨QL r.n 0,r.i,0⟩
 else bif decide (r.e>310) then ⟨QL r.n 9218868437227405312,r.i,1⟩
 else bif decide (r.e< -345) then ⟨QL r.n 0,r.i,0⟩
 else bif !r.t then (bif (m6 ⟨r.m,r.e,r.n,tb,lc⟩).2 then ⟨(m6 ⟨r.m,r.e,r.n,tb,lc⟩).1,r.i,0⟩ else xi tb lc s r)
 else xi tb lc s r
def zk(tb:Nat->Nat)(lc:Nat->Nat×ByteArray)(s:ByteArray):vj:=
 bif (ed s).2.2 then ⟨(ed s).1,(ed s).2.1.toNat,0⟩ else ur tb lc s (rn.of (fz s))
structure qV where
 s:ByteArray
 tb:Nat->Nat
 lc:Nat->Nat×ByteArray
 av:ByteArray->vj
def m7:aR where
 X:=qV
 Y:=Unit ⊕ Unit
 args x:=[aj x.s]
 cond x:=(x.s.size<=8388610/\sv x.lc/\∀i,x.tb i<18446744073709551616)/\x.av=zk x.tb x.lc
 aQ x F:=ic x.tb x.lc F
 cd x y:=match y with
  | .inl _=>(x.av x.s).e=0
  | .inr _=>(x.av x.s).e≠0/\(x.av x.s).e<=2
 val x y:=match y with
  | .inl _=>.returned (.tuple #[.float .f64 (x.av x.s).v,.int .i64 (x.av x.s).n,.nilIface])
  | .inr _=>.returned (.tuple #[.float .f64 (x.av x.s).v,.int .i64 (x.av x.s).n,.iface 128 (.int .i64 (x.av x.s).e)])
 sum:=some (iX Unit Unit)
structure ua where
 r:rn
def X2(x:qV)(r:rn):List (Nat×Value):=[(0,.string x.s),(3,.int .i64 r.i),(4,.nilIface),(2,.float .f64 0)]
def Gi(x:qV)(r:rn):Prop:=r.m<18446744073709551616/\r.i<=x.s.size
def ae9(x:qV)(F:ai):Nat->Option Inv:=fun
 |22=>some {X:=ua,P:=fun d=>Gi x d.r/\ -345<=d.r.e/\d.r.e<=310/\x.av x.s=xi x.tb x.lc x.s d.r,mu:=fun _=>0,lv:=fun d=>X2 x d.r++[(8,.int .u64 d.r.m),(9,.int .i64 d.r.e),(11,.bool d.r.t),(16,.int .u64 (bif d.r.n then 9223372036854775808 else 0))],st:=fun _=>[F]}
 |28=>some {X:=ua,P:=fun d=>Gi x d.r/\x.av x.s=Bd x.lc x.s d.r,mu:=fun _=>0,lv:=fun d=>X2 x d.r,st:=fun _=>[F]}
 |_=>none
def Ts(x:qV)(F:ai)(j:w4)(k:rn):=aq m7 x F (az (tuple ⟨[float f64 (bc (↑(cf (bc ((bif j.b then (1:Int) else (0:Int))*2^min (Int.toNat (63:Int)) u64.bits))|||cf (0:Int)).toNat:Int)).toNat,ae ↑k.i,nilIface]⟩)) [(0,F)]
def V_(e0:qV)(z:ua):=Gi e0 z.r/\(-345:Int)<=z.r.e/\z.r.e<=310/\e0.av e0.s=xi e0.tb e0.lc e0.s z.r
def XE(e0:qV)(e1:ai)(v0 v1 v2 v3 v4:Value)(ss:St):=∃(z:ua),V_ e0 z/\(aj e0.s=aj e0.s/\v0=ae ↑z.r.i/\nilIface=nilIface/\float f64 0=float f64 0/\v1=aA ↑z.r.m/\v2=ae z.r.e/\v3=ak z.r.t/\v4=aA (bif z.r.n then (9223372036854775808:Int) else (0:Int))/\True)/\aD ss [(0,e1)]
def TQ(x:qV)(F:ai)(k:rn)(j:w4):=XE x F (ae ↑k.i) (aA ↑k.m) (ae k.e) (ak k.t) (aA (bc ((bif j.b then (1:Int) else (0:Int))*2^min (Int.toNat (63:Int)) u64.bits))) [(0,F)]
def Jn(aa:List Value)(rr:ai)(k0:lA->Nat->Prop)(k1:lA->Nat->Prop):=aC 135 Kk/\true=true/\∃(z:lA),aa=[aA ↑z.m,ae z.e,aA ↑z.g]/\([]:List ai)=[]/\(z.m<18446744073709551616/\(-348:Int)<=z.e/\z.e<348/\z.g<18446744073709551616/\∀(w0:Nat),z.tb w0<18446744073709551616)/\(∀(w0:Nat),w0<1392->aO rr ⟨15,w0,none⟩ (aA (↑(z.tb w0):Int)))/\(∀(u0:Nat),hC z=(u0,0)->k0 z u0)/\∀(u1:Nat),hC z=(u1,1)->k1 z u1
def Uw(h:ua):List Value:=[aA (bc ((h.r.m:Int)+1)),ae h.r.e,aA (bif h.r.n then (9223372036854775808:Int) else (0:Int))]
def A6(oo:Oper)(aa:List Value)(k0:Nat×Nat->Prop):=dH Tryz.prog oo (qn BinOp.eql)/\∃(z:Nat×Nat),aa=(u5 z)/\True/\k0 z
def Po(e0:qV)(e1:ai)(v0:Value)(ss:St):=∃(z:ua),(Gi e0 z.r/\e0.av e0.s=Bd e0.lc e0.s z.r)/\(aj e0.s=aj e0.s/\v0=ae ↑z.r.i/\nilIface=nilIface/\float f64 0=float f64 0/\True)/\aD ss [(0,e1)]
def TD(e:Nat)(x:qV)(F:ai)(h:ua):lA->Nat->Prop:=fun d c=>A6 (a8 Tryz.f117 26 2) [float f64 e,float f64 c] (fun b=>Br (cR BinOp.eql b.fst b.snd) (aq m7 x F (az (tuple ⟨[float f64 e,ae ↑h.r.i,nilIface]⟩)) [(0,F)]) (Po x F (ae ↑h.r.i) [(0,F)]))
def V8(x:qV)(F:ai)(e:Nat)(h:ua):=aq m7 x F (az (tuple ⟨[float f64 e,ae ↑h.r.i,fE 128 (ae 1)]⟩)) [(0,F)]
def Tx(e:Nat)(x:qV)(F:ai)(h:ua):lA->Nat->Prop:=fun d c=>A6 (a8 Tryz.f117 26 2) [float f64 e,float f64 c] (fun b=>Br (cR BinOp.eql b.fst b.snd) (V8 x F e h) (Po x F (ae ↑h.r.i) [(0,F)]))
theorem ae8(x:qV)(F:ai)(hc:m7.cond x)(hr:m7.aQ x F):aC 123 Xg/\true=true/\∃(n:bR),[aj x.s]=[aj n.s]/\([]:List ai)=[]/\n.s.size<=1000000000/\True/\∀(m:X1),ed n.s=(m.v,(m.n:Int),m.b)->Br m.b (aq m7 x F (az (tuple ⟨[float f64 m.v,ae ↑m.n,nilIface]⟩)) [(0,F)]) (aC 124 Xf/\true=true/\∃(l:bR),[aj x.s]=[aj l.s]/\([]:List ai)=[]/\l.s.size<=1000000000/\True/\∀(k:rn),(fz l.s=⟨(k.m:Int),k.e,k.n,k.t,k.h,(k.i:Int),k.o⟩/\k.m<18446744073709551616/\(-10000000000:Int)<=k.e/\k.e<=10000000000/\k.i<=l.s.size)->Br (!k.o) (aq m7 x F (az (tuple ⟨[float f64 0,ae ↑k.i,fE 128 (ae 2)]⟩)) [(0,F)]) (Br k.h (((0:Int)<=(0:Int)/\0<=(k.i:Int)/\(k.i:Int)<=(x.s.size:Int))/\aC 125 Xc/\true=true/\∃(b:iw),[aj (x.s.extract (Int.toNat (0:Int)) (k.i:Int).toNat),ah dV,aA ↑k.m,ae k.e,ak k.n,ak k.t]=[aj b.s,ah dV,aA b.m,ae b.e,ak b.ng,ak b.tr]/\([]:List ai)=[]/\(0<=b.m/\b.m<=18446744073709551615/\(-10000000000:Int)<=b.e/\b.e<=10000000000)/\ic b.tb b.lc (cX F)/\(∀(a:Nat),((dx b).fst=a/\((dx b).snd==0)=true)->aq m7 x F (az (tuple ⟨[float f64 a,ae ↑k.i,nilIface]⟩)) [(0,F)])/\∀(a:Nat),((dx b).fst=a/\((dx b).snd==0)=false)->aq m7 x F (az (tuple ⟨[float f64 a,ae ↑k.i,fE 128 (ae 1)]⟩)) [(0,F)]) ((aO F ⟨10,0,none⟩ (ak true)/\Gb [ak k.n] (fun j i=>Br ((k.m:Int)==0) (Ts x F j k) (aP (k.e>310) (aq m7 x F (az (tuple ⟨[float f64 (bc (↑(cf (bc ((bif j.b then (1:Int) else (0:Int))*2^min (Int.toNat (63:Int)) u64.bits))|||cf (9218868437227405312:Int)).toNat:Int)).toNat,ae ↑k.i,fE 128 (ae 1)]⟩)) [(0,F)]) (aP (k.e<(-345:Int)) (Ts x F j k) (Br (!k.t) (aC 134 QE/\true=true/\∃(c:pu),[aA ↑k.m,ae k.e,ak k.n]=[aA ↑c.m,ae c.e,ak c.n]/\([]:List ai)=[]/\((-100000:Int)<=c.e/\c.e<=100000)/\ic c.tb c.lc (cX F)/\∀(b:Xh),m6 c=(b.v,b.b)->Br b.b (aq m7 x F (az (tuple ⟨[float f64 b.v,ae ↑k.i,nilIface]⟩)) [(0,F)]) (TQ x F k j)) (TQ x F k j)/\aS fun(h:ua)_=>V_ x h->Jn [aA ↑h.r.m,ae h.r.e,aA (bif h.r.n then (9223372036854775808:Int) else (0:Int))] (cX F) (fun f e=>Br (!h.r.t) (aq m7 x F (az (tuple ⟨[float f64 e,ae ↑h.r.i,nilIface]⟩)) [(0,F)]) (Jn (Uw h) (cX F) (TD e x F h) (TD e x F h))) (fun f e=>Br (!h.r.t) (V8 x F e h) (Jn (Uw h) (cX F) (Tx e x F h) (Tx e x F h))))))))/\aS fun(g:ua)_=>(Gi x g.r/\x.av x.s=Bd x.lc x.s g.r)->∀(e:Nat),((0:Int)<=(0:Int)/\0<=(g.r.i:Int)/\(g.r.i:Int)<=(x.s.size:Int))/\aC 130 WQ/\true=true/\∃(d:eB),[ah (bJ e),aj (x.s.extract (Int.toNat (0:Int)) (g.r.i:Int).toNat)]=[ah (kF d),aj d.s]/\[ag e (List.replicate 800 (a_ 0)++[ae 0,ae 0,ak false,ak false]) 158]=[ag d.b (aZ d.d) 158]/\(d.s.size<=1000000000/\d.d=dZ)/\True/\∀(c:XB),(c.d.ds.length=800/\c.ok=(eO d.s).isSome/\∀(a:bn),eO d.s=some a->c.d=a/\a.jl/\(-3000000000:Int)<=a.dp/\a.dp<=3000000000)->Br (!c.ok) (aq m7 x F (az (tuple ⟨[float f64 0,ae ↑g.r.i,fE 128 (ae 2)]⟩)) [(0,F),(5000,ag d.b (aZ c.d) 158)]) (aC 131 Rd/\true=true/\∃(b:fO),[ah (bJ e),ah dV]=[ah (jt b),ah dV]/\[ag d.b (aZ c.d) 158]=[ag b.b (aZ b.d) 158]/\((b.d.ds.length=800/\(b.d.nd=0\/b.d.norm))/\sv b.lc/\(-3000000000:Int)<=b.d.dp/\b.d.dp<=3000000000)/\ic b.tb b.lc (aH [(0,F),(5000,ag d.b (aZ c.d) 158)] [5000])/\∀(a:Xq),dN b.lc b.d=(a.v,a.o)->Br a.o (aq m7 x F (az (tuple ⟨[float f64 a.v.toNat,ae ↑g.r.i,fE 128 (ae 1)]⟩)) [(0,F),(5000,ag b.b (aZ a.d) 158)]) (aq m7 x F (az (tuple ⟨[float f64 a.v.toNat,ae ↑g.r.i,nilIface]⟩)) [(0,F),(5000,ag b.b (aZ a.d) 158)]))))):=by
 delta dV cX Gb Ts V_ XE TQ Jn Uw u5 A6 Po TD V8 Tx bJ kF jt aH ae a_ aA aj ak ah fE ag cf bc aP az aS;obtain⟨s,tb,lc,av⟩:=x;obtain⟨⟨h1,h2,h3⟩,RC⟩:=hc;replace hr:ic tb lc F:=hr;dsimp only at h1 h2 h3 RC⊢;have P0:aD [(0,F)] [(0,F)]:=aB [0];have rr:ic tb lc (.dv (rest [(0,F)] [])):=hr.sub (b_ 0);have xz:∀(v n:Nat)(S:St),av s=⟨v,n,0⟩->aD S [(0,F)]->aq m7 ⟨s,tb,lc,av⟩ F (returned (tuple #[.float .f64 v,.int .i64 n,.nilIface])) S:=fun v n S e h=>
  ⟨.inl (),by show(av s).e=0;rw[e],by show _=returned (.tuple #[.float .f64 (av s).v,.int .i64 (av s).n,.nilIface]);rw[e],h⟩
 have zw:∀(v n k:Nat)(S:St),k=1\/k=2->av s=⟨v,n,k⟩->aD S [(0,F)]->aq m7 ⟨s,tb,lc,av⟩ F (returned (tuple #[.float .f64 v,.int .i64 n,.iface 128 (.int .i64 (k:Nat))])) S:=fun v n k S hk e h=>
  ⟨.inr (),by show(av s).e≠0/\(av s).e<=2;grind,by show _=returned (.tuple #[.float .f64 (av s).v,.int .i64 (av s).n,.iface 128 (.int .i64 (av s).e)]);rw[e],h⟩
 refine bV aqW ⟨s⟩ (by grind) fun y hy=>aG (fun q=>xz _ _ _ ?_ P0) (fun q=>?_)
 ·rw[RC];unfold zk;simp[*]
 refine bV aqM ⟨s⟩ (by grind) fun r⟨hz,m1,e0,e1,i1⟩=>?_;have hw:av s=ur tb lc s r:=by
  rw[RC];unfold zk;rw[hy];dsimp only;rw[q,hz];rfl
 refine aG (fun q1=>zw 0 r.i 2 _ (.inr rfl) (by rw[hw];unfold ur;simp[*]) P0) (fun q1=>aG (fun q2=>?_) (fun q2=>⟨?_,?_⟩))
 ·refine⟨⟨cN _,af,by simp[*]⟩,aqA,rfl,⟨s.extract 0 r.i,r.m,r.e,r.n,r.t,tb,lc⟩,rfl,rfl,⟨by simp[*],by grind,e0,e1⟩,rr,fun a ha=>xz _ _ _ ?_ P0,fun a ha=>zw _ _ 1 _ (.inl rfl) ?_ P0⟩
  ·rw[hw];unfold ur;simp[*]
  ·rw[hw];unfold ur;simp[*]
 ·have sg:∀n:Bool,int .u64 (u64.wrap ((bif n then 1 else 0)*2^min (Int.toNat 63) u64.bits))=int .u64 (bif n then 9223372036854775808 else 0):=fun n=>by cases n <;> exact congrArg _ (by decide)
  refine⟨hr.opt,QI,rfl,⟨r.n⟩,rfl,rfl,ao,ao,fun _ _=>aG (fun q3=>xz _ _ _ ?_ P0) (fun q3=>bl (fun q4=>zw _ _ 1 _ (.inl rfl) ?_ P0) (fun q4=>bl (fun q5=>xz _ _ _ ?_ P0) (fun q5=>⟨aG (fun q6=>bp ae2 ⟨r.m,r.e,r.n,tb,lc⟩ ⟨by grind,by grind⟩ rr fun z hz=>aG (fun q7=>xz _ _ _ ?_ P0) (fun q7=>⟨⟨r⟩,⟨⟨m1,i1⟩,by grind,by grind,?_⟩,⟨rfl,rfl,rfl,rfl,rfl,rfl,rfl,sg _,ao⟩,P0⟩)) (fun q6=>⟨⟨r⟩,⟨⟨m1,i1⟩,by grind,by grind,?_⟩,⟨rfl,rfl,rfl,rfl,rfl,rfl,rfl,sg _,ao⟩,P0⟩),?_⟩)))⟩
  ·rw[hw];unfold ur;rw[show(!r.o)=false from q1,q2,q3];rfl
  ·rw[hw];unfold ur;rw[show(!r.o)=false from q1,q2,q3,bG q4];rfl
  ·rw[hw];unfold ur;rw[show(!r.o)=false from q1,q2,q3,bK q4,bG q5];rfl
  ·rw[hw];unfold ur;simp[*]
  ·show av s=xi tb lc s r;rw[hw];unfold ur;simp[*]
  ·show av s=xi tb lc s r;rw[hw];unfold ur;simp[*]
  rintro⟨r⟩ js ⟨⟨m1,i1⟩,e0,e1,hw⟩;dsimp only at m1 i1 e0 e1 hw⊢;have sN:(bif r.n then (9223372036854775808:Int) else 0)=((nI r.n:Nat):Int):=by unfold nI;cases r.n <;> rfl
  have sL:nI r.n<18446744073709551616:=by unfold nI;cases r.n <;> decide
  have u1:=gB ((r.m:Int)+1);have uN:u64.wrap ((r.m:Int)+1)=(((u64.wrap ((r.m:Int)+1)).toNat:Nat):Int):=af;have tl:∀a k:Nat,k<=1->hC ⟨r.m,r.e,nI r.n,tb⟩=(a,k)->(!r.t)=true->av s=⟨a,r.i,k⟩:=fun a k _ h ht=>by
   rw[hw];unfold xi;grind
  have Oj:∀a k c j:Nat,hC ⟨r.m,r.e,nI r.n,tb⟩=(a,k)->hC ⟨(u64.wrap ((r.m:Int)+1)).toNat,r.e,nI r.n,tb⟩=(c,j)->(!r.t)=false->cR .eql a c=true->av s=⟨a,r.i,k⟩:=fun a k c j h h' ht hq=>by
   rw[hw];unfold xi;grind
  have Ok:∀a k c j:Nat,hC ⟨r.m,r.e,nI r.n,tb⟩=(a,k)->hC ⟨(u64.wrap ((r.m:Int)+1)).toNat,r.e,nI r.n,tb⟩=(c,j)->(!r.t)=false->cR .eql a c=false->av s=Bd lc s r:=fun a k c j h h' ht hq=>by
   rw[hw];unfold xi;grind
  refine⟨Ra,rfl,⟨r.m,r.e,nI r.n,tb⟩,by rw[sN],rfl,⟨m1,by grind,by grind,sL,h3⟩,rr.pow,fun a ha=>aG (fun q=>xz _ _ _ (tl a 0 af ha q) P0) (fun q=>⟨Ra,rfl,⟨(u64.wrap ((r.m:Int)+1)).toNat,r.e,nI r.n,tb⟩,by grind,rfl,⟨by grind,by grind,by grind,sL,h3⟩,rr.pow,fun c hc=>⟨rA (.inl rfl) rfl,(a,c),rfl,ao,aG (fun q2=>xz _ _ _ (Oj a 0 c 0 ha hc q q2) P0) (fun q2=>⟨⟨r⟩,⟨⟨m1,i1⟩,Ok a 0 c 0 ha hc q q2⟩,aV,P0⟩)⟩,fun c hc=>⟨rA (.inl rfl) rfl,(a,c),rfl,ao,aG (fun q2=>xz _ _ _ (Oj a 0 c 1 ha hc q q2) P0) (fun q2=>⟨⟨r⟩,⟨⟨m1,i1⟩,Ok a 0 c 1 ha hc q q2⟩,aV,P0⟩)⟩⟩),
   fun a ha=>aG (fun q=>zw _ _ 1 _ (.inl rfl) (tl a 1 af ha q) P0) (fun q=>⟨Ra,rfl,⟨(u64.wrap ((r.m:Int)+1)).toNat,r.e,nI r.n,tb⟩,by grind,rfl,⟨by grind,by grind,by grind,sL,h3⟩,rr.pow,fun c hc=>⟨rA (.inl rfl) rfl,(a,c),rfl,ao,aG (fun q2=>zw _ _ 1 _ (.inl rfl) (Oj a 1 c 0 ha hc q q2) P0) (fun q2=>⟨⟨r⟩,⟨⟨m1,i1⟩,Ok a 1 c 0 ha hc q q2⟩,aV,P0⟩)⟩,fun c hc=>⟨rA (.inl rfl) rfl,(a,c),rfl,ao,aG (fun q2=>zw _ _ 1 _ (.inl rfl) (Oj a 1 c 1 ha hc q q2) P0) (fun q2=>⟨⟨r⟩,⟨⟨m1,i1⟩,Ok a 1 c 1 ha hc q q2⟩,aV,P0⟩)⟩⟩)⟩
 rintro⟨r⟩ js ⟨⟨m1,i1⟩,hw⟩ b;dsimp only at m1 i1 hw⊢;have l_:(s.extract 0 r.i).size<=1000000000:=by rw[jU];omega
 refine⟨⟨cN _,af,af⟩,aoC,rfl,⟨b,s.extract 0 r.i,dZ⟩,rfl,bh,⟨l_,rfl⟩,ao,fun y⟨y1,y2,y3⟩=>?_⟩;dsimp only at y1 y2 y3⊢;have rr2:∀D:bn,ic tb lc (.dv (rest [(0,F),(5000,.cells b (aZ D) 158)] [5000])):=fun D=>hr.sub (b_ 0);have P5:∀D:bn,aD [(0,F),(5000,.cells b (aZ D) 158)] [(0,F)]:=fun D=>aB [0];cases hv:eO (s.extract 0 r.i)with
 |none=>
  refine aG (fun _=>zw 0 r.i 2 _ (.inr rfl) (by rw[hw];unfold Bd;rw[hv]) (P5 _)) (fun h=>?_);grind
 |some v=>
  obtain⟨d1,d2,d3,d4⟩:=y3 v hv;refine aG (fun h=>?_) (fun _=>bp ahu ⟨b,y.d,tb,lc⟩ ⟨⟨y1,by rw[d1];exact d2.or⟩,h2,by simp[*],by simp[*]⟩ (rr2 _) fun z hz=>?_)
  ·grind
  have hz:dN lc v=(z.v,z.o):=by grind
  have e28:av s=⟨z.v.toNat,r.i,bif z.o then 1 else 0⟩:=by rw[hw];unfold Bd;simp[*]
  exact aG (fun q=>zw _ _ 1 _ (.inl rfl) (by grind) (P5 _)) (fun q=>xz _ _ _ (by grind) (P5 _))
theorem ae7:aC 117 m7:=fo 143 Tryz.func117 (fun _ _=>[(1,1,aX Xg),(4,1,aX Xf),(8,7,aX Xc),(10,0,.q [.ex 0 (.is (.bool true))]),(11,1,aX xt),(11,2,aW),(13,1,aW),(13,2,aW),(15,1,aW),(15,2,aW),(17,1,aW),(17,2,aW),(19,3,aX QE),(22,3,aX Kk),(25,1,aW),(25,4,aX Kk),(26,2,.qo (qn .eql)),(28,0,.n 5000),(29,3,.c WQ [5000] [5000]),(31,0,.c Rd [5000] [5000]),(32,1,aW)]) [] aY ae9 bz [] ae8
theorem ae1{tb:Nat->Nat}{lc:Nat->Nat×ByteArray}(hU:sv lc)(Sd:∀i,tb i<18446744073709551616){K:cj}(hK:∀F,K.rd F->ic tb lc F):aC 117 (zj (zk tb lc) K):=
 ae7.view (fun x=>⟨x.s,tb,lc,zk tb lc⟩) (fun _=>rfl) (fun _=>rfl) (fun _ h=>⟨⟨h,hU,Sd⟩,rfl⟩) (fun _ F _ h=>hK F h) (fun _ y _ h=>by
  cases y with
  |inl u=>exact⟨.inl u,h,rfl,rfl⟩
  |inr u=>exact⟨.inr u,h,rfl,rfl⟩)
end
section
open Go
theorem alV{tb:Nat->Nat}{lc:Nat->Nat×ByteArray}(hU:sv lc)(Sd:∀i,tb i<18446744073709551616){K:cj}(hK:∀F,K.rd F->ic tb lc F)(hE:∀F,K.rd F->vk F)(hv:K.nv=me (Ly (zk tb lc))):aC 72 (pP K):=
 alM.view (fun x=>⟨K,Ly (zk tb lc),x.s⟩) (fun _=>rfl) (fun _=>rfl) (fun _ h=>⟨h,ams (ae1 hU Sd hK) aph hE⟩) (fun _ _ _ h=>h) (fun x _ _ _=>⟨(),ao,by show _=returned (.float .f64 (K.nv x.s));rw[hv];rfl,rfl⟩)
end
section
open Go
def qL(i:Int):Int:=(i*631305-261663).fdiv (2^min (Int.toNat 21) i64.bits)
def qx(i:Int):Int:=(i*78913).fdiv (2^min (Int.toNat 18) i64.bits)
def Fl:aR where
 X:=nP
 args x:=[ae x.i]
 cond x:= -100000<=x.i/\x.i<=100000
 val x _:=az (ae (qL x.i))
def BQ:aR where
 X:=nP
 args x:=[ae x.i]
 cond x:= -100000<=x.i/\x.i<=100000
 val x _:=az (ae (qx x.i))
theorem ao1(x:nP)(F:ai)(hc:Fl.cond x)(hr:Fl.aQ x F):((-9223372036854775808:Int)<=x.i*631305/\x.i*631305<=(9223372036854775807:Int))/\((-9223372036854775808:Int)<=x.i*631305-(261663:Int)/\x.i*631305-(261663:Int)<=(9223372036854775807:Int))/\aq Fl x F (az (ae ((x.i*631305-(261663:Int)).fdiv ((2:Int)^min (Int.toNat (21:Int)) i64.bits)))) [(0,F)]:=by
 delta ae az;have vN: -100000<=x.i/\x.i<=100000:=hc;exact⟨aJ,aJ,(),ao,rfl,aB [0]⟩
theorem ao0:aC 206 Fl:=fo 7 Tryz.func206 (fun _ _=>[]) [] aY aY bz [] ao1
theorem akt(x:nP)(F:ai)(hc:BQ.cond x)(hr:BQ.aQ x F):((-9223372036854775808:Int)<=x.i*78913/\x.i*78913<=(9223372036854775807:Int))/\aq BQ x F (az (ae ((x.i*78913).fdiv ((2:Int)^min (Int.toNat (18:Int)) i64.bits)))) [(0,F)]:=by
 delta ae az;have vN: -100000<=x.i/\x.i<=100000:=hc;exact⟨aJ,(),ao,rfl,aB [0]⟩
theorem K9:aC 185 BQ:=fo 6 Tryz.func185 (fun _ _=>[]) [] aY aY bz [] akt
structure Do where
 u:Int
 d:Int
def wd(x:Do):Int:=u64.wrap (x.u+u64.wrap x.d)
def BW:aR where
 X:=Do
 args x:=[aA x.u,ae x.d]
 val x _:=az (aA (wd x))
theorem alB(x:Do)(F:ai)(hc:BW.cond x)(hr:BW.aQ x F):aq BW x F (az (aA (bc (x.u+bc x.d)))) [(0,F)]:=by
 delta aA bc az;exact lJ
theorem aaM:aC 207 BW:=fo 9 Tryz.func207 (fun _ _=>[(1,2,aW),(1,3,aW)]) [] aY aY bz [] alB
def qj(u:Int):Int:=(u64.wrap (u+3)).fdiv (2^min (Int.toNat 2) u64.bits)
def vJ(u:Int):Int:=(u64.wrap (u+0)).fdiv (2^min (Int.toNat 2) u64.bits)
def Yr(_x:sB)(_F:ai):List (Nat×Nat×OH):=[(1,1,aW),(1,2,aW)]
theorem af9(x:sB)(F:ai)(hc:(jL qj).cond x)(hr:(jL qj).aQ x F):aq (jL qj) x F (az (aA ((bc (x.u+3)).fdiv ((2:Int)^min (Int.toNat (2:Int)) u64.bits)))) [(0,F)]:=by
 delta aA bc az;exact lJ
theorem af8:aC 208 (jL qj):=fo 6 Tryz.func208 Yr [] aY aY bz [] af9
theorem ahO(x:sB)(F:ai)(hc:(jL vJ).cond x)(hr:(jL vJ).aQ x F):aq (jL vJ) x F (az (aA ((bc (x.u+0)).fdiv ((2:Int)^min (Int.toNat (2:Int)) u64.bits)))) [(0,F)]:=by
 delta aA bc az;exact lJ
theorem ahN:aC 209 (jL vJ):=fo 6 Tryz.func209 Yr [] aY aY bz [] ahO
end
end Go.Proofs.YtdkchodgklpomaaGreatDoor
