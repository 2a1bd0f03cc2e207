/- Part of the proof that ParseJoins answers true at every input. -/
import Derived.Test.YtdkchodgklpomaaGreatDoorPJaf
set_option linter.all false
namespace Go.Proofs.YtdkchodgklpomaaGreatDoor
set_option maxRecDepth 100000
open Go.Value (int slice string bool pointer agg tuple func float iface nilIface)
open Go.IntKind (i64 u8 u64 i32 u32 u16 i8 i16)
open Go.FloatKind (f64)
open Go.Ending (returned panicked)
section
open Go
structure dt where
 i:Int
 m:Int
 nd:Int
 nm:Int
 dp:Int
 us:Bool
 tr:Bool
 sd:Bool
 sg:Bool
structure qx where
 m:Int
 e:Int
 n:Bool
 t:Bool
 h:Bool
 i:Int
 o:Bool
def e8(hx:Bool):Int:=bif hx then 16 else 10
def gx(hx:Bool):Int:=bif hx then 16 else 19
def hg(hx:Bool):Int:=bif hx then 112 else 101
def eP(c:Int):Bool:=bif decide (48<=c) then decide (c<=57) else false
def ur(hx:Bool)(c:Int):Bool:=bif (bif e8 hx==16 then decide (97<=eK c) else false) then decide (eK c<=102) else false
def SJ(hx:Bool)(m c:Int):Int:=u64.wrap (u64.wrap (m*e8 hx)+u64.wrap (u8.wrap (c-48)))
def XY(m c:Int):Int:=u64.wrap (u64.wrap (m*16)+u64.wrap (u8.wrap (u8.wrap (eK c-97)+10)))
def m8(s:ByteArray)(hx:Bool)(x:dt):Option dt:=
 bif aF s x.i==95 then some {x with us:=true,i:=x.i+1}
 else bif aF s x.i==46 then (bif x.sd then none else some {x with sd:=true,dp:=x.nd,i:=x.i+1})
 else bif eP (aF s x.i) then
  (bif (bif aF s x.i==48 then x.nd==0 else false) then some {x with sg:=true,dp:=x.dp-1,i:=x.i+1}
  else bif decide (x.nm<gx hx) then some {x with sg:=true,nd:=x.nd+1,m:=SJ hx x.m (aF s x.i),nm:=x.nm+1,i:=x.i+1}
  else some {x with sg:=true,nd:=x.nd+1,tr:=(bif aF s x.i !=48 then true else x.tr),i:=x.i+1})
 else bif ur hx (aF s x.i) then
  (bif decide (x.nm<gx hx) then some {x with sg:=true,nd:=x.nd+1,m:=XY x.m (aF s x.i),nm:=x.nm+1,i:=x.i+1}
  else some {x with sg:=true,nd:=x.nd+1,tr:=true,i:=x.i+1})
 else none
def qi(s:ByteArray)(hx:Bool):Nat->dt->dt
 |0,x=>x
 |f+1,x=>match m8 s hx x with|none=>x|some y=>qi s hx f y
def j_(s:ByteArray):Nat->Int->Int->Bool->Int×Int×Bool
 |0,i,e,us=>(i,e,us)
 |f+1,i,e,us=>bif aF s i==95 then j_ s f (i+1) e true else bif eP (aF s i) then j_ s f (i+1) (bif decide (e<10000) then e*10+aF s i-48 else e) us else (i,e,us)
def pn(s:ByteArray)(ng hx:Bool)(m:Int)(tr us:Bool)(i dp nm:Int):qx:=
 ⟨m,bif m !=0 then dp-nm else 0,ng,tr,hx,i,!(bif us then !(pq (s.extract 0 i.toNat)) else false)⟩
def Av(ng hx:Bool)(m:Int)(tr:Bool)(i:Int):qx:=⟨m,0,ng,tr,hx,i,false⟩
def sQ(s:ByteArray)(ng hx:Bool)(m:Int)(tr us:Bool)(i dp nm sg:Int):qx:=
 bif (bif (bif decide (i>=s.size) then true else decide (aF s i<48)) then true else decide (aF s i>57)) then Av ng hx m tr i
 else match j_ s ((s.size:Int)-i).toNat i 0 us with| (i3,e,a)=>pn s ng hx m tr a i3 (dp+e*sg) nm
def Au(s:ByteArray)(ng hx:Bool)(m:Int)(tr us:Bool)(i dp nm:Int):qx:=
 bif decide (i+1>=s.size) then Av ng hx m tr (i+1)
 else bif aF s (i+1)==43 then sQ s ng hx m tr us (i+1+1) dp nm 1
 else bif aF s (i+1)==45 then sQ s ng hx m tr us (i+1+1) dp nm (-1)
 else sQ s ng hx m tr us (i+1) dp nm 1
def qh(s:ByteArray)(hx:Bool)(i:Int):Bool:=bif decide (i<s.size) then eK (aF s i)==hg hx else false
def uq(s:ByteArray)(ng hx:Bool)(m:Int)(tr us:Bool)(i dp nm:Int):qx:=
 bif qh s hx i then Au s ng hx m tr us i dp nm
 else bif e8 hx==16 then Av ng hx m tr i
 else pn s ng hx m tr us i dp nm
def ye(s:ByteArray)(ng hx:Bool)(m:Int)(tr us:Bool)(i dp nm:Int):qx:=
 bif e8 hx==16 then uq s ng hx m tr us i (dp*4) (nm*4) else uq s ng hx m tr us i dp nm
def pm(s:ByteArray)(ng hx:Bool)(x:dt):qx:=
 bif !x.sg then Av ng hx x.m x.tr x.i
 else bif !x.sd then ye s ng hx x.m x.tr x.us x.i x.nd x.nm else ye s ng hx x.m x.tr x.us x.i x.dp x.nm
def bY(s:ByteArray):Bool:=bif aF s 0==43 then false else aF s 0==45
def c9(s:ByteArray):Int:=bif aF s 0==43 then 1 else bif aF s 0==45 then 1 else 0
def bp(s:ByteArray):Bool:=bif (bif decide (c9 s+2<s.size) then aF s (c9 s)==48 else false) then eK (aF s (c9 s+1))==120 else false
def mw(s:ByteArray):Int:=bif bp s then c9 s+2 else c9 s
def fk(s:ByteArray):qx:=
 bif decide (0>=(s.size:Int)) then Av false false 0 false 0
 else pm s (bY s) (bp s) (qi s (bp s) ((s.size:Int)-mw s).toNat ⟨mw s,0,0,0,0,false,false,false,false⟩)
def K0(r:qx):Value:=.tuple #[.int .u64 r.m,.int .i64 r.e,.bool r.n,.bool r.t,.bool r.h,.int .i64 r.i,.bool r.o]
def m9:aR where
 X:=bL
 args x:=[ai x.s]
 cond x:=x.s.size<=1000000000
 val x _:=ay (K0 (fk x.s))
structure cY where
 m:Int
 tr:Bool
 us:Bool
 i:Int
 dp:Int
 nm:Int
 sg:Int
 e:Int
def rD(x:bL)(ng hx:Bool)(m:Int)(tr:Bool)(i:Int)(us:Bool):List (Nat×Value):=[(0,.string x.s),(2,.int .u64 m),(3,.int .i64 0),(4,.bool ng),(5,.bool tr),(6,.bool hx),(7,.int .i64 i),(8,.bool false),(9,.bool us)]
def ut(hx:Bool):List (Nat×Value):=[(10,.int .u64 (e8 hx)),(11,.int .i64 (gx hx)),(12,.int .u8 (hg hx))]
def my(s:ByteArray)(x:dt):Prop:=0<=x.i/\x.i<=s.size/\0<=x.m/\x.m<=18446744073709551615/\0<=x.nd/\x.nd<=x.i/\ -x.i<=x.dp/\x.dp<=x.i/\0<=x.nm/\x.nm<=x.i
def oz(s:ByteArray)(x:cY):Prop:=0<=x.i/\x.i<=s.size/\0<=x.m/\x.m<=18446744073709551615/\ -5000000000<=x.dp/\x.dp<=5000000000/\0<=x.nm/\x.nm<=5000000000
def SK:(T:Type)×(dt->T):=⟨dt,fun d=>d⟩
def XZ:(T:Type)×(cY->T):=⟨cY,fun d=>d⟩
def KZ(x:bL)(d:dt):List (Nat×Value):=rD x (bY x.s) (bp x.s) d.m d.tr d.i d.us++ut (bp x.s)++[(13,.bool d.sd),(14,.bool d.sg),(15,.int .i64 d.nd),(16,.int .i64 d.nm),(17,.int .i64 d.dp)]
def mf(d:cY):=az d.m
def q_(d:cY):=ad d.i
def alZ(x:bL)(F:ah):Nat->Option Inv:=fun
 |9=>some {X:=Unit,P:=fun _=>0<x.s.size,mu:=fun _=>0,lv:=fun _=>rD x (bY x.s) false 0 false (c9 x.s) false,st:=fun _=>[F]}
 |13=>some {X:=Unit,P:=fun _=>0<x.s.size,mu:=fun _=>0,lv:=fun _=>rD x (bY x.s) false 0 false (c9 x.s) false++ut false++[(54,.bool (bp x.s))],st:=fun _=>[F]}
 |18=>some {X:=Unit,P:=fun _=>0<x.s.size,mu:=fun _=>0,lv:=fun _=>rD x (bY x.s) (bp x.s) 0 false (mw x.s) false++ut (bp x.s),st:=fun _=>[F]}
 |33=>some {X:=dt,gh:=some SK,P:=fun d=>my x.s d/\d.i<x.s.size,mu:=fun _=>0,lv:=fun d=>KZ x d++[(18,.int .u8 (aF x.s d.i)),(76,.bool (eP (aF x.s d.i)))],st:=fun _=>[F]}
 |44=>some {X:=dt,gh:=some SK,P:=fun d=>my x.s d/\d.i<x.s.size,mu:=fun _=>0,lv:=fun d=>KZ x d++[(18,.int .u8 (aF x.s d.i)),(109,.bool (ur (bp x.s) (aF x.s d.i)))],st:=fun _=>[F]}
 |51=>some {X:=dt,P:=fun d=>my x.s d/\fk x.s=pm x.s (bY x.s) (bp x.s) d,mu:=fun _=>0,lv:=fun d=>KZ x d,st:=fun _=>[F]}
 |54=>some {X:=cY,P:=fun d=>oz x.s d/\d.dp<=1000000000/\ -1000000000<=d.dp/\d.nm<=1000000000/\fk x.s=ye x.s (bY x.s) (bp x.s) d.m d.tr d.us d.i d.dp d.nm,mu:=fun _=>0,lv:=fun d=>rD x (bY x.s) (bp x.s) d.m d.tr d.i d.us++ut (bp x.s)++[(16,.int .i64 d.nm),(17,.int .i64 d.dp)],st:=fun _=>[F]}
 |57=>some {X:=cY,P:=fun d=>oz x.s d/\fk x.s=uq x.s (bY x.s) (bp x.s) d.m d.tr d.us d.i d.dp d.nm,mu:=fun _=>0,lv:=fun d=>rD x (bY x.s) (bp x.s) d.m d.tr d.i d.us++ut (bp x.s)++[(16,.int .i64 d.nm),(17,.int .i64 d.dp)],st:=fun _=>[F]}
 |58=>some {X:=cY,P:=fun d=>oz x.s d/\fk x.s=uq x.s (bY x.s) (bp x.s) d.m d.tr d.us d.i d.dp d.nm,mu:=fun _=>0,lv:=fun d=>rD x (bY x.s) (bp x.s) d.m d.tr d.i d.us++ut (bp x.s)++[(16,.int .i64 d.nm),(17,.int .i64 d.dp),(161,.bool (qh x.s (bp x.s) d.i))],st:=fun _=>[F]}
 |67=>some {X:=cY,P:=fun d=>oz x.s d/\(d.sg=1\/d.sg= -1)/\fk x.s=sQ x.s (bY x.s) (bp x.s) d.m d.tr d.us d.i d.dp d.nm d.sg,mu:=fun _=>0,lv:=fun d=>rD x (bY x.s) (bp x.s) d.m d.tr d.i d.us++ut (bp x.s)++[(16,.int .i64 d.nm),(17,.int .i64 d.dp),(19,.int .i64 d.sg)],st:=fun _=>[F]}
 |71=>some {X:=cY,gh:=some XZ,P:=fun d=>oz x.s d/\d.i<x.s.size/\(aF x.s d.i==95||eP (aF x.s d.i))=true,mu:=fun _=>0,lv:=fun d=>rD x (bY x.s) (bp x.s) d.m d.tr d.i d.us++ut (bp x.s)++[(16,.int .i64 d.nm),(17,.int .i64 d.dp),(19,.int .i64 d.sg),(20,.int .i64 d.e)],st:=fun _=>[F]}
 |75=>some {X:=cY,P:=fun d=>oz x.s d/\(d.sg=1\/d.sg= -1)/\0<=d.e/\d.e<=100100/\fk x.s=pn x.s (bY x.s) (bp x.s) d.m d.tr d.us d.i (d.dp+d.e*d.sg) d.nm,mu:=fun _=>0,lv:=fun d=>rD x (bY x.s) (bp x.s) d.m d.tr d.i d.us++ut (bp x.s)++[(16,.int .i64 d.nm),(17,.int .i64 d.dp),(19,.int .i64 d.sg),(20,.int .i64 d.e)],st:=fun _=>[F]}
 |77=>some {X:=cY,P:=fun d=>0<=d.i/\d.i<=x.s.size/\0<=d.nm/\d.nm<=5000000000/\ -6000000000<=d.dp/\d.dp<=6000000000/\fk x.s=pn x.s (bY x.s) (bp x.s) d.m d.tr d.us d.i d.dp d.nm,mu:=fun _=>0,lv:=fun d=>rD x (bY x.s) (bp x.s) d.m d.tr d.i d.us++[(16,.int .i64 d.nm),(17,.int .i64 d.dp)],st:=fun _=>[F]}
 |79=>some {X:=cY,P:=fun d=>0<=d.i/\d.i<=x.s.size/\fk x.s=⟨d.m,d.e,bY x.s,d.tr,bp x.s,d.i,!(bif d.us then !(pq (x.s.extract 0 d.i.toNat)) else false)⟩,mu:=fun _=>0,lv:=fun d=>[(0,ai x.s),(2,mf d),(3,ad d.e),(4,aj (bY x.s)),(5,aj d.tr),(6,aj (bp x.s)),(7,q_ d),(8,dk),(9,aj d.us)],st:=fun _=>[F]}
 |_=>none
def al0(x:bL)(F:ah):Nat->Option Inv:=fun
 |1=>some {X:=dt,P:=fun d=>my x.s d/\fk x.s=pm x.s (bY x.s) (bp x.s) (qi x.s (bp x.s) ((x.s.size:Int)-d.i).toNat d),mu:=fun d=>((x.s.size:Int)-d.i).toNat,lv:=fun d=>KZ x d,st:=fun _=>[F]}
 |5=>some {X:=cY,P:=fun d=>oz x.s d/\(d.sg=1\/d.sg= -1)/\0<=d.e/\d.e<=100100/\fk x.s=(match j_ x.s ((x.s.size:Int)-d.i).toNat d.i d.e d.us with| (i3,e,a)=>pn x.s (bY x.s) (bp x.s) d.m d.tr a i3 (d.dp+e*d.sg) d.nm),mu:=fun d=>((x.s.size:Int)-d.i).toNat,lv:=fun d=>rD x (bY x.s) (bp x.s) d.m d.tr d.i d.us++ut (bp x.s)++[(16,.int .i64 d.nm),(17,.int .i64 d.dp),(19,.int .i64 d.sg),(20,.int .i64 d.e)],st:=fun _=>[F]}
 |_=>none
def al1(b:bL)(a:ah):List (Nat×Nat×OH):=[(12,16,aX lF),(38,2,aW),(39,2,aW),(39,3,aW),(39,4,aW),(43,4,aX lF),(43,9,aX lF),(47,1,aW),(48,2,aX lF),(48,3,aW),(48,4,aW),(48,5,aW),(48,6,aW),(57,8,aX lF),(79,5,aX vV)]
noncomputable def X1:Func:={Tryz.f124 with body:=some (eO (fun _=>none) (hH Tryz.f124))}
def X2(x:bL):List (Nat×Value):=[(0,.string x.s)]
noncomputable def X3(x:aR.X m9)(F:ah):jj where
 op:=hk ((al1 x F)++[])
 y9:=al0 x F
 cut:=alZ x F
 zo:=(fun _=>[])
def BM:=(-9223372036854775808:Int)<=(0:Int)+(1:Int)/\(0:Int)+(1:Int)<=(9223372036854775807:Int)
def GF(e0:bL)(e1:ah)(v0 v1:Value)(a:St):=∃(z:Unit),0<e0.s.size/\(ai e0.s=ai e0.s/\az 0=az 0/\ad 0=ad 0/\v0=aj (bY e0.s)/\aj false=aj false/\aj false=aj false/\v1=ad (c9 e0.s)/\aj false=aj false/\aj false=aj false/\True)/\aE a [(0,e1)]
def B_:=ad ((0:Int)+(1:Int))
def QU(x:bL):=(-9223372036854775808:Int)<=c9 x.s+2/\c9 x.s+2<=(9223372036854775807:Int)
def GG(e0:bL)(e1:ah)(v0 v1 v2 v3:Value)(a:St):=∃(z:Unit),0<e0.s.size/\(ai e0.s=ai e0.s/\az 0=az 0/\ad 0=ad 0/\aj (bY e0.s)=aj (bY e0.s)/\aj false=aj false/\aj false=aj false/\ad (c9 e0.s)=ad (c9 e0.s)/\aj false=aj false/\aj false=aj false/\v0=az (e8 false)/\v1=ad (gx false)/\v2=ba (hg false)/\v3=aj (bp e0.s)/\True)/\aE a [(0,e1)]
def MU(e0:bL)(e1:ah)(v0 v1 v2 v3 v4:Value)(a:St):=∃(z:Unit),0<e0.s.size/\(ai e0.s=ai e0.s/\az 0=az 0/\ad 0=ad 0/\aj (bY e0.s)=aj (bY e0.s)/\aj false=aj false/\v0=aj (bp e0.s)/\v1=ad (mw e0.s)/\aj false=aj false/\aj false=aj false/\v2=az (e8 (bp e0.s))/\v3=ad (gx (bp e0.s))/\v4=ba (hg (bp e0.s))/\True)/\aE a [(0,e1)]
def IM(e0:bL)(z:dt):=my e0.s z/\fk e0.s=pm e0.s (bY e0.s) (bp e0.s) (qi e0.s (bp e0.s) (e0.s.size-z.i).toNat z)
def wQ(i:dt):=(-9223372036854775808:Int)<=i.i+1/\i.i+1<=(9223372036854775807:Int)
def OZ(e0:bL)(v0:Value)(z:dt)(v1 v2 v3 v4 v5 a b c:Value):=ai e0.s=ai e0.s/\v0=az z.m/\ad 0=ad 0/\aj (bY e0.s)=aj (bY e0.s)/\v1=aj z.tr/\aj (bp e0.s)=aj (bp e0.s)/\v2=ad z.i/\aj false=aj false/\v3=aj z.us/\az (e8 (bp e0.s))=az (e8 (bp e0.s))/\ad (gx (bp e0.s))=ad (gx (bp e0.s))/\ba (hg (bp e0.s))=ba (hg (bp e0.s))/\v4=aj z.sd/\v5=aj z.sg/\a=ad z.nd/\b=ad z.nm/\c=ad z.dp/\True
def we(e0:bL)(e1:ah)(v0 v1 v2 v3 v4 v5 b c d:Value)(a:St)(mm:Nat):=∃(z:dt),IM e0 z/\OZ e0 v0 z v1 v2 v3 v4 v5 b c d/\aE a [(0,e1)]/\(e0.s.size-z.i).toNat<mm
def qa(i:dt):=az i.m
def xs(i:dt):=ad (i.i+1)
def sH(l:dt):=ad l.nd
def p_(i:dt):=ad i.nm
def qZ(i:dt):=ad i.dp
def Tt(e0:bL)(e1:ah)(v0 v1 v2 v3 v4 v5 b c d:Value)(a:St):=∃(z:dt),(my e0.s z/\fk e0.s=pm e0.s (bY e0.s) (bp e0.s) z)/\OZ e0 v0 z v1 v2 v3 v4 v5 b c d/\aE a [(0,e1)]
def Im(x:bL)(F:ah)(l:dt):=Tt x F (qa l) (aj l.tr) (ad l.i) (aj l.us) (aj l.sd) (aj l.sg) (sH l) (p_ l) (qZ l) [(0,F)]
def E2(e0:bL)(z e1:dt):=(my e0.s z/\z.i<e0.s.size)/\SK.snd z=e1
def MV(e0:bL)(e1:dt)(b:ah)(v0 v1 v2 v3 v4 v5 d e f v9 a:Value)(c:St):=∃(z:dt),E2 e0 z e1/\(ai e0.s=ai e0.s/\v0=az z.m/\ad 0=ad 0/\aj (bY e0.s)=aj (bY e0.s)/\v1=aj z.tr/\aj (bp e0.s)=aj (bp e0.s)/\v2=ad z.i/\aj false=aj false/\v3=aj z.us/\az (e8 (bp e0.s))=az (e8 (bp e0.s))/\ad (gx (bp e0.s))=ad (gx (bp e0.s))/\ba (hg (bp e0.s))=ba (hg (bp e0.s))/\v4=aj z.sd/\v5=aj z.sg/\d=ad z.nd/\e=ad z.nm/\f=ad z.dp/\v9=ba (aF e0.s z.i)/\a=aj (eP (aF e0.s z.i))/\True)/\aE c [(0,b)]
def Rb(i:dt):=(-9223372036854775808:Int)<=i.nd+1/\i.nd+1<=(9223372036854775807:Int)
def Rc(i:dt):=(-9223372036854775808:Int)<=i.nm+1/\i.nm+1<=(9223372036854775807:Int)
def Py(i:dt)(x:bL)(F:ah)(l:dt):=wQ i/\we x F (qa i) (aj true) (xs i) (aj i.us) (aj i.sd) (aj true) (ad (i.nd+1)) (p_ i) (qZ i) [(0,F)] ((x.s.size-l.i).toNat)
def PS(i:dt)(x:bL)(F:ah)(l:dt):=Rb i/\aS (i.nm<gx (bp x.s)) (Rc i/\wQ i/\we x F (az (bd (bd (i.m*e8 (bp x.s))+bd (u8.wrap (aF x.s i.i-48))))) (aj i.tr) (xs i) (aj i.us) (aj i.sd) (aj true) (ad (i.nd+1)) (ad (i.nm+1)) (qZ i) [(0,F)] ((x.s.size-l.i).toNat)) (Br (aF x.s i.i !=48) (Py i x F l) (wQ i/\we x F (qa i) (aj i.tr) (xs i) (aj i.us) (aj i.sd) (aj true) (ad (i.nd+1)) (p_ i) (qZ i) [(0,F)] ((x.s.size-l.i).toNat)))
def MW(e0:bL)(e1:dt)(b:ah)(v0 v1 v2 v3 v4 v5 d e f v9 a:Value)(c:St):=∃(z:dt),E2 e0 z e1/\(ai e0.s=ai e0.s/\v0=az z.m/\ad 0=ad 0/\aj (bY e0.s)=aj (bY e0.s)/\v1=aj z.tr/\aj (bp e0.s)=aj (bp e0.s)/\v2=ad z.i/\aj false=aj false/\v3=aj z.us/\az (e8 (bp e0.s))=az (e8 (bp e0.s))/\ad (gx (bp e0.s))=ad (gx (bp e0.s))/\ba (hg (bp e0.s))=ba (hg (bp e0.s))/\v4=aj z.sd/\v5=aj z.sg/\d=ad z.nd/\e=ad z.nm/\f=ad z.dp/\v9=ba (aF e0.s z.i)/\a=aj (ur (bp e0.s) (aF e0.s z.i))/\True)/\aE c [(0,b)]
def Po(x:bL)(g:dt)(F:ah)(i:dt):=MW x g F (qa i) (aj i.tr) (ad i.i) (aj i.us) (aj i.sd) (aj i.sg) (sH i) (p_ i) (qZ i) (ba (aF x.s i.i)) (aj (true==false)) [(0,F)]
def PQ(e0:bL)(z:cY):=oz e0.s z/\z.dp<=1000000000/\(-1000000000:Int)<=z.dp/\z.nm<=1000000000/\fk e0.s=ye e0.s (bY e0.s) (bp e0.s) z.m z.tr z.us z.i z.dp z.nm
def OY(e0:bL)(v0:Value)(z:cY)(v1 v2 v3 v4 v5:Value):=ai e0.s=ai e0.s/\v0=az z.m/\ad 0=ad 0/\aj (bY e0.s)=aj (bY e0.s)/\v1=aj z.tr/\aj (bp e0.s)=aj (bp e0.s)/\v2=ad z.i/\aj false=aj false/\v3=aj z.us/\az (e8 (bp e0.s))=az (e8 (bp e0.s))/\ad (gx (bp e0.s))=ad (gx (bp e0.s))/\ba (hg (bp e0.s))=ba (hg (bp e0.s))/\v4=ad z.nm/\v5=ad z.dp/\True
def MX(e0:bL)(e1:ah)(v0 v1 v2 v3 v4 v5:Value)(a:St):=∃(z:cY),PQ e0 z/\OY e0 v0 z v1 v2 v3 v4 v5/\aE a [(0,e1)]
def Et(e0:bL)(z:cY):=oz e0.s z/\fk e0.s=uq e0.s (bY e0.s) (bp e0.s) z.m z.tr z.us z.i z.dp z.nm
def MY(e0:bL)(e1:ah)(v0 v1 v2 v3 v4 v5:Value)(a:St):=∃(z:cY),Et e0 z/\OY e0 v0 z v1 v2 v3 v4 v5/\aE a [(0,e1)]
def o6(g:cY):=ad g.nm
def p9(g:cY):=ad g.dp
def vm(g:cY)(x:bL):=0<=g.i/\g.i<x.s.size
def MZ(e0:bL)(e1:ah)(v0 v1 v2 v3 v4 v5 b:Value)(a:St):=∃(z:cY),Et e0 z/\(ai e0.s=ai e0.s/\v0=az z.m/\ad 0=ad 0/\aj (bY e0.s)=aj (bY e0.s)/\v1=aj z.tr/\aj (bp e0.s)=aj (bp e0.s)/\v2=ad z.i/\aj false=aj false/\v3=aj z.us/\az (e8 (bp e0.s))=az (e8 (bp e0.s))/\ad (gx (bp e0.s))=ad (gx (bp e0.s))/\ba (hg (bp e0.s))=ba (hg (bp e0.s))/\v4=ad z.nm/\v5=ad z.dp/\b=aj (qh e0.s (bp e0.s) z.i)/\True)/\aE a [(0,e1)]
def Ev(k:cY):=(-9223372036854775808:Int)<=k.i+1/\k.i+1<=(9223372036854775807:Int)
def QA(k:cY):=(-9223372036854775808:Int)<=k.i+1+(1:Int)/\k.i+1+(1:Int)<=(9223372036854775807:Int)
def Qp(e0:bL)(z:cY):=oz e0.s z/\(z.sg=1\/z.sg=(-1:Int))/\fk e0.s=sQ e0.s (bY e0.s) (bp e0.s) z.m z.tr z.us z.i z.dp z.nm z.sg
def GH(e0:bL)(e1:ah)(v0 v1 v2 v3 v4 v5 b:Value)(a:St):=∃(z:cY),Qp e0 z/\(ai e0.s=ai e0.s/\v0=az z.m/\ad 0=ad 0/\aj (bY e0.s)=aj (bY e0.s)/\v1=aj z.tr/\aj (bp e0.s)=aj (bp e0.s)/\v2=ad z.i/\aj false=aj false/\v3=aj z.us/\az (e8 (bp e0.s))=az (e8 (bp e0.s))/\ad (gx (bp e0.s))=ad (gx (bp e0.s))/\ba (hg (bp e0.s))=ba (hg (bp e0.s))/\v4=ad z.nm/\v5=ad z.dp/\b=ad z.sg/\True)/\aE a [(0,e1)]
def Ec(x:bL)(F:ah)(i:cY):=ar m9 x F (ay (tuple ⟨[az i.m,ad 0,aj (bY x.s),aj i.tr,aj (bp x.s),ad i.i,aj false]⟩)) [(0,F)]
def H4(e0:bL)(z:cY):=oz e0.s z/\(z.sg=1\/z.sg=(-1:Int))/\0<=z.e/\z.e<=100100/\(fk e0.s=match j_ e0.s (e0.s.size-z.i).toNat z.i z.e z.us with| (i3,e,a)=>pn e0.s (bY e0.s) (bp e0.s) z.m z.tr a i3 (z.dp+e*z.sg) z.nm)
def Rx(e0:bL)(z e1:cY):=(oz e0.s z/\z.i<e0.s.size/\(aF e0.s z.i==95||eP (aF e0.s z.i))=true)/\XZ.snd z=e1
def Ka(e0:bL)(v0:Value)(z:cY)(v1 v2 v3 v4 v5 a b:Value):=ai e0.s=ai e0.s/\v0=az z.m/\ad 0=ad 0/\aj (bY e0.s)=aj (bY e0.s)/\v1=aj z.tr/\aj (bp e0.s)=aj (bp e0.s)/\v2=ad z.i/\aj false=aj false/\v3=aj z.us/\az (e8 (bp e0.s))=az (e8 (bp e0.s))/\ad (gx (bp e0.s))=ad (gx (bp e0.s))/\ba (hg (bp e0.s))=ba (hg (bp e0.s))/\v4=ad z.nm/\v5=ad z.dp/\a=ad z.sg/\b=ad z.e/\True
def Tu(e0:bL)(e1:cY)(a:ah)(v0 v1 v2 v3 v4 v5 c d:Value)(b:St):=∃(z:cY),Rx e0 z e1/\Ka e0 v0 z v1 v2 v3 v4 v5 c d/\aE b [(0,a)]
def Q3(x:bL)(d:cY)(F:ah)(g:cY):=Tu x d F (mf g) (aj g.tr) (q_ g) (aj g.us) (o6 g) (p9 g) (ad g.sg) (ad g.e) [(0,F)]
def PY(e0:bL)(z:cY):=oz e0.s z/\(z.sg=1\/z.sg=(-1:Int))/\0<=z.e/\z.e<=100100/\fk e0.s=pn e0.s (bY e0.s) (bp e0.s) z.m z.tr z.us z.i (z.dp+z.e*z.sg) z.nm
def Tv(e0:bL)(e1:ah)(v0 v1 v2 v3 v4 v5 b c:Value)(a:St):=∃(z:cY),PY e0 z/\Ka e0 v0 z v1 v2 v3 v4 v5 b c/\aE a [(0,e1)]
def QH(x:bL)(F:ah)(g:cY):=Tv x F (mf g) (aj g.tr) (q_ g) (aj g.us) (o6 g) (p9 g) (ad g.sg) (ad g.e) [(0,F)]
def O0(g:cY)(x:bL)(d:cY)(F:ah):=vm g x/\Br (aF x.s g.i==95) (Q3 x d F g) (QH x F g)
def F0(e0:bL)(e1:ah)(v0 v1 v2 v3 v4 v5 b c:Value)(a:St)(mm:Nat):=∃(z:cY),H4 e0 z/\Ka e0 v0 z v1 v2 v3 v4 v5 b c/\aE a [(0,e1)]/\(e0.s.size-z.i).toNat<mm
def Pr(z:cY)(e0:bL):=0<=z.i/\z.i<=e0.s.size/\0<=z.nm/\z.nm<=5000000000/\(-6000000000:Int)<=z.dp/\z.dp<=6000000000/\fk e0.s=pn e0.s (bY e0.s) (bp e0.s) z.m z.tr z.us z.i z.dp z.nm
def Lr(e0:bL)(e1:ah)(v0 v1 v2 v3 v4 v5:Value)(a:St):=∃(z:cY),Pr z e0/\(ai e0.s=ai e0.s/\v0=az z.m/\ad 0=ad 0/\aj (bY e0.s)=aj (bY e0.s)/\v1=aj z.tr/\aj (bp e0.s)=aj (bp e0.s)/\v2=ad z.i/\aj false=aj false/\v3=aj z.us/\v4=ad z.nm/\v5=ad z.dp/\True)/\aE a [(0,e1)]
def P5(z:cY)(e0:bL):=0<=z.i/\z.i<=e0.s.size/\fk e0.s=⟨z.m,z.e,bY e0.s,z.tr,bp e0.s,z.i,!bif z.us then !pq (e0.s.extract 0 z.i.toNat) else false⟩
def Ls(e0:bL)(e1:ah)(v0 v1 v2 v3 v4:Value)(a:St):=∃(z:cY),P5 z e0/\(ai e0.s=ai e0.s/\v0=az z.m/\v1=ad z.e/\aj (bY e0.s)=aj (bY e0.s)/\v2=aj z.tr/\aj (bp e0.s)=aj (bp e0.s)/\v3=ad z.i/\aj false=aj false/\v4=aj z.us/\True)/\aE a [(0,e1)]
def P6(x:bL)(F:ah)(d:cY):=ar m9 x F (ay (tuple ⟨[az d.m,ad d.e,aj (bY x.s),aj d.tr,aj (bp x.s),ad d.i,aj true]⟩)) [(0,F)]
theorem al4(x:bL)(F:ah)(hc:m9.cond x)(hr:m9.aO x F):aS (0>=(x.s.size:Int)) (ar m9 x F (ay (tuple ⟨[az 0,ad 0,aj false,aj false,aj false,ad 0,aj false]⟩)) [(0,F)]) ((qR x/\Br (vk x) (BM/\GF x F dk B_ [(0,F)]) (Br (tU x) (BM/\GF x F (aj true) B_ [(0,F)]) (GF x F dk (ad 0) [(0,F)])))/\aT fun(u:Unit)_=>0<x.s.size->((QU x/\aS (c9 x.s+2<(x.s.size:Int)) ((0<=c9 x.s/\c9 x.s<x.s.size)/\Br (aF x.s (c9 x.s)==48) (((-9223372036854775808:Int)<=c9 x.s+1/\c9 x.s+1<=(9223372036854775807:Int))/\(0<=c9 x.s+1/\c9 x.s+1<(x.s.size:Int))/\nS [ba (aF x.s (c9 x.s+1))] (fun c b=>GG x F (az 10) (ad 19) (ba 101) (aj (eK c.c==120)) [(0,F)])) (GG x F (az 10) (ad 19) (ba 101) dk [(0,F)])) (GG x F (az 10) (ad 19) (ba 101) dk [(0,F)]))/\aT fun(c:Unit)_=>0<x.s.size->Br (bp x.s) (QU x/\MU x F (aj true) (ad (c9 x.s+2)) (az 16) (ad 16) (ba 112) [(0,F)]) (MU x F dk (ad (c9 x.s)) (az (e8 false)) (ad (gx false)) (ba (hg false)) [(0,F)]))/\aT fun(s:Unit)_=>0<x.s.size->((∃(a:dt),IM x a/\(ai x.s=ai x.s/\az 0=az a.m/\ad 0=ad 0/\aj (bY x.s)=aj (bY x.s)/\aj false=aj a.tr/\aj (bp x.s)=aj (bp x.s)/\ad (mw x.s)=ad a.i/\aj false=aj false/\aj false=aj a.us/\az (e8 (bp x.s))=az (e8 (bp x.s))/\ad (gx (bp x.s))=ad (gx (bp x.s))/\ba (hg (bp x.s))=ba (hg (bp x.s))/\aj false=aj a.sd/\aj false=aj a.sg/\ad 0=ad a.nd/\ad 0=ad a.nm/\ad 0=ad a.dp/\True)/\aE [(0,F)] [(0,F)])/\aT fun(l:dt)_=>IM x l->aS (l.i<x.s.size) ((0<=l.i/\l.i<x.s.size)/\Br (true==(aF x.s l.i==95)) (wQ l/\we x F (qa l) (aj l.tr) (xs l) (aj true) (aj l.sd) (aj l.sg) (sH l) (p_ l) (qZ l) [(0,F)] ((x.s.size-l.i).toNat)) (Br (true==(aF x.s l.i==46)) (Br l.sd (Im x F l) (wQ l/\we x F (qa l) (aj l.tr) (xs l) (aj l.us) (aj true) (aj l.sg) (sH l) (p_ l) (sH l) [(0,F)] ((x.s.size-l.i).toNat))) (∃(j:dt),aS (48<=aF x.s l.i) (MV x j F (qa l) (aj l.tr) (ad l.i) (aj l.us) (aj l.sd) (aj l.sg) (sH l) (p_ l) (qZ l) (ba (aF x.s l.i)) (aj (true==decide (aF x.s l.i<=57))) [(0,F)]) (MV x j F (qa l) (aj l.tr) (ad l.i) (aj l.us) (aj l.sd) (aj l.sg) (sH l) (p_ l) (qZ l) (ba (aF x.s l.i)) (aj (true==false)) [(0,F)])/\aT fun(i:dt)_=>E2 x i j->Br (eP (aF x.s i.i)) (Br (aF x.s i.i==48) (Br (i.nd==0) (((-9223372036854775808:Int)<=i.dp-1/\i.dp-1<=(9223372036854775807:Int))/\wQ i/\we x F (qa i) (aj i.tr) (xs i) (aj i.us) (aj i.sd) (aj true) (sH i) (p_ i) (ad (i.dp-1)) [(0,F)] ((x.s.size-l.i).toNat)) (PS i x F l)) (PS i x F l)) (∃(g:dt),Br (e8 (bp x.s)==16) (nS [ba (aF x.s i.i)] (fun f d=>aS (97<=eK f.c) (nS [ba (aF x.s i.i)] (fun c b=>MW x g F (qa i) (aj i.tr) (ad i.i) (aj i.us) (aj i.sd) (aj i.sg) (sH i) (p_ i) (qZ i) (ba (aF x.s i.i)) (aj (true==decide (eK c.c<=102))) [(0,F)])) (Po x g F i))) (Po x g F i)/\aT fun(f:dt)_=>E2 x f g->Br (ur (bp x.s) (aF x.s f.i)) (Rb f/\aS (f.nm<gx (bp x.s)) (nS [ba (aF x.s f.i)] (fun c b=>Rc f/\wQ f/\we x F (az (bd (bd (f.m*16)+bd (u8.wrap (u8.wrap (eK c.c-97)+10))))) (aj f.tr) (xs f) (aj f.us) (aj f.sd) (aj true) (ad (f.nd+1)) (ad (f.nm+1)) (qZ f) [(0,F)] ((x.s.size-l.i).toNat))) (Py f x F l)) (Im x F f))))) (Im x F l))/\aT fun(q:dt)_=>(my x.s q/\fk x.s=pm x.s (bY x.s) (bp x.s) q)->Br (!q.sg) (ar m9 x F (ay (tuple ⟨[az q.m,ad 0,aj (bY x.s),aj q.tr,aj (bp x.s),ad q.i,aj false]⟩)) [(0,F)]) (Br (!q.sd) (MX x F (qa q) (aj q.tr) (ad q.i) (aj q.us) (p_ q) (sH q) [(0,F)]) (MX x F (qa q) (aj q.tr) (ad q.i) (aj q.us) (p_ q) (qZ q) [(0,F)])/\aT fun(o:cY)_=>PQ x o->Br (e8 (bp x.s)==16) (((-9223372036854775808:Int)<=o.dp*4/\o.dp*4<=(9223372036854775807:Int))/\((-9223372036854775808:Int)<=o.nm*4/\o.nm*4<=(9223372036854775807:Int))/\MY x F (mf o) (aj o.tr) (q_ o) (aj o.us) (ad (o.nm*4)) (ad (o.dp*4)) [(0,F)]) (MY x F (mf o) (aj o.tr) (q_ o) (aj o.us) (o6 o) (p9 o) [(0,F)])/\aT fun(m:cY)_=>Et x m->(aS (m.i<x.s.size) (vm m x/\nS [ba (aF x.s m.i)] (fun c b=>MZ x F (mf m) (aj m.tr) (q_ m) (aj m.us) (o6 m) (p9 m) (aj (eK c.c==hg (bp x.s))) [(0,F)])) (MZ x F (mf m) (aj m.tr) (q_ m) (aj m.us) (o6 m) (p9 m) dk [(0,F)])/\aT fun(k:cY)_=>Et x k->Br (qh x.s (bp x.s) k.i) (Ev k/\aS (k.i+1>=(x.s.size:Int)) (ar m9 x F (ay (tuple ⟨[az k.m,ad 0,aj (bY x.s),aj k.tr,aj (bp x.s),ad (k.i+1),aj false]⟩)) [(0,F)]) (((0<=k.i+1/\k.i+1<(x.s.size:Int))/\Br (aF x.s (k.i+1)==43) (QA k/\GH x F (mf k) (aj k.tr) (ad (k.i+1+(1:Int))) (aj k.us) (o6 k) (p9 k) (ad 1) [(0,F)]) (Br (aF x.s (k.i+1)==45) (QA k/\GH x F (mf k) (aj k.tr) (ad (k.i+1+(1:Int))) (aj k.us) (o6 k) (p9 k) (ad (-1)) [(0,F)]) (GH x F (mf k) (aj k.tr) (ad (k.i+1)) (aj k.us) (o6 k) (p9 k) (ad 1) [(0,F)])))/\aT fun(i:cY)_=>Qp x i->aS (i.i>=x.s.size) (Ec x F i) (vm i x/\aS (aF x.s i.i<48) (Ec x F i) (vm i x/\aS (aF x.s i.i>57) (Ec x F i) (((∃(a:cY),H4 x a/\(ai x.s=ai x.s/\az i.m=az a.m/\ad 0=ad 0/\aj (bY x.s)=aj (bY x.s)/\aj i.tr=aj a.tr/\aj (bp x.s)=aj (bp x.s)/\ad i.i=ad a.i/\aj false=aj false/\aj i.us=aj a.us/\az (e8 (bp x.s))=az (e8 (bp x.s))/\ad (gx (bp x.s))=ad (gx (bp x.s))/\ba (hg (bp x.s))=ba (hg (bp x.s))/\ad i.nm=ad a.nm/\ad i.dp=ad a.dp/\ad i.sg=ad a.sg/\ad 0=ad a.e/\True)/\aE [(0,F)] [(0,F)])/\aT fun(g:cY)_=>H4 x g->∃(d:cY),aS (g.i<x.s.size) (vm g x/\aS (48<=aF x.s g.i) (vm g x/\aS (aF x.s g.i<=57) (Q3 x d F g) (O0 g x d F)) (O0 g x d F)) (QH x F g)/\aT fun(c:cY)_=>Rx x c d->vm c x/\Br (aF x.s c.i==95) (Ev c/\F0 x F (mf c) (aj c.tr) (ad (c.i+1)) (aj true) (o6 c) (p9 c) (ad c.sg) (ad c.e) [(0,F)] ((x.s.size-g.i).toNat)) (aS (c.e<10000) (((-9223372036854775808:Int)<=c.e*10/\c.e*10<=(9223372036854775807:Int))/\vm c x/\bK (aF x.s c.i)/\bK (c.e*10+aF x.s c.i)/\((-9223372036854775808:Int)<=c.e*10+aF x.s c.i-48/\c.e*10+aF x.s c.i-48<=(9223372036854775807:Int))/\Ev c/\F0 x F (mf c) (aj c.tr) (ad (c.i+1)) (aj c.us) (o6 c) (p9 c) (ad c.sg) (ad (c.e*10+aF x.s c.i-48)) [(0,F)] ((x.s.size-g.i).toNat)) (Ev c/\F0 x F (mf c) (aj c.tr) (ad (c.i+1)) (aj c.us) (o6 c) (p9 c) (ad c.sg) (ad c.e) [(0,F)] ((x.s.size-g.i).toNat))))/\aT fun(c:cY)_=>PY x c->bK (c.e*c.sg)/\bK (c.dp+c.e*c.sg)/\Lr x F (mf c) (aj c.tr) (q_ c) (aj c.us) (o6 c) (ad (c.dp+c.e*c.sg)) [(0,F)]))))) (Br (e8 (bp x.s)==16) (Ec x F k) (Lr x F (mf k) (aj k.tr) (q_ k) (aj k.us) (o6 k) (p9 k) [(0,F)])))/\aT fun(g:cY)_=>Pr g x->Br (g.m !=0) (bK (g.dp-g.nm)/\Ls x F (mf g) (ad (g.dp-g.nm)) (aj g.tr) (q_ g) (aj g.us) [(0,F)]) (Ls x F (mf g) (ad 0) (aj g.tr) (q_ g) (aj g.us) [(0,F)])/\aT fun(d:cY)_=>P5 d x->Br d.us (((0:Int)<=(0:Int)/\0<=d.i/\d.i<=x.s.size)/\aD 147 vV/\true=true/\∃(b:bL),[ai (x.s.extract (Int.toNat (0:Int)) d.i.toNat)]=[ai b.s]/\([]:List ah)=[]/\b.s.size<=1000000000/\True/\∀(a:Unit),True->Br (!pq b.s) (ar m9 x F (ay (tuple ⟨[az d.m,ad d.e,aj (bY x.s),aj d.tr,aj (bp x.s),ad d.i,aj false]⟩)) [(0,F)]) (P6 x F d)) (P6 x F d))):=by
 delta qR vk BM GF dk B_ tU QU nS GG MU IM wQ OZ we qa xs sH p_ qZ Tt Im E2 MV Rb Rc Py PS MW Po PQ OY MX Et MY mf q_ o6 p9 vm MZ Ev QA Qp GH Ec H4 Rx Ka Tu Q3 PY Tv QH O0 F0 Pr Lr P5 Ls P6 bK ad ba az ai aj bd aS ay aT;obtain⟨s⟩:=x;have hc:s.size<=1000000000:=hc;dsimp only;have v:aE [(0,F)] [(0,F)]:=aA [0];have fin:∀r:qx,fk s=r->ar m9 ⟨s⟩ F (returned (K0 r)) [(0,F)]:=fun r e=>
  ⟨(),ao,by show _=returned (K0 (fk s));rw[e],v⟩
 have hB:∀i,0<=aF s i/\aF s i<=255:=fun i=>by
  rw[gB];have:=hF s i.toNat;omega
 have hI:0<=c9 s/\c9 s<=1:=by
  unfold c9;grind
 have V:∀b:Bool,(true==b)=b:=fun b=>by cases b <;> rfl
 refine bo (fun h0=>fin (Av false false 0 false 0) (by unfold fk;grind)) (fun h0=>?_);have hV:fk s=pm s (bY s) (bp s) (qi s (bp s) ((s.size:Int)-mw s).toNat ⟨mw s,0,0,0,0,false,false,false,false⟩):=by unfold fk;grind
 have hp:0<s.size:=ae;have hJ:0<=mw s/\mw s<=s.size:=by
  unfold mw;cases hh:bp s with
  |true=>
   unfold bp at hh;grind
  |false=>rw[aN];omega
 refine⟨⟨⟨cE _,ae⟩,?_⟩,fun _ P _=>⟨⟨⟨aK,?_⟩,fun _ P _=>?_⟩,fun _ P _=>⟨⟨?_,?_⟩,?_⟩⟩⟩
 ·refine aG (fun h=>⟨aK,(),hp,?_,v⟩) (fun h=>aG (fun D=>⟨aK,(),hp,?_,v⟩) (fun D=>⟨(),hp,?_,v⟩))
  ·have a:bY s=false:=by unfold bY;simp[*]
   have b:c9 s=1:=by unfold c9;simp[*]
   simp[*]
  ·have a:bY s=true:=by unfold bY;simp[*]
   have b:c9 s=1:=by unfold c9;simp[*]
   simp[*]
  ·have a:bY s=false:=by unfold bY;simp[*]
   have b:c9 s=0:=by unfold c9;simp[*]
   simp[*]
 ·refine bo (fun h=>⟨⟨hI.1,ae⟩,aG (fun D=>⟨aK,aK,qM,rfl,⟨_⟩,rfl,rfl,ao,ao,fun _ _=>⟨(),hp,?_,v⟩⟩) (fun D=>⟨(),hp,?_,v⟩)⟩) (fun h=>⟨(),hp,?_,v⟩)
  ·have a:bp s=(eK (aF s (c9 s+1))==120):=by unfold bp;simp[*]
   rw[a];exact(by(repeat refine⟨rfl,?_⟩);omega)
  ·have a:bp s=false:=by unfold bp;simp[*]
   rw[a];exact(by(repeat refine⟨rfl,?_⟩);simp[*])
  ·have a:bp s=false:=by unfold bp;simp[*]
   rw[a];exact(by(repeat refine⟨rfl,?_⟩);simp[*])
 ·refine aG (fun h=>⟨aK,(),hp,?_,v⟩) (fun h=>⟨(),hp,?_,v⟩)
  ·have b:mw s=c9 s+2:=by unfold mw;simp[*]
   rw[b,show bp s=true from h];exact(by(repeat refine⟨rfl,?_⟩);simp[*])
  ·have b:mw s=c9 s:=by unfold mw;simp[*]
   simp[*]
 ·exact⟨⟨mw s,0,0,0,0,false,false,false,false⟩,⟨⟨hJ.1,hJ.2,by simp[*],by simp[*],by simp[*],hJ.1,by simp[*],hJ.1,by simp[*],hJ.1⟩,hV⟩,(by simp[*]),v⟩
 ·generalize U0:bp s=hx;generalize U5:bY s=ng;rw[U0,U5]at hV;intro d P hd;obtain⟨M,p⟩:=hd;have aep:=M;obtain⟨k1,k2,k3,t,w,A,B,C,U,Vm⟩:=aep;have L:qi s hx ((s.size:Int)-d.i).toNat d=d->∃(H:dt),(my s H/\fk s=pm s ng hx H)/\(string s=string s/\int .u64 d.m=int .u64 H.m/\int .i64 0=int .i64 0/\bool ng=bool ng/\bool d.tr=bool H.tr/\bool hx=bool hx/\int .i64 d.i=int .i64 H.i/\bool false=bool false/\bool d.us=bool H.us/\int .u64 (e8 hx)=int .u64 (e8 hx)/\int .i64 (gx hx)=int .i64 (gx hx)/\int .u8 (hg hx)=int .u8 (hg hx)/\bool d.sd=bool H.sd/\bool d.sg=bool H.sg/\int .i64 d.nd=int .i64 H.nd/\int .i64 d.nm=int .i64 H.nm/\int .i64 d.dp=int .i64 H.dp/\True)/\aE [(0,F)] [(0,F)]:=fun e=>⟨d,⟨M,by rw[p,e]⟩,(by simp[*]),v⟩;refine bo (fun O=>?_) (fun Hj=>L ?_)
  ·obtain⟨k,hk⟩:∃k,((s.size:Int)-d.i).toNat=k+1:=⟨((s.size:Int)-d.i).toNat-1,ae⟩;have S:m8 s hx d=none->qi s hx ((s.size:Int)-d.i).toNat d=d:=fun e=>by rw[hk,qi,e]
   rw[hk]at p;have X:∀N:dt,m8 s hx d=some N->my s N->N.i=d.i+1->∃(y:dt),(my s y/\fk s=pm s ng hx (qi s hx ((s.size:Int)-y.i).toNat y))/\(string s=string s/\int .u64 N.m=int .u64 y.m/\int .i64 0=int .i64 0/\bool ng=bool ng/\bool N.tr=bool y.tr/\bool hx=bool hx/\int .i64 N.i=int .i64 y.i/\bool false=bool false/\bool N.us=bool y.us/\int .u64 (e8 hx)=int .u64 (e8 hx)/\int .i64 (gx hx)=int .i64 (gx hx)/\int .u8 (hg hx)=int .u8 (hg hx)/\bool N.sd=bool y.sd/\bool N.sg=bool y.sg/\int .i64 N.nd=int .i64 y.nd/\int .i64 N.nm=int .i64 y.nm/\int .i64 N.dp=int .i64 y.dp/\True)/\aE [(0,F)] [(0,F)]/\((s.size:Int)-y.i).toNat<((s.size:Int)-d.i).toNat:=fun N e1 T e3=>
    ⟨N,⟨T,by rw[p,qi,e1,show((s.size:Int)-N.i).toNat=k by omega]⟩,(by simp[*]),v,ae⟩
   have G: -9223372036854775808<=d.i+1/\d.i+1<=9223372036854775807:=aK;refine⟨⟨k1,O⟩,aG (fun I=>⟨G,?_⟩) (fun I=>aG (fun D=>aG (fun J=>?_) (fun J=>⟨G,?_⟩)) (fun D=>?_))⟩
   ·have I:(aF s d.i==95)=true:=(V _).symm.trans I;exact X ⟨d.i+1,d.m,d.nd,d.nm,d.dp,true,d.tr,d.sd,d.sg⟩ (by unfold m8;simp[*]) ⟨by grind,by grind,k3,t,w,by grind,by grind,by grind,U,by grind⟩ rfl
   ·have I:(aF s d.i==95)=false:=(V _).symm.trans I;have D:(aF s d.i==46)=true:=(V _).symm.trans D;exact L (S (by unfold m8;simp[*]))
   ·have I:(aF s d.i==95)=false:=(V _).symm.trans I;have D:(aF s d.i==46)=true:=(V _).symm.trans D;exact X ⟨d.i+1,d.m,d.nd,d.nm,d.nd,d.us,d.tr,true,d.sg⟩ (by unfold m8;simp[*]) ⟨by grind,by grind,k3,t,w,by grind,by grind,by grind,U,by grind⟩ rfl
   have I:(aF s d.i==95)=false:=(V _).symm.trans I;have D:(aF s d.i==46)=false:=(V _).symm.trans D;refine⟨(d:dt),?_,?_⟩
   ·refine aG (fun q=>⟨d,⟨⟨M,O⟩,rfl⟩,?_,v⟩) (fun q=>⟨d,⟨⟨M,O⟩,rfl⟩,?_,v⟩)
    ·have:eP (aF s d.i)=(true==decide (aF s d.i<=57)):=by unfold eP;simp[*]
     simp[*]
    ·have:eP (aF s d.i)=(true==false):=by unfold eP;simp[*]
     simp[*]
   intro n js' W;obtain⟨_,Q⟩:=W;have Q:n=d:=Q;subst Q;refine aG (fun J=>?_) (fun J=>?_)
   ·have J:eP (aF s n.i)=true:=J;have h48:48<=aF s n.i/\aF s n.i<=57:=by
     unfold eP at J;grind
    have VE: -9223372036854775808<=n.nd+1/\n.nd+1<=9223372036854775807:=aK;have VG: -9223372036854775808<=n.nm+1/\n.nm+1<=9223372036854775807:=aK;have yK:(bif aF s n.i==48 then n.nd==0 else false)=false->∀(K:decide (n.nm<gx hx)=true),m8 s hx n=some ⟨n.i+1,SJ hx n.m (aF s n.i),n.nd+1,n.nm+1,n.dp,n.us,n.tr,n.sd,true⟩:=fun e K=>by unfold m8;simp[*]
    have low:(bif aF s n.i==48 then n.nd==0 else false)=false->∀(K:decide (n.nm<gx hx)=false),m8 s hx n=some ⟨n.i+1,n.m,n.nd+1,n.nm,n.dp,n.us,(bif aF s n.i !=48 then true else n.tr),n.sd,true⟩:=fun e K=>by unfold m8;simp[*]
    have okB:my s ⟨n.i+1,SJ hx n.m (aF s n.i),n.nd+1,n.nm+1,n.dp,n.us,n.tr,n.sd,true⟩:=⟨by grind,by grind,(gf _).1,(gf _).2,by grind,by simp[*],by grind,by grind,by grind,by simp[*]⟩;have okL:∀b,my s ⟨n.i+1,n.m,n.nd+1,n.nm,n.dp,n.us,b,n.sd,true⟩:=fun b=>⟨by grind,by grind,k3,t,by grind,by simp[*],by grind,by grind,U,by grind⟩;refine aG (fun K=>aG (fun Y=>⟨aK,G,?_⟩) (fun Y=>⟨VE,aG (fun Z=>⟨VG,G,?_⟩) (fun Z=>aG (fun h7=>⟨G,?_⟩) (fun h7=>⟨G,?_⟩))⟩)) (fun K=>⟨VE,aG (fun Z=>⟨VG,G,?_⟩) (fun Z=>aG (fun h7=>⟨G,?_⟩) (fun h7=>⟨G,?_⟩))⟩)
    ·exact X ⟨n.i+1,n.m,n.nd,n.nm,n.dp-1,n.us,n.tr,n.sd,true⟩ (by unfold m8;simp[*]) ⟨by grind,by grind,k3,t,w,by grind,by grind,by grind,U,by grind⟩ rfl
    ·exact X _ (yK (by simp[*]) Z) okB rfl
    ·grind
    ·grind
    ·exact X _ (yK (by simp[*]) Z) okB rfl
    all_goals grind
   ·have J:eP (aF s n.i)=false:=J;refine⟨(n:dt),?_,?_⟩
    ·refine aG (fun q=>⟨qM,rfl,⟨_⟩,rfl,rfl,ao,ao,fun _ _=>aG (fun q2=>⟨qM,rfl,⟨_⟩,rfl,rfl,ao,ao,fun _ _=>⟨n,⟨⟨M,O⟩,rfl⟩,?_,v⟩⟩) (fun q2=>⟨n,⟨⟨M,O⟩,rfl⟩,?_,v⟩)⟩) (fun q=>⟨n,⟨⟨M,O⟩,rfl⟩,?_,v⟩)
     ·have:ur hx (aF s n.i)=(true==decide (eK (aF s n.i)<=102)):=by unfold ur;rw[show(e8 hx==16)=true from q,show decide (97<=eK (aF s n.i))=true from q2,V];rfl
      rw[this];exact(by(repeat refine⟨rfl,?_⟩);omega)
     ·have:ur hx (aF s n.i)=(true==false):=by unfold ur;rw[show(e8 hx==16)=true from q,show decide (97<=eK (aF s n.i))=false from q2];rfl
      simp[*]
     ·have:ur hx (aF s n.i)=(true==false):=by unfold ur;simp[*]
      simp[*]
    intro z amR adY;obtain⟨_,Q⟩:=adY;have Q:z=n:=Q;subst Q;refine aG (fun K=>?_) (fun K=>L (S (by unfold m8;simp[*])));refine⟨aK,aG (fun Y=>⟨qM,rfl,⟨_⟩,rfl,rfl,ao,ao,fun _ _=>⟨aK,G,?_⟩⟩) (fun Y=>⟨G,?_⟩)⟩
    ·exact X ⟨z.i+1,XY z.m (aF s z.i),z.nd+1,z.nm+1,z.dp,z.us,z.tr,z.sd,true⟩ (by unfold m8;simp[*]) ⟨by grind,by grind,(gf _).1,(gf _).2,by grind,by simp[*],by grind,by grind,by grind,by simp[*]⟩ rfl
    ·exact X ⟨z.i+1,z.m,z.nd+1,z.nm,z.dp,z.us,true,z.sd,true⟩ (by unfold m8;simp[*]) ⟨by grind,by grind,k3,t,by grind,by simp[*],by grind,by grind,U,by grind⟩ rfl
  ·rw[show((s.size:Int)-d.i).toNat=0 by omega,qi]
 ·generalize U0:bp s=hx;generalize U5:bY s=ng;intro d P hd;obtain⟨⟨k1,k2,k3,t,w,A,B,C,U,Vm⟩,p⟩:=hd;refine aG (fun h=>fin ⟨d.m,0,ng,d.tr,hx,d.i,false⟩ (by rw[p];unfold pm;rw[show(!d.sg)=true from h];rfl)) (fun h=>⟨aG (fun D=>⟨⟨d.m,d.tr,d.us,d.i,d.nd,d.nm,0,0⟩,⟨⟨k1,k2,k3,t,by grind,by grind,U,by grind⟩,by grind,by grind,by grind,by rw[p];unfold pm;simp[*]⟩,(by simp[*]),v⟩) (fun D=>⟨⟨d.m,d.tr,d.us,d.i,d.dp,d.nm,0,0⟩,⟨⟨k1,k2,k3,t,by grind,by grind,U,by grind⟩,by grind,by grind,by grind,by rw[p];unfold pm;simp[*]⟩,(by simp[*]),v⟩),?_⟩);clear p k1 k2 k3 t w A B C U Vm h;rintro⟨m,tr,us,i,dp,nm,sg,e⟩ P ⟨⟨k1,k2,k3,t,w,A,B,C⟩,j1,j2,j3,p⟩;dsimp only at k1 k2 k3 t w A B C j1 j2 j3 p⊢;refine⟨aG (fun h=>⟨aK,aK,⟨m,tr,us,i,dp*4,nm*4,0,0⟩,⟨⟨k1,k2,k3,t,by grind,by grind,by grind,by grind⟩,by rw[p];unfold ye;simp[*]⟩,(by simp[*]),v⟩) (fun h=>⟨⟨m,tr,us,i,dp,nm,0,0⟩,⟨⟨k1,k2,k3,t,w,A,B,C⟩,by rw[p];unfold ye;simp[*]⟩,(by simp[*]),v⟩),?_⟩;clear p k1 k2 k3 t w A B C j1 j2 j3;rintro⟨m,tr,us,i,dp,nm,sg,e⟩ P ⟨⟨k1,k2,k3,t,w,A,B,C⟩,p⟩;dsimp only at k1 k2 k3 t w A B C p⊢;have R:∀sg e,oz s ⟨m,tr,us,i,dp,nm,sg,e⟩:=fun _ _=>⟨k1,k2,k3,t,w,A,B,C⟩;refine⟨⟨bo (fun h=>⟨⟨k1,h⟩,qM,rfl,⟨_⟩,rfl,rfl,ao,ao,fun _ _=>⟨⟨m,tr,us,i,dp,nm,0,0⟩,⟨R 0 0,p⟩,?_,v⟩⟩) (fun h=>⟨⟨m,tr,us,i,dp,nm,0,0⟩,⟨R 0 0,p⟩,?_,v⟩),?_⟩,?_⟩
  ·have:qh s hx i=(eK (aF s i)==hg hx):=by unfold qh;simp[*]
   dsimp only;rw[this];exact(by(repeat refine⟨rfl,?_⟩);omega)
  ·have:qh s hx i=false:=by unfold qh;simp[*]
   simp[*]
  ·clear p k1 k2 k3 t w A B C R;rintro⟨m,tr,us,i,dp,nm,sg,e⟩ P ⟨⟨k1,k2,k3,t,w,A,B,C⟩,p⟩;dsimp only at k1 k2 k3 t w A B C p⊢;refine aG (fun h=>?_) (fun h=>aG (fun D=>fin ⟨m,0,ng,tr,hx,i,false⟩ (by rw[p];unfold uq;rw[show qh s hx i=false from h,show(e8 hx==16)=true from D];rfl)) (fun D=>⟨⟨m,tr,us,i,dp,nm,0,0⟩,⟨k1,k2,B,C,by grind,by grind,by rw[p];unfold uq;simp[*]⟩,(by simp[*]),v⟩));have p:fk s=Au s ng hx m tr us i dp nm:=by rw[p];unfold uq;simp[*]
   have hil:i<s.size:=by
    have h:qh s hx i=true:=h;unfold qh at h;grind
   refine⟨aK,bo (fun I=>fin ⟨m,0,ng,tr,hx,i+1,false⟩ (by rw[p];unfold Au;rw[bw I];rfl)) (fun I=>⟨⟨aK,aG (fun D=>⟨aK,⟨m,tr,us,i+1+1,dp,nm,1,0⟩,⟨⟨by grind,by grind,k3,t,w,A,B,C⟩,.inl rfl,by rw[p];unfold Au;simp[*]⟩,(by simp[*]),v⟩) (fun D=>aG (fun J=>⟨aK,⟨m,tr,us,i+1+1,dp,nm,-1,0⟩,⟨⟨by grind,by grind,k3,t,w,A,B,C⟩,.inr rfl,by rw[p];unfold Au;simp[*]⟩,(by simp[*]),v⟩) (fun J=>⟨⟨m,tr,us,i+1,dp,nm,1,0⟩,⟨⟨by grind,by grind,k3,t,w,A,B,C⟩,.inl rfl,by rw[p];unfold Au;simp[*]⟩,(by simp[*]),v⟩))⟩,?_⟩)⟩;clear p k1 k2 k3 t w A B C h I hil;rintro⟨m,tr,us,i,dp,nm,sg,e⟩ P ⟨⟨k1,k2,k3,t,w,A,B,C⟩,E,p⟩;dsimp only at k1 k2 k3 t w A B C E p⊢;refine bo (fun I=>fin ⟨m,0,ng,tr,hx,i,false⟩ (by rw[p];unfold sQ;rw[bw I];rfl)) (fun I=>⟨⟨k1,ae⟩,bo (fun D=>fin ⟨m,0,ng,tr,hx,i,false⟩ (by rw[p];unfold sQ;rw[bF I,bw D];rfl)) (fun D=>⟨⟨k1,ae⟩,bo (fun J=>fin ⟨m,0,ng,tr,hx,i,false⟩ (by rw[p];unfold sQ;rw[bF I,bF D,bw J];rfl)) (fun J=>?_)⟩)⟩);have p:fk s=(match j_ s ((s.size:Int)-i).toNat i 0 us with| (i3,e,us3)=>pn s ng hx m tr us3 i3 (dp+e*sg) nm):=by rw[p];unfold sQ;simp[*]
   refine⟨⟨⟨⟨m,tr,us,i,dp,nm,sg,0⟩,⟨⟨k1,k2,k3,t,w,A,B,C⟩,E,by simp[*],by simp[*],p⟩,(by simp[*]),v⟩,?_⟩,?_⟩
   ·clear p k1 k2 k3 t w A B C I D J E;rintro⟨m,tr,us,i,dp,nm,sg,e⟩ P ⟨⟨k1,k2,k3,t,w,A,B,C⟩,E,e1,T,p⟩;dsimp only at k1 k2 k3 t w A B C E e1 T p⊢;refine⟨(⟨m,tr,us,i,dp,nm,sg,e⟩:cY),?_,?_⟩
    ·have R:oz s ⟨m,tr,us,i,dp,nm,sg,e⟩:=⟨k1,k2,k3,t,w,A,B,C⟩;have out:(∀k,((s.size:Int)-i).toNat=k+1->(aF s i==95)=false/\eP (aF s i)=false)->fk s=pn s ng hx m tr us i (dp+e*sg) nm:=fun h=>by
      rw[p];cases hk:((s.size:Int)-i).toNat with
      |zero=>rfl
      |succ k=>
       rw[j_,(h k hk).1,(h k hk).2];rfl
     have dg:(48<=aF s i)->(aF s i<=57)->eP (aF s i)=true:=fun a b=>by unfold eP;simp[*]
     have nd1:¬(48<=aF s i)->eP (aF s i)=false:=fun a=>by unfold eP;simp[*]
     have nd2:¬(aF s i<=57)->eP (aF s i)=false:=fun a=>by unfold eP;rw[bF a];cases decide (48<=aF s i) <;> rfl
     refine bo (fun h=>⟨⟨k1,h⟩,bo (fun D=>⟨⟨k1,h⟩,bo (fun J=>⟨⟨m,tr,us,i,dp,nm,sg,e⟩,⟨⟨R,h,by simp[*]⟩,rfl⟩,(by simp[*]),v⟩) (fun J=>⟨⟨k1,h⟩,aG (fun K=>⟨⟨m,tr,us,i,dp,nm,sg,e⟩,⟨⟨R,h,by simp[*]⟩,rfl⟩,(by simp[*]),v⟩) (fun K=>⟨⟨m,tr,us,i,dp,nm,sg,e⟩,⟨R,E,e1,T,out fun k hk=>⟨K,nd2 J⟩⟩,(by simp[*]),v⟩)⟩)⟩) (fun D=>⟨⟨k1,h⟩,aG (fun K=>⟨⟨m,tr,us,i,dp,nm,sg,e⟩,⟨⟨R,h,by simp[*]⟩,rfl⟩,(by simp[*]),v⟩) (fun K=>⟨⟨m,tr,us,i,dp,nm,sg,e⟩,⟨R,E,e1,T,out fun k hk=>⟨K,nd1 D⟩⟩,(by simp[*]),v⟩)⟩)⟩) (fun h=>⟨⟨m,tr,us,i,dp,nm,sg,e⟩,⟨R,E,e1,T,out fun k hk=>ae⟩,(by simp[*]),v⟩)
    ·intro n js' W;obtain⟨⟨_,hl,hdg⟩,Q⟩:=W;have Q:n=⟨m,tr,us,i,dp,nm,sg,e⟩:=Q;subst Q;dsimp only at hl hdg⊢;obtain⟨k,hk⟩:∃k,((s.size:Int)-i).toNat=k+1:=⟨((s.size:Int)-i).toNat-1,ae⟩;rw[hk,j_]at p;have hk1:((s.size:Int)-(i+1)).toNat=k:=ae;refine⟨⟨k1,hl⟩,aG (fun K=>⟨aK,⟨m,tr,true,i+1,dp,nm,sg,e⟩,⟨⟨by grind,by grind,k3,t,w,A,B,C⟩,E,e1,T,by grind⟩,(by simp[*]),v,by simp[*]⟩) (fun K=>?_)⟩;have K:(aF s i==95)=false:=K;have hD:eP (aF s i)=true:=by grind
     have h48:48<=aF s i/\aF s i<=57:=by
      unfold eP at hD;grind
     refine bo (fun Y=>⟨aK,⟨k1,hl⟩,aK,aK,aK,aK,⟨m,tr,us,i+1,dp,nm,sg,e*10+aF s i-48⟩,⟨⟨by grind,by grind,k3,t,w,A,B,C⟩,E,by grind,by grind,by grind⟩,(by simp[*]),v,by simp[*]⟩) (fun Y=>⟨aK,⟨m,tr,us,i+1,dp,nm,sg,e⟩,⟨⟨by grind,by grind,k3,t,w,A,B,C⟩,E,e1,T,by grind⟩,(by simp[*]),v,by simp[*]⟩)
   ·clear p k1 k2 k3 t w A B C I D J E;rintro⟨m,tr,us,i,dp,nm,sg,e⟩ P ⟨⟨k1,k2,k3,t,w,A,B,C⟩,E,e1,T,p⟩;dsimp only at k1 k2 k3 t w A B C E e1 T p⊢;have hes: -100100<=e*sg/\e*sg<=100100:=by
     grind
    generalize e*sg=es at*;exact⟨aK,aK,⟨m,tr,us,i,dp+es,nm,0,0⟩,⟨k1,k2,B,C,by grind,by grind,p⟩,(by simp[*]),v⟩
  ·clear p k1 k2 k3 t w A B C R;rintro⟨m,tr,us,i,dp,nm,sg,e⟩ P ⟨k1,k2,k3,t,w,A,p⟩;dsimp only at k1 k2 k3 t w A p⊢;refine⟨aG (fun h=>⟨aK,⟨m,tr,us,i,0,0,0,dp-nm⟩,⟨k1,k2,by rw[p];unfold pn;simp[*]⟩,(by simp[*]),v⟩) (fun h=>⟨⟨m,tr,us,i,0,0,0,0⟩,⟨k1,k2,by rw[p];unfold pn;simp[*]⟩,(by simp[*]),v⟩),?_⟩;clear p k1 k2 k3 t w A;rintro⟨m,tr,us,i,dp,nm,sg,e⟩ P ⟨k1,k2,p⟩;dsimp only at k1 k2 p⊢;refine aG (fun h=>⟨⟨cE _,k1,k2⟩,amk,rfl,⟨s.extract 0 i.toNat⟩,rfl,rfl,by show(s.extract 0 i.toNat).size<=_;rw[hT];omega,ao,fun _ _=>aG (fun D=>fin ⟨m,e,ng,tr,hx,i,false⟩ (by grind)) (fun D=>fin ⟨m,e,ng,tr,hx,i,true⟩ (by grind))⟩) (fun h=>fin ⟨m,e,ng,tr,hx,i,true⟩ (by grind))
theorem al2(x:aR.X m9)(F:ah)(a:m9.cond x)(b:m9.aO x F):qp Tryz.prog 253 X1 (X3 x F) [] (hH X1) (nh (aR.args m9 x)) (bC (aR.pre m9 x++[F])) (X2 x) (ar m9 x F):=
 Eq.mpr bl (al4 x F a b)
theorem al3:aD 124 m9:=
 adz (N:=253) bl (c:=hH Tryz.f124) Tryz.func124 bl bl (fun _=>Nat.le_of_ble_eq_true rfl) bl bl bl X3 [] X2 (fun _ h=>nomatch h) al2
end
section
open Go
structure ST where
 b:Nat
 s:ByteArray
 vs:List Value
def DB(e:TypeId):aR where
 X:=ST
 args x:=[au (some ⟨x.b,0,none⟩) x.s.size x.s.size,ai x.s]
 pre x:=[af x.b x.vs e]
 cond x:=x.vs.length=x.s.size
 val x _:=ay (ad x.s.size)
 post x _:=[af x.b (Lib.strCells x.s++[]) e]
theorem ab7{P:Program}{o:Oper}{d s:Operand}{t t' e:TypeId}{c:TypeInfo}(n:o.op= .call {callee:=.builtin .copy,args:=#[d,s],argTypes:=#[t,t']})
  (v:P.underlying t=some (.slice e)) (hi:P.info? e=some c) (hk:c.size=1):e_ P o (DB e):=by
 refine⟨fun x F I w ρ l m y hs=>?_⟩;obtain⟨b,str,vs⟩:=x;have m:vs.length=str.size:=m;simp only[n,Op.operands,Call.operands,DB]at l;have h:ρ d= .slice (some ⟨b,0,none⟩) str.size str.size/\ρ s= .string str:=by simpa using l
 obtain⟨wy,i⟩:=h;have f:w.heap[b]?=some (.cells ⟨vs⟩ e (0,0)):=hs.cells (j:=0) rfl;have r:=Lib.strCells_length str;have k:∀u∈Lib.strCells str,u.oneCell'=true:=by
  intro u p;unfold Lib.strCells at p;obtain⟨z,_,rfl⟩:=List.mem_map.1 p;rfl
 have g:=run_storeCells_at P b 0 e (Lib.strCells str) 0 ⟨vs⟩ w f (by simp;omega) k;simp only[Nat.add_zero]at g;have a:(str.extract 0 str.size).data.map (fun b=>int .u8 b.toNat)=(Lib.strCells str).toArray:=by
  rw[ByteArray.extract_zero_size];unfold Lib.strCells;apply Array.ext';simp
 refine⟨(),I,w.setRow b ⟨vs.take 0++Lib.strCells str++vs.drop (0+(Lib.strCells str).length)⟩,_,ao,?_,rfl,a8.le_refl I,?_,al⟩
 ·left
  have q:(Builtin.firstCells c.size str.size (.string str)).run P w= .ok (Lib.strCells str).toArray w:=by
   show Sem.run P (pure ((str.extract 0 str.size).data.map fun b=>int .u8 b.toNat)) w=_;rw[a];rfl
  simp[execOp,n,resolve,invoke,builtin,wy,i,Builtin.copy_,run_underlying v,Builtin.lenOf,sizeOf,typeInfo,hi,q,g,goInt]
 ·have:=hs.setRow (j:=0) (b:=b) (vs:=vs) (t:=e) (CH:=vs.take 0++Lib.strCells str++vs.drop (0+(Lib.strCells str).length)) rfl;have e1:vs.take 0++Lib.strCells str++vs.drop (0+(Lib.strCells str).length)=Lib.strCells str++[]:=by
   rw[List.take_zero,List.nil_append,List.drop_of_length_le ae]
  rw[e1]at this⊢;simpa[DB,Am]using this
def yN:aR where
 X:=bL
 args x:=[ai x.s]
 cond x:=x.s.size<=1000000000
 val x _:=ay (ai x.s)
theorem abW(x:bL)(F:ah)(j:yN.cond x)(k:yN.aO x F):Br ((x.s.size:Int)==0) (ar yN x F (ay (ai ⟨#[]⟩)) [(0,F)]) (T4 (a7 Tryz.f118 3 2) [ad ↑x.s.size,ad ↑x.s.size] (fun f e=>e_ Tryz.prog (a7 Tryz.f118 4 2) (DB (5:TypeId))/\true=true/\∃(d:ST),[au (bI e) f.n.toNat f.c.toNat,ai x.s]=[au (some ⟨d.b,0,none⟩) d.s.size d.s.size,ai d.s]/\[af e (iu [ba 0] f.c.toNat) 5]=[af d.b d.vs 5]/\d.vs.length=d.s.size/\True/\∀(c:Unit),True->((0:Int)<=(0:Int)/\0<(f.n.toNat:Int))/\Gu (a7 Tryz.f118 5 4) [ag (bI e),ad ↑f.n.toNat] [af d.b (Lib.strCells d.s++[]) 5] (fun b a=>ar yN x F (ay (ai b.p)) [(0,F),(4020,bc)]))):=by
 delta T4 bI Gu ad ba ai ag au af bc ay;obtain⟨s⟩:=x;have j:s.size<=1000000000:=j;dsimp only;refine aG (fun h=>?_) (fun h=>?_)
 ·have h:((s.size:Int)==0)=true:=h;have i:s.size=0:=by have:=eq_of_beq h;omega
  have e:s=ByteArray.mk #[]:=by
   apply ByteArray.ext;exact Array.eq_empty_of_size_eq_zero (by simpa using i)
  exact⟨(),ao,by rw[e];rfl,aA [0]⟩
 ·have h:((s.size:Int)==0)=false:=h;have i:¬(s.size:Int)=0:=ff.1 h;have g:∀b,nM 5 s ⟨some ⟨b,0,none⟩,s.size,s.size,.cells b (Lib.strCells s++[]) 5⟩:=fun b=>⟨.fU b s.size s.size [] (by rw[Lib.strCells_length,Nat.mul_one]) (by rw[dn,Lib.strCells_length,Nat.mul_one]) (bZ _),.inr (by show 0<s.size;omega)⟩;refine bO (DW (P:=Tryz.prog) [.int .u8 0] 1 rfl rfl rfl rfl rfl rfl aL rfl) ⟨s.size,s.size⟩ ⟨a_,a_,a_,a_⟩ fun b _=>bO (ab7 rfl rfl rfl rfl) ⟨b,s,iu [.int .u8 0] (s.size:Int).toNat⟩ (?_) fun _ _=>⟨⟨cE _,a_⟩,XG rfl rfl rfl,rfl,⟨⟨some ⟨b,0,none⟩,s.size,s.size,.cells b (Lib.strCells s++[]) 5⟩,s⟩,rfl,rfl,⟨g b,a_⟩,ao,fun _ _=>iS⟩;dsimp only;rw[XT,List.length_replicate];omega
theorem T_:aD 118 yN:=fo 18 Tryz.func118 (fun _ _=>[(3,2,.o (u0 5 [.int .u8 0] 1) [] [4020]),(4,2,.o (DB 5) [4020] [4020]),(5,4,.o (CG 5) [4020] [4020])]) [] aY aY bA [] abW
structure rU where
 f:ByteArray
 s:ByteArray
 t1:TypeId
 a1:Addr
def qN(g:Nat):aR where
 X:=rU
 Y:=Nat
 args x:=[ai x.f,ai x.s]
 cond x:=x.s.size<=1000000000
 aO x F:=aQ F ⟨g,0,none⟩ (.iface x.t1 (.pointer (some x.a1)))
 val _ b:=ay (ag (some ⟨b,0,none⟩))
def V2(x:rU)(a:ah):List (Nat×Nat×OH):=[(1,2,aX yN),(1,3,.q [.ex 0 (.is (.iface x.t1 (.pointer (some x.a1))))]),(1,5,.n 2050)]
def F1(aa:List Value)(a:bL->Unit->Prop):=aD 118 yN/\true=true/\∃(z:bL),aa=[ai z.s]/\([]:List ah)=[]/\z.s.size<=1000000000/\True/\∀(b:Unit),True->a z b
def xj(x:rU):=fu x.t1 (ag (some x.a1))
theorem amd(x:rU)(F:ah)(d:(qN 7).cond x)(e:(qN 7).aO x F):true=true/\F1 [ai x.s] (fun c b=>aQ F ⟨7,0,none⟩ (xj x)/\∀(a:Nat),ar (qN 7) x F (ay (cr a)) [(0,F),(2050,af a [ai x.f,ai c.s,fu x.t1 (ag (some x.a1))] 138)]):=by
 delta F1 xj bI cr ai ag fu af ay;obtain⟨f,s,t1,a1⟩:=x;exact⟨rfl,T_,rfl,⟨s⟩,rfl,rfl,d,ao,fun _ _=>⟨e,fun b=>⟨b,ao,rfl,aA [0]⟩⟩⟩
theorem amc:aD 108 (qN 7):=fo 11 Tryz.func108 V2 [] aY aY bA [] amd
theorem al6(x:rU)(F:ah)(d:(qN 8).cond x)(e:(qN 8).aO x F):true=true/\F1 [ai x.s] (fun c b=>aQ F ⟨8,0,none⟩ (xj x)/\∀(a:Nat),ar (qN 8) x F (ay (cr a)) [(0,F),(2050,af a [ai x.f,ai c.s,fu x.t1 (ag (some x.a1))] 138)]):=by
 delta F1 xj bI cr ai ag fu af ay;obtain⟨f,s,t1,a1⟩:=x;exact⟨rfl,T_,rfl,⟨s⟩,rfl,rfl,d,ao,fun _ _=>⟨e,fun b=>⟨b,ao,rfl,aA [0]⟩⟩⟩
theorem al5:aD 109 (qN 8):=fo 11 Tryz.func109 V2 [] aY aY bA [] al6
def xW(e:Int)(g:Nat):aR where
 X:=rU
 Y:=Value
 args x:=[ai x.f,ai x.s,ad 0,ad 64,fu 128 (ad e)]
 cond x:=x.s.size<=1000000000
 aO x F:=aQ F ⟨g,0,none⟩ (.iface x.t1 (.pointer (some x.a1)))
 val _ y:=ay y
def X4(b:rU)(a:ah):List (Nat×Nat×OH):=[(3,2,aX (qN 7)),(5,2,aX (qN 8))]
theorem amh(x:rU)(F:ah)(c:(xW 2 7).cond x)(d:(xW 2 7).aO x F):aD 108 (qN 7)/\true=true/\∃(b:rU),[ai x.f,ai x.s]=[ai b.f,ai b.s]/\([]:List ah)=[]/\b.s.size<=1000000000/\aQ (cP F) ⟨7,0,none⟩ (xj b)/\∀(a:Nat),True->ar (xW (2:Int) 7) x F (ay (fu 129 (cr a))) [(0,F)]:=by
 delta cP xj bI cr aH ai ag fu ay;obtain⟨f,s,t1,a1⟩:=x;exact bs amc ⟨f,s,t1,a1⟩ c (aQ.rest (j:=0) aL d) fun y _=>⟨_,ao,rfl,aA [0]⟩
theorem amg:aD 102 (xW 2 7):=fo 43 Tryz.func102 X4 [] aY aY bA [] amh
theorem amf(x:rU)(F:ah)(c:(xW 1 8).cond x)(d:(xW 1 8).aO x F):aD 109 (qN 8)/\true=true/\∃(b:rU),[ai x.f,ai x.s]=[ai b.f,ai b.s]/\([]:List ah)=[]/\b.s.size<=1000000000/\aQ (cP F) ⟨8,0,none⟩ (xj b)/\∀(a:Nat),True->ar (xW (1:Int) 8) x F (ay (fu 129 (cr a))) [(0,F)]:=by
 delta cP xj bI cr aH ai ag fu ay;obtain⟨f,s,t1,a1⟩:=x;exact bs al5 ⟨f,s,t1,a1⟩ c (aQ.rest (j:=0) aL d) fun y _=>⟨_,ao,rfl,aA [0]⟩
theorem ame:aD 102 (xW 1 8):=fo 43 Tryz.func102 X4 [] aY aY bA [] amf
theorem aks:aD 102 FB:=⟨fun x F I w d h hs=>by
 obtain⟨f,s,e⟩:=x;obtain⟨a,b,c⟩:=d;obtain⟨⟨t1,a1,q1⟩,⟨t2,a2,q2⟩⟩:=h;dsimp only at a b c;have g:e=1\/e=2:=by omega
 rcases g with rfl|rfl
 ·exact ame.h ⟨f,s,t2,a2⟩ F I w (by show s.size<=_;omega) q2 hs
 ·exact amg.h ⟨f,s,t1,a1⟩ F I w (by show s.size<=_;omega) q1 hs⟩
end
section
open Go
structure Ln where
 a:Nat
 b:Nat
def HV(t:TypeId):aR where
 X:=Ln
 args x:=[ag (some ⟨x.a,0,none⟩),ag (some ⟨x.b,0,none⟩)]
 cond x:=x.a≠x.b
 aO x F:=qn F x.a t/\qn F x.b t
 val _ _:=ay (aj false)
theorem Ws{P:Program}{o:Oper}{t u e:TypeId}{x y:Operand}{rt:TypeId}{g:TypeInfo}(l:o.op= .binOp .eql t x y rt)(z:P.underlying t=some (.pointer e))(hi:P.info? e=some g)(B:g.size≠0):e_ P o (HV u):=by
 refine⟨fun X F I w ρ s j m hs=>?_⟩;obtain⟨a,b⟩:=X;have j:a≠b:=j;simp only[l,Op.operands,HV]at s;have i:ρ x= .pointer (some ⟨a,0,none⟩)/\ρ y= .pointer (some ⟨b,0,none⟩):=by grind
 obtain⟨hx,A⟩:=i;obtain⟨f,v,_,_⟩:=hs.lH;have k:F.holds I (hp w) (f 0):=v 0;obtain⟨C,n⟩:=m.1.h I (hp w) (f 0) hs.nr k;obtain⟨D,p⟩:=m.2.h I (hp w) (f 0) hs.nr k;have c:=run_sameAddr_other (P:=P) (w:=w) (a:=⟨a,0,none⟩) (b:=⟨b,0,none⟩) (by intro h;cases h;exact j rfl) n p;refine⟨(),I,w,.bool false,ao,.inl ?_,rfl,a8.le_refl I,hs,cv.refl w⟩;have r:∀d,(Op.equalIn (d+1) t (.pointer (some ⟨a,0,none⟩)) (.pointer (some ⟨b,0,none⟩))).run P w= .ok false w:=fun d=>by
  simp[Op.equalIn,run_underlying z,sizeOf,typeInfo,hi,B,c]
 have q:(binOp .eql t (.pointer (some ⟨a,0,none⟩)) (.pointer (some ⟨b,0,none⟩))).run P w= .ok (.bool false) w:=by
  simp only[binOp];simp[Op.equal,Op.maxDepth,r 9999]
 simp only[execOp,l,hx,A];simp[eqGuard,q]
structure gT where
 s:ByteArray
 m:Int
 e:Int
 ng:Bool
 tr:Bool
 tb:Nat->Nat
 lc:Nat->Nat×ByteArray
def vT(m:Int):Int:=u64.wrap (↑(BitVec.ofInt u64.bits (m.fdiv (2^min (Int.toNat 1) u64.bits))|||BitVec.ofInt u64.bits (u64.wrap (↑(BitVec.ofInt u64.bits m&&& BitVec.ofInt u64.bits 1).toNat:Int))).toNat:Int)
def vQ:Nat->Int->Int->Int×Int
 |0,m,e=>(m,e)
 |f+1,m,e=>bif (bif m !=0 then m.fdiv (2^min (u64.wrap (52+2)).toNat u64.bits)==0 else false) then vQ f (u64.wrap (m*2^min (Int.toNat 1) u64.bits)) (i64.wrap (e-1)) else (m,e)
def vR:Nat->Int->Int->Int×Int
 |0,m,e=>(m,e)
 |f+1,m,e=>bif m.fdiv (2^min (u64.wrap (u64.wrap (1+52)+2)).toNat u64.bits)!=0 then vR f (vT m) (i64.wrap (e+1)) else (m,e)
def um:Nat->Int->Int->Int×Int
 |0,m,e=>(m,e)
 |f+1,m,e=>bif (bif decide (m>1) then decide (e< -1022-2) else false) then um f (vT m) (e+1) else (m,e)
def XU(m e:Int):Int:=u64.wrap (↑(BitVec.ofInt u64.bits (u64.wrap (↑(BitVec.ofInt u64.bits m&&& BitVec.ofInt u64.bits (u64.wrap (u64.wrap (1*2^min (Int.toNat 52) u64.bits)-1))).toNat:Int))|||BitVec.ofInt u64.bits (u64.wrap (u64.wrap (i64.wrap (↑(BitVec.ofInt i64.bits (i64.wrap (e- -1023))&&& BitVec.ofInt i64.bits (i64.wrap (1*2^min (Int.toNat 11) i64.bits)-1)).toNat:Int))*2^min (Int.toNat 52) u64.bits))).toNat:Int)
def yc(x:gT)(m e:Int):Nat:=bif x.ng then (u64.wrap (↑(BitVec.ofInt u64.bits (XU m e)|||BitVec.ofInt u64.bits (u64.wrap (u64.wrap (1*2^min (Int.toNat 52) u64.bits)*2^min (Int.toNat 11) u64.bits))).toNat:Int)).toNat else (XU m e).toNat
theorem Wk(x y:Nat):x|||y<=x+y:=by
 induction x using Nat.strongRecOn generalizing y with
 |_ x a=>
  by_cases b:x=0
  ·simp[*]
  ·have c:=a (x/2) ae (y/2);have d:(x|||y)/2=x/2|||y/2:=Nat.or_div_two;have e:(x|||y)%2=1->x%2=1\/y%2=1:=fun h=>Nat.or_mod_two_eq_one.1 h;omega
theorem alO{n:Nat}(h:n<18446744073709551616):∃k:Nat,vT n=(k:Int)/\k<=n/2+n%2:=by
 refine⟨n/2|||n%2,?_,Wk _ _⟩;unfold vT;have e1:((n:Int).fdiv (2^min (Int.toNat 1) u64.bits))=((n/2:Nat):Int):=by
  rw[show min (Int.toNat 1) u64.bits=1 from rfl,Int.fdiv_eq_ediv_of_nonneg _ (by decide)];rfl
 have a:(BitVec.ofInt u64.bits (n:Int)&&& BitVec.ofInt u64.bits 1).toNat=n%2:=by
  show(BitVec.ofNat 64 n&&& BitVec.ofNat 64 1).toNat=_;simp[*]
 have w1:∀k:Nat,k<18446744073709551616->u64.wrap (k:Int)=(k:Int):=fun k hk=>dG (i:=.u64) aK;rw[e1,a,w1 (n%2) ae];have b:(BitVec.ofInt u64.bits ((n/2:Nat):Int)|||BitVec.ofInt u64.bits ((n%2:Nat):Int)).toNat=(n/2|||n%2):=by
  show(BitVec.ofNat 64 (n/2)|||BitVec.ofNat 64 (n%2)).toNat=_;rw[BitVec.toNat_or,BitVec.toNat_ofNat,BitVec.toNat_ofNat,Nat.mod_eq_of_lt (by omega:n/2<2^64),Nat.mod_eq_of_lt (by omega:n%2<2^64)]
 rw[b,w1];have:=Wk (n/2) (n%2);omega
theorem XW(m:Int):0<=vT m/\vT m<=18446744073709551615:=gf _
theorem XV{m:Int}(a:2<=m)(b:m<=18446744073709551615):vT m<m:=by
 obtain⟨n,rfl⟩:=Int.eq_ofNat_of_zero_le (show 0<=m by omega);obtain⟨k,e,hk⟩:=alO (n:=n) ae;omega
theorem Bf(z:Int): -9223372036854775808<=i64.wrap z/\i64.wrap z<=9223372036854775807:=by
 rw[IntKind.wrap_i64];omega
theorem ND(m:Int)(k:Nat):m.fdiv (2^k)=m/2^k:=Int.fdiv_eq_ediv_of_nonneg _ (Int.pow_nonneg (by decide))
def Ar(x:gT)(m e:Int):Nat×Nat:=bif decide (e>1023) then (yc x (u64.wrap (1*2^min (Int.toNat 52) u64.bits)) (1023+1),1) else (yc x m e,0)
def yd(x:gT)(m e:Int):Nat×Nat:=bif m.fdiv (2^min (Int.toNat 52) u64.bits)==0 then Ar x m (-1023) else Ar x m e
def Aq(x:gT)(m e r:Int):Nat×Nat:=bif r==3 then (bif u64.wrap (m+1)==u64.wrap (1*2^min (u64.wrap (1+52)).toNat u64.bits) then yd x ((u64.wrap (m+1)).fdiv (2^min (Int.toNat 1) u64.bits)) (i64.wrap (e+1)) else yd x (u64.wrap (m+1)) e) else yd x m e
def CK(x:gT)(m e:Int):Nat×Nat:=Aq x (m.fdiv (2^min (Int.toNat 2) u64.bits)) (i64.wrap (e+2)) (u64.wrap (↑(BitVec.ofInt u64.bits (u64.wrap (↑(BitVec.ofInt u64.bits m&&& BitVec.ofInt u64.bits 3).toNat:Int))|||BitVec.ofInt u64.bits (u64.wrap (↑(BitVec.ofInt u64.bits (m.fdiv (2^min (Int.toNat 2) u64.bits))&&& BitVec.ofInt u64.bits 1).toNat:Int))).toNat:Int))
def CJ(x:gT)(m e:Int):Nat×Nat:=CK x (um (m.toNat+1) m e).1 (um (m.toNat+1) m e).2
def FL(x:gT)(m e:Int):Nat×Nat:=CJ x (vR (m.toNat+1) m e).1 (vR (m.toNat+1) m e).2
def vU(x:gT)(m e:Int):Nat×Nat:=bif x.tr then FL x (u64.wrap (↑(BitVec.ofInt u64.bits m|||BitVec.ofInt u64.bits 1).toNat:Int)) e else FL x m e
def alQ(x:gT)(m e:Int):Nat×Nat:=vU x (vQ ((18014398509481984-m).toNat+1) m e).1 (vQ ((18014398509481984-m).toNat+1) m e).2
def dw(x:gT):Nat×Nat:=alQ x x.m (x.e+52)
def vS(n:Nat):Value:=bif n==0 then .nilIface else .iface 128 (.int .i64 1)
def eb:Option Addr:=some ⟨11,0,none⟩
def CI:aR where
 X:=gT
 args x:=[ai x.s,ag eb,az x.m,ad x.e,aj x.ng,aj x.tr]
 cond x:=0<=x.m/\x.m<=18446744073709551615/\ -10000000000<=x.e/\x.e<=10000000000
 aO x F:=gL x.tb x.lc F
 val x _:=.returned (.tuple #[.float .f64 (dw x).1,vS (dw x).2])
structure ee where
 m:Int
 e:Int
 r:Int
 er:Nat
 v:Value
def sP(x:gT)(d:ee):List (Nat×Value):=[(1,.pointer (some ⟨11,0,none⟩)),(2,.int .u64 d.m),(3,.int .i64 d.e),(4,.bool x.ng),(5,.bool x.tr),(14,.int .i64 1023),(15,.int .i64 (-1022))]
def gK(m e:Int):Prop:=0<=m/\m<=18446744073709551615/\ -9223372036854775808<=e/\e<=9223372036854775807
def alP(x:gT)(F:ah):Nat->Option Inv:=fun
 |0=>some {X:=ee,P:=fun d=>gK d.m d.e/\∃f,(18014398509481984-d.m).toNat<f/\dw x=vU x (vQ f d.m d.e).1 (vQ f d.m d.e).2,mu:=fun d=>(18014398509481984-d.m).toNat,lv:=fun d=>sP x d,st:=fun _=>[F]}
 |2=>some {X:=ee,P:=fun d=>gK d.m d.e/\∃f,d.m.toNat<f/\dw x=CJ x (vR f d.m d.e).1 (vR f d.m d.e).2,mu:=fun d=>d.m.toNat,lv:=fun d=>sP x d,st:=fun _=>[F]}
 |4=>some {X:=ee,P:=fun d=>gK d.m d.e/\∃f,d.m.toNat<f/\dw x=CK x (um f d.m d.e).1 (um f d.m d.e).2,mu:=fun d=>d.m.toNat,lv:=fun d=>sP x d,st:=fun _=>[F]}
 |_=>none
def alN(x:gT)(F:ah):Nat->Option Inv:=fun
 |7=>some {X:=ee,P:=fun d=>gK d.m d.e/\dw x=vU x d.m d.e,mu:=fun _=>0,lv:=fun d=>sP x d,st:=fun _=>[F]}
 |9=>some {X:=ee,P:=fun d=>gK d.m d.e/\dw x=FL x d.m d.e,mu:=fun _=>0,lv:=fun d=>sP x d,st:=fun _=>[F]}
 |12=>some {X:=ee,P:=fun d=>gK d.m d.e/\dw x=CJ x d.m d.e,mu:=fun _=>0,lv:=fun d=>sP x d,st:=fun _=>[F]}
 |15=>some {X:=ee,P:=fun d=>gK d.m d.e/\dw x=CK x d.m d.e,mu:=fun _=>0,lv:=fun d=>sP x d,st:=fun _=>[F]}
 |19=>some {X:=ee,P:=fun d=>gK d.m d.e/\dw x=Aq x d.m d.e d.r,mu:=fun _=>0,lv:=fun d=>sP x d++[(16,.int .u64 d.r)],st:=fun _=>[F]}
 |24=>some {X:=ee,P:=fun d=>gK d.m d.e/\dw x=yd x d.m d.e,mu:=fun _=>0,lv:=fun d=>sP x d,st:=fun _=>[F]}
 |26=>some {X:=ee,P:=fun d=>gK d.m d.e/\dw x=Ar x d.m d.e,mu:=fun _=>0,lv:=fun d=>sP x d,st:=fun _=>[F]}
 |31=>some {X:=ee,P:=fun d=>gK d.m d.e/\dw x=(yc x d.m d.e,d.er)/\d.v=vS d.er,mu:=fun _=>0,lv:=fun d=>sP x d++[(17,d.v)],st:=fun _=>[F]}
 |_=>none
def uS:OH:=.q [.ex 0 (.is (.int .u64 52))]
def NV:OH:=.q [.ex 0 (.is (.int .u64 11))]
def Hl:OH:=.q [.ex 0 (.is (.int .i64 (-1023)))]
def tY:=az 11
def mQ:=ad (-1023)
def Es:=(-9223372036854775808:Int)<=(-1023:Int)+(1:Int)/\(-1023:Int)+(1:Int)<=(9223372036854775807:Int)
def Ix(b:ee)(x:gT):=gK b.m b.e/\∃(a:Nat),((18014398509481984:Int)-b.m).toNat<a/\dw x=vU x (vQ a b.m b.e).fst (vQ a b.m b.e).snd
def Cn(v0:Value)(z:ee)(v1:Value)(e0:gT):=ag eb=ag eb/\v0=az z.m/\v1=ad z.e/\aj e0.ng=aj e0.ng/\aj e0.tr=aj e0.tr/\ad 1023=ad 1023/\ad (-1022)=ad (-1022)/\True
def Lt(e0:gT)(e1:ah)(v0 v1:Value)(a:St):=∃(z:ee),(gK z.m z.e/\dw e0=vU e0 z.m z.e)/\Cn v0 z v1 e0/\aE a [(0,e1)]
def tZ(d:ee):=az d.m
def sI(d:ee):=ad d.e
def Lu(e0:gT)(e1:ah)(v0 v1:Value)(a:St):=∃(z:ee),(gK z.m z.e/\dw e0=FL e0 z.m z.e)/\Cn v0 z v1 e0/\aE a [(0,e1)]
def IS(b:ee)(x:gT):=gK b.m b.e/\∃(a:Nat),b.m.toNat<a/\dw x=CJ x (vR a b.m b.e).fst (vR a b.m b.e).snd
def H8(p b:ee)(x:gT):=ag eb=ag eb/\az p.m=az b.m/\ad p.e=ad b.e/\aj x.ng=aj x.ng/\aj x.tr=aj x.tr/\ad 1023=ad 1023/\ad (-1022)=ad (-1022)/\True
def IP(b:ee)(x:gT):=gK b.m b.e/\∃(a:Nat),b.m.toNat<a/\dw x=CK x (um a b.m b.e).fst (um a b.m b.e).snd
def Lv(e0:gT)(e1:ah)(v0 v1:Value)(a:St):=∃(z:ee),(gK z.m z.e/\dw e0=CK e0 z.m z.e)/\Cn v0 z v1 e0/\aE a [(0,e1)]
def F2(e0:gT)(e1:ah)(v0 v1:Value)(a:St):=∃(z:ee),(gK z.m z.e/\dw e0=yd e0 z.m z.e)/\Cn v0 z v1 e0/\aE a [(0,e1)]
def Lw(e0:gT)(e1:ah)(v0 v1:Value)(a:St):=∃(z:ee),(gK z.m z.e/\dw e0=Ar e0 z.m z.e)/\Cn v0 z v1 e0/\aE a [(0,e1)]
def Lx(e0:gT)(e1:ah)(v0 v1 v2:Value)(a:St):=∃(z:ee),(gK z.m z.e/\dw e0=(yc e0 z.m z.e,z.er)/\z.v=vS z.er)/\(ag eb=ag eb/\v0=az z.m/\v1=ad z.e/\aj e0.ng=aj e0.ng/\aj e0.tr=aj e0.tr/\ad 1023=ad 1023/\ad (-1022)=ad (-1022)/\v2=z.v/\True)/\aE a [(0,e1)]
def Lz(b:Oper)(aa:List Value)(rr:ah)(a:Ln->Unit->Prop):=e_ Tryz.prog b (HV (149:TypeId))/\true=true/\∃(z:Ln),aa=[ag (some ⟨z.a,0,none⟩),ag (some ⟨z.b,0,none⟩)]/\([]:List ah)=[]/\z.a≠z.b/\(qn rr z.a 149/\qn rr z.b 149)/\∀(c:Unit),True->a z c
theorem alS(x:gT)(F:ah)(K:CI.cond x)(t:CI.aO x F):true=true/\aQ F ⟨11,1,none⟩ tY/\aQ F ⟨11,2,none⟩ mQ/\((-9223372036854775808:Int)<=bV ((1:Int)*(2:Int)^min (Int.toNat (11:Int)) i64.bits)+(-1023:Int)/\bV ((1:Int)*(2:Int)^min (Int.toNat (11:Int)) i64.bits)+(-1023:Int)<=(9223372036854775807:Int))/\((-9223372036854775808:Int)<=bV ((1:Int)*(2:Int)^min (Int.toNat (11:Int)) i64.bits)+(-1023:Int)-(2:Int)/\bV ((1:Int)*(2:Int)^min (Int.toNat (11:Int)) i64.bits)+(-1023:Int)-(2:Int)<=(9223372036854775807:Int))/\aQ F ⟨11,2,none⟩ mQ/\Es/\aQ F ⟨11,0,none⟩ lL/\((-9223372036854775808:Int)<=(52:Int)/\(52:Int)<=(9223372036854775807:Int))/\((-9223372036854775808:Int)<=x.e+52/\x.e+52<=(9223372036854775807:Int))/\((∃(b:ee),Ix b x/\(ag eb=ag eb/\az x.m=az b.m/\ad (x.e+52)=ad b.e/\aj x.ng=aj x.ng/\aj x.tr=aj x.tr/\ad (bV ((1:Int)*(2:Int)^min (Int.toNat (11:Int)) i64.bits)+(-1023:Int)-(2:Int))=ad 1023/\ad ((-1023:Int)+(1:Int))=ad (-1022)/\True)/\aE [(0,F)] [(0,F)])/\aT fun(d:ee)_=>Ix d x->Br (d.m !=0) (aQ F ⟨11,0,none⟩ lL/\Br (d.m.fdiv ((2:Int)^min (bd ((52:Int)+(2:Int))).toNat u64.bits)==0) (∃(b:ee),Ix b x/\(ag eb=ag eb/\az (bd (d.m*2^min (Int.toNat (1:Int)) u64.bits))=az b.m/\ad (bV (d.e-1))=ad b.e/\aj x.ng=aj x.ng/\aj x.tr=aj x.tr/\ad 1023=ad 1023/\ad (-1022)=ad (-1022)/\True)/\aE [(0,F)] [(0,F)]/\((18014398509481984:Int)-b.m).toNat<((18014398509481984:Int)-d.m).toNat) (Lt x F (tZ d) (sI d) [(0,F)])) (Lt x F (tZ d) (sI d) [(0,F)]))/\aT fun(r:ee)_=>(gK r.m r.e/\dw x=vU x r.m r.e)->Br x.tr (Lu x F (az (bd (↑(ce r.m|||ce (1:Int)).toNat:Int))) (sI r) [(0,F)]) (Lu x F (tZ r) (sI r) [(0,F)])/\aT fun(p:ee)_=>(gK p.m p.e/\dw x=FL x p.m p.e)->((∃(b:ee),IS b x/\H8 p b x/\aE [(0,F)] [(0,F)])/\aT fun(d:ee)_=>IS d x->aQ F ⟨11,0,none⟩ lL/\Br (d.m.fdiv ((2:Int)^min (bd (bd ((1:Int)+(52:Int))+2)).toNat u64.bits)!=0) (∃(b:ee),IS b x/\(ag eb=ag eb/\az (bd (↑(ce (d.m.fdiv ((2:Int)^min (Int.toNat (1:Int)) u64.bits))|||ce (bd (↑(ce d.m&&& ce (1:Int)).toNat:Int))).toNat:Int))=az b.m/\ad (bV (d.e+1))=ad b.e/\aj x.ng=aj x.ng/\aj x.tr=aj x.tr/\ad 1023=ad 1023/\ad (-1022)=ad (-1022)/\True)/\aE [(0,F)] [(0,F)]/\b.m.toNat<d.m.toNat) (∃(a:ee),(gK a.m a.e/\dw x=CJ x a.m a.e)/\H8 d a x/\aE [(0,F)] [(0,F)]))/\aT fun(n:ee)_=>(gK n.m n.e/\dw x=CJ x n.m n.e)->((∃(b:ee),IP b x/\H8 n b x/\aE [(0,F)] [(0,F)])/\aT fun(d:ee)_=>IP d x->aS (d.m>1) (((-9223372036854775808:Int)<=(-1022:Int)-(2:Int)/\(-1022:Int)-(2:Int)<=(9223372036854775807:Int))/\aS (d.e<(-1022:Int)-(2:Int)) (((-9223372036854775808:Int)<=d.e+1/\d.e+1<=(9223372036854775807:Int))/\∃(b:ee),IP b x/\(ag eb=ag eb/\az (bd (↑(ce (d.m.fdiv ((2:Int)^min (Int.toNat (1:Int)) u64.bits))|||ce (bd (↑(ce d.m&&& ce (1:Int)).toNat:Int))).toNat:Int))=az b.m/\ad (d.e+1)=ad b.e/\aj x.ng=aj x.ng/\aj x.tr=aj x.tr/\ad 1023=ad 1023/\ad (-1022)=ad (-1022)/\True)/\aE [(0,F)] [(0,F)]/\b.m.toNat<d.m.toNat) (Lv x F (tZ d) (sI d) [(0,F)])) (Lv x F (tZ d) (sI d) [(0,F)]))/\aT fun(l:ee)_=>(gK l.m l.e/\dw x=CK x l.m l.e)->(∃(a:ee),(gK a.m a.e/\dw x=Aq x a.m a.e a.r)/\(ag eb=ag eb/\az (l.m.fdiv ((2:Int)^min (Int.toNat (2:Int)) u64.bits))=az a.m/\ad (bV (l.e+2))=ad a.e/\aj x.ng=aj x.ng/\aj x.tr=aj x.tr/\ad 1023=ad 1023/\ad (-1022)=ad (-1022)/\az (bd (↑(ce (bd (↑(ce l.m&&& ce (3:Int)).toNat:Int))|||ce (bd (↑(ce (l.m.fdiv ((2:Int)^min (Int.toNat (2:Int)) u64.bits))&&& ce (1:Int)).toNat:Int))).toNat:Int))=az a.r/\True)/\aE [(0,F)] [(0,F)])/\aT fun(j:ee)_=>(gK j.m j.e/\dw x=Aq x j.m j.e j.r)->Br (j.r==3) (aQ F ⟨11,0,none⟩ lL/\Br (bd (j.m+1)==bd ((1:Int)*(2:Int)^min (bd ((1:Int)+(52:Int))).toNat u64.bits)) (F2 x F (az ((bd (j.m+1)).fdiv ((2:Int)^min (Int.toNat (1:Int)) u64.bits))) (ad (bV (j.e+1))) [(0,F)]) (F2 x F (az (bd (j.m+1))) (sI j) [(0,F)])) (F2 x F (tZ j) (sI j) [(0,F)])/\aT fun(h:ee)_=>(gK h.m h.e/\dw x=yd x h.m h.e)->(aQ F ⟨11,0,none⟩ lL/\Br (h.m.fdiv ((2:Int)^min (Int.toNat (52:Int)) u64.bits)==0) (aQ F ⟨11,2,none⟩ mQ/\Lw x F (tZ h) mQ [(0,F)]) (Lw x F (tZ h) (sI h) [(0,F)]))/\aT fun(f:ee)_=>(gK f.m f.e/\dw x=Ar x f.m f.e)->aS (f.e>1023) (aQ F ⟨11,0,none⟩ lL/\((-9223372036854775808:Int)<=(1023:Int)+(1:Int)/\(1023:Int)+(1:Int)<=(9223372036854775807:Int))/\Lx x F (az (bd ((1:Int)*(2:Int)^min (Int.toNat (52:Int)) u64.bits))) (ad ((1023:Int)+(1:Int))) (fu 128 (ad 1)) [(0,F)]) (Lx x F (tZ f) (sI f) nilIface [(0,F)])/\aT fun(d:ee)_=>(gK d.m d.e/\dw x=(yc x d.m d.e,d.er)/\d.v=vS d.er)->aQ F ⟨11,0,none⟩ lL/\true=true/\aQ F ⟨11,2,none⟩ mQ/\aQ F ⟨11,1,none⟩ tY/\((-9223372036854775808:Int)<=bV ((1:Int)*(2:Int)^min (Int.toNat (11:Int)) i64.bits)-1/\bV ((1:Int)*(2:Int)^min (Int.toNat (11:Int)) i64.bits)-1<=(9223372036854775807:Int))/\aQ F ⟨11,0,none⟩ lL/\Br x.ng (true=true/\aQ F ⟨11,0,none⟩ lL/\aQ F ⟨11,1,none⟩ tY/\Lz (a7 Tryz.f125 35 1) [ag eb,ag (some ⟨9,0,none⟩)] (cP F) (fun b a=>ar CI x F (ay (tuple {toList:=[float f64 (bd (↑(ce (bd (↑(ce (bd (↑(ce d.m&&& ce (bd (bd ((1:Int)*(2:Int)^min (Int.toNat (52:Int)) u64.bits)-1))).toNat:Int))|||ce (bd (bd (bV (↑(gY (bV (d.e-(-1023:Int)))&&& gY (bV ((1:Int)*(2:Int)^min (Int.toNat (11:Int)) i64.bits)-1)).toNat:Int))*2^min (Int.toNat (52:Int)) u64.bits))).toNat:Int))|||ce (bd (bd ((1:Int)*(2:Int)^min (Int.toNat (52:Int)) u64.bits)*2^min (Int.toNat (11:Int)) u64.bits))).toNat:Int)).toNat,d.v]})) [(0,F)])) (Lz (a7 Tryz.f125 35 1) [ag eb,ag (some ⟨9,0,none⟩)] (cP F) (fun b a=>ar CI x F (ay (tuple ⟨[float f64 (bd (↑(ce (bd (↑(ce d.m&&& ce (bd (bd ((1:Int)*(2:Int)^min (Int.toNat (52:Int)) u64.bits)-1))).toNat:Int))|||ce (bd (bd (bV (↑(gY (bV (d.e-(-1023:Int)))&&& gY (bV ((1:Int)*(2:Int)^min (Int.toNat (11:Int)) i64.bits)-1)).toNat:Int))*2^min (Int.toNat (52:Int)) u64.bits))).toNat:Int)).toNat,d.v]⟩)) [(0,F)])):=by
 delta tY mQ Es lL Ix eb Cn Lt tZ sI Lu IS H8 IP Lv F2 Lw Lx Lz cP aH ad az aj ag fu ce gY bd bV aS ay aT;obtain⟨s,m,e,ng,tr,tb,lc⟩:=x;obtain⟨G,H,I,J⟩:=K;replace t:gL tb lc F:=t;generalize hx:(⟨s,m,e,ng,tr,tb,lc⟩:gT)=x at*;have P:x.m=m:=by rw[<-hx]
 have O:x.e=e:=by rw[<-hx]
 rw[P]at G H;rw[O]at I J;have o:aE [(0,F)] [(0,F)]:=aA [0];have D:i64.wrap (1*2^min (Int.toNat 11) i64.bits)=2048:=by rfl
 have M:(2:Int)^min (u64.wrap (52+2)).toNat u64.bits=18014398509481984:=by rfl
 have N:(2:Int)^min (u64.wrap (u64.wrap (1+52)+2)).toNat u64.bits=36028797018963968:=by rfl
 have E:∀a b:Int,gK (u64.wrap a) (i64.wrap b):=fun a b=>⟨(gf a).1,(gf a).2,(Bf b).1,(Bf b).2⟩;have A:∀(m:Int)(k:Nat),0<=m->m<=18446744073709551615->0<=m.fdiv (2^k)/\m.fdiv (2^k)<=18446744073709551615:=fun m k a b=>by
  rw[ND];have hp:(0:Int)<2^k:=Int.pow_pos (by decide);exact⟨Int.ediv_nonneg a (Int.le_of_lt hp),Int.le_trans (Int.ediv_le_self _ a) b⟩
 rw[D];refine⟨rfl,t.i1,t.i2,aK,aK,t.i2,aK,t.i0,aK,aK,⟨⟨⟨x.m,x.e+52,0,0,.nilIface⟩,⟨⟨by simp[*],by simp[*],by grind,by grind⟩,(18014398509481984-x.m).toNat+1,gZ _,rfl⟩,(by simp[*]),o⟩,?_⟩,?_⟩
 ·rintro⟨m,e,r,er,v⟩ w ⟨⟨k1,k2,k3,y⟩,f,u,c⟩;dsimp only at k1 k2 k3 y u c⊢;obtain⟨f,rfl⟩:∃g,f=g+1:=⟨f-1,ae⟩;have out:(bif m !=0 then m.fdiv (2^min (u64.wrap (52+2)).toNat u64.bits)==0 else false)=false->dw x=vU x m e:=fun h=>by rw[c,vQ,h];rfl
  refine aG (fun q1=>⟨t.i0,aG (fun q2=>?_) (fun q2=>⟨⟨m,e,0,0,.nilIface⟩,⟨⟨k1,k2,k3,y⟩,out (by grind)⟩,(by simp[*]),o⟩)⟩) (fun q1=>⟨⟨m,e,0,0,.nilIface⟩,⟨⟨k1,k2,k3,y⟩,out (by simp[*])⟩,(by simp[*]),o⟩);have L:m≠0:=by
   grind
  have C:m<18014398509481984:=by
   grind
  have Q:u64.wrap (m*2^min (Int.toNat 1) u64.bits)=m*2:=by
   rw[show(2:Int)^min (Int.toNat 1) u64.bits=2 from rfl];exact dG (i:=.u64) aK
  refine⟨⟨_,_,0,0,.nilIface⟩,⟨E _ _,f,?_,?_⟩,(by(repeat refine⟨rfl,?_⟩);simp[*]),o,?_⟩
  ·show(18014398509481984-u64.wrap (m*2^min (Int.toNat 1) u64.bits)).toNat<f;omega
  ·dsimp only;rw[c,vQ,show(m !=0)=true from q1,show(m.fdiv (2^min (u64.wrap (52+2)).toNat u64.bits)==0)=true from q2];rfl
  ·show(18014398509481984-u64.wrap (m*2^min (Int.toNat 1) u64.bits)).toNat<(18014398509481984-m).toNat;omega
 rintro⟨m,e,r,er,v⟩ w ⟨k,c⟩;dsimp only at k c⊢;refine⟨aG (fun q=>⟨⟨_,e,0,0,.nilIface⟩,⟨⟨(gf _).1,(gf _).2,k.2.2.1,k.2.2.2⟩,by rw[c];unfold vU;rw[show x.tr=true from q];rfl⟩,(by(repeat refine⟨rfl,?_⟩);simp[*]),o⟩) (fun q=>⟨⟨m,e,0,0,.nilIface⟩,⟨k,by rw[c];unfold vU;simp[*]⟩,(by simp[*]),o⟩),?_⟩;clear c k;rintro⟨m,e,r,er,v⟩ w ⟨k,c⟩;dsimp only at k c⊢;refine⟨⟨⟨⟨m,e,0,0,.nilIface⟩,⟨k,m.toNat+1,gZ _,c⟩,(by simp[*]),o⟩,?_⟩,?_⟩
 ·clear c k;rintro⟨m,e,r,er,v⟩ w ⟨k,f,u,c⟩;have k':=k;obtain⟨k1,k2,k3,y⟩:=k';dsimp only at k k1 k2 k3 y u c⊢;obtain⟨f,rfl⟩:∃g,f=g+1:=⟨f-1,ae⟩;refine⟨t.i0,aG (fun q=>?_) (fun q=>⟨⟨m,e,0,0,.nilIface⟩,⟨k,by rw[c,vR,show(m.fdiv (2^min (u64.wrap (u64.wrap (1+52)+2)).toNat u64.bits)!=0)=false from q];rfl⟩,(by simp[*]),o⟩)⟩;have C:36028797018963968<=m:=by
   grind
  have hl:=XV (m:=m) ae k2;have hn:=XW m;refine⟨⟨vT m,i64.wrap (e+1),0,0,.nilIface⟩,⟨E _ _,f,by grind,?_⟩,(by(repeat refine⟨rfl,?_⟩);simp[*]),o,by grind⟩;dsimp only;rw[c,vR,show(m.fdiv (2^min (u64.wrap (u64.wrap (1+52)+2)).toNat u64.bits)!=0)=true from q];rfl
 clear c k;rintro⟨m,e,r,er,v⟩ w ⟨k,c⟩;dsimp only at k c⊢;refine⟨⟨⟨⟨m,e,0,0,.nilIface⟩,⟨k,m.toNat+1,gZ _,c⟩,(by simp[*]),o⟩,?_⟩,?_⟩
 ·clear c k;rintro⟨m,e,r,er,v⟩ w ⟨k,f,u,c⟩;have k':=k;obtain⟨k1,k2,k3,y⟩:=k';dsimp only at k k1 k2 k3 y u c⊢;obtain⟨f,rfl⟩:∃g,f=g+1:=⟨f-1,ae⟩;refine bo (fun q=>⟨aK,bo (fun q2=>?_) (fun q2=>⟨⟨m,e,0,0,.nilIface⟩,⟨k,by rw[c,um,bw q,bF q2];rfl⟩,(by simp[*]),o⟩)⟩) (fun q=>⟨⟨m,e,0,0,.nilIface⟩,⟨k,by rw[c,um,bF q];rfl⟩,(by simp[*]),o⟩);have hl:=XV (m:=m) ae k2;have hn:=XW m;refine⟨aK,⟨vT m,e+1,0,0,.nilIface⟩,⟨⟨hn.1,hn.2,by grind,by grind⟩,f,by grind,?_⟩,(by(repeat refine⟨rfl,?_⟩);simp[*]),o,by grind⟩;dsimp only;rw[c,um,bw q,bw q2];rfl
 clear c k;rintro⟨m,e,r,er,v⟩ w ⟨k,c⟩;dsimp only at k c⊢;refine⟨⟨⟨m.fdiv (2^min (Int.toNat 2) u64.bits),i64.wrap (e+2),_,0,.nilIface⟩,⟨⟨(A _ _ k.1 k.2.1).1,(A _ _ k.1 k.2.1).2,(Bf _).1,(Bf _).2⟩,c⟩,(by(repeat refine⟨rfl,?_⟩);simp[*]),o⟩,?_⟩;clear c k;rintro⟨m,e,r,er,v⟩ w ⟨k,c⟩;dsimp only at k c⊢;refine⟨aG (fun q=>⟨t.i0,aG (fun q2=>⟨⟨_,_,0,0,.nilIface⟩,⟨⟨(A _ _ (gf _).1 (gf _).2).1,(A _ _ (gf _).1 (gf _).2).2,(Bf _).1,(Bf _).2⟩,by rw[c];unfold Aq;rw[show(r==3)=true from q,show(u64.wrap (m+1)==u64.wrap (1*2^min (u64.wrap (1+52)).toNat u64.bits))=true from q2];rfl⟩,(by(repeat refine⟨rfl,?_⟩);simp[*]),o⟩) (fun q2=>⟨⟨_,e,0,0,.nilIface⟩,⟨⟨(gf _).1,(gf _).2,k.2.2.1,k.2.2.2⟩,by rw[c];unfold Aq;rw[show(r==3)=true from q,show(u64.wrap (m+1)==u64.wrap (1*2^min (u64.wrap (1+52)).toNat u64.bits))=false from q2];rfl⟩,(by(repeat refine⟨rfl,?_⟩);simp[*]),o⟩)⟩) (fun q=>⟨⟨m,e,0,0,.nilIface⟩,⟨k,by rw[c];unfold Aq;simp[*]⟩,(by simp[*]),o⟩),?_⟩;clear c k;rintro⟨m,e,r,er,v⟩ w ⟨k,c⟩;dsimp only at k c⊢;refine⟨⟨t.i0,aG (fun q=>⟨t.i2,⟨m,-1023,0,0,.nilIface⟩,⟨⟨k.1,k.2.1,by simp[*],by simp[*]⟩,by rw[c];unfold yd;grind⟩,(by simp[*]),o⟩) (fun q=>⟨⟨m,e,0,0,.nilIface⟩,⟨k,by rw[c];unfold yd;grind⟩,(by simp[*]),o⟩)⟩,?_⟩;clear c k;rintro⟨m,e,r,er,v⟩ w ⟨k,c⟩;dsimp only at k c⊢;refine⟨bo (fun q=>⟨t.i0,aK,⟨_,1023+1,0,1,_⟩,⟨⟨(gf _).1,(gf _).2,by simp[*],by simp[*]⟩,by rw[c];unfold Ar;rw[bw q];rfl,rfl⟩,(by(repeat refine⟨rfl,?_⟩);simp[*]),o⟩) (fun q=>⟨⟨m,e,0,0,.nilIface⟩,⟨k,by rw[c];unfold Ar;simp[*],rfl⟩,(by simp[*]),o⟩),?_⟩;clear c k;rintro⟨m,e,r,er,v⟩ w ⟨k,c,B⟩;dsimp only at k c B⊢;have z:qn (.du (rest [(0,F)] [])) 11 149/\qn (.du (rest [(0,F)] [])) 9 149:=⟨t.bi.sub (bU 0),t.bj.sub (bU 0)⟩;have fin:∀b:Nat,yc x m e=b->ar CI x F (returned (tuple #[float .f64 b,v])) [(0,F)]:=fun b h=>
  ⟨(),ao,by show _=returned (.tuple #[.float .f64 (dw x).1,vS (dw x).2]);simp[*],o⟩
 refine⟨t.i0,rfl,t.i2,t.i1,aK,t.i0,aG (fun q=>⟨rfl,t.i0,t.i1,Ws rfl rfl rfl (by decide),rfl,⟨11,9⟩,rfl,rfl,by decide,z,fun _ _=>fin _ (by unfold yc;rw[show x.ng=true from q];rfl)⟩) (fun q=>bs (Ws rfl rfl rfl (by decide)) ⟨11,9⟩ (by decide) z fun _ _=>fin _ (by unfold yc;rw[show x.ng=false from q];rfl))⟩
theorem alR:aD 125 CI:=fo 192 Tryz.func125 (fun _ _=>[(1,3,NV),(1,4,aW),(1,8,Hl),(2,3,Hl),(3,4,uS),(4,7,uS),(4,8,aW),(4,9,aW),(5,1,aW),(6,1,aW),(11,1,aW),(18,1,aW),(23,1,aW),(32,6,aW),(35,1,.o (HV 149) [] []),(8,1,aW),(9,4,uS),(9,5,aW),(9,6,aW),(9,7,aW),(10,1,aW),(10,3,aW),(10,4,aW),(13,1,aW),(13,3,aW),(13,4,aW),(15,1,aW),(16,1,aW),(17,2,aW),(17,3,aW),(20,1,aW),(21,4,uS),(21,5,aW),(21,6,aW),(22,1,aW),(24,4,uS),(24,5,aW),(25,3,Hl),(28,3,uS),(28,4,aW),(31,4,uS),(31,5,aW),(31,6,aW),(31,7,aW),(32,5,Hl),(32,10,NV),(32,11,aW),(32,13,aW),(32,14,aW),(32,18,uS),(32,19,aW),(32,20,aW),(34,4,uS),(34,5,aW),(34,9,NV),(34,10,aW),(34,11,aW),(37,1,aW)]) [] alP alN bA [] alS
end
section
open Go
structure bq where
 ds:List Int
 nd:Int
 dp:Int
 ng:Bool
 tr:Bool
def aZ(d:bq):List Value:=d.ds.map (fun c=>int .u8 c)++[.int .i64 d.nd,.int .i64 d.dp,.bool d.ng,.bool d.tr]
def bq.ok(d:bq):Prop:=d.ds.length=800/\0<=d.nd/\d.nd<=800
def bq.at_(d:bq)(i:Nat):Int:=d.ds.getD i 0
section
variable{b:Nat}{t:TypeId}{d:bq}
theorem jm(h:d.ds.length=800):(aZ d).length=804:=by unfold aZ;simp[h]
theorem GX(h:d.ds.length=800)(k:Nat):(aZ d)[800+k]?=[int .i64 d.nd,.int .i64 d.dp,.bool d.ng,.bool d.tr][k]?:=by
 unfold aZ;rw[jb (by simp[h])];simp[h]
theorem jZ(h:d.ds.length=800):aQ (.cells b (aZ d) t) ⟨b,800,none⟩ (.int .i64 d.nd):=aQ.cells (by rw[show(800:Nat)=800+0 from rfl,GX h];rfl)
theorem lE(h:d.ds.length=800):aQ (.cells b (aZ d) t) ⟨b,801,none⟩ (.int .i64 d.dp):=aQ.cells (by rw[show(801:Nat)=800+1 from rfl,GX h];rfl)
theorem afY(h:d.ds.length=800):aQ (.cells b (aZ d) t) ⟨b,802,none⟩ (.bool d.ng):=aQ.cells (by rw[show(802:Nat)=800+2 from rfl,GX h];rfl)
theorem afZ(h:d.ds.length=800):aQ (.cells b (aZ d) t) ⟨b,803,none⟩ (.bool d.tr):=aQ.cells (by rw[show(803:Nat)=800+3 from rfl,GX h];rfl)
theorem wG(h:d.ds.length=800){i:Nat}(hi:i<800):aQ (.cells b (aZ d) t) ⟨b,i,none⟩ (.int .u8 (d.at_ i)):=aQ.cells (by
 unfold aZ bq.at_;rw[kq (by simp[h,hi]),fV,ft,fg ae];rfl)
theorem Kx(h:d.ds.length=800)(k:Nat)(v:Value):(aZ d).set (800+k) v=d.ds.map (fun c=>int .u8 c)++[int .i64 d.nd,.int .i64 d.dp,.bool d.ng,.bool d.tr].set k v:=by
 unfold aZ;rw[List.set_append_right _ _ (by simp[h])];simp[h]
theorem Fl(h:d.ds.length=800)(n:Int):(aZ d).set 800 (.int .i64 n)=aZ ⟨d.ds,n,d.dp,d.ng,d.tr⟩:=Kx h 0 _
theorem Ac(h:d.ds.length=800)(n:Int):(aZ d).set 801 (.int .i64 n)=aZ ⟨d.ds,d.nd,n,d.ng,d.tr⟩:=Kx h 1 _
theorem ajO(h:d.ds.length=800)(n:Bool):(aZ d).set 802 (.bool n)=aZ ⟨d.ds,d.nd,d.dp,n,d.tr⟩:=Kx h 2 _
theorem Ky(h:d.ds.length=800)(n:Bool):(aZ d).set 803 (.bool n)=aZ ⟨d.ds,d.nd,d.dp,d.ng,n⟩:=Kx h 3 _
theorem Sp(h:d.ds.length=800){i:Nat}(hi:i<800)(c:Int):(aZ d).set i (.int .u8 c)=aZ ⟨d.ds.set i c,d.nd,d.dp,d.ng,d.tr⟩:=by
 unfold aZ;rw[List.set_append_left _ _ (by simp[h,hi]),List.map_set]
end
def m7(ds:List Int):Nat->Nat
 |0=>0
 |n+1=>bif ds.getD n 0==48 then m7 ds n else n+1
def kI(d:bq):bq:=⟨d.ds,(m7 d.ds d.nd.toNat:Nat),bif m7 d.ds d.nd.toNat==0 then 0 else d.dp,d.ng,d.tr⟩
theorem Xr(ds:List Int):∀n,m7 ds n<=n
 |0=>bZ _
 |n+1=>by
  rw[m7];cases ds.getD n 0==48 with
  |true=>rw[aU];have:=Xr ds n;omega
  |false=>exact bZ _
structure kJ where
 b:Nat
 d:bq
def iD(x:kJ):Option Addr:=some ⟨x.b,0,none⟩
def pZ(x:kJ):=af x.b (aZ x.d) 158
def uh:aR where
 X:=kJ
 args x:=[ag (iD x)]
 pre x:=[pZ x]
 cond x:=x.d.ok
 val _ _:=.returned (.tuple #[])
 post x _:=[af x.b (aZ (kI x.d)) 158]
def zB(x:kJ)(n:Nat):=af x.b (aZ ⟨x.d.ds,(n:Int),x.d.dp,x.d.ng,x.d.tr⟩) 158
def akx(x:kJ)(F:ah):Nat->Option Inv:=fun
 |0=>some {X:=Nat,P:=fun n=>(n:Int)<=x.d.nd/\m7 x.d.ds x.d.nd.toNat=m7 x.d.ds n,mu:=fun n=>n,lv:=fun _=>[(0,ag (iD x))],st:=fun n=>[zB x n,F]}
 |_=>none
def JC(a:Nat)(x:kJ):=a<=x.d.nd/\m7 x.d.ds x.d.nd.toNat=m7 x.d.ds a
def mc(x:kJ)(F:ah):=[(0,af x.b (aZ x.d) 158),(1,F)]
def Jn(x:kJ)(g:Nat)(F:ah):=[(0,af x.b (aZ ⟨x.d.ds,(g:Int),x.d.dp,x.d.ng,x.d.tr⟩) 158),(1,F)]
def ou(d:Int):=(-9223372036854775808:Int)<=d-1/\d-1<=(9223372036854775807:Int)
def iZ(aa:ah)(a:Addr)(b:Int->Prop):=∃(z0:Int),aQ aa a (ba z0)/\b z0
def OQ(x:kJ)(g:Nat)(F:ah):=T1 (zB x g) ⟨x.b,800,none⟩ (fun a=>Br (a==0) ((aw x.b 801/\801<(aZ ⟨x.d.ds,(g:Int),x.d.dp,x.d.ng,x.d.tr⟩).length)/\ar uh x F eM [(0,af x.b ((aZ ⟨x.d.ds,(g:Int),x.d.dp,x.d.ng,x.d.tr⟩).set 801 (ad 0)) 158),(1,F)]) (ar uh x F eM (Jn x g F)))
theorem aky(x:kJ)(F:ah)(s:uh.cond x)(u:uh.aO x F):(∃(a:Nat),JC a x/\(ag (iD x)=ag (iD x)/\True)/\aE (mc x F) (Jn x a F))/\aT fun(g:Nat)_=>JC g x->true=true/\T1 (zB x g) ⟨x.b,800,none⟩ (fun e=>aS (e>0) (T1 (zB x g) ⟨x.b,800,none⟩ (fun d=>ou d/\(0<=d-1/\d-1<(↑(800:Nat):Int))/\iZ (zB x g) ⟨x.b,0+(d-1).toNat*1,none⟩ (fun c=>Br (c==48) (T1 (zB x g) ⟨x.b,800,none⟩ (fun b=>ou b/\(aw x.b 800/\800<(aZ ⟨x.d.ds,(g:Int),x.d.dp,x.d.ng,x.d.tr⟩).length)/\∃(a:Nat),JC a x/\(ag (iD x)=ag (iD x)/\True)/\aE [(0,af x.b ((aZ ⟨x.d.ds,(g:Int),x.d.dp,x.d.ng,x.d.tr⟩).set 800 (ad (b-1))) 158),(1,F)] (Jn x a F)/\a<g)) (OQ x g F)))) (OQ x g F)):=by
 delta JC iD mc Jn T1 zB ou iZ eM OQ aw ad ba ag af aS ay aT;obtain⟨b,ds,nd,dp,ng,tr⟩:=x;obtain⟨hl,p,r⟩:=s;dsimp only at hl p r⊢;have f:∀n l m o,(bq.mk ds n l m o).ds.length=800:=fun _ _ _ _=>hl;have len:∀n,(aZ ⟨ds,n,dp,ng,tr⟩).length=804:=fun n=>jm (f n dp ng tr);refine⟨⟨nd.toNat,⟨ae,rfl⟩,⟨rfl,ao⟩,?_⟩,?_⟩
 ·rw[show((nd.toNat:Nat):Int)=nd by omega];exact aA [0,1]
 rintro n v ⟨hn,j⟩;have out:m7 ds nd.toNat=n->∃(h:Int),aQ (.cells b (aZ ⟨ds,(n:Int),dp,ng,tr⟩) 158) ⟨b,800,none⟩ (.int .i64 h)/\Br (h==0) ((ed ⟨b,801,none⟩ b/\801<(aZ ⟨ds,(n:Int),dp,ng,tr⟩).length)/\ar uh ⟨b,ds,nd,dp,ng,tr⟩ F (returned (tuple #[])) [(0,.cells b ((aZ ⟨ds,(n:Int),dp,ng,tr⟩).set 801 (.int .i64 0)) 158),(1,F)])
   (ar uh ⟨b,ds,nd,dp,ng,tr⟩ F (returned (tuple #[])) [(0,.cells b (aZ ⟨ds,(n:Int),dp,ng,tr⟩) 158),(1,F)]):=fun e=>by
  refine⟨_,jZ (f _ _ _ _),aG (fun q=>⟨⟨al,by rw[len];decide⟩,?_⟩) (fun q=>?_)⟩
  ·have q:((n:Int)==0)=true:=q;have q:n=0:=by have:=eq_of_beq q;omega
   subst q;rw[Ac (f _ _ _ _)];have:kI ⟨ds,nd,dp,ng,tr⟩=⟨ds,((0:Nat):Int),0,ng,tr⟩:=by unfold kI;rw[e];rfl
   exact⟨(),ao,rfl,by show aE _ (bC ([.cells b (aZ (kI ⟨ds,nd,dp,ng,tr⟩)) _]++[F]));rw[this];exact aA [0,1]⟩
  ·have q:((n:Int)==0)=false:=q;have q:¬(n:Int)=0:=ff.1 q;have:kI ⟨ds,nd,dp,ng,tr⟩=⟨ds,(n:Int),dp,ng,tr⟩:=by unfold kI;rw[e,show(n==0)=false from ff.2 ae];rfl
   exact⟨(),ao,rfl,by show aE _ (bC ([.cells b (aZ (kI ⟨ds,nd,dp,ng,tr⟩)) _]++[F]));rw[this];exact aA [0,1]⟩
 refine⟨rfl,_,jZ (f _ _ _ _),bo (fun q=>?_) (fun q=>out ?_)⟩
 ·obtain⟨k,rfl⟩:∃k,n=k+1:=⟨n-1,by dsimp only at q;omega⟩;rw[m7]at j;refine⟨_,jZ (f _ _ _ _),hS,hS,ds.getD k 0,?_,aG (fun q2=>?_) (fun q2=>out ?_)⟩
  ·have:=wG (b:=b) (t:=158) (f ((k+1:Nat):Int) dp ng tr) (i:=k) ae;rw[show 0+(((k+1:Nat):Int)-1).toNat*1=k by omega];exact this
  ·refine⟨_,jZ (f _ _ _ _),hS,⟨al,by rw[len];decide⟩,k,⟨ae,by rw[j,show(ds.getD k 0==48)=true from q2];rfl⟩,⟨rfl,ao⟩,?_,ae⟩;rw[Fl (f _ _ _ _),show(((k+1:Nat):Int)-1)=(k:Int) by omega];exact aA [0,1]
  ·rw[j,show(ds.getD k 0==48)=false from q2];rfl
 ·have:n=0:=by dsimp only at q;omega
  subst this;rw[j];rfl
theorem Xu:aD 184 uh:=fo 35 Tryz.func184 (fun _ _=>[(0,3,dd),(0,10,dd),(0,15,.q [.ex 0 (.int .u8)]),(1,3,dd),(1,7,.w [.ex 0 .any]),(2,3,dd),(3,3,.w [.ex 0 .any])]) [] akx aY bA [] aky
end
section
open Go
structure AG where
 b:Nat
 d:bq
 k:Int
def pb(d:bq)(k:Int):Bool:=
 bif (bif decide (k<0) then true else decide (k>=d.nd)) then false
 else bif (bif d.at_ k.toNat==53 then k+1==d.nd else false) then (bif d.tr then true else (bif decide (k>0) then (u8.wrap (d.at_ (k-1).toNat-48)).tmod 2 !=0 else false))
 else decide (d.at_ k.toNat>=53)
def vd(x:AG):=af x.b (aZ x.d) 158
def ru:aR where
 X:=AG
 args x:=[ag (some ⟨x.b,0,none⟩),ad x.k]
 pre x:=[vd x]
 cond x:=x.d.ok
 val x _:=ay (aj (pb x.d x.k))
 post x _:=[vd x]
def iH(j:Nat):OH:=.q [.ex j (.int .i64)]
def bH(j:Nat):OH:=.q [.ex j (.int .u8)]
def tN(x:AG)(F:ah):=[(0,af x.b (aZ x.d) 158),(1,F)]
def wd(aa:ah)(a:Addr)(b:Bool->Prop):=∃(z0:Bool),aQ aa a (aj z0)/\b z0
def Pz(x:AG)(F:ah):=(0<=x.k/\x.k<(↑(800:Nat):Int))/\iZ (vd x) ⟨x.b,0+x.k.toNat*1,none⟩ (fun a=>ar ru x F (ay (aj (decide (a>=53)))) (tN x F))
theorem aki(x:AG)(F:ah)(l:ru.cond x)(m:ru.aO x F):aS (x.k<0) (ar ru x F cQ (tN x F)) (T1 (vd x) ⟨x.b,800,none⟩ (fun e=>aS (x.k>=e) (ar ru x F cQ (tN x F)) ((0<=x.k/\x.k<(↑(800:Nat):Int))/\iZ (vd x) ⟨x.b,0+x.k.toNat*1,none⟩ (fun d=>Br (d==53) (((-9223372036854775808:Int)<=x.k+1/\x.k+1<=(9223372036854775807:Int))/\T1 (vd x) ⟨x.b,800,none⟩ (fun c=>Br (x.k+1==c) (wd (vd x) ⟨x.b,803,none⟩ (fun b=>Br b (ar ru x F gH (tN x F)) (aS (x.k>0) (((-9223372036854775808:Int)<=x.k-1/\x.k-1<=(9223372036854775807:Int))/\(0<=x.k-1/\x.k-1<(↑(800:Nat):Int))/\iZ (vd x) ⟨x.b,0+(x.k-1).toNat*1,none⟩ (fun a=>(2:Int)≠(0:Int)/\ar ru x F (ay (aj ((u8.wrap (a-48)).tmod (2:Int)!=(0:Int)))) (tN x F))) (ar ru x F cQ (tN x F))))) (Pz x F))) (Pz x F))))):=by
 delta dk cQ tN T1 vd iZ wd gH Pz ad ba aj af aS ay;obtain⟨b,d,k⟩:=x;obtain⟨hl,h,j⟩:=l;dsimp only at hl h j⊢;have g:aE [(0,.cells b (aZ d) 158),(1,F)] [(0,.cells b (aZ d) 158),(1,F)]:=aA [0,1];have fin:∀v:Bool,pb d k=v->ar ru ⟨b,d,k⟩ F (returned (bool v)) [(0,.cells b (aZ d) 158),(1,F)]:=fun v e=>
  ⟨(),ao,by show _=returned (.bool (pb d k));rw[e],g⟩
 have f:∀i:Int,0<=i->i<800->aQ (.cells b (aZ d) 158) ⟨b,0+i.toNat*1,none⟩ (.int .u8 (d.at_ i.toNat)):=fun i a c=>by
  rw[show 0+i.toNat*1=i.toNat by omega];exact wG hl ae
 refine bo (fun q=>fin _ (by unfold pb;rw[bw q];rfl)) (fun q=>⟨_,jZ hl,bo (fun q2=>fin _ (by unfold pb;rw[bF q,bw q2];rfl)) (fun q2=>⟨aK,_,f k ae ae,aG (fun q3=>⟨aK,_,jZ hl,aG (fun q4=>⟨_,afZ hl,aG (fun q5=>fin _ ?_) (fun q5=>bo (fun q6=>⟨aK,aK,_,f (k-1) ae ae,by decide,fin _ ?_⟩) (fun q6=>fin _ ?_))⟩) (fun q4=>⟨aK,_,f k ae ae,fin _ ?_⟩)⟩) (fun q3=>⟨aK,_,f k ae ae,fin _ ?_⟩)⟩)⟩)
 ·unfold pb;rw[bF q,bF q2,show(d.at_ k.toNat==53)=true from q3,show(k+1==d.nd)=true from q4,show d.tr=true from q5];rfl
 ·unfold pb;rw[bF q,bF q2,show(d.at_ k.toNat==53)=true from q3,show(k+1==d.nd)=true from q4,show d.tr=false from q5,bw q6];rfl
 ·unfold pb;rw[bF q,bF q2,show(d.at_ k.toNat==53)=true from q3,show(k+1==d.nd)=true from q4,show d.tr=false from q5,bF q6];rfl
 ·unfold pb;rw[bF q,bF q2,show(d.at_ k.toNat==53)=true from q3,show(k+1==d.nd)=false from q4];rfl
 ·unfold pb;rw[bF q,bF q2,show(d.at_ k.toNat==53)=false from q3];rfl
theorem akh:aD 170 ru:=fo 56 Tryz.func170 (fun _ _=>[(1,7,iH 0),(3,5,bH 0),(3,13,iH 0),(4,3,.q [.ex 0 .bool]),(6,9,bH 0),(6,10,aW),(7,5,bH 0)]) [] aY aY bA [] aki
def t6(d:bq):Nat->Int->Int->Int×Int
 |0,i,n=>(i,n)
 |f+1,i,n=>bif (bif decide (i<d.dp) then decide (i<d.nd) else false) then t6 d f (i+1) (u64.wrap (u64.wrap (n*10)+u64.wrap (u8.wrap (d.at_ i.toNat-48)))) else (i,n)
def vw(d:bq):Nat->Int->Int->Int
 |0,_,n=>n
 |f+1,i,n=>bif decide (i<d.dp) then vw d f (i+1) (u64.wrap (n*10)) else n
def vx(d:bq)(n:Int):Int:=bif pb d d.dp then u64.wrap (n+1) else n
def ml(d:bq):Int:=bif decide (d.dp>20) then 18446744073709551615 else vx d (vw d 1000 (t6 d 1000 0 0).1 (t6 d 1000 0 0).2)
def vy:aR where
 X:=kJ
 args x:=[ag (iD x)]
 pre x:=[pZ x]
 cond x:=x.d.ok
 val x _:=ay (az (ml x.d))
 post x _:=[pZ x]
structure pA where
 i:Int
 n:Int
 f:Nat
def ajc(x:kJ)(F:ah):Nat->Option Inv:=fun
 |0=>some {X:=pA,P:=fun d=>x.d.dp<=20/\0<=d.i/\(d.i<=20)/\900<=d.f+d.i/\ml x.d=vx x.d (vw x.d 1000 (t6 x.d d.f d.i d.n).1 (t6 x.d d.f d.i d.n).2),mu:=fun d=>(20-d.i).toNat,lv:=fun d=>[(0,ag (iD x)),(3,ad d.i),(4,az d.n)],st:=fun _=>[pZ x,F]}
 |2=>some {X:=pA,P:=fun d=>x.d.dp<=20/\0<=d.i/\d.i<=20/\900<=d.f+d.i/\ml x.d=vx x.d (vw x.d d.f d.i d.n),mu:=fun d=>(20-d.i).toNat,lv:=fun d=>[(0,ag (iD x)),(3,ad d.i),(4,az d.n)],st:=fun _=>[pZ x,F]}
 |_=>none
def ajb(x:kJ)(F:ah):Nat->Option Inv:=fun
 |9=>some {X:=pA,P:=fun d=>x.d.dp<=20/\0<=d.i/\d.i<=20/\900<=d.f+d.i/\ml x.d=vx x.d (vw x.d d.f d.i d.n),mu:=fun d=>0,lv:=fun d=>[(0,ag (iD x)),(3,ad d.i),(4,az d.n)],st:=fun _=>[pZ x,F]}
 |_=>none
def In(x:kJ)(a:pA):=x.d.dp<=20/\0<=a.i/\a.i<=20/\900<=a.f+a.i/\ml x.d=vx x.d (vw x.d 1000 (t6 x.d a.f a.i a.n).fst (t6 x.d a.f a.i a.n).snd)
def Q8(f:pA):=(-9223372036854775808:Int)<=f.i+1/\f.i+1<=(9223372036854775807:Int)
def En(e0:kJ)(z:pA):=e0.d.dp<=20/\0<=z.i/\z.i<=20/\900<=z.f+z.i/\ml e0.d=vx e0.d (vw e0.d z.f z.i z.n)
def F3(e0:kJ)(e1:ah)(v0 v1:Value)(a:St):=∃(z:pA),En e0 z/\(ag (iD e0)=ag (iD e0)/\v0=ad z.i/\v1=az z.n/\True)/\aE a (mc e0 e1)
theorem aje(x:kJ)(F:ah)(p:vy.cond x)(z:vy.aO x F):T1 (pZ x) ⟨x.b,801,none⟩ (fun i=>aS (i>20) (ar vy x F (ay (az 18446744073709551615)) (mc x F)) (((∃(a:pA),In x a/\(ag (iD x)=ag (iD x)/\ad 0=ad a.i/\az 0=az a.n/\True)/\aE (mc x F) (mc x F))/\aT fun(f:pA)_=>In x f->T1 (pZ x) ⟨x.b,801,none⟩ (fun d=>aS (f.i<d) (T1 (pZ x) ⟨x.b,800,none⟩ (fun c=>aS (f.i<c) ((0<=f.i/\f.i<(↑(800:Nat):Int))/\iZ (pZ x) ⟨x.b,0+f.i.toNat*1,none⟩ (fun b=>Q8 f/\∃(a:pA),In x a/\(ag (iD x)=ag (iD x)/\ad (f.i+1)=ad a.i/\az (bd (bd (f.n*10)+bd (u8.wrap (b-48))))=az a.n/\True)/\aE (mc x F) (mc x F)/\((20:Int)-a.i).toNat<((20:Int)-f.i).toNat)) (F3 x F (ad f.i) (az f.n) (mc x F)))) (F3 x F (ad f.i) (az f.n) (mc x F))))/\aT fun(h:pA)_=>En x h->F3 x F (ad h.i) (az h.n) (mc x F)/\aT fun(f:pA)_=>En x f->T1 (pZ x) ⟨x.b,801,none⟩ (fun d=>aS (f.i<d) (Q8 f/\∃(a:pA),En x a/\(ag (iD x)=ag (iD x)/\ad (f.i+1)=ad a.i/\az (bd (f.n*10))=az a.n/\True)/\aE (mc x F) (mc x F)/\((20:Int)-a.i).toNat<((20:Int)-f.i).toNat) (T1 (pZ x) ⟨x.b,801,none⟩ (fun c=>aD 170 ru/\true=true/\∃(b:AG),[ag (iD x),ad c]=[ag (some ⟨b.b,0,none⟩),ad b.k]/\[af x.b (aZ x.d) 158]=[af b.b (aZ b.d) 158]/\b.d.ok/\True/\∀(a:Unit),True->Br (pb b.d b.k) (ar vy x F (ay (az (bd (f.n+1)))) (tN b F)) (ar vy x F (ay (az f.n)) (tN b F))))))):=by
 delta T1 pZ mc In iD iZ Q8 En F3 tN ad ba az ag af bd aS ay aT;obtain⟨b,d⟩:=x;have o:d.ok:=p;obtain⟨hl,s,t⟩:=p;dsimp only at hl s t⊢;have j:aE [(0,.cells b (aZ d) 158),(1,F)] [(0,.cells b (aZ d) 158),(1,F)]:=aA [0,1];have fin:∀v:Int,ml d=v->ar vy ⟨b,d⟩ F (returned (int .u64 v)) [(0,.cells b (aZ d) 158),(1,F)]:=fun v e=>
  ⟨(),ao,by show _=returned (.int .u64 (ml d));rw[e],j⟩
 have y:∀i:Int,0<=i->i<800->aQ (.cells b (aZ d) 158) ⟨b,0+i.toNat*1,none⟩ (.int .u8 (d.at_ i.toNat)):=fun i a c=>by
  rw[show 0+i.toNat*1=i.toNat by omega];exact wG hl ae
 refine⟨_,lE hl,bo (fun q=>fin _ (by unfold ml;rw[bw q];rfl)) (fun q=>?_)⟩;refine⟨⟨⟨⟨0,0,1000⟩,⟨ae,a_,a_,a_,by unfold ml;rw[bF q];rfl⟩,aV,j⟩,?_⟩,?_⟩
 ·rintro⟨i,n,f⟩ u ⟨g1,l,g3,g4,g⟩;dsimp only at g1 l g3 g4 g⊢;obtain⟨f,rfl⟩:∃k,f=k+1:=⟨f-1,ae⟩;refine⟨_,lE hl,bo (fun q1=>⟨_,jZ hl,bo (fun q2=>⟨⟨l,ae⟩,_,y i l ae,aK,⟨i+1,_,f⟩,⟨g1,a_,a_,a_,by rw[g,t6,bw q1,bw q2];rfl⟩,aV,j,a_⟩) (fun q2=>⟨⟨i,n,1000⟩,⟨g1,l,g3,a_,by rw[g,t6,bw q1,bF q2];rfl⟩,aV,j⟩)⟩) (fun q1=>⟨⟨i,n,1000⟩,⟨g1,l,g3,a_,by rw[g,t6,bF q1];rfl⟩,aV,j⟩)⟩
 intro r w m;refine⟨⟨r,m,aV,j⟩,?_⟩;rintro⟨i,n,f⟩ u ⟨g1,l,g3,g4,g⟩;dsimp only at g1 l g3 g4 g⊢;obtain⟨f,rfl⟩:∃k,f=k+1:=⟨f-1,ae⟩;refine⟨_,lE hl,bo (fun q1=>⟨aK,⟨i+1,_,f⟩,⟨g1,a_,a_,a_,by rw[g,vw,bw q1];rfl⟩,aV,j,a_⟩) (fun q1=>?_)⟩;have g:ml d=vx d n:=by rw[g,vw,bF q1];rfl
 refine⟨_,lE hl,akh,rfl,⟨b,d,d.dp⟩,rfl,rfl,o,ao,fun _ _=>aG (fun q2=>fin _ (by rw[g];unfold vx;rw[show pb d d.dp=true from q2];rfl)) (fun q2=>fin _ (by rw[g];unfold vx;rw[show pb d d.dp=false from q2];rfl))⟩
theorem ajd:aD 157 vy:=fo 56 Tryz.func157 (fun _ _=>[(1,3,iH 0),(6,4,iH 0),(6,11,iH 0),(8,1,aW),(8,7,bH 0),(8,8,aW),(8,9,aW),(8,10,aW),(9,4,iH 0),(11,1,aW),(12,4,iH 0),(12,5,bv ru),(13,1,aW)]) [] ajc ajb bA [] aje
end
section
open Go
structure SO where
 b:Nat
 h:Int
def Dw(n:Nat):ln where
 X:=SO
 args x:=[.pointer (some ⟨x.b,0,none⟩),.int .i64 0,.int .i64 x.h]
 cond x:=0<=x.h/\x.h<=n
 val x:=.slice (some ⟨x.b,0,none⟩) x.h.toNat n
theorem aaI{P:Program}{o:Oper}{t e:TypeId}{n:Nat}{x l h:Operand}{d:TypeInfo}(k:o.op= .slice t x (some l) (some h) none)(s:P.underlying t=some (.array (P.arrayLen t) (P.elem t)))(hn:P.arrayLen t=n)(r:P.elem t=e)(hi:P.info? e=some d):dR P o (Dw n):=by
 refine⟨fun q w ρ i p=>?_⟩;obtain⟨b,j⟩:=q;obtain⟨f,g⟩:=p;dsimp only at f g;simp only[k,Op.operands,Dw]at i;have a:ρ x= .pointer (some ⟨b,0,none⟩)/\ρ l= .int .i64 0/\ρ h= .int .i64 j:=by simpa using i
 obtain⟨hx,hl,c⟩:=a;have m:=run_sliceAt_array_lh (P:=P) w t ⟨b,0,none⟩ s .i64 .i64 0 j (cE _) f (by rw[hn];exact g);rw[r,run_sizeOf w hi,hn]at m;simp[execOp,k,hx,hl,c,m,slicedAt,Dw,Addr.add]
structure v_ where
 b:Nat
 d:bq
 s:ByteArray
def ss(d:bq)(s:ByteArray):Nat->Int->Bool
 |0,_=>false
 |f+1,i=>bif decide (i>=d.nd) then true else bif d.at_ i.toNat !=aF s i then decide (d.at_ i.toNat<aF s i) else ss d s f (i+1)
def su(d:bq)(s:ByteArray):Bool:=ss d s s.size 0
def vn(x:v_):Option Addr:=some ⟨x.b,0,none⟩
def B6(x:v_):=af x.b (aZ x.d) 158
def u4:aR where
 X:=v_
 args x:=[au (vn x) x.d.nd.toNat 800,ai x.s]
 pre x:=[B6 x]
 cond x:=x.d.ok/\x.s.size<=1000
 val x _:=ay (aj (su x.d x.s))
 post x _:=[B6 x]
def ahT(x:v_)(F:ah):Nat->Option Inv:=fun
 |0=>some {X:=Nat,P:=fun i=>i<=x.s.size/\su x.d x.s=ss x.d x.s (x.s.size-i) i,mu:=fun i=>x.s.size-i,lv:=fun i=>[(0,au (vn x) x.d.nd.toNat 800),(1,ai x.s),(5,ad i)],st:=fun _=>[B6 x,F]}
 |_=>none
def Js(a:Nat)(x:v_):=a<=x.s.size/\su x.d x.s=ss x.d x.s (x.s.size-a) (a:Int)
def sw(x:v_)(F:ah):=[(0,af x.b (aZ x.d) 158),(1,F)]
theorem ahW(x:v_)(F:ah)(l:u4.cond x)(n:u4.aO x F):(∃(a:Nat),Js a x/\(au (vn x) x.d.nd.toNat 800=au (vn x) x.d.nd.toNat 800/\ai x.s=ai x.s/\ad 0=ad ↑a/\True)/\aE (sw x F) (sw x F))/\aT fun(d:Nat)_=>Js d x->aS ((d:Int)<(x.s.size:Int)) (aS ((d:Int)>=(x.d.nd.toNat:Int)) (ar u4 x F gH (sw x F)) (true=true/\(0<=(d:Int)/\(d:Int)<(x.d.nd.toNat:Int))/\iZ (B6 x) ⟨x.b,0+(d:Int).toNat*1,none⟩ (fun b=>(0<=(d:Int)/\(d:Int)<(x.s.size:Int))/\Br (b !=aF x.s (d:Int)) (true=true/\(0<=(d:Int)/\(d:Int)<(x.d.nd.toNat:Int))/\iZ (B6 x) ⟨x.b,0+(d:Int).toNat*1,none⟩ (fun a=>(0<=(d:Int)/\(d:Int)<(x.s.size:Int))/\ar u4 x F (ay (aj (decide (a<aF x.s (d:Int))))) (sw x F))) (((-9223372036854775808:Int)<=(d:Int)+(1:Int)/\(d:Int)+(1:Int)<=(9223372036854775807:Int))/\∃(a:Nat),Js a x/\(au (vn x) x.d.nd.toNat 800=au (vn x) x.d.nd.toNat 800/\ai x.s=ai x.s/\ad ((d:Int)+(1:Int))=ad ↑a/\True)/\aE (sw x F) (sw x F)/\x.s.size-a<x.s.size-d)))) (ar u4 x F cQ (sw x F)):=by
 delta Js vn sw gH iZ B6 dk cQ ad ba ai aj au af aS ay aT;obtain⟨b,d,s⟩:=x;obtain⟨⟨hl,j,k⟩,hs⟩:=l;dsimp only at hl j k hs⊢;have g:aE [(0,.cells b (aZ d) 158),(1,F)] [(0,.cells b (aZ d) 158),(1,F)]:=aA [0,1];have fin:∀v:Bool,su d s=v->ar u4 ⟨b,d,s⟩ F (returned (bool v)) [(0,.cells b (aZ d) 158),(1,F)]:=fun v e=>
  ⟨(),ao,by show _=returned (.bool (su d s));rw[e],g⟩
 have hn:((d.nd.toNat:Nat):Int)=d.nd:=ae;refine⟨⟨0,⟨dq _,rfl⟩,aV,g⟩,?_⟩;rintro i o ⟨hi,c⟩;refine bo (fun q=>?_) (fun q=>fin _ ?_)
 ·obtain⟨f,m⟩:∃f,s.size-i=f+1:=⟨s.size-i-1,ae⟩;rw[m]at c;rw[hn];refine bo (fun q2=>fin _ (by rw[c,ss,bw q2];rfl)) (fun q2=>?_);have h:aQ (.cells b (aZ d) 158) ⟨b,0+(i:Int).toNat*1,none⟩ (.int .u8 (d.at_ (i:Int).toNat)):=by
   rw[show 0+(i:Int).toNat*1=i by omega,cy];exact wG hl ae
  refine⟨rfl,aK,_,h,aK,aG (fun q3=>⟨rfl,aK,_,h,aK,fin _ ?_⟩) (fun q3=>⟨aK,i+1,⟨ae,?_⟩,⟨rfl,rfl,by rfl,ao⟩,g,ae⟩)⟩
  ·rw[c,ss,bF q2,show(d.at_ (i:Int).toNat !=aF s i)=true from q3];rfl
  ·rw[c,ss,bF q2,show(d.at_ (i:Int).toNat !=aF s i)=false from q3,show s.size-(i+1)=f by omega];rfl
 ·rw[c,show s.size-i=0 by omega];rfl
theorem ahV:aD 183 u4:=fo 32 Tryz.func183 (fun _ _=>[(6,3,bH 0),(7,3,bH 0)]) [] ahT aY bA [] ahW
end
end Go.Proofs.YtdkchodgklpomaaGreatDoor
