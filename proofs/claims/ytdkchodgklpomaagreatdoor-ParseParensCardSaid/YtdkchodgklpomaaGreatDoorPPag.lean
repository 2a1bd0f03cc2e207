/- Part of the proof that ParseParens answers true at every input. -/
import Derived.Test.YtdkchodgklpomaaGreatDoorPPaf
set_option linter.all false
namespace Go.Proofs.YtdkchodgklpomaaGreatDoor
set_option maxRecDepth 100000
open Go.Value (int slice string bool pointer agg tuple func float iface nilIface)
open Go.IntKind (i64 u8 u64 i32 u32 u16 i8 i16)
open Go.FloatKind (f64)
open Go.Ending (returned panicked)
section
open Go
structure dn where
 i:Int
 m:Int
 nd:Int
 nm:Int
 dp:Int
 us:Bool
 tr:Bool
 sd:Bool
 sg:Bool
structure p4 where
 m:Int
 e:Int
 n:Bool
 t:Bool
 h:Bool
 i:Int
 o:Bool
def eY(hx:Bool):Int:=bif hx then 16 else 10
def gm(hx:Bool):Int:=bif hx then 16 else 19
def gY(hx:Bool):Int:=bif hx then 112 else 101
def eG(c:Int):Bool:=bif decide (48<=c) then decide (c<=57) else false
def tP(hx:Bool)(c:Int):Bool:=bif (bif eY hx==16 then decide (97<=eA c) else false) then decide (eA c<=102) else false
def Sn(hx:Bool)(m c:Int):Int:=u64.wrap (u64.wrap (m*eY hx)+u64.wrap (u8.wrap (c-48)))
def XJ(m c:Int):Int:=u64.wrap (u64.wrap (m*16)+u64.wrap (u8.wrap (u8.wrap (eA c-97)+10)))
def mE(s:ByteArray)(hx:Bool)(x:dn):Option dn:=
 bif aF s x.i==95 then some {x with us:=true,i:=x.i+1}
 else bif aF s x.i==46 then (bif x.sd then none else some {x with sd:=true,dp:=x.nd,i:=x.i+1})
 else bif eG (aF s x.i) then
  (bif (bif aF s x.i==48 then x.nd==0 else false) then some {x with sg:=true,dp:=x.dp-1,i:=x.i+1}
  else bif decide (x.nm<gm hx) then some {x with sg:=true,nd:=x.nd+1,m:=Sn hx x.m (aF s x.i),nm:=x.nm+1,i:=x.i+1}
  else some {x with sg:=true,nd:=x.nd+1,tr:=(bif aF s x.i !=48 then true else x.tr),i:=x.i+1})
 else bif tP hx (aF s x.i) then
  (bif decide (x.nm<gm hx) then some {x with sg:=true,nd:=x.nd+1,m:=XJ x.m (aF s x.i),nm:=x.nm+1,i:=x.i+1}
  else some {x with sg:=true,nd:=x.nd+1,tr:=true,i:=x.i+1})
 else none
def pR(s:ByteArray)(hx:Bool):Nat->dn->dn
 |0,x=>x
 |f+1,x=>match mE s hx x with|none=>x|some y=>pR s hx f y
def jU(s:ByteArray):Nat->Int->Int->Bool->Int×Int×Bool
 |0,i,e,us=>(i,e,us)
 |f+1,i,e,us=>bif aF s i==95 then jU s f (i+1) e true else bif eG (aF s i) then jU s f (i+1) (bif decide (e<10000) then e*10+aF s i-48 else e) us else (i,e,us)
def oU(s:ByteArray)(ng hx:Bool)(m:Int)(tr us:Bool)(i dp nm:Int):p4:=
 ⟨m,bif m !=0 then dp-nm else 0,ng,tr,hx,i,!(bif us then !(oW (s.extract 0 i.toNat)) else false)⟩
def Ab(ng hx:Bool)(m:Int)(tr:Bool)(i:Int):p4:=⟨m,0,ng,tr,hx,i,false⟩
def sb(s:ByteArray)(ng hx:Bool)(m:Int)(tr us:Bool)(i dp nm sg:Int):p4:=
 bif (bif (bif decide (i>=s.size) then true else decide (aF s i<48)) then true else decide (aF s i>57)) then Ab ng hx m tr i
 else match jU s ((s.size:Int)-i).toNat i 0 us with| (i3,e,a)=>oU s ng hx m tr a i3 (dp+e*sg) nm
def Aa(s:ByteArray)(ng hx:Bool)(m:Int)(tr us:Bool)(i dp nm:Int):p4:=
 bif decide (i+1>=s.size) then Ab ng hx m tr (i+1)
 else bif aF s (i+1)==43 then sb s ng hx m tr us (i+1+1) dp nm 1
 else bif aF s (i+1)==45 then sb s ng hx m tr us (i+1+1) dp nm (-1)
 else sb s ng hx m tr us (i+1) dp nm 1
def pQ(s:ByteArray)(hx:Bool)(i:Int):Bool:=bif decide (i<s.size) then eA (aF s i)==gY hx else false
def tO(s:ByteArray)(ng hx:Bool)(m:Int)(tr us:Bool)(i dp nm:Int):p4:=
 bif pQ s hx i then Aa s ng hx m tr us i dp nm
 else bif eY hx==16 then Ab ng hx m tr i
 else oU s ng hx m tr us i dp nm
def xy(s:ByteArray)(ng hx:Bool)(m:Int)(tr us:Bool)(i dp nm:Int):p4:=
 bif eY hx==16 then tO s ng hx m tr us i (dp*4) (nm*4) else tO s ng hx m tr us i dp nm
def oT(s:ByteArray)(ng hx:Bool)(x:dn):p4:=
 bif !x.sg then Ab ng hx x.m x.tr x.i
 else bif !x.sd then xy s ng hx x.m x.tr x.us x.i x.nd x.nm else xy s ng hx x.m x.tr x.us x.i x.dp x.nm
def bX(s:ByteArray):Bool:=bif aF s 0==43 then false else aF s 0==45
def c3(s:ByteArray):Int:=bif aF s 0==43 then 1 else bif aF s 0==45 then 1 else 0
def bp(s:ByteArray):Bool:=bif (bif decide (c3 s+2<s.size) then aF s (c3 s)==48 else false) then eA (aF s (c3 s+1))==120 else false
def lW(s:ByteArray):Int:=bif bp s then c3 s+2 else c3 s
def fc(s:ByteArray):p4:=
 bif decide (0>=(s.size:Int)) then Ab false false 0 false 0
 else oT s (bX s) (bp s) (pR s (bp s) ((s.size:Int)-lW s).toNat ⟨lW s,0,0,0,0,false,false,false,false⟩)
def KN(r:p4):Value:=.tuple #[.int .u64 r.m,.int .i64 r.e,.bool r.n,.bool r.t,.bool r.h,.int .i64 r.i,.bool r.o]
def mF:aQ where
 X:=bK
 args x:=[ai x.s]
 cond x:=x.s.size<=1000000000
 val x _:=ax (KN (fc x.s))
structure cX where
 m:Int
 tr:Bool
 us:Bool
 i:Int
 dp:Int
 nm:Int
 sg:Int
 e:Int
def qN(x:bK)(ng hx:Bool)(m:Int)(tr:Bool)(i:Int)(us:Bool):List (Nat×Value):=[(0,.string x.s),(2,.int .u64 m),(3,.int .i64 0),(4,.bool ng),(5,.bool tr),(6,.bool hx),(7,.int .i64 i),(8,.bool false),(9,.bool us)]
def tQ(hx:Bool):List (Nat×Value):=[(10,.int .u64 (eY hx)),(11,.int .i64 (gm hx)),(12,.int .u8 (gY hx))]
def lX(s:ByteArray)(x:dn):Prop:=0<=x.i/\x.i<=s.size/\0<=x.m/\x.m<=18446744073709551615/\0<=x.nd/\x.nd<=x.i/\ -x.i<=x.dp/\x.dp<=x.i/\0<=x.nm/\x.nm<=x.i
def nX(s:ByteArray)(x:cX):Prop:=0<=x.i/\x.i<=s.size/\0<=x.m/\x.m<=18446744073709551615/\ -5000000000<=x.dp/\x.dp<=5000000000/\0<=x.nm/\x.nm<=5000000000
def So:(T:Type)×(dn->T):=⟨dn,fun d=>d⟩
def XK:(T:Type)×(cX->T):=⟨cX,fun d=>d⟩
def KM(x:bK)(d:dn):List (Nat×Value):=qN x (bX x.s) (bp x.s) d.m d.tr d.i d.us++tQ (bp x.s)++[(13,.bool d.sd),(14,.bool d.sg),(15,.int .i64 d.nd),(16,.int .i64 d.nm),(17,.int .i64 d.dp)]
def lL(d:cX):=aA d.m
def qw(d:cX):=ad d.i
def alM(x:bK)(F:ah):Nat->Option Inv:=fun
 |9=>some {X:=Unit,P:=fun _=>0<x.s.size,mu:=fun _=>0,lv:=fun _=>qN x (bX x.s) false 0 false (c3 x.s) false,st:=fun _=>[F]}
 |13=>some {X:=Unit,P:=fun _=>0<x.s.size,mu:=fun _=>0,lv:=fun _=>qN x (bX x.s) false 0 false (c3 x.s) false++tQ false++[(54,.bool (bp x.s))],st:=fun _=>[F]}
 |18=>some {X:=Unit,P:=fun _=>0<x.s.size,mu:=fun _=>0,lv:=fun _=>qN x (bX x.s) (bp x.s) 0 false (lW x.s) false++tQ (bp x.s),st:=fun _=>[F]}
 |33=>some {X:=dn,gh:=some So,P:=fun d=>lX x.s d/\d.i<x.s.size,mu:=fun _=>0,lv:=fun d=>KM x d++[(18,.int .u8 (aF x.s d.i)),(76,.bool (eG (aF x.s d.i)))],st:=fun _=>[F]}
 |44=>some {X:=dn,gh:=some So,P:=fun d=>lX x.s d/\d.i<x.s.size,mu:=fun _=>0,lv:=fun d=>KM x d++[(18,.int .u8 (aF x.s d.i)),(109,.bool (tP (bp x.s) (aF x.s d.i)))],st:=fun _=>[F]}
 |51=>some {X:=dn,P:=fun d=>lX x.s d/\fc x.s=oT x.s (bX x.s) (bp x.s) d,mu:=fun _=>0,lv:=fun d=>KM x d,st:=fun _=>[F]}
 |54=>some {X:=cX,P:=fun d=>nX x.s d/\d.dp<=1000000000/\ -1000000000<=d.dp/\d.nm<=1000000000/\fc x.s=xy x.s (bX x.s) (bp x.s) d.m d.tr d.us d.i d.dp d.nm,mu:=fun _=>0,lv:=fun d=>qN x (bX x.s) (bp x.s) d.m d.tr d.i d.us++tQ (bp x.s)++[(16,.int .i64 d.nm),(17,.int .i64 d.dp)],st:=fun _=>[F]}
 |57=>some {X:=cX,P:=fun d=>nX x.s d/\fc x.s=tO x.s (bX x.s) (bp x.s) d.m d.tr d.us d.i d.dp d.nm,mu:=fun _=>0,lv:=fun d=>qN x (bX x.s) (bp x.s) d.m d.tr d.i d.us++tQ (bp x.s)++[(16,.int .i64 d.nm),(17,.int .i64 d.dp)],st:=fun _=>[F]}
 |58=>some {X:=cX,P:=fun d=>nX x.s d/\fc x.s=tO x.s (bX x.s) (bp x.s) d.m d.tr d.us d.i d.dp d.nm,mu:=fun _=>0,lv:=fun d=>qN x (bX x.s) (bp x.s) d.m d.tr d.i d.us++tQ (bp x.s)++[(16,.int .i64 d.nm),(17,.int .i64 d.dp),(161,.bool (pQ x.s (bp x.s) d.i))],st:=fun _=>[F]}
 |67=>some {X:=cX,P:=fun d=>nX x.s d/\(d.sg=1\/d.sg= -1)/\fc x.s=sb x.s (bX x.s) (bp x.s) d.m d.tr d.us d.i d.dp d.nm d.sg,mu:=fun _=>0,lv:=fun d=>qN x (bX x.s) (bp x.s) d.m d.tr d.i d.us++tQ (bp x.s)++[(16,.int .i64 d.nm),(17,.int .i64 d.dp),(19,.int .i64 d.sg)],st:=fun _=>[F]}
 |71=>some {X:=cX,gh:=some XK,P:=fun d=>nX x.s d/\d.i<x.s.size/\(aF x.s d.i==95||eG (aF x.s d.i))=true,mu:=fun _=>0,lv:=fun d=>qN x (bX x.s) (bp x.s) d.m d.tr d.i d.us++tQ (bp x.s)++[(16,.int .i64 d.nm),(17,.int .i64 d.dp),(19,.int .i64 d.sg),(20,.int .i64 d.e)],st:=fun _=>[F]}
 |75=>some {X:=cX,P:=fun d=>nX x.s d/\(d.sg=1\/d.sg= -1)/\0<=d.e/\d.e<=100100/\fc x.s=oU x.s (bX x.s) (bp x.s) d.m d.tr d.us d.i (d.dp+d.e*d.sg) d.nm,mu:=fun _=>0,lv:=fun d=>qN x (bX x.s) (bp x.s) d.m d.tr d.i d.us++tQ (bp x.s)++[(16,.int .i64 d.nm),(17,.int .i64 d.dp),(19,.int .i64 d.sg),(20,.int .i64 d.e)],st:=fun _=>[F]}
 |77=>some {X:=cX,P:=fun d=>0<=d.i/\d.i<=x.s.size/\0<=d.nm/\d.nm<=5000000000/\ -6000000000<=d.dp/\d.dp<=6000000000/\fc x.s=oU x.s (bX x.s) (bp x.s) d.m d.tr d.us d.i d.dp d.nm,mu:=fun _=>0,lv:=fun d=>qN x (bX x.s) (bp x.s) d.m d.tr d.i d.us++[(16,.int .i64 d.nm),(17,.int .i64 d.dp)],st:=fun _=>[F]}
 |79=>some {X:=cX,P:=fun d=>0<=d.i/\d.i<=x.s.size/\fc x.s=⟨d.m,d.e,bX x.s,d.tr,bp x.s,d.i,!(bif d.us then !(oW (x.s.extract 0 d.i.toNat)) else false)⟩,mu:=fun _=>0,lv:=fun d=>[(0,ai x.s),(2,lL d),(3,ad d.e),(4,aj (bX x.s)),(5,aj d.tr),(6,aj (bp x.s)),(7,qw d),(8,c6),(9,aj d.us)],st:=fun _=>[F]}
 |_=>none
def alN(x:bK)(F:ah):Nat->Option Inv:=fun
 |1=>some {X:=dn,P:=fun d=>lX x.s d/\fc x.s=oT x.s (bX x.s) (bp x.s) (pR x.s (bp x.s) ((x.s.size:Int)-d.i).toNat d),mu:=fun d=>((x.s.size:Int)-d.i).toNat,lv:=fun d=>KM x d,st:=fun _=>[F]}
 |5=>some {X:=cX,P:=fun d=>nX x.s d/\(d.sg=1\/d.sg= -1)/\0<=d.e/\d.e<=100100/\fc x.s=(match jU x.s ((x.s.size:Int)-d.i).toNat d.i d.e d.us with| (i3,e,a)=>oU x.s (bX x.s) (bp x.s) d.m d.tr a i3 (d.dp+e*d.sg) d.nm),mu:=fun d=>((x.s.size:Int)-d.i).toNat,lv:=fun d=>qN x (bX x.s) (bp x.s) d.m d.tr d.i d.us++tQ (bp x.s)++[(16,.int .i64 d.nm),(17,.int .i64 d.dp),(19,.int .i64 d.sg),(20,.int .i64 d.e)],st:=fun _=>[F]}
 |_=>none
def alO(b:bK)(a:ah):List (Nat×Nat×OH):=[(12,16,aW kY),(38,2,aX),(39,2,aX),(39,3,aX),(39,4,aX),(43,4,aW kY),(43,9,aW kY),(47,1,aX),(48,2,aW kY),(48,3,aX),(48,4,aX),(48,5,aX),(48,6,aX),(57,8,aW kY),(79,5,aW vt)]
noncomputable def XM:Func:={Tryz.f124 with body:=some (eF (fun _=>none) (g_ Tryz.f124))}
def XN(x:bK):List (Nat×Value):=[(0,.string x.s)]
noncomputable def XO(x:aQ.X mF)(F:ah):jc where
 op:=hk ((alO x F)++[])
 yB:=alN x F
 cut:=alM x F
 yT:=(fun _=>[])
def BF:=(-9223372036854775808:Int)<=(0:Int)+(1:Int)/\(0:Int)+(1:Int)<=(9223372036854775807:Int)
def Gz(e0:bK)(e1:ah)(v0 v1:Value)(a:St):=∃(z:Unit),0<e0.s.size/\(ai e0.s=ai e0.s/\aA 0=aA 0/\ad 0=ad 0/\v0=aj (bX e0.s)/\aj false=aj false/\aj false=aj false/\v1=ad (c3 e0.s)/\aj false=aj false/\aj false=aj false/\True)/\aE a [(0,e1)]
def B0:=ad ((0:Int)+(1:Int))
def Qz(x:bK):=(-9223372036854775808:Int)<=c3 x.s+2/\c3 x.s+2<=(9223372036854775807:Int)
def GA(e0:bK)(e1:ah)(v0 v1 v2 v3:Value)(a:St):=∃(z:Unit),0<e0.s.size/\(ai e0.s=ai e0.s/\aA 0=aA 0/\ad 0=ad 0/\aj (bX e0.s)=aj (bX e0.s)/\aj false=aj false/\aj false=aj false/\ad (c3 e0.s)=ad (c3 e0.s)/\aj false=aj false/\aj false=aj false/\v0=aA (eY false)/\v1=ad (gm false)/\v2=a8 (gY false)/\v3=aj (bp e0.s)/\True)/\aE a [(0,e1)]
def MD(e0:bK)(e1:ah)(v0 v1 v2 v3 v4:Value)(a:St):=∃(z:Unit),0<e0.s.size/\(ai e0.s=ai e0.s/\aA 0=aA 0/\ad 0=ad 0/\aj (bX e0.s)=aj (bX e0.s)/\aj false=aj false/\v0=aj (bp e0.s)/\v1=ad (lW e0.s)/\aj false=aj false/\aj false=aj false/\v2=aA (eY (bp e0.s))/\v3=ad (gm (bp e0.s))/\v4=a8 (gY (bp e0.s))/\True)/\aE a [(0,e1)]
def Iy(e0:bK)(z:dn):=lX e0.s z/\fc e0.s=oT e0.s (bX e0.s) (bp e0.s) (pR e0.s (bp e0.s) (e0.s.size-z.i).toNat z)
def wn(i:dn):=(-9223372036854775808:Int)<=i.i+1/\i.i+1<=(9223372036854775807:Int)
def OF(e0:bK)(v0:Value)(z:dn)(v1 v2 v3 v4 v5 a b c:Value):=ai e0.s=ai e0.s/\v0=aA z.m/\ad 0=ad 0/\aj (bX e0.s)=aj (bX e0.s)/\v1=aj z.tr/\aj (bp e0.s)=aj (bp e0.s)/\v2=ad z.i/\aj false=aj false/\v3=aj z.us/\aA (eY (bp e0.s))=aA (eY (bp e0.s))/\ad (gm (bp e0.s))=ad (gm (bp e0.s))/\a8 (gY (bp e0.s))=a8 (gY (bp e0.s))/\v4=aj z.sd/\v5=aj z.sg/\a=ad z.nd/\b=ad z.nm/\c=ad z.dp/\True
def vK(e0:bK)(e1:ah)(v0 v1 v2 v3 v4 v5 b c d:Value)(a:St)(mm:Nat):=∃(z:dn),Iy e0 z/\OF e0 v0 z v1 v2 v3 v4 v5 b c d/\aE a [(0,e1)]/\(e0.s.size-z.i).toNat<mm
def pI(i:dn):=aA i.m
def wR(i:dn):=ad (i.i+1)
def rX(l:dn):=ad l.nd
def pH(i:dn):=ad i.nm
def qv(i:dn):=ad i.dp
def S8(e0:bK)(e1:ah)(v0 v1 v2 v3 v4 v5 b c d:Value)(a:St):=∃(z:dn),(lX e0.s z/\fc e0.s=oT e0.s (bX e0.s) (bp e0.s) z)/\OF e0 v0 z v1 v2 v3 v4 v5 b c d/\aE a [(0,e1)]
def H9(x:bK)(F:ah)(l:dn):=S8 x F (pI l) (aj l.tr) (ad l.i) (aj l.us) (aj l.sd) (aj l.sg) (rX l) (pH l) (qv l) [(0,F)]
def EW(e0:bK)(z e1:dn):=(lX e0.s z/\z.i<e0.s.size)/\So.snd z=e1
def ME(e0:bK)(e1:dn)(b:ah)(v0 v1 v2 v3 v4 v5 d e f v9 a:Value)(c:St):=∃(z:dn),EW e0 z e1/\(ai e0.s=ai e0.s/\v0=aA z.m/\ad 0=ad 0/\aj (bX e0.s)=aj (bX e0.s)/\v1=aj z.tr/\aj (bp e0.s)=aj (bp e0.s)/\v2=ad z.i/\aj false=aj false/\v3=aj z.us/\aA (eY (bp e0.s))=aA (eY (bp e0.s))/\ad (gm (bp e0.s))=ad (gm (bp e0.s))/\a8 (gY (bp e0.s))=a8 (gY (bp e0.s))/\v4=aj z.sd/\v5=aj z.sg/\d=ad z.nd/\e=ad z.nm/\f=ad z.dp/\v9=a8 (aF e0.s z.i)/\a=aj (eG (aF e0.s z.i))/\True)/\aE c [(0,b)]
def QQ(i:dn):=(-9223372036854775808:Int)<=i.nd+1/\i.nd+1<=(9223372036854775807:Int)
def QR(i:dn):=(-9223372036854775808:Int)<=i.nm+1/\i.nm+1<=(9223372036854775807:Int)
def Pc(i:dn)(x:bK)(F:ah)(l:dn):=wn i/\vK x F (pI i) (aj true) (wR i) (aj i.us) (aj i.sd) (aj true) (ad (i.nd+1)) (pH i) (qv i) [(0,F)] ((x.s.size-l.i).toNat)
def Pk(i:dn)(x:bK)(F:ah)(l:dn):=QQ i/\aS (i.nm<gm (bp x.s)) (QR i/\wn i/\vK x F (aA (bf (bf (i.m*eY (bp x.s))+bf (u8.wrap (aF x.s i.i-48))))) (aj i.tr) (wR i) (aj i.us) (aj i.sd) (aj true) (ad (i.nd+1)) (ad (i.nm+1)) (qv i) [(0,F)] ((x.s.size-l.i).toNat)) (Br (aF x.s i.i !=48) (Pc i x F l) (wn i/\vK x F (pI i) (aj i.tr) (wR i) (aj i.us) (aj i.sd) (aj true) (ad (i.nd+1)) (pH i) (qv i) [(0,F)] ((x.s.size-l.i).toNat)))
def MF(e0:bK)(e1:dn)(b:ah)(v0 v1 v2 v3 v4 v5 d e f v9 a:Value)(c:St):=∃(z:dn),EW e0 z e1/\(ai e0.s=ai e0.s/\v0=aA z.m/\ad 0=ad 0/\aj (bX e0.s)=aj (bX e0.s)/\v1=aj z.tr/\aj (bp e0.s)=aj (bp e0.s)/\v2=ad z.i/\aj false=aj false/\v3=aj z.us/\aA (eY (bp e0.s))=aA (eY (bp e0.s))/\ad (gm (bp e0.s))=ad (gm (bp e0.s))/\a8 (gY (bp e0.s))=a8 (gY (bp e0.s))/\v4=aj z.sd/\v5=aj z.sg/\d=ad z.nd/\e=ad z.nm/\f=ad z.dp/\v9=a8 (aF e0.s z.i)/\a=aj (tP (bp e0.s) (aF e0.s z.i))/\True)/\aE c [(0,b)]
def O4(x:bK)(g:dn)(F:ah)(i:dn):=MF x g F (pI i) (aj i.tr) (ad i.i) (aj i.us) (aj i.sd) (aj i.sg) (rX i) (pH i) (qv i) (a8 (aF x.s i.i)) (aj (true==false)) [(0,F)]
def Pr(e0:bK)(z:cX):=nX e0.s z/\z.dp<=1000000000/\(-1000000000:Int)<=z.dp/\z.nm<=1000000000/\fc e0.s=xy e0.s (bX e0.s) (bp e0.s) z.m z.tr z.us z.i z.dp z.nm
def OD(e0:bK)(v0:Value)(z:cX)(v1 v2 v3 v4 v5:Value):=ai e0.s=ai e0.s/\v0=aA z.m/\ad 0=ad 0/\aj (bX e0.s)=aj (bX e0.s)/\v1=aj z.tr/\aj (bp e0.s)=aj (bp e0.s)/\v2=ad z.i/\aj false=aj false/\v3=aj z.us/\aA (eY (bp e0.s))=aA (eY (bp e0.s))/\ad (gm (bp e0.s))=ad (gm (bp e0.s))/\a8 (gY (bp e0.s))=a8 (gY (bp e0.s))/\v4=ad z.nm/\v5=ad z.dp/\True
def MG(e0:bK)(e1:ah)(v0 v1 v2 v3 v4 v5:Value)(a:St):=∃(z:cX),Pr e0 z/\OD e0 v0 z v1 v2 v3 v4 v5/\aE a [(0,e1)]
def En(e0:bK)(z:cX):=nX e0.s z/\fc e0.s=tO e0.s (bX e0.s) (bp e0.s) z.m z.tr z.us z.i z.dp z.nm
def MH(e0:bK)(e1:ah)(v0 v1 v2 v3 v4 v5:Value)(a:St):=∃(z:cX),En e0 z/\OD e0 v0 z v1 v2 v3 v4 v5/\aE a [(0,e1)]
def oH(g:cX):=ad g.nm
def pG(g:cX):=ad g.dp
def uS(g:cX)(x:bK):=0<=g.i/\g.i<x.s.size
def MI(e0:bK)(e1:ah)(v0 v1 v2 v3 v4 v5 b:Value)(a:St):=∃(z:cX),En e0 z/\(ai e0.s=ai e0.s/\v0=aA z.m/\ad 0=ad 0/\aj (bX e0.s)=aj (bX e0.s)/\v1=aj z.tr/\aj (bp e0.s)=aj (bp e0.s)/\v2=ad z.i/\aj false=aj false/\v3=aj z.us/\aA (eY (bp e0.s))=aA (eY (bp e0.s))/\ad (gm (bp e0.s))=ad (gm (bp e0.s))/\a8 (gY (bp e0.s))=a8 (gY (bp e0.s))/\v4=ad z.nm/\v5=ad z.dp/\b=aj (pQ e0.s (bp e0.s) z.i)/\True)/\aE a [(0,e1)]
def Ep(k:cX):=(-9223372036854775808:Int)<=k.i+1/\k.i+1<=(9223372036854775807:Int)
def Qf(k:cX):=(-9223372036854775808:Int)<=k.i+1+(1:Int)/\k.i+1+(1:Int)<=(9223372036854775807:Int)
def P5(e0:bK)(z:cX):=nX e0.s z/\(z.sg=1\/z.sg=(-1:Int))/\fc e0.s=sb e0.s (bX e0.s) (bp e0.s) z.m z.tr z.us z.i z.dp z.nm z.sg
def GB(e0:bK)(e1:ah)(v0 v1 v2 v3 v4 v5 b:Value)(a:St):=∃(z:cX),P5 e0 z/\(ai e0.s=ai e0.s/\v0=aA z.m/\ad 0=ad 0/\aj (bX e0.s)=aj (bX e0.s)/\v1=aj z.tr/\aj (bp e0.s)=aj (bp e0.s)/\v2=ad z.i/\aj false=aj false/\v3=aj z.us/\aA (eY (bp e0.s))=aA (eY (bp e0.s))/\ad (gm (bp e0.s))=ad (gm (bp e0.s))/\a8 (gY (bp e0.s))=a8 (gY (bp e0.s))/\v4=ad z.nm/\v5=ad z.dp/\b=ad z.sg/\True)/\aE a [(0,e1)]
def D8(x:bK)(F:ah)(i:cX):=ar mF x F (ax (tuple ⟨[aA i.m,ad 0,aj (bX x.s),aj i.tr,aj (bp x.s),ad i.i,aj false]⟩)) [(0,F)]
def HQ(e0:bK)(z:cX):=nX e0.s z/\(z.sg=1\/z.sg=(-1:Int))/\0<=z.e/\z.e<=100100/\(fc e0.s=match jU e0.s (e0.s.size-z.i).toNat z.i z.e z.us with| (i3,e,a)=>oU e0.s (bX e0.s) (bp e0.s) z.m z.tr a i3 (z.dp+e*z.sg) z.nm)
def Ra(e0:bK)(z e1:cX):=(nX e0.s z/\z.i<e0.s.size/\(aF e0.s z.i==95||eG (aF e0.s z.i))=true)/\XK.snd z=e1
def JL(e0:bK)(v0:Value)(z:cX)(v1 v2 v3 v4 v5 a b:Value):=ai e0.s=ai e0.s/\v0=aA z.m/\ad 0=ad 0/\aj (bX e0.s)=aj (bX e0.s)/\v1=aj z.tr/\aj (bp e0.s)=aj (bp e0.s)/\v2=ad z.i/\aj false=aj false/\v3=aj z.us/\aA (eY (bp e0.s))=aA (eY (bp e0.s))/\ad (gm (bp e0.s))=ad (gm (bp e0.s))/\a8 (gY (bp e0.s))=a8 (gY (bp e0.s))/\v4=ad z.nm/\v5=ad z.dp/\a=ad z.sg/\b=ad z.e/\True
def S9(e0:bK)(e1:cX)(a:ah)(v0 v1 v2 v3 v4 v5 c d:Value)(b:St):=∃(z:cX),Ra e0 z e1/\JL e0 v0 z v1 v2 v3 v4 v5 c d/\aE b [(0,a)]
def QH(x:bK)(d:cX)(F:ah)(g:cX):=S9 x d F (lL g) (aj g.tr) (qw g) (aj g.us) (oH g) (pG g) (ad g.sg) (ad g.e) [(0,F)]
def Py(e0:bK)(z:cX):=nX e0.s z/\(z.sg=1\/z.sg=(-1:Int))/\0<=z.e/\z.e<=100100/\fc e0.s=oU e0.s (bX e0.s) (bp e0.s) z.m z.tr z.us z.i (z.dp+z.e*z.sg) z.nm
def SM(e0:bK)(e1:ah)(v0 v1 v2 v3 v4 v5 b c:Value)(a:St):=∃(z:cX),Py e0 z/\JL e0 v0 z v1 v2 v3 v4 v5 b c/\aE a [(0,e1)]
def Ql(x:bK)(F:ah)(g:cX):=SM x F (lL g) (aj g.tr) (qw g) (aj g.us) (oH g) (pG g) (ad g.sg) (ad g.e) [(0,F)]
def OG(g:cX)(x:bK)(d:cX)(F:ah):=uS g x/\Br (aF x.s g.i==95) (QH x d F g) (Ql x F g)
def FU(e0:bK)(e1:ah)(v0 v1 v2 v3 v4 v5 b c:Value)(a:St)(mm:Nat):=∃(z:cX),HQ e0 z/\JL e0 v0 z v1 v2 v3 v4 v5 b c/\aE a [(0,e1)]/\(e0.s.size-z.i).toNat<mm
def O8(z:cX)(e0:bK):=0<=z.i/\z.i<=e0.s.size/\0<=z.nm/\z.nm<=5000000000/\(-6000000000:Int)<=z.dp/\z.dp<=6000000000/\fc e0.s=oU e0.s (bX e0.s) (bp e0.s) z.m z.tr z.us z.i z.dp z.nm
def Lc(e0:bK)(e1:ah)(v0 v1 v2 v3 v4 v5:Value)(a:St):=∃(z:cX),O8 z e0/\(ai e0.s=ai e0.s/\v0=aA z.m/\ad 0=ad 0/\aj (bX e0.s)=aj (bX e0.s)/\v1=aj z.tr/\aj (bp e0.s)=aj (bp e0.s)/\v2=ad z.i/\aj false=aj false/\v3=aj z.us/\v4=ad z.nm/\v5=ad z.dp/\True)/\aE a [(0,e1)]
def PJ(z:cX)(e0:bK):=0<=z.i/\z.i<=e0.s.size/\fc e0.s=⟨z.m,z.e,bX e0.s,z.tr,bp e0.s,z.i,!bif z.us then !oW (e0.s.extract 0 z.i.toNat) else false⟩
def Ld(e0:bK)(e1:ah)(v0 v1 v2 v3 v4:Value)(a:St):=∃(z:cX),PJ z e0/\(ai e0.s=ai e0.s/\v0=aA z.m/\v1=ad z.e/\aj (bX e0.s)=aj (bX e0.s)/\v2=aj z.tr/\aj (bp e0.s)=aj (bp e0.s)/\v3=ad z.i/\aj false=aj false/\v4=aj z.us/\True)/\aE a [(0,e1)]
def PK(x:bK)(F:ah)(d:cX):=ar mF x F (ax (tuple ⟨[aA d.m,ad d.e,aj (bX x.s),aj d.tr,aj (bp x.s),ad d.i,aj true]⟩)) [(0,F)]
theorem alR(x:bK)(F:ah)(hc:mF.cond x)(hr:mF.aO x F):aS (0>=(x.s.size:Int)) (ar mF x F (ax (tuple ⟨[aA 0,ad 0,aj false,aj false,aj false,ad 0,aj false]⟩)) [(0,F)]) ((qn x/\Br (uQ x) (BF/\Gz x F c6 B0 [(0,F)]) (Br (tj x) (BF/\Gz x F (aj true) B0 [(0,F)]) (Gz x F c6 (ad 0) [(0,F)])))/\aT fun(u:Unit)_=>0<x.s.size->((Qz x/\aS (c3 x.s+2<(x.s.size:Int)) ((0<=c3 x.s/\c3 x.s<x.s.size)/\Br (aF x.s (c3 x.s)==48) (((-9223372036854775808:Int)<=c3 x.s+1/\c3 x.s+1<=(9223372036854775807:Int))/\(0<=c3 x.s+1/\c3 x.s+1<(x.s.size:Int))/\nn [a8 (aF x.s (c3 x.s+1))] (fun c b=>GA x F (aA 10) (ad 19) (a8 101) (aj (eA c.c==120)) [(0,F)])) (GA x F (aA 10) (ad 19) (a8 101) c6 [(0,F)])) (GA x F (aA 10) (ad 19) (a8 101) c6 [(0,F)]))/\aT fun(c:Unit)_=>0<x.s.size->Br (bp x.s) (Qz x/\MD x F (aj true) (ad (c3 x.s+2)) (aA 16) (ad 16) (a8 112) [(0,F)]) (MD x F c6 (ad (c3 x.s)) (aA (eY false)) (ad (gm false)) (a8 (gY false)) [(0,F)]))/\aT fun(s:Unit)_=>0<x.s.size->((∃(a:dn),Iy x a/\(ai x.s=ai x.s/\aA 0=aA a.m/\ad 0=ad 0/\aj (bX x.s)=aj (bX x.s)/\aj false=aj a.tr/\aj (bp x.s)=aj (bp x.s)/\ad (lW x.s)=ad a.i/\aj false=aj false/\aj false=aj a.us/\aA (eY (bp x.s))=aA (eY (bp x.s))/\ad (gm (bp x.s))=ad (gm (bp x.s))/\a8 (gY (bp x.s))=a8 (gY (bp x.s))/\aj false=aj a.sd/\aj false=aj a.sg/\ad 0=ad a.nd/\ad 0=ad a.nm/\ad 0=ad a.dp/\True)/\aE [(0,F)] [(0,F)])/\aT fun(l:dn)_=>Iy x l->aS (l.i<x.s.size) ((0<=l.i/\l.i<x.s.size)/\Br (true==(aF x.s l.i==95)) (wn l/\vK x F (pI l) (aj l.tr) (wR l) (aj true) (aj l.sd) (aj l.sg) (rX l) (pH l) (qv l) [(0,F)] ((x.s.size-l.i).toNat)) (Br (true==(aF x.s l.i==46)) (Br l.sd (H9 x F l) (wn l/\vK x F (pI l) (aj l.tr) (wR l) (aj l.us) (aj true) (aj l.sg) (rX l) (pH l) (rX l) [(0,F)] ((x.s.size-l.i).toNat))) (∃(j:dn),aS (48<=aF x.s l.i) (ME x j F (pI l) (aj l.tr) (ad l.i) (aj l.us) (aj l.sd) (aj l.sg) (rX l) (pH l) (qv l) (a8 (aF x.s l.i)) (aj (true==decide (aF x.s l.i<=57))) [(0,F)]) (ME x j F (pI l) (aj l.tr) (ad l.i) (aj l.us) (aj l.sd) (aj l.sg) (rX l) (pH l) (qv l) (a8 (aF x.s l.i)) (aj (true==false)) [(0,F)])/\aT fun(i:dn)_=>EW x i j->Br (eG (aF x.s i.i)) (Br (aF x.s i.i==48) (Br (i.nd==0) (((-9223372036854775808:Int)<=i.dp-1/\i.dp-1<=(9223372036854775807:Int))/\wn i/\vK x F (pI i) (aj i.tr) (wR i) (aj i.us) (aj i.sd) (aj true) (rX i) (pH i) (ad (i.dp-1)) [(0,F)] ((x.s.size-l.i).toNat)) (Pk i x F l)) (Pk i x F l)) (∃(g:dn),Br (eY (bp x.s)==16) (nn [a8 (aF x.s i.i)] (fun f d=>aS (97<=eA f.c) (nn [a8 (aF x.s i.i)] (fun c b=>MF x g F (pI i) (aj i.tr) (ad i.i) (aj i.us) (aj i.sd) (aj i.sg) (rX i) (pH i) (qv i) (a8 (aF x.s i.i)) (aj (true==decide (eA c.c<=102))) [(0,F)])) (O4 x g F i))) (O4 x g F i)/\aT fun(f:dn)_=>EW x f g->Br (tP (bp x.s) (aF x.s f.i)) (QQ f/\aS (f.nm<gm (bp x.s)) (nn [a8 (aF x.s f.i)] (fun c b=>QR f/\wn f/\vK x F (aA (bf (bf (f.m*16)+bf (u8.wrap (u8.wrap (eA c.c-97)+10))))) (aj f.tr) (wR f) (aj f.us) (aj f.sd) (aj true) (ad (f.nd+1)) (ad (f.nm+1)) (qv f) [(0,F)] ((x.s.size-l.i).toNat))) (Pc f x F l)) (H9 x F f))))) (H9 x F l))/\aT fun(q:dn)_=>(lX x.s q/\fc x.s=oT x.s (bX x.s) (bp x.s) q)->Br (!q.sg) (ar mF x F (ax (tuple ⟨[aA q.m,ad 0,aj (bX x.s),aj q.tr,aj (bp x.s),ad q.i,aj false]⟩)) [(0,F)]) (Br (!q.sd) (MG x F (pI q) (aj q.tr) (ad q.i) (aj q.us) (pH q) (rX q) [(0,F)]) (MG x F (pI q) (aj q.tr) (ad q.i) (aj q.us) (pH q) (qv q) [(0,F)])/\aT fun(o:cX)_=>Pr x o->Br (eY (bp x.s)==16) (((-9223372036854775808:Int)<=o.dp*4/\o.dp*4<=(9223372036854775807:Int))/\((-9223372036854775808:Int)<=o.nm*4/\o.nm*4<=(9223372036854775807:Int))/\MH x F (lL o) (aj o.tr) (qw o) (aj o.us) (ad (o.nm*4)) (ad (o.dp*4)) [(0,F)]) (MH x F (lL o) (aj o.tr) (qw o) (aj o.us) (oH o) (pG o) [(0,F)])/\aT fun(m:cX)_=>En x m->(aS (m.i<x.s.size) (uS m x/\nn [a8 (aF x.s m.i)] (fun c b=>MI x F (lL m) (aj m.tr) (qw m) (aj m.us) (oH m) (pG m) (aj (eA c.c==gY (bp x.s))) [(0,F)])) (MI x F (lL m) (aj m.tr) (qw m) (aj m.us) (oH m) (pG m) c6 [(0,F)])/\aT fun(k:cX)_=>En x k->Br (pQ x.s (bp x.s) k.i) (Ep k/\aS (k.i+1>=(x.s.size:Int)) (ar mF x F (ax (tuple ⟨[aA k.m,ad 0,aj (bX x.s),aj k.tr,aj (bp x.s),ad (k.i+1),aj false]⟩)) [(0,F)]) (((0<=k.i+1/\k.i+1<(x.s.size:Int))/\Br (aF x.s (k.i+1)==43) (Qf k/\GB x F (lL k) (aj k.tr) (ad (k.i+1+(1:Int))) (aj k.us) (oH k) (pG k) (ad 1) [(0,F)]) (Br (aF x.s (k.i+1)==45) (Qf k/\GB x F (lL k) (aj k.tr) (ad (k.i+1+(1:Int))) (aj k.us) (oH k) (pG k) (ad (-1)) [(0,F)]) (GB x F (lL k) (aj k.tr) (ad (k.i+1)) (aj k.us) (oH k) (pG k) (ad 1) [(0,F)])))/\aT fun(i:cX)_=>P5 x i->aS (i.i>=x.s.size) (D8 x F i) (uS i x/\aS (aF x.s i.i<48) (D8 x F i) (uS i x/\aS (aF x.s i.i>57) (D8 x F i) (((∃(a:cX),HQ x a/\(ai x.s=ai x.s/\aA i.m=aA a.m/\ad 0=ad 0/\aj (bX x.s)=aj (bX x.s)/\aj i.tr=aj a.tr/\aj (bp x.s)=aj (bp x.s)/\ad i.i=ad a.i/\aj false=aj false/\aj i.us=aj a.us/\aA (eY (bp x.s))=aA (eY (bp x.s))/\ad (gm (bp x.s))=ad (gm (bp x.s))/\a8 (gY (bp x.s))=a8 (gY (bp x.s))/\ad i.nm=ad a.nm/\ad i.dp=ad a.dp/\ad i.sg=ad a.sg/\ad 0=ad a.e/\True)/\aE [(0,F)] [(0,F)])/\aT fun(g:cX)_=>HQ x g->∃(d:cX),aS (g.i<x.s.size) (uS g x/\aS (48<=aF x.s g.i) (uS g x/\aS (aF x.s g.i<=57) (QH x d F g) (OG g x d F)) (OG g x d F)) (Ql x F g)/\aT fun(c:cX)_=>Ra x c d->uS c x/\Br (aF x.s c.i==95) (Ep c/\FU x F (lL c) (aj c.tr) (ad (c.i+1)) (aj true) (oH c) (pG c) (ad c.sg) (ad c.e) [(0,F)] ((x.s.size-g.i).toNat)) (aS (c.e<10000) (((-9223372036854775808:Int)<=c.e*10/\c.e*10<=(9223372036854775807:Int))/\uS c x/\bM (aF x.s c.i)/\bM (c.e*10+aF x.s c.i)/\((-9223372036854775808:Int)<=c.e*10+aF x.s c.i-48/\c.e*10+aF x.s c.i-48<=(9223372036854775807:Int))/\Ep c/\FU x F (lL c) (aj c.tr) (ad (c.i+1)) (aj c.us) (oH c) (pG c) (ad c.sg) (ad (c.e*10+aF x.s c.i-48)) [(0,F)] ((x.s.size-g.i).toNat)) (Ep c/\FU x F (lL c) (aj c.tr) (ad (c.i+1)) (aj c.us) (oH c) (pG c) (ad c.sg) (ad c.e) [(0,F)] ((x.s.size-g.i).toNat))))/\aT fun(c:cX)_=>Py x c->bM (c.e*c.sg)/\bM (c.dp+c.e*c.sg)/\Lc x F (lL c) (aj c.tr) (qw c) (aj c.us) (oH c) (ad (c.dp+c.e*c.sg)) [(0,F)]))))) (Br (eY (bp x.s)==16) (D8 x F k) (Lc x F (lL k) (aj k.tr) (qw k) (aj k.us) (oH k) (pG k) [(0,F)])))/\aT fun(g:cX)_=>O8 g x->Br (g.m !=0) (bM (g.dp-g.nm)/\Ld x F (lL g) (ad (g.dp-g.nm)) (aj g.tr) (qw g) (aj g.us) [(0,F)]) (Ld x F (lL g) (ad 0) (aj g.tr) (qw g) (aj g.us) [(0,F)])/\aT fun(d:cX)_=>PJ d x->Br d.us (((0:Int)<=(0:Int)/\0<=d.i/\d.i<=x.s.size)/\aC 147 vt/\true=true/\∃(b:bK),[ai (x.s.extract (Int.toNat (0:Int)) d.i.toNat)]=[ai b.s]/\([]:List ah)=[]/\b.s.size<=1000000000/\True/\∀(a:Unit),True->Br (!oW b.s) (ar mF x F (ax (tuple ⟨[aA d.m,ad d.e,aj (bX x.s),aj d.tr,aj (bp x.s),ad d.i,aj false]⟩)) [(0,F)]) (PK x F d)) (PK x F d))):=by
 delta qn uQ BF Gz c6 B0 tj Qz nn GA MD Iy wn OF vK pI wR rX pH qv S8 H9 EW ME QQ QR Pc Pk MF O4 Pr OD MG En MH lL qw oH pG uS MI Ep Qf P5 GB D8 HQ Ra JL S9 QH Py SM Ql OG FU O8 Lc PJ Ld PK bM ad a8 aA ai aj bf aS ax aT;obtain⟨s⟩:=x;have hc:s.size<=1000000000:=hc;dsimp only;have z:aE [(0,F)] [(0,F)]:=az [0];have fin:∀r:p4,fc s=r->ar mF ⟨s⟩ F (returned (KN r)) [(0,F)]:=fun r e=>
  ⟨(),ao,by show _=returned (KN (fc s));rw[e],z⟩
 have hB:∀i,0<=aF s i/\aF s i<=255:=fun i=>by
  rw[f_];have:=g0 s i.toNat;omega
 have hI:0<=c3 s/\c3 s<=1:=by
  unfold c3;grind
 have Y:∀b:Bool,(true==b)=b:=fun b=>by cases b <;> rfl
 refine bo (fun h0=>fin (Ab false false 0 false 0) (by unfold fc;grind)) (fun h0=>?_);have hV:fc s=oT s (bX s) (bp s) (pR s (bp s) ((s.size:Int)-lW s).toNat ⟨lW s,0,0,0,0,false,false,false,false⟩):=by unfold fc;grind
 have hp:0<s.size:=ae;have hJ:0<=lW s/\lW s<=s.size:=by
  unfold lW;cases hh:bp s with
  |true=>
   unfold bp at hh;grind
  |false=>rw[aM];omega
 refine⟨⟨⟨cD _,ae⟩,?_⟩,fun _ S _=>⟨⟨⟨aK,?_⟩,fun _ S _=>?_⟩,fun _ S _=>⟨⟨?_,?_⟩,?_⟩⟩⟩
 ·refine aG (fun h=>⟨aK,(),hp,?_,z⟩) (fun h=>aG (fun H=>⟨aK,(),hp,?_,z⟩) (fun H=>⟨(),hp,?_,z⟩))
  ·have a:bX s=false:=by unfold bX;simp[*]
   have b:c3 s=1:=by unfold c3;simp[*]
   simp[*]
  ·have a:bX s=true:=by unfold bX;simp[*]
   have b:c3 s=1:=by unfold c3;simp[*]
   simp[*]
  ·have a:bX s=false:=by unfold bX;simp[*]
   have b:c3 s=0:=by unfold c3;simp[*]
   simp[*]
 ·refine bo (fun h=>⟨⟨hI.1,ae⟩,aG (fun H=>⟨aK,aK,qh,rfl,⟨_⟩,rfl,rfl,ao,ao,fun _ _=>⟨(),hp,?_,z⟩⟩) (fun H=>⟨(),hp,?_,z⟩)⟩) (fun h=>⟨(),hp,?_,z⟩)
  ·have a:bp s=(eA (aF s (c3 s+1))==120):=by unfold bp;simp[*]
   rw[a];exact(by(repeat refine⟨rfl,?_⟩);omega)
  ·have a:bp s=false:=by unfold bp;simp[*]
   rw[a];exact(by(repeat refine⟨rfl,?_⟩);simp[*])
  ·have a:bp s=false:=by unfold bp;simp[*]
   rw[a];exact(by(repeat refine⟨rfl,?_⟩);simp[*])
 ·refine aG (fun h=>⟨aK,(),hp,?_,z⟩) (fun h=>⟨(),hp,?_,z⟩)
  ·have b:lW s=c3 s+2:=by unfold lW;simp[*]
   rw[b,show bp s=true from h];exact(by(repeat refine⟨rfl,?_⟩);simp[*])
  ·have b:lW s=c3 s:=by unfold lW;simp[*]
   simp[*]
 ·exact⟨⟨lW s,0,0,0,0,false,false,false,false⟩,⟨⟨hJ.1,hJ.2,by simp[*],by simp[*],by simp[*],hJ.1,by simp[*],hJ.1,by simp[*],hJ.1⟩,hV⟩,(by simp[*]),z⟩
 ·generalize UH:bp s=hx;generalize UK:bX s=ng;rw[UH,UK]at hV;intro d S hd;obtain⟨P,p⟩:=hd;have ad7:=P;obtain⟨t,A,v,w,B,D,E,G,X,U1⟩:=ad7;have O:pR s hx ((s.size:Int)-d.i).toNat d=d->∃(K:dn),(lX s K/\fc s=oT s ng hx K)/\(string s=string s/\int .u64 d.m=int .u64 K.m/\int .i64 0=int .i64 0/\bool ng=bool ng/\bool d.tr=bool K.tr/\bool hx=bool hx/\int .i64 d.i=int .i64 K.i/\bool false=bool false/\bool d.us=bool K.us/\int .u64 (eY hx)=int .u64 (eY hx)/\int .i64 (gm hx)=int .i64 (gm hx)/\int .u8 (gY hx)=int .u8 (gY hx)/\bool d.sd=bool K.sd/\bool d.sg=bool K.sg/\int .i64 d.nd=int .i64 K.nd/\int .i64 d.nm=int .i64 K.nm/\int .i64 d.dp=int .i64 K.dp/\True)/\aE [(0,F)] [(0,F)]:=fun e=>⟨d,⟨P,by rw[p,e]⟩,(by simp[*]),z⟩;refine bo (fun R=>?_) (fun UG=>O ?_)
  ·obtain⟨k,hk⟩:∃k,((s.size:Int)-d.i).toNat=k+1:=⟨((s.size:Int)-d.i).toNat-1,ae⟩;have V:mE s hx d=none->pR s hx ((s.size:Int)-d.i).toNat d=d:=fun e=>by rw[hk,pR,e]
   rw[hk]at p;have nx:∀Q:dn,mE s hx d=some Q->lX s Q->Q.i=d.i+1->∃(y:dn),(lX s y/\fc s=oT s ng hx (pR s hx ((s.size:Int)-y.i).toNat y))/\(string s=string s/\int .u64 Q.m=int .u64 y.m/\int .i64 0=int .i64 0/\bool ng=bool ng/\bool Q.tr=bool y.tr/\bool hx=bool hx/\int .i64 Q.i=int .i64 y.i/\bool false=bool false/\bool Q.us=bool y.us/\int .u64 (eY hx)=int .u64 (eY hx)/\int .i64 (gm hx)=int .i64 (gm hx)/\int .u8 (gY hx)=int .u8 (gY hx)/\bool Q.sd=bool y.sd/\bool Q.sg=bool y.sg/\int .i64 Q.nd=int .i64 y.nd/\int .i64 Q.nm=int .i64 y.nm/\int .i64 Q.dp=int .i64 y.dp/\True)/\aE [(0,F)] [(0,F)]/\((s.size:Int)-y.i).toNat<((s.size:Int)-d.i).toNat:=fun Q e1 W e3=>
    ⟨Q,⟨W,by rw[p,pR,e1,show((s.size:Int)-Q.i).toNat=k by omega]⟩,(by simp[*]),z,ae⟩
   have J: -9223372036854775808<=d.i+1/\d.i+1<=9223372036854775807:=aK;refine⟨⟨t,R⟩,aG (fun L=>⟨J,?_⟩) (fun L=>aG (fun H=>aG (fun M=>?_) (fun M=>⟨J,?_⟩)) (fun H=>?_))⟩
   ·have L:(aF s d.i==95)=true:=(Y _).symm.trans L;exact nx ⟨d.i+1,d.m,d.nd,d.nm,d.dp,true,d.tr,d.sd,d.sg⟩ (by unfold mE;simp[*]) ⟨by grind,by grind,v,w,B,by grind,by grind,by grind,X,by grind⟩ rfl
   ·have L:(aF s d.i==95)=false:=(Y _).symm.trans L;have H:(aF s d.i==46)=true:=(Y _).symm.trans H;exact O (V (by unfold mE;simp[*]))
   ·have L:(aF s d.i==95)=false:=(Y _).symm.trans L;have H:(aF s d.i==46)=true:=(Y _).symm.trans H;exact nx ⟨d.i+1,d.m,d.nd,d.nm,d.nd,d.us,d.tr,true,d.sg⟩ (by unfold mE;simp[*]) ⟨by grind,by grind,v,w,B,by grind,by grind,by grind,X,by grind⟩ rfl
   have L:(aF s d.i==95)=false:=(Y _).symm.trans L;have H:(aF s d.i==46)=false:=(Y _).symm.trans H;refine⟨(d:dn),?_,?_⟩
   ·refine aG (fun q=>⟨d,⟨⟨P,R⟩,rfl⟩,?_,z⟩) (fun q=>⟨d,⟨⟨P,R⟩,rfl⟩,?_,z⟩)
    ·have:eG (aF s d.i)=(true==decide (aF s d.i<=57)):=by unfold eG;simp[*]
     simp[*]
    ·have:eG (aF s d.i)=(true==false):=by unfold eG;simp[*]
     simp[*]
   intro n NI Z;obtain⟨_,T⟩:=Z;have T:n=d:=T;subst T;refine aG (fun M=>?_) (fun M=>?_)
   ·have M:eG (aF s n.i)=true:=M;have h48:48<=aF s n.i/\aF s n.i<=57:=by
     unfold eG at M;grind
    have Ve: -9223372036854775808<=n.nd+1/\n.nd+1<=9223372036854775807:=aK;have Vg: -9223372036854775808<=n.nm+1/\n.nm+1<=9223372036854775807:=aK;have ye:(bif aF s n.i==48 then n.nd==0 else false)=false->∀(N:decide (n.nm<gm hx)=true),mE s hx n=some ⟨n.i+1,Sn hx n.m (aF s n.i),n.nd+1,n.nm+1,n.dp,n.us,n.tr,n.sd,true⟩:=fun e N=>by unfold mE;simp[*]
    have low:(bif aF s n.i==48 then n.nd==0 else false)=false->∀(N:decide (n.nm<gm hx)=false),mE s hx n=some ⟨n.i+1,n.m,n.nd+1,n.nm,n.dp,n.us,(bif aF s n.i !=48 then true else n.tr),n.sd,true⟩:=fun e N=>by unfold mE;simp[*]
    have okB:lX s ⟨n.i+1,Sn hx n.m (aF s n.i),n.nd+1,n.nm+1,n.dp,n.us,n.tr,n.sd,true⟩:=⟨by grind,by grind,(fW _).1,(fW _).2,by grind,by simp[*],by grind,by grind,by grind,by simp[*]⟩;have okL:∀b,lX s ⟨n.i+1,n.m,n.nd+1,n.nm,n.dp,n.us,b,n.sd,true⟩:=fun b=>⟨by grind,by grind,v,w,by grind,by simp[*],by grind,by grind,X,by grind⟩;refine aG (fun N=>aG (fun h5=>⟨aK,J,?_⟩) (fun h5=>⟨Ve,aG (fun h6=>⟨Vg,J,?_⟩) (fun h6=>aG (fun h7=>⟨J,?_⟩) (fun h7=>⟨J,?_⟩))⟩)) (fun N=>⟨Ve,aG (fun h6=>⟨Vg,J,?_⟩) (fun h6=>aG (fun h7=>⟨J,?_⟩) (fun h7=>⟨J,?_⟩))⟩)
    ·exact nx ⟨n.i+1,n.m,n.nd,n.nm,n.dp-1,n.us,n.tr,n.sd,true⟩ (by unfold mE;simp[*]) ⟨by grind,by grind,v,w,B,by grind,by grind,by grind,X,by grind⟩ rfl
    ·exact nx _ (ye (by simp[*]) h6) okB rfl
    ·grind
    ·grind
    ·exact nx _ (ye (by simp[*]) h6) okB rfl
    all_goals grind
   ·have M:eG (aF s n.i)=false:=M;refine⟨(n:dn),?_,?_⟩
    ·refine aG (fun q=>⟨qh,rfl,⟨_⟩,rfl,rfl,ao,ao,fun _ _=>aG (fun q2=>⟨qh,rfl,⟨_⟩,rfl,rfl,ao,ao,fun _ _=>⟨n,⟨⟨P,R⟩,rfl⟩,?_,z⟩⟩) (fun q2=>⟨n,⟨⟨P,R⟩,rfl⟩,?_,z⟩)⟩) (fun q=>⟨n,⟨⟨P,R⟩,rfl⟩,?_,z⟩)
     ·have:tP hx (aF s n.i)=(true==decide (eA (aF s n.i)<=102)):=by unfold tP;rw[show(eY hx==16)=true from q,show decide (97<=eA (aF s n.i))=true from q2,Y];rfl
      rw[this];exact(by(repeat refine⟨rfl,?_⟩);omega)
     ·have:tP hx (aF s n.i)=(true==false):=by unfold tP;rw[show(eY hx==16)=true from q,show decide (97<=eA (aF s n.i))=false from q2];rfl
      simp[*]
     ·have:tP hx (aF s n.i)=(true==false):=by unfold tP;simp[*]
      simp[*]
    intro C amB adF;obtain⟨_,T⟩:=adF;have T:C=n:=T;subst T;refine aG (fun N=>?_) (fun N=>O (V (by unfold mE;simp[*])));refine⟨aK,aG (fun h5=>⟨qh,rfl,⟨_⟩,rfl,rfl,ao,ao,fun _ _=>⟨aK,J,?_⟩⟩) (fun h5=>⟨J,?_⟩)⟩
    ·exact nx ⟨C.i+1,XJ C.m (aF s C.i),C.nd+1,C.nm+1,C.dp,C.us,C.tr,C.sd,true⟩ (by unfold mE;simp[*]) ⟨by grind,by grind,(fW _).1,(fW _).2,by grind,by simp[*],by grind,by grind,by grind,by simp[*]⟩ rfl
    ·exact nx ⟨C.i+1,C.m,C.nd+1,C.nm,C.dp,C.us,true,C.sd,true⟩ (by unfold mE;simp[*]) ⟨by grind,by grind,v,w,by grind,by simp[*],by grind,by grind,X,by grind⟩ rfl
  ·rw[show((s.size:Int)-d.i).toNat=0 by omega,pR]
 ·generalize UH:bp s=hx;generalize UK:bX s=ng;intro d S hd;obtain⟨⟨t,A,v,w,B,D,E,G,X,U1⟩,p⟩:=hd;refine aG (fun h=>fin ⟨d.m,0,ng,d.tr,hx,d.i,false⟩ (by rw[p];unfold oT;rw[show(!d.sg)=true from h];rfl)) (fun h=>⟨aG (fun H=>⟨⟨d.m,d.tr,d.us,d.i,d.nd,d.nm,0,0⟩,⟨⟨t,A,v,w,by grind,by grind,X,by grind⟩,by grind,by grind,by grind,by rw[p];unfold oT;simp[*]⟩,(by simp[*]),z⟩) (fun H=>⟨⟨d.m,d.tr,d.us,d.i,d.dp,d.nm,0,0⟩,⟨⟨t,A,v,w,by grind,by grind,X,by grind⟩,by grind,by grind,by grind,by rw[p];unfold oT;simp[*]⟩,(by simp[*]),z⟩),?_⟩);clear p t A v w B D E G X U1 h;rintro⟨m,tr,us,i,dp,nm,sg,e⟩ S ⟨⟨t,A,v,w,B,D,E,G⟩,j1,j2,j3,p⟩;dsimp only at t A v w B D E G j1 j2 j3 p⊢;refine⟨aG (fun h=>⟨aK,aK,⟨m,tr,us,i,dp*4,nm*4,0,0⟩,⟨⟨t,A,v,w,by grind,by grind,by grind,by grind⟩,by rw[p];unfold xy;simp[*]⟩,(by simp[*]),z⟩) (fun h=>⟨⟨m,tr,us,i,dp,nm,0,0⟩,⟨⟨t,A,v,w,B,D,E,G⟩,by rw[p];unfold xy;simp[*]⟩,(by simp[*]),z⟩),?_⟩;clear p t A v w B D E G j1 j2 j3;rintro⟨m,tr,us,i,dp,nm,sg,e⟩ S ⟨⟨t,A,v,w,B,D,E,G⟩,p⟩;dsimp only at t A v w B D E G p⊢;have U:∀sg e,nX s ⟨m,tr,us,i,dp,nm,sg,e⟩:=fun _ _=>⟨t,A,v,w,B,D,E,G⟩;refine⟨⟨bo (fun h=>⟨⟨t,h⟩,qh,rfl,⟨_⟩,rfl,rfl,ao,ao,fun _ _=>⟨⟨m,tr,us,i,dp,nm,0,0⟩,⟨U 0 0,p⟩,?_,z⟩⟩) (fun h=>⟨⟨m,tr,us,i,dp,nm,0,0⟩,⟨U 0 0,p⟩,?_,z⟩),?_⟩,?_⟩
  ·have:pQ s hx i=(eA (aF s i)==gY hx):=by unfold pQ;simp[*]
   dsimp only;rw[this];exact(by(repeat refine⟨rfl,?_⟩);omega)
  ·have:pQ s hx i=false:=by unfold pQ;simp[*]
   simp[*]
  ·clear p t A v w B D E G U;rintro⟨m,tr,us,i,dp,nm,sg,e⟩ S ⟨⟨t,A,v,w,B,D,E,G⟩,p⟩;dsimp only at t A v w B D E G p⊢;refine aG (fun h=>?_) (fun h=>aG (fun H=>fin ⟨m,0,ng,tr,hx,i,false⟩ (by rw[p];unfold tO;rw[show pQ s hx i=false from h,show(eY hx==16)=true from H];rfl)) (fun H=>⟨⟨m,tr,us,i,dp,nm,0,0⟩,⟨t,A,E,G,by grind,by grind,by rw[p];unfold tO;simp[*]⟩,(by simp[*]),z⟩));have p:fc s=Aa s ng hx m tr us i dp nm:=by rw[p];unfold tO;simp[*]
   have hil:i<s.size:=by
    have h:pQ s hx i=true:=h;unfold pQ at h;grind
   refine⟨aK,bo (fun L=>fin ⟨m,0,ng,tr,hx,i+1,false⟩ (by rw[p];unfold Aa;rw[bv L];rfl)) (fun L=>⟨⟨aK,aG (fun H=>⟨aK,⟨m,tr,us,i+1+1,dp,nm,1,0⟩,⟨⟨by grind,by grind,v,w,B,D,E,G⟩,.inl rfl,by rw[p];unfold Aa;simp[*]⟩,(by simp[*]),z⟩) (fun H=>aG (fun M=>⟨aK,⟨m,tr,us,i+1+1,dp,nm,-1,0⟩,⟨⟨by grind,by grind,v,w,B,D,E,G⟩,.inr rfl,by rw[p];unfold Aa;simp[*]⟩,(by simp[*]),z⟩) (fun M=>⟨⟨m,tr,us,i+1,dp,nm,1,0⟩,⟨⟨by grind,by grind,v,w,B,D,E,G⟩,.inl rfl,by rw[p];unfold Aa;simp[*]⟩,(by simp[*]),z⟩))⟩,?_⟩)⟩;clear p t A v w B D E G h L hil;rintro⟨m,tr,us,i,dp,nm,sg,e⟩ S ⟨⟨t,A,v,w,B,D,E,G⟩,I,p⟩;dsimp only at t A v w B D E G I p⊢;refine bo (fun L=>fin ⟨m,0,ng,tr,hx,i,false⟩ (by rw[p];unfold sb;rw[bv L];rfl)) (fun L=>⟨⟨t,ae⟩,bo (fun H=>fin ⟨m,0,ng,tr,hx,i,false⟩ (by rw[p];unfold sb;rw[bF L,bv H];rfl)) (fun H=>⟨⟨t,ae⟩,bo (fun M=>fin ⟨m,0,ng,tr,hx,i,false⟩ (by rw[p];unfold sb;rw[bF L,bF H,bv M];rfl)) (fun M=>?_)⟩)⟩);have p:fc s=(match jU s ((s.size:Int)-i).toNat i 0 us with| (i3,e,us3)=>oU s ng hx m tr us3 i3 (dp+e*sg) nm):=by rw[p];unfold sb;simp[*]
   refine⟨⟨⟨⟨m,tr,us,i,dp,nm,sg,0⟩,⟨⟨t,A,v,w,B,D,E,G⟩,I,by simp[*],by simp[*],p⟩,(by simp[*]),z⟩,?_⟩,?_⟩
   ·clear p t A v w B D E G L H M I;rintro⟨m,tr,us,i,dp,nm,sg,e⟩ S ⟨⟨t,A,v,w,B,D,E,G⟩,I,e1,W,p⟩;dsimp only at t A v w B D E G I e1 W p⊢;refine⟨(⟨m,tr,us,i,dp,nm,sg,e⟩:cX),?_,?_⟩
    ·have U:nX s ⟨m,tr,us,i,dp,nm,sg,e⟩:=⟨t,A,v,w,B,D,E,G⟩;have out:(∀k,((s.size:Int)-i).toNat=k+1->(aF s i==95)=false/\eG (aF s i)=false)->fc s=oU s ng hx m tr us i (dp+e*sg) nm:=fun h=>by
      rw[p];cases hk:((s.size:Int)-i).toNat with
      |zero=>rfl
      |succ k=>
       rw[jU,(h k hk).1,(h k hk).2];rfl
     have dg:(48<=aF s i)->(aF s i<=57)->eG (aF s i)=true:=fun a b=>by unfold eG;simp[*]
     have nd1:¬(48<=aF s i)->eG (aF s i)=false:=fun a=>by unfold eG;simp[*]
     have nd2:¬(aF s i<=57)->eG (aF s i)=false:=fun a=>by unfold eG;rw[bF a];cases decide (48<=aF s i) <;> rfl
     refine bo (fun h=>⟨⟨t,h⟩,bo (fun H=>⟨⟨t,h⟩,bo (fun M=>⟨⟨m,tr,us,i,dp,nm,sg,e⟩,⟨⟨U,h,by simp[*]⟩,rfl⟩,(by simp[*]),z⟩) (fun M=>⟨⟨t,h⟩,aG (fun N=>⟨⟨m,tr,us,i,dp,nm,sg,e⟩,⟨⟨U,h,by simp[*]⟩,rfl⟩,(by simp[*]),z⟩) (fun N=>⟨⟨m,tr,us,i,dp,nm,sg,e⟩,⟨U,I,e1,W,out fun k hk=>⟨N,nd2 M⟩⟩,(by simp[*]),z⟩)⟩)⟩) (fun H=>⟨⟨t,h⟩,aG (fun N=>⟨⟨m,tr,us,i,dp,nm,sg,e⟩,⟨⟨U,h,by simp[*]⟩,rfl⟩,(by simp[*]),z⟩) (fun N=>⟨⟨m,tr,us,i,dp,nm,sg,e⟩,⟨U,I,e1,W,out fun k hk=>⟨N,nd1 H⟩⟩,(by simp[*]),z⟩)⟩)⟩) (fun h=>⟨⟨m,tr,us,i,dp,nm,sg,e⟩,⟨U,I,e1,W,out fun k hk=>ae⟩,(by simp[*]),z⟩)
    ·intro n NI Z;obtain⟨⟨_,hl,hdg⟩,T⟩:=Z;have T:n=⟨m,tr,us,i,dp,nm,sg,e⟩:=T;subst T;dsimp only at hl hdg⊢;obtain⟨k,hk⟩:∃k,((s.size:Int)-i).toNat=k+1:=⟨((s.size:Int)-i).toNat-1,ae⟩;rw[hk,jU]at p;have hk1:((s.size:Int)-(i+1)).toNat=k:=ae;refine⟨⟨t,hl⟩,aG (fun N=>⟨aK,⟨m,tr,true,i+1,dp,nm,sg,e⟩,⟨⟨by grind,by grind,v,w,B,D,E,G⟩,I,e1,W,by grind⟩,(by simp[*]),z,by simp[*]⟩) (fun N=>?_)⟩;have N:(aF s i==95)=false:=N;have hD:eG (aF s i)=true:=by grind
     have h48:48<=aF s i/\aF s i<=57:=by
      unfold eG at hD;grind
     refine bo (fun h5=>⟨aK,⟨t,hl⟩,aK,aK,aK,aK,⟨m,tr,us,i+1,dp,nm,sg,e*10+aF s i-48⟩,⟨⟨by grind,by grind,v,w,B,D,E,G⟩,I,by grind,by grind,by grind⟩,(by simp[*]),z,by simp[*]⟩) (fun h5=>⟨aK,⟨m,tr,us,i+1,dp,nm,sg,e⟩,⟨⟨by grind,by grind,v,w,B,D,E,G⟩,I,e1,W,by grind⟩,(by simp[*]),z,by simp[*]⟩)
   ·clear p t A v w B D E G L H M I;rintro⟨m,tr,us,i,dp,nm,sg,e⟩ S ⟨⟨t,A,v,w,B,D,E,G⟩,I,e1,W,p⟩;dsimp only at t A v w B D E G I e1 W p⊢;have hes: -100100<=e*sg/\e*sg<=100100:=by
     grind
    generalize e*sg=es at*;exact⟨aK,aK,⟨m,tr,us,i,dp+es,nm,0,0⟩,⟨t,A,E,G,by grind,by grind,p⟩,(by simp[*]),z⟩
  ·clear p t A v w B D E G U;rintro⟨m,tr,us,i,dp,nm,sg,e⟩ S ⟨t,A,v,w,B,D,p⟩;dsimp only at t A v w B D p⊢;refine⟨aG (fun h=>⟨aK,⟨m,tr,us,i,0,0,0,dp-nm⟩,⟨t,A,by rw[p];unfold oU;simp[*]⟩,(by simp[*]),z⟩) (fun h=>⟨⟨m,tr,us,i,0,0,0,0⟩,⟨t,A,by rw[p];unfold oU;simp[*]⟩,(by simp[*]),z⟩),?_⟩;clear p t A v w B D;rintro⟨m,tr,us,i,dp,nm,sg,e⟩ S ⟨t,A,p⟩;dsimp only at t A p⊢;refine aG (fun h=>⟨⟨cD _,t,A⟩,al8,rfl,⟨s.extract 0 i.toNat⟩,rfl,rfl,by show(s.extract 0 i.toNat).size<=_;rw[gS];omega,ao,fun _ _=>aG (fun H=>fin ⟨m,e,ng,tr,hx,i,false⟩ (by grind)) (fun H=>fin ⟨m,e,ng,tr,hx,i,true⟩ (by grind))⟩) (fun h=>fin ⟨m,e,ng,tr,hx,i,true⟩ (by grind))
theorem alP(x:aQ.X mF)(F:ah)(a:mF.cond x)(b:mF.aO x F):pW Tryz.prog 253 XM (XO x F) [] (g_ XM) (mK (aQ.args mF x)) (bD (aQ.pre mF x++[F])) (XN x) (ar mF x F):=
 Eq.mpr bl (alR x F a b)
theorem alQ:aC 124 mF:=
 adh (N:=253) bl (c:=g_ Tryz.f124) Tryz.func124 bl bl (fun _=>Nat.le_of_ble_eq_true rfl) bl bl bl XO [] XN (fun _ h=>nomatch h) alP
end
section
open Go
structure Sx where
 b:Nat
 s:ByteArray
 vs:List Value
def Dx(e:TypeId):aQ where
 X:=Sx
 args x:=[au (some ⟨x.b,0,none⟩) x.s.size x.s.size,ai x.s]
 pre x:=[af x.b x.vs e]
 cond x:=x.vs.length=x.s.size
 val x _:=ax (ad x.s.size)
 post x _:=[af x.b (Lib.strCells x.s++[]) e]
theorem abS{P:Program}{o:Oper}{d s:Operand}{t t' e:TypeId}{c:TypeInfo}(n:o.op= .call {callee:=.builtin .copy,args:=#[d,s],argTypes:=#[t,t']})
  (v:P.underlying t=some (.slice e)) (hi:P.info? e=some c) (hk:c.size=1):e5 P o (Dx e):=by
 refine⟨fun x F I w ρ l m y hs=>?_⟩;obtain⟨b,str,vs⟩:=x;have m:vs.length=str.size:=m;simp only[n,Op.operands,Call.operands,Dx]at l;have h:ρ d= .slice (some ⟨b,0,none⟩) str.size str.size/\ρ s= .string str:=by simpa using l
 obtain⟨vZ,i⟩:=h;have f:w.heap[b]?=some (.cells ⟨vs⟩ e (0,0)):=hs.cells (j:=0) rfl;have r:=Lib.strCells_length str;have k:∀u∈Lib.strCells str,u.oneCell'=true:=by
  intro u p;unfold Lib.strCells at p;obtain⟨z,_,rfl⟩:=List.mem_map.1 p;rfl
 have g:=run_storeCells_at P b 0 e (Lib.strCells str) 0 ⟨vs⟩ w f (by simp;omega) k;simp only[Nat.add_zero]at g;have a:(str.extract 0 str.size).data.map (fun b=>int .u8 b.toNat)=(Lib.strCells str).toArray:=by
  rw[ByteArray.extract_zero_size];unfold Lib.strCells;apply Array.ext';simp
 refine⟨(),I,w.setRow b ⟨vs.take 0++Lib.strCells str++vs.drop (0+(Lib.strCells str).length)⟩,_,ao,?_,rfl,a_.le_refl I,?_,aq⟩
 ·left
  have q:(Builtin.firstCells c.size str.size (.string str)).run P w= .ok (Lib.strCells str).toArray w:=by
   show Sem.run P (pure ((str.extract 0 str.size).data.map fun b=>int .u8 b.toNat)) w=_;rw[a];rfl
  simp[execOp,n,resolve,invoke,builtin,vZ,i,Builtin.copy_,run_underlying v,Builtin.lenOf,sizeOf,typeInfo,hi,q,g,goInt]
 ·have:=hs.setRow (j:=0) (b:=b) (vs:=vs) (t:=e) (CA:=vs.take 0++Lib.strCells str++vs.drop (0+(Lib.strCells str).length)) rfl;have e1:vs.take 0++Lib.strCells str++vs.drop (0+(Lib.strCells str).length)=Lib.strCells str++[]:=by
   rw[List.take_zero,List.nil_append,List.drop_of_length_le ae]
  rw[e1]at this⊢;simpa[Dx,zW]using this
def yh:aQ where
 X:=bK
 args x:=[ai x.s]
 cond x:=x.s.size<=1000000000
 val x _:=ax (ai x.s)
theorem abH(x:bK)(F:ah)(j:yh.cond x)(k:yh.aO x F):Br ((x.s.size:Int)==0) (ar yh x F (ax (ai ⟨#[]⟩)) [(0,F)]) (T4 (ba Tryz.f118 3 2) [ad ↑x.s.size,ad ↑x.s.size] (fun f e=>e5 Tryz.prog (ba Tryz.f118 4 2) (Dx (5:TypeId))/\true=true/\∃(d:Sx),[au (bI e) f.n.toNat f.c.toNat,ai x.s]=[au (some ⟨d.b,0,none⟩) d.s.size d.s.size,ai d.s]/\[af e (ik [a8 0] f.c.toNat) 5]=[af d.b d.vs 5]/\d.vs.length=d.s.size/\True/\∀(c:Unit),True->((0:Int)<=(0:Int)/\0<(f.n.toNat:Int))/\Gn (ba Tryz.f118 5 4) [ag (bI e),ad ↑f.n.toNat] [af d.b (Lib.strCells d.s++[]) 5] (fun b a=>ar yh x F (ax (ai b.p)) [(0,F),(4020,bd)]))):=by
 delta T4 bI Gn ad a8 ai ag au af bd ax;obtain⟨s⟩:=x;have j:s.size<=1000000000:=j;dsimp only;refine aG (fun h=>?_) (fun h=>?_)
 ·have h:((s.size:Int)==0)=true:=h;have i:s.size=0:=by have:=eq_of_beq h;omega
  have e:s=ByteArray.mk #[]:=by
   apply ByteArray.ext;exact Array.eq_empty_of_size_eq_zero (by simpa using i)
  exact⟨(),ao,by rw[e];rfl,az [0]⟩
 ·have h:((s.size:Int)==0)=false:=h;have i:¬(s.size:Int)=0:=dU.1 h;have g:∀b,nb 5 s ⟨some ⟨b,0,none⟩,s.size,s.size,.cells b (Lib.strCells s++[]) 5⟩:=fun b=>⟨.fO b s.size s.size [] (by rw[Lib.strCells_length,Nat.mul_one]) (by rw[dv,Lib.strCells_length,Nat.mul_one]) (bT _),.inr (by show 0<s.size;omega)⟩;refine bO (DS (P:=Tryz.prog) [.int .u8 0] 1 rfl rfl rfl rfl rfl rfl aL rfl) ⟨s.size,s.size⟩ ⟨bg,bg,bg,bg⟩ fun b _=>bO (abS rfl rfl rfl rfl) ⟨b,s,ik [.int .u8 0] (s.size:Int).toNat⟩ (?_) fun _ _=>⟨⟨cD _,bg⟩,Xo rfl rfl rfl,rfl,⟨⟨some ⟨b,0,none⟩,s.size,s.size,.cells b (Lib.strCells s++[]) 5⟩,s⟩,rfl,rfl,⟨g b,bg⟩,ao,fun _ _=>im⟩;dsimp only;rw[XE,List.length_replicate];omega
theorem TD:aC 118 yh:=fo 18 Tryz.func118 (fun _ _=>[(3,2,.o (uw 5 [.int .u8 0] 1) [] [4020]),(4,2,.o (Dx 5) [4020] [4020]),(5,4,.o (Cz 5) [4020] [4020])]) [] aY aY bA [] abH
structure rh where
 f:ByteArray
 s:ByteArray
 t1:TypeId
 a1:Addr
def qi(g:Nat):aQ where
 X:=rh
 Y:=Nat
 args x:=[ai x.f,ai x.s]
 cond x:=x.s.size<=1000000000
 aO x F:=aP F ⟨g,0,none⟩ (.iface x.t1 (.pointer (some x.a1)))
 val _ b:=ax (ag (some ⟨b,0,none⟩))
def VG(x:rh)(a:ah):List (Nat×Nat×OH):=[(1,2,aW yh),(1,3,.q [.ex 0 (.is (.iface x.t1 (.pointer (some x.a1))))]),(1,5,.n 2050)]
def FV(aa:List Value)(a:bK->Unit->Prop):=aC 118 yh/\true=true/\∃(z:bK),aa=[ai z.s]/\([]:List ah)=[]/\z.s.size<=1000000000/\True/\∀(b:Unit),True->a z b
def wN(x:rh):=fh x.t1 (ag (some x.a1))
theorem al1(x:rh)(F:ah)(d:(qi 7).cond x)(e:(qi 7).aO x F):true=true/\FV [ai x.s] (fun c b=>aP F ⟨7,0,none⟩ (wN x)/\∀(a:Nat),ar (qi 7) x F (ax (cE a)) [(0,F),(2050,af a [ai x.f,ai c.s,fh x.t1 (ag (some x.a1))] 138)]):=by
 delta FV wN bI cE ai ag fh af ax;obtain⟨f,s,t1,a1⟩:=x;exact⟨rfl,TD,rfl,⟨s⟩,rfl,rfl,d,ao,fun _ _=>⟨e,fun b=>⟨b,ao,rfl,az [0]⟩⟩⟩
theorem al0:aC 108 (qi 7):=fo 11 Tryz.func108 VG [] aY aY bA [] al1
theorem alT(x:rh)(F:ah)(d:(qi 8).cond x)(e:(qi 8).aO x F):true=true/\FV [ai x.s] (fun c b=>aP F ⟨8,0,none⟩ (wN x)/\∀(a:Nat),ar (qi 8) x F (ax (cE a)) [(0,F),(2050,af a [ai x.f,ai c.s,fh x.t1 (ag (some x.a1))] 138)]):=by
 delta FV wN bI cE ai ag fh af ax;obtain⟨f,s,t1,a1⟩:=x;exact⟨rfl,TD,rfl,⟨s⟩,rfl,rfl,d,ao,fun _ _=>⟨e,fun b=>⟨b,ao,rfl,az [0]⟩⟩⟩
theorem alS:aC 109 (qi 8):=fo 11 Tryz.func109 VG [] aY aY bA [] alT
def xn(e:Int)(g:Nat):aQ where
 X:=rh
 Y:=Value
 args x:=[ai x.f,ai x.s,ad 0,ad 64,fh 128 (ad e)]
 cond x:=x.s.size<=1000000000
 aO x F:=aP F ⟨g,0,none⟩ (.iface x.t1 (.pointer (some x.a1)))
 val _ y:=ax y
def XP(b:rh)(a:ah):List (Nat×Nat×OH):=[(3,2,aW (qi 7)),(5,2,aW (qi 8))]
theorem al5(x:rh)(F:ah)(c:(xn 2 7).cond x)(d:(xn 2 7).aO x F):aC 108 (qi 7)/\true=true/\∃(b:rh),[ai x.f,ai x.s]=[ai b.f,ai b.s]/\([]:List ah)=[]/\b.s.size<=1000000000/\aP (cP F) ⟨7,0,none⟩ (wN b)/\∀(a:Nat),True->ar (xn (2:Int) 7) x F (ax (fh 129 (cE a))) [(0,F)]:=by
 delta cP wN bI cE aH ai ag fh ax;obtain⟨f,s,t1,a1⟩:=x;exact br al0 ⟨f,s,t1,a1⟩ c (aP.rest (j:=0) aL d) fun y _=>⟨_,ao,rfl,az [0]⟩
theorem al4:aC 102 (xn 2 7):=fo 43 Tryz.func102 XP [] aY aY bA [] al5
theorem al3(x:rh)(F:ah)(c:(xn 1 8).cond x)(d:(xn 1 8).aO x F):aC 109 (qi 8)/\true=true/\∃(b:rh),[ai x.f,ai x.s]=[ai b.f,ai b.s]/\([]:List ah)=[]/\b.s.size<=1000000000/\aP (cP F) ⟨8,0,none⟩ (wN b)/\∀(a:Nat),True->ar (xn (1:Int) 8) x F (ax (fh 129 (cE a))) [(0,F)]:=by
 delta cP wN bI cE aH ai ag fh ax;obtain⟨f,s,t1,a1⟩:=x;exact br alS ⟨f,s,t1,a1⟩ c (aP.rest (j:=0) aL d) fun y _=>⟨_,ao,rfl,az [0]⟩
theorem al2:aC 102 (xn 1 8):=fo 43 Tryz.func102 XP [] aY aY bA [] al3
theorem aka:aC 102 Fv:=⟨fun x F I w d h hs=>by
 obtain⟨f,s,e⟩:=x;obtain⟨a,b,c⟩:=d;obtain⟨⟨t1,a1,q1⟩,⟨t2,a2,q2⟩⟩:=h;dsimp only at a b c;have g:e=1\/e=2:=by omega
 rcases g with rfl|rfl
 ·exact al2.h ⟨f,s,t2,a2⟩ F I w (by show s.size<=_;omega) q2 hs
 ·exact al4.h ⟨f,s,t1,a1⟩ F I w (by show s.size<=_;omega) q1 hs⟩
end
section
open Go
structure K7 where
 a:Nat
 b:Nat
def HK(t:TypeId):aQ where
 X:=K7
 args x:=[ag (some ⟨x.a,0,none⟩),ag (some ⟨x.b,0,none⟩)]
 cond x:=x.a≠x.b
 aO x F:=pU F x.a t/\pU F x.b t
 val _ _:=ax (aj false)
theorem V8{P:Program}{o:Oper}{t u e:TypeId}{x y:Operand}{rt:TypeId}{g:TypeInfo}(l:o.op= .binOp .eql t x y rt)(z:P.underlying t=some (.pointer e))(hi:P.info? e=some g)(B:g.size≠0):e5 P o (HK u):=by
 refine⟨fun X F I w ρ s j m hs=>?_⟩;obtain⟨a,b⟩:=X;have j:a≠b:=j;simp only[l,Op.operands,HK]at s;have i:ρ x= .pointer (some ⟨a,0,none⟩)/\ρ y= .pointer (some ⟨b,0,none⟩):=by grind
 obtain⟨hx,A⟩:=i;obtain⟨f,v,_,_⟩:=hs.k7;have k:F.holds I (hp w) (f 0):=v 0;obtain⟨C,n⟩:=m.1.h I (hp w) (f 0) hs.mQ k;obtain⟨D,p⟩:=m.2.h I (hp w) (f 0) hs.mQ k;have c:=run_sameAddr_other (P:=P) (w:=w) (a:=⟨a,0,none⟩) (b:=⟨b,0,none⟩) (by intro h;cases h;exact j rfl) n p;refine⟨(),I,w,.bool false,ao,.inl ?_,rfl,a_.le_refl I,hs,cv.refl w⟩;have r:∀d,(Op.equalIn (d+1) t (.pointer (some ⟨a,0,none⟩)) (.pointer (some ⟨b,0,none⟩))).run P w= .ok false w:=fun d=>by
  simp[Op.equalIn,run_underlying z,sizeOf,typeInfo,hi,B,c]
 have q:(binOp .eql t (.pointer (some ⟨a,0,none⟩)) (.pointer (some ⟨b,0,none⟩))).run P w= .ok (.bool false) w:=by
  simp only[binOp];simp[Op.equal,Op.maxDepth,r 9999]
 simp only[execOp,l,hx,A];simp[eqGuard,q]
structure gN where
 s:ByteArray
 m:Int
 e:Int
 ng:Bool
 tr:Bool
 tb:Nat->Nat
 lc:Nat->Nat×ByteArray
def vp(m:Int):Int:=u64.wrap (↑(BitVec.ofInt u64.bits (m.fdiv (2^min (Int.toNat 1) u64.bits))|||BitVec.ofInt u64.bits (u64.wrap (↑(BitVec.ofInt u64.bits m&&& BitVec.ofInt u64.bits 1).toNat:Int))).toNat:Int)
def vm:Nat->Int->Int->Int×Int
 |0,m,e=>(m,e)
 |f+1,m,e=>bif (bif m !=0 then m.fdiv (2^min (u64.wrap (52+2)).toNat u64.bits)==0 else false) then vm f (u64.wrap (m*2^min (Int.toNat 1) u64.bits)) (i64.wrap (e-1)) else (m,e)
def vn:Nat->Int->Int->Int×Int
 |0,m,e=>(m,e)
 |f+1,m,e=>bif m.fdiv (2^min (u64.wrap (u64.wrap (1+52)+2)).toNat u64.bits)!=0 then vn f (vp m) (i64.wrap (e+1)) else (m,e)
def tM:Nat->Int->Int->Int×Int
 |0,m,e=>(m,e)
 |f+1,m,e=>bif (bif decide (m>1) then decide (e< -1022-2) else false) then tM f (vp m) (e+1) else (m,e)
def XF(m e:Int):Int:=u64.wrap (↑(BitVec.ofInt u64.bits (u64.wrap (↑(BitVec.ofInt u64.bits m&&& BitVec.ofInt u64.bits (u64.wrap (u64.wrap (1*2^min (Int.toNat 52) u64.bits)-1))).toNat:Int))|||BitVec.ofInt u64.bits (u64.wrap (u64.wrap (i64.wrap (↑(BitVec.ofInt i64.bits (i64.wrap (e- -1023))&&& BitVec.ofInt i64.bits (i64.wrap (1*2^min (Int.toNat 11) i64.bits)-1)).toNat:Int))*2^min (Int.toNat 52) u64.bits))).toNat:Int)
def xw(x:gN)(m e:Int):Nat:=bif x.ng then (u64.wrap (↑(BitVec.ofInt u64.bits (XF m e)|||BitVec.ofInt u64.bits (u64.wrap (u64.wrap (1*2^min (Int.toNat 52) u64.bits)*2^min (Int.toNat 11) u64.bits))).toNat:Int)).toNat else (XF m e).toNat
theorem V0(x y:Nat):x|||y<=x+y:=by
 induction x using Nat.strongRecOn generalizing y with
 |_ x a=>
  by_cases b:x=0
  ·simp[*]
  ·have c:=a (x/2) ae (y/2);have d:(x|||y)/2=x/2|||y/2:=Nat.or_div_two;have e:(x|||y)%2=1->x%2=1\/y%2=1:=fun h=>Nat.or_mod_two_eq_one.1 h;omega
theorem alB{n:Nat}(h:n<18446744073709551616):∃k:Nat,vp n=(k:Int)/\k<=n/2+n%2:=by
 refine⟨n/2|||n%2,?_,V0 _ _⟩;unfold vp;have e1:((n:Int).fdiv (2^min (Int.toNat 1) u64.bits))=((n/2:Nat):Int):=by
  rw[show min (Int.toNat 1) u64.bits=1 from rfl,Int.fdiv_eq_ediv_of_nonneg _ (by decide)];rfl
 have a:(BitVec.ofInt u64.bits (n:Int)&&& BitVec.ofInt u64.bits 1).toNat=n%2:=by
  show(BitVec.ofNat 64 n&&& BitVec.ofNat 64 1).toNat=_;simp[*]
 have w1:∀k:Nat,k<18446744073709551616->u64.wrap (k:Int)=(k:Int):=fun k hk=>dz (i:=.u64) aK;rw[e1,a,w1 (n%2) ae];have b:(BitVec.ofInt u64.bits ((n/2:Nat):Int)|||BitVec.ofInt u64.bits ((n%2:Nat):Int)).toNat=(n/2|||n%2):=by
  show(BitVec.ofNat 64 (n/2)|||BitVec.ofNat 64 (n%2)).toNat=_;rw[BitVec.toNat_or,BitVec.toNat_ofNat,BitVec.toNat_ofNat,Nat.mod_eq_of_lt (by omega:n/2<2^64),Nat.mod_eq_of_lt (by omega:n%2<2^64)]
 rw[b,w1];have:=V0 (n/2) (n%2);omega
theorem XH(m:Int):0<=vp m/\vp m<=18446744073709551615:=fW _
theorem XG{m:Int}(a:2<=m)(b:m<=18446744073709551615):vp m<m:=by
 obtain⟨n,rfl⟩:=Int.eq_ofNat_of_zero_le (show 0<=m by omega);obtain⟨k,e,hk⟩:=alB (n:=n) ae;omega
theorem A9(z:Int): -9223372036854775808<=i64.wrap z/\i64.wrap z<=9223372036854775807:=by
 rw[IntKind.wrap_i64];omega
theorem Nl(m:Int)(k:Nat):m.fdiv (2^k)=m/2^k:=Int.fdiv_eq_ediv_of_nonneg _ (Int.pow_nonneg (by decide))
def z8(x:gN)(m e:Int):Nat×Nat:=bif decide (e>1023) then (xw x (u64.wrap (1*2^min (Int.toNat 52) u64.bits)) (1023+1),1) else (xw x m e,0)
def xx(x:gN)(m e:Int):Nat×Nat:=bif m.fdiv (2^min (Int.toNat 52) u64.bits)==0 then z8 x m (-1023) else z8 x m e
def z7(x:gN)(m e r:Int):Nat×Nat:=bif r==3 then (bif u64.wrap (m+1)==u64.wrap (1*2^min (u64.wrap (1+52)).toNat u64.bits) then xx x ((u64.wrap (m+1)).fdiv (2^min (Int.toNat 1) u64.bits)) (i64.wrap (e+1)) else xx x (u64.wrap (m+1)) e) else xx x m e
def CD(x:gN)(m e:Int):Nat×Nat:=z7 x (m.fdiv (2^min (Int.toNat 2) u64.bits)) (i64.wrap (e+2)) (u64.wrap (↑(BitVec.ofInt u64.bits (u64.wrap (↑(BitVec.ofInt u64.bits m&&& BitVec.ofInt u64.bits 3).toNat:Int))|||BitVec.ofInt u64.bits (u64.wrap (↑(BitVec.ofInt u64.bits (m.fdiv (2^min (Int.toNat 2) u64.bits))&&& BitVec.ofInt u64.bits 1).toNat:Int))).toNat:Int))
def CC(x:gN)(m e:Int):Nat×Nat:=CD x (tM (m.toNat+1) m e).1 (tM (m.toNat+1) m e).2
def FF(x:gN)(m e:Int):Nat×Nat:=CC x (vn (m.toNat+1) m e).1 (vn (m.toNat+1) m e).2
def vq(x:gN)(m e:Int):Nat×Nat:=bif x.tr then FF x (u64.wrap (↑(BitVec.ofInt u64.bits m|||BitVec.ofInt u64.bits 1).toNat:Int)) e else FF x m e
def alD(x:gN)(m e:Int):Nat×Nat:=vq x (vm ((18014398509481984-m).toNat+1) m e).1 (vm ((18014398509481984-m).toNat+1) m e).2
def dr(x:gN):Nat×Nat:=alD x x.m (x.e+52)
def vo(n:Nat):Value:=bif n==0 then .nilIface else .iface 128 (.int .i64 1)
def d7:Option Addr:=some ⟨11,0,none⟩
def CB:aQ where
 X:=gN
 args x:=[ai x.s,ag d7,aA x.m,ad x.e,aj x.ng,aj x.tr]
 cond x:=0<=x.m/\x.m<=18446744073709551615/\ -10000000000<=x.e/\x.e<=10000000000
 aO x F:=gF x.tb x.lc F
 val x _:=.returned (.tuple #[.float .f64 (dr x).1,vo (dr x).2])
structure d_ where
 m:Int
 e:Int
 r:Int
 er:Nat
 v:Value
def sa(x:gN)(d:d_):List (Nat×Value):=[(1,.pointer (some ⟨11,0,none⟩)),(2,.int .u64 d.m),(3,.int .i64 d.e),(4,.bool x.ng),(5,.bool x.tr),(14,.int .i64 1023),(15,.int .i64 (-1022))]
def gE(m e:Int):Prop:=0<=m/\m<=18446744073709551615/\ -9223372036854775808<=e/\e<=9223372036854775807
def alC(x:gN)(F:ah):Nat->Option Inv:=fun
 |0=>some {X:=d_,P:=fun d=>gE d.m d.e/\∃f,(18014398509481984-d.m).toNat<f/\dr x=vq x (vm f d.m d.e).1 (vm f d.m d.e).2,mu:=fun d=>(18014398509481984-d.m).toNat,lv:=fun d=>sa x d,st:=fun _=>[F]}
 |2=>some {X:=d_,P:=fun d=>gE d.m d.e/\∃f,d.m.toNat<f/\dr x=CC x (vn f d.m d.e).1 (vn f d.m d.e).2,mu:=fun d=>d.m.toNat,lv:=fun d=>sa x d,st:=fun _=>[F]}
 |4=>some {X:=d_,P:=fun d=>gE d.m d.e/\∃f,d.m.toNat<f/\dr x=CD x (tM f d.m d.e).1 (tM f d.m d.e).2,mu:=fun d=>d.m.toNat,lv:=fun d=>sa x d,st:=fun _=>[F]}
 |_=>none
def alA(x:gN)(F:ah):Nat->Option Inv:=fun
 |7=>some {X:=d_,P:=fun d=>gE d.m d.e/\dr x=vq x d.m d.e,mu:=fun _=>0,lv:=fun d=>sa x d,st:=fun _=>[F]}
 |9=>some {X:=d_,P:=fun d=>gE d.m d.e/\dr x=FF x d.m d.e,mu:=fun _=>0,lv:=fun d=>sa x d,st:=fun _=>[F]}
 |12=>some {X:=d_,P:=fun d=>gE d.m d.e/\dr x=CC x d.m d.e,mu:=fun _=>0,lv:=fun d=>sa x d,st:=fun _=>[F]}
 |15=>some {X:=d_,P:=fun d=>gE d.m d.e/\dr x=CD x d.m d.e,mu:=fun _=>0,lv:=fun d=>sa x d,st:=fun _=>[F]}
 |19=>some {X:=d_,P:=fun d=>gE d.m d.e/\dr x=z7 x d.m d.e d.r,mu:=fun _=>0,lv:=fun d=>sa x d++[(16,.int .u64 d.r)],st:=fun _=>[F]}
 |24=>some {X:=d_,P:=fun d=>gE d.m d.e/\dr x=xx x d.m d.e,mu:=fun _=>0,lv:=fun d=>sa x d,st:=fun _=>[F]}
 |26=>some {X:=d_,P:=fun d=>gE d.m d.e/\dr x=z8 x d.m d.e,mu:=fun _=>0,lv:=fun d=>sa x d,st:=fun _=>[F]}
 |31=>some {X:=d_,P:=fun d=>gE d.m d.e/\dr x=(xw x d.m d.e,d.er)/\d.v=vo d.er,mu:=fun _=>0,lv:=fun d=>sa x d++[(17,d.v)],st:=fun _=>[F]}
 |_=>none
def uj:OH:=.q [.ex 0 (.is (.int .u64 52))]
def NB:OH:=.q [.ex 0 (.is (.int .u64 11))]
def Hc:OH:=.q [.ex 0 (.is (.int .i64 (-1023)))]
def tq:=aA 11
def ml:=ad (-1023)
def Em:=(-9223372036854775808:Int)<=(-1023:Int)+(1:Int)/\(-1023:Int)+(1:Int)<=(9223372036854775807:Int)
def Ij(b:d_)(x:gN):=gE b.m b.e/\∃(a:Nat),((18014398509481984:Int)-b.m).toNat<a/\dr x=vq x (vm a b.m b.e).fst (vm a b.m b.e).snd
def Ce(v0:Value)(z:d_)(v1:Value)(e0:gN):=ag d7=ag d7/\v0=aA z.m/\v1=ad z.e/\aj e0.ng=aj e0.ng/\aj e0.tr=aj e0.tr/\ad 1023=ad 1023/\ad (-1022)=ad (-1022)/\True
def Le(e0:gN)(e1:ah)(v0 v1:Value)(a:St):=∃(z:d_),(gE z.m z.e/\dr e0=vq e0 z.m z.e)/\Ce v0 z v1 e0/\aE a [(0,e1)]
def tt(d:d_):=aA d.m
def rY(d:d_):=ad d.e
def Lf(e0:gN)(e1:ah)(v0 v1:Value)(a:St):=∃(z:d_),(gE z.m z.e/\dr e0=FF e0 z.m z.e)/\Ce v0 z v1 e0/\aE a [(0,e1)]
def ID(b:d_)(x:gN):=gE b.m b.e/\∃(a:Nat),b.m.toNat<a/\dr x=CC x (vn a b.m b.e).fst (vn a b.m b.e).snd
def HV(p b:d_)(x:gN):=ag d7=ag d7/\aA p.m=aA b.m/\ad p.e=ad b.e/\aj x.ng=aj x.ng/\aj x.tr=aj x.tr/\ad 1023=ad 1023/\ad (-1022)=ad (-1022)/\True
def IA(b:d_)(x:gN):=gE b.m b.e/\∃(a:Nat),b.m.toNat<a/\dr x=CD x (tM a b.m b.e).fst (tM a b.m b.e).snd
def Lg(e0:gN)(e1:ah)(v0 v1:Value)(a:St):=∃(z:d_),(gE z.m z.e/\dr e0=CD e0 z.m z.e)/\Ce v0 z v1 e0/\aE a [(0,e1)]
def FW(e0:gN)(e1:ah)(v0 v1:Value)(a:St):=∃(z:d_),(gE z.m z.e/\dr e0=xx e0 z.m z.e)/\Ce v0 z v1 e0/\aE a [(0,e1)]
def Lh(e0:gN)(e1:ah)(v0 v1:Value)(a:St):=∃(z:d_),(gE z.m z.e/\dr e0=z8 e0 z.m z.e)/\Ce v0 z v1 e0/\aE a [(0,e1)]
def Lj(e0:gN)(e1:ah)(v0 v1 v2:Value)(a:St):=∃(z:d_),(gE z.m z.e/\dr e0=(xw e0 z.m z.e,z.er)/\z.v=vo z.er)/\(ag d7=ag d7/\v0=aA z.m/\v1=ad z.e/\aj e0.ng=aj e0.ng/\aj e0.tr=aj e0.tr/\ad 1023=ad 1023/\ad (-1022)=ad (-1022)/\v2=z.v/\True)/\aE a [(0,e1)]
def Lk(b:Oper)(aa:List Value)(rr:ah)(a:K7->Unit->Prop):=e5 Tryz.prog b (HK (149:TypeId))/\true=true/\∃(z:K7),aa=[ag (some ⟨z.a,0,none⟩),ag (some ⟨z.b,0,none⟩)]/\([]:List ah)=[]/\z.a≠z.b/\(pU rr z.a 149/\pU rr z.b 149)/\∀(c:Unit),True->a z c
theorem alF(x:gN)(F:ah)(N:CB.cond x)(t:CB.aO x F):true=true/\aP F ⟨11,1,none⟩ tq/\aP F ⟨11,2,none⟩ ml/\((-9223372036854775808:Int)<=bU ((1:Int)*(2:Int)^min (Int.toNat (11:Int)) i64.bits)+(-1023:Int)/\bU ((1:Int)*(2:Int)^min (Int.toNat (11:Int)) i64.bits)+(-1023:Int)<=(9223372036854775807:Int))/\((-9223372036854775808:Int)<=bU ((1:Int)*(2:Int)^min (Int.toNat (11:Int)) i64.bits)+(-1023:Int)-(2:Int)/\bU ((1:Int)*(2:Int)^min (Int.toNat (11:Int)) i64.bits)+(-1023:Int)-(2:Int)<=(9223372036854775807:Int))/\aP F ⟨11,2,none⟩ ml/\Em/\aP F ⟨11,0,none⟩ ld/\((-9223372036854775808:Int)<=(52:Int)/\(52:Int)<=(9223372036854775807:Int))/\((-9223372036854775808:Int)<=x.e+52/\x.e+52<=(9223372036854775807:Int))/\((∃(b:d_),Ij b x/\(ag d7=ag d7/\aA x.m=aA b.m/\ad (x.e+52)=ad b.e/\aj x.ng=aj x.ng/\aj x.tr=aj x.tr/\ad (bU ((1:Int)*(2:Int)^min (Int.toNat (11:Int)) i64.bits)+(-1023:Int)-(2:Int))=ad 1023/\ad ((-1023:Int)+(1:Int))=ad (-1022)/\True)/\aE [(0,F)] [(0,F)])/\aT fun(d:d_)_=>Ij d x->Br (d.m !=0) (aP F ⟨11,0,none⟩ ld/\Br (d.m.fdiv ((2:Int)^min (bf ((52:Int)+(2:Int))).toNat u64.bits)==0) (∃(b:d_),Ij b x/\(ag d7=ag d7/\aA (bf (d.m*2^min (Int.toNat (1:Int)) u64.bits))=aA b.m/\ad (bU (d.e-1))=ad b.e/\aj x.ng=aj x.ng/\aj x.tr=aj x.tr/\ad 1023=ad 1023/\ad (-1022)=ad (-1022)/\True)/\aE [(0,F)] [(0,F)]/\((18014398509481984:Int)-b.m).toNat<((18014398509481984:Int)-d.m).toNat) (Le x F (tt d) (rY d) [(0,F)])) (Le x F (tt d) (rY d) [(0,F)]))/\aT fun(r:d_)_=>(gE r.m r.e/\dr x=vq x r.m r.e)->Br x.tr (Lf x F (aA (bf (↑(b7 r.m|||b7 (1:Int)).toNat:Int))) (rY r) [(0,F)]) (Lf x F (tt r) (rY r) [(0,F)])/\aT fun(p:d_)_=>(gE p.m p.e/\dr x=FF x p.m p.e)->((∃(b:d_),ID b x/\HV p b x/\aE [(0,F)] [(0,F)])/\aT fun(d:d_)_=>ID d x->aP F ⟨11,0,none⟩ ld/\Br (d.m.fdiv ((2:Int)^min (bf (bf ((1:Int)+(52:Int))+2)).toNat u64.bits)!=0) (∃(b:d_),ID b x/\(ag d7=ag d7/\aA (bf (↑(b7 (d.m.fdiv ((2:Int)^min (Int.toNat (1:Int)) u64.bits))|||b7 (bf (↑(b7 d.m&&& b7 (1:Int)).toNat:Int))).toNat:Int))=aA b.m/\ad (bU (d.e+1))=ad b.e/\aj x.ng=aj x.ng/\aj x.tr=aj x.tr/\ad 1023=ad 1023/\ad (-1022)=ad (-1022)/\True)/\aE [(0,F)] [(0,F)]/\b.m.toNat<d.m.toNat) (∃(a:d_),(gE a.m a.e/\dr x=CC x a.m a.e)/\HV d a x/\aE [(0,F)] [(0,F)]))/\aT fun(n:d_)_=>(gE n.m n.e/\dr x=CC x n.m n.e)->((∃(b:d_),IA b x/\HV n b x/\aE [(0,F)] [(0,F)])/\aT fun(d:d_)_=>IA d x->aS (d.m>1) (((-9223372036854775808:Int)<=(-1022:Int)-(2:Int)/\(-1022:Int)-(2:Int)<=(9223372036854775807:Int))/\aS (d.e<(-1022:Int)-(2:Int)) (((-9223372036854775808:Int)<=d.e+1/\d.e+1<=(9223372036854775807:Int))/\∃(b:d_),IA b x/\(ag d7=ag d7/\aA (bf (↑(b7 (d.m.fdiv ((2:Int)^min (Int.toNat (1:Int)) u64.bits))|||b7 (bf (↑(b7 d.m&&& b7 (1:Int)).toNat:Int))).toNat:Int))=aA b.m/\ad (d.e+1)=ad b.e/\aj x.ng=aj x.ng/\aj x.tr=aj x.tr/\ad 1023=ad 1023/\ad (-1022)=ad (-1022)/\True)/\aE [(0,F)] [(0,F)]/\b.m.toNat<d.m.toNat) (Lg x F (tt d) (rY d) [(0,F)])) (Lg x F (tt d) (rY d) [(0,F)]))/\aT fun(l:d_)_=>(gE l.m l.e/\dr x=CD x l.m l.e)->(∃(a:d_),(gE a.m a.e/\dr x=z7 x a.m a.e a.r)/\(ag d7=ag d7/\aA (l.m.fdiv ((2:Int)^min (Int.toNat (2:Int)) u64.bits))=aA a.m/\ad (bU (l.e+2))=ad a.e/\aj x.ng=aj x.ng/\aj x.tr=aj x.tr/\ad 1023=ad 1023/\ad (-1022)=ad (-1022)/\aA (bf (↑(b7 (bf (↑(b7 l.m&&& b7 (3:Int)).toNat:Int))|||b7 (bf (↑(b7 (l.m.fdiv ((2:Int)^min (Int.toNat (2:Int)) u64.bits))&&& b7 (1:Int)).toNat:Int))).toNat:Int))=aA a.r/\True)/\aE [(0,F)] [(0,F)])/\aT fun(j:d_)_=>(gE j.m j.e/\dr x=z7 x j.m j.e j.r)->Br (j.r==3) (aP F ⟨11,0,none⟩ ld/\Br (bf (j.m+1)==bf ((1:Int)*(2:Int)^min (bf ((1:Int)+(52:Int))).toNat u64.bits)) (FW x F (aA ((bf (j.m+1)).fdiv ((2:Int)^min (Int.toNat (1:Int)) u64.bits))) (ad (bU (j.e+1))) [(0,F)]) (FW x F (aA (bf (j.m+1))) (rY j) [(0,F)])) (FW x F (tt j) (rY j) [(0,F)])/\aT fun(h:d_)_=>(gE h.m h.e/\dr x=xx x h.m h.e)->(aP F ⟨11,0,none⟩ ld/\Br (h.m.fdiv ((2:Int)^min (Int.toNat (52:Int)) u64.bits)==0) (aP F ⟨11,2,none⟩ ml/\Lh x F (tt h) ml [(0,F)]) (Lh x F (tt h) (rY h) [(0,F)]))/\aT fun(f:d_)_=>(gE f.m f.e/\dr x=z8 x f.m f.e)->aS (f.e>1023) (aP F ⟨11,0,none⟩ ld/\((-9223372036854775808:Int)<=(1023:Int)+(1:Int)/\(1023:Int)+(1:Int)<=(9223372036854775807:Int))/\Lj x F (aA (bf ((1:Int)*(2:Int)^min (Int.toNat (52:Int)) u64.bits))) (ad ((1023:Int)+(1:Int))) (fh 128 (ad 1)) [(0,F)]) (Lj x F (tt f) (rY f) nilIface [(0,F)])/\aT fun(d:d_)_=>(gE d.m d.e/\dr x=(xw x d.m d.e,d.er)/\d.v=vo d.er)->aP F ⟨11,0,none⟩ ld/\true=true/\aP F ⟨11,2,none⟩ ml/\aP F ⟨11,1,none⟩ tq/\((-9223372036854775808:Int)<=bU ((1:Int)*(2:Int)^min (Int.toNat (11:Int)) i64.bits)-1/\bU ((1:Int)*(2:Int)^min (Int.toNat (11:Int)) i64.bits)-1<=(9223372036854775807:Int))/\aP F ⟨11,0,none⟩ ld/\Br x.ng (true=true/\aP F ⟨11,0,none⟩ ld/\aP F ⟨11,1,none⟩ tq/\Lk (ba Tryz.f125 35 1) [ag d7,ag (some ⟨9,0,none⟩)] (cP F) (fun b a=>ar CB x F (ax (tuple {toList:=[float f64 (bf (↑(b7 (bf (↑(b7 (bf (↑(b7 d.m&&& b7 (bf (bf ((1:Int)*(2:Int)^min (Int.toNat (52:Int)) u64.bits)-1))).toNat:Int))|||b7 (bf (bf (bU (↑(gQ (bU (d.e-(-1023:Int)))&&& gQ (bU ((1:Int)*(2:Int)^min (Int.toNat (11:Int)) i64.bits)-1)).toNat:Int))*2^min (Int.toNat (52:Int)) u64.bits))).toNat:Int))|||b7 (bf (bf ((1:Int)*(2:Int)^min (Int.toNat (52:Int)) u64.bits)*2^min (Int.toNat (11:Int)) u64.bits))).toNat:Int)).toNat,d.v]})) [(0,F)])) (Lk (ba Tryz.f125 35 1) [ag d7,ag (some ⟨9,0,none⟩)] (cP F) (fun b a=>ar CB x F (ax (tuple ⟨[float f64 (bf (↑(b7 (bf (↑(b7 d.m&&& b7 (bf (bf ((1:Int)*(2:Int)^min (Int.toNat (52:Int)) u64.bits)-1))).toNat:Int))|||b7 (bf (bf (bU (↑(gQ (bU (d.e-(-1023:Int)))&&& gQ (bU ((1:Int)*(2:Int)^min (Int.toNat (11:Int)) i64.bits)-1)).toNat:Int))*2^min (Int.toNat (52:Int)) u64.bits))).toNat:Int)).toNat,d.v]⟩)) [(0,F)])):=by
 delta tq ml Em ld Ij d7 Ce Le tt rY Lf ID HV IA Lg FW Lh Lj Lk cP aH ad aA aj ag fh b7 gQ bf bU aS ax aT;obtain⟨s,m,e,ng,tr,tb,lc⟩:=x;obtain⟨J,K,L,M⟩:=N;replace t:gF tb lc F:=t;generalize hx:(⟨s,m,e,ng,tr,tb,lc⟩:gN)=x at*;have S:x.m=m:=by rw[<-hx]
 have R:x.e=e:=by rw[<-hx]
 rw[S]at J K;rw[R]at L M;have o:aE [(0,F)] [(0,F)]:=az [0];have H:i64.wrap (1*2^min (Int.toNat 11) i64.bits)=2048:=by rfl
 have P:(2:Int)^min (u64.wrap (52+2)).toNat u64.bits=18014398509481984:=by rfl
 have Q:(2:Int)^min (u64.wrap (u64.wrap (1+52)+2)).toNat u64.bits=36028797018963968:=by rfl
 have I:∀a b:Int,gE (u64.wrap a) (i64.wrap b):=fun a b=>⟨(fW a).1,(fW a).2,(A9 b).1,(A9 b).2⟩;have D:∀(m:Int)(k:Nat),0<=m->m<=18446744073709551615->0<=m.fdiv (2^k)/\m.fdiv (2^k)<=18446744073709551615:=fun m k a b=>by
  rw[Nl];have hp:(0:Int)<2^k:=Int.pow_pos (by decide);exact⟨Int.ediv_nonneg a (Int.le_of_lt hp),Int.le_trans (Int.ediv_le_self _ a) b⟩
 rw[H];refine⟨rfl,t.i1,t.i2,aK,aK,t.i2,aK,t.i0,aK,aK,⟨⟨⟨x.m,x.e+52,0,0,.nilIface⟩,⟨⟨by simp[*],by simp[*],by grind,by grind⟩,(18014398509481984-x.m).toNat+1,io _,rfl⟩,(by simp[*]),o⟩,?_⟩,?_⟩
 ·rintro⟨m,e,r,er,v⟩ w ⟨⟨z,y,A,B⟩,f,u,c⟩;dsimp only at z y A B u c⊢;obtain⟨f,rfl⟩:∃g,f=g+1:=⟨f-1,ae⟩;have out:(bif m !=0 then m.fdiv (2^min (u64.wrap (52+2)).toNat u64.bits)==0 else false)=false->dr x=vq x m e:=fun h=>by rw[c,vm,h];rfl
  refine aG (fun q1=>⟨t.i0,aG (fun q2=>?_) (fun q2=>⟨⟨m,e,0,0,.nilIface⟩,⟨⟨z,y,A,B⟩,out (by grind)⟩,(by simp[*]),o⟩)⟩) (fun q1=>⟨⟨m,e,0,0,.nilIface⟩,⟨⟨z,y,A,B⟩,out (by simp[*])⟩,(by simp[*]),o⟩);have O:m≠0:=by
   grind
  have G:m<18014398509481984:=by
   grind
  have T:u64.wrap (m*2^min (Int.toNat 1) u64.bits)=m*2:=by
   rw[show(2:Int)^min (Int.toNat 1) u64.bits=2 from rfl];exact dz (i:=.u64) aK
  refine⟨⟨_,_,0,0,.nilIface⟩,⟨I _ _,f,?_,?_⟩,(by(repeat refine⟨rfl,?_⟩);simp[*]),o,?_⟩
  ·show(18014398509481984-u64.wrap (m*2^min (Int.toNat 1) u64.bits)).toNat<f;omega
  ·dsimp only;rw[c,vm,show(m !=0)=true from q1,show(m.fdiv (2^min (u64.wrap (52+2)).toNat u64.bits)==0)=true from q2];rfl
  ·show(18014398509481984-u64.wrap (m*2^min (Int.toNat 1) u64.bits)).toNat<(18014398509481984-m).toNat;omega
 rintro⟨m,e,r,er,v⟩ w ⟨k,c⟩;dsimp only at k c⊢;refine⟨aG (fun q=>⟨⟨_,e,0,0,.nilIface⟩,⟨⟨(fW _).1,(fW _).2,k.2.2.1,k.2.2.2⟩,by rw[c];unfold vq;rw[show x.tr=true from q];rfl⟩,(by(repeat refine⟨rfl,?_⟩);simp[*]),o⟩) (fun q=>⟨⟨m,e,0,0,.nilIface⟩,⟨k,by rw[c];unfold vq;simp[*]⟩,(by simp[*]),o⟩),?_⟩;clear c k;rintro⟨m,e,r,er,v⟩ w ⟨k,c⟩;dsimp only at k c⊢;refine⟨⟨⟨⟨m,e,0,0,.nilIface⟩,⟨k,m.toNat+1,io _,c⟩,(by simp[*]),o⟩,?_⟩,?_⟩
 ·clear c k;rintro⟨m,e,r,er,v⟩ w ⟨k,f,u,c⟩;have k':=k;obtain⟨z,y,A,B⟩:=k';dsimp only at k z y A B u c⊢;obtain⟨f,rfl⟩:∃g,f=g+1:=⟨f-1,ae⟩;refine⟨t.i0,aG (fun q=>?_) (fun q=>⟨⟨m,e,0,0,.nilIface⟩,⟨k,by rw[c,vn,show(m.fdiv (2^min (u64.wrap (u64.wrap (1+52)+2)).toNat u64.bits)!=0)=false from q];rfl⟩,(by simp[*]),o⟩)⟩;have G:36028797018963968<=m:=by
   grind
  have hl:=XG (m:=m) ae y;have hn:=XH m;refine⟨⟨vp m,i64.wrap (e+1),0,0,.nilIface⟩,⟨I _ _,f,by grind,?_⟩,(by(repeat refine⟨rfl,?_⟩);simp[*]),o,by grind⟩;dsimp only;rw[c,vn,show(m.fdiv (2^min (u64.wrap (u64.wrap (1+52)+2)).toNat u64.bits)!=0)=true from q];rfl
 clear c k;rintro⟨m,e,r,er,v⟩ w ⟨k,c⟩;dsimp only at k c⊢;refine⟨⟨⟨⟨m,e,0,0,.nilIface⟩,⟨k,m.toNat+1,io _,c⟩,(by simp[*]),o⟩,?_⟩,?_⟩
 ·clear c k;rintro⟨m,e,r,er,v⟩ w ⟨k,f,u,c⟩;have k':=k;obtain⟨z,y,A,B⟩:=k';dsimp only at k z y A B u c⊢;obtain⟨f,rfl⟩:∃g,f=g+1:=⟨f-1,ae⟩;refine bo (fun q=>⟨aK,bo (fun q2=>?_) (fun q2=>⟨⟨m,e,0,0,.nilIface⟩,⟨k,by rw[c,tM,bv q,bF q2];rfl⟩,(by simp[*]),o⟩)⟩) (fun q=>⟨⟨m,e,0,0,.nilIface⟩,⟨k,by rw[c,tM,bF q];rfl⟩,(by simp[*]),o⟩);have hl:=XG (m:=m) ae y;have hn:=XH m;refine⟨aK,⟨vp m,e+1,0,0,.nilIface⟩,⟨⟨hn.1,hn.2,by grind,by grind⟩,f,by grind,?_⟩,(by(repeat refine⟨rfl,?_⟩);simp[*]),o,by grind⟩;dsimp only;rw[c,tM,bv q,bv q2];rfl
 clear c k;rintro⟨m,e,r,er,v⟩ w ⟨k,c⟩;dsimp only at k c⊢;refine⟨⟨⟨m.fdiv (2^min (Int.toNat 2) u64.bits),i64.wrap (e+2),_,0,.nilIface⟩,⟨⟨(D _ _ k.1 k.2.1).1,(D _ _ k.1 k.2.1).2,(A9 _).1,(A9 _).2⟩,c⟩,(by(repeat refine⟨rfl,?_⟩);simp[*]),o⟩,?_⟩;clear c k;rintro⟨m,e,r,er,v⟩ w ⟨k,c⟩;dsimp only at k c⊢;refine⟨aG (fun q=>⟨t.i0,aG (fun q2=>⟨⟨_,_,0,0,.nilIface⟩,⟨⟨(D _ _ (fW _).1 (fW _).2).1,(D _ _ (fW _).1 (fW _).2).2,(A9 _).1,(A9 _).2⟩,by rw[c];unfold z7;rw[show(r==3)=true from q,show(u64.wrap (m+1)==u64.wrap (1*2^min (u64.wrap (1+52)).toNat u64.bits))=true from q2];rfl⟩,(by(repeat refine⟨rfl,?_⟩);simp[*]),o⟩) (fun q2=>⟨⟨_,e,0,0,.nilIface⟩,⟨⟨(fW _).1,(fW _).2,k.2.2.1,k.2.2.2⟩,by rw[c];unfold z7;rw[show(r==3)=true from q,show(u64.wrap (m+1)==u64.wrap (1*2^min (u64.wrap (1+52)).toNat u64.bits))=false from q2];rfl⟩,(by(repeat refine⟨rfl,?_⟩);simp[*]),o⟩)⟩) (fun q=>⟨⟨m,e,0,0,.nilIface⟩,⟨k,by rw[c];unfold z7;simp[*]⟩,(by simp[*]),o⟩),?_⟩;clear c k;rintro⟨m,e,r,er,v⟩ w ⟨k,c⟩;dsimp only at k c⊢;refine⟨⟨t.i0,aG (fun q=>⟨t.i2,⟨m,-1023,0,0,.nilIface⟩,⟨⟨k.1,k.2.1,by simp[*],by simp[*]⟩,by rw[c];unfold xx;grind⟩,(by simp[*]),o⟩) (fun q=>⟨⟨m,e,0,0,.nilIface⟩,⟨k,by rw[c];unfold xx;grind⟩,(by simp[*]),o⟩)⟩,?_⟩;clear c k;rintro⟨m,e,r,er,v⟩ w ⟨k,c⟩;dsimp only at k c⊢;refine⟨bo (fun q=>⟨t.i0,aK,⟨_,1023+1,0,1,_⟩,⟨⟨(fW _).1,(fW _).2,by simp[*],by simp[*]⟩,by rw[c];unfold z8;rw[bv q];rfl,rfl⟩,(by(repeat refine⟨rfl,?_⟩);simp[*]),o⟩) (fun q=>⟨⟨m,e,0,0,.nilIface⟩,⟨k,by rw[c];unfold z8;simp[*],rfl⟩,(by simp[*]),o⟩),?_⟩;clear c k;rintro⟨m,e,r,er,v⟩ w ⟨k,c,E⟩;dsimp only at k c E⊢;have C:pU (.dq (rest [(0,F)] [])) 11 149/\pU (.dq (rest [(0,F)] [])) 9 149:=⟨t.bi.sub (bP 0),t.bj.sub (bP 0)⟩;have fin:∀b:Nat,xw x m e=b->ar CB x F (returned (tuple #[float .f64 b,v])) [(0,F)]:=fun b h=>
  ⟨(),ao,by show _=returned (.tuple #[.float .f64 (dr x).1,vo (dr x).2]);simp[*],o⟩
 refine⟨t.i0,rfl,t.i2,t.i1,aK,t.i0,aG (fun q=>⟨rfl,t.i0,t.i1,V8 rfl rfl rfl (by decide),rfl,⟨11,9⟩,rfl,rfl,by decide,C,fun _ _=>fin _ (by unfold xw;rw[show x.ng=true from q];rfl)⟩) (fun q=>br (V8 rfl rfl rfl (by decide)) ⟨11,9⟩ (by decide) C fun _ _=>fin _ (by unfold xw;rw[show x.ng=false from q];rfl))⟩
theorem alE:aC 125 CB:=fo 192 Tryz.func125 (fun _ _=>[(1,3,NB),(1,4,aX),(1,8,Hc),(2,3,Hc),(3,4,uj),(4,7,uj),(4,8,aX),(4,9,aX),(5,1,aX),(6,1,aX),(11,1,aX),(18,1,aX),(23,1,aX),(32,6,aX),(35,1,.o (HK 149) [] []),(8,1,aX),(9,4,uj),(9,5,aX),(9,6,aX),(9,7,aX),(10,1,aX),(10,3,aX),(10,4,aX),(13,1,aX),(13,3,aX),(13,4,aX),(15,1,aX),(16,1,aX),(17,2,aX),(17,3,aX),(20,1,aX),(21,4,uj),(21,5,aX),(21,6,aX),(22,1,aX),(24,4,uj),(24,5,aX),(25,3,Hc),(28,3,uj),(28,4,aX),(31,4,uj),(31,5,aX),(31,6,aX),(31,7,aX),(32,5,Hc),(32,10,NB),(32,11,aX),(32,13,aX),(32,14,aX),(32,18,uj),(32,19,aX),(32,20,aX),(34,4,uj),(34,5,aX),(34,9,NB),(34,10,aX),(34,11,aX),(37,1,aX)]) [] alC alA bA [] alF
end
section
open Go
structure bq where
 ds:List Int
 nd:Int
 dp:Int
 ng:Bool
 tr:Bool
def a7(d:bq):List Value:=d.ds.map (fun c=>int .u8 c)++[.int .i64 d.nd,.int .i64 d.dp,.bool d.ng,.bool d.tr]
def bq.ok(d:bq):Prop:=d.ds.length=800/\0<=d.nd/\d.nd<=800
def bq.at_(d:bq)(i:Nat):Int:=d.ds.getD i 0
section
variable{b:Nat}{t:TypeId}{d:bq}
theorem jg(h:d.ds.length=800):(a7 d).length=804:=by unfold a7;simp[h]
theorem GP(h:d.ds.length=800)(k:Nat):(a7 d)[800+k]?=[int .i64 d.nd,.int .i64 d.dp,.bool d.ng,.bool d.tr][k]?:=by
 unfold a7;rw[j6 (by simp[h])];simp[h]
theorem jM(h:d.ds.length=800):aP (.cells b (a7 d) t) ⟨b,800,none⟩ (.int .i64 d.nd):=aP.cells (by rw[show(800:Nat)=800+0 from rfl,GP h];rfl)
theorem kX(h:d.ds.length=800):aP (.cells b (a7 d) t) ⟨b,801,none⟩ (.int .i64 d.dp):=aP.cells (by rw[show(801:Nat)=800+1 from rfl,GP h];rfl)
theorem afz(h:d.ds.length=800):aP (.cells b (a7 d) t) ⟨b,802,none⟩ (.bool d.ng):=aP.cells (by rw[show(802:Nat)=800+2 from rfl,GP h];rfl)
theorem afA(h:d.ds.length=800):aP (.cells b (a7 d) t) ⟨b,803,none⟩ (.bool d.tr):=aP.cells (by rw[show(803:Nat)=800+3 from rfl,GP h];rfl)
theorem wa(h:d.ds.length=800){i:Nat}(hi:i<800):aP (.cells b (a7 d) t) ⟨b,i,none⟩ (.int .u8 (d.at_ i)):=aP.cells (by
 unfold a7 bq.at_;rw[lD (by simp[h,hi]),fP,fg,gy ae];rfl)
theorem Kj(h:d.ds.length=800)(k:Nat)(v:Value):(a7 d).set (800+k) v=d.ds.map (fun c=>int .u8 c)++[int .i64 d.nd,.int .i64 d.dp,.bool d.ng,.bool d.tr].set k v:=by
 unfold a7;rw[List.set_append_right _ _ (by simp[h])];simp[h]
theorem Fg(h:d.ds.length=800)(n:Int):(a7 d).set 800 (.int .i64 n)=a7 ⟨d.ds,n,d.dp,d.ng,d.tr⟩:=Kj h 0 _
theorem zH(h:d.ds.length=800)(n:Int):(a7 d).set 801 (.int .i64 n)=a7 ⟨d.ds,d.nd,n,d.ng,d.tr⟩:=Kj h 1 _
theorem ajv(h:d.ds.length=800)(n:Bool):(a7 d).set 802 (.bool n)=a7 ⟨d.ds,d.nd,d.dp,n,d.tr⟩:=Kj h 2 _
theorem Kk(h:d.ds.length=800)(n:Bool):(a7 d).set 803 (.bool n)=a7 ⟨d.ds,d.nd,d.dp,d.ng,n⟩:=Kj h 3 _
theorem R3(h:d.ds.length=800){i:Nat}(hi:i<800)(c:Int):(a7 d).set i (.int .u8 c)=a7 ⟨d.ds.set i c,d.nd,d.dp,d.ng,d.tr⟩:=by
 unfold a7;rw[List.set_append_left _ _ (by simp[h,hi]),List.map_set]
end
def mD(ds:List Int):Nat->Nat
 |0=>0
 |n+1=>bif ds.getD n 0==48 then mD ds n else n+1
def kl(d:bq):bq:=⟨d.ds,(mD d.ds d.nd.toNat:Nat),bif mD d.ds d.nd.toNat==0 then 0 else d.dp,d.ng,d.tr⟩
theorem W9(ds:List Int):∀n,mD ds n<=n
 |0=>bT _
 |n+1=>by
  rw[mD];cases ds.getD n 0==48 with
  |true=>rw[aU];have:=W9 ds n;omega
  |false=>exact bT _
structure km where
 b:Nat
 d:bq
def iw(x:km):Option Addr:=some ⟨x.b,0,none⟩
def py(x:km):=af x.b (a7 x.d) 158
def tI:aQ where
 X:=km
 args x:=[ag (iw x)]
 pre x:=[py x]
 cond x:=x.d.ok
 val _ _:=.returned (.tuple #[])
 post x _:=[af x.b (a7 (kl x.d)) 158]
def za(x:km)(n:Nat):=af x.b (a7 ⟨x.d.ds,(n:Int),x.d.dp,x.d.ng,x.d.tr⟩) 158
def akg(x:km)(F:ah):Nat->Option Inv:=fun
 |0=>some {X:=Nat,P:=fun n=>(n:Int)<=x.d.nd/\mD x.d.ds x.d.nd.toNat=mD x.d.ds n,mu:=fun n=>n,lv:=fun _=>[(0,ag (iw x))],st:=fun n=>[za x n,F]}
 |_=>none
def Jm(a:Nat)(x:km):=a<=x.d.nd/\mD x.d.ds x.d.nd.toNat=mD x.d.ds a
def lI(x:km)(F:ah):=[(0,af x.b (a7 x.d) 158),(1,F)]
def I_(x:km)(g:Nat)(F:ah):=[(0,af x.b (a7 ⟨x.d.ds,(g:Int),x.d.dp,x.d.ng,x.d.tr⟩) 158),(1,F)]
def nR(d:Int):=(-9223372036854775808:Int)<=d-1/\d-1<=(9223372036854775807:Int)
def iR(aa:ah)(a:Addr)(b:Int->Prop):=∃(z0:Int),aP aa a (a8 z0)/\b z0
def Ou(x:km)(g:Nat)(F:ah):=T1 (za x g) ⟨x.b,800,none⟩ (fun a=>Br (a==0) ((aw x.b 801/\801<(a7 ⟨x.d.ds,(g:Int),x.d.dp,x.d.ng,x.d.tr⟩).length)/\ar tI x F eC [(0,af x.b ((a7 ⟨x.d.ds,(g:Int),x.d.dp,x.d.ng,x.d.tr⟩).set 801 (ad 0)) 158),(1,F)]) (ar tI x F eC (I_ x g F)))
theorem akh(x:km)(F:ah)(s:tI.cond x)(u:tI.aO x F):(∃(a:Nat),Jm a x/\(ag (iw x)=ag (iw x)/\True)/\aE (lI x F) (I_ x a F))/\aT fun(g:Nat)_=>Jm g x->true=true/\T1 (za x g) ⟨x.b,800,none⟩ (fun e=>aS (e>0) (T1 (za x g) ⟨x.b,800,none⟩ (fun d=>nR d/\(0<=d-1/\d-1<(↑(800:Nat):Int))/\iR (za x g) ⟨x.b,0+(d-1).toNat*1,none⟩ (fun c=>Br (c==48) (T1 (za x g) ⟨x.b,800,none⟩ (fun b=>nR b/\(aw x.b 800/\800<(a7 ⟨x.d.ds,(g:Int),x.d.dp,x.d.ng,x.d.tr⟩).length)/\∃(a:Nat),Jm a x/\(ag (iw x)=ag (iw x)/\True)/\aE [(0,af x.b ((a7 ⟨x.d.ds,(g:Int),x.d.dp,x.d.ng,x.d.tr⟩).set 800 (ad (b-1))) 158),(1,F)] (I_ x a F)/\a<g)) (Ou x g F)))) (Ou x g F)):=by
 delta Jm iw lI I_ T1 za nR iR eC Ou aw ad a8 ag af aS ax aT;obtain⟨b,ds,nd,dp,ng,tr⟩:=x;obtain⟨hl,p,r⟩:=s;dsimp only at hl p r⊢;have f:∀n l m o,(bq.mk ds n l m o).ds.length=800:=fun _ _ _ _=>hl;have len:∀n,(a7 ⟨ds,n,dp,ng,tr⟩).length=804:=fun n=>jg (f n dp ng tr);refine⟨⟨nd.toNat,⟨ae,rfl⟩,⟨rfl,ao⟩,?_⟩,?_⟩
 ·rw[show((nd.toNat:Nat):Int)=nd by omega];exact az [0,1]
 rintro n v ⟨hn,j⟩;have out:mD ds nd.toNat=n->∃(h:Int),aP (.cells b (a7 ⟨ds,(n:Int),dp,ng,tr⟩) 158) ⟨b,800,none⟩ (.int .i64 h)/\Br (h==0) ((d9 ⟨b,801,none⟩ b/\801<(a7 ⟨ds,(n:Int),dp,ng,tr⟩).length)/\ar tI ⟨b,ds,nd,dp,ng,tr⟩ F (returned (tuple #[])) [(0,.cells b ((a7 ⟨ds,(n:Int),dp,ng,tr⟩).set 801 (.int .i64 0)) 158),(1,F)])
   (ar tI ⟨b,ds,nd,dp,ng,tr⟩ F (returned (tuple #[])) [(0,.cells b (a7 ⟨ds,(n:Int),dp,ng,tr⟩) 158),(1,F)]):=fun e=>by
  refine⟨_,jM (f _ _ _ _),aG (fun q=>⟨⟨aq,by rw[len];decide⟩,?_⟩) (fun q=>?_)⟩
  ·have q:((n:Int)==0)=true:=q;have q:n=0:=by have:=eq_of_beq q;omega
   subst q;rw[zH (f _ _ _ _)];have:kl ⟨ds,nd,dp,ng,tr⟩=⟨ds,((0:Nat):Int),0,ng,tr⟩:=by unfold kl;rw[e];rfl
   exact⟨(),ao,rfl,by show aE _ (bD ([.cells b (a7 (kl ⟨ds,nd,dp,ng,tr⟩)) _]++[F]));rw[this];exact az [0,1]⟩
  ·have q:((n:Int)==0)=false:=q;have q:¬(n:Int)=0:=dU.1 q;have:kl ⟨ds,nd,dp,ng,tr⟩=⟨ds,(n:Int),dp,ng,tr⟩:=by unfold kl;rw[e,show(n==0)=false from dU.2 ae];rfl
   exact⟨(),ao,rfl,by show aE _ (bD ([.cells b (a7 (kl ⟨ds,nd,dp,ng,tr⟩)) _]++[F]));rw[this];exact az [0,1]⟩
 refine⟨rfl,_,jM (f _ _ _ _),bo (fun q=>?_) (fun q=>out ?_)⟩
 ·obtain⟨k,rfl⟩:∃k,n=k+1:=⟨n-1,by dsimp only at q;omega⟩;rw[mD]at j;refine⟨_,jM (f _ _ _ _),hC,hC,ds.getD k 0,?_,aG (fun q2=>?_) (fun q2=>out ?_)⟩
  ·have:=wa (b:=b) (t:=158) (f ((k+1:Nat):Int) dp ng tr) (i:=k) ae;rw[show 0+(((k+1:Nat):Int)-1).toNat*1=k by omega];exact this
  ·refine⟨_,jM (f _ _ _ _),hC,⟨aq,by rw[len];decide⟩,k,⟨ae,by rw[j,show(ds.getD k 0==48)=true from q2];rfl⟩,⟨rfl,ao⟩,?_,ae⟩;rw[Fg (f _ _ _ _),show(((k+1:Nat):Int)-1)=(k:Int) by omega];exact az [0,1]
  ·rw[j,show(ds.getD k 0==48)=false from q2];rfl
 ·have:n=0:=by dsimp only at q;omega
  subst this;rw[j];rfl
theorem Xb:aC 184 tI:=fo 35 Tryz.func184 (fun _ _=>[(0,3,c9),(0,10,c9),(0,15,.q [.ex 0 (.int .u8)]),(1,3,c9),(1,7,.w [.ex 0 .any]),(2,3,c9),(3,3,.w [.ex 0 .any])]) [] akg aY bA [] akh
end
section
open Go
structure Ao where
 b:Nat
 d:bq
 k:Int
def oO(d:bq)(k:Int):Bool:=
 bif (bif decide (k<0) then true else decide (k>=d.nd)) then false
 else bif (bif d.at_ k.toNat==53 then k+1==d.nd else false) then (bif d.tr then true else (bif decide (k>0) then (u8.wrap (d.at_ (k-1).toNat-48)).tmod 2 !=0 else false))
 else decide (d.at_ k.toNat>=53)
def uJ(x:Ao):=af x.b (a7 x.d) 158
def qG:aQ where
 X:=Ao
 args x:=[ag (some ⟨x.b,0,none⟩),ad x.k]
 pre x:=[uJ x]
 cond x:=x.d.ok
 val x _:=ax (aj (oO x.d x.k))
 post x _:=[uJ x]
def iH(j:Nat):OH:=.q [.ex j (.int .i64)]
def bH(j:Nat):OH:=.q [.ex j (.int .u8)]
def ta(x:Ao)(F:ah):=[(0,af x.b (a7 x.d) 158),(1,F)]
def vJ(aa:ah)(a:Addr)(b:Bool->Prop):=∃(z0:Bool),aP aa a (aj z0)/\b z0
def Pd(x:Ao)(F:ah):=(0<=x.k/\x.k<(↑(800:Nat):Int))/\iR (uJ x) ⟨x.b,0+x.k.toNat*1,none⟩ (fun a=>ar qG x F (ax (aj (decide (a>=53)))) (ta x F))
theorem aj3(x:Ao)(F:ah)(l:qG.cond x)(m:qG.aO x F):aS (x.k<0) (ar qG x F cV (ta x F)) (T1 (uJ x) ⟨x.b,800,none⟩ (fun e=>aS (x.k>=e) (ar qG x F cV (ta x F)) ((0<=x.k/\x.k<(↑(800:Nat):Int))/\iR (uJ x) ⟨x.b,0+x.k.toNat*1,none⟩ (fun d=>Br (d==53) (((-9223372036854775808:Int)<=x.k+1/\x.k+1<=(9223372036854775807:Int))/\T1 (uJ x) ⟨x.b,800,none⟩ (fun c=>Br (x.k+1==c) (vJ (uJ x) ⟨x.b,803,none⟩ (fun b=>Br b (ar qG x F fm (ta x F)) (aS (x.k>0) (((-9223372036854775808:Int)<=x.k-1/\x.k-1<=(9223372036854775807:Int))/\(0<=x.k-1/\x.k-1<(↑(800:Nat):Int))/\iR (uJ x) ⟨x.b,0+(x.k-1).toNat*1,none⟩ (fun a=>(2:Int)≠(0:Int)/\ar qG x F (ax (aj ((u8.wrap (a-48)).tmod (2:Int)!=(0:Int)))) (ta x F))) (ar qG x F cV (ta x F))))) (Pd x F))) (Pd x F))))):=by
 delta c6 cV ta T1 uJ iR vJ fm Pd ad a8 aj af aS ax;obtain⟨b,d,k⟩:=x;obtain⟨hl,h,j⟩:=l;dsimp only at hl h j⊢;have g:aE [(0,.cells b (a7 d) 158),(1,F)] [(0,.cells b (a7 d) 158),(1,F)]:=az [0,1];have fin:∀v:Bool,oO d k=v->ar qG ⟨b,d,k⟩ F (returned (bool v)) [(0,.cells b (a7 d) 158),(1,F)]:=fun v e=>
  ⟨(),ao,by show _=returned (.bool (oO d k));rw[e],g⟩
 have f:∀i:Int,0<=i->i<800->aP (.cells b (a7 d) 158) ⟨b,0+i.toNat*1,none⟩ (.int .u8 (d.at_ i.toNat)):=fun i a c=>by
  rw[show 0+i.toNat*1=i.toNat by omega];exact wa hl ae
 refine bo (fun q=>fin _ (by unfold oO;rw[bv q];rfl)) (fun q=>⟨_,jM hl,bo (fun q2=>fin _ (by unfold oO;rw[bF q,bv q2];rfl)) (fun q2=>⟨aK,_,f k ae ae,aG (fun q3=>⟨aK,_,jM hl,aG (fun q4=>⟨_,afA hl,aG (fun q5=>fin _ ?_) (fun q5=>bo (fun q6=>⟨aK,aK,_,f (k-1) ae ae,by decide,fin _ ?_⟩) (fun q6=>fin _ ?_))⟩) (fun q4=>⟨aK,_,f k ae ae,fin _ ?_⟩)⟩) (fun q3=>⟨aK,_,f k ae ae,fin _ ?_⟩)⟩)⟩)
 ·unfold oO;rw[bF q,bF q2,show(d.at_ k.toNat==53)=true from q3,show(k+1==d.nd)=true from q4,show d.tr=true from q5];rfl
 ·unfold oO;rw[bF q,bF q2,show(d.at_ k.toNat==53)=true from q3,show(k+1==d.nd)=true from q4,show d.tr=false from q5,bv q6];rfl
 ·unfold oO;rw[bF q,bF q2,show(d.at_ k.toNat==53)=true from q3,show(k+1==d.nd)=true from q4,show d.tr=false from q5,bF q6];rfl
 ·unfold oO;rw[bF q,bF q2,show(d.at_ k.toNat==53)=true from q3,show(k+1==d.nd)=false from q4];rfl
 ·unfold oO;rw[bF q,bF q2,show(d.at_ k.toNat==53)=false from q3];rfl
theorem aj2:aC 170 qG:=fo 56 Tryz.func170 (fun _ _=>[(1,7,iH 0),(3,5,bH 0),(3,13,iH 0),(4,3,.q [.ex 0 .bool]),(6,9,bH 0),(6,10,aX),(7,5,bH 0)]) [] aY aY bA [] aj3
def tu(d:bq):Nat->Int->Int->Int×Int
 |0,i,n=>(i,n)
 |f+1,i,n=>bif (bif decide (i<d.dp) then decide (i<d.nd) else false) then tu d f (i+1) (u64.wrap (u64.wrap (n*10)+u64.wrap (u8.wrap (d.at_ i.toNat-48)))) else (i,n)
def u0(d:bq):Nat->Int->Int->Int
 |0,_,n=>n
 |f+1,i,n=>bif decide (i<d.dp) then u0 d f (i+1) (u64.wrap (n*10)) else n
def u2(d:bq)(n:Int):Int:=bif oO d d.dp then u64.wrap (n+1) else n
def lP(d:bq):Int:=bif decide (d.dp>20) then 18446744073709551615 else u2 d (u0 d 1000 (tu d 1000 0 0).1 (tu d 1000 0 0).2)
def u3:aQ where
 X:=km
 args x:=[ag (iw x)]
 pre x:=[py x]
 cond x:=x.d.ok
 val x _:=ax (aA (lP x.d))
 post x _:=[py x]
structure o6 where
 i:Int
 n:Int
 f:Nat
def aiT(x:km)(F:ah):Nat->Option Inv:=fun
 |0=>some {X:=o6,P:=fun d=>x.d.dp<=20/\0<=d.i/\(d.i<=20)/\900<=d.f+d.i/\lP x.d=u2 x.d (u0 x.d 1000 (tu x.d d.f d.i d.n).1 (tu x.d d.f d.i d.n).2),mu:=fun d=>(20-d.i).toNat,lv:=fun d=>[(0,ag (iw x)),(3,ad d.i),(4,aA d.n)],st:=fun _=>[py x,F]}
 |2=>some {X:=o6,P:=fun d=>x.d.dp<=20/\0<=d.i/\d.i<=20/\900<=d.f+d.i/\lP x.d=u2 x.d (u0 x.d d.f d.i d.n),mu:=fun d=>(20-d.i).toNat,lv:=fun d=>[(0,ag (iw x)),(3,ad d.i),(4,aA d.n)],st:=fun _=>[py x,F]}
 |_=>none
def aiS(x:km)(F:ah):Nat->Option Inv:=fun
 |9=>some {X:=o6,P:=fun d=>x.d.dp<=20/\0<=d.i/\d.i<=20/\900<=d.f+d.i/\lP x.d=u2 x.d (u0 x.d d.f d.i d.n),mu:=fun d=>0,lv:=fun d=>[(0,ag (iw x)),(3,ad d.i),(4,aA d.n)],st:=fun _=>[py x,F]}
 |_=>none
def H_(x:km)(a:o6):=x.d.dp<=20/\0<=a.i/\a.i<=20/\900<=a.f+a.i/\lP x.d=u2 x.d (u0 x.d 1000 (tu x.d a.f a.i a.n).fst (tu x.d a.f a.i a.n).snd)
def QM(f:o6):=(-9223372036854775808:Int)<=f.i+1/\f.i+1<=(9223372036854775807:Int)
def Ei(e0:km)(z:o6):=e0.d.dp<=20/\0<=z.i/\z.i<=20/\900<=z.f+z.i/\lP e0.d=u2 e0.d (u0 e0.d z.f z.i z.n)
def FX(e0:km)(e1:ah)(v0 v1:Value)(a:St):=∃(z:o6),Ei e0 z/\(ag (iw e0)=ag (iw e0)/\v0=ad z.i/\v1=aA z.n/\True)/\aE a (lI e0 e1)
theorem aiV(x:km)(F:ah)(p:u3.cond x)(z:u3.aO x F):T1 (py x) ⟨x.b,801,none⟩ (fun i=>aS (i>20) (ar u3 x F (ax (aA 18446744073709551615)) (lI x F)) (((∃(a:o6),H_ x a/\(ag (iw x)=ag (iw x)/\ad 0=ad a.i/\aA 0=aA a.n/\True)/\aE (lI x F) (lI x F))/\aT fun(f:o6)_=>H_ x f->T1 (py x) ⟨x.b,801,none⟩ (fun d=>aS (f.i<d) (T1 (py x) ⟨x.b,800,none⟩ (fun c=>aS (f.i<c) ((0<=f.i/\f.i<(↑(800:Nat):Int))/\iR (py x) ⟨x.b,0+f.i.toNat*1,none⟩ (fun b=>QM f/\∃(a:o6),H_ x a/\(ag (iw x)=ag (iw x)/\ad (f.i+1)=ad a.i/\aA (bf (bf (f.n*10)+bf (u8.wrap (b-48))))=aA a.n/\True)/\aE (lI x F) (lI x F)/\((20:Int)-a.i).toNat<((20:Int)-f.i).toNat)) (FX x F (ad f.i) (aA f.n) (lI x F)))) (FX x F (ad f.i) (aA f.n) (lI x F))))/\aT fun(h:o6)_=>Ei x h->FX x F (ad h.i) (aA h.n) (lI x F)/\aT fun(f:o6)_=>Ei x f->T1 (py x) ⟨x.b,801,none⟩ (fun d=>aS (f.i<d) (QM f/\∃(a:o6),Ei x a/\(ag (iw x)=ag (iw x)/\ad (f.i+1)=ad a.i/\aA (bf (f.n*10))=aA a.n/\True)/\aE (lI x F) (lI x F)/\((20:Int)-a.i).toNat<((20:Int)-f.i).toNat) (T1 (py x) ⟨x.b,801,none⟩ (fun c=>aC 170 qG/\true=true/\∃(b:Ao),[ag (iw x),ad c]=[ag (some ⟨b.b,0,none⟩),ad b.k]/\[af x.b (a7 x.d) 158]=[af b.b (a7 b.d) 158]/\b.d.ok/\True/\∀(a:Unit),True->Br (oO b.d b.k) (ar u3 x F (ax (aA (bf (f.n+1)))) (ta b F)) (ar u3 x F (ax (aA f.n)) (ta b F))))))):=by
 delta T1 py lI H_ iw iR QM Ei FX ta ad a8 aA ag af bf aS ax aT;obtain⟨b,d⟩:=x;have o:d.ok:=p;obtain⟨hl,s,t⟩:=p;dsimp only at hl s t⊢;have j:aE [(0,.cells b (a7 d) 158),(1,F)] [(0,.cells b (a7 d) 158),(1,F)]:=az [0,1];have fin:∀v:Int,lP d=v->ar u3 ⟨b,d⟩ F (returned (int .u64 v)) [(0,.cells b (a7 d) 158),(1,F)]:=fun v e=>
  ⟨(),ao,by show _=returned (.int .u64 (lP d));rw[e],j⟩
 have y:∀i:Int,0<=i->i<800->aP (.cells b (a7 d) 158) ⟨b,0+i.toNat*1,none⟩ (.int .u8 (d.at_ i.toNat)):=fun i a c=>by
  rw[show 0+i.toNat*1=i.toNat by omega];exact wa hl ae
 refine⟨_,kX hl,bo (fun q=>fin _ (by unfold lP;rw[bv q];rfl)) (fun q=>?_)⟩;refine⟨⟨⟨⟨0,0,1000⟩,⟨ae,bg,bg,bg,by unfold lP;rw[bF q];rfl⟩,aV,j⟩,?_⟩,?_⟩
 ·rintro⟨i,n,f⟩ u ⟨g1,l,g3,g4,g⟩;dsimp only at g1 l g3 g4 g⊢;obtain⟨f,rfl⟩:∃k,f=k+1:=⟨f-1,ae⟩;refine⟨_,kX hl,bo (fun q1=>⟨_,jM hl,bo (fun q2=>⟨⟨l,ae⟩,_,y i l ae,aK,⟨i+1,_,f⟩,⟨g1,bg,bg,bg,by rw[g,tu,bv q1,bv q2];rfl⟩,aV,j,bg⟩) (fun q2=>⟨⟨i,n,1000⟩,⟨g1,l,g3,bg,by rw[g,tu,bv q1,bF q2];rfl⟩,aV,j⟩)⟩) (fun q1=>⟨⟨i,n,1000⟩,⟨g1,l,g3,bg,by rw[g,tu,bF q1];rfl⟩,aV,j⟩)⟩
 intro r w m;refine⟨⟨r,m,aV,j⟩,?_⟩;rintro⟨i,n,f⟩ u ⟨g1,l,g3,g4,g⟩;dsimp only at g1 l g3 g4 g⊢;obtain⟨f,rfl⟩:∃k,f=k+1:=⟨f-1,ae⟩;refine⟨_,kX hl,bo (fun q1=>⟨aK,⟨i+1,_,f⟩,⟨g1,bg,bg,bg,by rw[g,u0,bv q1];rfl⟩,aV,j,bg⟩) (fun q1=>?_)⟩;have g:lP d=u2 d n:=by rw[g,u0,bF q1];rfl
 refine⟨_,kX hl,aj2,rfl,⟨b,d,d.dp⟩,rfl,rfl,o,ao,fun _ _=>aG (fun q2=>fin _ (by rw[g];unfold u2;rw[show oO d d.dp=true from q2];rfl)) (fun q2=>fin _ (by rw[g];unfold u2;rw[show oO d d.dp=false from q2];rfl))⟩
theorem aiU:aC 157 u3:=fo 56 Tryz.func157 (fun _ _=>[(1,3,iH 0),(6,4,iH 0),(6,11,iH 0),(8,1,aX),(8,7,bH 0),(8,8,aX),(8,9,aX),(8,10,aX),(9,4,iH 0),(11,1,aX),(12,4,iH 0),(12,5,bu qG),(13,1,aX)]) [] aiT aiS bA [] aiV
end
section
open Go
structure Ss where
 b:Nat
 h:Int
def Dr(n:Nat):kP where
 X:=Ss
 args x:=[.pointer (some ⟨x.b,0,none⟩),.int .i64 0,.int .i64 x.h]
 cond x:=0<=x.h/\x.h<=n
 val x:=.slice (some ⟨x.b,0,none⟩) x.h.toNat n
theorem aav{P:Program}{o:Oper}{t e:TypeId}{n:Nat}{x l h:Operand}{d:TypeInfo}(k:o.op= .slice t x (some l) (some h) none)(s:P.underlying t=some (.array (P.arrayLen t) (P.elem t)))(hn:P.arrayLen t=n)(r:P.elem t=e)(hi:P.info? e=some d):dJ P o (Dr n):=by
 refine⟨fun q w ρ i p=>?_⟩;obtain⟨b,j⟩:=q;obtain⟨f,g⟩:=p;dsimp only at f g;simp only[k,Op.operands,Dr]at i;have a:ρ x= .pointer (some ⟨b,0,none⟩)/\ρ l= .int .i64 0/\ρ h= .int .i64 j:=by simpa using i
 obtain⟨hx,hl,c⟩:=a;have m:=run_sliceAt_array_lh (P:=P) w t ⟨b,0,none⟩ s .i64 .i64 0 j (cD _) f (by rw[hn];exact g);rw[r,run_sizeOf w hi,hn]at m;simp[execOp,k,hx,hl,c,m,slicedAt,Dr,Addr.add]
structure vE where
 b:Nat
 d:bq
 s:ByteArray
def rJ(d:bq)(s:ByteArray):Nat->Int->Bool
 |0,_=>false
 |f+1,i=>bif decide (i>=d.nd) then true else bif d.at_ i.toNat !=aF s i then decide (d.at_ i.toNat<aF s i) else rJ d s f (i+1)
def rK(d:bq)(s:ByteArray):Bool:=rJ d s s.size 0
def uT(x:vE):Option Addr:=some ⟨x.b,0,none⟩
def BW(x:vE):=af x.b (a7 x.d) 158
def uA:aQ where
 X:=vE
 args x:=[au (uT x) x.d.nd.toNat 800,ai x.s]
 pre x:=[BW x]
 cond x:=x.d.ok/\x.s.size<=1000
 val x _:=ax (aj (rK x.d x.s))
 post x _:=[BW x]
def ahx(x:vE)(F:ah):Nat->Option Inv:=fun
 |0=>some {X:=Nat,P:=fun i=>i<=x.s.size/\rK x.d x.s=rJ x.d x.s (x.s.size-i) i,mu:=fun i=>x.s.size-i,lv:=fun i=>[(0,au (uT x) x.d.nd.toNat 800),(1,ai x.s),(5,ad i)],st:=fun _=>[BW x,F]}
 |_=>none
def Jd(a:Nat)(x:vE):=a<=x.s.size/\rK x.d x.s=rJ x.d x.s (x.s.size-a) (a:Int)
def rM(x:vE)(F:ah):=[(0,af x.b (a7 x.d) 158),(1,F)]
theorem ahA(x:vE)(F:ah)(l:uA.cond x)(n:uA.aO x F):(∃(a:Nat),Jd a x/\(au (uT x) x.d.nd.toNat 800=au (uT x) x.d.nd.toNat 800/\ai x.s=ai x.s/\ad 0=ad ↑a/\True)/\aE (rM x F) (rM x F))/\aT fun(d:Nat)_=>Jd d x->aS ((d:Int)<(x.s.size:Int)) (aS ((d:Int)>=(x.d.nd.toNat:Int)) (ar uA x F fm (rM x F)) (true=true/\(0<=(d:Int)/\(d:Int)<(x.d.nd.toNat:Int))/\iR (BW x) ⟨x.b,0+(d:Int).toNat*1,none⟩ (fun b=>(0<=(d:Int)/\(d:Int)<(x.s.size:Int))/\Br (b !=aF x.s (d:Int)) (true=true/\(0<=(d:Int)/\(d:Int)<(x.d.nd.toNat:Int))/\iR (BW x) ⟨x.b,0+(d:Int).toNat*1,none⟩ (fun a=>(0<=(d:Int)/\(d:Int)<(x.s.size:Int))/\ar uA x F (ax (aj (decide (a<aF x.s (d:Int))))) (rM x F))) (((-9223372036854775808:Int)<=(d:Int)+(1:Int)/\(d:Int)+(1:Int)<=(9223372036854775807:Int))/\∃(a:Nat),Jd a x/\(au (uT x) x.d.nd.toNat 800=au (uT x) x.d.nd.toNat 800/\ai x.s=ai x.s/\ad ((d:Int)+(1:Int))=ad ↑a/\True)/\aE (rM x F) (rM x F)/\x.s.size-a<x.s.size-d)))) (ar uA x F cV (rM x F)):=by
 delta Jd uT rM fm iR BW c6 cV ad a8 ai aj au af aS ax aT;obtain⟨b,d,s⟩:=x;obtain⟨⟨hl,j,k⟩,hs⟩:=l;dsimp only at hl j k hs⊢;have g:aE [(0,.cells b (a7 d) 158),(1,F)] [(0,.cells b (a7 d) 158),(1,F)]:=az [0,1];have fin:∀v:Bool,rK d s=v->ar uA ⟨b,d,s⟩ F (returned (bool v)) [(0,.cells b (a7 d) 158),(1,F)]:=fun v e=>
  ⟨(),ao,by show _=returned (.bool (rK d s));rw[e],g⟩
 have hn:((d.nd.toNat:Nat):Int)=d.nd:=ae;refine⟨⟨0,⟨df _,rfl⟩,aV,g⟩,?_⟩;rintro i o ⟨hi,c⟩;refine bo (fun q=>?_) (fun q=>fin _ ?_)
 ·obtain⟨f,m⟩:∃f,s.size-i=f+1:=⟨s.size-i-1,ae⟩;rw[m]at c;rw[hn];refine bo (fun q2=>fin _ (by rw[c,rJ,bv q2];rfl)) (fun q2=>?_);have h:aP (.cells b (a7 d) 158) ⟨b,0+(i:Int).toNat*1,none⟩ (.int .u8 (d.at_ (i:Int).toNat)):=by
   rw[show 0+(i:Int).toNat*1=i by omega,cw];exact wa hl ae
  refine⟨rfl,aK,_,h,aK,aG (fun q3=>⟨rfl,aK,_,h,aK,fin _ ?_⟩) (fun q3=>⟨aK,i+1,⟨ae,?_⟩,⟨rfl,rfl,by rfl,ao⟩,g,ae⟩)⟩
  ·rw[c,rJ,bF q2,show(d.at_ (i:Int).toNat !=aF s i)=true from q3];rfl
  ·rw[c,rJ,bF q2,show(d.at_ (i:Int).toNat !=aF s i)=false from q3,show s.size-(i+1)=f by omega];rfl
 ·rw[c,show s.size-i=0 by omega];rfl
theorem ahz:aC 183 uA:=fo 32 Tryz.func183 (fun _ _=>[(6,3,bH 0),(7,3,bH 0)]) [] ahx aY bA [] ahA
end
end Go.Proofs.YtdkchodgklpomaaGreatDoor
