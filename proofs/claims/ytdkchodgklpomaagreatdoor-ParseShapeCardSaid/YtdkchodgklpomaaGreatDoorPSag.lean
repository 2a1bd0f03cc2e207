/- Part of the proof that ParseShape answers true at every input. -/
import Derived.Test.YtdkchodgklpomaaGreatDoorPSaf
set_option linter.all false
namespace Go.Proofs.YtdkchodgklpomaaGreatDoor
set_option maxRecDepth 100000
open Go.Value (int slice string bool pointer agg tuple func float iface nilIface)
open Go.IntKind (i64 u8 u64 i32 u32 u16 i8 i16)
open Go.FloatKind (f64)
open Go.Ending (returned panicked)
section
open Go
structure du where
 i:Int
 m:Int
 nd:Int
 nm:Int
 dp:Int
 us:Bool
 tr:Bool
 sd:Bool
 sg:Bool
structure sC where
 m:Int
 e:Int
 n:Bool
 t:Bool
 h:Bool
 i:Int
 o:Bool
def fg(hx:Bool):Int:=bif hx then 16 else 10
def gT(hx:Bool):Int:=bif hx then 16 else 19
def iJ(hx:Bool):Int:=bif hx then 112 else 101
def eS(c:Int):Bool:=bif decide (48<=c) then decide (c<=57) else false
def wW(hx:Bool)(c:Int):Bool:=bif (bif fg hx==16 then decide (97<=eJ c) else false) then decide (eJ c<=102) else false
def Xd(hx:Bool)(m c:Int):Int:=u64.wrap (u64.wrap (m*fg hx)+u64.wrap (u8.wrap (c-48)))
def zrG(m c:Int):Int:=u64.wrap (u64.wrap (m*16)+u64.wrap (u8.wrap (u8.wrap (eJ c-97)+10)))
def oM(s:ByteArray)(hx:Bool)(x:du):Option du:=
 bif aE s x.i==95 then some {x with us:=true,i:=x.i+1}
 else bif aE s x.i==46 then (bif x.sd then none else some {x with sd:=true,dp:=x.nd,i:=x.i+1})
 else bif eS (aE s x.i) then
  (bif (bif aE s x.i==48 then x.nd==0 else false) then some {x with sg:=true,dp:=x.dp-1,i:=x.i+1}
  else bif decide (x.nm<gT hx) then some {x with sg:=true,nd:=x.nd+1,m:=Xd hx x.m (aE s x.i),nm:=x.nm+1,i:=x.i+1}
  else some {x with sg:=true,nd:=x.nd+1,tr:=(bif aE s x.i !=48 then true else x.tr),i:=x.i+1})
 else bif wW hx (aE s x.i) then
  (bif decide (x.nm<gT hx) then some {x with sg:=true,nd:=x.nd+1,m:=zrG x.m (aE s x.i),nm:=x.nm+1,i:=x.i+1}
  else some {x with sg:=true,nd:=x.nd+1,tr:=true,i:=x.i+1})
 else none
def sj(s:ByteArray)(hx:Bool):Nat->du->du
 |0,x=>x
 |f+1,x=>match oM s hx x with|none=>x|some y=>sj s hx f y
def lz(s:ByteArray):Nat->Int->Int->Bool->Int×Int×Bool
 |0,i,e,us=>(i,e,us)
 |f+1,i,e,us=>bif aE s i==95 then lz s f (i+1) e true else bif eS (aE s i) then lz s f (i+1) (bif decide (e<10000) then e*10+aE s i-48 else e) us else (i,e,us)
def qS(s:ByteArray)(ng hx:Bool)(m:Int)(tr us:Bool)(i dp nm:Int):sC:=
 ⟨m,bif m !=0 then dp-nm else 0,ng,tr,hx,i,!(bif us then !(qU (s.extract 0 i.toNat)) else false)⟩
def C5(ng hx:Bool)(m:Int)(tr:Bool)(i:Int):sC:=⟨m,0,ng,tr,hx,i,false⟩
def vi(s:ByteArray)(ng hx:Bool)(m:Int)(tr us:Bool)(i dp nm sg:Int):sC:=
 bif (bif (bif decide (i>=s.size) then true else decide (aE s i<48)) then true else decide (aE s i>57)) then C5 ng hx m tr i
 else match lz s ((s.size:Int)-i).toNat i 0 us with| (i3,e,CX)=>qS s ng hx m tr CX i3 (dp+e*sg) nm
def C4(s:ByteArray)(ng hx:Bool)(m:Int)(tr us:Bool)(i dp nm:Int):sC:=
 bif decide (i+1>=s.size) then C5 ng hx m tr (i+1)
 else bif aE s (i+1)==43 then vi s ng hx m tr us (i+1+1) dp nm 1
 else bif aE s (i+1)==45 then vi s ng hx m tr us (i+1+1) dp nm (-1)
 else vi s ng hx m tr us (i+1) dp nm 1
def sf(s:ByteArray)(hx:Bool)(i:Int):Bool:=bif decide (i<s.size) then eJ (aE s i)==iJ hx else false
def wV(s:ByteArray)(ng hx:Bool)(m:Int)(tr us:Bool)(i dp nm:Int):sC:=
 bif sf s hx i then C4 s ng hx m tr us i dp nm
 else bif fg hx==16 then C5 ng hx m tr i
 else qS s ng hx m tr us i dp nm
def AT(s:ByteArray)(ng hx:Bool)(m:Int)(tr us:Bool)(i dp nm:Int):sC:=
 bif fg hx==16 then wV s ng hx m tr us i (dp*4) (nm*4) else wV s ng hx m tr us i dp nm
def qR(s:ByteArray)(ng hx:Bool)(x:du):sC:=
 bif !x.sg then C5 ng hx x.m x.tr x.i
 else bif !x.sd then AT s ng hx x.m x.tr x.us x.i x.nd x.nm else AT s ng hx x.m x.tr x.us x.i x.dp x.nm
def b7(s:ByteArray):Bool:=bif aE s 0==43 then false else aE s 0==45
def c_(s:ByteArray):Int:=bif aE s 0==43 then 1 else bif aE s 0==45 then 1 else 0
def bm(s:ByteArray):Bool:=bif (bif decide (c_ s+2<s.size) then aE s (c_ s)==48 else false) then eJ (aE s (c_ s+1))==120 else false
def nM(s:ByteArray):Int:=bif bm s then c_ s+2 else c_ s
def fz(s:ByteArray):sC:=
 bif decide (0>=(s.size:Int)) then C5 false false 0 false 0
 else qR s (b7 s) (bm s) (sj s (bm s) ((s.size:Int)-nM s).toNat ⟨nM s,0,0,0,0,false,false,false,false⟩)
def OA(r:sC):Value:=.tuple #[.int .u64 r.m,.int .i64 r.e,.bool r.n,.bool r.t,.bool r.h,.int .i64 r.i,.bool r.o]
def oN:aR where
 X:=bR
 args x:=[aj x.s]
 cond x:=x.s.size<=1000000000
 val x _:=az (OA (fz x.s))
structure c9 where
 m:Int
 tr:Bool
 us:Bool
 i:Int
 dp:Int
 nm:Int
 sg:Int
 e:Int
def t6(x:bR)(ng hx:Bool)(m:Int)(tr:Bool)(i:Int)(us:Bool):List (Nat×Value):=[(0,.string x.s),(2,.int .u64 m),(3,.int .i64 0),(4,.bool ng),(5,.bool tr),(6,.bool hx),(7,.int .i64 i),(8,.bool false),(9,.bool us)]
def wX(hx:Bool):List (Nat×Value):=[(10,.int .u64 (fg hx)),(11,.int .i64 (gT hx)),(12,.int .u8 (iJ hx))]
def nN(s:ByteArray)(x:du):Prop:=0<=x.i/\x.i<=s.size/\0<=x.m/\x.m<=18446744073709551615/\0<=x.nd/\x.nd<=x.i/\ -x.i<=x.dp/\x.dp<=x.i/\0<=x.nm/\x.nm<=x.i
def p7(s:ByteArray)(x:c9):Prop:=0<=x.i/\x.i<=s.size/\0<=x.m/\x.m<=18446744073709551615/\ -5000000000<=x.dp/\x.dp<=5000000000/\0<=x.nm/\x.nm<=5000000000
def Xe:(T:Type)×(du->T):=⟨du,fun d=>d⟩
def acQ:(T:Type)×(c9->T):=⟨c9,fun d=>d⟩
def Oz(x:bR)(d:du):List (Nat×Value):=t6 x (b7 x.s) (bm x.s) d.m d.tr d.i d.us++wX (bm x.s)++[(13,.bool d.sd),(14,.bool d.sg),(15,.int .i64 d.nd),(16,.int .i64 d.nm),(17,.int .i64 d.dp)]
def nA(d:c9):=aA d.m
def tG(d:c9):=ae d.i
def aqN(x:bR)(F:ai):Nat->Option Inv:=fun
 |9=>some {X:=Unit,P:=fun _=>0<x.s.size,mu:=fun _=>0,lv:=fun _=>t6 x (b7 x.s) false 0 false (c_ x.s) false,st:=fun _=>[F]}
 |13=>some {X:=Unit,P:=fun _=>0<x.s.size,mu:=fun _=>0,lv:=fun _=>t6 x (b7 x.s) false 0 false (c_ x.s) false++wX false++[(54,.bool (bm x.s))],st:=fun _=>[F]}
 |18=>some {X:=Unit,P:=fun _=>0<x.s.size,mu:=fun _=>0,lv:=fun _=>t6 x (b7 x.s) (bm x.s) 0 false (nM x.s) false++wX (bm x.s),st:=fun _=>[F]}
 |33=>some {X:=du,gh:=some Xe,P:=fun d=>nN x.s d/\d.i<x.s.size,mu:=fun _=>0,lv:=fun d=>Oz x d++[(18,.int .u8 (aE x.s d.i)),(76,.bool (eS (aE x.s d.i)))],st:=fun _=>[F]}
 |44=>some {X:=du,gh:=some Xe,P:=fun d=>nN x.s d/\d.i<x.s.size,mu:=fun _=>0,lv:=fun d=>Oz x d++[(18,.int .u8 (aE x.s d.i)),(109,.bool (wW (bm x.s) (aE x.s d.i)))],st:=fun _=>[F]}
 |51=>some {X:=du,P:=fun d=>nN x.s d/\fz x.s=qR x.s (b7 x.s) (bm x.s) d,mu:=fun _=>0,lv:=fun d=>Oz x d,st:=fun _=>[F]}
 |54=>some {X:=c9,P:=fun d=>p7 x.s d/\d.dp<=1000000000/\ -1000000000<=d.dp/\d.nm<=1000000000/\fz x.s=AT x.s (b7 x.s) (bm x.s) d.m d.tr d.us d.i d.dp d.nm,mu:=fun _=>0,lv:=fun d=>t6 x (b7 x.s) (bm x.s) d.m d.tr d.i d.us++wX (bm x.s)++[(16,.int .i64 d.nm),(17,.int .i64 d.dp)],st:=fun _=>[F]}
 |57=>some {X:=c9,P:=fun d=>p7 x.s d/\fz x.s=wV x.s (b7 x.s) (bm x.s) d.m d.tr d.us d.i d.dp d.nm,mu:=fun _=>0,lv:=fun d=>t6 x (b7 x.s) (bm x.s) d.m d.tr d.i d.us++wX (bm x.s)++[(16,.int .i64 d.nm),(17,.int .i64 d.dp)],st:=fun _=>[F]}
 |58=>some {X:=c9,P:=fun d=>p7 x.s d/\fz x.s=wV x.s (b7 x.s) (bm x.s) d.m d.tr d.us d.i d.dp d.nm,mu:=fun _=>0,lv:=fun d=>t6 x (b7 x.s) (bm x.s) d.m d.tr d.i d.us++wX (bm x.s)++[(16,.int .i64 d.nm),(17,.int .i64 d.dp),(161,.bool (sf x.s (bm x.s) d.i))],st:=fun _=>[F]}
 |67=>some {X:=c9,P:=fun d=>p7 x.s d/\(d.sg=1\/d.sg= -1)/\fz x.s=vi x.s (b7 x.s) (bm x.s) d.m d.tr d.us d.i d.dp d.nm d.sg,mu:=fun _=>0,lv:=fun d=>t6 x (b7 x.s) (bm x.s) d.m d.tr d.i d.us++wX (bm x.s)++[(16,.int .i64 d.nm),(17,.int .i64 d.dp),(19,.int .i64 d.sg)],st:=fun _=>[F]}
 |71=>some {X:=c9,gh:=some acQ,P:=fun d=>p7 x.s d/\d.i<x.s.size/\(aE x.s d.i==95||eS (aE x.s d.i))=true,mu:=fun _=>0,lv:=fun d=>t6 x (b7 x.s) (bm x.s) d.m d.tr d.i d.us++wX (bm x.s)++[(16,.int .i64 d.nm),(17,.int .i64 d.dp),(19,.int .i64 d.sg),(20,.int .i64 d.e)],st:=fun _=>[F]}
 |75=>some {X:=c9,P:=fun d=>p7 x.s d/\(d.sg=1\/d.sg= -1)/\0<=d.e/\d.e<=100100/\fz x.s=qS x.s (b7 x.s) (bm x.s) d.m d.tr d.us d.i (d.dp+d.e*d.sg) d.nm,mu:=fun _=>0,lv:=fun d=>t6 x (b7 x.s) (bm x.s) d.m d.tr d.i d.us++wX (bm x.s)++[(16,.int .i64 d.nm),(17,.int .i64 d.dp),(19,.int .i64 d.sg),(20,.int .i64 d.e)],st:=fun _=>[F]}
 |77=>some {X:=c9,P:=fun d=>0<=d.i/\d.i<=x.s.size/\0<=d.nm/\d.nm<=5000000000/\ -6000000000<=d.dp/\d.dp<=6000000000/\fz x.s=qS x.s (b7 x.s) (bm x.s) d.m d.tr d.us d.i d.dp d.nm,mu:=fun _=>0,lv:=fun d=>t6 x (b7 x.s) (bm x.s) d.m d.tr d.i d.us++[(16,.int .i64 d.nm),(17,.int .i64 d.dp)],st:=fun _=>[F]}
 |79=>some {X:=c9,P:=fun d=>0<=d.i/\d.i<=x.s.size/\fz x.s=⟨d.m,d.e,b7 x.s,d.tr,bm x.s,d.i,!(bif d.us then !(qU (x.s.extract 0 d.i.toNat)) else false)⟩,mu:=fun _=>0,lv:=fun d=>[(0,aj x.s),(2,nA d),(3,ae d.e),(4,ak (b7 x.s)),(5,ak d.tr),(6,ak (bm x.s)),(7,tG d),(8,dq),(9,ak d.us)],st:=fun _=>[F]}
 |_=>none
def aqO(x:bR)(F:ai):Nat->Option Inv:=fun
 |1=>some {X:=du,P:=fun d=>nN x.s d/\fz x.s=qR x.s (b7 x.s) (bm x.s) (sj x.s (bm x.s) ((x.s.size:Int)-d.i).toNat d),mu:=fun d=>((x.s.size:Int)-d.i).toNat,lv:=fun d=>Oz x d,st:=fun _=>[F]}
 |5=>some {X:=c9,P:=fun d=>p7 x.s d/\(d.sg=1\/d.sg= -1)/\0<=d.e/\d.e<=100100/\fz x.s=(match lz x.s ((x.s.size:Int)-d.i).toNat d.i d.e d.us with| (i3,e,CX)=>qS x.s (b7 x.s) (bm x.s) d.m d.tr CX i3 (d.dp+e*d.sg) d.nm),mu:=fun d=>((x.s.size:Int)-d.i).toNat,lv:=fun d=>t6 x (b7 x.s) (bm x.s) d.m d.tr d.i d.us++wX (bm x.s)++[(16,.int .i64 d.nm),(17,.int .i64 d.dp),(19,.int .i64 d.sg),(20,.int .i64 d.e)],st:=fun _=>[F]}
 |_=>none
def aqP(_x:bR)(_F:ai):List (Nat×Nat×OH):=[(12,16,aX mM),(38,2,aW),(39,2,aW),(39,3,aW),(39,4,aW),(43,4,aX mM),(43,9,aX mM),(47,1,aW),(48,2,aX mM),(48,3,aW),(48,4,aW),(48,5,aW),(48,6,aW),(57,8,aX mM),(79,5,aX y6)]
noncomputable def acS:Func:={Tryz.f124 with body:=some (eP (fun _=>none) (iN Tryz.f124))}
def acT(x:bR):List (Nat×Value):=[(0,.string x.s)]
noncomputable def acU(x:aR.X oN)(F:ai):kj where
 op:=hk ((aqP x F)++[])
 BO:=aqO x F
 cut:=aqN x F
 B1:=(fun _=>[])
def EA:=(-9223372036854775808:Int)<=(0:Int)+(1:Int)/\(0:Int)+(1:Int)<=(9223372036854775807:Int)
def JS(e0:bR)(e1:ai)(v0 v1:Value)(ss:St):=∃(z:Unit),0<e0.s.size/\(aj e0.s=aj e0.s/\aA 0=aA 0/\ae 0=ae 0/\v0=ak (b7 e0.s)/\ak false=ak false/\ak false=ak false/\v1=ae (c_ e0.s)/\ak false=ak false/\ak false=ak false/\True)/\aD ss [(0,e1)]
def EV:=ae ((0:Int)+(1:Int))
def Vo(x:bR):=(-9223372036854775808:Int)<=c_ x.s+2/\c_ x.s+2<=(9223372036854775807:Int)
def JT(e0:bR)(e1:ai)(v0 v1 v2 v3:Value)(ss:St):=∃(z:Unit),0<e0.s.size/\(aj e0.s=aj e0.s/\aA 0=aA 0/\ae 0=ae 0/\ak (b7 e0.s)=ak (b7 e0.s)/\ak false=ak false/\ak false=ak false/\ae (c_ e0.s)=ae (c_ e0.s)/\ak false=ak false/\ak false=ak false/\v0=aA (fg false)/\v1=ae (gT false)/\v2=a_ (iJ false)/\v3=ak (bm e0.s)/\True)/\aD ss [(0,e1)]
def Qu(e0:bR)(e1:ai)(v0 v1 v2 v3 v4:Value)(ss:St):=∃(z:Unit),0<e0.s.size/\(aj e0.s=aj e0.s/\aA 0=aA 0/\ae 0=ae 0/\ak (b7 e0.s)=ak (b7 e0.s)/\ak false=ak false/\v0=ak (bm e0.s)/\v1=ae (nM e0.s)/\ak false=ak false/\ak false=ak false/\v2=aA (fg (bm e0.s))/\v3=ae (gT (bm e0.s))/\v4=a_ (iJ (bm e0.s))/\True)/\aD ss [(0,e1)]
def Mt(e0:bR)(z:du):=nN e0.s z/\fz e0.s=qR e0.s (b7 e0.s) (bm e0.s) (sj e0.s (bm e0.s) (e0.s.size-z.i).toNat z)
def zP(i:du):=(-9223372036854775808:Int)<=i.i+1/\i.i+1<=(9223372036854775807:Int)
def Tp(e0:bR)(v0:Value)(z:du)(v1 v2 v3 v4 v5 v6 v7 v8:Value):=aj e0.s=aj e0.s/\v0=aA z.m/\ae 0=ae 0/\ak (b7 e0.s)=ak (b7 e0.s)/\v1=ak z.tr/\ak (bm e0.s)=ak (bm e0.s)/\v2=ae z.i/\ak false=ak false/\v3=ak z.us/\aA (fg (bm e0.s))=aA (fg (bm e0.s))/\ae (gT (bm e0.s))=ae (gT (bm e0.s))/\a_ (iJ (bm e0.s))=a_ (iJ (bm e0.s))/\v4=ak z.sd/\v5=ak z.sg/\v6=ae z.nd/\v7=ae z.nm/\v8=ae z.dp/\True
def zg(e0:bR)(e1:ai)(v0 v1 v2 v3 v4 v5 v6 v7 v8:Value)(ss:St)(mm:Nat):=∃(z:du),Mt e0 z/\Tp e0 v0 z v1 v2 v3 v4 v5 v6 v7 v8/\aD ss [(0,e1)]/\(e0.s.size-z.i).toNat<mm
def rX(i:du):=aA i.m
def Ak(i:du):=ae (i.i+1)
def u7(l:du):=ae l.nd
def rW(i:du):=ae i.nm
def tF(i:du):=ae i.dp
def XU(e0:bR)(e1:ai)(v0 v1 v2 v3 v4 v5 v6 v7 v8:Value)(ss:St):=∃(z:du),(nN e0.s z/\fz e0.s=qR e0.s (b7 e0.s) (bm e0.s) z)/\Tp e0 v0 z v1 v2 v3 v4 v5 v6 v7 v8/\aD ss [(0,e1)]
def L2(x:bR)(F:ai)(l:du):=XU x F (rX l) (ak l.tr) (ae l.i) (ak l.us) (ak l.sd) (ak l.sg) (u7 l) (rW l) (tF l) [(0,F)]
def Ic(e0:bR)(z e1:du):=(nN e0.s z/\z.i<e0.s.size)/\Xe.snd z=e1
def Qv(e0:bR)(e1:du)(e2:ai)(v0 v1 v2 v3 v4 v5 v6 v7 v8 v9 W5:Value)(ss:St):=∃(z:du),Ic e0 z e1/\(aj e0.s=aj e0.s/\v0=aA z.m/\ae 0=ae 0/\ak (b7 e0.s)=ak (b7 e0.s)/\v1=ak z.tr/\ak (bm e0.s)=ak (bm e0.s)/\v2=ae z.i/\ak false=ak false/\v3=ak z.us/\aA (fg (bm e0.s))=aA (fg (bm e0.s))/\ae (gT (bm e0.s))=ae (gT (bm e0.s))/\a_ (iJ (bm e0.s))=a_ (iJ (bm e0.s))/\v4=ak z.sd/\v5=ak z.sg/\v6=ae z.nd/\v7=ae z.nm/\v8=ae z.dp/\v9=a_ (aE e0.s z.i)/\W5=ak (eS (aE e0.s z.i))/\True)/\aD ss [(0,e2)]
def VF(i:du):=(-9223372036854775808:Int)<=i.nd+1/\i.nd+1<=(9223372036854775807:Int)
def VG(i:du):=(-9223372036854775808:Int)<=i.nm+1/\i.nm+1<=(9223372036854775807:Int)
def TY(i:du)(x:bR)(F:ai)(l:du):=zP i/\zg x F (rX i) (ak true) (Ak i) (ak i.us) (ak i.sd) (ak true) (ae (i.nd+1)) (rW i) (tF i) [(0,F)] ((x.s.size-l.i).toNat)
def Ua(i:du)(x:bR)(F:ai)(l:du):=VF i/\aP (i.nm<gT (bm x.s)) (VG i/\zP i/\zg x F (aA (bc (bc (i.m*fg (bm x.s))+bc (u8.wrap (aE x.s i.i-48))))) (ak i.tr) (Ak i) (ak i.us) (ak i.sd) (ak true) (ae (i.nd+1)) (ae (i.nm+1)) (tF i) [(0,F)] ((x.s.size-l.i).toNat)) (Br (aE x.s i.i !=48) (TY i x F l) (zP i/\zg x F (rX i) (ak i.tr) (Ak i) (ak i.us) (ak i.sd) (ak true) (ae (i.nd+1)) (rW i) (tF i) [(0,F)] ((x.s.size-l.i).toNat)))
def Qw(e0:bR)(e1:du)(e2:ai)(v0 v1 v2 v3 v4 v5 v6 v7 v8 v9 W5:Value)(ss:St):=∃(z:du),Ic e0 z e1/\(aj e0.s=aj e0.s/\v0=aA z.m/\ae 0=ae 0/\ak (b7 e0.s)=ak (b7 e0.s)/\v1=ak z.tr/\ak (bm e0.s)=ak (bm e0.s)/\v2=ae z.i/\ak false=ak false/\v3=ak z.us/\aA (fg (bm e0.s))=aA (fg (bm e0.s))/\ae (gT (bm e0.s))=ae (gT (bm e0.s))/\a_ (iJ (bm e0.s))=a_ (iJ (bm e0.s))/\v4=ak z.sd/\v5=ak z.sg/\v6=ae z.nd/\v7=ae z.nm/\v8=ae z.dp/\v9=a_ (aE e0.s z.i)/\W5=ak (wW (bm e0.s) (aE e0.s z.i))/\True)/\aD ss [(0,e2)]
def TO(x:bR)(g:du)(F:ai)(i:du):=Qw x g F (rX i) (ak i.tr) (ae i.i) (ak i.us) (ak i.sd) (ak i.sg) (u7 i) (rW i) (tF i) (a_ (aE x.s i.i)) (ak (true==false)) [(0,F)]
def Ul(e0:bR)(z:c9):=p7 e0.s z/\z.dp<=1000000000/\(-1000000000:Int)<=z.dp/\z.nm<=1000000000/\fz e0.s=AT e0.s (b7 e0.s) (bm e0.s) z.m z.tr z.us z.i z.dp z.nm
def To(e0:bR)(v0:Value)(z:c9)(v1 v2 v3 v4 v5:Value):=aj e0.s=aj e0.s/\v0=aA z.m/\ae 0=ae 0/\ak (b7 e0.s)=ak (b7 e0.s)/\v1=ak z.tr/\ak (bm e0.s)=ak (bm e0.s)/\v2=ae z.i/\ak false=ak false/\v3=ak z.us/\aA (fg (bm e0.s))=aA (fg (bm e0.s))/\ae (gT (bm e0.s))=ae (gT (bm e0.s))/\a_ (iJ (bm e0.s))=a_ (iJ (bm e0.s))/\v4=ae z.nm/\v5=ae z.dp/\True
def Qx(e0:bR)(e1:ai)(v0 v1 v2 v3 v4 v5:Value)(ss:St):=∃(z:c9),Ul e0 z/\To e0 v0 z v1 v2 v3 v4 v5/\aD ss [(0,e1)]
def HH(e0:bR)(z:c9):=p7 e0.s z/\fz e0.s=wV e0.s (b7 e0.s) (bm e0.s) z.m z.tr z.us z.i z.dp z.nm
def Qy(e0:bR)(e1:ai)(v0 v1 v2 v3 v4 v5:Value)(ss:St):=∃(z:c9),HH e0 z/\To e0 v0 z v1 v2 v3 v4 v5/\aD ss [(0,e1)]
def qG(g:c9):=ae g.nm
def rV(g:c9):=ae g.dp
def yw(g:c9)(x:bR):=0<=g.i/\g.i<x.s.size
def Qz(e0:bR)(e1:ai)(v0 v1 v2 v3 v4 v5 v6:Value)(ss:St):=∃(z:c9),HH e0 z/\(aj e0.s=aj e0.s/\v0=aA z.m/\ae 0=ae 0/\ak (b7 e0.s)=ak (b7 e0.s)/\v1=ak z.tr/\ak (bm e0.s)=ak (bm e0.s)/\v2=ae z.i/\ak false=ak false/\v3=ak z.us/\aA (fg (bm e0.s))=aA (fg (bm e0.s))/\ae (gT (bm e0.s))=ae (gT (bm e0.s))/\a_ (iJ (bm e0.s))=a_ (iJ (bm e0.s))/\v4=ae z.nm/\v5=ae z.dp/\v6=ak (sf e0.s (bm e0.s) z.i)/\True)/\aD ss [(0,e1)]
def HJ(k:c9):=(-9223372036854775808:Int)<=k.i+1/\k.i+1<=(9223372036854775807:Int)
def U4(k:c9):=(-9223372036854775808:Int)<=k.i+1+(1:Int)/\k.i+1+(1:Int)<=(9223372036854775807:Int)
def UU(e0:bR)(z:c9):=p7 e0.s z/\(z.sg=1\/z.sg=(-1:Int))/\fz e0.s=vi e0.s (b7 e0.s) (bm e0.s) z.m z.tr z.us z.i z.dp z.nm z.sg
def JU(e0:bR)(e1:ai)(v0 v1 v2 v3 v4 v5 v6:Value)(ss:St):=∃(z:c9),UU e0 z/\(aj e0.s=aj e0.s/\v0=aA z.m/\ae 0=ae 0/\ak (b7 e0.s)=ak (b7 e0.s)/\v1=ak z.tr/\ak (bm e0.s)=ak (bm e0.s)/\v2=ae z.i/\ak false=ak false/\v3=ak z.us/\aA (fg (bm e0.s))=aA (fg (bm e0.s))/\ae (gT (bm e0.s))=ae (gT (bm e0.s))/\a_ (iJ (bm e0.s))=a_ (iJ (bm e0.s))/\v4=ae z.nm/\v5=ae z.dp/\v6=ae z.sg/\True)/\aD ss [(0,e1)]
def Hr(x:bR)(F:ai)(i:c9):=aq oN x F (az (tuple ⟨[aA i.m,ae 0,ak (b7 x.s),ak i.tr,ak (bm x.s),ae i.i,ak false]⟩)) [(0,F)]
def LI(e0:bR)(z:c9):=p7 e0.s z/\(z.sg=1\/z.sg=(-1:Int))/\0<=z.e/\z.e<=100100/\(fz e0.s=match lz e0.s (e0.s.size-z.i).toNat z.i z.e z.us with| (i3,e,CX)=>qS e0.s (b7 e0.s) (bm e0.s) z.m z.tr CX i3 (z.dp+e*z.sg) z.nm)
def V1(e0:bR)(z e1:c9):=(p7 e0.s z/\z.i<e0.s.size/\(aE e0.s z.i==95||eS (aE e0.s z.i))=true)/\acQ.snd z=e1
def NE(e0:bR)(v0:Value)(z:c9)(v1 v2 v3 v4 v5 v6 v7:Value):=aj e0.s=aj e0.s/\v0=aA z.m/\ae 0=ae 0/\ak (b7 e0.s)=ak (b7 e0.s)/\v1=ak z.tr/\ak (bm e0.s)=ak (bm e0.s)/\v2=ae z.i/\ak false=ak false/\v3=ak z.us/\aA (fg (bm e0.s))=aA (fg (bm e0.s))/\ae (gT (bm e0.s))=ae (gT (bm e0.s))/\a_ (iJ (bm e0.s))=a_ (iJ (bm e0.s))/\v4=ae z.nm/\v5=ae z.dp/\v6=ae z.sg/\v7=ae z.e/\True
def XV(e0:bR)(e1:c9)(e2:ai)(v0 v1 v2 v3 v4 v5 v6 v7:Value)(ss:St):=∃(z:c9),V1 e0 z e1/\NE e0 v0 z v1 v2 v3 v4 v5 v6 v7/\aD ss [(0,e2)]
def Vw(x:bR)(d:c9)(F:ai)(g:c9):=XV x d F (nA g) (ak g.tr) (tG g) (ak g.us) (qG g) (rV g) (ae g.sg) (ae g.e) [(0,F)]
def Ur(e0:bR)(z:c9):=p7 e0.s z/\(z.sg=1\/z.sg=(-1:Int))/\0<=z.e/\z.e<=100100/\fz e0.s=qS e0.s (b7 e0.s) (bm e0.s) z.m z.tr z.us z.i (z.dp+z.e*z.sg) z.nm
def XW(e0:bR)(e1:ai)(v0 v1 v2 v3 v4 v5 v6 v7:Value)(ss:St):=∃(z:c9),Ur e0 z/\NE e0 v0 z v1 v2 v3 v4 v5 v6 v7/\aD ss [(0,e1)]
def Va(x:bR)(F:ai)(g:c9):=XW x F (nA g) (ak g.tr) (tG g) (ak g.us) (qG g) (rV g) (ae g.sg) (ae g.e) [(0,F)]
def Tq(g:c9)(x:bR)(d:c9)(F:ai):=yw g x/\Br (aE x.s g.i==95) (Vw x d F g) (Va x F g)
def Jb(e0:bR)(e1:ai)(v0 v1 v2 v3 v4 v5 v6 v7:Value)(ss:St)(mm:Nat):=∃(z:c9),LI e0 z/\NE e0 v0 z v1 v2 v3 v4 v5 v6 v7/\aD ss [(0,e1)]/\(e0.s.size-z.i).toNat<mm
def TS(z:c9)(e0:bR):=0<=z.i/\z.i<=e0.s.size/\0<=z.nm/\z.nm<=5000000000/\(-6000000000:Int)<=z.dp/\z.dp<=6000000000/\fz e0.s=qS e0.s (b7 e0.s) (bm e0.s) z.m z.tr z.us z.i z.dp z.nm
def O0(e0:bR)(e1:ai)(v0 v1 v2 v3 v4 v5:Value)(ss:St):=∃(z:c9),TS z e0/\(aj e0.s=aj e0.s/\v0=aA z.m/\ae 0=ae 0/\ak (b7 e0.s)=ak (b7 e0.s)/\v1=ak z.tr/\ak (bm e0.s)=ak (bm e0.s)/\v2=ae z.i/\ak false=ak false/\v3=ak z.us/\v4=ae z.nm/\v5=ae z.dp/\True)/\aD ss [(0,e1)]
def UA(z:c9)(e0:bR):=0<=z.i/\z.i<=e0.s.size/\fz e0.s=⟨z.m,z.e,b7 e0.s,z.tr,bm e0.s,z.i,!bif z.us then !qU (e0.s.extract 0 z.i.toNat) else false⟩
def O1(e0:bR)(e1:ai)(v0 v1 v2 v3 v4:Value)(ss:St):=∃(z:c9),UA z e0/\(aj e0.s=aj e0.s/\v0=aA z.m/\v1=ae z.e/\ak (b7 e0.s)=ak (b7 e0.s)/\v2=ak z.tr/\ak (bm e0.s)=ak (bm e0.s)/\v3=ae z.i/\ak false=ak false/\v4=ak z.us/\True)/\aD ss [(0,e1)]
def UB(x:bR)(F:ai)(d:c9):=aq oN x F (az (tuple ⟨[aA d.m,ae d.e,ak (b7 x.s),ak d.tr,ak (bm x.s),ae d.i,ak true]⟩)) [(0,F)]
theorem aqS(x:bR)(F:ai)(hc:oN.cond x)(hr:oN.aQ x F):aP (0>=(x.s.size:Int)) (aq oN x F (az (tuple ⟨[aA 0,ae 0,ak false,ak false,ak false,ae 0,ak false]⟩)) [(0,F)]) ((tw x/\Br (yu x) (EA/\JS x F dq EV [(0,F)]) (Br (wy x) (EA/\JS x F (ak true) EV [(0,F)]) (JS x F dq (ae 0) [(0,F)])))/\aS fun(u:Unit)_=>0<x.s.size->((Vo x/\aP (c_ x.s+2<(x.s.size:Int)) ((0<=c_ x.s/\c_ x.s<x.s.size)/\Br (aE x.s (c_ x.s)==48) (((-9223372036854775808:Int)<=c_ x.s+1/\c_ x.s+1<=(9223372036854775807:Int))/\(0<=c_ x.s+1/\c_ x.s+1<(x.s.size:Int))/\pB [a_ (aE x.s (c_ x.s+1))] (fun c b=>JT x F (aA 10) (ae 19) (a_ 101) (ak (eJ c.c==120)) [(0,F)])) (JT x F (aA 10) (ae 19) (a_ 101) dq [(0,F)])) (JT x F (aA 10) (ae 19) (a_ 101) dq [(0,F)]))/\aS fun(c:Unit)_=>0<x.s.size->Br (bm x.s) (Vo x/\Qu x F (ak true) (ae (c_ x.s+2)) (aA 16) (ae 16) (a_ 112) [(0,F)]) (Qu x F dq (ae (c_ x.s)) (aA (fg false)) (ae (gT false)) (a_ (iJ false)) [(0,F)]))/\aS fun(s:Unit)_=>0<x.s.size->((∃(a:du),Mt x a/\(aj x.s=aj x.s/\aA 0=aA a.m/\ae 0=ae 0/\ak (b7 x.s)=ak (b7 x.s)/\ak false=ak a.tr/\ak (bm x.s)=ak (bm x.s)/\ae (nM x.s)=ae a.i/\ak false=ak false/\ak false=ak a.us/\aA (fg (bm x.s))=aA (fg (bm x.s))/\ae (gT (bm x.s))=ae (gT (bm x.s))/\a_ (iJ (bm x.s))=a_ (iJ (bm x.s))/\ak false=ak a.sd/\ak false=ak a.sg/\ae 0=ae a.nd/\ae 0=ae a.nm/\ae 0=ae a.dp/\True)/\aD [(0,F)] [(0,F)])/\aS fun(l:du)_=>Mt x l->aP (l.i<x.s.size) ((0<=l.i/\l.i<x.s.size)/\Br (true==(aE x.s l.i==95)) (zP l/\zg x F (rX l) (ak l.tr) (Ak l) (ak true) (ak l.sd) (ak l.sg) (u7 l) (rW l) (tF l) [(0,F)] ((x.s.size-l.i).toNat)) (Br (true==(aE x.s l.i==46)) (Br l.sd (L2 x F l) (zP l/\zg x F (rX l) (ak l.tr) (Ak l) (ak l.us) (ak true) (ak l.sg) (u7 l) (rW l) (u7 l) [(0,F)] ((x.s.size-l.i).toNat))) (∃(j:du),aP (48<=aE x.s l.i) (Qv x j F (rX l) (ak l.tr) (ae l.i) (ak l.us) (ak l.sd) (ak l.sg) (u7 l) (rW l) (tF l) (a_ (aE x.s l.i)) (ak (true==decide (aE x.s l.i<=57))) [(0,F)]) (Qv x j F (rX l) (ak l.tr) (ae l.i) (ak l.us) (ak l.sd) (ak l.sg) (u7 l) (rW l) (tF l) (a_ (aE x.s l.i)) (ak (true==false)) [(0,F)])/\aS fun(i:du)_=>Ic x i j->Br (eS (aE x.s i.i)) (Br (aE x.s i.i==48) (Br (i.nd==0) (((-9223372036854775808:Int)<=i.dp-1/\i.dp-1<=(9223372036854775807:Int))/\zP i/\zg x F (rX i) (ak i.tr) (Ak i) (ak i.us) (ak i.sd) (ak true) (u7 i) (rW i) (ae (i.dp-1)) [(0,F)] ((x.s.size-l.i).toNat)) (Ua i x F l)) (Ua i x F l)) (∃(g:du),Br (fg (bm x.s)==16) (pB [a_ (aE x.s i.i)] (fun f d=>aP (97<=eJ f.c) (pB [a_ (aE x.s i.i)] (fun c b=>Qw x g F (rX i) (ak i.tr) (ae i.i) (ak i.us) (ak i.sd) (ak i.sg) (u7 i) (rW i) (tF i) (a_ (aE x.s i.i)) (ak (true==decide (eJ c.c<=102))) [(0,F)])) (TO x g F i))) (TO x g F i)/\aS fun(f:du)_=>Ic x f g->Br (wW (bm x.s) (aE x.s f.i)) (VF f/\aP (f.nm<gT (bm x.s)) (pB [a_ (aE x.s f.i)] (fun c b=>VG f/\zP f/\zg x F (aA (bc (bc (f.m*16)+bc (u8.wrap (u8.wrap (eJ c.c-97)+10))))) (ak f.tr) (Ak f) (ak f.us) (ak f.sd) (ak true) (ae (f.nd+1)) (ae (f.nm+1)) (tF f) [(0,F)] ((x.s.size-l.i).toNat))) (TY f x F l)) (L2 x F f))))) (L2 x F l))/\aS fun(q:du)_=>(nN x.s q/\fz x.s=qR x.s (b7 x.s) (bm x.s) q)->Br (!q.sg) (aq oN x F (az (tuple ⟨[aA q.m,ae 0,ak (b7 x.s),ak q.tr,ak (bm x.s),ae q.i,ak false]⟩)) [(0,F)]) (Br (!q.sd) (Qx x F (rX q) (ak q.tr) (ae q.i) (ak q.us) (rW q) (u7 q) [(0,F)]) (Qx x F (rX q) (ak q.tr) (ae q.i) (ak q.us) (rW q) (tF q) [(0,F)])/\aS fun(o:c9)_=>Ul x o->Br (fg (bm x.s)==16) (((-9223372036854775808:Int)<=o.dp*4/\o.dp*4<=(9223372036854775807:Int))/\((-9223372036854775808:Int)<=o.nm*4/\o.nm*4<=(9223372036854775807:Int))/\Qy x F (nA o) (ak o.tr) (tG o) (ak o.us) (ae (o.nm*4)) (ae (o.dp*4)) [(0,F)]) (Qy x F (nA o) (ak o.tr) (tG o) (ak o.us) (qG o) (rV o) [(0,F)])/\aS fun(m:c9)_=>HH x m->(aP (m.i<x.s.size) (yw m x/\pB [a_ (aE x.s m.i)] (fun c b=>Qz x F (nA m) (ak m.tr) (tG m) (ak m.us) (qG m) (rV m) (ak (eJ c.c==iJ (bm x.s))) [(0,F)])) (Qz x F (nA m) (ak m.tr) (tG m) (ak m.us) (qG m) (rV m) dq [(0,F)])/\aS fun(k:c9)_=>HH x k->Br (sf x.s (bm x.s) k.i) (HJ k/\aP (k.i+1>=(x.s.size:Int)) (aq oN x F (az (tuple ⟨[aA k.m,ae 0,ak (b7 x.s),ak k.tr,ak (bm x.s),ae (k.i+1),ak false]⟩)) [(0,F)]) (((0<=k.i+1/\k.i+1<(x.s.size:Int))/\Br (aE x.s (k.i+1)==43) (U4 k/\JU x F (nA k) (ak k.tr) (ae (k.i+1+(1:Int))) (ak k.us) (qG k) (rV k) (ae 1) [(0,F)]) (Br (aE x.s (k.i+1)==45) (U4 k/\JU x F (nA k) (ak k.tr) (ae (k.i+1+(1:Int))) (ak k.us) (qG k) (rV k) (ae (-1)) [(0,F)]) (JU x F (nA k) (ak k.tr) (ae (k.i+1)) (ak k.us) (qG k) (rV k) (ae 1) [(0,F)])))/\aS fun(i:c9)_=>UU x i->aP (i.i>=x.s.size) (Hr x F i) (yw i x/\aP (aE x.s i.i<48) (Hr x F i) (yw i x/\aP (aE x.s i.i>57) (Hr x F i) (((∃(a:c9),LI x a/\(aj x.s=aj x.s/\aA i.m=aA a.m/\ae 0=ae 0/\ak (b7 x.s)=ak (b7 x.s)/\ak i.tr=ak a.tr/\ak (bm x.s)=ak (bm x.s)/\ae i.i=ae a.i/\ak false=ak false/\ak i.us=ak a.us/\aA (fg (bm x.s))=aA (fg (bm x.s))/\ae (gT (bm x.s))=ae (gT (bm x.s))/\a_ (iJ (bm x.s))=a_ (iJ (bm x.s))/\ae i.nm=ae a.nm/\ae i.dp=ae a.dp/\ae i.sg=ae a.sg/\ae 0=ae a.e/\True)/\aD [(0,F)] [(0,F)])/\aS fun(g:c9)_=>LI x g->∃(d:c9),aP (g.i<x.s.size) (yw g x/\aP (48<=aE x.s g.i) (yw g x/\aP (aE x.s g.i<=57) (Vw x d F g) (Tq g x d F)) (Tq g x d F)) (Va x F g)/\aS fun(c:c9)_=>V1 x c d->yw c x/\Br (aE x.s c.i==95) (HJ c/\Jb x F (nA c) (ak c.tr) (ae (c.i+1)) (ak true) (qG c) (rV c) (ae c.sg) (ae c.e) [(0,F)] ((x.s.size-g.i).toNat)) (aP (c.e<10000) (((-9223372036854775808:Int)<=c.e*10/\c.e*10<=(9223372036854775807:Int))/\yw c x/\bT (aE x.s c.i)/\bT (c.e*10+aE x.s c.i)/\((-9223372036854775808:Int)<=c.e*10+aE x.s c.i-48/\c.e*10+aE x.s c.i-48<=(9223372036854775807:Int))/\HJ c/\Jb x F (nA c) (ak c.tr) (ae (c.i+1)) (ak c.us) (qG c) (rV c) (ae c.sg) (ae (c.e*10+aE x.s c.i-48)) [(0,F)] ((x.s.size-g.i).toNat)) (HJ c/\Jb x F (nA c) (ak c.tr) (ae (c.i+1)) (ak c.us) (qG c) (rV c) (ae c.sg) (ae c.e) [(0,F)] ((x.s.size-g.i).toNat))))/\aS fun(c:c9)_=>Ur x c->bT (c.e*c.sg)/\bT (c.dp+c.e*c.sg)/\O0 x F (nA c) (ak c.tr) (tG c) (ak c.us) (qG c) (ae (c.dp+c.e*c.sg)) [(0,F)]))))) (Br (fg (bm x.s)==16) (Hr x F k) (O0 x F (nA k) (ak k.tr) (tG k) (ak k.us) (qG k) (rV k) [(0,F)])))/\aS fun(g:c9)_=>TS g x->Br (g.m !=0) (bT (g.dp-g.nm)/\O1 x F (nA g) (ae (g.dp-g.nm)) (ak g.tr) (tG g) (ak g.us) [(0,F)]) (O1 x F (nA g) (ae 0) (ak g.tr) (tG g) (ak g.us) [(0,F)])/\aS fun(d:c9)_=>UA d x->Br d.us (((0:Int)<=(0:Int)/\0<=d.i/\d.i<=x.s.size)/\aC 147 y6/\true=true/\∃(b:bR),[aj (x.s.extract (Int.toNat (0:Int)) d.i.toNat)]=[aj b.s]/\([]:List ai)=[]/\b.s.size<=1000000000/\True/\∀(a:Unit),True->Br (!qU b.s) (aq oN x F (az (tuple ⟨[aA d.m,ae d.e,ak (b7 x.s),ak d.tr,ak (bm x.s),ae d.i,ak false]⟩)) [(0,F)]) (UB x F d)) (UB x F d))):=by
 delta tw yu EA JS dq EV wy Vo pB JT Qu Mt zP Tp zg rX Ak u7 rW tF XU L2 Ic Qv VF VG TY Ua Qw TO Ul To Qx HH Qy nA tG qG rV yw Qz HJ U4 UU JU Hr LI V1 NE XV Vw Ur XW Va Tq Jb TS O0 UA O1 UB bT ae a_ aA aj ak bc aP az aS;obtain⟨s⟩:=x;have hc:s.size<=1000000000:=hc;dsimp only;have P0:aD [(0,F)] [(0,F)]:=aB [0];have fin:∀r:sC,fz s=r->aq oN ⟨s⟩ F (returned (OA r)) [(0,F)]:=fun r e=>
  ⟨(),ao,by show _=returned (OA (fz s));rw[e],P0⟩
 have hB:∀i,0<=aE s i/\aE s i<=255:=fun i=>by
  rw[gX];have:=iM s i.toNat;omega
 have hI:0<=c_ s/\c_ s<=1:=by
  unfold c_;grind
 have tt:∀b:Bool,(true==b)=b:=fun b=>by cases b <;> rfl
 refine bl (fun h0=>fin (C5 false false 0 false 0) (by unfold fz;grind)) (fun h0=>?_);have hV:fz s=qR s (b7 s) (bm s) (sj s (bm s) ((s.size:Int)-nM s).toNat ⟨nM s,0,0,0,0,false,false,false,false⟩):=by unfold fz;grind
 have hp:0<s.size:=af;have hJ:0<=nM s/\nM s<=s.size:=by
  unfold nM;cases hh:bm s with
  |true=>
   unfold bm at hh;grind
  |false=>rw[aU];omega
 refine⟨⟨⟨cN _,af⟩,?_⟩,fun _ js _=>⟨⟨⟨aJ,?_⟩,fun _ js _=>?_⟩,fun _ js _=>⟨⟨?_,?_⟩,?_⟩⟩⟩
 ·refine aG (fun h=>⟨aJ,(),hp,?_,P0⟩) (fun h=>aG (fun h2=>⟨aJ,(),hp,?_,P0⟩) (fun h2=>⟨(),hp,?_,P0⟩))
  ·have a:b7 s=false:=by unfold b7;simp[*]
   have b:c_ s=1:=by unfold c_;simp[*]
   simp[*]
  ·have a:b7 s=true:=by unfold b7;simp[*]
   have b:c_ s=1:=by unfold c_;simp[*]
   simp[*]
  ·have a:b7 s=false:=by unfold b7;simp[*]
   have b:c_ s=0:=by unfold c_;simp[*]
   simp[*]
 ·refine bl (fun h=>⟨⟨hI.1,af⟩,aG (fun h2=>⟨aJ,aJ,tj,rfl,⟨_⟩,rfl,rfl,ao,ao,fun _ _=>⟨(),hp,?_,P0⟩⟩) (fun h2=>⟨(),hp,?_,P0⟩)⟩) (fun h=>⟨(),hp,?_,P0⟩)
  ·have a:bm s=(eJ (aE s (c_ s+1))==120):=by unfold bm;simp[*]
   rw[a];exact(by(repeat refine⟨rfl,?_⟩);omega)
  ·have a:bm s=false:=by unfold bm;simp[*]
   rw[a];exact(by(repeat refine⟨rfl,?_⟩);simp[*])
  ·have a:bm s=false:=by unfold bm;simp[*]
   rw[a];exact(by(repeat refine⟨rfl,?_⟩);simp[*])
 ·refine aG (fun h=>⟨aJ,(),hp,?_,P0⟩) (fun h=>⟨(),hp,?_,P0⟩)
  ·have b:nM s=c_ s+2:=by unfold nM;simp[*]
   rw[b,show bm s=true from h];exact(by(repeat refine⟨rfl,?_⟩);simp[*])
  ·have b:nM s=c_ s:=by unfold nM;simp[*]
   simp[*]
 ·exact⟨⟨nM s,0,0,0,0,false,false,false,false⟩,⟨⟨hJ.1,hJ.2,by simp[*],by simp[*],by simp[*],hJ.1,by simp[*],hJ.1,by simp[*],hJ.1⟩,hV⟩,(by simp[*]),P0⟩
 ·generalize ZD:bm s=hx;generalize ZP:b7 s=ng;rw[ZD,ZP]at hV;intro d js hd;obtain⟨ii,hv⟩:=hd;have ajd:=ii;obtain⟨k1,k2,k3,k4,k5,k6,k7,k8,k9,v_⟩:=ajd;have Q5:sj s hx ((s.size:Int)-d.i).toNat d=d->∃(fe:du),(nN s fe/\fz s=qR s ng hx fe)/\(string s=string s/\int .u64 d.m=int .u64 fe.m/\int .i64 0=int .i64 0/\bool ng=bool ng/\bool d.tr=bool fe.tr/\bool hx=bool hx/\int .i64 d.i=int .i64 fe.i/\bool false=bool false/\bool d.us=bool fe.us/\int .u64 (fg hx)=int .u64 (fg hx)/\int .i64 (gT hx)=int .i64 (gT hx)/\int .u8 (iJ hx)=int .u8 (iJ hx)/\bool d.sd=bool fe.sd/\bool d.sg=bool fe.sg/\int .i64 d.nd=int .i64 fe.nd/\int .i64 d.nm=int .i64 fe.nm/\int .i64 d.dp=int .i64 fe.dp/\True)/\aD [(0,F)] [(0,F)]:=fun e=>⟨d,⟨ii,by rw[hv,e]⟩,(by simp[*]),P0⟩;refine bl (fun bP=>?_) (fun jn=>Q5 ?_)
  ·obtain⟨k,hk⟩:∃k,((s.size:Int)-d.i).toNat=k+1:=⟨((s.size:Int)-d.i).toNat-1,af⟩;have ZZ:oM s hx d=none->sj s hx ((s.size:Int)-d.i).toNat d=d:=fun e=>by rw[hk,sj,e]
   rw[hk]at hv;have nx:∀y0:du,oM s hx d=some y0->nN s y0->y0.i=d.i+1->∃(y:du),(nN s y/\fz s=qR s ng hx (sj s hx ((s.size:Int)-y.i).toNat y))/\(string s=string s/\int .u64 y0.m=int .u64 y.m/\int .i64 0=int .i64 0/\bool ng=bool ng/\bool y0.tr=bool y.tr/\bool hx=bool hx/\int .i64 y0.i=int .i64 y.i/\bool false=bool false/\bool y0.us=bool y.us/\int .u64 (fg hx)=int .u64 (fg hx)/\int .i64 (gT hx)=int .i64 (gT hx)/\int .u8 (iJ hx)=int .u8 (iJ hx)/\bool y0.sd=bool y.sd/\bool y0.sg=bool y.sg/\int .i64 y0.nd=int .i64 y.nd/\int .i64 y0.nm=int .i64 y.nm/\int .i64 y0.dp=int .i64 y.dp/\True)/\aD [(0,F)] [(0,F)]/\((s.size:Int)-y.i).toNat<((s.size:Int)-d.i).toNat:=fun y0 e1 e2 e3=>
    ⟨y0,⟨e2,by rw[hv,sj,e1,show((s.size:Int)-y0.i).toNat=k by omega]⟩,(by simp[*]),P0,af⟩
   have k_: -9223372036854775808<=d.i+1/\d.i+1<=9223372036854775807:=aJ;refine⟨⟨k1,bP⟩,aG (fun h1=>⟨k_,?_⟩) (fun h1=>aG (fun h2=>aG (fun h3=>?_) (fun h3=>⟨k_,?_⟩)) (fun h2=>?_))⟩
   ·have h1:(aE s d.i==95)=true:=(tt _).symm.trans h1;exact nx ⟨d.i+1,d.m,d.nd,d.nm,d.dp,true,d.tr,d.sd,d.sg⟩ (by unfold oM;simp[*]) ⟨by grind,by grind,k3,k4,k5,by grind,by grind,by grind,k9,by grind⟩ rfl
   ·have h1:(aE s d.i==95)=false:=(tt _).symm.trans h1;have h2:(aE s d.i==46)=true:=(tt _).symm.trans h2;exact Q5 (ZZ (by unfold oM;simp[*]))
   ·have h1:(aE s d.i==95)=false:=(tt _).symm.trans h1;have h2:(aE s d.i==46)=true:=(tt _).symm.trans h2;exact nx ⟨d.i+1,d.m,d.nd,d.nm,d.nd,d.us,d.tr,true,d.sg⟩ (by unfold oM;simp[*]) ⟨by grind,by grind,k3,k4,k5,by grind,by grind,by grind,k9,by grind⟩ rfl
   have h1:(aE s d.i==95)=false:=(tt _).symm.trans h1;have h2:(aE s d.i==46)=false:=(tt _).symm.trans h2;refine⟨(d:du),?_,?_⟩
   ·refine aG (fun q=>⟨d,⟨⟨ii,bP⟩,rfl⟩,?_,P0⟩) (fun q=>⟨d,⟨⟨ii,bP⟩,rfl⟩,?_,P0⟩)
    ·have:eS (aE s d.i)=(true==decide (aE s d.i<=57)):=by unfold eS;simp[*]
     simp[*]
    ·have:eS (aE s d.i)=(true==false):=by unfold eS;simp[*]
     simp[*]
   intro d' Sv uE;obtain⟨_,he⟩:=uE;have he:d'=d:=he;subst he;refine aG (fun h3=>?_) (fun h3=>?_)
   ·have h3:eS (aE s d'.i)=true:=h3;have Zi:48<=aE s d'.i/\aE s d'.i<=57:=by
     unfold eS at h3;grind
    have lo2: -9223372036854775808<=d'.nd+1/\d'.nd+1<=9223372036854775807:=aJ;have lo3: -9223372036854775808<=d'.nm+1/\d'.nm+1<=9223372036854775807:=aJ;have Bj:(bif aE s d'.i==48 then d'.nd==0 else false)=false->∀(h4:decide (d'.nm<gT hx)=true),oM s hx d'=some ⟨d'.i+1,Xd hx d'.m (aE s d'.i),d'.nd+1,d'.nm+1,d'.dp,d'.us,d'.tr,d'.sd,true⟩:=fun e h4=>by unfold oM;simp[*]
    have low:(bif aE s d'.i==48 then d'.nd==0 else false)=false->∀(h4:decide (d'.nm<gT hx)=false),oM s hx d'=some ⟨d'.i+1,d'.m,d'.nd+1,d'.nm,d'.dp,d'.us,(bif aE s d'.i !=48 then true else d'.tr),d'.sd,true⟩:=fun e h4=>by unfold oM;simp[*]
    have okB:nN s ⟨d'.i+1,Xd hx d'.m (aE s d'.i),d'.nd+1,d'.nm+1,d'.dp,d'.us,d'.tr,d'.sd,true⟩:=⟨by grind,by grind,(gB _).1,(gB _).2,by grind,by simp[*],by grind,by grind,by grind,by simp[*]⟩;have okL:∀b,nN s ⟨d'.i+1,d'.m,d'.nd+1,d'.nm,d'.dp,d'.us,b,d'.sd,true⟩:=fun b=>⟨by grind,by grind,k3,k4,by grind,by simp[*],by grind,by grind,k9,by grind⟩;refine aG (fun h4=>aG (fun h5=>⟨aJ,k_,?_⟩) (fun h5=>⟨lo2,aG (fun h6=>⟨lo3,k_,?_⟩) (fun h6=>aG (fun h7=>⟨k_,?_⟩) (fun h7=>⟨k_,?_⟩))⟩)) (fun h4=>⟨lo2,aG (fun h6=>⟨lo3,k_,?_⟩) (fun h6=>aG (fun h7=>⟨k_,?_⟩) (fun h7=>⟨k_,?_⟩))⟩)
    ·exact nx ⟨d'.i+1,d'.m,d'.nd,d'.nm,d'.dp-1,d'.us,d'.tr,d'.sd,true⟩ (by unfold oM;simp[*]) ⟨by grind,by grind,k3,k4,k5,by grind,by grind,by grind,k9,by grind⟩ rfl
    ·exact nx _ (Bj (by simp[*]) h6) okB rfl
    ·grind
    ·grind
    ·exact nx _ (Bj (by simp[*]) h6) okB rfl
    all_goals grind
   ·have h3:eS (aE s d'.i)=false:=h3;refine⟨(d':du),?_,?_⟩
    ·refine aG (fun q=>⟨tj,rfl,⟨_⟩,rfl,rfl,ao,ao,fun _ _=>aG (fun q2=>⟨tj,rfl,⟨_⟩,rfl,rfl,ao,ao,fun _ _=>⟨d',⟨⟨ii,bP⟩,rfl⟩,?_,P0⟩⟩) (fun q2=>⟨d',⟨⟨ii,bP⟩,rfl⟩,?_,P0⟩)⟩) (fun q=>⟨d',⟨⟨ii,bP⟩,rfl⟩,?_,P0⟩)
     ·have:wW hx (aE s d'.i)=(true==decide (eJ (aE s d'.i)<=102)):=by unfold wW;rw[show(fg hx==16)=true from q,show decide (97<=eJ (aE s d'.i))=true from q2,tt];rfl
      rw[this];exact(by(repeat refine⟨rfl,?_⟩);omega)
     ·have:wW hx (aE s d'.i)=(true==false):=by unfold wW;rw[show(fg hx==16)=true from q,show decide (97<=eJ (aE s d'.i))=false from q2];rfl
      simp[*]
     ·have:wW hx (aE s d'.i)=(true==false):=by unfold wW;simp[*]
      simp[*]
    intro nU arP aiq;obtain⟨_,he⟩:=aiq;have he:nU=d':=he;subst he;refine aG (fun h4=>?_) (fun h4=>Q5 (ZZ (by unfold oM;simp[*])));refine⟨aJ,aG (fun h5=>⟨tj,rfl,⟨_⟩,rfl,rfl,ao,ao,fun _ _=>⟨aJ,k_,?_⟩⟩) (fun h5=>⟨k_,?_⟩)⟩
    ·exact nx ⟨nU.i+1,zrG nU.m (aE s nU.i),nU.nd+1,nU.nm+1,nU.dp,nU.us,nU.tr,nU.sd,true⟩ (by unfold oM;simp[*]) ⟨by grind,by grind,(gB _).1,(gB _).2,by grind,by simp[*],by grind,by grind,by grind,by simp[*]⟩ rfl
    ·exact nx ⟨nU.i+1,nU.m,nU.nd+1,nU.nm,nU.dp,nU.us,true,nU.sd,true⟩ (by unfold oM;simp[*]) ⟨by grind,by grind,k3,k4,by grind,by simp[*],by grind,by grind,k9,by grind⟩ rfl
  ·rw[show((s.size:Int)-d.i).toNat=0 by omega,sj]
 ·generalize ZD:bm s=hx;generalize ZP:b7 s=ng;intro d js hd;obtain⟨⟨k1,k2,k3,k4,k5,k6,k7,k8,k9,v_⟩,hv⟩:=hd;refine aG (fun h=>fin ⟨d.m,0,ng,d.tr,hx,d.i,false⟩ (by rw[hv];unfold qR;rw[show(!d.sg)=true from h];rfl)) (fun h=>⟨aG (fun h2=>⟨⟨d.m,d.tr,d.us,d.i,d.nd,d.nm,0,0⟩,⟨⟨k1,k2,k3,k4,by grind,by grind,k9,by grind⟩,by grind,by grind,by grind,by rw[hv];unfold qR;simp[*]⟩,(by simp[*]),P0⟩) (fun h2=>⟨⟨d.m,d.tr,d.us,d.i,d.dp,d.nm,0,0⟩,⟨⟨k1,k2,k3,k4,by grind,by grind,k9,by grind⟩,by grind,by grind,by grind,by rw[hv];unfold qR;simp[*]⟩,(by simp[*]),P0⟩),?_⟩);clear hv k1 k2 k3 k4 k5 k6 k7 k8 k9 v_ h;rintro⟨m,tr,us,i,dp,nm,sg,e⟩ js ⟨⟨k1,k2,k3,k4,k5,k6,k7,k8⟩,j1,j2,j3,hv⟩;dsimp only at k1 k2 k3 k4 k5 k6 k7 k8 j1 j2 j3 hv⊢;refine⟨aG (fun h=>⟨aJ,aJ,⟨m,tr,us,i,dp*4,nm*4,0,0⟩,⟨⟨k1,k2,k3,k4,by grind,by grind,by grind,by grind⟩,by rw[hv];unfold AT;simp[*]⟩,(by simp[*]),P0⟩) (fun h=>⟨⟨m,tr,us,i,dp,nm,0,0⟩,⟨⟨k1,k2,k3,k4,k5,k6,k7,k8⟩,by rw[hv];unfold AT;simp[*]⟩,(by simp[*]),P0⟩),?_⟩;clear hv k1 k2 k3 k4 k5 k6 k7 k8 j1 j2 j3;rintro⟨m,tr,us,i,dp,nm,sg,e⟩ js ⟨⟨k1,k2,k3,k4,k5,k6,k7,k8⟩,hv⟩;dsimp only at k1 k2 k3 k4 k5 k6 k7 k8 hv⊢;have hq:∀sg e,p7 s ⟨m,tr,us,i,dp,nm,sg,e⟩:=fun _ _=>⟨k1,k2,k3,k4,k5,k6,k7,k8⟩;refine⟨⟨bl (fun h=>⟨⟨k1,h⟩,tj,rfl,⟨_⟩,rfl,rfl,ao,ao,fun _ _=>⟨⟨m,tr,us,i,dp,nm,0,0⟩,⟨hq 0 0,hv⟩,?_,P0⟩⟩) (fun h=>⟨⟨m,tr,us,i,dp,nm,0,0⟩,⟨hq 0 0,hv⟩,?_,P0⟩),?_⟩,?_⟩
  ·have:sf s hx i=(eJ (aE s i)==iJ hx):=by unfold sf;simp[*]
   dsimp only;rw[this];exact(by(repeat refine⟨rfl,?_⟩);omega)
  ·have:sf s hx i=false:=by unfold sf;simp[*]
   simp[*]
  ·clear hv k1 k2 k3 k4 k5 k6 k7 k8 hq;rintro⟨m,tr,us,i,dp,nm,sg,e⟩ js ⟨⟨k1,k2,k3,k4,k5,k6,k7,k8⟩,hv⟩;dsimp only at k1 k2 k3 k4 k5 k6 k7 k8 hv⊢;refine aG (fun h=>?_) (fun h=>aG (fun h2=>fin ⟨m,0,ng,tr,hx,i,false⟩ (by rw[hv];unfold wV;rw[show sf s hx i=false from h,show(fg hx==16)=true from h2];rfl)) (fun h2=>⟨⟨m,tr,us,i,dp,nm,0,0⟩,⟨k1,k2,k7,k8,by grind,by grind,by rw[hv];unfold wV;simp[*]⟩,(by simp[*]),P0⟩));have hv:fz s=C4 s ng hx m tr us i dp nm:=by rw[hv];unfold wV;simp[*]
   have hil:i<s.size:=by
    have h:sf s hx i=true:=h;unfold sf at h;grind
   refine⟨aJ,bl (fun h1=>fin ⟨m,0,ng,tr,hx,i+1,false⟩ (by rw[hv];unfold C4;rw[bG h1];rfl)) (fun h1=>⟨⟨aJ,aG (fun h2=>⟨aJ,⟨m,tr,us,i+1+1,dp,nm,1,0⟩,⟨⟨by grind,by grind,k3,k4,k5,k6,k7,k8⟩,.inl rfl,by rw[hv];unfold C4;simp[*]⟩,(by simp[*]),P0⟩) (fun h2=>aG (fun h3=>⟨aJ,⟨m,tr,us,i+1+1,dp,nm,-1,0⟩,⟨⟨by grind,by grind,k3,k4,k5,k6,k7,k8⟩,.inr rfl,by rw[hv];unfold C4;simp[*]⟩,(by simp[*]),P0⟩) (fun h3=>⟨⟨m,tr,us,i+1,dp,nm,1,0⟩,⟨⟨by grind,by grind,k3,k4,k5,k6,k7,k8⟩,.inl rfl,by rw[hv];unfold C4;simp[*]⟩,(by simp[*]),P0⟩))⟩,?_⟩)⟩;clear hv k1 k2 k3 k4 k5 k6 k7 k8 h h1 hil;rintro⟨m,tr,us,i,dp,nm,sg,e⟩ js ⟨⟨k1,k2,k3,k4,k5,k6,k7,k8⟩,gI,hv⟩;dsimp only at k1 k2 k3 k4 k5 k6 k7 k8 gI hv⊢;refine bl (fun h1=>fin ⟨m,0,ng,tr,hx,i,false⟩ (by rw[hv];unfold vi;rw[bG h1];rfl)) (fun h1=>⟨⟨k1,af⟩,bl (fun h2=>fin ⟨m,0,ng,tr,hx,i,false⟩ (by rw[hv];unfold vi;rw[bK h1,bG h2];rfl)) (fun h2=>⟨⟨k1,af⟩,bl (fun h3=>fin ⟨m,0,ng,tr,hx,i,false⟩ (by rw[hv];unfold vi;rw[bK h1,bK h2,bG h3];rfl)) (fun h3=>?_)⟩)⟩);have hv:fz s=(match lz s ((s.size:Int)-i).toNat i 0 us with| (i3,e,CX)=>qS s ng hx m tr CX i3 (dp+e*sg) nm):=by rw[hv];unfold vi;simp[*]
   refine⟨⟨⟨⟨m,tr,us,i,dp,nm,sg,0⟩,⟨⟨k1,k2,k3,k4,k5,k6,k7,k8⟩,gI,by simp[*],by simp[*],hv⟩,(by simp[*]),P0⟩,?_⟩,?_⟩
   ·clear hv k1 k2 k3 k4 k5 k6 k7 k8 h1 h2 h3 gI;rintro⟨m,tr,us,i,dp,nm,sg,e⟩ js ⟨⟨k1,k2,k3,k4,k5,k6,k7,k8⟩,gI,e1,e2,hv⟩;dsimp only at k1 k2 k3 k4 k5 k6 k7 k8 gI e1 e2 hv⊢;refine⟨(⟨m,tr,us,i,dp,nm,sg,e⟩:c9),?_,?_⟩
    ·have hq:p7 s ⟨m,tr,us,i,dp,nm,sg,e⟩:=⟨k1,k2,k3,k4,k5,k6,k7,k8⟩;have out:(∀k,((s.size:Int)-i).toNat=k+1->(aE s i==95)=false/\eS (aE s i)=false)->fz s=qS s ng hx m tr us i (dp+e*sg) nm:=fun h=>by
      rw[hv];cases hk:((s.size:Int)-i).toNat with
      |zero=>rfl
      |succ k=>
       rw[lz,(h k hk).1,(h k hk).2];rfl
     have dg:(48<=aE s i)->(aE s i<=57)->eS (aE s i)=true:=fun a b=>by unfold eS;simp[*]
     have nd1:¬(48<=aE s i)->eS (aE s i)=false:=fun a=>by unfold eS;simp[*]
     have nd2:¬(aE s i<=57)->eS (aE s i)=false:=fun a=>by unfold eS;rw[bK a];cases decide (48<=aE s i) <;> rfl
     refine bl (fun h=>⟨⟨k1,h⟩,bl (fun h2=>⟨⟨k1,h⟩,bl (fun h3=>⟨⟨m,tr,us,i,dp,nm,sg,e⟩,⟨⟨hq,h,by simp[*]⟩,rfl⟩,(by simp[*]),P0⟩) (fun h3=>⟨⟨k1,h⟩,aG (fun h4=>⟨⟨m,tr,us,i,dp,nm,sg,e⟩,⟨⟨hq,h,by simp[*]⟩,rfl⟩,(by simp[*]),P0⟩) (fun h4=>⟨⟨m,tr,us,i,dp,nm,sg,e⟩,⟨hq,gI,e1,e2,out fun k hk=>⟨h4,nd2 h3⟩⟩,(by simp[*]),P0⟩)⟩)⟩) (fun h2=>⟨⟨k1,h⟩,aG (fun h4=>⟨⟨m,tr,us,i,dp,nm,sg,e⟩,⟨⟨hq,h,by simp[*]⟩,rfl⟩,(by simp[*]),P0⟩) (fun h4=>⟨⟨m,tr,us,i,dp,nm,sg,e⟩,⟨hq,gI,e1,e2,out fun k hk=>⟨h4,nd1 h2⟩⟩,(by simp[*]),P0⟩)⟩)⟩) (fun h=>⟨⟨m,tr,us,i,dp,nm,sg,e⟩,⟨hq,gI,e1,e2,out fun k hk=>af⟩,(by simp[*]),P0⟩)
    ·intro d' Sv uE;obtain⟨⟨_,hl,sX⟩,he⟩:=uE;have he:d'=⟨m,tr,us,i,dp,nm,sg,e⟩:=he;subst he;dsimp only at hl sX⊢;obtain⟨k,hk⟩:∃k,((s.size:Int)-i).toNat=k+1:=⟨((s.size:Int)-i).toNat-1,af⟩;rw[hk,lz]at hv;have s_:((s.size:Int)-(i+1)).toNat=k:=af;refine⟨⟨k1,hl⟩,aG (fun h4=>⟨aJ,⟨m,tr,true,i+1,dp,nm,sg,e⟩,⟨⟨by grind,by grind,k3,k4,k5,k6,k7,k8⟩,gI,e1,e2,by grind⟩,(by simp[*]),P0,by simp[*]⟩) (fun h4=>?_)⟩;have h4:(aE s i==95)=false:=h4;have hD:eS (aE s i)=true:=by grind
     have Zi:48<=aE s i/\aE s i<=57:=by
      unfold eS at hD;grind
     refine bl (fun h5=>⟨aJ,⟨k1,hl⟩,aJ,aJ,aJ,aJ,⟨m,tr,us,i+1,dp,nm,sg,e*10+aE s i-48⟩,⟨⟨by grind,by grind,k3,k4,k5,k6,k7,k8⟩,gI,by grind,by grind,by grind⟩,(by simp[*]),P0,by simp[*]⟩) (fun h5=>⟨aJ,⟨m,tr,us,i+1,dp,nm,sg,e⟩,⟨⟨by grind,by grind,k3,k4,k5,k6,k7,k8⟩,gI,e1,e2,by grind⟩,(by simp[*]),P0,by simp[*]⟩)
   ·clear hv k1 k2 k3 k4 k5 k6 k7 k8 h1 h2 h3 gI;rintro⟨m,tr,us,i,dp,nm,sg,e⟩ js ⟨⟨k1,k2,k3,k4,k5,k6,k7,k8⟩,gI,e1,e2,hv⟩;dsimp only at k1 k2 k3 k4 k5 k6 k7 k8 gI e1 e2 hv⊢;have hes: -100100<=e*sg/\e*sg<=100100:=by
     grind
    generalize e*sg=es at*;exact⟨aJ,aJ,⟨m,tr,us,i,dp+es,nm,0,0⟩,⟨k1,k2,k7,k8,by grind,by grind,hv⟩,(by simp[*]),P0⟩
  ·clear hv k1 k2 k3 k4 k5 k6 k7 k8 hq;rintro⟨m,tr,us,i,dp,nm,sg,e⟩ js ⟨k1,k2,k3,k4,k5,k6,hv⟩;dsimp only at k1 k2 k3 k4 k5 k6 hv⊢;refine⟨aG (fun h=>⟨aJ,⟨m,tr,us,i,0,0,0,dp-nm⟩,⟨k1,k2,by rw[hv];unfold qS;simp[*]⟩,(by simp[*]),P0⟩) (fun h=>⟨⟨m,tr,us,i,0,0,0,0⟩,⟨k1,k2,by rw[hv];unfold qS;simp[*]⟩,(by simp[*]),P0⟩),?_⟩;clear hv k1 k2 k3 k4 k5 k6;rintro⟨m,tr,us,i,dp,nm,sg,e⟩ js ⟨k1,k2,hv⟩;dsimp only at k1 k2 hv⊢;refine aG (fun h=>⟨⟨cN _,k1,k2⟩,aq9,rfl,⟨s.extract 0 i.toNat⟩,rfl,rfl,by show(s.extract 0 i.toNat).size<=_;rw[jU];omega,ao,fun _ _=>aG (fun h2=>fin ⟨m,e,ng,tr,hx,i,false⟩ (by grind)) (fun h2=>fin ⟨m,e,ng,tr,hx,i,true⟩ (by grind))⟩) (fun h=>fin ⟨m,e,ng,tr,hx,i,true⟩ (by grind))
theorem aqQ(x:aR.X oN)(F:ai)(hc:oN.cond x)(hr:oN.aQ x F):su Tryz.prog 253 acS (acU x F) [] (iN acS) (oS (aR.args oN x)) (bD (aR.pre oN x++[F])) (acT x) (aq oN x F):=
 Eq.mpr bh (aqS x F hc hr)
theorem aqR:aC 124 oN:=
 ahR (N:=253) bh (c:=iN Tryz.f124) Tryz.func124 bh bh (fun _=>Nat.le_of_ble_eq_true rfl) bh bh bh acU [] acT (fun _ h=>nomatch h) aqQ
end
section
open Go
structure Xm where
 b:Nat
 s:ByteArray
 vs:List Value
def Gr(e:TypeId):aR where
 X:=Xm
 args x:=[au (some ⟨x.b,0,none⟩) x.s.size x.s.size,aj x.s]
 pre x:=[ag x.b x.vs e]
 cond x:=x.vs.length=x.s.size
 val x _:=az (ae x.s.size)
 post x _:=[ag x.b (Lib.strCells x.s++[]) e]
theorem agt{P:Program}{o:Oper}{d s:Operand}{t t' e:TypeId}{cy:TypeInfo}(ho:o.op= .call {callee:=.builtin .copy,args:=#[d,s],argTypes:=#[t,t']})
  (ht:P.underlying t=some (.slice e)) (hi:P.info? e=some cy) (hk:cy.size=1):fj P o (Gr e):=by
 refine⟨fun x F I w ρ ha hc hr hs=>?_⟩;obtain⟨b,str,vs⟩:=x;have hc:vs.length=str.size:=hc;simp only[ho,Op.operands,Call.operands,Gr]at ha;have c5:ρ d= .slice (some ⟨b,0,none⟩) str.size str.size/\ρ s= .string str:=by simpa using ha
 obtain⟨zA,qv⟩:=c5;have pK:w.heap[b]?=some (.cells ⟨vs⟩ e (0,0)):=hs.cells (j:=0) rfl;have R_:=Lib.strCells_length str;have xT:∀u∈Lib.strCells str,u.oneCell'=true:=by
  intro u hu;unfold Lib.strCells at hu;obtain⟨z,_,rfl⟩:=List.mem_map.1 hu;rfl
 have rG:=run_storeCells_at P b 0 e (Lib.strCells str) 0 ⟨vs⟩ w pK (by simp;omega) xT;simp only[Nat.add_zero]at rG;have RE:(str.extract 0 str.size).data.map (fun b=>int .u8 b.toNat)=(Lib.strCells str).toArray:=by
  rw[ByteArray.extract_zero_size];unfold Lib.strCells;apply Array.ext';simp
 refine⟨(),I,w.setRow b ⟨vs.take 0++Lib.strCells str++vs.drop (0+(Lib.strCells str).length)⟩,_,ao,?_,rfl,a7.le_refl I,?_,ap⟩
 ·left
  have hf:(Builtin.firstCells cy.size str.size (.string str)).run P w= .ok (Lib.strCells str).toArray w:=by
   show Sem.run P (pure ((str.extract 0 str.size).data.map fun b=>int .u8 b.toNat)) w=_;rw[RE];rfl
  simp[execOp,ho,resolve,invoke,builtin,zA,qv,Builtin.copy_,run_underlying ht,Builtin.lenOf,sizeOf,typeInfo,hi,hf,rG,goInt]
 ·have:=hs.setRow (j:=0) (b:=b) (vs:=vs) (t:=e) (Fw:=vs.take 0++Lib.strCells str++vs.drop (0+(Lib.strCells str).length)) rfl;have e1:vs.take 0++Lib.strCells str++vs.drop (0+(Lib.strCells str).length)=Lib.strCells str++[]:=by
   rw[List.take_zero,List.nil_append,List.drop_of_length_le af]
  rw[e1]at this⊢;simpa[Gr,CW]using this
def Bm:aR where
 X:=bR
 args x:=[aj x.s]
 cond x:=x.s.size<=1000000000
 val x _:=az (aj x.s)
theorem agh(x:bR)(F:ai)(hc:Bm.cond x)(hr:Bm.aQ x F):Br ((x.s.size:Int)==0) (aq Bm x F (az (aj ⟨#[]⟩)) [(0,F)]) (T4 (a8 Tryz.f118 3 2) [ae ↑x.s.size,ae ↑x.s.size] (fun f e=>fj Tryz.prog (a8 Tryz.f118 4 2) (Gr (5:TypeId))/\true=true/\∃(d:Xm),[au (bJ e) f.n.toNat f.c.toNat,aj x.s]=[au (some ⟨d.b,0,none⟩) d.s.size d.s.size,aj d.s]/\[ag e (iI [a_ 0] f.c.toNat) 5]=[ag d.b d.vs 5]/\d.vs.length=d.s.size/\True/\∀(c:Unit),True->((0:Int)<=(0:Int)/\0<(f.n.toNat:Int))/\JH (a8 Tryz.f118 5 4) [ah (bJ e),ae ↑f.n.toNat] [ag d.b (Lib.strCells d.s++[]) 5] (fun b a=>aq Bm x F (az (aj b.p)) [(0,F),(4020,ba)]))):=by
 delta T4 bJ JH ae a_ aj ah au ag ba az;obtain⟨s⟩:=x;have hc:s.size<=1000000000:=hc;dsimp only;refine aG (fun h=>?_) (fun h=>?_)
 ·have h:((s.size:Int)==0)=true:=h;have h0:s.size=0:=by have:=eq_of_beq h;omega
  have e:s=ByteArray.mk #[]:=by
   apply ByteArray.ext;exact Array.eq_empty_of_size_eq_zero (by simpa using h0)
  exact⟨(),ao,by rw[e];rfl,aB [0]⟩
 ·have h:((s.size:Int)==0)=false:=h;have h0:¬(s.size:Int)=0:=ga.1 h;have bB:∀b,pv 5 s ⟨some ⟨b,0,none⟩,s.size,s.size,.cells b (Lib.strCells s++[]) 5⟩:=fun b=>⟨.gg b s.size s.size [] (by rw[Lib.strCells_length,Nat.mul_one]) (by rw[dJ,Lib.strCells_length,Nat.mul_one]) (cr _),.inr (by show 0<s.size;omega)⟩;refine bV (Ed (P:=Tryz.prog) [.int .u8 0] 1 rfl rfl rfl rfl rfl rfl aM rfl) ⟨s.size,s.size⟩ ⟨bd,bd,bd,bd⟩ fun b _=>bV (agt rfl rfl rfl rfl) ⟨b,s,iI [.int .u8 0] (s.size:Int).toNat⟩ (?_) fun _ _=>⟨⟨cN _,bd⟩,acx rfl rfl rfl,rfl,⟨⟨some ⟨b,0,none⟩,s.size,s.size,.cells b (Lib.strCells s++[]) 5⟩,s⟩,rfl,rfl,⟨bB b,bd⟩,ao,fun _ _=>lJ⟩;dsimp only;rw[acK,List.length_replicate];omega
theorem Yt:aC 118 Bm:=fo 18 Tryz.func118 (fun _ _=>[(3,2,.o (wc 5 [.int .u8 0] 1) [] [4020]),(4,2,.o (Gr 5) [4020] [4020]),(5,4,.o (Fv 5) [4020] [4020])]) [] aY aY bz [] agh
structure uo where
 f:ByteArray
 s:ByteArray
 t1:TypeId
 a1:Addr
def tk(g:Nat):aR where
 X:=uo
 Y:=Nat
 args x:=[aj x.f,aj x.s]
 cond x:=x.s.size<=1000000000
 aQ x F:=aO F ⟨g,0,none⟩ (.iface x.t1 (.pointer (some x.a1)))
 val _ b:=az (ah (some ⟨b,0,none⟩))
def aaO(x:uo)(_F:ai):List (Nat×Nat×OH):=[(1,2,aX Bm),(1,3,.q [.ex 0 (.is (.iface x.t1 (.pointer (some x.a1))))]),(1,5,.n 2050)]
def Jc(aa:List Value)(k0:bR->Unit->Prop):=aC 118 Bm/\true=true/\∃(z:bR),aa=[aj z.s]/\([]:List ai)=[]/\z.s.size<=1000000000/\True/\∀(u0:Unit),True->k0 z u0
def Ag(x:uo):=fE x.t1 (ah (some x.a1))
theorem aq2(x:uo)(F:ai)(hc:(tk 7).cond x)(hr:(tk 7).aQ x F):true=true/\Jc [aj x.s] (fun c b=>aO F ⟨7,0,none⟩ (Ag x)/\∀(a:Nat),aq (tk 7) x F (az (cW a)) [(0,F),(2050,ag a [aj x.f,aj c.s,fE x.t1 (ah (some x.a1))] 138)]):=by
 delta Jc Ag bJ cW aj ah fE ag az;obtain⟨f,s,t1,a1⟩:=x;exact⟨rfl,Yt,rfl,⟨s⟩,rfl,rfl,hc,ao,fun _ _=>⟨hr,fun b=>⟨b,ao,rfl,aB [0]⟩⟩⟩
theorem aq1:aC 108 (tk 7):=fo 11 Tryz.func108 aaO [] aY aY bz [] aq2
theorem aqU(x:uo)(F:ai)(hc:(tk 8).cond x)(hr:(tk 8).aQ x F):true=true/\Jc [aj x.s] (fun c b=>aO F ⟨8,0,none⟩ (Ag x)/\∀(a:Nat),aq (tk 8) x F (az (cW a)) [(0,F),(2050,ag a [aj x.f,aj c.s,fE x.t1 (ah (some x.a1))] 138)]):=by
 delta Jc Ag bJ cW aj ah fE ag az;obtain⟨f,s,t1,a1⟩:=x;exact⟨rfl,Yt,rfl,⟨s⟩,rfl,rfl,hc,ao,fun _ _=>⟨hr,fun b=>⟨b,ao,rfl,aB [0]⟩⟩⟩
theorem aqT:aC 109 (tk 8):=fo 11 Tryz.func109 aaO [] aY aY bz [] aqU
def AI(e:Int)(g:Nat):aR where
 X:=uo
 Y:=Value
 args x:=[aj x.f,aj x.s,ae 0,ae 64,fE 128 (ae e)]
 cond x:=x.s.size<=1000000000
 aQ x F:=aO F ⟨g,0,none⟩ (.iface x.t1 (.pointer (some x.a1)))
 val _ y:=az y
def acV(_x:uo)(_F:ai):List (Nat×Nat×OH):=[(3,2,aX (tk 7)),(5,2,aX (tk 8))]
theorem aq6(x:uo)(F:ai)(hc:(AI 2 7).cond x)(hr:(AI 2 7).aQ x F):aC 108 (tk 7)/\true=true/\∃(b:uo),[aj x.f,aj x.s]=[aj b.f,aj b.s]/\([]:List ai)=[]/\b.s.size<=1000000000/\aO (cX F) ⟨7,0,none⟩ (Ag b)/\∀(a:Nat),True->aq (AI (2:Int) 7) x F (az (fE 129 (cW a))) [(0,F)]:=by
 delta cX Ag bJ cW aH aj ah fE az;obtain⟨f,s,t1,a1⟩:=x;exact bp aq1 ⟨f,s,t1,a1⟩ hc (aO.rest (j:=0) aM hr) fun y _=>⟨_,ao,rfl,aB [0]⟩
theorem aq5:aC 102 (AI 2 7):=fo 43 Tryz.func102 acV [] aY aY bz [] aq6
theorem aq4(x:uo)(F:ai)(hc:(AI 1 8).cond x)(hr:(AI 1 8).aQ x F):aC 109 (tk 8)/\true=true/\∃(b:uo),[aj x.f,aj x.s]=[aj b.f,aj b.s]/\([]:List ai)=[]/\b.s.size<=1000000000/\aO (cX F) ⟨8,0,none⟩ (Ag b)/\∀(a:Nat),True->aq (AI (1:Int) 8) x F (az (fE 129 (cW a))) [(0,F)]:=by
 delta cX Ag bJ cW aH aj ah fE az;obtain⟨f,s,t1,a1⟩:=x;exact bp aqT ⟨f,s,t1,a1⟩ hc (aO.rest (j:=0) aM hr) fun y _=>⟨_,ao,rfl,aB [0]⟩
theorem aq3:aC 102 (AI 1 8):=fo 43 Tryz.func102 acV [] aY aY bz [] aq4
theorem aph:aC 102 IN:=⟨fun x F I w hc hr hs=>by
 obtain⟨f,s,e⟩:=x;obtain⟨h1,h2,h3⟩:=hc;obtain⟨⟨t1,a1,q1⟩,⟨t2,a2,q2⟩⟩:=hr;dsimp only at h1 h2 h3;have he:e=1\/e=2:=by omega
 rcases he with rfl|rfl
 ·exact aq3.h ⟨f,s,t2,a2⟩ F I w (by show s.size<=_;omega) q2 hs
 ·exact aq5.h ⟨f,s,t1,a1⟩ F I w (by show s.size<=_;omega) q1 hs⟩
end
section
open Go
structure OX where
 a:Nat
 b:Nat
def LA(t:TypeId):aR where
 X:=OX
 args x:=[ah (some ⟨x.a,0,none⟩),ah (some ⟨x.b,0,none⟩)]
 cond x:=x.a≠x.b
 aQ x F:=sr F x.a t/\sr F x.b t
 val _ _:=az (ak false)
theorem abf{P:Program}{o:Oper}{t u e:TypeId}{x y:Operand}{rt:TypeId}{cy:TypeInfo}(ho:o.op= .binOp .eql t x y rt)(ht:P.underlying t=some (.pointer e))(hi:P.info? e=some cy)(hz:cy.size≠0):fj P o (LA u):=by
 refine⟨fun X F I w ρ ha hc hr hs=>?_⟩;obtain⟨a,b⟩:=X;have hc:a≠b:=hc;simp only[ho,Op.operands,LA]at ha;have c5:ρ x= .pointer (some ⟨a,0,none⟩)/\ρ y= .pointer (some ⟨b,0,none⟩):=by grind
 obtain⟨hx,hy⟩:=c5;obtain⟨f,hh,_,_⟩:=hs.mN;have hF:F.holds I (hp w) (f 0):=hh 0;obtain⟨va,h1⟩:=hr.1.h I (hp w) (f 0) hs.o0 hF;obtain⟨vb,h2⟩:=hr.2.h I (hp w) (f 0) hs.o0 hF;have cm:=run_sameAddr_other (P:=P) (w:=w) (a:=⟨a,0,none⟩) (b:=⟨b,0,none⟩) (by intro h;cases h;exact hc rfl) h1 h2;refine⟨(),I,w,.bool false,ao,.inl ?_,rfl,a7.le_refl I,hs,cE.refl w⟩;have hE:∀d,(Op.equalIn (d+1) t (.pointer (some ⟨a,0,none⟩)) (.pointer (some ⟨b,0,none⟩))).run P w= .ok false w:=fun d=>by
  simp[Op.equalIn,run_underlying ht,sizeOf,typeInfo,hi,hz,cm]
 have hB:(binOp .eql t (.pointer (some ⟨a,0,none⟩)) (.pointer (some ⟨b,0,none⟩))).run P w= .ok (.bool false) w:=by
  simp only[binOp];simp[Op.equal,Op.maxDepth,hE 9999]
 simp only[execOp,ho,hx,hy];simp[eqGuard,hB]
structure iw where
 s:ByteArray
 m:Int
 e:Int
 ng:Bool
 tr:Bool
 tb:Nat->Nat
 lc:Nat->Nat×ByteArray
def y4(m:Int):Int:=u64.wrap (↑(BitVec.ofInt u64.bits (m.fdiv (2^min (Int.toNat 1) u64.bits))|||BitVec.ofInt u64.bits (u64.wrap (↑(BitVec.ofInt u64.bits m&&& BitVec.ofInt u64.bits 1).toNat:Int))).toNat:Int)
def yX:Nat->Int->Int->Int×Int
 |0,m,e=>(m,e)
 |f+1,m,e=>bif (bif m !=0 then m.fdiv (2^min (u64.wrap (52+2)).toNat u64.bits)==0 else false) then yX f (u64.wrap (m*2^min (Int.toNat 1) u64.bits)) (i64.wrap (e-1)) else (m,e)
def yY:Nat->Int->Int->Int×Int
 |0,m,e=>(m,e)
 |f+1,m,e=>bif m.fdiv (2^min (u64.wrap (u64.wrap (1+52)+2)).toNat u64.bits)!=0 then yY f (y4 m) (i64.wrap (e+1)) else (m,e)
def wT:Nat->Int->Int->Int×Int
 |0,m,e=>(m,e)
 |f+1,m,e=>bif (bif decide (m>1) then decide (e< -1022-2) else false) then wT f (y4 m) (e+1) else (m,e)
def acL(m e:Int):Int:=u64.wrap (↑(BitVec.ofInt u64.bits (u64.wrap (↑(BitVec.ofInt u64.bits m&&& BitVec.ofInt u64.bits (u64.wrap (u64.wrap (1*2^min (Int.toNat 52) u64.bits)-1))).toNat:Int))|||BitVec.ofInt u64.bits (u64.wrap (u64.wrap (i64.wrap (↑(BitVec.ofInt i64.bits (i64.wrap (e- -1023))&&& BitVec.ofInt i64.bits (i64.wrap (1*2^min (Int.toNat 11) i64.bits)-1)).toNat:Int))*2^min (Int.toNat 52) u64.bits))).toNat:Int)
def AR(x:iw)(m e:Int):Nat:=bif x.ng then (u64.wrap (↑(BitVec.ofInt u64.bits (acL m e)|||BitVec.ofInt u64.bits (u64.wrap (u64.wrap (1*2^min (Int.toNat 52) u64.bits)*2^min (Int.toNat 11) u64.bits))).toNat:Int)).toNat else (acL m e).toNat
theorem aa5(x y:Nat):x|||y<=x+y:=by
 induction x using Nat.strongRecOn generalizing y with
 |_ x ih=>
  by_cases h0:x=0
  ·simp[*]
  ·have h1:=ih (x/2) af (y/2);have h2:(x|||y)/2=x/2|||y/2:=Nat.or_div_two;have h3:(x|||y)%2=1->x%2=1\/y%2=1:=fun h=>Nat.or_mod_two_eq_one.1 h;omega
theorem aqC{n:Nat}(h:n<18446744073709551616):∃k:Nat,y4 n=(k:Int)/\k<=n/2+n%2:=by
 refine⟨n/2|||n%2,?_,aa5 _ _⟩;unfold y4;have e1:((n:Int).fdiv (2^min (Int.toNat 1) u64.bits))=((n/2:Nat):Int):=by
  rw[show min (Int.toNat 1) u64.bits=1 from rfl,Int.fdiv_eq_ediv_of_nonneg _ (by decide)];rfl
 have e2:(BitVec.ofInt u64.bits (n:Int)&&& BitVec.ofInt u64.bits 1).toNat=n%2:=by
  show(BitVec.ofNat 64 n&&& BitVec.ofNat 64 1).toNat=_;simp[*]
 have w1:∀k:Nat,k<18446744073709551616->u64.wrap (k:Int)=(k:Int):=fun k hk=>dA (i:=.u64) aJ;rw[e1,e2,w1 (n%2) af];have e3:(BitVec.ofInt u64.bits ((n/2:Nat):Int)|||BitVec.ofInt u64.bits ((n%2:Nat):Int)).toNat=(n/2|||n%2):=by
  show(BitVec.ofNat 64 (n/2)|||BitVec.ofNat 64 (n%2)).toNat=_;rw[BitVec.toNat_or,BitVec.toNat_ofNat,BitVec.toNat_ofNat,Nat.mod_eq_of_lt (by omega:n/2<2^64),Nat.mod_eq_of_lt (by omega:n%2<2^64)]
 rw[e3,w1];have:=aa5 (n/2) (n%2);omega
theorem acN(m:Int):0<=y4 m/\y4 m<=18446744073709551615:=gB _
theorem acM{m:Int}(h0:2<=m)(h1:m<=18446744073709551615):y4 m<m:=by
 obtain⟨n,rfl⟩:=Int.eq_ofNat_of_zero_le (show 0<=m by omega);obtain⟨k,e,hk⟩:=aqC (n:=n) af;omega
theorem D5(z:Int): -9223372036854775808<=i64.wrap z/\i64.wrap z<=9223372036854775807:=by
 rw[IntKind.wrap_i64];omega
theorem Re(m:Int)(k:Nat):m.fdiv (2^k)=m/2^k:=Int.fdiv_eq_ediv_of_nonneg _ (Int.pow_nonneg (by decide))
def C2(x:iw)(m e:Int):Nat×Nat:=bif decide (e>1023) then (AR x (u64.wrap (1*2^min (Int.toNat 52) u64.bits)) (1023+1),1) else (AR x m e,0)
def AS(x:iw)(m e:Int):Nat×Nat:=bif m.fdiv (2^min (Int.toNat 52) u64.bits)==0 then C2 x m (-1023) else C2 x m e
def C1(x:iw)(m e r:Int):Nat×Nat:=bif r==3 then (bif u64.wrap (m+1)==u64.wrap (1*2^min (u64.wrap (1+52)).toNat u64.bits) then AS x ((u64.wrap (m+1)).fdiv (2^min (Int.toNat 1) u64.bits)) (i64.wrap (e+1)) else AS x (u64.wrap (m+1)) e) else AS x m e
def Fz(x:iw)(m e:Int):Nat×Nat:=C1 x (m.fdiv (2^min (Int.toNat 2) u64.bits)) (i64.wrap (e+2)) (u64.wrap (↑(BitVec.ofInt u64.bits (u64.wrap (↑(BitVec.ofInt u64.bits m&&& BitVec.ofInt u64.bits 3).toNat:Int))|||BitVec.ofInt u64.bits (u64.wrap (↑(BitVec.ofInt u64.bits (m.fdiv (2^min (Int.toNat 2) u64.bits))&&& BitVec.ofInt u64.bits 1).toNat:Int))).toNat:Int))
def Fy(x:iw)(m e:Int):Nat×Nat:=Fz x (wT (m.toNat+1) m e).1 (wT (m.toNat+1) m e).2
def IY(x:iw)(m e:Int):Nat×Nat:=Fy x (yY (m.toNat+1) m e).1 (yY (m.toNat+1) m e).2
def y5(x:iw)(m e:Int):Nat×Nat:=bif x.tr then IY x (u64.wrap (↑(BitVec.ofInt u64.bits m|||BitVec.ofInt u64.bits 1).toNat:Int)) e else IY x m e
def aqE(x:iw)(m e:Int):Nat×Nat:=y5 x (yX ((18014398509481984-m).toNat+1) m e).1 (yX ((18014398509481984-m).toNat+1) m e).2
def dx(x:iw):Nat×Nat:=aqE x x.m (x.e+52)
def yZ(n:Nat):Value:=bif n==0 then .nilIface else .iface 128 (.int .i64 1)
def dV:Option Addr:=some ⟨11,0,none⟩
def Fx:aR where
 X:=iw
 args x:=[aj x.s,ah dV,aA x.m,ae x.e,ak x.ng,ak x.tr]
 cond x:=0<=x.m/\x.m<=18446744073709551615/\ -10000000000<=x.e/\x.e<=10000000000
 aQ x F:=ic x.tb x.lc F
 val x _:=.returned (.tuple #[.float .f64 (dx x).1,yZ (dx x).2])
structure dW where
 m:Int
 e:Int
 r:Int
 er:Nat
 v:Value
def vh(x:iw)(d:dW):List (Nat×Value):=[(1,.pointer (some ⟨11,0,none⟩)),(2,.int .u64 d.m),(3,.int .i64 d.e),(4,.bool x.ng),(5,.bool x.tr),(14,.int .i64 1023),(15,.int .i64 (-1022))]
def ib(m e:Int):Prop:=0<=m/\m<=18446744073709551615/\ -9223372036854775808<=e/\e<=9223372036854775807
def aqD(x:iw)(F:ai):Nat->Option Inv:=fun
 |0=>some {X:=dW,P:=fun d=>ib d.m d.e/\∃f,(18014398509481984-d.m).toNat<f/\dx x=y5 x (yX f d.m d.e).1 (yX f d.m d.e).2,mu:=fun d=>(18014398509481984-d.m).toNat,lv:=fun d=>vh x d,st:=fun _=>[F]}
 |2=>some {X:=dW,P:=fun d=>ib d.m d.e/\∃f,d.m.toNat<f/\dx x=Fy x (yY f d.m d.e).1 (yY f d.m d.e).2,mu:=fun d=>d.m.toNat,lv:=fun d=>vh x d,st:=fun _=>[F]}
 |4=>some {X:=dW,P:=fun d=>ib d.m d.e/\∃f,d.m.toNat<f/\dx x=Fz x (wT f d.m d.e).1 (wT f d.m d.e).2,mu:=fun d=>d.m.toNat,lv:=fun d=>vh x d,st:=fun _=>[F]}
 |_=>none
def aqB(x:iw)(F:ai):Nat->Option Inv:=fun
 |7=>some {X:=dW,P:=fun d=>ib d.m d.e/\dx x=y5 x d.m d.e,mu:=fun _=>0,lv:=fun d=>vh x d,st:=fun _=>[F]}
 |9=>some {X:=dW,P:=fun d=>ib d.m d.e/\dx x=IY x d.m d.e,mu:=fun _=>0,lv:=fun d=>vh x d,st:=fun _=>[F]}
 |12=>some {X:=dW,P:=fun d=>ib d.m d.e/\dx x=Fy x d.m d.e,mu:=fun _=>0,lv:=fun d=>vh x d,st:=fun _=>[F]}
 |15=>some {X:=dW,P:=fun d=>ib d.m d.e/\dx x=Fz x d.m d.e,mu:=fun _=>0,lv:=fun d=>vh x d,st:=fun _=>[F]}
 |19=>some {X:=dW,P:=fun d=>ib d.m d.e/\dx x=C1 x d.m d.e d.r,mu:=fun _=>0,lv:=fun d=>vh x d++[(16,.int .u64 d.r)],st:=fun _=>[F]}
 |24=>some {X:=dW,P:=fun d=>ib d.m d.e/\dx x=AS x d.m d.e,mu:=fun _=>0,lv:=fun d=>vh x d,st:=fun _=>[F]}
 |26=>some {X:=dW,P:=fun d=>ib d.m d.e/\dx x=C2 x d.m d.e,mu:=fun _=>0,lv:=fun d=>vh x d,st:=fun _=>[F]}
 |31=>some {X:=dW,P:=fun d=>ib d.m d.e/\dx x=(AR x d.m d.e,d.er)/\d.v=yZ d.er,mu:=fun _=>0,lv:=fun d=>vh x d++[(17,d.v)],st:=fun _=>[F]}
 |_=>none
def xU:OH:=.q [.ex 0 (.is (.int .u64 52))]
def Sl:OH:=.q [.ex 0 (.is (.int .u64 11))]
def K3:OH:=.q [.ex 0 (.is (.int .i64 (-1023)))]
def wE:=aA 11
def oz:=ae (-1023)
def HG:=(-9223372036854775808:Int)<=(-1023:Int)+(1:Int)/\(-1023:Int)+(1:Int)<=(9223372036854775807:Int)
def Mc(b:dW)(x:iw):=ib b.m b.e/\∃(a:Nat),((18014398509481984:Int)-b.m).toNat<a/\dx x=y5 x (yX a b.m b.e).fst (yX a b.m b.e).snd
def E9(v0:Value)(z:dW)(v1:Value)(e0:iw):=ah dV=ah dV/\v0=aA z.m/\v1=ae z.e/\ak e0.ng=ak e0.ng/\ak e0.tr=ak e0.tr/\ae 1023=ae 1023/\ae (-1022)=ae (-1022)/\True
def O2(e0:iw)(e1:ai)(v0 v1:Value)(ss:St):=∃(z:dW),(ib z.m z.e/\dx e0=y5 e0 z.m z.e)/\E9 v0 z v1 e0/\aD ss [(0,e1)]
def wF(d:dW):=aA d.m
def u9(d:dW):=ae d.e
def O3(e0:iw)(e1:ai)(v0 v1:Value)(ss:St):=∃(z:dW),(ib z.m z.e/\dx e0=IY e0 z.m z.e)/\E9 v0 z v1 e0/\aD ss [(0,e1)]
def My(b:dW)(x:iw):=ib b.m b.e/\∃(a:Nat),b.m.toNat<a/\dx x=Fy x (yY a b.m b.e).fst (yY a b.m b.e).snd
def LN(p b:dW)(x:iw):=ah dV=ah dV/\aA p.m=aA b.m/\ae p.e=ae b.e/\ak x.ng=ak x.ng/\ak x.tr=ak x.tr/\ae 1023=ae 1023/\ae (-1022)=ae (-1022)/\True
def Mv(b:dW)(x:iw):=ib b.m b.e/\∃(a:Nat),b.m.toNat<a/\dx x=Fz x (wT a b.m b.e).fst (wT a b.m b.e).snd
def O4(e0:iw)(e1:ai)(v0 v1:Value)(ss:St):=∃(z:dW),(ib z.m z.e/\dx e0=Fz e0 z.m z.e)/\E9 v0 z v1 e0/\aD ss [(0,e1)]
def Jd(e0:iw)(e1:ai)(v0 v1:Value)(ss:St):=∃(z:dW),(ib z.m z.e/\dx e0=AS e0 z.m z.e)/\E9 v0 z v1 e0/\aD ss [(0,e1)]
def O5(e0:iw)(e1:ai)(v0 v1:Value)(ss:St):=∃(z:dW),(ib z.m z.e/\dx e0=C2 e0 z.m z.e)/\E9 v0 z v1 e0/\aD ss [(0,e1)]
def O6(e0:iw)(e1:ai)(v0 v1 v2:Value)(ss:St):=∃(z:dW),(ib z.m z.e/\dx e0=(AR e0 z.m z.e,z.er)/\z.v=yZ z.er)/\(ah dV=ah dV/\v0=aA z.m/\v1=ae z.e/\ak e0.ng=ak e0.ng/\ak e0.tr=ak e0.tr/\ae 1023=ae 1023/\ae (-1022)=ae (-1022)/\v2=z.v/\True)/\aD ss [(0,e1)]
def O8(oo:Oper)(aa:List Value)(rr:ai)(k0:OX->Unit->Prop):=fj Tryz.prog oo (LA (149:TypeId))/\true=true/\∃(z:OX),aa=[ah (some ⟨z.a,0,none⟩),ah (some ⟨z.b,0,none⟩)]/\([]:List ai)=[]/\z.a≠z.b/\(sr rr z.a 149/\sr rr z.b 149)/\∀(u0:Unit),True->k0 z u0
theorem aqG(x:iw)(F:ai)(hc:Fx.cond x)(hr:Fx.aQ x F):true=true/\aO F ⟨11,1,none⟩ wE/\aO F ⟨11,2,none⟩ oz/\((-9223372036854775808:Int)<=bY ((1:Int)*(2:Int)^min (Int.toNat (11:Int)) i64.bits)+(-1023:Int)/\bY ((1:Int)*(2:Int)^min (Int.toNat (11:Int)) i64.bits)+(-1023:Int)<=(9223372036854775807:Int))/\((-9223372036854775808:Int)<=bY ((1:Int)*(2:Int)^min (Int.toNat (11:Int)) i64.bits)+(-1023:Int)-(2:Int)/\bY ((1:Int)*(2:Int)^min (Int.toNat (11:Int)) i64.bits)+(-1023:Int)-(2:Int)<=(9223372036854775807:Int))/\aO F ⟨11,2,none⟩ oz/\HG/\aO F ⟨11,0,none⟩ mR/\((-9223372036854775808:Int)<=(52:Int)/\(52:Int)<=(9223372036854775807:Int))/\((-9223372036854775808:Int)<=x.e+52/\x.e+52<=(9223372036854775807:Int))/\((∃(b:dW),Mc b x/\(ah dV=ah dV/\aA x.m=aA b.m/\ae (x.e+52)=ae b.e/\ak x.ng=ak x.ng/\ak x.tr=ak x.tr/\ae (bY ((1:Int)*(2:Int)^min (Int.toNat (11:Int)) i64.bits)+(-1023:Int)-(2:Int))=ae 1023/\ae ((-1023:Int)+(1:Int))=ae (-1022)/\True)/\aD [(0,F)] [(0,F)])/\aS fun(d:dW)_=>Mc d x->Br (d.m !=0) (aO F ⟨11,0,none⟩ mR/\Br (d.m.fdiv ((2:Int)^min (bc ((52:Int)+(2:Int))).toNat u64.bits)==0) (∃(b:dW),Mc b x/\(ah dV=ah dV/\aA (bc (d.m*2^min (Int.toNat (1:Int)) u64.bits))=aA b.m/\ae (bY (d.e-1))=ae b.e/\ak x.ng=ak x.ng/\ak x.tr=ak x.tr/\ae 1023=ae 1023/\ae (-1022)=ae (-1022)/\True)/\aD [(0,F)] [(0,F)]/\((18014398509481984:Int)-b.m).toNat<((18014398509481984:Int)-d.m).toNat) (O2 x F (wF d) (u9 d) [(0,F)])) (O2 x F (wF d) (u9 d) [(0,F)]))/\aS fun(r:dW)_=>(ib r.m r.e/\dx x=y5 x r.m r.e)->Br x.tr (O3 x F (aA (bc (↑(cf r.m|||cf (1:Int)).toNat:Int))) (u9 r) [(0,F)]) (O3 x F (wF r) (u9 r) [(0,F)])/\aS fun(p:dW)_=>(ib p.m p.e/\dx x=IY x p.m p.e)->((∃(b:dW),My b x/\LN p b x/\aD [(0,F)] [(0,F)])/\aS fun(d:dW)_=>My d x->aO F ⟨11,0,none⟩ mR/\Br (d.m.fdiv ((2:Int)^min (bc (bc ((1:Int)+(52:Int))+2)).toNat u64.bits)!=0) (∃(b:dW),My b x/\(ah dV=ah dV/\aA (bc (↑(cf (d.m.fdiv ((2:Int)^min (Int.toNat (1:Int)) u64.bits))|||cf (bc (↑(cf d.m&&& cf (1:Int)).toNat:Int))).toNat:Int))=aA b.m/\ae (bY (d.e+1))=ae b.e/\ak x.ng=ak x.ng/\ak x.tr=ak x.tr/\ae 1023=ae 1023/\ae (-1022)=ae (-1022)/\True)/\aD [(0,F)] [(0,F)]/\b.m.toNat<d.m.toNat) (∃(a:dW),(ib a.m a.e/\dx x=Fy x a.m a.e)/\LN d a x/\aD [(0,F)] [(0,F)]))/\aS fun(n:dW)_=>(ib n.m n.e/\dx x=Fy x n.m n.e)->((∃(b:dW),Mv b x/\LN n b x/\aD [(0,F)] [(0,F)])/\aS fun(d:dW)_=>Mv d x->aP (d.m>1) (((-9223372036854775808:Int)<=(-1022:Int)-(2:Int)/\(-1022:Int)-(2:Int)<=(9223372036854775807:Int))/\aP (d.e<(-1022:Int)-(2:Int)) (((-9223372036854775808:Int)<=d.e+1/\d.e+1<=(9223372036854775807:Int))/\∃(b:dW),Mv b x/\(ah dV=ah dV/\aA (bc (↑(cf (d.m.fdiv ((2:Int)^min (Int.toNat (1:Int)) u64.bits))|||cf (bc (↑(cf d.m&&& cf (1:Int)).toNat:Int))).toNat:Int))=aA b.m/\ae (d.e+1)=ae b.e/\ak x.ng=ak x.ng/\ak x.tr=ak x.tr/\ae 1023=ae 1023/\ae (-1022)=ae (-1022)/\True)/\aD [(0,F)] [(0,F)]/\b.m.toNat<d.m.toNat) (O4 x F (wF d) (u9 d) [(0,F)])) (O4 x F (wF d) (u9 d) [(0,F)]))/\aS fun(l:dW)_=>(ib l.m l.e/\dx x=Fz x l.m l.e)->(∃(a:dW),(ib a.m a.e/\dx x=C1 x a.m a.e a.r)/\(ah dV=ah dV/\aA (l.m.fdiv ((2:Int)^min (Int.toNat (2:Int)) u64.bits))=aA a.m/\ae (bY (l.e+2))=ae a.e/\ak x.ng=ak x.ng/\ak x.tr=ak x.tr/\ae 1023=ae 1023/\ae (-1022)=ae (-1022)/\aA (bc (↑(cf (bc (↑(cf l.m&&& cf (3:Int)).toNat:Int))|||cf (bc (↑(cf (l.m.fdiv ((2:Int)^min (Int.toNat (2:Int)) u64.bits))&&& cf (1:Int)).toNat:Int))).toNat:Int))=aA a.r/\True)/\aD [(0,F)] [(0,F)])/\aS fun(j:dW)_=>(ib j.m j.e/\dx x=C1 x j.m j.e j.r)->Br (j.r==3) (aO F ⟨11,0,none⟩ mR/\Br (bc (j.m+1)==bc ((1:Int)*(2:Int)^min (bc ((1:Int)+(52:Int))).toNat u64.bits)) (Jd x F (aA ((bc (j.m+1)).fdiv ((2:Int)^min (Int.toNat (1:Int)) u64.bits))) (ae (bY (j.e+1))) [(0,F)]) (Jd x F (aA (bc (j.m+1))) (u9 j) [(0,F)])) (Jd x F (wF j) (u9 j) [(0,F)])/\aS fun(h:dW)_=>(ib h.m h.e/\dx x=AS x h.m h.e)->(aO F ⟨11,0,none⟩ mR/\Br (h.m.fdiv ((2:Int)^min (Int.toNat (52:Int)) u64.bits)==0) (aO F ⟨11,2,none⟩ oz/\O5 x F (wF h) oz [(0,F)]) (O5 x F (wF h) (u9 h) [(0,F)]))/\aS fun(f:dW)_=>(ib f.m f.e/\dx x=C2 x f.m f.e)->aP (f.e>1023) (aO F ⟨11,0,none⟩ mR/\((-9223372036854775808:Int)<=(1023:Int)+(1:Int)/\(1023:Int)+(1:Int)<=(9223372036854775807:Int))/\O6 x F (aA (bc ((1:Int)*(2:Int)^min (Int.toNat (52:Int)) u64.bits))) (ae ((1023:Int)+(1:Int))) (fE 128 (ae 1)) [(0,F)]) (O6 x F (wF f) (u9 f) nilIface [(0,F)])/\aS fun(d:dW)_=>(ib d.m d.e/\dx x=(AR x d.m d.e,d.er)/\d.v=yZ d.er)->aO F ⟨11,0,none⟩ mR/\true=true/\aO F ⟨11,2,none⟩ oz/\aO F ⟨11,1,none⟩ wE/\((-9223372036854775808:Int)<=bY ((1:Int)*(2:Int)^min (Int.toNat (11:Int)) i64.bits)-1/\bY ((1:Int)*(2:Int)^min (Int.toNat (11:Int)) i64.bits)-1<=(9223372036854775807:Int))/\aO F ⟨11,0,none⟩ mR/\Br x.ng (true=true/\aO F ⟨11,0,none⟩ mR/\aO F ⟨11,1,none⟩ wE/\O8 (a8 Tryz.f125 35 1) [ah dV,ah (some ⟨9,0,none⟩)] (cX F) (fun b a=>aq Fx x F (az (tuple {toList:=[float f64 (bc (↑(cf (bc (↑(cf (bc (↑(cf d.m&&& cf (bc (bc ((1:Int)*(2:Int)^min (Int.toNat (52:Int)) u64.bits)-1))).toNat:Int))|||cf (bc (bc (bY (↑(iC (bY (d.e-(-1023:Int)))&&& iC (bY ((1:Int)*(2:Int)^min (Int.toNat (11:Int)) i64.bits)-1)).toNat:Int))*2^min (Int.toNat (52:Int)) u64.bits))).toNat:Int))|||cf (bc (bc ((1:Int)*(2:Int)^min (Int.toNat (52:Int)) u64.bits)*2^min (Int.toNat (11:Int)) u64.bits))).toNat:Int)).toNat,d.v]})) [(0,F)])) (O8 (a8 Tryz.f125 35 1) [ah dV,ah (some ⟨9,0,none⟩)] (cX F) (fun b a=>aq Fx x F (az (tuple ⟨[float f64 (bc (↑(cf (bc (↑(cf d.m&&& cf (bc (bc ((1:Int)*(2:Int)^min (Int.toNat (52:Int)) u64.bits)-1))).toNat:Int))|||cf (bc (bc (bY (↑(iC (bY (d.e-(-1023:Int)))&&& iC (bY ((1:Int)*(2:Int)^min (Int.toNat (11:Int)) i64.bits)-1)).toNat:Int))*2^min (Int.toNat (52:Int)) u64.bits))).toNat:Int)).toNat,d.v]⟩)) [(0,F)])):=by
 delta wE oz HG mR Mc dV E9 O2 wF u9 O3 My LN Mv O4 Jd O5 O6 O8 cX aH ae aA ak ah fE cf iC bc bY aP az aS;obtain⟨s,m,e,ng,tr,tb,lc⟩:=x;obtain⟨h1,h2,h3,h4⟩:=hc;replace hr:ic tb lc F:=hr;generalize hx:(⟨s,m,e,ng,tr,tb,lc⟩:iw)=x at*;have xm:x.m=m:=by rw[<-hx]
 have xe:x.e=e:=by rw[<-hx]
 rw[xm]at h1 h2;rw[xe]at h3 h4;have P0:aD [(0,F)] [(0,F)]:=aB [0];have w11:i64.wrap (1*2^min (Int.toNat 11) i64.bits)=2048:=by rfl
 have w54:(2:Int)^min (u64.wrap (52+2)).toNat u64.bits=18014398509481984:=by rfl
 have w55:(2:Int)^min (u64.wrap (u64.wrap (1+52)+2)).toNat u64.bits=36028797018963968:=by rfl
 have hg:∀a b:Int,ib (u64.wrap a) (i64.wrap b):=fun a b=>⟨(gB a).1,(gB a).2,(D5 b).1,(D5 b).2⟩;have hf:∀(m:Int)(k:Nat),0<=m->m<=18446744073709551615->0<=m.fdiv (2^k)/\m.fdiv (2^k)<=18446744073709551615:=fun m k a b=>by
  rw[Re];have hp:(0:Int)<2^k:=Int.pow_pos (by decide);exact⟨Int.ediv_nonneg a (Int.le_of_lt hp),Int.le_trans (Int.ediv_le_self _ a) b⟩
 rw[w11];refine⟨rfl,hr.i1,hr.i2,aJ,aJ,hr.i2,aJ,hr.i0,aJ,aJ,⟨⟨⟨x.m,x.e+52,0,0,.nilIface⟩,⟨⟨by simp[*],by simp[*],by grind,by grind⟩,(18014398509481984-x.m).toNat+1,jj _,rfl⟩,(by simp[*]),P0⟩,?_⟩,?_⟩
 ·rintro⟨m,e,r,er,v⟩ js ⟨⟨k1,k2,k3,k4⟩,f,GJ,hv⟩;dsimp only at k1 k2 k3 k4 GJ hv⊢;obtain⟨f,rfl⟩:∃g,f=g+1:=⟨f-1,af⟩;have out:(bif m !=0 then m.fdiv (2^min (u64.wrap (52+2)).toNat u64.bits)==0 else false)=false->dx x=y5 x m e:=fun h=>by rw[hv,yX,h];rfl
  refine aG (fun q1=>⟨hr.i0,aG (fun q2=>?_) (fun q2=>⟨⟨m,e,0,0,.nilIface⟩,⟨⟨k1,k2,k3,k4⟩,out (by grind)⟩,(by simp[*]),P0⟩)⟩) (fun q1=>⟨⟨m,e,0,0,.nilIface⟩,⟨⟨k1,k2,k3,k4⟩,out (by simp[*])⟩,(by simp[*]),P0⟩);have hm0:m≠0:=by
   grind
  have hm1:m<18014398509481984:=by
   grind
  have ew:u64.wrap (m*2^min (Int.toNat 1) u64.bits)=m*2:=by
   rw[show(2:Int)^min (Int.toNat 1) u64.bits=2 from rfl];exact dA (i:=.u64) aJ
  refine⟨⟨_,_,0,0,.nilIface⟩,⟨hg _ _,f,?_,?_⟩,(by(repeat refine⟨rfl,?_⟩);simp[*]),P0,?_⟩
  ·show(18014398509481984-u64.wrap (m*2^min (Int.toNat 1) u64.bits)).toNat<f;omega
  ·dsimp only;rw[hv,yX,show(m !=0)=true from q1,show(m.fdiv (2^min (u64.wrap (52+2)).toNat u64.bits)==0)=true from q2];rfl
  ·show(18014398509481984-u64.wrap (m*2^min (Int.toNat 1) u64.bits)).toNat<(18014398509481984-m).toNat;omega
 rintro⟨m,e,r,er,v⟩ js ⟨k,hv⟩;dsimp only at k hv⊢;refine⟨aG (fun q=>⟨⟨_,e,0,0,.nilIface⟩,⟨⟨(gB _).1,(gB _).2,k.2.2.1,k.2.2.2⟩,by rw[hv];unfold y5;rw[show x.tr=true from q];rfl⟩,(by(repeat refine⟨rfl,?_⟩);simp[*]),P0⟩) (fun q=>⟨⟨m,e,0,0,.nilIface⟩,⟨k,by rw[hv];unfold y5;simp[*]⟩,(by simp[*]),P0⟩),?_⟩;clear hv k;rintro⟨m,e,r,er,v⟩ js ⟨k,hv⟩;dsimp only at k hv⊢;refine⟨⟨⟨⟨m,e,0,0,.nilIface⟩,⟨k,m.toNat+1,jj _,hv⟩,(by simp[*]),P0⟩,?_⟩,?_⟩
 ·clear hv k;rintro⟨m,e,r,er,v⟩ js ⟨k,f,GJ,hv⟩;have k':=k;obtain⟨k1,k2,k3,k4⟩:=k';dsimp only at k k1 k2 k3 k4 GJ hv⊢;obtain⟨f,rfl⟩:∃g,f=g+1:=⟨f-1,af⟩;refine⟨hr.i0,aG (fun q=>?_) (fun q=>⟨⟨m,e,0,0,.nilIface⟩,⟨k,by rw[hv,yY,show(m.fdiv (2^min (u64.wrap (u64.wrap (1+52)+2)).toNat u64.bits)!=0)=false from q];rfl⟩,(by simp[*]),P0⟩)⟩;have hm1:36028797018963968<=m:=by
   grind
  have hl:=acM (m:=m) af k2;have hn:=acN m;refine⟨⟨y4 m,i64.wrap (e+1),0,0,.nilIface⟩,⟨hg _ _,f,by grind,?_⟩,(by(repeat refine⟨rfl,?_⟩);simp[*]),P0,by grind⟩;dsimp only;rw[hv,yY,show(m.fdiv (2^min (u64.wrap (u64.wrap (1+52)+2)).toNat u64.bits)!=0)=true from q];rfl
 clear hv k;rintro⟨m,e,r,er,v⟩ js ⟨k,hv⟩;dsimp only at k hv⊢;refine⟨⟨⟨⟨m,e,0,0,.nilIface⟩,⟨k,m.toNat+1,jj _,hv⟩,(by simp[*]),P0⟩,?_⟩,?_⟩
 ·clear hv k;rintro⟨m,e,r,er,v⟩ js ⟨k,f,GJ,hv⟩;have k':=k;obtain⟨k1,k2,k3,k4⟩:=k';dsimp only at k k1 k2 k3 k4 GJ hv⊢;obtain⟨f,rfl⟩:∃g,f=g+1:=⟨f-1,af⟩;refine bl (fun q=>⟨aJ,bl (fun q2=>?_) (fun q2=>⟨⟨m,e,0,0,.nilIface⟩,⟨k,by rw[hv,wT,bG q,bK q2];rfl⟩,(by simp[*]),P0⟩)⟩) (fun q=>⟨⟨m,e,0,0,.nilIface⟩,⟨k,by rw[hv,wT,bK q];rfl⟩,(by simp[*]),P0⟩);have hl:=acM (m:=m) af k2;have hn:=acN m;refine⟨aJ,⟨y4 m,e+1,0,0,.nilIface⟩,⟨⟨hn.1,hn.2,by grind,by grind⟩,f,by grind,?_⟩,(by(repeat refine⟨rfl,?_⟩);simp[*]),P0,by grind⟩;dsimp only;rw[hv,wT,bG q,bG q2];rfl
 clear hv k;rintro⟨m,e,r,er,v⟩ js ⟨k,hv⟩;dsimp only at k hv⊢;refine⟨⟨⟨m.fdiv (2^min (Int.toNat 2) u64.bits),i64.wrap (e+2),_,0,.nilIface⟩,⟨⟨(hf _ _ k.1 k.2.1).1,(hf _ _ k.1 k.2.1).2,(D5 _).1,(D5 _).2⟩,hv⟩,(by(repeat refine⟨rfl,?_⟩);simp[*]),P0⟩,?_⟩;clear hv k;rintro⟨m,e,r,er,v⟩ js ⟨k,hv⟩;dsimp only at k hv⊢;refine⟨aG (fun q=>⟨hr.i0,aG (fun q2=>⟨⟨_,_,0,0,.nilIface⟩,⟨⟨(hf _ _ (gB _).1 (gB _).2).1,(hf _ _ (gB _).1 (gB _).2).2,(D5 _).1,(D5 _).2⟩,by rw[hv];unfold C1;rw[show(r==3)=true from q,show(u64.wrap (m+1)==u64.wrap (1*2^min (u64.wrap (1+52)).toNat u64.bits))=true from q2];rfl⟩,(by(repeat refine⟨rfl,?_⟩);simp[*]),P0⟩) (fun q2=>⟨⟨_,e,0,0,.nilIface⟩,⟨⟨(gB _).1,(gB _).2,k.2.2.1,k.2.2.2⟩,by rw[hv];unfold C1;rw[show(r==3)=true from q,show(u64.wrap (m+1)==u64.wrap (1*2^min (u64.wrap (1+52)).toNat u64.bits))=false from q2];rfl⟩,(by(repeat refine⟨rfl,?_⟩);simp[*]),P0⟩)⟩) (fun q=>⟨⟨m,e,0,0,.nilIface⟩,⟨k,by rw[hv];unfold C1;simp[*]⟩,(by simp[*]),P0⟩),?_⟩;clear hv k;rintro⟨m,e,r,er,v⟩ js ⟨k,hv⟩;dsimp only at k hv⊢;refine⟨⟨hr.i0,aG (fun q=>⟨hr.i2,⟨m,-1023,0,0,.nilIface⟩,⟨⟨k.1,k.2.1,by simp[*],by simp[*]⟩,by rw[hv];unfold AS;grind⟩,(by simp[*]),P0⟩) (fun q=>⟨⟨m,e,0,0,.nilIface⟩,⟨k,by rw[hv];unfold AS;grind⟩,(by simp[*]),P0⟩)⟩,?_⟩;clear hv k;rintro⟨m,e,r,er,v⟩ js ⟨k,hv⟩;dsimp only at k hv⊢;refine⟨bl (fun q=>⟨hr.i0,aJ,⟨_,1023+1,0,1,_⟩,⟨⟨(gB _).1,(gB _).2,by simp[*],by simp[*]⟩,by rw[hv];unfold C2;rw[bG q];rfl,rfl⟩,(by(repeat refine⟨rfl,?_⟩);simp[*]),P0⟩) (fun q=>⟨⟨m,e,0,0,.nilIface⟩,⟨k,by rw[hv];unfold C2;simp[*],rfl⟩,(by simp[*]),P0⟩),?_⟩;clear hv k;rintro⟨m,e,r,er,v⟩ js ⟨k,hv,hev⟩;dsimp only at k hv hev⊢;have Zp:sr (.dv (rest [(0,F)] [])) 11 149/\sr (.dv (rest [(0,F)] [])) 9 149:=⟨hr.bi.sub (b_ 0),hr.bj.sub (b_ 0)⟩;have fin:∀b:Nat,AR x m e=b->aq Fx x F (returned (tuple #[float .f64 b,v])) [(0,F)]:=fun b h=>
  ⟨(),ao,by show _=returned (.tuple #[.float .f64 (dx x).1,yZ (dx x).2]);simp[*],P0⟩
 refine⟨hr.i0,rfl,hr.i2,hr.i1,aJ,hr.i0,aG (fun q=>⟨rfl,hr.i0,hr.i1,abf rfl rfl rfl (by decide),rfl,⟨11,9⟩,rfl,rfl,by decide,Zp,fun _ _=>fin _ (by unfold AR;rw[show x.ng=true from q];rfl)⟩) (fun q=>bp (abf rfl rfl rfl (by decide)) ⟨11,9⟩ (by decide) Zp fun _ _=>fin _ (by unfold AR;rw[show x.ng=false from q];rfl))⟩
theorem aqF:aC 125 Fx:=fo 192 Tryz.func125 (fun _ _=>[(1,3,Sl),(1,4,aW),(1,8,K3),(2,3,K3),(3,4,xU),(4,7,xU),(4,8,aW),(4,9,aW),(5,1,aW),(6,1,aW),(11,1,aW),(18,1,aW),(23,1,aW),(32,6,aW),(35,1,.o (LA 149) [] []),(8,1,aW),(9,4,xU),(9,5,aW),(9,6,aW),(9,7,aW),(10,1,aW),(10,3,aW),(10,4,aW),(13,1,aW),(13,3,aW),(13,4,aW),(15,1,aW),(16,1,aW),(17,2,aW),(17,3,aW),(20,1,aW),(21,4,xU),(21,5,aW),(21,6,aW),(22,1,aW),(24,4,xU),(24,5,aW),(25,3,K3),(28,3,xU),(28,4,aW),(31,4,xU),(31,5,aW),(31,6,aW),(31,7,aW),(32,5,K3),(32,10,Sl),(32,11,aW),(32,13,aW),(32,14,aW),(32,18,xU),(32,19,aW),(32,20,aW),(34,4,xU),(34,5,aW),(34,9,Sl),(34,10,aW),(34,11,aW),(37,1,aW)]) [] aqD aqB bz [] aqG
end
section
open Go
structure bn where
 ds:List Int
 nd:Int
 dp:Int
 ng:Bool
 tr:Bool
def aZ(d:bn):List Value:=d.ds.map (fun c=>int .u8 c)++[.int .i64 d.nd,.int .i64 d.dp,.bool d.ng,.bool d.tr]
def bn.ok(d:bn):Prop:=d.ds.length=800/\0<=d.nd/\d.nd<=800
def bn.at_(d:bn)(i:Nat):Int:=d.ds.getD i 0
section
variable{b:Nat}{t:TypeId}{d:bn}
theorem kq(h:d.ds.length=800):(aZ d).length=804:=by unfold aZ;simp[h]
theorem Ka(h:d.ds.length=800)(k:Nat):(aZ d)[800+k]?=[int .i64 d.nd,.int .i64 d.dp,.bool d.ng,.bool d.tr][k]?:=by
 unfold aZ;rw[sR (by simp[h])];simp[h]
theorem lg(h:d.ds.length=800):aO (.cells b (aZ d) t) ⟨b,800,none⟩ (.int .i64 d.nd):=aO.cells (by rw[show(800:Nat)=800+0 from rfl,Ka h];rfl)
theorem mL(h:d.ds.length=800):aO (.cells b (aZ d) t) ⟨b,801,none⟩ (.int .i64 d.dp):=aO.cells (by rw[show(801:Nat)=800+1 from rfl,Ka h];rfl)
theorem akU(h:d.ds.length=800):aO (.cells b (aZ d) t) ⟨b,802,none⟩ (.bool d.ng):=aO.cells (by rw[show(802:Nat)=800+2 from rfl,Ka h];rfl)
theorem akV(h:d.ds.length=800):aO (.cells b (aZ d) t) ⟨b,803,none⟩ (.bool d.tr):=aO.cells (by rw[show(803:Nat)=800+3 from rfl,Ka h];rfl)
theorem zI(h:d.ds.length=800){i:Nat}(hi:i<800):aO (.cells b (aZ d) t) ⟨b,i,none⟩ (.int .u8 (d.at_ i)):=aO.cells (by
 unfold aZ bn.at_;rw[rB (by simp[h,hi]),gw,fD,gv af];rfl)
theorem N5(h:d.ds.length=800)(k:Nat)(v:Value):(aZ d).set (800+k) v=d.ds.map (fun c=>int .u8 c)++[int .i64 d.nd,.int .i64 d.dp,.bool d.ng,.bool d.tr].set k v:=by
 unfold aZ;rw[List.set_append_right _ _ (by simp[h])];simp[h]
theorem Iz(h:d.ds.length=800)(n:Int):(aZ d).set 800 (.int .i64 n)=aZ ⟨d.ds,n,d.dp,d.ng,d.tr⟩:=N5 h 0 _
theorem CH(h:d.ds.length=800)(n:Int):(aZ d).set 801 (.int .i64 n)=aZ ⟨d.ds,d.nd,n,d.ng,d.tr⟩:=N5 h 1 _
theorem aoF(h:d.ds.length=800)(n:Bool):(aZ d).set 802 (.bool n)=aZ ⟨d.ds,d.nd,d.dp,n,d.tr⟩:=N5 h 2 _
theorem N6(h:d.ds.length=800)(n:Bool):(aZ d).set 803 (.bool n)=aZ ⟨d.ds,d.nd,d.dp,d.ng,n⟩:=N5 h 3 _
theorem WS(h:d.ds.length=800){i:Nat}(hi:i<800)(c:Int):(aZ d).set i (.int .u8 c)=aZ ⟨d.ds.set i c,d.nd,d.dp,d.ng,d.tr⟩:=by
 unfold aZ;rw[List.set_append_left _ _ (by simp[h,hi]),List.map_set]
end
def oJ(ds:List Int):Nat->Nat
 |0=>0
 |n+1=>bif ds.getD n 0==48 then oJ ds n else n+1
def lW(d:bn):bn:=⟨d.ds,(oJ d.ds d.nd.toNat:Nat),bif oJ d.ds d.nd.toNat==0 then 0 else d.dp,d.ng,d.tr⟩
theorem ach(ds:List Int):∀n,oJ ds n<=n
 |0=>cr _
 |n+1=>by
  rw[oJ];cases ds.getD n 0==48 with
  |true=>rw[bf];have:=ach ds n;omega
  |false=>exact cr _
structure lY where
 b:Nat
 d:bn
def ju(x:lY):Option Addr:=some ⟨x.b,0,none⟩
def rO(x:lY):=ag x.b (aZ x.d) 158
def wQ:aR where
 X:=lY
 args x:=[ah (ju x)]
 pre x:=[rO x]
 cond x:=x.d.ok
 val _ _:=.returned (.tuple #[])
 post x _:=[ag x.b (aZ (lW x.d)) 158]
def Cd(x:lY)(n:Nat):=ag x.b (aZ ⟨x.d.ds,(n:Int),x.d.dp,x.d.ng,x.d.tr⟩) 158
def apo(x:lY)(F:ai):Nat->Option Inv:=fun
 |0=>some {X:=Nat,P:=fun n=>(n:Int)<=x.d.nd/\oJ x.d.ds x.d.nd.toNat=oJ x.d.ds n,mu:=fun n=>n,lv:=fun _=>[(0,ah (ju x))],st:=fun n=>[Cd x n,F]}
 |_=>none
def Nh(a:Nat)(x:lY):=a<=x.d.nd/\oJ x.d.ds x.d.nd.toNat=oJ x.d.ds a
def nu(x:lY)(F:ai):=[(0,ag x.b (aZ x.d) 158),(1,F)]
def M4(x:lY)(g:Nat)(F:ai):=[(0,ag x.b (aZ ⟨x.d.ds,(g:Int),x.d.dp,x.d.ng,x.d.tr⟩) 158),(1,F)]
def pY(d:Int):=(-9223372036854775808:Int)<=d-1/\d-1<=(9223372036854775807:Int)
def jP(aa:ai)(ad:Addr)(k0:Int->Prop):=∃(z0:Int),aO aa ad (a_ z0)/\k0 z0
def Td(x:lY)(g:Nat)(F:ai):=T1 (Cd x g) ⟨x.b,800,none⟩ (fun a=>Br (a==0) ((ax x.b 801/\801<(aZ ⟨x.d.ds,(g:Int),x.d.dp,x.d.ng,x.d.tr⟩).length)/\aq wQ x F eM [(0,ag x.b ((aZ ⟨x.d.ds,(g:Int),x.d.dp,x.d.ng,x.d.tr⟩).set 801 (ae 0)) 158),(1,F)]) (aq wQ x F eM (M4 x g F)))
theorem apq(x:lY)(F:ai)(hc:wQ.cond x)(hr:wQ.aQ x F):(∃(a:Nat),Nh a x/\(ah (ju x)=ah (ju x)/\True)/\aD (nu x F) (M4 x a F))/\aS fun(g:Nat)_=>Nh g x->true=true/\T1 (Cd x g) ⟨x.b,800,none⟩ (fun e=>aP (e>0) (T1 (Cd x g) ⟨x.b,800,none⟩ (fun d=>pY d/\(0<=d-1/\d-1<(↑(800:Nat):Int))/\jP (Cd x g) ⟨x.b,0+(d-1).toNat*1,none⟩ (fun c=>Br (c==48) (T1 (Cd x g) ⟨x.b,800,none⟩ (fun b=>pY b/\(ax x.b 800/\800<(aZ ⟨x.d.ds,(g:Int),x.d.dp,x.d.ng,x.d.tr⟩).length)/\∃(a:Nat),Nh a x/\(ah (ju x)=ah (ju x)/\True)/\aD [(0,ag x.b ((aZ ⟨x.d.ds,(g:Int),x.d.dp,x.d.ng,x.d.tr⟩).set 800 (ae (b-1))) 158),(1,F)] (M4 x a F)/\a<g)) (Td x g F)))) (Td x g F)):=by
 delta Nh ju nu M4 T1 Cd pY jP eM Td ax ae a_ ah ag aP az aS;obtain⟨b,ds,nd,dp,ng,tr⟩:=x;obtain⟨hl,h0,h1⟩:=hc;dsimp only at hl h0 h1⊢;have iD:∀n dp' ng' tr',(bn.mk ds n dp' ng' tr').ds.length=800:=fun _ _ _ _=>hl;have len:∀n,(aZ ⟨ds,n,dp,ng,tr⟩).length=804:=fun n=>kq (iD n dp ng tr);refine⟨⟨nd.toNat,⟨af,rfl⟩,⟨rfl,ao⟩,?_⟩,?_⟩
 ·rw[show((nd.toNat:Nat):Int)=nd by omega];exact aB [0,1]
 rintro n js ⟨hn,hv⟩;have out:oJ ds nd.toNat=n->∃(n_1:Int),aO (.cells b (aZ ⟨ds,(n:Int),dp,ng,tr⟩) 158) ⟨b,800,none⟩ (.int .i64 n_1)/\Br (n_1==0) ((dS ⟨b,801,none⟩ b/\801<(aZ ⟨ds,(n:Int),dp,ng,tr⟩).length)/\aq wQ ⟨b,ds,nd,dp,ng,tr⟩ F (returned (tuple #[])) [(0,.cells b ((aZ ⟨ds,(n:Int),dp,ng,tr⟩).set 801 (.int .i64 0)) 158),(1,F)])
   (aq wQ ⟨b,ds,nd,dp,ng,tr⟩ F (returned (tuple #[])) [(0,.cells b (aZ ⟨ds,(n:Int),dp,ng,tr⟩) 158),(1,F)]):=fun e=>by
  refine⟨_,lg (iD _ _ _ _),aG (fun q=>⟨⟨ap,by rw[len];decide⟩,?_⟩) (fun q=>?_)⟩
  ·have q:((n:Int)==0)=true:=q;have q:n=0:=by have:=eq_of_beq q;omega
   subst q;rw[CH (iD _ _ _ _)];have:lW ⟨ds,nd,dp,ng,tr⟩=⟨ds,((0:Nat):Int),0,ng,tr⟩:=by unfold lW;rw[e];rfl
   exact⟨(),ao,rfl,by show aD _ (bD ([.cells b (aZ (lW ⟨ds,nd,dp,ng,tr⟩)) _]++[F]));rw[this];exact aB [0,1]⟩
  ·have q:((n:Int)==0)=false:=q;have q:¬(n:Int)=0:=ga.1 q;have:lW ⟨ds,nd,dp,ng,tr⟩=⟨ds,(n:Int),dp,ng,tr⟩:=by unfold lW;rw[e,show(n==0)=false from ga.2 af];rfl
   exact⟨(),ao,rfl,by show aD _ (bD ([.cells b (aZ (lW ⟨ds,nd,dp,ng,tr⟩)) _]++[F]));rw[this];exact aB [0,1]⟩
 refine⟨rfl,_,lg (iD _ _ _ _),bl (fun q=>?_) (fun q=>out ?_)⟩
 ·obtain⟨k,rfl⟩:∃k,n=k+1:=⟨n-1,by dsimp only at q;omega⟩;rw[oJ]at hv;refine⟨_,lg (iD _ _ _ _),iP,iP,ds.getD k 0,?_,aG (fun q2=>?_) (fun q2=>out ?_)⟩
  ·have:=zI (b:=b) (t:=158) (iD ((k+1:Nat):Int) dp ng tr) (i:=k) af;rw[show 0+(((k+1:Nat):Int)-1).toNat*1=k by omega];exact this
  ·refine⟨_,lg (iD _ _ _ _),iP,⟨ap,by rw[len];decide⟩,k,⟨af,by rw[hv,show(ds.getD k 0==48)=true from q2];rfl⟩,⟨rfl,ao⟩,?_,af⟩;rw[Iz (iD _ _ _ _),show(((k+1:Nat):Int)-1)=(k:Int) by omega];exact aB [0,1]
  ·rw[hv,show(ds.getD k 0==48)=false from q2];rfl
 ·have:n=0:=by dsimp only at q;omega
  subst this;rw[hv];rfl
theorem ack:aC 184 wQ:=fo 35 Tryz.func184 (fun _ _=>[(0,3,dm),(0,10,dm),(0,15,.q [.ex 0 (.int .u8)]),(1,3,dm),(1,7,.w [.ex 0 .any]),(2,3,dm),(3,3,.w [.ex 0 .any])]) [] apo aY bz [] apq
end
section
open Go
structure De where
 b:Nat
 d:bn
 k:Int
def qM(d:bn)(k:Int):Bool:=
 bif (bif decide (k<0) then true else decide (k>=d.nd)) then false
 else bif (bif d.at_ k.toNat==53 then k+1==d.nd else false) then (bif d.tr then true else (bif decide (k>0) then (u8.wrap (d.at_ (k-1).toNat-48)).tmod 2 !=0 else false))
 else decide (d.at_ k.toNat>=53)
def yl(x:De):=ag x.b (aZ x.d) 158
def tR:aR where
 X:=De
 args x:=[ah (some ⟨x.b,0,none⟩),ae x.k]
 pre x:=[yl x]
 cond x:=x.d.ok
 val x _:=az (ak (qM x.d x.k))
 post x _:=[yl x]
def iH(j:Nat):OH:=.q [.ex j (.int .i64)]
def bH(j:Nat):OH:=.q [.ex j (.int .u8)]
def wm(x:De)(F:ai):=[(0,ag x.b (aZ x.d) 158),(1,F)]
def zf(aa:ai)(ad:Addr)(k0:Bool->Prop):=∃(z0:Bool),aO aa ad (ak z0)/\k0 z0
def TZ(x:De)(F:ai):=(0<=x.k/\x.k<(↑(800:Nat):Int))/\jP (yl x) ⟨x.b,0+x.k.toNat*1,none⟩ (fun a=>aq tR x F (az (ak (decide (a>=53)))) (wm x F))
theorem apc(x:De)(F:ai)(hc:tR.cond x)(hr:tR.aQ x F):aP (x.k<0) (aq tR x F c7 (wm x F)) (T1 (yl x) ⟨x.b,800,none⟩ (fun e=>aP (x.k>=e) (aq tR x F c7 (wm x F)) ((0<=x.k/\x.k<(↑(800:Nat):Int))/\jP (yl x) ⟨x.b,0+x.k.toNat*1,none⟩ (fun d=>Br (d==53) (((-9223372036854775808:Int)<=x.k+1/\x.k+1<=(9223372036854775807:Int))/\T1 (yl x) ⟨x.b,800,none⟩ (fun c=>Br (x.k+1==c) (zf (yl x) ⟨x.b,803,none⟩ (fun b=>Br b (aq tR x F jv (wm x F)) (aP (x.k>0) (((-9223372036854775808:Int)<=x.k-1/\x.k-1<=(9223372036854775807:Int))/\(0<=x.k-1/\x.k-1<(↑(800:Nat):Int))/\jP (yl x) ⟨x.b,0+(x.k-1).toNat*1,none⟩ (fun a=>(2:Int)≠(0:Int)/\aq tR x F (az (ak ((u8.wrap (a-48)).tmod (2:Int)!=(0:Int)))) (wm x F))) (aq tR x F c7 (wm x F))))) (TZ x F))) (TZ x F))))):=by
 delta dq c7 wm T1 yl jP zf jv TZ ae a_ ak ag aP az;obtain⟨b,d,k⟩:=x;obtain⟨hl,h0,h1⟩:=hc;dsimp only at hl h0 h1⊢;have P1:aD [(0,.cells b (aZ d) 158),(1,F)] [(0,.cells b (aZ d) 158),(1,F)]:=aB [0,1];have fin:∀v:Bool,qM d k=v->aq tR ⟨b,d,k⟩ F (returned (bool v)) [(0,.cells b (aZ d) 158),(1,F)]:=fun v e=>
  ⟨(),ao,by show _=returned (.bool (qM d k));rw[e],P1⟩
 have lk:∀i:Int,0<=i->i<800->aO (.cells b (aZ d) 158) ⟨b,0+i.toNat*1,none⟩ (.int .u8 (d.at_ i.toNat)):=fun i a c=>by
  rw[show 0+i.toNat*1=i.toNat by omega];exact zI hl af
 refine bl (fun q=>fin _ (by unfold qM;rw[bG q];rfl)) (fun q=>⟨_,lg hl,bl (fun q2=>fin _ (by unfold qM;rw[bK q,bG q2];rfl)) (fun q2=>⟨aJ,_,lk k af af,aG (fun q3=>⟨aJ,_,lg hl,aG (fun q4=>⟨_,akV hl,aG (fun q5=>fin _ ?_) (fun q5=>bl (fun q6=>⟨aJ,aJ,_,lk (k-1) af af,by decide,fin _ ?_⟩) (fun q6=>fin _ ?_))⟩) (fun q4=>⟨aJ,_,lk k af af,fin _ ?_⟩)⟩) (fun q3=>⟨aJ,_,lk k af af,fin _ ?_⟩)⟩)⟩)
 ·unfold qM;rw[bK q,bK q2,show(d.at_ k.toNat==53)=true from q3,show(k+1==d.nd)=true from q4,show d.tr=true from q5];rfl
 ·unfold qM;rw[bK q,bK q2,show(d.at_ k.toNat==53)=true from q3,show(k+1==d.nd)=true from q4,show d.tr=false from q5,bG q6];rfl
 ·unfold qM;rw[bK q,bK q2,show(d.at_ k.toNat==53)=true from q3,show(k+1==d.nd)=true from q4,show d.tr=false from q5,bK q6];rfl
 ·unfold qM;rw[bK q,bK q2,show(d.at_ k.toNat==53)=true from q3,show(k+1==d.nd)=false from q4];rfl
 ·unfold qM;rw[bK q,bK q2,show(d.at_ k.toNat==53)=false from q3];rfl
theorem apb:aC 170 tR:=fo 56 Tryz.func170 (fun _ _=>[(1,7,iH 0),(3,5,bH 0),(3,13,iH 0),(4,3,.q [.ex 0 .bool]),(6,9,bH 0),(6,10,aW),(7,5,bH 0)]) [] aY aY bz [] apc
def wG(d:bn):Nat->Int->Int->Int×Int
 |0,i,n=>(i,n)
 |f+1,i,n=>bif (bif decide (i<d.dp) then decide (i<d.nd) else false) then wG d f (i+1) (u64.wrap (u64.wrap (n*10)+u64.wrap (u8.wrap (d.at_ i.toNat-48)))) else (i,n)
def yE(d:bn):Nat->Int->Int->Int
 |0,_,n=>n
 |f+1,i,n=>bif decide (i<d.dp) then yE d f (i+1) (u64.wrap (n*10)) else n
def yF(d:bn)(n:Int):Int:=bif qM d d.dp then u64.wrap (n+1) else n
def nF(d:bn):Int:=bif decide (d.dp>20) then 18446744073709551615 else yF d (yE d 1000 (wG d 1000 0 0).1 (wG d 1000 0 0).2)
def yG:aR where
 X:=lY
 args x:=[ah (ju x)]
 pre x:=[rO x]
 cond x:=x.d.ok
 val x _:=az (aA (nF x.d))
 post x _:=[rO x]
structure ri where
 i:Int
 n:Int
 f:Nat
def an3(x:lY)(F:ai):Nat->Option Inv:=fun
 |0=>some {X:=ri,P:=fun d=>x.d.dp<=20/\0<=d.i/\(d.i<=20)/\900<=d.f+d.i/\nF x.d=yF x.d (yE x.d 1000 (wG x.d d.f d.i d.n).1 (wG x.d d.f d.i d.n).2),mu:=fun d=>(20-d.i).toNat,lv:=fun d=>[(0,ah (ju x)),(3,ae d.i),(4,aA d.n)],st:=fun _=>[rO x,F]}
 |2=>some {X:=ri,P:=fun d=>x.d.dp<=20/\0<=d.i/\d.i<=20/\900<=d.f+d.i/\nF x.d=yF x.d (yE x.d d.f d.i d.n),mu:=fun d=>(20-d.i).toNat,lv:=fun d=>[(0,ah (ju x)),(3,ae d.i),(4,aA d.n)],st:=fun _=>[rO x,F]}
 |_=>none
def an2(x:lY)(F:ai):Nat->Option Inv:=fun
 |9=>some {X:=ri,P:=fun d=>x.d.dp<=20/\0<=d.i/\d.i<=20/\900<=d.f+d.i/\nF x.d=yF x.d (yE x.d d.f d.i d.n),mu:=fun d=>0,lv:=fun d=>[(0,ah (ju x)),(3,ae d.i),(4,aA d.n)],st:=fun _=>[rO x,F]}
 |_=>none
def L3(x:lY)(a:ri):=x.d.dp<=20/\0<=a.i/\a.i<=20/\900<=a.f+a.i/\nF x.d=yF x.d (yE x.d 1000 (wG x.d a.f a.i a.n).fst (wG x.d a.f a.i a.n).snd)
def VB(f:ri):=(-9223372036854775808:Int)<=f.i+1/\f.i+1<=(9223372036854775807:Int)
def HC(e0:lY)(z:ri):=e0.d.dp<=20/\0<=z.i/\z.i<=20/\900<=z.f+z.i/\nF e0.d=yF e0.d (yE e0.d z.f z.i z.n)
def Je(e0:lY)(e1:ai)(v0 v1:Value)(ss:St):=∃(z:ri),HC e0 z/\(ah (ju e0)=ah (ju e0)/\v0=ae z.i/\v1=aA z.n/\True)/\aD ss (nu e0 e1)
theorem an5(x:lY)(F:ai)(hc:yG.cond x)(hr:yG.aQ x F):T1 (rO x) ⟨x.b,801,none⟩ (fun i=>aP (i>20) (aq yG x F (az (aA 18446744073709551615)) (nu x F)) (((∃(a:ri),L3 x a/\(ah (ju x)=ah (ju x)/\ae 0=ae a.i/\aA 0=aA a.n/\True)/\aD (nu x F) (nu x F))/\aS fun(f:ri)_=>L3 x f->T1 (rO x) ⟨x.b,801,none⟩ (fun d=>aP (f.i<d) (T1 (rO x) ⟨x.b,800,none⟩ (fun c=>aP (f.i<c) ((0<=f.i/\f.i<(↑(800:Nat):Int))/\jP (rO x) ⟨x.b,0+f.i.toNat*1,none⟩ (fun b=>VB f/\∃(a:ri),L3 x a/\(ah (ju x)=ah (ju x)/\ae (f.i+1)=ae a.i/\aA (bc (bc (f.n*10)+bc (u8.wrap (b-48))))=aA a.n/\True)/\aD (nu x F) (nu x F)/\((20:Int)-a.i).toNat<((20:Int)-f.i).toNat)) (Je x F (ae f.i) (aA f.n) (nu x F)))) (Je x F (ae f.i) (aA f.n) (nu x F))))/\aS fun(h:ri)_=>HC x h->Je x F (ae h.i) (aA h.n) (nu x F)/\aS fun(f:ri)_=>HC x f->T1 (rO x) ⟨x.b,801,none⟩ (fun d=>aP (f.i<d) (VB f/\∃(a:ri),HC x a/\(ah (ju x)=ah (ju x)/\ae (f.i+1)=ae a.i/\aA (bc (f.n*10))=aA a.n/\True)/\aD (nu x F) (nu x F)/\((20:Int)-a.i).toNat<((20:Int)-f.i).toNat) (T1 (rO x) ⟨x.b,801,none⟩ (fun c=>aC 170 tR/\true=true/\∃(b:De),[ah (ju x),ae c]=[ah (some ⟨b.b,0,none⟩),ae b.k]/\[ag x.b (aZ x.d) 158]=[ag b.b (aZ b.d) 158]/\b.d.ok/\True/\∀(a:Unit),True->Br (qM b.d b.k) (aq yG x F (az (aA (bc (f.n+1)))) (wm b F)) (aq yG x F (az (aA f.n)) (wm b F))))))):=by
 delta T1 rO nu L3 ju jP VB HC Je wm ae a_ aA ah ag bc aP az aS;obtain⟨b,d⟩:=x;have ii:d.ok:=hc;obtain⟨hl,h0,h1⟩:=hc;dsimp only at hl h0 h1⊢;have P1:aD [(0,.cells b (aZ d) 158),(1,F)] [(0,.cells b (aZ d) 158),(1,F)]:=aB [0,1];have fin:∀v:Int,nF d=v->aq yG ⟨b,d⟩ F (returned (int .u64 v)) [(0,.cells b (aZ d) 158),(1,F)]:=fun v e=>
  ⟨(),ao,by show _=returned (.int .u64 (nF d));rw[e],P1⟩
 have lk:∀i:Int,0<=i->i<800->aO (.cells b (aZ d) 158) ⟨b,0+i.toNat*1,none⟩ (.int .u8 (d.at_ i.toNat)):=fun i a c=>by
  rw[show 0+i.toNat*1=i.toNat by omega];exact zI hl af
 refine⟨_,mL hl,bl (fun q=>fin _ (by unfold nF;rw[bG q];rfl)) (fun q=>?_)⟩;refine⟨⟨⟨⟨0,0,1000⟩,⟨af,bd,bd,bd,by unfold nF;rw[bK q];rfl⟩,aV,P1⟩,?_⟩,?_⟩
 ·rintro⟨i,n,f⟩ js ⟨g1,g2,g3,g4,hv⟩;dsimp only at g1 g2 g3 g4 hv⊢;obtain⟨f,rfl⟩:∃k,f=k+1:=⟨f-1,af⟩;refine⟨_,mL hl,bl (fun q1=>⟨_,lg hl,bl (fun q2=>⟨⟨g2,af⟩,_,lk i g2 af,aJ,⟨i+1,_,f⟩,⟨g1,bd,bd,bd,by rw[hv,wG,bG q1,bG q2];rfl⟩,aV,P1,bd⟩) (fun q2=>⟨⟨i,n,1000⟩,⟨g1,g2,g3,bd,by rw[hv,wG,bG q1,bK q2];rfl⟩,aV,P1⟩)⟩) (fun q1=>⟨⟨i,n,1000⟩,⟨g1,g2,g3,bd,by rw[hv,wG,bK q1];rfl⟩,aV,P1⟩)⟩
 intro d0 js0 RH;refine⟨⟨d0,RH,aV,P1⟩,?_⟩;rintro⟨i,n,f⟩ js ⟨g1,g2,g3,g4,hv⟩;dsimp only at g1 g2 g3 g4 hv⊢;obtain⟨f,rfl⟩:∃k,f=k+1:=⟨f-1,af⟩;refine⟨_,mL hl,bl (fun q1=>⟨aJ,⟨i+1,_,f⟩,⟨g1,bd,bd,bd,by rw[hv,yE,bG q1];rfl⟩,aV,P1,bd⟩) (fun q1=>?_)⟩;have hv:nF d=yF d n:=by rw[hv,yE,bK q1];rfl
 refine⟨_,mL hl,apb,rfl,⟨b,d,d.dp⟩,rfl,rfl,ii,ao,fun _ _=>aG (fun q2=>fin _ (by rw[hv];unfold yF;rw[show qM d d.dp=true from q2];rfl)) (fun q2=>fin _ (by rw[hv];unfold yF;rw[show qM d d.dp=false from q2];rfl))⟩
theorem an4:aC 157 yG:=fo 56 Tryz.func157 (fun _ _=>[(1,3,iH 0),(6,4,iH 0),(6,11,iH 0),(8,1,aW),(8,7,bH 0),(8,8,aW),(8,9,aW),(8,10,aW),(9,4,iH 0),(11,1,aW),(12,4,iH 0),(12,5,bq tR),(13,1,aW)]) [] an3 an2 bz [] an5
end
end Go.Proofs.YtdkchodgklpomaaGreatDoor
