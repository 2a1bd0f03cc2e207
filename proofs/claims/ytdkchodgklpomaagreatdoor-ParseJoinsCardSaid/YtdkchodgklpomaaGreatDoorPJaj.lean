/- Part of the proof that ParseJoins answers true at every input. -/
import Derived.Test.YtdkchodgklpomaaGreatDoorPJai
set_option linter.all false
namespace Go.Proofs.YtdkchodgklpomaaGreatDoor
set_option maxRecDepth 100000
open Go.Value (int slice string bool pointer agg tuple func float iface nilIface)
open Go.IntKind (i64 u8 u64 i32 u32 u16 i8 i16)
open Go.FloatKind (f64)
open Go.Ending (returned panicked)
section
open Go
def Wf(k:Int):Bool:=decide (-k<=dV (0-oU k))&&decide (dV (0-oU k)<= -k+4)&&decide (-k<=dV (0-pa k))&&decide (dV (0-pa k)<= -k+5)&&decide (-347<0-oU k)&&decide (0-oU k<347)&&decide (-347<0-pa k)&&decide (0-pa k<347)
theorem aha:(List.range 2100).all (fun n=>Wf ((n:Int)-1100))=true:=by decide+kernel
theorem wM{k:Int}(a: -1100<=k)(b:k<1000):(-k<=dV (0-oU k)/\dV (0-oU k)<= -k+4)/\(-k<=dV (0-pa k)/\dV (0-pa k)<= -k+5)/\(-347<0-oU k/\0-oU k<347)/\ -347<0-pa k/\0-pa k<347:=by
 have h:=List.all_eq_true.1 aha (k+1100).toNat (List.mem_range.2 ae);rw[show(((k+1100).toNat:Nat):Int)-1100=k by omega]at h;simp only[Wf,gX,decide_eq_true_eq]at h;omega
structure qu where
 m:Nat
 e:Int
 tb:Nat->Nat
structure pB where
 lo:Nat
 hi:Nat
 od:Int
 p:Int
 b:Nat
def o_(k:Int):Int:=u64.wrap (1*2^min k.toNat u64.bits)
def vI(m:Nat)(z:Int):Int:=i64.wrap ((BitVec.ofInt i64.bits (i64.wrap ((m:Int).fdiv (2^min z.toNat u64.bits)))&&& BitVec.ofInt i64.bits 1).toNat:Int)
def fz(e:Int):Int:=bif decide (e>= -1085) then 63-52 else 63-52+(-1085-e)
def mq(m:Nat)(e:Int):Bool:=bif (m:Int)==9223372036854775808 then decide (e> -1085) else false
def gc(m:Nat)(e:Int):pB:=
 bif mq m e then ⟨(u64.wrap ((m:Int)-o_ (63-52-2))).toNat,(u64.wrap ((m:Int)+o_ (63-52-1))).toNat,vI m (63-52),0-pa (e+(63-52)),0⟩
 else ⟨(u64.wrap ((m:Int)-o_ (fz e-1))).toNat,(u64.wrap ((m:Int)+o_ (fz e-1))).toNat,vI m (fz e),0-oU (e+fz e),0⟩
def mZ(tb:Nat->Nat)(e:Int)(u:Nat)(p:Int):na:=⟨u,0,tb ((p+348).toNat*2),tb ((p+348).toNat*2+1),(-(e+dV p+3)).toNat⟩
def rl(tb:Nat->Nat)(e:Int)(d:pB):Int:=oN (tF ⟨iq (mZ tb e d.lo d.p),d.od⟩)
def o9(tb:Nat->Nat)(e:Int)(d:pB):Int:=tm (tF ⟨iq (mZ tb e d.hi d.p),i64.wrap (0-d.od)⟩)
def vJ(tb:Nat->Nat)(m:Nat)(e:Int)(d:pB):Int×Int:=
 bif decide (u64.wrap (u64.wrap ((o9 tb e d).tdiv 10)*10)>=rl tb e d) then (u64.wrap ((o9 tb e d).tdiv 10),i64.wrap (0-(d.p-1)))
 else bif decide (rl tb e d<o9 tb e d) then (ov (iq (mZ tb e m d.p)),i64.wrap (0-d.p)) else (rl tb e d,i64.wrap (0-d.p))
def rm(tb:Nat->Nat)(m:Nat)(e:Int):Int×Int:=vJ tb m e (gc m e)
structure S5 where
 d:Int
 p:Int
def vH:aR where
 X:=qu
 Y:=S5
 args x:=[az x.m,ad x.e]
 cond x:=(9223372036854775808<=x.m/\x.m<18446744073709551616)/\(-1137<=x.e/\x.e<=960)/\(∀i,x.tb i<18446744073709551616)
 aO x F:=∀i,i<1392->aQ F ⟨15,i,none⟩ (.int .u64 (x.tb i))
 b_ x y:=rm x.tb x.m x.e=(y.d,y.p)
 val _ y:=.returned (.tuple #[.int .u64 y.d,.int .i64 y.p])
 eT _ _ _ hs h:=fun i hi=>(h i hi).sub hs
def Ad(x:qu)(d:pB):Prop:=d.lo<18446744073709551616/\d.hi<18446744073709551616/\(-347<d.p/\d.p<347)/\(0<= -(x.e+dV d.p+3)/\ -(x.e+dV d.p+3)<64)/\rm x.tb x.m x.e=vJ x.tb x.m x.e d
def Ci(d:pB):Option Addr:=some ⟨d.b,0,none⟩
def ajR(x:qu)(F:ah):Nat->Option Inv:=fun
 |27=>some {X:=pB,P:=fun d=>Ad x d,mu:=fun _=>0,lv:=fun d=>[(0,az x.m),(1,ad x.e),(5,ad d.p),(8,az d.lo),(9,az d.hi),(10,ad d.od)],st:=fun _=>[F]}
 |29=>some {X:=pB,P:=fun d=>Ad x d,mu:=fun _=>0,lv:=fun d=>[(0,az x.m),(1,ad x.e),(5,ad d.p),(8,az d.lo),(9,az d.hi),(10,ad d.od),(12,ag (Ci d))],st:=fun d=>[F,af d.b [az (x.tb ((d.p+348).toNat*2)),az (x.tb ((d.p+348).toNat*2+1)),ad (-(x.e+dV d.p+3))] 178]}
 |_=>none
def It:=(-9223372036854775808:Int)<=(63:Int)-(52:Int)-(1:Int)/\(63:Int)-(52:Int)-(1:Int)<=(9223372036854775807:Int)
def Jz:List Value:=[az 1,ad ((63:Int)-(52:Int)-(1:Int))]
def LV(e0:qu)(e1:ah)(v0 v1 v2 v3:Value)(a:St):=∃(z:pB),Ad e0 z/\(az ↑e0.m=az ↑e0.m/\ad e0.e=ad e0.e/\v0=ad z.p/\v1=az ↑z.lo/\v2=az ↑z.hi/\v3=ad z.od/\True)/\aE a [(0,e1)]
def Q5(x:qu)(d:Int×Int):=az (bd (x.m-bd (d.fst*2^min d.snd.toNat u64.bits)))
def Q4(x:qu)(c:Int×Int):=az (bd (x.m+bd (c.fst*2^min c.snd.toNat u64.bits)))
def Ph(b:Int×Int):=ad (bV (↑(gY (bV (b.fst.fdiv ((2:Int)^min b.snd.toNat u64.bits)))&&& gY (1:Int)).toNat:Int))
def LW(aa:List Value)(a:mC->Unit->Prop):=aD 185 za/\true=true/\∃(z:mC),aa=[ad z.i]/\([]:List ah)=[]/\E8 z/\True/\∀(b:Unit),True->a z b
def OP(x:qu)(F:ah)(f:mC)(d c:Int×Int):Int×Int->Prop:=fun b=>LV x F (ad (bV ((0:Int)-oU f.i))) (Q5 x d) (Q4 x c) (Ph b) [(0,F)]
def PW(x:qu):=(-9223372036854775808:Int)<=(63:Int)-52+((-1085:Int)-x.e)-1/\(63:Int)-52+((-1085:Int)-x.e)-1<=(9223372036854775807:Int)
def OT(x:qu)(F:ah):=aS (x.e>=(-1085:Int)) (bK (x.e+((63:Int)-(52:Int)))/\LW [ad (x.e+((63:Int)-(52:Int)))] (fun f e=>It/\pC (a7 Tryz.f198 19 3) Jz (fun d=>It/\pC (a7 Tryz.f198 20 3) Jz (fun c=>uC (a7 Tryz.f198 21 2) [az ↑x.m,ad ((63:Int)-(52:Int))] (OP x F f d c))))) (bK ((-1085:Int)-x.e)/\bK ((63:Int)-52+((-1085:Int)-x.e))/\bK (x.e+((63:Int)-52+((-1085:Int)-x.e)))/\LW [ad (x.e+((63:Int)-52+((-1085:Int)-x.e)))] (fun f e=>PW x/\pC (a7 Tryz.f198 24 3) [az 1,ad ((63:Int)-52+((-1085:Int)-x.e)-1)] (fun d=>PW x/\pC (a7 Tryz.f198 25 3) [az 1,ad ((63:Int)-52+((-1085:Int)-x.e)-1)] (fun c=>uC (a7 Tryz.f198 26 2) [az ↑x.m,ad ((63:Int)-52+((-1085:Int)-x.e))] (OP x F f d c)))))
def xe(F:ah)(a:pB)(x:qu):=[(0,F),(1,af a.b [az (↑(x.tb ((a.p+348).toNat*2)):Int),az (↑(x.tb ((a.p+348).toNat*2+1)):Int),ad (-(x.e+dV a.p+3))] 178)]
def LX(aa:List Value)(a:C2->Unit->Prop):=aD 207 zg/\true=true/\∃(z:C2),aa=[az z.u,ad z.d]/\([]:List ah)=[]/\True/\True/\∀(b:Unit),True->a z b
theorem ajW(x:qu)(F:ah)(hc:vH.cond x)(W:vH.aO x F):((-9223372036854775808:Int)<=(63:Int)-(52:Int)/\(63:Int)-(52:Int)<=(9223372036854775807:Int))/\Br ((x.m:Int)==9223372036854775808) (aS (x.e>(-1085:Int)) (bK (x.e+((63:Int)-(52:Int)))/\aD 206 Cz/\true=true/\∃(f:mC),[ad (x.e+((63:Int)-(52:Int)))]=[ad f.i]/\([]:List ah)=[]/\E8 f/\True/\∀(e:Unit),True->((-9223372036854775808:Int)<=(63:Int)-(52:Int)-(2:Int)/\(63:Int)-(52:Int)-(2:Int)<=(9223372036854775807:Int))/\pC (a7 Tryz.f198 14 3) [az 1,ad ((63:Int)-(52:Int)-(2:Int))] (fun d=>It/\pC (a7 Tryz.f198 15 3) Jz (fun c=>uC (a7 Tryz.f198 16 2) [az ↑x.m,ad ((63:Int)-(52:Int))] (fun b=>LV x F (ad (bV ((0:Int)-pa f.i))) (Q5 x d) (Q4 x c) (Ph b) [(0,F)])))) (OT x F)) (OT x F)/\aT fun(u:pB)_=>Ad x u->∀(s:Nat),Gx [ad u.p] (fun e d=>Gy [ag (bI s),ad x.e,ad u.p,ad ((e.i*108853).fdiv ((2:Int)^min (Int.toNat (15:Int)) i64.bits))] [af s B7 178] (aH [(0,F),(5000,af s B7 178)] [5000]) (fun c b=>∃(a:pB),Ad x a/\(az ↑x.m=az ↑x.m/\ad x.e=ad x.e/\ad u.p=ad a.p/\az ↑u.lo=az ↑a.lo/\az ↑u.hi=az ↑a.hi/\ad u.od=ad a.od/\ag (bI s)=ag (Ci a)/\True)/\aE (Ei F c) (xe F a x)))/\aT fun(r:pB)_=>Ad x r->AQ [az ↑r.lo,ag (Ci r)] (aH (xe F r x) []) (fun p o=>LX [az (iq p),ad r.od] (fun n m=>aD 208 (iV oN)/\true=true/\∃(l:qw),[az (tF n)]=[az l.u]/\([]:List ah)=[]/\B8 l/\True/\∀(k:Unit),True->AQ [az ↑r.hi,ag (Ci r)] (aH (xe F r x) []) (fun j i=>LX [az (iq j),ad (bV ((0:Int)-r.od))] (fun h g=>aD 209 (iV tm)/\true=true/\∃(f:qw),[az (tF h)]=[az f.u]/\([]:List ah)=[]/\B8 f/\True/\∀(e:Unit),True->aS (bd (bd ((tm f.u).tdiv (10:Int))*10)>=oN l.u) (((-9223372036854775808:Int)<=r.p-1/\r.p-1<=(9223372036854775807:Int))/\ar vH x F (ay (tuple ⟨[az (bd ((tm f.u).tdiv (10:Int))),ad (bV ((0:Int)-(r.p-1)))]⟩)) (xe F r x)) (aS (oN l.u<tm f.u) (AQ [az ↑x.m,ag (Ci r)] (aH (xe F r x) []) (fun d c=>Gz [az (iq d)] (fun b a=>ar vH x F (ay (tuple ⟨[az (ov b.u),ad (bV ((0:Int)-r.p))]⟩)) (xe F r x)))) (ar vH x F (ay (tuple ⟨[az (oN l.u),ad (bV ((0:Int)-r.p))]⟩)) (xe F r x))))))):=by
 delta E8 pC It Jz uC LV Q5 Q4 Ph LW OP PW OT Gx Gy bI B7 Ci Ei xe xu AQ LX B8 Gz aH bK ad az ag af gY bd bV aS ay aT;obtain⟨m,e,tb⟩:=x;obtain⟨⟨Y,V⟩,⟨Z,h4⟩,D⟩:=hc;replace W:∀i,i<1392->aQ F ⟨15,i,none⟩ (.int .u64 (tb i)):=W;dsimp only at Y V Z h4 D⊢;have H:aE [(0,F)] [(0,F)]:=aA [0];have N:∀z:Int,u64.wrap z=(((u64.wrap z).toNat:Nat):Int)/\(u64.wrap z).toNat<18446744073709551616:=fun z=>by
  have:=gf z;omega
 have Q:mq m e=false->gc m e=⟨(u64.wrap ((m:Int)-o_ (fz e-1))).toNat,(u64.wrap ((m:Int)+o_ (fz e-1))).toNat,vI m (fz e),0-oU (e+fz e),0⟩:=fun t=>by
  unfold gc;grind
 have U:mq m e=true->gc m e=⟨(u64.wrap ((m:Int)-o_ (63-52-2))).toNat,(u64.wrap ((m:Int)+o_ (63-52-1))).toNat,vI m (63-52),0-pa (e+(63-52)),0⟩:=fun t=>by
  unfold gc;grind
 have P:mq m e=true->e> -1085:=fun t=>by
  unfold mq at t;grind
 have hz:11<=fz e/\fz e<=63/\ -1085<=e+fz e/\e+fz e<=971:=by
  unfold fz;by_cases q:e>= -1085
  all_goals grind
 have K:Ad ⟨m,e,tb⟩ (gc m e):=by
  cases t:mq m e with
  |true=>
   have he:e> -1085:=by
    simp[*]
   obtain⟨-,⟨a1,a2⟩,-,b1,b2⟩:=wM (k:=e+(63-52)) ae ae;refine⟨?_,?_,?_,?_,rfl⟩
   all_goals grind
  |false=>
   obtain⟨⟨a1,a2⟩,-,⟨b1,b2⟩,-⟩:=wM (k:=e+fz e) ae ae;refine⟨?_,?_,?_,?_,rfl⟩
   all_goals grind
 have M:∀z,fz e=z->mq m e=false->int .i64 (i64.wrap (0-oU (e+z)))= .int .i64 (gc m e).p/\int .u64 (u64.wrap ((m:Int)-u64.wrap (1*2^min (z-1).toNat u64.bits)))= .int .u64 ((gc m e).lo:Nat)/\int .u64 (u64.wrap ((m:Int)+u64.wrap (1*2^min (z-1).toNat u64.bits)))= .int .u64 ((gc m e).hi:Nat)/\int .i64 (vI m z)= .int .i64 (gc m e).od:=by
  rintro z rfl t;obtain⟨-,-,⟨b1,b2⟩,-⟩:=wM (k:=e+fz e) ae ae;rw[Q t];dsimp only;rw[<-(N _).1,<-(N _).1];exact⟨congrArg _ (dG (i:=.i64) (n:=0-oU (e+fz e)) aK),rfl,rfl,rfl⟩
 have te:mq m e=true->int .i64 (i64.wrap (0-pa (e+(63-52))))= .int .i64 (gc m e).p/\int .u64 (u64.wrap ((m:Int)-u64.wrap (1*2^min (63-52-2:Int).toNat u64.bits)))= .int .u64 ((gc m e).lo:Nat)/\int .u64 (u64.wrap ((m:Int)+u64.wrap (1*2^min (63-52-1:Int).toNat u64.bits)))= .int .u64 ((gc m e).hi:Nat)/\int .i64 (vI m (63-52))= .int .i64 (gc m e).od:=by
  intro t;have:=P t;obtain⟨-,-,-,b1,b2⟩:=wM (k:=e+(63-52)) ae ae;rw[U t];dsimp only;rw[<-(N _).1,<-(N _).1];exact⟨congrArg _ (dG (i:=.i64) (n:=0-pa (e+(63-52))) aK),rfl,rfl,rfl⟩
 refine⟨⟨by decide,by decide⟩,aG (fun q=>bo (fun q1=>?_) (fun q1=>bo (fun q2=>?_) (fun q2=>?_))) (fun q=>bo (fun q2=>?_) (fun q2=>?_)),?_⟩
 ·obtain⟨e1,A,B,C⟩:=te (by unfold mq;simp[*]);exact⟨aK,aj6,rfl,⟨e+(63-52)⟩,rfl,rfl,⟨by grind,by grind⟩,ao,fun _ _=>⟨⟨by decide,by decide⟩,nG rfl,(1,63-52-2),rfl,by decide,⟨by decide,by decide⟩,nG rfl,(1,63-52-1),rfl,by decide,xN rfl,(m,63-52),rfl,(show(0:Int)<=63-52 by decide),gc m e,K,⟨rfl,rfl,e1,A,B,C,ao⟩,H⟩⟩
 ·have t:mq m e=false:=by grind
  have y:fz e=63-52:=by unfold fz;simp[*]
  obtain⟨e1,A,B,C⟩:=M _ y t;exact⟨aK,Hu,rfl,⟨e+(63-52)⟩,rfl,rfl,⟨by grind,by grind⟩,ao,fun _ _=>⟨⟨by decide,by decide⟩,nG rfl,(1,63-52-1),rfl,by decide,⟨by decide,by decide⟩,nG rfl,(1,63-52-1),rfl,by decide,xN rfl,(m,63-52),rfl,(show(0:Int)<=63-52 by decide),gc m e,K,⟨rfl,rfl,e1,A,B,C,ao⟩,H⟩⟩
 ·have t:mq m e=false:=by grind
  have y:fz e=63-52+(-1085-e):=by unfold fz;simp[*]
  obtain⟨e1,A,B,C⟩:=M _ y t;exact⟨aK,aK,aK,Hu,rfl,⟨e+(63-52+(-1085-e))⟩,rfl,rfl,⟨by grind,by grind⟩,ao,fun _ _=>⟨aK,nG rfl,(1,63-52+(-1085-e)-1),rfl,ae,aK,nG rfl,(1,63-52+(-1085-e)-1),rfl,ae,xN rfl,(m,63-52+(-1085-e)),rfl,ae,gc m e,K,⟨rfl,rfl,e1,A,B,C,ao⟩,H⟩⟩
 ·have t:mq m e=false:=by unfold mq;simp[*]
  have y:fz e=63-52:=by unfold fz;simp[*]
  obtain⟨e1,A,B,C⟩:=M _ y t;exact⟨aK,Hu,rfl,⟨e+(63-52)⟩,rfl,rfl,⟨by grind,by grind⟩,ao,fun _ _=>⟨⟨by decide,by decide⟩,nG rfl,(1,63-52-1),rfl,by decide,⟨by decide,by decide⟩,nG rfl,(1,63-52-1),rfl,by decide,xN rfl,(m,63-52),rfl,(show(0:Int)<=63-52 by decide),gc m e,K,⟨rfl,rfl,e1,A,B,C,ao⟩,H⟩⟩
 ·have t:mq m e=false:=by grind
  have y:fz e=63-52+(-1085-e):=by unfold fz;simp[*]
  obtain⟨e1,A,B,C⟩:=M _ y t;exact⟨aK,aK,aK,Hu,rfl,⟨e+(63-52+(-1085-e))⟩,rfl,rfl,⟨by grind,by grind⟩,ao,fun _ _=>⟨aK,nG rfl,(1,63-52+(-1085-e)-1),rfl,ae,aK,nG rfl,(1,63-52+(-1085-e)-1),rfl,ae,xN rfl,(m,63-52+(-1085-e)),rfl,ae,gc m e,K,⟨rfl,rfl,e1,A,B,C,ao⟩,H⟩⟩
 rintro⟨lo,hi,od,p,X⟩ js ⟨g1,E,⟨g3,g4⟩,⟨I,J⟩,G⟩ b;dsimp only at g1 E g3 g4 I J G⊢;have lw:∀{S:St}{bG:List Nat},(0:Nat)∉bG->gt S 0=F->∀i,i<1392->aQ (.du (rest S bG)) ⟨15,i,none⟩ (.int .u64 (tb i)):=fun hj e i hi=>aQ.rest (j:=0) hj (by simp[*]);have L:∀c,rm tb m e=vJ tb m e ⟨lo,hi,od,p,c⟩:=fun c=>G;refine⟨bO Vr ⟨p⟩ ⟨by grind,by grind⟩ fun _ _=>⟨Wy,rfl,⟨b,_,_,_,e,p,dV p,tb⟩,rfl,rfl,⟨by grind,by grind,by grind,by grind,by grind,by grind⟩,lw aL rfl,fun _ _=>⟨⟨lo,hi,od,p,b⟩,⟨g1,E,⟨g3,g4⟩,⟨I,J⟩,L b⟩,aV,aA [0,5000]⟩⟩,?_⟩;clear L G g1 E g3 g4 I J lo hi od p X b;rintro⟨lo,hi,od,p,b⟩ js ⟨g1,E,⟨g3,g4⟩,⟨I,J⟩,G⟩;dsimp only at g1 E g3 g4 I J G⊢;have hs: -(e+dV p+3)=(((-(e+dV p+3)).toNat:Nat):Int):=ae;have R:aQ (.du (rest [(0,F),(1,.cells b [.int .u64 (tb ((p+348).toNat*2)),.int .u64 (tb ((p+348).toNat*2+1)),.int .i64 (-(e+dV p+3))] 178)] [])) ⟨b,0,none⟩ (.int .u64 (tb ((p+348).toNat*2):Nat))/\aQ (.du (rest [(0,F),(1,.cells b [.int .u64 (tb ((p+348).toNat*2)),.int .u64 (tb ((p+348).toNat*2+1)),.int .i64 (-(e+dV p+3))] 178)] [])) ⟨b,1,none⟩ (.int .u64 (tb ((p+348).toNat*2+1):Nat))/\aQ (.du (rest [(0,F),(1,.cells b [.int .u64 (tb ((p+348).toNat*2)),.int .u64 (tb ((p+348).toNat*2+1)),.int .i64 (-(e+dV p+3))] 178)] [])) ⟨b,2,none⟩ (.int .i64 ((-(e+dV p+3)).toNat:Nat)):=by
  rw[<-hs];exact⟨aQ.rest (j:=1) aL (aQ.cells rfl),aQ.rest (j:=1) aL (aQ.cells rfl),aQ.rest (j:=1) aL (aQ.cells rfl)⟩
 have O:∀u,iq ⟨u,b,tb ((p+348).toNat*2),tb ((p+348).toNat*2+1),(-(e+dV p+3)).toNat⟩=iq (mZ tb e u p):=fun _=>rfl;have fin:∀v w:Int,vJ tb m e ⟨lo,hi,od,p,b⟩=(v,w)->ar vH ⟨m,e,tb⟩ F (returned (tuple #[.int .u64 v,.int .i64 w])) [(0,F),(1,.cells b [.int .u64 (tb ((p+348).toNat*2)),.int .u64 (tb ((p+348).toNat*2+1)),.int .i64 (-(e+dV p+3))] 178)]:=fun v w h=>
  ⟨⟨v,w⟩,(show rm tb m e=(v,w) by rw[G,h]),rfl,aA [0]⟩
 have T:(-(e+dV p+3)).toNat<64:=ae;refine bs KV ⟨lo,b,tb ((p+348).toNat*2),tb ((p+348).toNat*2+1),(-(e+dV p+3)).toNat⟩ ⟨g1,D _,D _,T⟩ R fun _ _=>⟨VZ,rfl,⟨iq (mZ tb e lo p),od⟩,by rw[<-O lo],rfl,ao,ao,fun _ _=>bO abN ⟨tF ⟨iq (mZ tb e lo p),od⟩⟩ (gf _) fun _ _=>bs KV ⟨hi,b,tb ((p+348).toNat*2),tb ((p+348).toNat*2+1),(-(e+dV p+3)).toNat⟩ ⟨E,D _,D _,T⟩ R fun _ _=>⟨VZ,rfl,⟨iq (mZ tb e hi p),i64.wrap (0-od)⟩,by rw[<-O hi],rfl,ao,ao,fun _ _=>bO adv ⟨tF ⟨iq (mZ tb e hi p),i64.wrap (0-od)⟩⟩ (gf _) fun _ _=>?_⟩⟩;dsimp only;refine bo (fun q=>⟨aK,fin _ _ ?_⟩) (fun q=>bo (fun q2=>bs KV ⟨m,b,tb ((p+348).toNat*2),tb ((p+348).toNat*2+1),(-(e+dV p+3)).toNat⟩ ⟨V,D _,D _,T⟩ R fun _ _=>⟨WL,rfl,⟨iq (mZ tb e m p)⟩,by rw[<-O m],rfl,XE _,ao,fun _ _=>fin _ _ ?_⟩) (fun q2=>fin _ _ ?_))
 ·unfold vJ rl o9;grind
 ·unfold vJ rl o9;grind
 ·unfold vJ rl o9;grind
theorem ajU:aD 198 vH:=fo 133 Tryz.func198 (fun _ _=>[(13,3,aX Cz),(14,3,.qo (m5 .u64 .i64)),(14,4,aW),(15,3,.qo (m5 .u64 .i64)),(15,4,aW),(16,2,.qo (ud .u64 .i64)),(16,3,aW),(16,4,aW),(18,3,aX za),(20,3,.qo (m5 .u64 .i64)),(19,3,.qo (m5 .u64 .i64)),(19,4,aW),(20,4,aW),(21,2,.qo (ud .u64 .i64)),(21,3,aW),(21,4,aW),(23,3,aX za),(24,3,.qo (m5 .u64 .i64)),(24,4,aW),(25,3,.qo (m5 .u64 .i64)),(25,4,aW),(26,2,.qo (ud .u64 .i64)),(26,3,aW),(26,4,aW),(27,0,.n 5000),(28,3,aX zb),(28,4,.c zu [5000] [5000]),(29,1,aX sN),(29,3,aX zg),(29,4,aX (iV oN)),(30,1,aX sN),(30,4,aX zg),(30,5,aX (iV tm)),(31,1,aW),(32,1,aW),(36,1,aX sN),(36,2,aX (iV ov))]) [] aY ajR bA [] ajW
end
section
open Go
theorem Wl{n:Nat}(h:n<2305843009213693952)(w:Nat)(e:w<=1):(n:Int)<=u64.wrap ((BitVec.ofInt u64.bits (n:Int)|||BitVec.ofInt u64.bits (w:Int)).toNat:Int)/\u64.wrap ((BitVec.ofInt u64.bits (n:Int)|||BitVec.ofInt u64.bits (w:Int)).toNat:Int)<2305843009213693952:=by
 have b:(2:Nat)^64=18446744073709551616:=by decide
 have e1:(2:Nat)^61=2305843009213693952:=by decide
 have a:u64.bits=64:=rfl;rw[BitVec.ofInt_natCast,BitVec.ofInt_natCast,BitVec.toNat_or,BitVec.toNat_ofNat,BitVec.toNat_ofNat,a,Nat.mod_eq_of_lt (show n<2^64 by omega),Nat.mod_eq_of_lt (show w<2^64 by omega)];have c:n<=n|||w:=Nat.left_le_or;have d:n|||w<2^61:=Nat.or_lt_two_pow ae ae;rw[j9 ae];omega
theorem TB(z:Int):0<=((BitVec.ofInt u64.bits z&&& BitVec.ofInt u64.bits 1).toNat:Int)/\((BitVec.ofInt u64.bits z&&& BitVec.ofInt u64.bits 1).toNat:Int)<=1:=by
 rw[BitVec.toNat_and];have:(BitVec.ofInt u64.bits 1).toNat=1:=by decide
 grind
theorem W8(m:Nat)(z:Int):0<=vI m z/\vI m z<=1:=by
 unfold vI;have h:=TB (i64.wrap ((m:Int).fdiv (2^min z.toNat u64.bits)));have h:0<=((BitVec.ofInt i64.bits (i64.wrap ((m:Int).fdiv (2^min z.toNat u64.bits)))&&& BitVec.ofInt i64.bits 1).toNat:Int)/\((BitVec.ofInt i64.bits (i64.wrap ((m:Int).fdiv (2^min z.toNat u64.bits)))&&& BitVec.ofInt i64.bits 1).toNat:Int)<=1:=h;generalize ((BitVec.ofInt i64.bits (i64.wrap ((m:Int).fdiv (2^min z.toNat u64.bits)))&&& BitVec.ofInt i64.bits 1).toNat:Int)=w at h⊢;rw[dG (i:=.i64) (n:=w) aK];exact h
theorem XD{x:na}(j:x.u<18446744073709551616)(i:x.hi<18446744073709551616)(e:3<=x.s)(hs:x.s<=60){q:Nat}(o:q*2^x.s+1<=x.u*x.hi/18446744073709551616):(q:Int)<=iq x/\iq x<2305843009213693952:=by
 have h:x.u*x.hi/18446744073709551616<18446744073709551616:=by
  rw[Nat.div_lt_iff_lt_mul (by decide)];exact Nat.mul_lt_mul'' j i
 have hp:0<2^x.s:=Nat.pow_pos (by decide);have g:8<=2^x.s:=by
  have:2^3<=2^x.s:=nn (by decide) e;omega
 have a:min ((x.s:Int)).toNat u64.bits=x.s:=by
  rw[cy];exact Nat.min_eq_left (by show x.s<=64;omega)
 have f:∀k:Nat,(k:Int).fdiv (2^x.s)=((k/2^x.s:Nat):Int):=fun k=>by
  grind
 have small:∀k:Nat,k<18446744073709551616->k/2^x.s<2305843009213693952:=fun k hk=>by
  rw[Nat.div_lt_iff_lt_mul hp];omega
 have yK:∀k:Nat,q*2^x.s<=k->q<=k/2^x.s:=fun k hk=>(Nat.le_div_iff_mul_le hp).2 hk;have d:FF x=((x.u*x.hi/18446744073709551616:Nat):Int):=rfl;generalize x.u*x.hi/18446744073709551616=H at*;unfold iq;cases FG x with
 |true=>
  rw[aU];unfold XB;rw[a,d,f];have:=Wl (small H h) 1 (bZ 1);have b:=yK H ae;exact⟨Int.le_trans ae this.1,this.2⟩
 |false=>
  rw[aN];unfold XC;rw[a,d];have key:∀c w:Nat,c<=1->w<=1->(q:Int)<=u64.wrap ((BitVec.ofInt u64.bits ((u64.wrap ((H:Int)-(c:Int))).fdiv (2^x.s))|||BitVec.ofInt u64.bits (w:Int)).toNat:Int)/\u64.wrap ((BitVec.ofInt u64.bits ((u64.wrap ((H:Int)-(c:Int))).fdiv (2^x.s))|||BitVec.ofInt u64.bits (w:Int)).toNat:Int)<2305843009213693952:=fun c w m l=>by
   rw[show(H:Int)-(c:Int)=((H-c:Nat):Int) by omega,j9 (n:=H-c) ae,f];have:=Wl (small (H-c) ae) w l;have b:=yK (H-c) ae;exact⟨Int.le_trans ae this.1,this.2⟩
  cases decide (KT x<KU x) <;> cases decide (u64.wrap (KT x-KU x)>1)
  ·exact key 0 0 (by decide) (by decide)
  ·exact key 0 1 (by decide) (by decide)
  ·exact key 1 0 (by decide) (by decide)
  ·exact key 1 1 (by decide) (by decide)
variable{x:Int}
theorem abP{od:Int}(a:1<=x)(b:x<2305843009213693952)(c:0<=od)(d:od<=1):1<=oN (tF ⟨x,od⟩):=by
 unfold oN tF;dsimp only;rw[dG (i:=.u64) (n:=od) aK,dG (i:=.u64) (n:=x+od) aK,dG (i:=.u64) (n:=x+od+3) aK];rw[show min (Int.toNat 2) u64.bits=2 from rfl,ND];omega
theorem ajn(a:3<=x)(b:x<2305843009213693952):1<=ov x:=by
 unfold ov;have h:=TB (x.fdiv (2^min (Int.toNat 2) u64.bits));generalize ((BitVec.ofInt u64.bits (x.fdiv (2^min (Int.toNat 2) u64.bits))&&& BitVec.ofInt u64.bits 1).toNat:Int)=w at h⊢;rw[dG (i:=.u64) (n:=w) aK,dG (i:=.u64) (n:=x+1) aK,dG (i:=.u64) (n:=x+1+w) aK];rw[show min (Int.toNat 2) u64.bits=2 from rfl,ND];omega
theorem ajT{tb:Nat->Nat}{m:Nat}{e:Int}(u:9223372036854775808<=m)(w:m<18446744073709551616)(C: -1137<=e)(D:e<=960)(o:∀i,tb i<18446744073709551616)(hp:∀i,i<696->9223372036854775808<=tb (i*2)):1<=(rm tb m e).1:=by
 have F:11<=fz e/\fz e<=63/\ -1085<=e+fz e/\e+fz e<=971:=by
  unfold fz;by_cases q:e>= -1085
  all_goals grind
 have y:∀k:Int,0<=k->k<=62->0<=o_ k/\o_ k<=4611686018427387904:=fun k a b=>by
  obtain⟨n,rfl⟩:∃n:Nat,k=(n:Int):=⟨k.toNat,ae⟩;have e1:2^n<=2^62:=nn (by decide) ae;have B:(2:Nat)^62=4611686018427387904:=by decide
  unfold o_;rw[cy,show min n u64.bits=n from Nat.min_eq_left (by show n<=64;omega),show 1*(2:Int)^n=((2^n:Nat):Int) by simp[*],j9 ae];grind
 have g:∀k:Int,0<=k->k<=62->4611686018427387904<=(u64.wrap ((m:Int)-o_ k)).toNat/\(u64.wrap ((m:Int)-o_ k)).toNat<18446744073709551616:=fun k a b=>by
  have:=y k a b;rw[dG (i:=.u64) (n:=(m:Int)-o_ k) aK];omega
 have hd:(4611686018427387904<=(gc m e).lo/\(gc m e).lo<18446744073709551616)/\(0<=(gc m e).od/\(gc m e).od<=1)/\(-347<(gc m e).p/\(gc m e).p<347)/\3<= -(e+dV (gc m e).p+3)/\ -(e+dV (gc m e).p+3)<=60:=by
  unfold gc;cases z:mq m e with
  |true=>
   rw[aU];have E:e> -1085:=by
    unfold mq at z;grind
   obtain⟨-,⟨a1,a2⟩,-,b1,b2⟩:=wM (k:=e+(63-52)) ae ae;refine⟨g _ (by decide) (by decide),W8 _ _,⟨b1,b2⟩,?_⟩;grind
  |false=>
   rw[aN];obtain⟨⟨a1,a2⟩,-,⟨b1,b2⟩,-⟩:=wM (k:=e+fz e) ae ae;refine⟨g _ ae ae,W8 _ _,⟨b1,b2⟩,?_⟩;grind
 unfold rm;generalize gc m e=d at hd⊢;obtain⟨⟨l1,l2⟩,⟨o1,o2⟩,⟨G,H⟩,s1,s2⟩:=hd;have hs:(mZ tb e d.lo d.p).s=(-(e+dV d.p+3)).toNat:=rfl;have j:∀s:Nat,s<=60->2^s<=1152921504606846976:=fun s hs=>by
  have:2^s<=2^60:=nn (by decide) hs;omega
 have f:9223372036854775808<=tb ((d.p+348).toNat*2):=hp _ ae;have l:=XD (x:=mZ tb e d.lo d.p) l2 (o _) ae ae (q:=1) (by
  have a:=j (mZ tb e d.lo d.p).s ae;have b:4611686018427387904*9223372036854775808<=d.lo*tb ((d.p+348).toNat*2):=Nat.mul_le_mul l1 f;have c:2305843009213693952<=d.lo*tb ((d.p+348).toNat*2)/18446744073709551616:=(Nat.le_div_iff_mul_le (by decide)).2 (hO (by decide) b);show 1*2^(mZ tb e d.lo d.p).s+1<=d.lo*tb ((d.p+348).toNat*2)/18446744073709551616;omega)
 have p:=XD (x:=mZ tb e m d.p) w (o _) (by show 3<=(-(e+dV d.p+3)).toNat;omega) (by show(-(e+dV d.p+3)).toNat<=60;omega) (q:=3) (by
  have a:=j (mZ tb e m d.p).s (by show(-(e+dV d.p+3)).toNat<=60;omega);have b:9223372036854775808*9223372036854775808<=m*tb ((d.p+348).toNat*2):=Nat.mul_le_mul u f;have c:4611686018427387904<=m*tb ((d.p+348).toNat*2)/18446744073709551616:=(Nat.le_div_iff_mul_le (by decide)).2 (hO (by decide) b);show 3*2^(mZ tb e m d.p).s+1<=m*tb ((d.p+348).toNat*2)/18446744073709551616;omega)
 have r:1<=rl tb e d:=abP l.1 l.2 o1 o2;unfold vJ;by_cases q:u64.wrap (u64.wrap ((o9 tb e d).tdiv 10)*10)>=rl tb e d
 ·rw[bw q,aU];show 1<=u64.wrap ((o9 tb e d).tdiv 10);have A:=gf ((o9 tb e d).tdiv 10);generalize u64.wrap ((o9 tb e d).tdiv 10)=v at q A⊢;rcases Int.lt_or_le 0 v with h|h
  ·omega
  ·have t:v=0:=by omega
   rw[t,show u64.wrap (0*10)=0 by decide]at q;omega
 ·rw[bF q,aN];by_cases q2:rl tb e d<o9 tb e d
  ·rw[bw q2,aU];exact ajn p.1 p.2
  simp[*]
end
section
open Go
def ju(k:Nat):Nat×ByteArray:=((Pinned.cheatRows.getD k (0,[])).1,⟨(Pinned.cheatRows.getD k (0,[])).2.toArray⟩)
def ug(i:Nat):Nat:=bif i%2==0 then (Pinned.pow10Rows.getD (i/2) (9223372036854775808,0)).1 else (Pinned.pow10Rows.getD (i/2) (9223372036854775808,0)).2
def TZ(k:Nat):Bool:=(List.range (ju k).2.size).all (fun i=>decide (48<=aF (ju k).2 i)&&decide (aF (ju k).2 i<=57))&&decide (1<=(ju k).2.size)&&decide (aF (ju k).2 (((ju k).2.size-1:Nat):Int)≠48)&&decide (th (ju k).2=5^k)&&decide ((ju k).1+(ju k).2.size=k+1)&&decide (10^((ju k).2.size-1)<=5^k)&&decide (1<=(ju k).1)
theorem abQ:((List.range 61).all fun k=>k==0||TZ k)=true:=by decide+kernel
theorem abR:qq ju:=fun k i j=>by
 have h:=List.all_eq_true.1 abQ k (List.mem_range.2 ae);rw[show(k==0)=false by rw[ff];omega,Bool.false_or]at h;simp only[TZ,gX,decide_eq_true_eq,List.all_eq_true,List.mem_range]at h;obtain⟨⟨⟨⟨⟨⟨a,b⟩,c⟩,d⟩,e⟩,f⟩,g⟩:=h;exact⟨⟨a,b,c⟩,d,e,f,g⟩
theorem ajp:(Pinned.pow10Rows.all fun x=>decide (9223372036854775808<=x.1)&&decide (x.1<18446744073709551616)&&decide (x.2<18446744073709551616))=true:=by decide+kernel
theorem WM(i:Nat):(9223372036854775808<=(Pinned.pow10Rows.getD i (9223372036854775808,0)).1/\(Pinned.pow10Rows.getD i (9223372036854775808,0)).1<18446744073709551616)/\(Pinned.pow10Rows.getD i (9223372036854775808,0)).2<18446744073709551616:=by
 rw[ft];cases h:Pinned.pow10Rows[i]? with
 |none=>exact⟨⟨bZ _,by decide⟩,by decide⟩
 |some x=>
  have:=List.all_eq_true.1 ajp x (nk h);simp only[gX,decide_eq_true_eq]at this;exact this
theorem Sy(i:Nat):ug i<18446744073709551616:=by
 unfold ug;have h:=WM (i/2);cases i%2==0
 ·exact h.2
 ·exact h.1.2
theorem Xl(i:Nat):9223372036854775808<=ug (i*2):=by
 unfold ug;rw[show(i*2%2==0)=true by rw[beq_iff_eq];omega];exact(WM (i*2/2)).1.1
end
section
open Go
structure CW where
 f:Nat
def pP(f:Nat):Bool:=cG .gtr f 9218868437227405311
def Ho:aR where
 X:=CW
 args x:=[float f64 x.f,ad 1]
 val x _:=ay (aj (pP x.f))
theorem aeS(x:CW)(F:ah)(b:Ho.cond x)(c:Ho.aO x F):GA (a7 Tryz.f137 5 1) [float f64 x.f,float f64 9218868437227405311] (fun a=>ar Ho x F (ay (aj (cG BinOp.gtr a.fst a.snd))) [(0,F)]):=by
 delta qV GA aj ay;exact⟨nZ (.inr (.inr (.inl rfl))) rfl,(x.f,9218868437227405311),rfl,ao,(),ao,rfl,aA [0]⟩
theorem aeR:aD 137 Ho:=fo 15 Tryz.func137 (fun _ _=>[(5,1,.qo (nj .gtr))]) [] aY aY bA [] aeS
end
section
open Go
theorem Y2{b o:Nat}{vs:List Value}{t:TypeId}{fr:Nat×Nat}{v:Value}(h:vs[o]?=some v):aQ (.hZ b (.cells ⟨vs⟩ t fr)) ⟨b,o,none⟩ v:=⟨fun I h' c _ a=>by
 rw[Nk a.2];exact h⟩
structure S4 where
 b:Nat
 c:Nat
def ld(s:ByteArray)(c:Nat):Array Value:=bytesRow s c
def Kw(e:TypeId):aR where
 X:=fe
 Y:=S4
 args x:=[ai x.s]
 b_ x y:=x.s.size<=y.c
 val x y:=ay (au (some ⟨y.b,0,none⟩) x.s.size y.c)
 post x y:=[.hZ y.b (.cells (ld x.s y.c) e ((ld x.s y.c).size,(ld x.s y.c).size+1))]
theorem ajD{P:Program}{o:Oper}{src dst e:TypeId}{x:Operand}(f:o.op= .convert src dst x)(hs:P.underlying src=some .string)(hd:P.underlying dst=some (.slice e))(h:P.underlying e=some (.int .u8)):e_ P o (Kw e):=by
 refine⟨fun y F I w ρ d j k c=>?_⟩;obtain⟨s⟩:=y;simp only[f,Op.operands,Kw]at d;have b:ρ x= .string s:=by simpa using d
 have a:=run_bytes_of_string w src dst e s hs hd h;refine⟨⟨w.heap.size,grownCap w s.size 0 e⟩,I,w.drew.alloc (.cells (bytesRow s (grownCap w s.size 0 e)) e ((bytesRow s (grownCap w s.size 0 e)).size,(bytesRow s (grownCap w s.size 0 e)).size+1)),.slice (some ⟨w.heap.size,0,none⟩) s.size (grownCap w s.size 0 e),grownCap_ge w s.size 0 e,.inl ?_,rfl,a8.le_refl I,?_,?_⟩
 ·simp only[execOp,f,b];show((convert src dst (.string s))>>=fun v=>(pure (Next.value v):Sem Next)).run P w=_;rw[Sem.run_bind,a];rfl
 ·have g:Sat I (bC [F]) w:=c;have:=(g.heap (w':=w.drew) rfl).new 1 (.cells (bytesRow s (grownCap w s.size 0 e)) e ((bytesRow s (grownCap w s.size 0 e)).size,(bytesRow s (grownCap w s.size 0 e)).size+1));have i:mkAtom w.drew.heap.size (.cells (bytesRow s (grownCap w s.size 0 e)) e ((bytesRow s (grownCap w s.size 0 e)).size,(bytesRow s (grownCap w s.size 0 e)).size+1))= .hZ w.heap.size (.cells (bytesRow s (grownCap w s.size 0 e)) e ((bytesRow s (grownCap w s.size 0 e)).size,(bytesRow s (grownCap w s.size 0 e)).size+1)):=by
   generalize (bytesRow s (grownCap w s.size 0 e)).size=n;cases n <;> rfl
  rw[i]at this;exact Sat.pick [1,0] rfl rfl this
 ·exact al
end
section
open Go
def lu(t:ByteArray):Nat->Int
 |0=>0
 |i+1=>lu t i*10+(aF t i-48)
structure uv(s:ByteArray):Prop where
 lo:2<=s.size
 hi:s.size<=9
 sg:aF s 0=43\/aF s 0=45
 gV:∀i:Nat,i<(s.extract 1 s.size).size->48<=aF (s.extract 1 s.size) i/\aF (s.extract 1 s.size) i<=57
def lX(s:ByteArray):Int:=bif aF s 0==45 then 0-lu (s.extract 1 s.size) (s.size-1) else lu (s.extract 1 s.size) (s.size-1)
def pF:aR where
 X:=bL
 args x:=[ai x.s]
 cond x:=uv x.s
 val x _:=.returned (.tuple #[.int .i64 (lX x.s),.nilIface])
structure vX where
 i:Nat
 b:Nat
 c:Nat
def aaW(x:bL)(F:ah)(d:vX):List ah:=[F,.hZ d.b (.cells (ld (x.s.extract 1 x.s.size) d.c) 5 ((ld (x.s.extract 1 x.s.size) d.c).size,(ld (x.s.extract 1 x.s.size) d.c).size+1))]
def Cf(d:vX):Option Addr:=some ⟨d.b,0,none⟩
def aaK(x:bL)(F:ah):Nat->Option Inv:=fun
 |0=>some {X:=vX,P:=fun d=>d.i<=(x.s.extract 1 x.s.size).size/\(x.s.extract 1 x.s.size).size<=d.c,mu:=fun d=>10-d.i,lv:=fun d=>[(5,ai x.s),(6,ad (lu (x.s.extract 1 x.s.size) d.i)),(47,(au (Cf d) (x.s.extract 1 x.s.size).size d.c)),(48,(ad (x.s.extract 1 x.s.size).size)),(49,ad d.i)],st:=fun d=>aaW x F d}
 |_=>none
def aaJ(x:bL)(F:ah):Nat->Option Inv:=fun
 |8=>some {X:=Unit,P:=fun _=>True,mu:=fun _=>0,lv:=fun _=>[(0,ai (x.s.extract 1 x.s.size)),(5,ai x.s)],st:=fun _=>[F]}
 |_=>none
theorem ajF{s:ByteArray}{c i:Nat}(h:i<s.size):(ld s c).toList[i]?=some (.int .u8 (aF s i)):=by
 have e1:(ld s c).toList[i]?=(ld s c)[i]?:=Array.getElem?_toList;have hs:i<s.data.size:=h;rw[e1];unfold ld bytesRow;rw[Array.getElem?_append_left (by rw[Array.size_map];exact hs),Array.getElem?_map,Array.getElem?_eq_getElem hs];unfold aF;rw[cy,ft,Array.getElem?_toList,Array.getElem?_eq_getElem hs];rfl
def Rm:=ay (tuple ⟨[ad 0,fu 128 (ad 2)]⟩)
def LZ(e0:ah)(e1:bL)(v0:Value)(a:St):=∃(z:Unit),True/\(v0=ai (e1.s.extract 1 e1.s.size)/\ai e1.s=ai e1.s/\True)/\aE a [(0,e0)]
def OV(x:bL)(F:ah):=wR x/\aS ((↑(x.s.extract (Int.toNat (1:Int)) (x.s.size:Int).toNat).size:Int)<1) (ar pF x F Rm [(0,F)]) (LZ F x (wT x) [(0,F)])
def I9(a:vX)(x:bL):=a.i<=(x.s.extract 1 x.s.size).size/\(x.s.extract 1 x.s.size).size<=a.c
def zV(F:ah)(a:vX)(x:bL):=[(0,F),(1,qI a.b (Obj.cells (ld (x.s.extract 1 x.s.size) a.c) 5 ((ld (x.s.extract 1 x.s.size) a.c).size,(ld (x.s.extract 1 x.s.size) a.c).size+1)))]
theorem aaM(x:bL)(F:ah)(r:pF.cond x)(A:pF.aO x F):aS (0<(x.s.size:Int)) (aS ((x.s.size:Int)<19) ((qR x/\Br (tU x) (OV x F) (qR x/\Br (vk x) (OV x F) (LZ F x (ai x.s) [(0,F)])))/\aT fun(i:Unit)_=>True->e_ Tryz.prog (a7 Tryz.f163 9 1) (Kw (5:TypeId))/\true=true/\∃(g:fe),[ai (x.s.extract 1 x.s.size)]=[ai g.s]/\([]:List ah)=[]/\True/\True/\∀(f:S4),g.s.size<=f.c->(∃(a:vX),I9 a x/\(ai x.s=ai x.s/\ad 0=ad (lu (x.s.extract 1 x.s.size) a.i)/\au (some ⟨f.b,0,none⟩) g.s.size f.c=au (Cf a) (x.s.extract 1 x.s.size).size a.c/\ad ↑g.s.size=ad (↑(x.s.extract 1 x.s.size).size:Int)/\ad 0=ad ↑a.i/\True)/\aE [(0,F),(5000,qI f.b (Obj.cells (ld g.s f.c) 5 ((ld g.s f.c).size,(ld g.s f.c).size+1)))] (zV F a x))/\aT fun(e:vX)_=>I9 e x->aS ((e.i:Int)<(↑(x.s.extract 1 x.s.size).size:Int)) (i6 (a7 Tryz.f163 11 0) [au (Cf e) (x.s.extract 1 x.s.size).size e.c,ad ↑e.i] (fun c=>iZ (qI e.b (Obj.cells (ld (x.s.extract 1 x.s.size) e.c) 5 ((ld (x.s.extract 1 x.s.size) e.c).size,(ld (x.s.extract 1 x.s.size) e.c).size+1))) ⟨c.b,c.o+c.n.toNat*1,none⟩ (fun b=>aS (u8.wrap (b-48)>9) (ar pF x F Rm (zV F e x)) (((-9223372036854775808:Int)<=lu (x.s.extract 1 x.s.size) e.i*10/\lu (x.s.extract 1 x.s.size) e.i*10<=(9223372036854775807:Int))/\bK (u8.wrap (b-48))/\bK (lu (x.s.extract 1 x.s.size) e.i*10+u8.wrap (b-48))/\((-9223372036854775808:Int)<=(e.i:Int)+1/\(e.i:Int)+1<=(9223372036854775807:Int))/\∃(a:vX),I9 a x/\(ai x.s=ai x.s/\ad (lu (x.s.extract 1 x.s.size) e.i*10+u8.wrap (b-48))=ad (lu (x.s.extract 1 x.s.size) a.i)/\au (Cf e) (x.s.extract 1 x.s.size).size e.c=au (Cf a) (x.s.extract 1 x.s.size).size a.c/\ad (↑(x.s.extract 1 x.s.size).size:Int)=ad (↑(x.s.extract 1 x.s.size).size:Int)/\ad ((e.i:Int)+1)=ad ↑a.i/\True)/\aE (zV F e x) (zV F a x)/\10-a.i<10-e.i)))) (qR x/\Br (tU x) (ar pF x F (ay (tuple ⟨[ad (bV ((0:Int)-lu (x.s.extract 1 x.s.size) e.i)),nilIface]⟩)) (zV F e x)) (ar pF x F (ay (tuple ⟨[ad (lu (x.s.extract 1 x.s.size) e.i),nilIface]⟩)) (zV F e x)))) False) False:=by
 delta qR tU wR Rm LZ wT OV vk I9 Cf zV i6 iZ bK ad ba ai au fu qI bV aS ay aT;obtain⟨s⟩:=x;obtain⟨o,p,l,m⟩:=(r:uv s);dsimp only;generalize d:s.extract 1 s.size=t at*;have u:t.size=s.size-1:=by rw[<-d,hT];omega
 have j:aE [(0,F)] [(0,F)]:=aA [0];have hx:s.extract (Int.toNat 1) ((s.size:Nat):Int).toNat=t:=by rw[<-d];rfl
 rw[hx];have k9:∀i,i<=t.size->0<=lu t i/\lu t i<10^i:=by
  intro i
  induction i with
  |zero=>intro _;exact⟨cE 0,by show(0:Int)<10^0;decide⟩
  |succ i w=>
   intro hi;obtain⟨a,b⟩:=w ae;have:=m i ae;rw[lu,Int.pow_succ];omega
 dsimp only at o p l;refine bo (fun _=>bo (fun _=>⟨⟨⟨cE _,ae⟩,aG (fun q=>⟨⟨by decide,ae,cE _⟩,bo (fun q1=>absurd q1 ae) (fun _=>⟨(),ao,aV,j⟩)⟩) (fun q=>⟨⟨cE _,ae⟩,aG (fun q2=>⟨⟨by decide,ae,cE _⟩,bo (fun q1=>absurd q1 ae) (fun _=>⟨(),ao,aV,j⟩)⟩) (fun q2=>?_)⟩)⟩,?_⟩) (fun q=>(q ae).elim)) (fun q=>(q ae).elim)
 ·rcases l with h|h
  ·rw[h]at q2;exact absurd q2 (by decide)
  ·rw[h]at q;exact absurd q (by decide)
 rintro _ z-;refine l6 (ajD rfl rfl rfl rfl) ⟨t⟩ fun y v=>⟨⟨⟨0,y.b,y.c⟩,⟨dq _,v⟩,aV,aA [0,5000]⟩,?_⟩;rintro⟨i,b,c⟩ z ⟨g1,k⟩;dsimp only at g1 k⊢;obtain⟨B,C⟩:=k9 i g1;have D:(10:Int)^i<=100000000:=by
  have a:10^i<=10^8:=nn (by decide) ae;have b:(10:Int)^i=((10^i:Nat):Int):=by rw[Int.natCast_pow];rfl
  have e:(10:Nat)^8=100000000:=by decide
  omega
 refine bo (fun q=>⟨gG 1 rfl rfl rfl rfl,⟨b,0,t.size,c,i⟩,rfl,hS,aF t i,?_,?_⟩) (fun q=>?_)
 ·rw[show 0+((i:Nat):Int).toNat*1=i by omega];exact Y2 (vs:=(ld t c).toList) (ajF ae)
 ·have hd:=m i ae;rw[dG (i:=.u8) (n:=aF t i-48) aK];refine bo (fun q2=>absurd q2 ae) (fun _=>⟨aK,aK,aK,aK,⟨i+1,b,c⟩,⟨a_,k⟩,⟨rfl,rfl,rfl,rfl,?_,ao⟩,aA [0,1],a_⟩);exact congrArg _ a_
 ·have hi:i=s.size-1:=by omega
  subst hi;refine⟨⟨cE _,ae⟩,aG (fun q=>?_) (fun q=>?_)⟩
  ·refine⟨(),ao,?_,aA [0]⟩;show _=returned (.tuple #[.int .i64 (lX s),.nilIface]);unfold lX;rw[d,q,aU,dG (i:=.i64) (n:=0-lu t (s.size-1)) aK]
  ·refine⟨(),ao,?_,aA [0]⟩;show _=returned (.tuple #[.int .i64 (lX s),.nilIface]);unfold lX;rw[d,q,aN]
theorem aaL:aD 163 pF:=fo 77 Tryz.func163 (fun _ _=>[(9,1,.o (Kw 5) [] [5000]),(11,0,.qo (fJ 1)),(11,1,.q [.ex 1 (.int .u8)]),(12,1,aW),(13,1,aW)]) [(20,1,aW)] aaK aaJ bA [] aaM
theorem aaS(x:bL)(F:ah)(c:pF.cond x)(d:pF.aO x F):aD 163 pF/\true=true/\∃(b:bL),[ai x.s]=[ai b.s]/\([]:List ah)=[]/\uv b.s/\True/\∀(a:Unit),True->ar pF x F (ay (tuple ⟨[ad (lX b.s),nilIface]⟩)) [(0,F)]:=by
 delta ad ai ay;exact bO aaL ⟨x.s⟩ c fun _ _=>iS
theorem aaR:aD 140 pF:=fo 18 Tryz.func140 (fun _ _=>[(1,1,aX pF)]) [] aY aY bA [] aaS
end
end Go.Proofs.YtdkchodgklpomaaGreatDoor
namespace Go.Proofs
section
open Go.Shelf
def aan:Go.Shelf.Ren:=⟨fun|284=>172|129=>148|317=>185|318=>152|n=>n,fun|53=>64|3=>3|212=>214|0=>0|4=>4|46=>101|5=>5|9=>9|n=>n,fun|17=>17|n=>n⟩
theorem aam:Go.Proofs.LaysM.n284 Tryz.prog aan:={
 mixed:=by kernel_rfl
 f129:=Tryz.func148.trans (congrArg some (by kernel_rfl))
 f284:=Tryz.func172.trans (congrArg some (by kernel_rfl))
 f317:=Tryz.func185.trans (congrArg some (by kernel_rfl))
 f318:=Tryz.func152.trans (congrArg some (by kernel_rfl))
 t0:=Tryz.underlying0
 a0:=Tryz.isAgg0
 z0:=Tryz.sizeOf0
 v0:=Tryz.zeroValue0
 t3:=Tryz.underlying3
 a3:=Tryz.isAgg3
 z3:=Tryz.sizeOf3
 v3:=Tryz.zeroValue3
 t4:=Tryz.underlying4
 a4:=Tryz.isAgg4
 z4:=Tryz.sizeOf4
 v4:=Tryz.zeroValue4
 t5:=Tryz.underlying5
 a5:=Tryz.isAgg5
 z5:=Tryz.sizeOf5
 v5:=Tryz.zeroValue5
 t9:=Tryz.underlying9
 a9:=Tryz.isAgg9
 z9:=Tryz.sizeOf9
 v9:=Tryz.zeroValue9
 t46:=Tryz.underlying101
 a46:=Tryz.isAgg101
 z46:=Tryz.sizeOf101
 v46:=Tryz.zeroValue101
 t53:=Tryz.underlying64
 a53:=Tryz.isAgg64
 z53:=Tryz.sizeOf64
 v53:=Tryz.zeroValue64
 t212:=Tryz.underlying214
 a212:=Tryz.isAgg214
 z212:=Tryz.sizeOf214
 v212:=Tryz.zeroValue214
 g17:=by kernel_rfl
 i0:=by kernel_rfl
 i3:=by kernel_rfl
 i4:=by kernel_rfl
 i5:=by kernel_rfl
 i9:=by kernel_rfl
 i46:=by kernel_rfl
 i53:=by kernel_rfl
 i212:=by kernel_rfl
 m17:=by kernel_rfl}
open Go.Lib in
theorem Tryz.internal_strconv_numDigits(u:Nat)(b:1<=u)(c:u<18446744073709551616)(w:World)(a:Lib.TabIs Tryz.prog w "internal/strconv.uint64pow10" .u64 Lib.pow10Tab):
  Calls Tryz.prog 172 #[.int .u64 u] w fun e w'=>e= .returned (.int .i64 (Lib.nDigits u))/\w'=w:=Any.internal_strconv_numDigits aam u b c w a
def aaj:Go.Shelf.Ren:=⟨fun|285=>173|n=>n,fun|37=>93|53=>64|3=>3|4=>4|51=>115|9=>9|5=>5|0=>0|n=>n,fun|n=>n⟩
theorem aai:Go.Proofs.Lays.n285 Tryz.prog aaj:={
 mixed:=by kernel_rfl
 f285:=Tryz.func173.trans (congrArg some (by kernel_rfl))
 t0:=Tryz.underlying0
 a0:=Tryz.isAgg0
 z0:=Tryz.sizeOf0
 v0:=Tryz.zeroValue0
 t3:=Tryz.underlying3
 a3:=Tryz.isAgg3
 z3:=Tryz.sizeOf3
 v3:=Tryz.zeroValue3
 t4:=Tryz.underlying4
 a4:=Tryz.isAgg4
 z4:=Tryz.sizeOf4
 v4:=Tryz.zeroValue4
 t5:=Tryz.underlying5
 a5:=Tryz.isAgg5
 z5:=Tryz.sizeOf5
 v5:=Tryz.zeroValue5
 t9:=Tryz.underlying9
 a9:=Tryz.isAgg9
 z9:=Tryz.sizeOf9
 v9:=Tryz.zeroValue9
 t37:=Tryz.underlying93
 a37:=Tryz.isAgg93
 z37:=Tryz.sizeOf93
 v37:=Tryz.zeroValue93
 t51:=Tryz.underlying115
 a51:=Tryz.isAgg115
 z51:=Tryz.sizeOf115
 v51:=Tryz.zeroValue115
 t53:=Tryz.underlying64
 a53:=Tryz.isAgg64
 z53:=Tryz.sizeOf64
 v53:=Tryz.zeroValue64}
open Go.RowKit Go.Sort Go.Lib in
theorem Tryz.internal_strconv_formatBase10(fU off cap:Nat)(u:Nat)(d:Array UInt8)(w:World)(g:Holds (fun(b:UInt8)=>Value.int .u8 (b.toNat:Int)) w fU off d)(h:u<10^d.size)(a:u<18446744073709551616)(c:d.size<4611686018427387904):
  Calls Tryz.prog 173 #[.slice (some ⟨fU,off,none⟩) d.size cap,.int .u64 u] w fun e w'=>
   e= .returned (.tuple #[])/\∃(n i:Nat)(f:Array UInt8),w'=(putRow (fun(b:UInt8)=>Value.int .u8 (b.toNat:Int)) w fU off f).drewN n/\FmtInv d.size u 0 i f:=Any.internal_strconv_formatBase10 aai fU off cap u d w g h a c
def aal:Go.Shelf.Ren:=⟨fun|171=>120|243=>136|246=>159|283=>171|284=>172|285=>173|286=>174|129=>148|317=>185|318=>152|319=>186|320=>187|337=>202|338=>203|n=>n,fun|3=>3|9=>9|2=>2|4=>4|171=>199|0=>0|53=>64|37=>93|5=>5|173=>201|212=>214|51=>115|20=>20|213=>215|46=>101|232=>221|233=>236|n=>n,fun|17=>17|18=>18|19=>19|n=>n⟩
theorem aak:Go.Proofs.LaysM.n171 Tryz.prog aal:={
 mixed:=by kernel_rfl
 f129:=Tryz.func148.trans (congrArg some (by kernel_rfl))
 f171:=Tryz.func120.trans (congrArg some (by kernel_rfl))
 f243:=Tryz.func136.trans (congrArg some (by kernel_rfl))
 f246:=Tryz.func159.trans (congrArg some (by kernel_rfl))
 f283:=Tryz.func171.trans (congrArg some (by kernel_rfl))
 f284:=Tryz.func172.trans (congrArg some (by kernel_rfl))
 f285:=Tryz.func173.trans (congrArg some (by kernel_rfl))
 f286:=Tryz.func174.trans (congrArg some (by kernel_rfl))
 f317:=Tryz.func185.trans (congrArg some (by kernel_rfl))
 f318:=Tryz.func152.trans (congrArg some (by kernel_rfl))
 f319:=Tryz.func186.trans (congrArg some (by kernel_rfl))
 f320:=Tryz.func187.trans (congrArg some (by kernel_rfl))
 f337:=Tryz.func202.trans (congrArg some (by kernel_rfl))
 f338:=Tryz.func203.trans (congrArg some (by kernel_rfl))
 t0:=Tryz.underlying0
 a0:=Tryz.isAgg0
 z0:=Tryz.sizeOf0
 v0:=Tryz.zeroValue0
 t2:=Tryz.underlying2
 a2:=Tryz.isAgg2
 z2:=Tryz.sizeOf2
 v2:=Tryz.zeroValue2
 t3:=Tryz.underlying3
 a3:=Tryz.isAgg3
 z3:=Tryz.sizeOf3
 v3:=Tryz.zeroValue3
 t4:=Tryz.underlying4
 a4:=Tryz.isAgg4
 z4:=Tryz.sizeOf4
 v4:=Tryz.zeroValue4
 t5:=Tryz.underlying5
 a5:=Tryz.isAgg5
 z5:=Tryz.sizeOf5
 v5:=Tryz.zeroValue5
 t9:=Tryz.underlying9
 a9:=Tryz.isAgg9
 z9:=Tryz.sizeOf9
 v9:=Tryz.zeroValue9
 t20:=Tryz.underlying20
 a20:=Tryz.isAgg20
 z20:=Tryz.sizeOf20
 v20:=Tryz.zeroValue20
 t37:=Tryz.underlying93
 a37:=Tryz.isAgg93
 z37:=Tryz.sizeOf93
 v37:=Tryz.zeroValue93
 t46:=Tryz.underlying101
 a46:=Tryz.isAgg101
 z46:=Tryz.sizeOf101
 v46:=Tryz.zeroValue101
 t51:=Tryz.underlying115
 a51:=Tryz.isAgg115
 z51:=Tryz.sizeOf115
 v51:=Tryz.zeroValue115
 t53:=Tryz.underlying64
 a53:=Tryz.isAgg64
 z53:=Tryz.sizeOf64
 v53:=Tryz.zeroValue64
 t171:=Tryz.underlying199
 a171:=Tryz.isAgg199
 z171:=Tryz.sizeOf199
 v171:=Tryz.zeroValue199
 t173:=Tryz.underlying201
 a173:=Tryz.isAgg201
 z173:=Tryz.sizeOf201
 v173:=Tryz.zeroValue201
 t212:=Tryz.underlying214
 a212:=Tryz.isAgg214
 z212:=Tryz.sizeOf214
 v212:=Tryz.zeroValue214
 t213:=Tryz.underlying215
 a213:=Tryz.isAgg215
 z213:=Tryz.sizeOf215
 t232:=Tryz.underlying221
 a232:=Tryz.isAgg221
 z232:=Tryz.sizeOf221
 v232:=Tryz.zeroValue221
 t233:=Tryz.underlying236
 a233:=Tryz.isAgg236
 z233:=Tryz.sizeOf236
 v233:=Tryz.zeroValue236
 g17:=by kernel_rfl
 g18:=by kernel_rfl
 g19:=by kernel_rfl
 i0:=by kernel_rfl
 i2:=by kernel_rfl
 i3:=by kernel_rfl
 i4:=by kernel_rfl
 i5:=by kernel_rfl
 i9:=by kernel_rfl
 i20:=by kernel_rfl
 i37:=by kernel_rfl
 i46:=by kernel_rfl
 i51:=by kernel_rfl
 i53:=by kernel_rfl
 i171:=by kernel_rfl
 i173:=by kernel_rfl
 i212:=by kernel_rfl
 i232:=by kernel_rfl
 i233:=by kernel_rfl
 m17:=by kernel_rfl
 m18:=by kernel_rfl
 m19:=by kernel_rfl}
open Go.RowKit Go.Sort Go.Lib in
theorem Tryz.strconv_Itoa(n:Int)(b: -9223372036854775808<=n)(c:n<=9223372036854775807)(w:World)(a:Lib.TabIs Tryz.prog w "internal/strconv.uint64pow10" .u64 Lib.pow10Tab):
  Calls Tryz.prog 120 #[.int .i64 n] w fun e w'=>e= .returned (.string ⟨(Lib.itoa n).toArray⟩)/\∃k os,w'=grow (w.drewN k) os:=Any.strconv_Itoa aak n b c w a
def aaa:Go.Shelf.Ren:=⟨fun|145=>138|220=>161|219=>69|217=>79|225=>80|224=>81|267=>82|266=>93|314=>94|n=>n,fun|9=>9|4=>4|59=>168|3=>3|5=>5|46=>101|146=>116|51=>115|n=>n,fun|1=>4|n=>n⟩
theorem Z_:Go.Proofs.Lays.n145 Tryz.prog aaa:={
 mixed:=by kernel_rfl
 f145:=Tryz.func138.trans (congrArg some (by kernel_rfl))
 f217:=Tryz.func79.trans (congrArg some (by kernel_rfl))
 f219:=Tryz.func69.trans (congrArg some (by kernel_rfl))
 f220:=Tryz.func161.trans (congrArg some (by kernel_rfl))
 f224:=Tryz.func81.trans (congrArg some (by kernel_rfl))
 f225:=Tryz.func80.trans (congrArg some (by kernel_rfl))
 f266:=Tryz.func93.trans (congrArg some (by kernel_rfl))
 f267:=Tryz.func82.trans (congrArg some (by kernel_rfl))
 f314:=Tryz.func94.trans (congrArg some (by kernel_rfl))
 t3:=Tryz.underlying3
 a3:=Tryz.isAgg3
 z3:=Tryz.sizeOf3
 v3:=Tryz.zeroValue3
 t4:=Tryz.underlying4
 a4:=Tryz.isAgg4
 z4:=Tryz.sizeOf4
 v4:=Tryz.zeroValue4
 t5:=Tryz.underlying5
 a5:=Tryz.isAgg5
 z5:=Tryz.sizeOf5
 v5:=Tryz.zeroValue5
 t9:=Tryz.underlying9
 a9:=Tryz.isAgg9
 z9:=Tryz.sizeOf9
 v9:=Tryz.zeroValue9
 t46:=Tryz.underlying101
 a46:=Tryz.isAgg101
 z46:=Tryz.sizeOf101
 v46:=Tryz.zeroValue101
 t51:=Tryz.underlying115
 a51:=Tryz.isAgg115
 z51:=Tryz.sizeOf115
 v51:=Tryz.zeroValue115
 t59:=Tryz.underlying168
 a59:=Tryz.isAgg168
 z59:=Tryz.sizeOf168
 v59:=Tryz.zeroValue168
 t146:=Tryz.underlying116
 a146:=Tryz.isAgg116
 z146:=Tryz.sizeOf116
 v146:=Tryz.zeroValue116
 g1:=by kernel_rfl}
open Go.RowKit Go.Lib in
theorem Tryz.strings_Cut(s a:ByteArray)(m:Int)(w:World)(hs:s.size<4294967281)(b:w.cell? ⟨4,0,none⟩=some (.int .i64 m)):
  Calls Tryz.prog 138 #[.string s,.string a] w fun e w'=>e= .returned (.tuple #[.string ⟨(Lib.cut s.data.toList a.data.toList).1.toArray⟩,.string ⟨(Lib.cut s.data.toList a.data.toList).2.1.toArray⟩,.bool (Lib.cut s.data.toList a.data.toList).2.2])/\∃n,w'=w.drewN n:=Any.strings_Cut Z_ s a m w hs b
def Tx:Go.Shelf.Ren:=⟨fun|154=>142|138=>165|165=>166|143=>52|166=>76|197=>67|169=>74|195=>180|218=>181|240=>91|241=>182|219=>69|260=>78|276=>105|277=>201|217=>79|225=>80|224=>81|267=>82|266=>93|314=>94|n=>n,fun|9=>9|3=>3|4=>4|72=>95|0=>0|76=>98|105=>88|21=>21|5=>5|70=>92|20=>20|37=>93|75=>97|127=>108|164=>124|46=>101|119=>111|139=>114|138=>113|146=>116|51=>115|80=>74|n=>n,fun|1=>4|3=>5|4=>6|n=>n⟩
theorem aab:Go.Proofs.Lays.n154 Tryz.prog Tx:={
 mixed:=by kernel_rfl
 f138:=Tryz.func165.trans (congrArg some (by kernel_rfl))
 f143:=Tryz.func52.trans (congrArg some (by kernel_rfl))
 f154:=Tryz.func142.trans (congrArg some (by kernel_rfl))
 f165:=Tryz.func166.trans (congrArg some (by kernel_rfl))
 f166:=Tryz.func76.trans (congrArg some (by kernel_rfl))
 f169:=Tryz.func74.trans (congrArg some (by kernel_rfl))
 f195:=Tryz.func180.trans (congrArg some (by kernel_rfl))
 f197:=Tryz.func67.trans (congrArg some (by kernel_rfl))
 f217:=Tryz.func79.trans (congrArg some (by kernel_rfl))
 f218:=Tryz.func181.trans (congrArg some (by kernel_rfl))
 f219:=Tryz.func69.trans (congrArg some (by kernel_rfl))
 f224:=Tryz.func81.trans (congrArg some (by kernel_rfl))
 f225:=Tryz.func80.trans (congrArg some (by kernel_rfl))
 f240:=Tryz.func91.trans (congrArg some (by kernel_rfl))
 f241:=Tryz.func182.trans (congrArg some (by kernel_rfl))
 f260:=Tryz.func78.trans (congrArg some (by kernel_rfl))
 f266:=Tryz.func93.trans (congrArg some (by kernel_rfl))
 f267:=Tryz.func82.trans (congrArg some (by kernel_rfl))
 f276:=Tryz.func105.trans (congrArg some (by kernel_rfl))
 f277:=Tryz.func201.trans (congrArg some (by kernel_rfl))
 f314:=Tryz.func94.trans (congrArg some (by kernel_rfl))
 t0:=Tryz.underlying0
 a0:=Tryz.isAgg0
 z0:=Tryz.sizeOf0
 v0:=Tryz.zeroValue0
 t3:=Tryz.underlying3
 a3:=Tryz.isAgg3
 z3:=Tryz.sizeOf3
 v3:=Tryz.zeroValue3
 t4:=Tryz.underlying4
 a4:=Tryz.isAgg4
 z4:=Tryz.sizeOf4
 v4:=Tryz.zeroValue4
 t5:=Tryz.underlying5
 a5:=Tryz.isAgg5
 z5:=Tryz.sizeOf5
 v5:=Tryz.zeroValue5
 t9:=Tryz.underlying9
 a9:=Tryz.isAgg9
 z9:=Tryz.sizeOf9
 v9:=Tryz.zeroValue9
 t20:=Tryz.underlying20
 a20:=Tryz.isAgg20
 z20:=Tryz.sizeOf20
 v20:=Tryz.zeroValue20
 t21:=Tryz.underlying21
 a21:=Tryz.isAgg21
 z21:=Tryz.sizeOf21
 v21:=Tryz.zeroValue21
 t37:=Tryz.underlying93
 a37:=Tryz.isAgg93
 z37:=Tryz.sizeOf93
 v37:=Tryz.zeroValue93
 t46:=Tryz.underlying101
 a46:=Tryz.isAgg101
 z46:=Tryz.sizeOf101
 v46:=Tryz.zeroValue101
 t51:=Tryz.underlying115
 a51:=Tryz.isAgg115
 z51:=Tryz.sizeOf115
 v51:=Tryz.zeroValue115
 t70:=Tryz.underlying92
 a70:=Tryz.isAgg92
 z70:=Tryz.sizeOf92
 v70:=Tryz.zeroValue92
 t72:=Tryz.underlying95
 a72:=Tryz.isAgg95
 z72:=Tryz.sizeOf95
 v72:=Tryz.zeroValue95
 t75:=Tryz.underlying97
 a75:=Tryz.isAgg97
 z75:=Tryz.sizeOf97
 v75:=Tryz.zeroValue97
 t76:=Tryz.underlying98
 a76:=Tryz.isAgg98
 z76:=Tryz.sizeOf98
 v76:=Tryz.zeroValue98
 t105:=Tryz.underlying88
 a105:=Tryz.isAgg88
 z105:=Tryz.sizeOf88
 v105:=Tryz.zeroValue88
 t119:=Tryz.underlying111
 a119:=Tryz.isAgg111
 z119:=Tryz.sizeOf111
 t127:=Tryz.underlying108
 a127:=Tryz.isAgg108
 z127:=Tryz.sizeOf108
 v127:=Tryz.zeroValue108
 t138:=Tryz.underlying113
 a138:=Tryz.isAgg113
 z138:=Tryz.sizeOf113
 v138:=Tryz.zeroValue113
 t139:=Tryz.underlying114
 a139:=Tryz.isAgg114
 z139:=Tryz.sizeOf114
 v139:=Tryz.zeroValue114
 t146:=Tryz.underlying116
 a146:=Tryz.isAgg116
 z146:=Tryz.sizeOf116
 v146:=Tryz.zeroValue116
 t164:=Tryz.underlying124
 a164:=Tryz.isAgg124
 z164:=Tryz.sizeOf124
 v164:=Tryz.zeroValue124
 g1:=by kernel_rfl
 g3:=by kernel_rfl
 g4:=by kernel_rfl}
theorem Z1:Builder.Extra Tryz.prog Tx:={
 sizeBuilder:=by kernel_rfl
 liesBuilder:=by kernel_rfl
 t5:=Tryz.underlying5
 a5:=Tryz.isAgg5
 z5:=Tryz.sizeOf5
 v5:=Tryz.zeroValue5
 infoByte:=by kernel_rfl
 cellsByte:=by kernel_rfl
 sizeByte:=by kernel_rfl
 neB5:=by decide}
open Go.RowKit Go.Lib in
theorem Tryz.strings_Replace(s a new:ByteArray)(n:Int)(m:Int)(w:World)(hs:s.size<4294967281)(d:w.cell? ⟨4,0,none⟩=some (.int .i64 m))(c:1<=a.size)(b:s.size+Lib.countB s a*new.size<=140737488355328):
  Calls Tryz.prog 142 #[.string s,.string a,.string new,.int .i64 n] w fun e w'=>
   e= .returned (.string ⟨(Lib.replace s.data.toList a.data.toList new.data.toList n).toArray⟩)/\Below w.heap.size w w':=Any.strings_Replace aab Z1 s a new n m w hs d c b
end
end Go.Proofs
namespace Go.Proofs.YtdkchodgklpomaaGreatDoor
set_option maxRecDepth 100000
open Go.Value (int slice string bool pointer agg tuple func float iface nilIface)
open Go.IntKind (i64 u8 u64 i32 u32 u16 i8 i16)
open Go.FloatKind (f64)
open Go.Ending (returned panicked)
section
open Go
structure yC(F:ah)(b:Nat)(vs:List Value):Prop where
 h:∀I h o,CO I h->F.holds I h o->∃t fr,h b=some (.cells ⟨vs⟩ t fr)
variable{A B F:ah}{I:a8}{vs:List Value}{w:World}
theorem yC.sub{b:Nat}(h:yC A b vs)(hs:Sub A B):yC B b vs:=⟨fun I g o d c=>let ⟨e,a⟩:=hs I g o c;h.h I g e d a⟩
theorem yC.Fj{b:Nat}(h:yC F b vs)(hs:Sat I (bC [F]) w):∃t fr,w.heap[b]?=some (.cells ⟨vs⟩ t fr):=by
 obtain⟨f,a,-,-⟩:=hs.lH;exact h.h I (hp w) (f 0) hs.nr (a 0)
def OB:List Value:=Lib.pow10Tab.map fun z=>int .u64 z
structure i7(F:ah):Prop where
 Wm:yC F 17 OB
 mx:∃m,aQ F ⟨4,0,none⟩ (.int .i64 m)
theorem i7.sub(h:i7 A)(hs:Sub A B):i7 B:=⟨h.Wm.sub hs,let ⟨m,q⟩:=h.mx;⟨m,q.sub hs⟩⟩
theorem i7.FA(h:i7 F)(hs:Sat I (bC [F]) w):Lib.TabIs Tryz.prog w "internal/strconv.uint64pow10" .u64 Lib.pow10Tab:=by
 obtain⟨t,fr,e⟩:=h.Wm.Fj hs;unfold Lib.TabIs World.var?;rw[show Tryz.prog.globalNamed "internal/strconv.uint64pow10"=some 17 from bl];show(match w.heap[17]? with|some (.cells cs _ _)=>some cs|_=>none)=_;rw[e];rfl
structure Ty where
 u:Nat
def HD:aR where
 X:=Ty
 args x:=[az x.u]
 cond x:=1<=x.u/\x.u<18446744073709551616
 aO _ F:=i7 F
 val x _:=ay (ad (Lib.nDigits x.u))
theorem agI:aD 172 HD:=rK HD (fun _=>rfl) (fun _ _=>()) (fun _ _=>ao) (fun _ _=>rfl) fun x _ _ w a b hs=>
 (Go.Proofs.Tryz.internal_strconv_numDigits x.u a.1 a.2 w (i7.FA b hs)).mono fun e w' h=>⟨h.1,h.2▸RowKit.Below.refl _ _⟩
def DQ:aR where
 X:=mC
 args x:=[ad x.i]
 cond x:= -9223372036854775808<=x.i/\x.i<=9223372036854775807
 aO _ F:=i7 F
 val x _:=ay (ai ⟨(Lib.itoa x.i).toArray⟩)
theorem abe(w:World)(k:Nat):RowKit.Below w.heap.size w (w.drewN k):=⟨rfl,rfl,rfl,bZ _,fun _ _=>rfl⟩
theorem abf(w:World)(k:Nat)(os:Array Obj):RowKit.Below w.heap.size w (Sort.grow (w.drewN k) os):=by
 refine⟨rfl,rfl,rfl,?_,fun j a=>?_⟩
 ·show w.heap.size<=(w.heap++os).size;rw[Array.size_append];omega
 ·show(w.heap++os)[j]?=_;rw[Array.getElem?_append_left a]
theorem Vh:aD 120 DQ:=rK DQ (fun _=>rfl) (fun _ _=>()) (fun _ _=>ao) (fun _ _=>rfl) fun x _ _ w a b hs=>
 (Go.Proofs.Tryz.strconv_Itoa x.i a.1 a.2 w (i7.FA b hs)).mono fun e w' h=>⟨h.1,let ⟨k,os,e⟩:=h.2;e▸abf w k os⟩
structure FO where
 s:ByteArray
 t:ByteArray
def r9(s t:ByteArray):List UInt8×List UInt8×Bool:=Lib.cut s.data.toList t.data.toList
def Ug:aR where
 X:=FO
 args x:=[ai x.s,ai x.t]
 cond x:=x.s.size<4294967281
 aO _ F:=i7 F
 val x _:=.returned (.tuple #[.string ⟨(r9 x.s x.t).1.toArray⟩,.string ⟨(r9 x.s x.t).2.1.toArray⟩,.bool (r9 x.s x.t).2.2])
theorem ab9:aD 138 Ug:=rK Ug (fun _=>rfl) (fun _ _=>()) (fun _ _=>ao) (fun _ _=>rfl) fun x F _ w a c hs=>
 let ⟨m,b⟩:=i7.mx c
 (Go.Proofs.Tryz.strings_Cut x.s x.t m w a (hs.wF b)).mono fun e w' h=>⟨h.1,let ⟨k,e⟩:=h.2;e▸abe w k⟩
structure C8 where
 s:ByteArray
 t:ByteArray
 u:ByteArray
 n:Int
def Fg(x:C8):List UInt8:=Lib.replace x.s.data.toList x.t.data.toList x.u.data.toList x.n
def WO:aR where
 X:=C8
 args x:=[ai x.s,ai x.t,ai x.u,ad x.n]
 cond x:=x.s.size<4294967281/\1<=x.t.size/\x.s.size+Lib.countB x.s x.t*x.u.size<=140737488355328
 aO _ F:=i7 F
 val x _:=ay (ai ⟨(Fg x).toArray⟩)
theorem ajq:aD 142 WO:=rK WO (fun _=>rfl) (fun _ _=>()) (fun _ _=>ao) (fun _ _=>rfl) fun x F _ w a c hs=>
 let ⟨m,b⟩:=i7.mx c
 (Go.Proofs.Tryz.strings_Replace x.s x.t x.u x.n m w a.1 (hs.wF b) a.2.1 a.2.2).mono fun e w' h=>⟨h.1,h.2⟩
def r_(u n:Nat):List Nat:=(List.range n).map fun t=>48+u/10^(n-1-t)%10
def jQ(u n z:Nat):List Nat:=r_ u n++List.replicate (z-n) 0
structure SW where
 b:Nat
 z:Nat
 n:Nat
 cap:Nat
 u:Nat
 t:TypeId
def Ny:aR where
 X:=SW
 args x:=[au (some ⟨x.b,0,none⟩) x.n x.cap,az x.u]
 pre x:=[af x.b (bX (List.replicate x.z 0)) x.t]
 cond x:=x.n<=x.z/\x.u<10^x.n/\x.u<18446744073709551616/\x.n<4611686018427387904
 val _ _:=.returned (.tuple #[])
 post x _:=[af x.b (bX (jQ x.u x.n x.z)) x.t]
abbrev Nt:UInt8->Value:=fun b=>int .u8 (b.toNat:Int)
theorem acv(u j:Nat):(Lib.dg u j).toNat=48+u/10^j%10:=by
 unfold Lib.dg;have:u/10^j%10<10:=Nat.mod_lt _ (by decide);rw[UInt8.toNat_ofNat'];omega
theorem acX:aD 173 Ny:=by
 refine⟨fun x F I w E _ hs=>?_⟩;obtain⟨b,z,n,cap,u,t⟩:=x;obtain⟨C,v,y,A⟩:=(E:n<=z/\u<10^n/\u<18446744073709551616/\n<4611686018427387904);dsimp only at C v y A;have hs:Sat I (bC [.cells b (bX (List.replicate z 0)) t,F]) w:=hs;have m:w.heap[b]?=some (.cells ⟨bX (List.replicate z 0)⟩ t (0,0)):=hs.cells (j:=0) rfl;have h:(Array.replicate n (0:UInt8)).size=n:=Array.size_replicate;have D:Sort.Holds Nt w b 0 (Array.replicate n (0:UInt8)):=by
  intro j l;rw[h]at l;constructor
  ·unfold World.cell?;rw[m];have:(Array.replicate n (0:UInt8))[j]! =0:=by rw[getElem!_pos _ j (by rw[h];exact l),Array.getElem_replicate]
   rw[this];show(⟨bX (List.replicate z 0)⟩:Array Value)[0+j]?=_;rw[hU,<-Array.getElem?_toList];show(bX (List.replicate z 0))[j]?=_;unfold bX;rw[fV,List.getElem?_replicate,if_pos ae];rfl
  ·unfold World.frozen?;rw[m];simp
 have key:=Go.Proofs.Tryz.internal_strconv_formatBase10 b 0 cap u (Array.replicate n (0:UInt8)) w D (by rw[h];exact v) y (by rw[h];exact A);rw[h]at key;refine key.mono ?_;rintro e w' ⟨H,k,J,i,s,hi⟩;have G:i.size=n:=hi.size;have hd:∀j,j<n->i[j]! =Lib.dg u (n-1-j):=fun j l=>hi.done j (dq _) l;have d:Sort.putCells Nt 0 i ⟨bX (List.replicate z 0)⟩=⟨bX (jQ u n z)⟩:=by
  apply Array.ext_getElem?;intro j;unfold Sort.putCells;rw[Array.getElem?_mapIdx,<-Array.getElem?_toList,<-Array.getElem?_toList];show Option.map _ (bX (List.replicate z 0))[j]?=(bX (jQ u n z))[j]?;unfold bX jQ r_;rw[fV,fV,List.getElem?_replicate];by_cases f:j<n
  ·rw[if_pos ae,kq (by simpa using f),fV,List.getElem?_range f];simp only[Option.map_some];rw[if_pos ⟨dq _,ae⟩,Nat.sub_zero,hd j f];show some (int .u8 (((Lib.dg u (n-1-j)).toNat:Nat):Int))=_;rw[acv]
  ·rw[jb (by simp;omega),List.getElem?_replicate];simp only[List.length_map,List.length_range];by_cases g:j<z
   ·rw[if_pos g,if_pos ae];simp only[Option.map_some];rw[if_neg ae]
   ·rw[if_neg g,if_neg ae];rfl
 have B:∀c,w'.heap[c]?=if c=b then some (.cells ⟨bX (jQ u n z)⟩ t (0,0)) else w.heap[c]?:=by
  intro c;rw[s];show(w.heap.modify b _)[c]?=_;rw[Array.getElem?_modify];by_cases a:c=b
  ·subst a;rw[if_pos rfl,if_pos rfl,m];show some (Obj.cells (Sort.putCells Nt 0 i ⟨bX (List.replicate z 0)⟩) t (0,0))=_;rw[d]
  ·rw[if_neg (fun e=>a e.symm),if_neg a]
 have r:w'.heap.size=w.heap.size:=by
  rw[s];show(w.heap.modify b _).size=_;rw[Array.size_modify]
 have q:=hs.write (w':=w') (j:=0) (b:=b) (A':=.cells b (bX (jQ u n z)) t) (fun o p=>p.1) (fun c a=>by rw[B,if_neg a]) r (fun o p=>⟨p.1,by show w'.heap[b]?=_;rw[B,if_pos rfl]⟩);refine⟨(),I,ao,H,a8.le_refl I,q,?_⟩;rw[s];exact al
end
section
open Go
def jH(u n:Nat):Nat->Nat
 |0=>0
 |k+1=>bif (r_ u n).getD k 0==48 then jH u n k else k+1
theorem Xq(u n:Nat):∀k,jH u n k<=k
 |0=>bZ _
 |k+1=>by
  rw[jH];cases (r_ u n).getD k 0==48 with
  |true=>exact Nat.le_succ_of_le (Xq u n k)
  |false=>exact bZ _
theorem GY(u n:Nat):(r_ u n).length=n:=by simp[r_]
variable{z:Nat}{S:St}
theorem Uq{u n:Nat}(h:n<=z):(jQ u n z).length=z:=by
 unfold jQ;rw[dJ,GY,List.length_replicate];omega
theorem acC{u n k:Nat}(h:k<n):(bX (jQ u n z))[k]?=some (.int .u8 ((r_ u n).getD k 0:Nat)):=by
 unfold jQ;rw[KR,kq (by rw[CF,GY];exact h)];unfold bX;rw[fV,fg (by rw[GY];exact h),ft,fg (by rw[GY];exact h)];rfl
structure Du(vs:List Value):Prop where
 h:vs=bX (List.replicate 32 0)
structure uA where
 t:TypeId
 vs:List Value
 b:Nat
 u:Nat
 p:Int
 n:Nat
def sF(x:uA):Option Addr:=some ⟨x.b,0,none⟩
def JN(x:uA):=af x.b (bX (jQ x.u x.n 32)) x.t
def Aa:aR where
 X:=uA
 args x:=[au (sF x) 32 32,az x.u,ad x.p,ad x.n]
 pre x:=[af x.b x.vs x.t]
 cond x:=Du x.vs/\x.n<=20/\x.u<10^x.n/\x.u<18446744073709551616/\ -100000<=x.p/\x.p<=100000
 val x _:=.returned (.tuple #[.int .i64 (x.n+x.p),.int .i64 (jH x.u x.n x.n:Nat)])
 post x _:=[JN x]
def ajG(x:uA)(F:ah):Nat->Option Inv:=fun
 |0=>some {X:=Nat,P:=fun k=>k<=x.n/\jH x.u x.n x.n=jH x.u x.n k,mu:=fun k=>k,lv:=fun k=>[(0,au (sF x) 32 32),(3,ad k),(8,ad (x.n+x.p))],st:=fun _=>[JN x,F]}
 |_=>none
def J4(a:Nat)(x:uA):=a<=x.n/\jH x.u x.n x.n=jH x.u x.n a
def EC(x:uA)(F:ah):=[(0,af x.b (bX (jQ x.u x.n 32)) x.t),(1,F)]
def Qt(e:Nat):=(-9223372036854775808:Int)<=(e:Int)-(1:Int)/\(e:Int)-(1:Int)<=(9223372036854775807:Int)
def RI(x:uA)(F:ah)(e:Nat):=ar Aa x F (ay (tuple ⟨[ad (x.n+x.p),ad ↑e]⟩)) (EC x F)
theorem ajI(x:uA)(F:ah)(s:Aa.cond x)(w:Aa.aO x F):aS ((x.n:Int)<=(↑(32:Nat):Int)) (dR Tryz.prog (a7 Tryz.f194 2 2) Fo/\∃(h:S7),[au (sF x) 32 32,ad ↑x.n]=[au h.a h.n h.cap,ad h.h]/\(0<=h.h/\h.h<=h.cap)/\aD 173 Ny/\true=true/\∃(g:SW),[au h.a h.h.toNat h.cap,az ↑x.u]=[au (some ⟨g.b,0,none⟩) g.n g.cap,az ↑g.u]/\[af x.b x.vs x.t]=[af g.b (bX (List.replicate g.z 0)) g.t]/\(g.n<=g.z/\g.u<Nat.pow 10 g.n/\g.u<18446744073709551616/\g.n<4611686018427387904)/\True/\∀(f:Unit),True->bK (x.n+x.p)/\(∃(a:Nat),J4 a x/\(au (sF x) 32 32=au (sF x) 32 32/\ad ↑x.n=ad ↑a/\ad (x.n+x.p)=ad (x.n+x.p)/\True)/\aE [(0,af g.b (bX (jQ g.u g.n g.z)) g.t),(1,F)] (EC x F))/\aT fun(e:Nat)_=>J4 e x->aS ((e:Int)>(0:Int)) (Qt e/\i6 (a7 Tryz.f194 4 6) [au (sF x) 32 32,ad ((e:Int)-(1:Int))] (fun c=>iZ (JN x) ⟨c.b,c.o+c.n.toNat*1,none⟩ (fun b=>Br (b==48) (Qt e/\∃(a:Nat),J4 a x/\(au (sF x) 32 32=au (sF x) 32 32/\ad ((e:Int)-(1:Int))=ad ↑a/\ad (x.n+x.p)=ad (x.n+x.p)/\True)/\aE (EC x F) (EC x F)/\a<e) (RI x F e)))) (RI x F e)) (ar Aa x F (ay (tuple ⟨[ad 0,ad ↑x.n]⟩)) [(0,af x.b x.vs x.t),(1,F)]):=by
 delta sF J4 EC Qt i6 iZ JN RI bK ad ba az au af aS ay aT;obtain⟨t,vs,b,u,p,n⟩:=x;obtain⟨⟨i⟩,m,j,l,o,r⟩:=s;dsimp only at i m j l o r⊢;refine bo (fun _=>⟨aj_ rfl rfl rfl,⟨some ⟨b,0,none⟩,32,32,n⟩,rfl,⟨by simp[*],ae⟩,acX,rfl,⟨b,32,n,32,u,t⟩,rfl,by rw[i],⟨by grind,j,l,by grind⟩,ao,fun _ _=>⟨aK,⟨n,⟨bZ _,rfl⟩,aV,aA [0,1]⟩,?_⟩⟩) (fun q=>(q ae).elim);rintro k y ⟨v,d⟩;cases k with
 |zero=>exact bo (fun q=>absurd q ae) (fun _=>⟨(),ao,by show _=returned (.tuple #[.int .i64 (n+p),.int .i64 (jH u n n:Nat)]);rw[d];rfl,aA [0,1]⟩)
 |succ k=>
  have e1:(((k+1:Nat):Int)-1)=((k:Nat):Int):=ae;rw[e1];rw[jH]at d;refine bo (fun _=>⟨aK,gG 1 rfl rfl rfl rfl,⟨b,0,32,32,k⟩,rfl,⟨by simp[*],by grind⟩,(((r_ u n).getD k 0:Nat):Int),?_,?_⟩) (fun q=>absurd ae q)
  ·refine aQ.cells ?_;rw[show 0+((k:Nat):Int).toNat*1=k by omega];exact acC ae
  ·rw[show((((r_ u n).getD k 0:Nat):Int)==48)=((r_ u n).getD k 0==48) by grind];refine aG (fun q=>?_) (fun q=>?_)
   ·rw[q,aU]at d;exact⟨aK,k,⟨ae,d⟩,aV,aA [0,1],gZ _⟩
   ·rw[q,aN]at d;exact⟨(),ao,by show _=returned (.tuple #[.int .i64 (n+p),.int .i64 (jH u n n:Nat)]);rw[d],aA [0,1]⟩
theorem ajH:aD 194 Aa:=fo 36 Tryz.func194 (fun _ _=>[(2,2,.qo Fo),(2,4,bv Ny),(4,6,.qo (fJ 1)),(4,7,.q [.ex 0 (.int .u8)])]) [] ajG aY bA [] ajI
def eJ(neg:Bool):List Nat:=bif neg then [45] else []
def eB(ds:List Nat)(nd:Nat):Nat:=bif nd==0 then 48 else ds.getD 0 0
def gk(ds:List Nat)(nd:Nat):List Nat:=bif decide (nd>1) then 46::(ds.take nd).drop 1 else []
def eg(dp:Int)(nd:Nat):Int:=bif nd==0 then 0 else dp-1
def mH(e:Int):Nat:=bif decide (e<0) then 45 else 43
def mI(n:Nat):List Nat:=bif decide (n<10) then [48,n+48] else bif decide (n<100) then [n/10+48,n%10+48] else [n/100+48,n/10%10+48,n%10+48]
def qF(neg:Bool)(ds:List Nat)(dp:Int)(nd:Nat):List Nat:=eJ neg++[eB ds nd]++gk ds nd++[101]++[mH (eg dp nd)]++mI (eg dp nd).natAbs
structure kK where
 r:Row
 neg:Bool
 b:Nat
 ds:List Nat
 dp:Int
 nd:Nat
def mT(x:kK):Option Addr:=some ⟨x.b,0,none⟩
def y4:aR where
 X:=kK
 Y:=Row
 args x:=[au x.r.a x.r.n x.r.cap,aj x.neg,au (mT x) 32 32,ad x.dp,ad x.nd,ad (x.nd-1:Nat),ba 101,aj true]
 pre x:=[x.r.A]
 cond x:=bz 5 1 [] x.r/\x.ds.length=32/\x.nd<=20/\ -900<=x.dp/\x.dp<=900
 aO x F:=c_ F ⟨x.b,0,none⟩ (bX x.ds)
 b_ x y:=bz 5 1 (bX (qF x.neg x.ds x.dp x.nd)) y
 val _ y:=ay (au y.a y.n y.cap)
 post _ y:=[y.A]
structure fM where
 r:Row
 c:Nat
 e:Int
def ja(l:List Nat)(d:fM):Prop:=bz 5 1 (bX l) d.r
def ww(x:kK)(F:ah)(P:fM->Prop)(lv:fM->List (Nat×Value)):Option Inv:=some {X:=fM,P:=P,mu:=fun _=>0,lv:=fun d=>[(0,.slice d.r.a d.r.n d.r.cap),(2,.slice (some ⟨x.b,0,none⟩) 32 32),(3,.int .i64 x.dp),(4,.int .i64 x.nd),(5,.int .i64 (x.nd-1:Nat)),(6,.int .u8 101)]++lv d,st:=fun d=>[d.r.A,F]}
def adh(x:kK)(F:ah):Nat->Option Inv:=fun
 |22=>ww x F (fun d=>ja (eJ x.neg) d) (fun _=>[])
 |25=>ww x F (fun d=>ja (eJ x.neg) d/\d.c=eB x.ds x.nd) (fun d=>[(19,.int .u8 d.c)])
 |37=>ww x F (fun d=>ja (eJ x.neg++[eB x.ds x.nd]++gk x.ds x.nd) d) (fun _=>[])
 |41=>ww x F (fun d=>ja (eJ x.neg++[eB x.ds x.nd]++gk x.ds x.nd++[101]) d/\d.e=eg x.dp x.nd) (fun d=>[(22,.int .i64 d.e)])
 |45=>ww x F (fun d=>ja (eJ x.neg++[eB x.ds x.nd]++gk x.ds x.nd++[101]) d/\d.e=(eg x.dp x.nd).natAbs/\d.c=mH (eg x.dp x.nd)) (fun d=>[(19,.int .u8 d.c),(22,.int .i64 d.e)])
 |47=>ww x F (fun d=>ja (eJ x.neg++[eB x.ds x.nd]++gk x.ds x.nd++[101]++[mH (eg x.dp x.nd)]) d/\d.e=(eg x.dp x.nd).natAbs) (fun d=>[(22,.int .i64 d.e)])
 |51=>ww x F (fun d=>ja (qF x.neg x.ds x.dp x.nd) d) (fun _=>[])
 |_=>none
def adj(x:kK)(F:ah):Nat->Option Inv:=fun
 |1=>ww x F (fun d=>ja (eJ x.neg++[eB x.ds x.nd]++gk x.ds x.nd) d) (fun _=>[(113,.int .i64 0),(114,.int .i64 0)])
 |_=>none
theorem yH{o:Oper}{r:Row}{l m:List Nat}{a:Addr}{c:Nat}{K:pu->Row->Prop}(d:e_ Tryz.prog o (dm 5 1 1))(b:bz 5 1 (bX l) r)(hl:l.length<=1000)(h:m.length<=1000)(hs:c_ (.du (rest S [0])) a (bX m))(hk:∀y,bz 5 1 (bX (l++m)) y->K ⟨r,bX l,some a,m.length,c,bX m⟩ y):
  e_ Tryz.prog o (dm 5 1 1)/\true=true/\∃x:pu,[slice r.a r.n r.cap,slice (some a) m.length c]=[slice x.r.a x.r.n x.r.cap,slice x.a x.m x.c]/\[r.A]=[x.r.A]/\
  (bz 5 1 x.cs x.r/\x.ys.length=x.m*1/\(∀u∈x.ys,u.oneCell'=true)/\(x.r.n+x.m)*1<=140737488355328/\x.r.n+x.m<=9223372036854775807/\(x.a=none->x.m=0/\x.c=0))/\
  (∀a,x.a=some a->c_ (.du (rest S [0])) a x.ys)/\∀y:Row,(bz 5 1 (x.cs++x.ys) y/\y.n=x.r.n+x.m/\(x.m=0->y=x.r))->K x y:=by
 have hn:=b.len;rw[CF]at hn;refine bs d ⟨r,bX l,some a,m.length,c,bX m⟩ ⟨b,by dsimp only;rw[CF];omega,fun u f=>Sz f,by grind,by grind,fun e=>by cases e⟩ (fun g e=>by cases e;exact hs) fun y i=>hk y ?_;rw[KR];simp[*]
theorem xK{b j:Nat}{vs ys:List Value}{t:TypeId}(a:gt S j= .cells b vs t)(e:ys=vs)(hn:j∉[0]):c_ (.du (rest S [0])) ⟨b,0,none⟩ ys:=by
 subst e;exact c_.rest (j:=j) hn (by rw[a];exact c_.cells (fun i u hi=>by simp[*]))
theorem UL(neg:Bool)(ds:List Nat)(nd:Nat)(h:ds.length=32):(eJ neg).length<=1/\(gk ds nd).length<=32:=by
 constructor
 ·cases neg <;> decide
 ·unfold gk;cases decide (nd>1)with
  |false=>exact dq _
  |true=>
   rw[aU,qH,List.length_drop,List.length_take];omega
theorem adl{n:Nat}(h:n<=999):∀b∈mI n,48<=b/\b<=57:=by
 unfold mI;intro b a;by_cases c:n<10
 ·grind
 ·rw[bF c,aN]at a;by_cases d:n<100
  ·grind
  ·rw[bF d,aN]at a;simp only[List.mem_cons,List.not_mem_nil,or_false]at a;omega
def Kl(v0:Value)(z:fM)(e0:kK):=v0=au z.r.a z.r.n z.r.cap/\au (mT e0) 32 32=au (mT e0) 32 32/\ad e0.dp=ad e0.dp/\ad ↑e0.nd=ad ↑e0.nd/\ad (↑(e0.nd-1):Int)=ad (↑(e0.nd-1):Int)/\ba 101=ba 101/\True
def nE(z:fM)(e1:ah):=[(0,z.r.A),(1,e1)]
def L0(e0:kK)(e1:ah)(v0:Value)(a:St):=∃(z:fM),ja (eJ e0.neg) z/\Kl v0 z e0/\aE a (nE z e1)
def L1(e0:kK)(e1:ah)(v0 v1:Value)(a:St):=∃(z:fM),(ja (eJ e0.neg) z/\z.c=eB e0.ds e0.nd)/\(v0=au z.r.a z.r.n z.r.cap/\au (mT e0) 32 32=au (mT e0) 32 32/\ad e0.dp=ad e0.dp/\ad ↑e0.nd=ad ↑e0.nd/\ad (↑(e0.nd-1):Int)=ad (↑(e0.nd-1):Int)/\ba 101=ba 101/\v1=ba ↑z.c/\True)/\aE a (nE z e1)
def w6(v:fM):=au v.r.a v.r.n v.r.cap
def JW(t:fM)(r:Nat):List Value:=[au t.r.a t.r.n t.r.cap,au (bI r) 1 1]
def tR(p:Row)(h:Nat):List Value:=[au p.a p.n p.cap,au (bI h) 1 1]
def EA(p:Row)(F:ah)(r:Nat)(t:fM)(h:Nat):=[(0,p.A),(1,F),(9020,af r [ba ↑t.c] 5),(9030,af h [ba 46] 5)]
def IH(x:kK):=(-9223372036854775808:Int)<=(↑(x.nd-1):Int)+1/\(↑(x.nd-1):Int)+1<=(9223372036854775807:Int)
def L2(e0:kK)(e1:ah)(v0 v1:Value)(a:St):=∃(z:fM),ja (eJ e0.neg++[eB e0.ds e0.nd]++gk e0.ds e0.nd) z/\(v0=au z.r.a z.r.n z.r.cap/\au (mT e0) 32 32=au (mT e0) 32 32/\ad e0.dp=ad e0.dp/\ad ↑e0.nd=ad ↑e0.nd/\ad (↑(e0.nd-1):Int)=ad (↑(e0.nd-1):Int)/\ba 101=ba 101/\v1=ad 0/\ad 0=ad 0/\True)/\aE a (nE z e1)
def Gc(e0:kK)(e1:ah)(v0:Value)(a:St):=∃(z:fM),ja (eJ e0.neg++[eB e0.ds e0.nd]++gk e0.ds e0.nd) z/\Kl v0 z e0/\aE a (nE z e1)
def Ry(e0:kK)(z:fM):=ja (eJ e0.neg++[eB e0.ds e0.nd]++gk e0.ds e0.nd++[101]) z/\z.e=eg e0.dp e0.nd
def L3(e0:kK)(e1:ah)(v0 v1:Value)(a:St):=∃(z:fM),Ry e0 z/\(v0=au z.r.a z.r.n z.r.cap/\au (mT e0) 32 32=au (mT e0) 32 32/\ad e0.dp=ad e0.dp/\ad ↑e0.nd=ad ↑e0.nd/\ad (↑(e0.nd-1):Int)=ad (↑(e0.nd-1):Int)/\ba 101=ba 101/\v1=ad z.e/\True)/\aE a (nE z e1)
def Qe(e0:kK)(z:fM):=ja (eJ e0.neg++[eB e0.ds e0.nd]++gk e0.ds e0.nd++[101]) z/\z.e=(↑(eg e0.dp e0.nd).natAbs:Int)/\z.c=mH (eg e0.dp e0.nd)
def L4(e0:kK)(e1:ah)(v0 v1 v2:Value)(a:St):=∃(z:fM),Qe e0 z/\(v0=au z.r.a z.r.n z.r.cap/\au (mT e0) 32 32=au (mT e0) 32 32/\ad e0.dp=ad e0.dp/\ad ↑e0.nd=ad ↑e0.nd/\ad (↑(e0.nd-1):Int)=ad (↑(e0.nd-1):Int)/\ba 101=ba 101/\v1=ba ↑z.c/\v2=ad z.e/\True)/\aE a (nE z e1)
def Qa(x:kK)(a:fM):=ja (eJ x.neg++[eB x.ds x.nd]++gk x.ds x.nd++[101]++[mH (eg x.dp x.nd)]) a/\a.e=(↑(eg x.dp x.nd).natAbs:Int)
def Gd(e0:kK)(e1:ah)(v0:Value)(a:St):=∃(z:fM),ja (qF e0.neg e0.ds e0.dp e0.nd) z/\Kl v0 z e0/\aE a (nE z e1)
def Qn(f:fM):=(-9223372036854775808:Int)<=f.e.tdiv (10:Int)/\f.e.tdiv (10:Int)<=(9223372036854775807:Int)
def RR(f:fM):=0<=f.e.tdiv (10:Int)/\f.e.tdiv (10:Int)<=(255:Int)
def RS(f:fM):=0<=f.e.tmod (10:Int)/\f.e.tmod (10:Int)<=(255:Int)
def Q6(f:fM):=0<=f.e.tmod (10:Int)+(48:Int)/\f.e.tmod (10:Int)+(48:Int)<=(255:Int)
def Rd(f:fM):List Value:=[ba (f.e.tdiv (10:Int)+(48:Int)),ba (f.e.tmod (10:Int)+(48:Int))]
def PX(f:fM):List Value:=[ba (f.e.tdiv (100:Int)+(48:Int)),ba ((f.e.tdiv (10:Int)).tmod (10:Int)+(48:Int)),ba (f.e.tmod (10:Int)+(48:Int))]
theorem adn(x:kK)(F:ah)(U:y4.cond x)(E:y4.aO x F):Br x.neg (∀(d:Nat),T3 (a7 Tryz.f192 21 2) [au x.r.a x.r.n x.r.cap,au (bI d) 1 1] [x.r.A] (aH [(0,x.r.A),(1,F),(9010,af d [ba 45] 5)] [0]) (fun c b=>L0 x F (kZ b) [(0,b.A),(1,F),(9010,af d [ba 45] 5)])) (L0 x F (au x.r.a x.r.n x.r.cap) [(0,x.r.A),(1,F)])/\aT fun(v:fM)_=>ja (eJ x.neg) v->Br ((x.nd:Int)!=0) (i6 (a7 Tryz.f192 24 1) [au (mT x) 32 32,ad 0] (fun c=>iZ F ⟨c.b,c.o+c.n.toNat*1,none⟩ (fun b=>L1 x F (w6 v) (ba b) (nE v F)))) (L1 x F (w6 v) (ba 48) (nE v F))/\aT fun(t:fM)_=>(ja (eJ x.neg) t/\t.c=eB x.ds x.nd)->∀(r:Nat),T3 (a7 Tryz.f192 25 3) (JW t r) [t.r.A] (aH [(0,t.r.A),(1,F),(9020,af r [ba ↑t.c] 5)] [0]) (fun q p=>aS ((↑(x.nd-1):Int)>0) (∀(h:Nat),T3 (a7 Tryz.f192 27 2) (tR p h) [p.A] (aH (EA p F r t h) [0]) (fun g f=>IH x/\aS (1<if (↑(x.nd-1):Int)+1<(x.nd:Int) then (↑(x.nd-1):Int)+1 else (x.nd:Int)) (((0:Int)<=(1:Int)/\(1<=if (↑(x.nd-1):Int)+1<(x.nd:Int) then (↑(x.nd-1):Int)+1 else (x.nd:Int))/\(if (↑(x.nd-1):Int)+1<(x.nd:Int) then (↑(x.nd-1):Int)+1 else (x.nd:Int))<=(↑(32:Nat):Int)/\1<(↑(32:Nat):Int))/\T3 (a7 Tryz.f192 31 5) [au f.a f.n f.cap,au (some ⟨x.b,1,none⟩) ((if (↑(x.nd-1):Int)+1<(x.nd:Int) then (↑(x.nd-1):Int)+1 else (x.nd:Int)).toNat-1) 31] [f.A] (aH (EA f F r t h) [0]) (fun e d=>IH x/\(((-9223372036854775808:Int)<=(↑(x.nd-1):Int)+1-if (↑(x.nd-1):Int)+1<(x.nd:Int) then (↑(x.nd-1):Int)+1 else (x.nd:Int))/\((↑(x.nd-1):Int)+1-if (↑(x.nd-1):Int)+1<(x.nd:Int) then (↑(x.nd-1):Int)+1 else (x.nd:Int))<=9223372036854775807)/\L2 x F (kZ d) (ad ((↑(x.nd-1):Int)+1-if (↑(x.nd-1):Int)+1<(x.nd:Int) then (↑(x.nd-1):Int)+1 else (x.nd:Int))) (EA d F r t h)/\aT fun(c:fM)_=>ja (eJ x.neg++[eB x.ds x.nd]++gk x.ds x.nd) c->Gc x F (w6 c) (nE c F))) (IH x/\((-9223372036854775808:Int)<=(↑(x.nd-1):Int)+1-(1:Int)/\(↑(x.nd-1):Int)+1-(1:Int)<=(9223372036854775807:Int))/\L2 x F (kZ f) (ad ((↑(x.nd-1):Int)+1-(1:Int))) (EA f F r t h)/\aT fun(c:fM)_=>ja (eJ x.neg++[eB x.ds x.nd]++gk x.ds x.nd) c->Gc x F (w6 c) (nE c F)))) (Gc x F (kZ p) [(0,p.A),(1,F),(9020,af r [ba ↑t.c] 5)])/\aT fun(o:fM)_=>ja (eJ x.neg++[eB x.ds x.nd]++gk x.ds x.nd) o->∀(m:Nat),T3 (a7 Tryz.f192 37 3) (JW o m) [o.r.A] (aH [(0,o.r.A),(1,F),(9050,af m [ba 101] 5)] [0]) (fun l k=>((-9223372036854775808:Int)<=x.dp-1/\x.dp-1<=(9223372036854775807:Int))/\Br ((x.nd:Int)==0) (L3 x F (kZ k) (ad 0) [(0,k.A),(1,F),(9050,af m [ba 101] 5)]) (L3 x F (kZ k) (ad (x.dp-1)) [(0,k.A),(1,F),(9050,af m [ba 101] 5)])/\aT fun(j:fM)_=>Ry x j->aS (j.e<0) (L4 x F (w6 j) (ba 45) (ad (bV ((0:Int)-j.e))) (nE j F)) (L4 x F (w6 j) (ba 43) (ad j.e) (nE j F))/\aT fun(h:fM)_=>Qe x h->(∀(d:Nat),T3 (a7 Tryz.f192 45 3) (JW h d) [h.r.A] (aH [(0,h.r.A),(1,F),(9060,af d [ba ↑h.c] 5)] [0]) (fun c b=>∃(a:fM),Qa x a/\(au b.a b.n b.cap=au a.r.a a.r.n a.r.cap/\au (mT x) 32 32=au (mT x) 32 32/\ad x.dp=ad x.dp/\ad ↑x.nd=ad ↑x.nd/\ad (↑(x.nd-1):Int)=ad (↑(x.nd-1):Int)/\ba 101=ba 101/\ad h.e=ad a.e/\True)/\aE [(0,b.A),(1,F),(9060,af d [ba ↑h.c] 5)] (nE a F)))/\aT fun(f:fM)_=>Qa x f->aS (f.e<10) ((0<=f.e/\f.e<=255)/\(0<=f.e+48/\f.e+48<=(255:Int))/\∀(d:Nat),T3 (a7 Tryz.f192 48 5) [au f.r.a f.r.n f.r.cap,au (bI d) 2 2] [f.r.A] (aH [(0,f.r.A),(1,F),(9070,af d [ba 48,ba (f.e+48)] 5)] [0]) (fun c b=>Gd x F (kZ b) [(0,b.A),(1,F),(9070,af d [ba 48,ba (f.e+48)] 5)])) (aS (f.e<100) ((10:Int)≠(0:Int)/\Qn f/\RR f/\(0<=f.e.tdiv (10:Int)+(48:Int)/\f.e.tdiv (10:Int)+(48:Int)<=(255:Int))/\(10:Int)≠(0:Int)/\RS f/\Q6 f/\∀(d:Nat),T3 (a7 Tryz.f192 50 10) [au f.r.a f.r.n f.r.cap,au (bI d) 2 2] [f.r.A] (aH [(0,f.r.A),(1,F),(9080,af d (Rd f) 5)] [0]) (fun c b=>Gd x F (kZ b) [(0,b.A),(1,F),(9080,af d (Rd f) 5)])) ((100:Int)≠(0:Int)/\((-9223372036854775808:Int)<=f.e.tdiv (100:Int)/\f.e.tdiv (100:Int)<=(9223372036854775807:Int))/\(0<=f.e.tdiv (100:Int)/\f.e.tdiv (100:Int)<=(255:Int))/\(0<=f.e.tdiv (100:Int)+(48:Int)/\f.e.tdiv (100:Int)+(48:Int)<=(255:Int))/\(10:Int)≠(0:Int)/\Qn f/\RR f/\(10:Int)≠(0:Int)/\(0<=(f.e.tdiv (10:Int)).tmod (10:Int)+(48:Int)/\(f.e.tdiv (10:Int)).tmod (10:Int)+(48:Int)<=(255:Int))/\(10:Int)≠(0:Int)/\RS f/\Q6 f/\∀(d:Nat),T3 (a7 Tryz.f192 46 15) [au f.r.a f.r.n f.r.cap,au (bI d) 3 3] [f.r.A] (aH [(0,f.r.A),(1,F),(9090,af d (PX f) 5)] [0]) (fun c b=>Gd x F (kZ b) [(0,b.A),(1,F),(9090,af d (PX f) 5)])))/\aT fun(b:fM)_=>ja (qF x.neg x.ds x.dp x.nd) b->ar y4 x F (ay (w6 b)) (nE b F))):=by
 delta k7 T3 bI mT Kl nE L0 kZ i6 iZ L1 w6 JW tR EA IH L2 Gc Ry L3 Qe L4 Qa Gd Qn RR RS Q6 Rd PX aH ad ba au af bV aS ay aT;obtain⟨r0,neg,b,ds,dp,nd⟩:=x;obtain⟨C,J,Q,R,T⟩:=U;replace E:c_ F ⟨b,0,none⟩ (bX ds):=E;dsimp only at C J Q R T⊢;obtain⟨l1,l3⟩:=UL neg ds nd J;have hE:(eg dp nd).natAbs<=999:=by
  unfold eg;grind
 have G:∀k,k<32->(bX ds)[k]?=some (.int .u8 (ds.getD k 0:Nat)):=fun k hk=>by
  unfold bX;simp[*]
 refine⟨aG (fun q=>fun lb=>yH (l:=[]) (m:=[45]) (jN 1 1 rfl rfl rfl rfl rfl rfl rfl (by decide)) C (by decide) (by decide) (xK (j:=9010) rfl rfl (by decide)) fun y w=>⟨⟨y,0,0⟩,by rw[q];exact w,aV,aA [0,1]⟩) (fun q=>⟨⟨r0,0,0⟩,by rw[q];exact C,aV,aA [0,1]⟩),?_⟩;clear C;rintro⟨r,-,-⟩ A (s:bz 5 1 (bX (eJ neg)) r);refine⟨aG (fun q=>⟨gG 1 rfl rfl rfl rfl,⟨b,0,32,32,0⟩,rfl,⟨cE _,by simp[*]⟩,((ds.getD 0 0:Nat):Int),E 0 _ (G 0 (by decide)),⟨r,ds.getD 0 0,0⟩,⟨s,?_⟩,aV,aA [0,1]⟩) (fun q=>⟨⟨r,48,0⟩,⟨s,?_⟩,aV,aA [0,1]⟩),?_⟩
 ·show ds.getD 0 0=eB ds nd;unfold eB;grind
 ·show 48=eB ds nd;unfold eB;grind
 clear s r;rintro⟨r,c,e0⟩ A ⟨s,z⟩;replace s:bz 5 1 (bX (eJ neg)) r:=s;dsimp only at z;subst z;dsimp only;intro lb;refine yH (l:=eJ neg) (m:=[eB ds nd]) (jN 1 1 rfl rfl rfl rfl rfl rfl rfl (by decide)) s ae (by simp[*]) (xK (j:=9020) rfl rfl (by decide)) fun y w=>?_;refine⟨bo (fun q=>fun x0=>?_) (fun q=>⟨⟨y,0,0⟩,?_,aV,aA [0,1]⟩),?_⟩
 ·have Y:nd>1:=by omega
  have e1:(((nd-1:Nat):Int)+1)=(nd:Int):=ae;rw[e1];refine yH (l:=eJ neg++[eB ds nd]) (m:=[46]) (jN 1 1 rfl rfl rfl rfl rfl rfl rfl (by decide)) w (by grind) (by decide) (xK (j:=9030) rfl rfl (by decide)) fun y2 H=>?_;rw[if_neg (Int.lt_irrefl _)];have P:((nd:Int)-(nd:Int))=0:=ae;have B:((ds.take nd).drop 1).length=nd-1:=by grind
  have key:∀y3,bz 5 1 (bX (eJ neg++[eB ds nd]++[46]++(ds.take nd).drop 1)) y3->bz 5 1 (bX (eJ neg++[eB ds nd]++gk ds nd)) y3:=fun y3 h=>by
   unfold gk;grind
  refine⟨aK,bo (fun _=>⟨⟨by decide,ae,ae,by decide⟩,?_⟩) (fun q=>(q ae).elim)⟩;have O:((nd:Int).toNat-1)=((ds.take nd).drop 1).length:=ae;rw[O];refine yH (l:=eJ neg++[eB ds nd]++[46]) (m:=(ds.take nd).drop 1) (jN 1 1 rfl rfl rfl rfl rfl rfl rfl (by decide)) H (by grind) ae ?_ fun y3 I=>?_
  ·refine c_.rest (j:=1) (by decide) ?_;intro j u M;have W:j<nd-1:=by
    have:=(jq.1 M).1;rw[CF,B]at this;omega
   have:(bX ds)[1+j]?=some u:=by
    rw[<-M];unfold bX;grind
   have e:(⟨b,1,none⟩:Addr).add j=(⟨b,0,none⟩:Addr).add (1+j):=by simp[Addr.add]
   rw[e];exact E (1+j) u this
  ·rw[P];exact⟨aK,⟨by decide,by decide⟩,⟨⟨y3,0,0⟩,key y3 I,aV,aA [0,1]⟩,fun d A hd=>⟨d,hd,aV,aA [0,1]⟩⟩
 ·show bz 5 1 (bX (eJ neg++[eB ds nd]++gk ds nd)) y;unfold gk;grind
 clear s r;rintro⟨r,-,-⟩ A (s:bz 5 1 (bX (eJ neg++[eB ds nd]++gk ds nd)) r);intro lb;refine yH (l:=eJ neg++[eB ds nd]++gk ds nd) (m:=[101]) (jN 1 1 rfl rfl rfl rfl rfl rfl rfl (by decide)) s (by grind) (by decide) (xK (j:=9050) rfl rfl (by decide)) fun y w=>?_;refine⟨aK,aG (fun q=>⟨⟨y,0,0⟩,⟨w,?_⟩,aV,aA [0,1]⟩) (fun q=>⟨⟨y,0,dp-1⟩,⟨w,?_⟩,aV,aA [0,1]⟩),?_⟩
 ·show 0=eg dp nd;unfold eg;grind
 ·show dp-1=eg dp nd;unfold eg;grind
 clear w s r y;rintro⟨r,N,e⟩ A ⟨s,z⟩;replace s:bz 5 1 (bX (eJ neg++[eB ds nd]++gk ds nd++[101])) r:=s;dsimp only at z⊢;subst z;refine⟨bo (fun q=>⟨⟨r,45,((eg dp nd).natAbs:Nat)⟩,⟨s,rfl,?_⟩,⟨rfl,rfl,rfl,rfl,rfl,rfl,rfl,?_,ao⟩,aA [0,1]⟩) (fun q=>⟨⟨r,43,((eg dp nd).natAbs:Nat)⟩,⟨s,rfl,?_⟩,⟨rfl,rfl,rfl,rfl,rfl,rfl,rfl,?_,ao⟩,aA [0,1]⟩),?_⟩
 ·show 45=mH (eg dp nd);unfold mH;simp[*]
 ·rw[dG (i:=.i64) (n:=0-eg dp nd) aK];grind
 ·show 43=mH (eg dp nd);unfold mH;simp[*]
 ·grind
 clear s r;rintro⟨r,c,e⟩ A ⟨s,z,L⟩;replace s:bz 5 1 (bX (eJ neg++[eB ds nd]++gk ds nd++[101])) r:=s;dsimp only at z L⊢;subst z L;refine⟨fun lb=>?_,?_⟩
 ·refine yH (l:=eJ neg++[eB ds nd]++gk ds nd++[101]) (m:=[mH (eg dp nd)]) (jN 1 1 rfl rfl rfl rfl rfl rfl rfl (by decide)) s (by grind) (by simp[*]) (xK (j:=9060) rfl rfl (by decide)) fun y w=>?_;exact⟨⟨y,0,((eg dp nd).natAbs:Nat)⟩,⟨w,rfl⟩,aV,aA [0,1]⟩
 clear s r;rintro⟨r,N,e⟩ A ⟨s,z⟩;replace s:bz 5 1 (bX (eJ neg++[eB ds nd]++gk ds nd++[101]++[mH (eg dp nd)])) r:=s;dsimp only at z⊢;subst z;have fin:∀y,bz 5 1 (bX (eJ neg++[eB ds nd]++gk ds nd++[101]++[mH (eg dp nd)]++mI (eg dp nd).natAbs)) y->ja (qF neg ds dp nd) ⟨y,0,0⟩:=fun y h=>h;generalize V:(eg dp nd).natAbs=n at*;have t1:((n:Nat):Int).tdiv 10=((n/10:Nat):Int):=(Int.ofNat_tdiv n 10).symm;have t2:((n:Nat):Int).tmod 10=((n%10:Nat):Int):=(Int.ofNat_tmod n 10).symm;have t3:((n:Nat):Int).tdiv 100=((n/100:Nat):Int):=(Int.ofNat_tdiv n 100).symm;have t4:((n/10:Nat):Int).tmod 10=((n/10%10:Nat):Int):=(Int.ofNat_tmod (n/10) 10).symm;rw[t1,t2,t3,t4];have D:∀m:List Nat,mI n=m->m.length<=3->∀{o:Oper}{a:Addr}{c:Nat}{S:St}{K:pu->Row->Prop},e_ Tryz.prog o (dm 5 1 1)->c_ (.du (rest S [0])) a (bX m)->(∀y,ja (qF neg ds dp nd) ⟨y,0,0⟩->K ⟨r,bX (eJ neg++[eB ds nd]++gk ds nd++[101]++[mH (eg dp nd)]),some a,m.length,c,bX m⟩ y)->_:=fun m hm X o a c S K Z hs hk=>yH (l:=eJ neg++[eB ds nd]++gk ds nd++[101]++[mH (eg dp nd)]) (m:=m) (a:=a) (c:=c) (S:=S) (K:=K) Z s (by simp only[dJ,tq];omega) ae hs fun y w=>hk y (fin y (by grind));refine⟨bo (fun q=>⟨aK,aK,fun lb=>?_⟩) (fun q=>bo (fun q2=>⟨by decide,aK,aK,aK,by decide,aK,aK,fun lb=>?_⟩) (fun q2=>⟨by decide,aK,aK,aK,by decide,aK,aK,by decide,aK,by decide,aK,aK,fun lb=>?_⟩)),?_⟩
 ·refine D [48,n+48] (by unfold mI;rw[bw (show n<10 by omega),aU]) aL (jN 1 1 rfl rfl rfl rfl rfl rfl rfl (by decide)) (xK (j:=9070) rfl rfl (by decide)) fun y w=>⟨⟨y,0,0⟩,w,aV,aA [0,1]⟩
 ·refine D [n/10+48,n%10+48] (by unfold mI;rw[bF (show ¬n<10 by omega),bw (show n<100 by omega)];rfl) aL (jN 1 1 rfl rfl rfl rfl rfl rfl rfl (by decide)) (xK (j:=9080) rfl rfl (by decide)) fun y w=>⟨⟨y,0,0⟩,w,aV,aA [0,1]⟩
 ·refine D [n/100+48,n/10%10+48,n%10+48] (by unfold mI;rw[bF (show ¬n<10 by omega),bF (show ¬n<100 by omega)];rfl) aL (jN 1 1 rfl rfl rfl rfl rfl rfl rfl (by decide)) (xK (j:=9090) rfl rfl (by decide)) fun y w=>⟨⟨y,0,0⟩,w,aV,aA [0,1]⟩
 clear s fin D r;rintro⟨r,-,-⟩ A (s:bz 5 1 (bX (qF neg ds dp nd)) r);exact⟨r,s,rfl,aA [0,1]⟩
theorem adm:aD 192 y4:=fo 272 Tryz.func192 (fun _ _=>[(24,1,.qo (fJ 1)),(24,2,.q [.ex 1 (.int .u8)]),(21,1,.n 9010),(21,2,d3 (dm 5 1 1)),(25,2,.n 9020),(25,3,d3 (dm 5 1 1)),(27,1,.n 9030),(27,2,d3 (dm 5 1 1)),(31,5,d3 (dm 5 1 1)),(35,1,.n 9040),(35,2,d3 (dm 5 1 1)),(37,2,.n 9050),(37,3,d3 (dm 5 1 1)),(45,2,.n 9060),(45,3,d3 (dm 5 1 1)),(48,3,.ck),(48,4,.n 9070),(48,5,d3 (dm 5 1 1)),(50,4,.ck),(50,8,.ck),(50,9,.n 9080),(50,10,d3 (dm 5 1 1)),(46,4,.ck),(46,9,.ck),(46,8,.ck),(46,13,.ck),(46,14,.n 9090),(46,15,d3 (dm 5 1 1))]) [] adj adh bA [] adn
end
section
open Go
theorem UI{z k:Int}(a:0<=z)(b:z<18446744073709551616)(hk:1<=k):0<=z.fdiv k/\z.fdiv k<18446744073709551616:=by
 rw[Int.fdiv_eq_ediv_of_nonneg _ ae];exact⟨Int.ediv_nonneg a ae,Int.lt_of_le_of_lt (Int.ediv_le_self k a) b⟩
variable{e:Int}{a m n:Nat}{tb:Nat->Nat}
theorem ajS(b: -1137<=e)(c:e<=960): -347<(gc m e).p/\(gc m e).p<347:=by
 have f:11<=fz e/\fz e<=63/\ -1085<=e+fz e/\e+fz e<=971:=by
  unfold fz;by_cases q:e>= -1085
  all_goals grind
 unfold gc;cases a:mq m e with
 |true=>
  have d:e> -1085:=by
   unfold mq at a;grind
  rw[aU];exact(wM (k:=e+(63-52)) ae ae).2.2.2
 |false=>
  rw[aN];exact(wM (k:=e+fz e) ae ae).2.2.1
theorem ajV(a: -1137<=e)(b:e<=960):(rm tb m e).1<18446744073709551616/\ -400<=(rm tb m e).2/\(rm tb m e).2<=400:=by
 obtain⟨f,g⟩:=ajS (m:=m) a b;unfold rm vJ;generalize gc m e=d at f g⊢;have w1:i64.wrap (0-(d.p-1))=0-(d.p-1):=dG (i:=.i64) aK;have h:i64.wrap (0-d.p)=0-d.p:=dG (i:=.i64) aK;rw[w1,h];have c:∀u,oN u<18446744073709551616:=fun u=>by
  unfold oN;have:=gf (u+3);exact(UI this.1 ae (by decide)).2
 have r:∀u,ov u<18446744073709551616:=fun u=>by
  unfold ov;have:=gf (u64.wrap (u+1)+u64.wrap (↑(BitVec.ofInt u64.bits (u.fdiv (2^min (Int.toNat 2) u64.bits))&&& BitVec.ofInt u64.bits 1).toNat:Int));exact(UI this.1 ae (by decide)).2
 by_cases q:u64.wrap (u64.wrap ((o9 tb e d).tdiv 10)*10)>=rl tb e d
 ·rw[bw q,aU];have:=gf ((o9 tb e d).tdiv 10);omega
 ·rw[bF q,aN];by_cases q2:rl tb e d<o9 tb e d
  ·grind
  ·rw[bF q2,aN];dsimp only;have:=c (tF ⟨iq (mZ tb e d.lo d.p),d.od⟩);unfold rl;omega
theorem abq:∀(k x:Nat),x<18446744073709551616->Lib.bitLen x=k+1->2^k<=x/\x<2^(k+1):=by
 intro k
 induction k with
 |zero=>
  intro x hx h;have a:x≠0:=by intro e;subst e;exact absurd h (by decide)
  rw[Lib.bitLen_half x a hx]at h;by_cases b:x/2=0
  ·omega
  ·have:=Lib.bitLen_half (x/2) b ae;omega
 |succ k c=>
  intro x hx h;have a:x≠0:=by
   intro e;subst e;have:Lib.bitLen 0=0:=by rfl
   omega
  rw[Lib.bitLen_half x a hx]at h;grind
theorem TO{x:Nat}(d:x≠0)(hx:x<18446744073709551616):1<=Lib.bitLen x/\Lib.bitLen x<=64/\9223372036854775808<=x*2^(64-Lib.bitLen x)/\x*2^(64-Lib.bitLen x)<18446744073709551616:=by
 have e:Lib.bitLen x<=64:=Lib.bitLen_le x 64 ae ae;have f:=Lib.bitLen_half x d hx;obtain⟨k,hk⟩:∃k,Lib.bitLen x=k+1:=⟨Lib.bitLen (x/2),ae⟩;obtain⟨a,b⟩:=abq k x hx hk;rw[hk];have e1:2^k*2^(64-(k+1))=9223372036854775808:=by
  rw[<-Nat.pow_add,show k+(64-(k+1))=63 by omega]
 have c:2^(k+1)*2^(64-(k+1))=18446744073709551616:=by
  grind
 have p:0<2^(64-(k+1)):=Nat.pow_pos (by decide);refine⟨ae,ae,?_,?_⟩
 ·rw[<-e1];exact Nat.mul_le_mul_right _ a
 ·rw[<-c];exact Nat.mul_lt_mul_of_pos_right b p
def l7(n:Nat):Nat:=n/4503599627370496%2048
def n5(n:Nat):Nat:=n%4503599627370496
def np(n:Nat):Int:=(bif l7 n==0 then 1 else (l7 n:Int))+ -1023
def eY(n:Nat):Nat:=bif l7 n==0 then n5 n else n5 n+4503599627370496
def jr(n:Nat):Bool:=(n:Int).fdiv (2^min (Int.toNat (11+52)) u64.bits)!=0
structure oE(n:Nat):Prop where
 lo:0<n%9223372036854775808
 hi:n%9223372036854775808<9218868437227405312
theorem oE.Wp(h:oE n):l7 n<2047/\eY n≠0/\eY n<9007199254740992/\ -1022<=np n/\np n<=1023/\n5 n<4503599627370496:=by
 obtain⟨c,d⟩:=h;have hx:l7 n=n%9223372036854775808/4503599627370496:=by unfold l7;omega
 have e:n5 n=n%9223372036854775808%4503599627370496:=by unfold n5;omega
 have b:l7 n<2047:=ae;have a:n5 n<4503599627370496:=ae;unfold eY np;grind
theorem TC(x:Int)(k:Nat)(hk:k<=63):((BitVec.ofInt 64 x&&& BitVec.ofInt 64 ((2^k-1:Nat):Int)).toNat)=(x%18446744073709551616).toNat%2^k:=by
 have hp:2^k<=2^63:=nn (by decide) hk;have e:(2:Nat)^63=9223372036854775808:=by decide
 rw[BitVec.toNat_and,BitVec.toNat_ofInt,BitVec.toNat_ofInt,show((2^64:Nat):Int)=18446744073709551616 by decide];rw[show(((2^k-1:Nat):Int)%18446744073709551616).toNat=2^k-1 by omega,Nat.and_two_pow_sub_one_eq_mod]
theorem ahh(h:a<4503599627370496):((BitVec.ofInt 64 (a:Int)|||BitVec.ofInt 64 4503599627370496).toNat)=a+4503599627370496:=by
 rw[BitVec.toNat_or,BitVec.toNat_ofInt,BitVec.toNat_ofInt,show((2^64:Nat):Int)=18446744073709551616 by decide];rw[show((a:Int)%18446744073709551616).toNat=a by omega,show((4503599627370496:Int)%18446744073709551616).toNat=2^52*1 by decide,Nat.or_comm,<-Nat.two_pow_add_eq_or_of_lt (i:=52) ae];omega
theorem adH(z:Int):i64.wrap (↑(BitVec.ofInt i64.bits z&&& BitVec.ofInt i64.bits (i64.wrap (i64.wrap (1*2^min (Int.toNat 11) i64.bits)-1))).toNat:Int)=(((z%18446744073709551616).toNat%2048:Nat):Int):=by
 have e1:i64.wrap (i64.wrap (1*2^min (Int.toNat 11) i64.bits)-1)=((2^11-1:Nat):Int):=by decide
 have a:=TC z 11 (by decide);rw[e1];have b:(BitVec.ofInt i64.bits z&&& BitVec.ofInt i64.bits ((2^11-1:Nat):Int)).toNat=(z%18446744073709551616).toNat%2048:=a;rw[b];exact dG (i:=.i64) aK
theorem adI(m:Nat):((i64.wrap (m:Int))%18446744073709551616).toNat%2048=m%2048:=by
 rw[IntKind.wrap_i64];omega
theorem adF(n:Nat):(n:Int).fdiv (2^min (Int.toNat 52) u64.bits)=((n/4503599627370496:Nat):Int):=by
 rw[show min (Int.toNat 52) u64.bits=52 from rfl,Int.fdiv_eq_ediv_of_nonneg _ (by decide),show(2:Int)^52=4503599627370496 by decide];omega
theorem adG(n:Nat):i64.wrap (↑(BitVec.ofInt i64.bits (i64.wrap ((n:Int).fdiv (2^min (Int.toNat 52) u64.bits)))&&& BitVec.ofInt i64.bits (i64.wrap (i64.wrap (1*2^min (Int.toNat 11) i64.bits)-1))).toNat:Int)=(l7 n:Int):=by
 rw[adH,adF,adI];rfl
theorem adJ(n:Nat):u64.wrap (↑(BitVec.ofInt u64.bits (n:Int)&&& BitVec.ofInt u64.bits (u64.wrap (u64.wrap (1*2^min (Int.toNat 52) u64.bits)-1))).toNat:Int)=(n5 n:Int):=by
 have e1:u64.wrap (u64.wrap (1*2^min (Int.toNat 52) u64.bits)-1)=((2^52-1:Nat):Int):=by decide
 have a:=TC (n:Int) 52 (by decide);rw[e1];have b:(BitVec.ofInt u64.bits (n:Int)&&& BitVec.ofInt u64.bits ((2^52-1:Nat):Int)).toNat=n5 n:=by
  refine Eq.trans a ?_;unfold n5;omega
 rw[b];exact dG (i:=.u64) ⟨ae,by unfold n5;omega⟩
theorem adL(h:a<4503599627370496):u64.wrap (↑(BitVec.ofInt u64.bits (a:Int)|||BitVec.ofInt u64.bits (u64.wrap (1*2^min (Int.toNat 52) u64.bits))).toNat:Int)=((a+4503599627370496:Nat):Int):=by
 rw[show u64.wrap (1*2^min (Int.toNat 52) u64.bits)=4503599627370496 by decide];have:(BitVec.ofInt u64.bits (a:Int)|||BitVec.ofInt u64.bits 4503599627370496).toNat=a+4503599627370496:=ahh h;rw[this];exact dG (i:=.u64) aK
def qJ(tb:Nat->Nat)(n:Nat):Int×Int:=rm tb (eY n*2^(64-Lib.bitLen (eY n))) (np n-(64-Lib.bitLen (eY n):Int)-52)
def tt(tb:Nat->Nat)(n:Nat):List Nat:=
 let q:=qJ tb n
 qF (jr n) (jQ q.1.toNat (Lib.nDigits q.1.toNat) 32) (Lib.nDigits q.1.toNat+q.2) (jH q.1.toNat (Lib.nDigits q.1.toNat) (Lib.nDigits q.1.toNat))
theorem UU(c:∀i,tb i<18446744073709551616)(hp:∀i,i<696->9223372036854775808<=tb (i*2))(h:oE n):1<=(qJ tb n).1/\(qJ tb n).1<18446744073709551616/\ -400<=(qJ tb n).2/\(qJ tb n).2<=400:=by
 obtain⟨a1,a2,a3,a4,a5,d⟩:=h.Wp;obtain⟨b1,b2,b3,b4⟩:=TO a2 ae;have b5:Lib.bitLen (eY n)<=53:=Lib.bitLen_le _ 53 ae ae;have a: -1137<=np n-(64-Lib.bitLen (eY n):Int)-52:=ae;have b:np n-(64-Lib.bitLen (eY n):Int)-52<=960:=ae;have r:=ajV (tb:=tb) (m:=eY n*2^(64-Lib.bitLen (eY n))) a b;exact⟨ajT b3 b4 a b c hp,r.1,r.2.1,r.2.2⟩
end
end Go.Proofs.YtdkchodgklpomaaGreatDoor
