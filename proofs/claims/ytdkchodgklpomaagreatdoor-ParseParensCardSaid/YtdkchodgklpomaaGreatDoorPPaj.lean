/- Part of the proof that ParseParens answers true at every input. -/
import Derived.Test.YtdkchodgklpomaaGreatDoorPPai
set_option linter.all false
namespace Go.Proofs.YtdkchodgklpomaaGreatDoor
set_option maxRecDepth 100000
open Go.Value (int slice string bool pointer agg tuple func float iface nilIface)
open Go.IntKind (i64 u8 u64 i32 u32 u16 i8 i16)
open Go.FloatKind (f64)
open Go.Ending (returned panicked)
section
open Go
def VW(k:Int):Bool:=decide (-k<=dM (0-ox k))&&decide (dM (0-ox k)<= -k+4)&&decide (-k<=dM (0-oN k))&&decide (dM (0-oN k)<= -k+5)&&decide (-347<0-ox k)&&decide (0-ox k<347)&&decide (-347<0-oN k)&&decide (0-oN k<347)
theorem agK:(List.range 2100).all (fun n=>VW ((n:Int)-1100))=true:=by decide+kernel
theorem wh{k:Int}(a: -1100<=k)(b:k<1000):(-k<=dM (0-ox k)/\dM (0-ox k)<= -k+4)/\(-k<=dM (0-oN k)/\dM (0-oN k)<= -k+5)/\(-347<0-ox k/\0-ox k<347)/\ -347<0-oN k/\0-oN k<347:=by
 have h:=List.all_eq_true.1 agK (k+1100).toNat (List.mem_range.2 ae);rw[show(((k+1100).toNat:Nat):Int)-1100=k by omega]at h;simp only[VW,gx,decide_eq_true_eq]at h;omega
structure pZ where
 m:Nat
 e:Int
 tb:Nat->Nat
structure o7 where
 lo:Nat
 hi:Nat
 od:Int
 p:Int
 b:Nat
def oM(k:Int):Int:=u64.wrap (1*2^min k.toNat u64.bits)
def ve(m:Nat)(z:Int):Int:=i64.wrap ((BitVec.ofInt i64.bits (i64.wrap ((m:Int).fdiv (2^min z.toNat u64.bits)))&&& BitVec.ofInt i64.bits 1).toNat:Int)
def fu(e:Int):Int:=bif decide (e>= -1085) then 63-52 else 63-52+(-1085-e)
def lS(m:Nat)(e:Int):Bool:=bif (m:Int)==9223372036854775808 then decide (e> -1085) else false
def fV(m:Nat)(e:Int):o7:=
 bif lS m e then ⟨(u64.wrap ((m:Int)-oM (63-52-2))).toNat,(u64.wrap ((m:Int)+oM (63-52-1))).toNat,ve m (63-52),0-oN (e+(63-52)),0⟩
 else ⟨(u64.wrap ((m:Int)-oM (fu e-1))).toNat,(u64.wrap ((m:Int)+oM (fu e-1))).toNat,ve m (fu e),0-ox (e+fu e),0⟩
def mz(tb:Nat->Nat)(e:Int)(u:Nat)(p:Int):mG:=⟨u,0,tb ((p+348).toNat*2),tb ((p+348).toNat*2+1),(-(e+dM p+3)).toNat⟩
def qC(tb:Nat->Nat)(e:Int)(d:o7):Int:=oi (sW ⟨ig (mz tb e d.lo d.p),d.od⟩)
def oL(tb:Nat->Nat)(e:Int)(d:o7):Int:=sI (sW ⟨ig (mz tb e d.hi d.p),i64.wrap (0-d.od)⟩)
def vf(tb:Nat->Nat)(m:Nat)(e:Int)(d:o7):Int×Int:=
 bif decide (u64.wrap (u64.wrap ((oL tb e d).tdiv 10)*10)>=qC tb e d) then (u64.wrap ((oL tb e d).tdiv 10),i64.wrap (0-(d.p-1)))
 else bif decide (qC tb e d<oL tb e d) then (nS (ig (mz tb e m d.p)),i64.wrap (0-d.p)) else (qC tb e d,i64.wrap (0-d.p))
def qD(tb:Nat->Nat)(m:Nat)(e:Int):Int×Int:=vf tb m e (fV m e)
structure SG where
 d:Int
 p:Int
def vd:aQ where
 X:=pZ
 Y:=SG
 args x:=[aA x.m,ad x.e]
 cond x:=(9223372036854775808<=x.m/\x.m<18446744073709551616)/\(-1137<=x.e/\x.e<=960)/\(∀i,x.tb i<18446744073709551616)
 aO x F:=∀i,i<1392->aP F ⟨15,i,none⟩ (.int .u64 (x.tb i))
 bZ x y:=qD x.tb x.m x.e=(y.d,y.p)
 val _ y:=.returned (.tuple #[.int .u64 y.d,.int .i64 y.p])
 eM _ _ _ hs h:=fun i hi=>(h i hi).sub hs
def zI(x:pZ)(d:o7):Prop:=d.lo<18446744073709551616/\d.hi<18446744073709551616/\(-347<d.p/\d.p<347)/\(0<= -(x.e+dM d.p+3)/\ -(x.e+dM d.p+3)<64)/\qD x.tb x.m x.e=vf x.tb x.m x.e d
def B_(d:o7):Option Addr:=some ⟨d.b,0,none⟩
def ajy(x:pZ)(F:ah):Nat->Option Inv:=fun
 |27=>some {X:=o7,P:=fun d=>zI x d,mu:=fun _=>0,lv:=fun d=>[(0,aA x.m),(1,ad x.e),(5,ad d.p),(8,aA d.lo),(9,aA d.hi),(10,ad d.od)],st:=fun _=>[F]}
 |29=>some {X:=o7,P:=fun d=>zI x d,mu:=fun _=>0,lv:=fun d=>[(0,aA x.m),(1,ad x.e),(5,ad d.p),(8,aA d.lo),(9,aA d.hi),(10,ad d.od),(12,ag (B_ d))],st:=fun d=>[F,af d.b [aA (x.tb ((d.p+348).toNat*2)),aA (x.tb ((d.p+348).toNat*2+1)),ad (-(x.e+dM d.p+3))] 178]}
 |_=>none
def If:=(-9223372036854775808:Int)<=(63:Int)-(52:Int)-(1:Int)/\(63:Int)-(52:Int)-(1:Int)<=(9223372036854775807:Int)
def Jk:List Value:=[aA 1,ad ((63:Int)-(52:Int)-(1:Int))]
def LC(e0:pZ)(e1:ah)(v0 v1 v2 v3:Value)(a:St):=∃(z:o7),zI e0 z/\(aA ↑e0.m=aA ↑e0.m/\ad e0.e=ad e0.e/\v0=ad z.p/\v1=aA ↑z.lo/\v2=aA ↑z.hi/\v3=ad z.od/\True)/\aE a [(0,e1)]
def QJ(x:pZ)(d:Int×Int):=aA (bf (x.m-bf (d.fst*2^min d.snd.toNat u64.bits)))
def QI(x:pZ)(c:Int×Int):=aA (bf (x.m+bf (c.fst*2^min c.snd.toNat u64.bits)))
def OX(b:Int×Int):=ad (bU (↑(gQ (bU (b.fst.fdiv ((2:Int)^min b.snd.toNat u64.bits)))&&& gQ (1:Int)).toNat:Int))
def LD(aa:List Value)(a:l4->Unit->Prop):=aC 185 yD/\true=true/\∃(z:l4),aa=[ad z.i]/\([]:List ah)=[]/\E3 z/\True/\∀(b:Unit),True->a z b
def Ot(x:pZ)(F:ah)(f:l4)(d c:Int×Int):Int×Int->Prop:=fun b=>LC x F (ad (bU ((0:Int)-ox f.i))) (QJ x d) (QI x c) (OX b) [(0,F)]
def Pw(x:pZ):=(-9223372036854775808:Int)<=(63:Int)-52+((-1085:Int)-x.e)-1/\(63:Int)-52+((-1085:Int)-x.e)-1<=(9223372036854775807:Int)
def Ov(x:pZ)(F:ah):=aS (x.e>=(-1085:Int)) (bM (x.e+((63:Int)-(52:Int)))/\LD [ad (x.e+((63:Int)-(52:Int)))] (fun f e=>If/\o8 (ba Tryz.f198 19 3) Jk (fun d=>If/\o8 (ba Tryz.f198 20 3) Jk (fun c=>tZ (ba Tryz.f198 21 2) [aA ↑x.m,ad ((63:Int)-(52:Int))] (Ot x F f d c))))) (bM ((-1085:Int)-x.e)/\bM ((63:Int)-52+((-1085:Int)-x.e))/\bM (x.e+((63:Int)-52+((-1085:Int)-x.e)))/\LD [ad (x.e+((63:Int)-52+((-1085:Int)-x.e)))] (fun f e=>Pw x/\o8 (ba Tryz.f198 24 3) [aA 1,ad ((63:Int)-52+((-1085:Int)-x.e)-1)] (fun d=>Pw x/\o8 (ba Tryz.f198 25 3) [aA 1,ad ((63:Int)-52+((-1085:Int)-x.e)-1)] (fun c=>tZ (ba Tryz.f198 26 2) [aA ↑x.m,ad ((63:Int)-52+((-1085:Int)-x.e))] (Ot x F f d c)))))
def wI(F:ah)(a:o7)(x:pZ):=[(0,F),(1,af a.b [aA (↑(x.tb ((a.p+348).toNat*2)):Int),aA (↑(x.tb ((a.p+348).toNat*2+1)):Int),ad (-(x.e+dM a.p+3))] 178)]
def LG(aa:List Value)(a:CV->Unit->Prop):=aC 207 yJ/\true=true/\∃(z:CV),aa=[aA z.u,ad z.d]/\([]:List ah)=[]/\True/\True/\∀(b:Unit),True->a z b
theorem ajD(x:pZ)(F:ah)(hc:vd.cond x)(Y:vd.aO x F):((-9223372036854775808:Int)<=(63:Int)-(52:Int)/\(63:Int)-(52:Int)<=(9223372036854775807:Int))/\Br ((x.m:Int)==9223372036854775808) (aS (x.e>(-1085:Int)) (bM (x.e+((63:Int)-(52:Int)))/\aC 206 Cr/\true=true/\∃(f:l4),[ad (x.e+((63:Int)-(52:Int)))]=[ad f.i]/\([]:List ah)=[]/\E3 f/\True/\∀(e:Unit),True->((-9223372036854775808:Int)<=(63:Int)-(52:Int)-(2:Int)/\(63:Int)-(52:Int)-(2:Int)<=(9223372036854775807:Int))/\o8 (ba Tryz.f198 14 3) [aA 1,ad ((63:Int)-(52:Int)-(2:Int))] (fun d=>If/\o8 (ba Tryz.f198 15 3) Jk (fun c=>tZ (ba Tryz.f198 16 2) [aA ↑x.m,ad ((63:Int)-(52:Int))] (fun b=>LC x F (ad (bU ((0:Int)-oN f.i))) (QJ x d) (QI x c) (OX b) [(0,F)])))) (Ov x F)) (Ov x F)/\aT fun(u:o7)_=>zI x u->∀(s:Nat),Gs [ad u.p] (fun e d=>Gt [ag (bI s),ad x.e,ad u.p,ad ((e.i*108853).fdiv ((2:Int)^min (Int.toNat (15:Int)) i64.bits))] [af s BX 178] (aH [(0,F),(5000,af s BX 178)] [5000]) (fun c b=>∃(a:o7),zI x a/\(aA ↑x.m=aA ↑x.m/\ad x.e=ad x.e/\ad u.p=ad a.p/\aA ↑u.lo=aA ↑a.lo/\aA ↑u.hi=aA ↑a.hi/\ad u.od=ad a.od/\ag (bI s)=ag (B_ a)/\True)/\aE (Ed F c) (wI F a x)))/\aT fun(r:o7)_=>zI x r->Az [aA ↑r.lo,ag (B_ r)] (aH (wI F r x) []) (fun p o=>LG [aA (ig p),ad r.od] (fun n m=>aC 208 (iN oi)/\true=true/\∃(l:p0),[aA (sW n)]=[aA l.u]/\([]:List ah)=[]/\BY l/\True/\∀(k:Unit),True->Az [aA ↑r.hi,ag (B_ r)] (aH (wI F r x) []) (fun j i=>LG [aA (ig j),ad (bU ((0:Int)-r.od))] (fun h g=>aC 209 (iN sI)/\true=true/\∃(f:p0),[aA (sW h)]=[aA f.u]/\([]:List ah)=[]/\BY f/\True/\∀(e:Unit),True->aS (bf (bf ((sI f.u).tdiv (10:Int))*10)>=oi l.u) (((-9223372036854775808:Int)<=r.p-1/\r.p-1<=(9223372036854775807:Int))/\ar vd x F (ax (tuple ⟨[aA (bf ((sI f.u).tdiv (10:Int))),ad (bU ((0:Int)-(r.p-1)))]⟩)) (wI F r x)) (aS (oi l.u<sI f.u) (Az [aA ↑x.m,ag (B_ r)] (aH (wI F r x) []) (fun d c=>Gu [aA (ig d)] (fun b a=>ar vd x F (ax (tuple ⟨[aA (nS b.u),ad (bU ((0:Int)-r.p))]⟩)) (wI F r x)))) (ar vd x F (ax (tuple ⟨[aA (oi l.u),ad (bU ((0:Int)-r.p))]⟩)) (wI F r x))))))):=by
 delta E3 o8 If Jk tZ LC QJ QI OX LD Ot Pw Ov Gs Gt bI BX B_ Ed wI wT Az LG BY Gu aH bM ad aA ag af gQ bf bU aS ax aT;obtain⟨m,e,tb⟩:=x;obtain⟨⟨h1,X⟩,⟨h3,h4⟩,D⟩:=hc;replace Y:∀i,i<1392->aP F ⟨15,i,none⟩ (.int .u64 (tb i)):=Y;dsimp only at h1 X h3 h4 D⊢;have H:aE [(0,F)] [(0,F)]:=az [0];have N:∀z:Int,u64.wrap z=(((u64.wrap z).toNat:Nat):Int)/\(u64.wrap z).toNat<18446744073709551616:=fun z=>by
  have:=fW z;omega
 have U:lS m e=false->fV m e=⟨(u64.wrap ((m:Int)-oM (fu e-1))).toNat,(u64.wrap ((m:Int)+oM (fu e-1))).toNat,ve m (fu e),0-ox (e+fu e),0⟩:=fun t=>by
  unfold fV;grind
 have W:lS m e=true->fV m e=⟨(u64.wrap ((m:Int)-oM (63-52-2))).toNat,(u64.wrap ((m:Int)+oM (63-52-1))).toNat,ve m (63-52),0-oN (e+(63-52)),0⟩:=fun t=>by
  unfold fV;grind
 have T:lS m e=true->e> -1085:=fun t=>by
  unfold lS at t;grind
 have hz:11<=fu e/\fu e<=63/\ -1085<=e+fu e/\e+fu e<=971:=by
  unfold fu;by_cases q:e>= -1085
  all_goals grind
 have K:zI ⟨m,e,tb⟩ (fV m e):=by
  cases t:lS m e with
  |true=>
   have he:e> -1085:=by
    simp[*]
   obtain⟨-,⟨a1,a2⟩,-,O,P⟩:=wh (k:=e+(63-52)) ae ae;refine⟨?_,?_,?_,?_,rfl⟩
   all_goals grind
  |false=>
   obtain⟨⟨a1,a2⟩,-,⟨O,P⟩,-⟩:=wh (k:=e+fu e) ae ae;refine⟨?_,?_,?_,?_,rfl⟩
   all_goals grind
 have M:∀z,fu e=z->lS m e=false->int .i64 (i64.wrap (0-ox (e+z)))= .int .i64 (fV m e).p/\int .u64 (u64.wrap ((m:Int)-u64.wrap (1*2^min (z-1).toNat u64.bits)))= .int .u64 ((fV m e).lo:Nat)/\int .u64 (u64.wrap ((m:Int)+u64.wrap (1*2^min (z-1).toNat u64.bits)))= .int .u64 ((fV m e).hi:Nat)/\int .i64 (ve m z)= .int .i64 (fV m e).od:=by
  rintro z rfl t;obtain⟨-,-,⟨O,P⟩,-⟩:=wh (k:=e+fu e) ae ae;rw[U t];dsimp only;rw[<-(N _).1,<-(N _).1];exact⟨congrArg _ (dz (i:=.i64) (n:=0-ox (e+fu e)) aK),rfl,rfl,rfl⟩
 have te:lS m e=true->int .i64 (i64.wrap (0-oN (e+(63-52))))= .int .i64 (fV m e).p/\int .u64 (u64.wrap ((m:Int)-u64.wrap (1*2^min (63-52-2:Int).toNat u64.bits)))= .int .u64 ((fV m e).lo:Nat)/\int .u64 (u64.wrap ((m:Int)+u64.wrap (1*2^min (63-52-1:Int).toNat u64.bits)))= .int .u64 ((fV m e).hi:Nat)/\int .i64 (ve m (63-52))= .int .i64 (fV m e).od:=by
  intro t;have:=T t;obtain⟨-,-,-,O,P⟩:=wh (k:=e+(63-52)) ae ae;rw[W t];dsimp only;rw[<-(N _).1,<-(N _).1];exact⟨congrArg _ (dz (i:=.i64) (n:=0-oN (e+(63-52))) aK),rfl,rfl,rfl⟩
 refine⟨⟨by decide,by decide⟩,aG (fun q=>bo (fun q1=>?_) (fun q1=>bo (fun q2=>?_) (fun q2=>?_))) (fun q=>bo (fun q2=>?_) (fun q2=>?_)),?_⟩
 ·obtain⟨e1,A,B,C⟩:=te (by unfold lS;simp[*]);exact⟨aK,ajN,rfl,⟨e+(63-52)⟩,rfl,rfl,⟨by grind,by grind⟩,ao,fun _ _=>⟨⟨by decide,by decide⟩,m5 rfl,(1,63-52-2),rfl,by decide,⟨by decide,by decide⟩,m5 rfl,(1,63-52-1),rfl,by decide,xg rfl,(m,63-52),rfl,(show(0:Int)<=63-52 by decide),fV m e,K,⟨rfl,rfl,e1,A,B,C,ao⟩,H⟩⟩
 ·have t:lS m e=false:=by grind
  have y:fu e=63-52:=by unfold fu;simp[*]
  obtain⟨e1,A,B,C⟩:=M _ y t;exact⟨aK,Hj,rfl,⟨e+(63-52)⟩,rfl,rfl,⟨by grind,by grind⟩,ao,fun _ _=>⟨⟨by decide,by decide⟩,m5 rfl,(1,63-52-1),rfl,by decide,⟨by decide,by decide⟩,m5 rfl,(1,63-52-1),rfl,by decide,xg rfl,(m,63-52),rfl,(show(0:Int)<=63-52 by decide),fV m e,K,⟨rfl,rfl,e1,A,B,C,ao⟩,H⟩⟩
 ·have t:lS m e=false:=by grind
  have y:fu e=63-52+(-1085-e):=by unfold fu;simp[*]
  obtain⟨e1,A,B,C⟩:=M _ y t;exact⟨aK,aK,aK,Hj,rfl,⟨e+(63-52+(-1085-e))⟩,rfl,rfl,⟨by grind,by grind⟩,ao,fun _ _=>⟨aK,m5 rfl,(1,63-52+(-1085-e)-1),rfl,ae,aK,m5 rfl,(1,63-52+(-1085-e)-1),rfl,ae,xg rfl,(m,63-52+(-1085-e)),rfl,ae,fV m e,K,⟨rfl,rfl,e1,A,B,C,ao⟩,H⟩⟩
 ·have t:lS m e=false:=by unfold lS;simp[*]
  have y:fu e=63-52:=by unfold fu;simp[*]
  obtain⟨e1,A,B,C⟩:=M _ y t;exact⟨aK,Hj,rfl,⟨e+(63-52)⟩,rfl,rfl,⟨by grind,by grind⟩,ao,fun _ _=>⟨⟨by decide,by decide⟩,m5 rfl,(1,63-52-1),rfl,by decide,⟨by decide,by decide⟩,m5 rfl,(1,63-52-1),rfl,by decide,xg rfl,(m,63-52),rfl,(show(0:Int)<=63-52 by decide),fV m e,K,⟨rfl,rfl,e1,A,B,C,ao⟩,H⟩⟩
 ·have t:lS m e=false:=by grind
  have y:fu e=63-52+(-1085-e):=by unfold fu;simp[*]
  obtain⟨e1,A,B,C⟩:=M _ y t;exact⟨aK,aK,aK,Hj,rfl,⟨e+(63-52+(-1085-e))⟩,rfl,rfl,⟨by grind,by grind⟩,ao,fun _ _=>⟨aK,m5 rfl,(1,63-52+(-1085-e)-1),rfl,ae,aK,m5 rfl,(1,63-52+(-1085-e)-1),rfl,ae,xg rfl,(m,63-52+(-1085-e)),rfl,ae,fV m e,K,⟨rfl,rfl,e1,A,B,C,ao⟩,H⟩⟩
 rintro⟨lo,hi,od,p,Z⟩ js ⟨g1,E,⟨g3,g4⟩,⟨I,J⟩,G⟩ b;dsimp only at g1 E g3 g4 I J G⊢;have lw:∀{S:St}{bG:List Nat},(0:Nat)∉bG->gt S 0=F->∀i,i<1392->aP (.dq (rest S bG)) ⟨15,i,none⟩ (.int .u64 (tb i)):=fun hj e i hi=>aP.rest (j:=0) hj (by simp[*]);have L:∀c,qD tb m e=vf tb m e ⟨lo,hi,od,p,c⟩:=fun c=>G;refine⟨bO U3 ⟨p⟩ ⟨by grind,by grind⟩ fun _ _=>⟨Wc,rfl,⟨b,_,_,_,e,p,dM p,tb⟩,rfl,rfl,⟨by grind,by grind,by grind,by grind,by grind,by grind⟩,lw aL rfl,fun _ _=>⟨⟨lo,hi,od,p,b⟩,⟨g1,E,⟨g3,g4⟩,⟨I,J⟩,L b⟩,aV,az [0,5000]⟩⟩,?_⟩;clear L G g1 E g3 g4 I J lo hi od p Z b;rintro⟨lo,hi,od,p,b⟩ js ⟨g1,E,⟨g3,g4⟩,⟨I,J⟩,G⟩;dsimp only at g1 E g3 g4 I J G⊢;have hs: -(e+dM p+3)=(((-(e+dM p+3)).toNat:Nat):Int):=ae;have R:aP (.dq (rest [(0,F),(1,.cells b [.int .u64 (tb ((p+348).toNat*2)),.int .u64 (tb ((p+348).toNat*2+1)),.int .i64 (-(e+dM p+3))] 178)] [])) ⟨b,0,none⟩ (.int .u64 (tb ((p+348).toNat*2):Nat))/\aP (.dq (rest [(0,F),(1,.cells b [.int .u64 (tb ((p+348).toNat*2)),.int .u64 (tb ((p+348).toNat*2+1)),.int .i64 (-(e+dM p+3))] 178)] [])) ⟨b,1,none⟩ (.int .u64 (tb ((p+348).toNat*2+1):Nat))/\aP (.dq (rest [(0,F),(1,.cells b [.int .u64 (tb ((p+348).toNat*2)),.int .u64 (tb ((p+348).toNat*2+1)),.int .i64 (-(e+dM p+3))] 178)] [])) ⟨b,2,none⟩ (.int .i64 ((-(e+dM p+3)).toNat:Nat)):=by
  rw[<-hs];exact⟨aP.rest (j:=1) aL (aP.cells rfl),aP.rest (j:=1) aL (aP.cells rfl),aP.rest (j:=1) aL (aP.cells rfl)⟩
 have Q:∀u,ig ⟨u,b,tb ((p+348).toNat*2),tb ((p+348).toNat*2+1),(-(e+dM p+3)).toNat⟩=ig (mz tb e u p):=fun _=>rfl;have fin:∀v w:Int,vf tb m e ⟨lo,hi,od,p,b⟩=(v,w)->ar vd ⟨m,e,tb⟩ F (returned (tuple #[.int .u64 v,.int .i64 w])) [(0,F),(1,.cells b [.int .u64 (tb ((p+348).toNat*2)),.int .u64 (tb ((p+348).toNat*2+1)),.int .i64 (-(e+dM p+3))] 178)]:=fun v w h=>
  ⟨⟨v,w⟩,(show qD tb m e=(v,w) by rw[G,h]),rfl,az [0]⟩
 have V:(-(e+dM p+3)).toNat<64:=ae;refine br KI ⟨lo,b,tb ((p+348).toNat*2),tb ((p+348).toNat*2+1),(-(e+dM p+3)).toNat⟩ ⟨g1,D _,D _,V⟩ R fun _ _=>⟨VD,rfl,⟨ig (mz tb e lo p),od⟩,by rw[<-Q lo],rfl,ao,ao,fun _ _=>bO aby ⟨sW ⟨ig (mz tb e lo p),od⟩⟩ (fW _) fun _ _=>br KI ⟨hi,b,tb ((p+348).toNat*2),tb ((p+348).toNat*2+1),(-(e+dM p+3)).toNat⟩ ⟨E,D _,D _,V⟩ R fun _ _=>⟨VD,rfl,⟨ig (mz tb e hi p),i64.wrap (0-od)⟩,by rw[<-Q hi],rfl,ao,ao,fun _ _=>bO adc ⟨sW ⟨ig (mz tb e hi p),i64.wrap (0-od)⟩⟩ (fW _) fun _ _=>?_⟩⟩;dsimp only;refine bo (fun q=>⟨aK,fin _ _ ?_⟩) (fun q=>bo (fun q2=>br KI ⟨m,b,tb ((p+348).toNat*2),tb ((p+348).toNat*2+1),(-(e+dM p+3)).toNat⟩ ⟨X,D _,D _,V⟩ R fun _ _=>⟨Wp,rfl,⟨ig (mz tb e m p)⟩,by rw[<-Q m],rfl,Xm _,ao,fun _ _=>fin _ _ ?_⟩) (fun q2=>fin _ _ ?_))
 ·unfold vf qC oL;grind
 ·unfold vf qC oL;grind
 ·unfold vf qC oL;grind
theorem ajB:aC 198 vd:=fo 133 Tryz.func198 (fun _ _=>[(13,3,aW Cr),(14,3,.qo (mC .u64 .i64)),(14,4,aX),(15,3,.qo (mC .u64 .i64)),(15,4,aX),(16,2,.qo (tE .u64 .i64)),(16,3,aX),(16,4,aX),(18,3,aW yD),(20,3,.qo (mC .u64 .i64)),(19,3,.qo (mC .u64 .i64)),(19,4,aX),(20,4,aX),(21,2,.qo (tE .u64 .i64)),(21,3,aX),(21,4,aX),(23,3,aW yD),(24,3,.qo (mC .u64 .i64)),(24,4,aX),(25,3,.qo (mC .u64 .i64)),(25,4,aX),(26,2,.qo (tE .u64 .i64)),(26,3,aX),(26,4,aX),(27,0,.n 5000),(28,3,aW yE),(28,4,.c y1 [5000] [5000]),(29,1,aW r9),(29,3,aW yJ),(29,4,aW (iN oi)),(30,1,aW r9),(30,4,aW yJ),(30,5,aW (iN sI)),(31,1,aX),(32,1,aX),(36,1,aW r9),(36,2,aW (iN nS))]) [] aY ajy bA [] ajD
end
section
open Go
theorem V1{n:Nat}(h:n<2305843009213693952)(w:Nat)(e:w<=1):(n:Int)<=u64.wrap ((BitVec.ofInt u64.bits (n:Int)|||BitVec.ofInt u64.bits (w:Int)).toNat:Int)/\u64.wrap ((BitVec.ofInt u64.bits (n:Int)|||BitVec.ofInt u64.bits (w:Int)).toNat:Int)<2305843009213693952:=by
 have b:(2:Nat)^64=18446744073709551616:=by decide
 have e1:(2:Nat)^61=2305843009213693952:=by decide
 have a:u64.bits=64:=rfl;rw[BitVec.ofInt_natCast,BitVec.ofInt_natCast,BitVec.toNat_or,BitVec.toNat_ofNat,BitVec.toNat_ofNat,a,Nat.mod_eq_of_lt (show n<2^64 by omega),Nat.mod_eq_of_lt (show w<2^64 by omega)];have c:n<=n|||w:=Nat.left_le_or;have d:n|||w<2^61:=Nat.or_lt_two_pow ae ae;rw[jT ae];omega
theorem Te(z:Int):0<=((BitVec.ofInt u64.bits z&&& BitVec.ofInt u64.bits 1).toNat:Int)/\((BitVec.ofInt u64.bits z&&& BitVec.ofInt u64.bits 1).toNat:Int)<=1:=by
 rw[BitVec.toNat_and];have:(BitVec.ofInt u64.bits 1).toNat=1:=by decide
 grind
theorem WM(m:Nat)(z:Int):0<=ve m z/\ve m z<=1:=by
 unfold ve;have h:=Te (i64.wrap ((m:Int).fdiv (2^min z.toNat u64.bits)));have h:0<=((BitVec.ofInt i64.bits (i64.wrap ((m:Int).fdiv (2^min z.toNat u64.bits)))&&& BitVec.ofInt i64.bits 1).toNat:Int)/\((BitVec.ofInt i64.bits (i64.wrap ((m:Int).fdiv (2^min z.toNat u64.bits)))&&& BitVec.ofInt i64.bits 1).toNat:Int)<=1:=h;generalize ((BitVec.ofInt i64.bits (i64.wrap ((m:Int).fdiv (2^min z.toNat u64.bits)))&&& BitVec.ofInt i64.bits 1).toNat:Int)=w at h⊢;rw[dz (i:=.i64) (n:=w) aK];exact h
theorem Xl{x:mG}(j:x.u<18446744073709551616)(i:x.hi<18446744073709551616)(e:3<=x.s)(hs:x.s<=60){q:Nat}(o:q*2^x.s+1<=x.u*x.hi/18446744073709551616):(q:Int)<=ig x/\ig x<2305843009213693952:=by
 have h:x.u*x.hi/18446744073709551616<18446744073709551616:=by
  rw[Nat.div_lt_iff_lt_mul (by decide)];exact Nat.mul_lt_mul'' j i
 have hp:0<2^x.s:=Nat.pow_pos (by decide);have g:8<=2^x.s:=by
  have:2^3<=2^x.s:=mN (by decide) e;omega
 have a:min ((x.s:Int)).toNat u64.bits=x.s:=by
  rw[cw];exact Nat.min_eq_left (by show x.s<=64;omega)
 have f:∀k:Nat,(k:Int).fdiv (2^x.s)=((k/2^x.s:Nat):Int):=fun k=>by
  grind
 have small:∀k:Nat,k<18446744073709551616->k/2^x.s<2305843009213693952:=fun k hk=>by
  rw[Nat.div_lt_iff_lt_mul hp];omega
 have ye:∀k:Nat,q*2^x.s<=k->q<=k/2^x.s:=fun k hk=>(Nat.le_div_iff_mul_le hp).2 hk;have d:Fy x=((x.u*x.hi/18446744073709551616:Nat):Int):=rfl;generalize x.u*x.hi/18446744073709551616=H at*;unfold ig;cases Fz x with
 |true=>
  rw[aU];unfold Xj;rw[a,d,f];have:=V1 (small H h) 1 (bT 1);have b:=ye H ae;exact⟨Int.le_trans ae this.1,this.2⟩
 |false=>
  rw[aM];unfold Xk;rw[a,d];have key:∀c w:Nat,c<=1->w<=1->(q:Int)<=u64.wrap ((BitVec.ofInt u64.bits ((u64.wrap ((H:Int)-(c:Int))).fdiv (2^x.s))|||BitVec.ofInt u64.bits (w:Int)).toNat:Int)/\u64.wrap ((BitVec.ofInt u64.bits ((u64.wrap ((H:Int)-(c:Int))).fdiv (2^x.s))|||BitVec.ofInt u64.bits (w:Int)).toNat:Int)<2305843009213693952:=fun c w m l=>by
   rw[show(H:Int)-(c:Int)=((H-c:Nat):Int) by omega,jT (n:=H-c) ae,f];have:=V1 (small (H-c) ae) w l;have b:=ye (H-c) ae;exact⟨Int.le_trans ae this.1,this.2⟩
  cases decide (KG x<KH x) <;> cases decide (u64.wrap (KG x-KH x)>1)
  ·exact key 0 0 (by decide) (by decide)
  ·exact key 0 1 (by decide) (by decide)
  ·exact key 1 0 (by decide) (by decide)
  ·exact key 1 1 (by decide) (by decide)
variable{x:Int}
theorem abA{od:Int}(a:1<=x)(b:x<2305843009213693952)(c:0<=od)(d:od<=1):1<=oi (sW ⟨x,od⟩):=by
 unfold oi sW;dsimp only;rw[dz (i:=.u64) (n:=od) aK,dz (i:=.u64) (n:=x+od) aK,dz (i:=.u64) (n:=x+od+3) aK];rw[show min (Int.toNat 2) u64.bits=2 from rfl,Nl];omega
theorem ai5(a:3<=x)(b:x<2305843009213693952):1<=nS x:=by
 unfold nS;have h:=Te (x.fdiv (2^min (Int.toNat 2) u64.bits));generalize ((BitVec.ofInt u64.bits (x.fdiv (2^min (Int.toNat 2) u64.bits))&&& BitVec.ofInt u64.bits 1).toNat:Int)=w at h⊢;rw[dz (i:=.u64) (n:=w) aK,dz (i:=.u64) (n:=x+1) aK,dz (i:=.u64) (n:=x+1+w) aK];rw[show min (Int.toNat 2) u64.bits=2 from rfl,Nl];omega
theorem ajA{tb:Nat->Nat}{m:Nat}{e:Int}(y:9223372036854775808<=m)(z:m<18446744073709551616)(G: -1137<=e)(H:e<=960)(r:∀i,tb i<18446744073709551616)(hp:∀i,i<696->9223372036854775808<=tb (i*2)):1<=(qD tb m e).1:=by
 have J:11<=fu e/\fu e<=63/\ -1085<=e+fu e/\e+fu e<=971:=by
  unfold fu;by_cases q:e>= -1085
  all_goals grind
 have A:∀k:Int,0<=k->k<=62->0<=oM k/\oM k<=4611686018427387904:=fun k a b=>by
  obtain⟨n,rfl⟩:∃n:Nat,k=(n:Int):=⟨k.toNat,ae⟩;have e1:2^n<=2^62:=mN (by decide) ae;have F:(2:Nat)^62=4611686018427387904:=by decide
  unfold oM;rw[cw,show min n u64.bits=n from Nat.min_eq_left (by show n<=64;omega),show 1*(2:Int)^n=((2^n:Nat):Int) by simp[*],jT ae];grind
 have g:∀k:Int,0<=k->k<=62->4611686018427387904<=(u64.wrap ((m:Int)-oM k)).toNat/\(u64.wrap ((m:Int)-oM k)).toNat<18446744073709551616:=fun k a b=>by
  have:=A k a b;rw[dz (i:=.u64) (n:=(m:Int)-oM k) aK];omega
 have hd:(4611686018427387904<=(fV m e).lo/\(fV m e).lo<18446744073709551616)/\(0<=(fV m e).od/\(fV m e).od<=1)/\(-347<(fV m e).p/\(fV m e).p<347)/\3<= -(e+dM (fV m e).p+3)/\ -(e+dM (fV m e).p+3)<=60:=by
  unfold fV;cases B:lS m e with
  |true=>
   rw[aU];have I:e> -1085:=by
    unfold lS at B;grind
   obtain⟨-,⟨a1,a2⟩,-,o,p⟩:=wh (k:=e+(63-52)) ae ae;refine⟨g _ (by decide) (by decide),WM _ _,⟨o,p⟩,?_⟩;grind
  |false=>
   rw[aM];obtain⟨⟨a1,a2⟩,-,⟨o,p⟩,-⟩:=wh (k:=e+fu e) ae ae;refine⟨g _ ae ae,WM _ _,⟨o,p⟩,?_⟩;grind
 unfold qD;generalize fV m e=d at hd⊢;obtain⟨⟨l1,l2⟩,⟨D,E⟩,⟨K,L⟩,s1,s2⟩:=hd;have hs:(mz tb e d.lo d.p).s=(-(e+dM d.p+3)).toNat:=rfl;have j:∀s:Nat,s<=60->2^s<=1152921504606846976:=fun s hs=>by
  have:2^s<=2^60:=mN (by decide) hs;omega
 have f:9223372036854775808<=tb ((d.p+348).toNat*2):=hp _ ae;have l:=Xl (x:=mz tb e d.lo d.p) l2 (r _) ae ae (q:=1) (by
  have a:=j (mz tb e d.lo d.p).s ae;have b:4611686018427387904*9223372036854775808<=d.lo*tb ((d.p+348).toNat*2):=Nat.mul_le_mul l1 f;have c:2305843009213693952<=d.lo*tb ((d.p+348).toNat*2)/18446744073709551616:=(Nat.le_div_iff_mul_le (by decide)).2 (gR (by decide) b);show 1*2^(mz tb e d.lo d.p).s+1<=d.lo*tb ((d.p+348).toNat*2)/18446744073709551616;omega)
 have t:=Xl (x:=mz tb e m d.p) z (r _) (by show 3<=(-(e+dM d.p+3)).toNat;omega) (by show(-(e+dM d.p+3)).toNat<=60;omega) (q:=3) (by
  have a:=j (mz tb e m d.p).s (by show(-(e+dM d.p+3)).toNat<=60;omega);have b:9223372036854775808*9223372036854775808<=m*tb ((d.p+348).toNat*2):=Nat.mul_le_mul y f;have c:4611686018427387904<=m*tb ((d.p+348).toNat*2)/18446744073709551616:=(Nat.le_div_iff_mul_le (by decide)).2 (gR (by decide) b);show 3*2^(mz tb e m d.p).s+1<=m*tb ((d.p+348).toNat*2)/18446744073709551616;omega)
 have u:1<=qC tb e d:=abA l.1 l.2 D E;unfold vf;by_cases q:u64.wrap (u64.wrap ((oL tb e d).tdiv 10)*10)>=qC tb e d
 ·rw[bv q,aU];show 1<=u64.wrap ((oL tb e d).tdiv 10);have C:=fW ((oL tb e d).tdiv 10);generalize u64.wrap ((oL tb e d).tdiv 10)=v at q C⊢;rcases Int.lt_or_le 0 v with h|h
  ·omega
  ·have w:v=0:=by omega
   rw[w,show u64.wrap (0*10)=0 by decide]at q;omega
 ·rw[bF q,aM];by_cases q2:qC tb e d<oL tb e d
  ·rw[bv q2,aU];exact ai5 t.1 t.2
  simp[*]
end
section
open Go
def jn(k:Nat):Nat×ByteArray:=((Pinned.cheatRows.getD k (0,[])).1,⟨(Pinned.cheatRows.getD k (0,[])).2.toArray⟩)
def tH(i:Nat):Nat:=bif i%2==0 then (Pinned.pow10Rows.getD (i/2) (9223372036854775808,0)).1 else (Pinned.pow10Rows.getD (i/2) (9223372036854775808,0)).2
def TC(k:Nat):Bool:=(List.range (jn k).2.size).all (fun i=>decide (48<=aF (jn k).2 i)&&decide (aF (jn k).2 i<=57))&&decide (1<=(jn k).2.size)&&decide (aF (jn k).2 (((jn k).2.size-1:Nat):Int)≠48)&&decide (sD (jn k).2=5^k)&&decide ((jn k).1+(jn k).2.size=k+1)&&decide (10^((jn k).2.size-1)<=5^k)&&decide (1<=(jn k).1)
theorem abB:((List.range 61).all fun k=>k==0||TC k)=true:=by decide+kernel
theorem abC:pX jn:=fun k i j=>by
 have h:=List.all_eq_true.1 abB k (List.mem_range.2 ae);rw[show(k==0)=false by rw[dU];omega,Bool.false_or]at h;simp only[TC,gx,decide_eq_true_eq,List.all_eq_true,List.mem_range]at h;obtain⟨⟨⟨⟨⟨⟨a,b⟩,c⟩,d⟩,e⟩,f⟩,g⟩:=h;exact⟨⟨a,b,c⟩,d,e,f,g⟩
theorem ai7:(Pinned.pow10Rows.all fun x=>decide (9223372036854775808<=x.1)&&decide (x.1<18446744073709551616)&&decide (x.2<18446744073709551616))=true:=by decide+kernel
theorem Wq(i:Nat):(9223372036854775808<=(Pinned.pow10Rows.getD i (9223372036854775808,0)).1/\(Pinned.pow10Rows.getD i (9223372036854775808,0)).1<18446744073709551616)/\(Pinned.pow10Rows.getD i (9223372036854775808,0)).2<18446744073709551616:=by
 rw[fg];cases h:Pinned.pow10Rows[i]? with
 |none=>exact⟨⟨bT _,by decide⟩,by decide⟩
 |some x=>
  have:=List.all_eq_true.1 ai7 x (ou h);simp only[gx,decide_eq_true_eq]at this;exact this
theorem Sa(i:Nat):tH i<18446744073709551616:=by
 unfold tH;have h:=Wq (i/2);cases i%2==0
 ·exact h.2
 ·exact h.1.2
theorem W4(i:Nat):9223372036854775808<=tH (i*2):=by
 unfold tH;rw[show(i*2%2==0)=true by rw[beq_iff_eq];omega];exact(Wq (i*2/2)).1.1
end
section
open Go
structure CP where
 f:Nat
def po(f:Nat):Bool:=cG .gtr f 9218868437227405311
def Hf:aQ where
 X:=CP
 args x:=[float f64 x.f,ad 1]
 val x _:=ax (aj (po x.f))
theorem aeB(x:CP)(F:ah)(b:Hf.cond x)(c:Hf.aO x F):Gv (ba Tryz.f137 5 1) [float f64 x.f,float f64 9218868437227405311] (fun a=>ar Hf x F (ax (aj (cG BinOp.gtr a.fst a.snd))) [(0,F)]):=by
 delta qs Gv aj ax;exact⟨nz (.inr (.inr (.inl rfl))) rfl,(x.f,9218868437227405311),rfl,ao,(),ao,rfl,az [0]⟩
theorem aeA:aC 137 Hf:=fo 15 Tryz.func137 (fun _ _=>[(5,1,.qo (mM .gtr))]) [] aY aY bA [] aeB
end
section
open Go
theorem YO{b o:Nat}{vs:List Value}{t:TypeId}{fr:Nat×Nat}{v:Value}(h:vs[o]?=some v):aP (.gW b (.cells ⟨vs⟩ t fr)) ⟨b,o,none⟩ v:=⟨fun I h' c _ a=>by
 rw[M2 a.2];exact h⟩
structure SF where
 b:Nat
 c:Nat
def kI(s:ByteArray)(c:Nat):Array Value:=bytesRow s c
def Ki(e:TypeId):aQ where
 X:=e8
 Y:=SF
 args x:=[ai x.s]
 bZ x y:=x.s.size<=y.c
 val x y:=ax (au (some ⟨y.b,0,none⟩) x.s.size y.c)
 post x y:=[.gW y.b (.cells (kI x.s y.c) e ((kI x.s y.c).size,(kI x.s y.c).size+1))]
theorem ajk{P:Program}{o:Oper}{src dst e:TypeId}{x:Operand}(f:o.op= .convert src dst x)(hs:P.underlying src=some .string)(hd:P.underlying dst=some (.slice e))(h:P.underlying e=some (.int .u8)):e5 P o (Ki e):=by
 refine⟨fun y F I w ρ d j k c=>?_⟩;obtain⟨s⟩:=y;simp only[f,Op.operands,Ki]at d;have b:ρ x= .string s:=by simpa using d
 have a:=run_bytes_of_string w src dst e s hs hd h;refine⟨⟨w.heap.size,grownCap w s.size 0 e⟩,I,w.drew.alloc (.cells (bytesRow s (grownCap w s.size 0 e)) e ((bytesRow s (grownCap w s.size 0 e)).size,(bytesRow s (grownCap w s.size 0 e)).size+1)),.slice (some ⟨w.heap.size,0,none⟩) s.size (grownCap w s.size 0 e),grownCap_ge w s.size 0 e,.inl ?_,rfl,a_.le_refl I,?_,?_⟩
 ·simp only[execOp,f,b];show((convert src dst (.string s))>>=fun v=>(pure (Next.value v):Sem Next)).run P w=_;rw[Sem.run_bind,a];rfl
 ·have g:Sat I (bD [F]) w:=c;have:=(g.heap (w':=w.drew) rfl).new 1 (.cells (bytesRow s (grownCap w s.size 0 e)) e ((bytesRow s (grownCap w s.size 0 e)).size,(bytesRow s (grownCap w s.size 0 e)).size+1));have i:mkAtom w.drew.heap.size (.cells (bytesRow s (grownCap w s.size 0 e)) e ((bytesRow s (grownCap w s.size 0 e)).size,(bytesRow s (grownCap w s.size 0 e)).size+1))= .gW w.heap.size (.cells (bytesRow s (grownCap w s.size 0 e)) e ((bytesRow s (grownCap w s.size 0 e)).size,(bytesRow s (grownCap w s.size 0 e)).size+1)):=by
   generalize (bytesRow s (grownCap w s.size 0 e)).size=n;cases n <;> rfl
  rw[i]at this;exact Sat.pick [1,0] rfl rfl this
 ·exact aq
end
section
open Go
def kR(t:ByteArray):Nat->Int
 |0=>0
 |i+1=>kR t i*10+(aF t i-48)
structure tS(s:ByteArray):Prop where
 lo:2<=s.size
 hi:s.size<=9
 sg:aF s 0=43\/aF s 0=45
 gP:∀i:Nat,i<(s.extract 1 s.size).size->48<=aF (s.extract 1 s.size) i/\aF (s.extract 1 s.size) i<=57
def lz(s:ByteArray):Int:=bif aF s 0==45 then 0-kR (s.extract 1 s.size) (s.size-1) else kR (s.extract 1 s.size) (s.size-1)
def pb:aQ where
 X:=bK
 args x:=[ai x.s]
 cond x:=tS x.s
 val x _:=.returned (.tuple #[.int .i64 (lz x.s),.nilIface])
structure vv where
 i:Nat
 b:Nat
 c:Nat
def aaJ(x:bK)(F:ah)(d:vv):List ah:=[F,.gW d.b (.cells (kI (x.s.extract 1 x.s.size) d.c) 5 ((kI (x.s.extract 1 x.s.size) d.c).size,(kI (x.s.extract 1 x.s.size) d.c).size+1))]
def B6(d:vv):Option Addr:=some ⟨d.b,0,none⟩
def aax(x:bK)(F:ah):Nat->Option Inv:=fun
 |0=>some {X:=vv,P:=fun d=>d.i<=(x.s.extract 1 x.s.size).size/\(x.s.extract 1 x.s.size).size<=d.c,mu:=fun d=>10-d.i,lv:=fun d=>[(5,ai x.s),(6,ad (kR (x.s.extract 1 x.s.size) d.i)),(47,(au (B6 d) (x.s.extract 1 x.s.size).size d.c)),(48,(ad (x.s.extract 1 x.s.size).size)),(49,ad d.i)],st:=fun d=>aaJ x F d}
 |_=>none
def aaw(x:bK)(F:ah):Nat->Option Inv:=fun
 |8=>some {X:=Unit,P:=fun _=>True,mu:=fun _=>0,lv:=fun _=>[(0,ai (x.s.extract 1 x.s.size)),(5,ai x.s)],st:=fun _=>[F]}
 |_=>none
theorem ajm{s:ByteArray}{c i:Nat}(h:i<s.size):(kI s c).toList[i]?=some (.int .u8 (aF s i)):=by
 have e1:(kI s c).toList[i]?=(kI s c)[i]?:=Array.getElem?_toList;have hs:i<s.data.size:=h;rw[e1];unfold kI bytesRow;rw[Array.getElem?_append_left (by rw[Array.size_map];exact hs),Array.getElem?_map,Array.getElem?_eq_getElem hs];unfold aF;rw[cw,fg,Array.getElem?_toList,Array.getElem?_eq_getElem hs];rfl
def Q1:=ax (tuple ⟨[ad 0,fh 128 (ad 2)]⟩)
def LI(e0:ah)(e1:bK)(v0:Value)(a:St):=∃(z:Unit),True/\(v0=ai (e1.s.extract 1 e1.s.size)/\ai e1.s=ai e1.s/\True)/\aE a [(0,e0)]
def Oz(x:bK)(F:ah):=wq x/\aS ((↑(x.s.extract (Int.toNat (1:Int)) (x.s.size:Int).toNat).size:Int)<1) (ar pb x F Q1 [(0,F)]) (LI F x (wu x) [(0,F)])
def IU(a:vv)(x:bK):=a.i<=(x.s.extract 1 x.s.size).size/\(x.s.extract 1 x.s.size).size<=a.c
def zw(F:ah)(a:vv)(x:bK):=[(0,F),(1,lE a.b (Obj.cells (kI (x.s.extract 1 x.s.size) a.c) 5 ((kI (x.s.extract 1 x.s.size) a.c).size,(kI (x.s.extract 1 x.s.size) a.c).size+1)))]
theorem aaz(x:bK)(F:ah)(r:pb.cond x)(A:pb.aO x F):aS (0<(x.s.size:Int)) (aS ((x.s.size:Int)<19) ((qn x/\Br (tj x) (Oz x F) (qn x/\Br (uQ x) (Oz x F) (LI F x (ai x.s) [(0,F)])))/\aT fun(i:Unit)_=>True->e5 Tryz.prog (ba Tryz.f163 9 1) (Ki (5:TypeId))/\true=true/\∃(g:e8),[ai (x.s.extract 1 x.s.size)]=[ai g.s]/\([]:List ah)=[]/\True/\True/\∀(f:SF),g.s.size<=f.c->(∃(a:vv),IU a x/\(ai x.s=ai x.s/\ad 0=ad (kR (x.s.extract 1 x.s.size) a.i)/\au (some ⟨f.b,0,none⟩) g.s.size f.c=au (B6 a) (x.s.extract 1 x.s.size).size a.c/\ad ↑g.s.size=ad (↑(x.s.extract 1 x.s.size).size:Int)/\ad 0=ad ↑a.i/\True)/\aE [(0,F),(5000,lE f.b (Obj.cells (kI g.s f.c) 5 ((kI g.s f.c).size,(kI g.s f.c).size+1)))] (zw F a x))/\aT fun(e:vv)_=>IU e x->aS ((e.i:Int)<(↑(x.s.extract 1 x.s.size).size:Int)) (iS (ba Tryz.f163 11 0) [au (B6 e) (x.s.extract 1 x.s.size).size e.c,ad ↑e.i] (fun c=>iR (lE e.b (Obj.cells (kI (x.s.extract 1 x.s.size) e.c) 5 ((kI (x.s.extract 1 x.s.size) e.c).size,(kI (x.s.extract 1 x.s.size) e.c).size+1))) ⟨c.b,c.o+c.n.toNat*1,none⟩ (fun b=>aS (u8.wrap (b-48)>9) (ar pb x F Q1 (zw F e x)) (((-9223372036854775808:Int)<=kR (x.s.extract 1 x.s.size) e.i*10/\kR (x.s.extract 1 x.s.size) e.i*10<=(9223372036854775807:Int))/\bM (u8.wrap (b-48))/\bM (kR (x.s.extract 1 x.s.size) e.i*10+u8.wrap (b-48))/\((-9223372036854775808:Int)<=(e.i:Int)+1/\(e.i:Int)+1<=(9223372036854775807:Int))/\∃(a:vv),IU a x/\(ai x.s=ai x.s/\ad (kR (x.s.extract 1 x.s.size) e.i*10+u8.wrap (b-48))=ad (kR (x.s.extract 1 x.s.size) a.i)/\au (B6 e) (x.s.extract 1 x.s.size).size e.c=au (B6 a) (x.s.extract 1 x.s.size).size a.c/\ad (↑(x.s.extract 1 x.s.size).size:Int)=ad (↑(x.s.extract 1 x.s.size).size:Int)/\ad ((e.i:Int)+1)=ad ↑a.i/\True)/\aE (zw F e x) (zw F a x)/\10-a.i<10-e.i)))) (qn x/\Br (tj x) (ar pb x F (ax (tuple ⟨[ad (bU ((0:Int)-kR (x.s.extract 1 x.s.size) e.i)),nilIface]⟩)) (zw F e x)) (ar pb x F (ax (tuple ⟨[ad (kR (x.s.extract 1 x.s.size) e.i),nilIface]⟩)) (zw F e x)))) False) False:=by
 delta qn tj wq Q1 LI wu Oz uQ IU B6 zw iS iR bM ad a8 ai au fh lE bU aS ax aT;obtain⟨s⟩:=x;obtain⟨o,p,l,m⟩:=(r:tS s);dsimp only;generalize d:s.extract 1 s.size=t at*;have u:t.size=s.size-1:=by rw[<-d,gS];omega
 have j:aE [(0,F)] [(0,F)]:=az [0];have hx:s.extract (Int.toNat 1) ((s.size:Nat):Int).toNat=t:=by rw[<-d];rfl
 rw[hx];have jy:∀i,i<=t.size->0<=kR t i/\kR t i<10^i:=by
  intro i
  induction i with
  |zero=>intro _;exact⟨cD 0,by show(0:Int)<10^0;decide⟩
  |succ i w=>
   intro hi;obtain⟨a,b⟩:=w ae;have:=m i ae;rw[kR,Int.pow_succ];omega
 dsimp only at o p l;refine bo (fun _=>bo (fun _=>⟨⟨⟨cD _,ae⟩,aG (fun q=>⟨⟨by decide,ae,cD _⟩,bo (fun q1=>absurd q1 ae) (fun _=>⟨(),ao,aV,j⟩)⟩) (fun q=>⟨⟨cD _,ae⟩,aG (fun q2=>⟨⟨by decide,ae,cD _⟩,bo (fun q1=>absurd q1 ae) (fun _=>⟨(),ao,aV,j⟩)⟩) (fun q2=>?_)⟩)⟩,?_⟩) (fun q=>(q ae).elim)) (fun q=>(q ae).elim)
 ·rcases l with h|h
  ·rw[h]at q2;exact absurd q2 (by decide)
  ·rw[h]at q;exact absurd q (by decide)
 rintro _ z-;refine kV (ajk rfl rfl rfl rfl) ⟨t⟩ fun y v=>⟨⟨⟨0,y.b,y.c⟩,⟨df _,v⟩,aV,az [0,5000]⟩,?_⟩;rintro⟨i,b,c⟩ z ⟨g1,k⟩;dsimp only at g1 k⊢;obtain⟨B,C⟩:=jy i g1;have D:(10:Int)^i<=100000000:=by
  have a:10^i<=10^8:=mN (by decide) ae;have b:(10:Int)^i=((10^i:Nat):Int):=by rw[Int.natCast_pow];rfl
  have e:(10:Nat)^8=100000000:=by decide
  omega
 refine bo (fun q=>⟨h9 1 rfl rfl rfl rfl,⟨b,0,t.size,c,i⟩,rfl,hC,aF t i,?_,?_⟩) (fun q=>?_)
 ·rw[show 0+((i:Nat):Int).toNat*1=i by omega];exact YO (vs:=(kI t c).toList) (ajm ae)
 ·have hd:=m i ae;rw[dz (i:=.u8) (n:=aF t i-48) aK];refine bo (fun q2=>absurd q2 ae) (fun _=>⟨aK,aK,aK,aK,⟨i+1,b,c⟩,⟨bg,k⟩,⟨rfl,rfl,rfl,rfl,?_,ao⟩,az [0,1],bg⟩);exact congrArg _ bg
 ·have hi:i=s.size-1:=by omega
  subst hi;refine⟨⟨cD _,ae⟩,aG (fun q=>?_) (fun q=>?_)⟩
  ·refine⟨(),ao,?_,az [0]⟩;show _=returned (.tuple #[.int .i64 (lz s),.nilIface]);unfold lz;rw[d,q,aU,dz (i:=.i64) (n:=0-kR t (s.size-1)) aK]
  ·refine⟨(),ao,?_,az [0]⟩;show _=returned (.tuple #[.int .i64 (lz s),.nilIface]);unfold lz;rw[d,q,aM]
theorem aay:aC 163 pb:=fo 77 Tryz.func163 (fun _ _=>[(9,1,.o (Ki 5) [] [5000]),(11,0,.qo (gb 1)),(11,1,.q [.ex 1 (.int .u8)]),(12,1,aX),(13,1,aX)]) [(20,1,aX)] aax aaw bA [] aaz
theorem aaF(x:bK)(F:ah)(c:pb.cond x)(d:pb.aO x F):aC 163 pb/\true=true/\∃(b:bK),[ai x.s]=[ai b.s]/\([]:List ah)=[]/\tS b.s/\True/\∀(a:Unit),True->ar pb x F (ax (tuple ⟨[ad (lz b.s),nilIface]⟩)) [(0,F)]:=by
 delta ad ai ax;exact bO aay ⟨x.s⟩ c fun _ _=>im
theorem aaE:aC 140 pb:=fo 18 Tryz.func140 (fun _ _=>[(1,1,aW pb)]) [] aY aY bA [] aaF
end
end Go.Proofs.YtdkchodgklpomaaGreatDoor
namespace Go.Proofs
section
open Go.Shelf
def aaa:Go.Shelf.Ren:=⟨fun|284=>172|129=>148|317=>185|318=>152|n=>n,fun|53=>64|3=>3|212=>214|0=>0|4=>4|46=>101|5=>5|9=>9|n=>n,fun|17=>17|n=>n⟩
theorem Z_:Go.Proofs.LaysM.n284 Tryz.prog aaa:={
 mixed:=by kernel_rfl
 f129:=Tryz.func148.trans (congrArg some (by kernel_rfl))
 f284:=Tryz.func172.trans (congrArg some (by kernel_rfl))
 f317:=Tryz.func185.trans (congrArg some (by kernel_rfl))
 f318:=Tryz.func152.trans (congrArg some (by kernel_rfl))
 t0:=Tryz.underlying0
 a0:=Tryz.isAgg0
 z0:=Tryz.sizeOf0
 v0:=Tryz.zeroValue0
 t3:=Tryz.underlying3
 a3:=Tryz.isAgg3
 z3:=Tryz.sizeOf3
 v3:=Tryz.zeroValue3
 t4:=Tryz.underlying4
 a4:=Tryz.isAgg4
 z4:=Tryz.sizeOf4
 v4:=Tryz.zeroValue4
 t5:=Tryz.underlying5
 a5:=Tryz.isAgg5
 z5:=Tryz.sizeOf5
 v5:=Tryz.zeroValue5
 t9:=Tryz.underlying9
 a9:=Tryz.isAgg9
 z9:=Tryz.sizeOf9
 v9:=Tryz.zeroValue9
 t46:=Tryz.underlying101
 a46:=Tryz.isAgg101
 z46:=Tryz.sizeOf101
 v46:=Tryz.zeroValue101
 t53:=Tryz.underlying64
 a53:=Tryz.isAgg64
 z53:=Tryz.sizeOf64
 v53:=Tryz.zeroValue64
 t212:=Tryz.underlying214
 a212:=Tryz.isAgg214
 z212:=Tryz.sizeOf214
 v212:=Tryz.zeroValue214
 g17:=by kernel_rfl
 i0:=by kernel_rfl
 i3:=by kernel_rfl
 i4:=by kernel_rfl
 i5:=by kernel_rfl
 i9:=by kernel_rfl
 i46:=by kernel_rfl
 i53:=by kernel_rfl
 i212:=by kernel_rfl
 m17:=by kernel_rfl}
open Go.Lib in
theorem Tryz.internal_strconv_numDigits(u:Nat)(b:1<=u)(c:u<18446744073709551616)(w:World)(a:Lib.TabIs Tryz.prog w "internal/strconv.uint64pow10" .u64 Lib.pow10Tab):
  Calls Tryz.prog 172 #[.int .u64 u] w fun e w'=>e= .returned (.int .i64 (Lib.nDigits u))/\w'=w:=Any.internal_strconv_numDigits Z_ u b c w a
def Z7:Go.Shelf.Ren:=⟨fun|285=>173|n=>n,fun|37=>93|53=>64|3=>3|4=>4|51=>115|9=>9|5=>5|0=>0|n=>n,fun|n=>n⟩
theorem Z6:Go.Proofs.Lays.n285 Tryz.prog Z7:={
 mixed:=by kernel_rfl
 f285:=Tryz.func173.trans (congrArg some (by kernel_rfl))
 t0:=Tryz.underlying0
 a0:=Tryz.isAgg0
 z0:=Tryz.sizeOf0
 v0:=Tryz.zeroValue0
 t3:=Tryz.underlying3
 a3:=Tryz.isAgg3
 z3:=Tryz.sizeOf3
 v3:=Tryz.zeroValue3
 t4:=Tryz.underlying4
 a4:=Tryz.isAgg4
 z4:=Tryz.sizeOf4
 v4:=Tryz.zeroValue4
 t5:=Tryz.underlying5
 a5:=Tryz.isAgg5
 z5:=Tryz.sizeOf5
 v5:=Tryz.zeroValue5
 t9:=Tryz.underlying9
 a9:=Tryz.isAgg9
 z9:=Tryz.sizeOf9
 v9:=Tryz.zeroValue9
 t37:=Tryz.underlying93
 a37:=Tryz.isAgg93
 z37:=Tryz.sizeOf93
 v37:=Tryz.zeroValue93
 t51:=Tryz.underlying115
 a51:=Tryz.isAgg115
 z51:=Tryz.sizeOf115
 v51:=Tryz.zeroValue115
 t53:=Tryz.underlying64
 a53:=Tryz.isAgg64
 z53:=Tryz.sizeOf64
 v53:=Tryz.zeroValue64}
open Go.RowKit Go.Sort Go.Lib in
theorem Tryz.internal_strconv_formatBase10(fO off cap:Nat)(u:Nat)(d:Array UInt8)(w:World)(g:Holds (fun(b:UInt8)=>Value.int .u8 (b.toNat:Int)) w fO off d)(h:u<10^d.size)(a:u<18446744073709551616)(c:d.size<4611686018427387904):
  Calls Tryz.prog 173 #[.slice (some ⟨fO,off,none⟩) d.size cap,.int .u64 u] w fun e w'=>
   e= .returned (.tuple #[])/\∃(n i:Nat)(f:Array UInt8),w'=(putRow (fun(b:UInt8)=>Value.int .u8 (b.toNat:Int)) w fO off f).drewN n/\FmtInv d.size u 0 i f:=Any.internal_strconv_formatBase10 Z6 fO off cap u d w g h a c
def Z9:Go.Shelf.Ren:=⟨fun|171=>120|243=>136|246=>159|283=>171|284=>172|285=>173|286=>174|129=>148|317=>185|318=>152|319=>186|320=>187|337=>202|338=>203|n=>n,fun|3=>3|9=>9|2=>2|4=>4|171=>199|0=>0|53=>64|37=>93|5=>5|173=>201|212=>214|51=>115|20=>20|213=>215|46=>101|232=>221|233=>236|n=>n,fun|17=>17|18=>18|19=>19|n=>n⟩
theorem Z8:Go.Proofs.LaysM.n171 Tryz.prog Z9:={
 mixed:=by kernel_rfl
 f129:=Tryz.func148.trans (congrArg some (by kernel_rfl))
 f171:=Tryz.func120.trans (congrArg some (by kernel_rfl))
 f243:=Tryz.func136.trans (congrArg some (by kernel_rfl))
 f246:=Tryz.func159.trans (congrArg some (by kernel_rfl))
 f283:=Tryz.func171.trans (congrArg some (by kernel_rfl))
 f284:=Tryz.func172.trans (congrArg some (by kernel_rfl))
 f285:=Tryz.func173.trans (congrArg some (by kernel_rfl))
 f286:=Tryz.func174.trans (congrArg some (by kernel_rfl))
 f317:=Tryz.func185.trans (congrArg some (by kernel_rfl))
 f318:=Tryz.func152.trans (congrArg some (by kernel_rfl))
 f319:=Tryz.func186.trans (congrArg some (by kernel_rfl))
 f320:=Tryz.func187.trans (congrArg some (by kernel_rfl))
 f337:=Tryz.func202.trans (congrArg some (by kernel_rfl))
 f338:=Tryz.func203.trans (congrArg some (by kernel_rfl))
 t0:=Tryz.underlying0
 a0:=Tryz.isAgg0
 z0:=Tryz.sizeOf0
 v0:=Tryz.zeroValue0
 t2:=Tryz.underlying2
 a2:=Tryz.isAgg2
 z2:=Tryz.sizeOf2
 v2:=Tryz.zeroValue2
 t3:=Tryz.underlying3
 a3:=Tryz.isAgg3
 z3:=Tryz.sizeOf3
 v3:=Tryz.zeroValue3
 t4:=Tryz.underlying4
 a4:=Tryz.isAgg4
 z4:=Tryz.sizeOf4
 v4:=Tryz.zeroValue4
 t5:=Tryz.underlying5
 a5:=Tryz.isAgg5
 z5:=Tryz.sizeOf5
 v5:=Tryz.zeroValue5
 t9:=Tryz.underlying9
 a9:=Tryz.isAgg9
 z9:=Tryz.sizeOf9
 v9:=Tryz.zeroValue9
 t20:=Tryz.underlying20
 a20:=Tryz.isAgg20
 z20:=Tryz.sizeOf20
 v20:=Tryz.zeroValue20
 t37:=Tryz.underlying93
 a37:=Tryz.isAgg93
 z37:=Tryz.sizeOf93
 v37:=Tryz.zeroValue93
 t46:=Tryz.underlying101
 a46:=Tryz.isAgg101
 z46:=Tryz.sizeOf101
 v46:=Tryz.zeroValue101
 t51:=Tryz.underlying115
 a51:=Tryz.isAgg115
 z51:=Tryz.sizeOf115
 v51:=Tryz.zeroValue115
 t53:=Tryz.underlying64
 a53:=Tryz.isAgg64
 z53:=Tryz.sizeOf64
 v53:=Tryz.zeroValue64
 t171:=Tryz.underlying199
 a171:=Tryz.isAgg199
 z171:=Tryz.sizeOf199
 v171:=Tryz.zeroValue199
 t173:=Tryz.underlying201
 a173:=Tryz.isAgg201
 z173:=Tryz.sizeOf201
 v173:=Tryz.zeroValue201
 t212:=Tryz.underlying214
 a212:=Tryz.isAgg214
 z212:=Tryz.sizeOf214
 v212:=Tryz.zeroValue214
 t213:=Tryz.underlying215
 a213:=Tryz.isAgg215
 z213:=Tryz.sizeOf215
 t232:=Tryz.underlying221
 a232:=Tryz.isAgg221
 z232:=Tryz.sizeOf221
 v232:=Tryz.zeroValue221
 t233:=Tryz.underlying236
 a233:=Tryz.isAgg236
 z233:=Tryz.sizeOf236
 v233:=Tryz.zeroValue236
 g17:=by kernel_rfl
 g18:=by kernel_rfl
 g19:=by kernel_rfl
 i0:=by kernel_rfl
 i2:=by kernel_rfl
 i3:=by kernel_rfl
 i4:=by kernel_rfl
 i5:=by kernel_rfl
 i9:=by kernel_rfl
 i20:=by kernel_rfl
 i37:=by kernel_rfl
 i46:=by kernel_rfl
 i51:=by kernel_rfl
 i53:=by kernel_rfl
 i171:=by kernel_rfl
 i173:=by kernel_rfl
 i212:=by kernel_rfl
 i232:=by kernel_rfl
 i233:=by kernel_rfl
 m17:=by kernel_rfl
 m18:=by kernel_rfl
 m19:=by kernel_rfl}
open Go.RowKit Go.Sort Go.Lib in
theorem Tryz.strconv_Itoa(n:Int)(b: -9223372036854775808<=n)(c:n<=9223372036854775807)(w:World)(a:Lib.TabIs Tryz.prog w "internal/strconv.uint64pow10" .u64 Lib.pow10Tab):
  Calls Tryz.prog 120 #[.int .i64 n] w fun e w'=>e= .returned (.string ⟨(Lib.itoa n).toArray⟩)/\∃k os,w'=grow (w.drewN k) os:=Any.strconv_Itoa Z8 n b c w a
def ZY:Go.Shelf.Ren:=⟨fun|145=>138|220=>161|219=>69|217=>79|225=>80|224=>81|267=>82|266=>93|314=>94|n=>n,fun|9=>9|4=>4|59=>168|3=>3|5=>5|46=>101|146=>116|51=>115|n=>n,fun|1=>4|n=>n⟩
theorem ZX:Go.Proofs.Lays.n145 Tryz.prog ZY:={
 mixed:=by kernel_rfl
 f145:=Tryz.func138.trans (congrArg some (by kernel_rfl))
 f217:=Tryz.func79.trans (congrArg some (by kernel_rfl))
 f219:=Tryz.func69.trans (congrArg some (by kernel_rfl))
 f220:=Tryz.func161.trans (congrArg some (by kernel_rfl))
 f224:=Tryz.func81.trans (congrArg some (by kernel_rfl))
 f225:=Tryz.func80.trans (congrArg some (by kernel_rfl))
 f266:=Tryz.func93.trans (congrArg some (by kernel_rfl))
 f267:=Tryz.func82.trans (congrArg some (by kernel_rfl))
 f314:=Tryz.func94.trans (congrArg some (by kernel_rfl))
 t3:=Tryz.underlying3
 a3:=Tryz.isAgg3
 z3:=Tryz.sizeOf3
 v3:=Tryz.zeroValue3
 t4:=Tryz.underlying4
 a4:=Tryz.isAgg4
 z4:=Tryz.sizeOf4
 v4:=Tryz.zeroValue4
 t5:=Tryz.underlying5
 a5:=Tryz.isAgg5
 z5:=Tryz.sizeOf5
 v5:=Tryz.zeroValue5
 t9:=Tryz.underlying9
 a9:=Tryz.isAgg9
 z9:=Tryz.sizeOf9
 v9:=Tryz.zeroValue9
 t46:=Tryz.underlying101
 a46:=Tryz.isAgg101
 z46:=Tryz.sizeOf101
 v46:=Tryz.zeroValue101
 t51:=Tryz.underlying115
 a51:=Tryz.isAgg115
 z51:=Tryz.sizeOf115
 v51:=Tryz.zeroValue115
 t59:=Tryz.underlying168
 a59:=Tryz.isAgg168
 z59:=Tryz.sizeOf168
 v59:=Tryz.zeroValue168
 t146:=Tryz.underlying116
 a146:=Tryz.isAgg116
 z146:=Tryz.sizeOf116
 v146:=Tryz.zeroValue116
 g1:=by kernel_rfl}
open Go.RowKit Go.Lib in
theorem Tryz.strings_Cut(s a:ByteArray)(m:Int)(w:World)(hs:s.size<4294967281)(b:w.cell? ⟨4,0,none⟩=some (.int .i64 m)):
  Calls Tryz.prog 138 #[.string s,.string a] w fun e w'=>e= .returned (.tuple #[.string ⟨(Lib.cut s.data.toList a.data.toList).1.toArray⟩,.string ⟨(Lib.cut s.data.toList a.data.toList).2.1.toArray⟩,.bool (Lib.cut s.data.toList a.data.toList).2.2])/\∃n,w'=w.drewN n:=Any.strings_Cut ZX s a m w hs b
def Ta:Go.Shelf.Ren:=⟨fun|154=>142|138=>165|165=>166|143=>52|166=>76|197=>67|169=>74|195=>180|218=>181|240=>91|241=>182|219=>69|260=>78|276=>105|277=>201|217=>79|225=>80|224=>81|267=>82|266=>93|314=>94|n=>n,fun|9=>9|3=>3|4=>4|72=>95|0=>0|76=>98|105=>88|21=>21|5=>5|70=>92|20=>20|37=>93|75=>97|127=>108|164=>124|46=>101|119=>111|139=>114|138=>113|146=>116|51=>115|80=>74|n=>n,fun|1=>4|3=>5|4=>6|n=>n⟩
theorem ZZ:Go.Proofs.Lays.n154 Tryz.prog Ta:={
 mixed:=by kernel_rfl
 f138:=Tryz.func165.trans (congrArg some (by kernel_rfl))
 f143:=Tryz.func52.trans (congrArg some (by kernel_rfl))
 f154:=Tryz.func142.trans (congrArg some (by kernel_rfl))
 f165:=Tryz.func166.trans (congrArg some (by kernel_rfl))
 f166:=Tryz.func76.trans (congrArg some (by kernel_rfl))
 f169:=Tryz.func74.trans (congrArg some (by kernel_rfl))
 f195:=Tryz.func180.trans (congrArg some (by kernel_rfl))
 f197:=Tryz.func67.trans (congrArg some (by kernel_rfl))
 f217:=Tryz.func79.trans (congrArg some (by kernel_rfl))
 f218:=Tryz.func181.trans (congrArg some (by kernel_rfl))
 f219:=Tryz.func69.trans (congrArg some (by kernel_rfl))
 f224:=Tryz.func81.trans (congrArg some (by kernel_rfl))
 f225:=Tryz.func80.trans (congrArg some (by kernel_rfl))
 f240:=Tryz.func91.trans (congrArg some (by kernel_rfl))
 f241:=Tryz.func182.trans (congrArg some (by kernel_rfl))
 f260:=Tryz.func78.trans (congrArg some (by kernel_rfl))
 f266:=Tryz.func93.trans (congrArg some (by kernel_rfl))
 f267:=Tryz.func82.trans (congrArg some (by kernel_rfl))
 f276:=Tryz.func105.trans (congrArg some (by kernel_rfl))
 f277:=Tryz.func201.trans (congrArg some (by kernel_rfl))
 f314:=Tryz.func94.trans (congrArg some (by kernel_rfl))
 t0:=Tryz.underlying0
 a0:=Tryz.isAgg0
 z0:=Tryz.sizeOf0
 v0:=Tryz.zeroValue0
 t3:=Tryz.underlying3
 a3:=Tryz.isAgg3
 z3:=Tryz.sizeOf3
 v3:=Tryz.zeroValue3
 t4:=Tryz.underlying4
 a4:=Tryz.isAgg4
 z4:=Tryz.sizeOf4
 v4:=Tryz.zeroValue4
 t5:=Tryz.underlying5
 a5:=Tryz.isAgg5
 z5:=Tryz.sizeOf5
 v5:=Tryz.zeroValue5
 t9:=Tryz.underlying9
 a9:=Tryz.isAgg9
 z9:=Tryz.sizeOf9
 v9:=Tryz.zeroValue9
 t20:=Tryz.underlying20
 a20:=Tryz.isAgg20
 z20:=Tryz.sizeOf20
 v20:=Tryz.zeroValue20
 t21:=Tryz.underlying21
 a21:=Tryz.isAgg21
 z21:=Tryz.sizeOf21
 v21:=Tryz.zeroValue21
 t37:=Tryz.underlying93
 a37:=Tryz.isAgg93
 z37:=Tryz.sizeOf93
 v37:=Tryz.zeroValue93
 t46:=Tryz.underlying101
 a46:=Tryz.isAgg101
 z46:=Tryz.sizeOf101
 v46:=Tryz.zeroValue101
 t51:=Tryz.underlying115
 a51:=Tryz.isAgg115
 z51:=Tryz.sizeOf115
 v51:=Tryz.zeroValue115
 t70:=Tryz.underlying92
 a70:=Tryz.isAgg92
 z70:=Tryz.sizeOf92
 v70:=Tryz.zeroValue92
 t72:=Tryz.underlying95
 a72:=Tryz.isAgg95
 z72:=Tryz.sizeOf95
 v72:=Tryz.zeroValue95
 t75:=Tryz.underlying97
 a75:=Tryz.isAgg97
 z75:=Tryz.sizeOf97
 v75:=Tryz.zeroValue97
 t76:=Tryz.underlying98
 a76:=Tryz.isAgg98
 z76:=Tryz.sizeOf98
 v76:=Tryz.zeroValue98
 t105:=Tryz.underlying88
 a105:=Tryz.isAgg88
 z105:=Tryz.sizeOf88
 v105:=Tryz.zeroValue88
 t119:=Tryz.underlying111
 a119:=Tryz.isAgg111
 z119:=Tryz.sizeOf111
 t127:=Tryz.underlying108
 a127:=Tryz.isAgg108
 z127:=Tryz.sizeOf108
 v127:=Tryz.zeroValue108
 t138:=Tryz.underlying113
 a138:=Tryz.isAgg113
 z138:=Tryz.sizeOf113
 v138:=Tryz.zeroValue113
 t139:=Tryz.underlying114
 a139:=Tryz.isAgg114
 z139:=Tryz.sizeOf114
 v139:=Tryz.zeroValue114
 t146:=Tryz.underlying116
 a146:=Tryz.isAgg116
 z146:=Tryz.sizeOf116
 v146:=Tryz.zeroValue116
 t164:=Tryz.underlying124
 a164:=Tryz.isAgg124
 z164:=Tryz.sizeOf124
 v164:=Tryz.zeroValue124
 g1:=by kernel_rfl
 g3:=by kernel_rfl
 g4:=by kernel_rfl}
theorem ZO:Builder.Extra Tryz.prog Ta:={
 sizeBuilder:=by kernel_rfl
 liesBuilder:=by kernel_rfl
 t5:=Tryz.underlying5
 a5:=Tryz.isAgg5
 z5:=Tryz.sizeOf5
 v5:=Tryz.zeroValue5
 infoByte:=by kernel_rfl
 cellsByte:=by kernel_rfl
 sizeByte:=by kernel_rfl
 neB5:=by decide}
open Go.RowKit Go.Lib in
theorem Tryz.strings_Replace(s a new:ByteArray)(n:Int)(m:Int)(w:World)(hs:s.size<4294967281)(d:w.cell? ⟨4,0,none⟩=some (.int .i64 m))(c:1<=a.size)(b:s.size+Lib.countB s a*new.size<=140737488355328):
  Calls Tryz.prog 142 #[.string s,.string a,.string new,.int .i64 n] w fun e w'=>
   e= .returned (.string ⟨(Lib.replace s.data.toList a.data.toList new.data.toList n).toArray⟩)/\Below w.heap.size w w':=Any.strings_Replace ZZ ZO s a new n m w hs d c b
end
end Go.Proofs
namespace Go.Proofs.YtdkchodgklpomaaGreatDoor
set_option maxRecDepth 100000
open Go.Value (int slice string bool pointer agg tuple func float iface nilIface)
open Go.IntKind (i64 u8 u64 i32 u32 u16 i8 i16)
open Go.FloatKind (f64)
open Go.Ending (returned panicked)
section
open Go
structure xX(F:ah)(b:Nat)(vs:List Value):Prop where
 h:∀I h o,CH I h->F.holds I h o->∃t fr,h b=some (.cells ⟨vs⟩ t fr)
variable{A B F:ah}{I:a_}{vs:List Value}{w:World}
theorem xX.sub{b:Nat}(h:xX A b vs)(hs:Sub A B):xX B b vs:=⟨fun I g o d c=>let ⟨e,a⟩:=hs I g o c;h.h I g e d a⟩
theorem xX.Fe{b:Nat}(h:xX F b vs)(hs:Sat I (bD [F]) w):∃t fr,w.heap[b]?=some (.cells ⟨vs⟩ t fr):=by
 obtain⟨f,a,-,-⟩:=hs.k7;exact h.h I (hp w) (f 0) hs.mQ (a 0)
def Od:List Value:=Lib.pow10Tab.map fun z=>int .u64 z
structure iT(F:ah):Prop where
 V2:xX F 17 Od
 mx:∃m,aP F ⟨4,0,none⟩ (.int .i64 m)
theorem iT.sub(h:iT A)(hs:Sub A B):iT B:=⟨h.V2.sub hs,let ⟨m,q⟩:=h.mx;⟨m,q.sub hs⟩⟩
theorem iT.Fu(h:iT F)(hs:Sat I (bD [F]) w):Lib.TabIs Tryz.prog w "internal/strconv.uint64pow10" .u64 Lib.pow10Tab:=by
 obtain⟨t,fr,e⟩:=h.V2.Fe hs;unfold Lib.TabIs World.var?;rw[show Tryz.prog.globalNamed "internal/strconv.uint64pow10"=some 17 from bl];show(match w.heap[17]? with|some (.cells cs _ _)=>some cs|_=>none)=_;rw[e];rfl
structure Tb where
 u:Nat
def Hu:aQ where
 X:=Tb
 args x:=[aA x.u]
 cond x:=1<=x.u/\x.u<18446744073709551616
 aO _ F:=iT F
 val x _:=ax (ad (Lib.nDigits x.u))
theorem agl:aC 172 Hu:=qU Hu (fun _=>rfl) (fun _ _=>()) (fun _ _=>ao) (fun _ _=>rfl) fun x _ _ w a b hs=>
 (Go.Proofs.Tryz.internal_strconv_numDigits x.u a.1 a.2 w (iT.Fu b hs)).mono fun e w' h=>⟨h.1,h.2▸RowKit.Below.refl _ _⟩
def DL:aQ where
 X:=l4
 args x:=[ad x.i]
 cond x:= -9223372036854775808<=x.i/\x.i<=9223372036854775807
 aO _ F:=iT F
 val x _:=ax (ai ⟨(Lib.itoa x.i).toArray⟩)
theorem aa2(w:World)(k:Nat):RowKit.Below w.heap.size w (w.drewN k):=⟨rfl,rfl,rfl,bT _,fun _ _=>rfl⟩
theorem aa3(w:World)(k:Nat)(os:Array Obj):RowKit.Below w.heap.size w (Sort.grow (w.drewN k) os):=by
 refine⟨rfl,rfl,rfl,?_,fun j a=>?_⟩
 ·show w.heap.size<=(w.heap++os).size;rw[Array.size_append];omega
 ·show(w.heap++os)[j]?=_;rw[Array.getElem?_append_left a]
theorem UX:aC 120 DL:=qU DL (fun _=>rfl) (fun _ _=>()) (fun _ _=>ao) (fun _ _=>rfl) fun x _ _ w a b hs=>
 (Go.Proofs.Tryz.strconv_Itoa x.i a.1 a.2 w (iT.Fu b hs)).mono fun e w' h=>⟨h.1,let ⟨k,os,e⟩:=h.2;e▸aa3 w k os⟩
structure FI where
 s:ByteArray
 t:ByteArray
def ry(s t:ByteArray):List UInt8×List UInt8×Bool:=Lib.cut s.data.toList t.data.toList
def TK:aQ where
 X:=FI
 args x:=[ai x.s,ai x.t]
 cond x:=x.s.size<4294967281
 aO _ F:=iT F
 val x _:=.returned (.tuple #[.string ⟨(ry x.s x.t).1.toArray⟩,.string ⟨(ry x.s x.t).2.1.toArray⟩,.bool (ry x.s x.t).2.2])
theorem abU:aC 138 TK:=qU TK (fun _=>rfl) (fun _ _=>()) (fun _ _=>ao) (fun _ _=>rfl) fun x F _ w a c hs=>
 let ⟨m,b⟩:=iT.mx c
 (Go.Proofs.Tryz.strings_Cut x.s x.t m w a (hs.v_ b)).mono fun e w' h=>⟨h.1,let ⟨k,e⟩:=h.2;e▸aa2 w k⟩
structure C2 where
 s:ByteArray
 t:ByteArray
 u:ByteArray
 n:Int
def Fb(x:C2):List UInt8:=Lib.replace x.s.data.toList x.t.data.toList x.u.data.toList x.n
def Ws:aQ where
 X:=C2
 args x:=[ai x.s,ai x.t,ai x.u,ad x.n]
 cond x:=x.s.size<4294967281/\1<=x.t.size/\x.s.size+Lib.countB x.s x.t*x.u.size<=140737488355328
 aO _ F:=iT F
 val x _:=ax (ai ⟨(Fb x).toArray⟩)
theorem ai8:aC 142 Ws:=qU Ws (fun _=>rfl) (fun _ _=>()) (fun _ _=>ao) (fun _ _=>rfl) fun x F _ w a c hs=>
 let ⟨m,b⟩:=iT.mx c
 (Go.Proofs.Tryz.strings_Replace x.s x.t x.u x.n m w a.1 (hs.v_ b) a.2.1 a.2.2).mono fun e w' h=>⟨h.1,h.2⟩
def rz(u n:Nat):List Nat:=(List.range n).map fun t=>48+u/10^(n-1-t)%10
def jG(u n z:Nat):List Nat:=rz u n++List.replicate (z-n) 0
structure SA where
 b:Nat
 z:Nat
 n:Nat
 cap:Nat
 u:Nat
 t:TypeId
def Ng:aQ where
 X:=SA
 args x:=[au (some ⟨x.b,0,none⟩) x.n x.cap,aA x.u]
 pre x:=[af x.b (bW (List.replicate x.z 0)) x.t]
 cond x:=x.n<=x.z/\x.u<10^x.n/\x.u<18446744073709551616/\x.n<4611686018427387904
 val _ _:=.returned (.tuple #[])
 post x _:=[af x.b (bW (jG x.u x.n x.z)) x.t]
abbrev M_:UInt8->Value:=fun b=>int .u8 (b.toNat:Int)
theorem acf(u j:Nat):(Lib.dg u j).toNat=48+u/10^j%10:=by
 unfold Lib.dg;have:u/10^j%10<10:=Nat.mod_lt _ (by decide);rw[UInt8.toNat_ofNat'];omega
theorem acF:aC 173 Ng:=by
 refine⟨fun x F I w E _ hs=>?_⟩;obtain⟨b,z,n,cap,u,t⟩:=x;obtain⟨C,v,y,A⟩:=(E:n<=z/\u<10^n/\u<18446744073709551616/\n<4611686018427387904);dsimp only at C v y A;have hs:Sat I (bD [.cells b (bW (List.replicate z 0)) t,F]) w:=hs;have m:w.heap[b]?=some (.cells ⟨bW (List.replicate z 0)⟩ t (0,0)):=hs.cells (j:=0) rfl;have h:(Array.replicate n (0:UInt8)).size=n:=Array.size_replicate;have D:Sort.Holds M_ w b 0 (Array.replicate n (0:UInt8)):=by
  intro j l;rw[h]at l;constructor
  ·unfold World.cell?;rw[m];have:(Array.replicate n (0:UInt8))[j]! =0:=by rw[getElem!_pos _ j (by rw[h];exact l),Array.getElem_replicate]
   rw[this];show(⟨bW (List.replicate z 0)⟩:Array Value)[0+j]?=_;rw[gT,<-Array.getElem?_toList];show(bW (List.replicate z 0))[j]?=_;unfold bW;rw[fP,List.getElem?_replicate,if_pos ae];rfl
  ·unfold World.frozen?;rw[m];simp
 have key:=Go.Proofs.Tryz.internal_strconv_formatBase10 b 0 cap u (Array.replicate n (0:UInt8)) w D (by rw[h];exact v) y (by rw[h];exact A);rw[h]at key;refine key.mono ?_;rintro e w' ⟨H,k,J,i,s,hi⟩;have G:i.size=n:=hi.size;have hd:∀j,j<n->i[j]! =Lib.dg u (n-1-j):=fun j l=>hi.done j (df _) l;have d:Sort.putCells M_ 0 i ⟨bW (List.replicate z 0)⟩=⟨bW (jG u n z)⟩:=by
  apply Array.ext_getElem?;intro j;unfold Sort.putCells;rw[Array.getElem?_mapIdx,<-Array.getElem?_toList,<-Array.getElem?_toList];show Option.map _ (bW (List.replicate z 0))[j]?=(bW (jG u n z))[j]?;unfold bW jG rz;rw[fP,fP,List.getElem?_replicate];by_cases f:j<n
  ·rw[if_pos ae,lD (by simpa using f),fP,List.getElem?_range f];simp only[Option.map_some];rw[if_pos ⟨df _,ae⟩,Nat.sub_zero,hd j f];show some (int .u8 (((Lib.dg u (n-1-j)).toNat:Nat):Int))=_;rw[acf]
  ·rw[j6 (by simp;omega),List.getElem?_replicate];simp only[List.length_map,List.length_range];by_cases g:j<z
   ·rw[if_pos g,if_pos ae];simp only[Option.map_some];rw[if_neg ae]
   ·rw[if_neg g,if_neg ae];rfl
 have B:∀c,w'.heap[c]?=if c=b then some (.cells ⟨bW (jG u n z)⟩ t (0,0)) else w.heap[c]?:=by
  intro c;rw[s];show(w.heap.modify b _)[c]?=_;rw[Array.getElem?_modify];by_cases a:c=b
  ·subst a;rw[if_pos rfl,if_pos rfl,m];show some (Obj.cells (Sort.putCells M_ 0 i ⟨bW (List.replicate z 0)⟩) t (0,0))=_;rw[d]
  ·rw[if_neg (fun e=>a e.symm),if_neg a]
 have r:w'.heap.size=w.heap.size:=by
  rw[s];show(w.heap.modify b _).size=_;rw[Array.size_modify]
 have q:=hs.write (w':=w') (j:=0) (b:=b) (A':=.cells b (bW (jG u n z)) t) (fun o p=>p.1) (fun c a=>by rw[B,if_neg a]) r (fun o p=>⟨p.1,by show w'.heap[b]?=_;rw[B,if_pos rfl]⟩);refine⟨(),I,ao,H,a_.le_refl I,q,?_⟩;rw[s];exact aq
end
section
open Go
def jz(u n:Nat):Nat->Nat
 |0=>0
 |k+1=>bif (rz u n).getD k 0==48 then jz u n k else k+1
theorem W8(u n:Nat):∀k,jz u n k<=k
 |0=>bT _
 |k+1=>by
  rw[jz];cases (rz u n).getD k 0==48 with
  |true=>exact Nat.le_succ_of_le (W8 u n k)
  |false=>exact bT _
theorem GQ(u n:Nat):(rz u n).length=n:=by simp[rz]
variable{z:Nat}{S:St}
theorem TV{u n:Nat}(h:n<=z):(jG u n z).length=z:=by
 unfold jG;rw[eS,GQ,List.length_replicate];omega
theorem acm{u n k:Nat}(h:k<n):(bW (jG u n z))[k]?=some (.int .u8 ((rz u n).getD k 0:Nat)):=by
 unfold jG;rw[KF,lD (by rw[Cy,GQ];exact h)];unfold bW;rw[fP,gy (by rw[GQ];exact h),fg,gy (by rw[GQ];exact h)];rfl
structure Dp(vs:List Value):Prop where
 h:vs=bW (List.replicate 32 0)
structure tX where
 t:TypeId
 vs:List Value
 b:Nat
 u:Nat
 p:Int
 n:Nat
def rU(x:tX):Option Addr:=some ⟨x.b,0,none⟩
def Jy(x:tX):=af x.b (bW (jG x.u x.n 32)) x.t
def zG:aQ where
 X:=tX
 args x:=[au (rU x) 32 32,aA x.u,ad x.p,ad x.n]
 pre x:=[af x.b x.vs x.t]
 cond x:=Dp x.vs/\x.n<=20/\x.u<10^x.n/\x.u<18446744073709551616/\ -100000<=x.p/\x.p<=100000
 val x _:=.returned (.tuple #[.int .i64 (x.n+x.p),.int .i64 (jz x.u x.n x.n:Nat)])
 post x _:=[Jy x]
def ajn(x:tX)(F:ah):Nat->Option Inv:=fun
 |0=>some {X:=Nat,P:=fun k=>k<=x.n/\jz x.u x.n x.n=jz x.u x.n k,mu:=fun k=>k,lv:=fun k=>[(0,au (rU x) 32 32),(3,ad k),(8,ad (x.n+x.p))],st:=fun _=>[Jy x,F]}
 |_=>none
def JM(a:Nat)(x:tX):=a<=x.n/\jz x.u x.n x.n=jz x.u x.n a
def Ex(x:tX)(F:ah):=[(0,af x.b (bW (jG x.u x.n 32)) x.t),(1,F)]
def P_(e:Nat):=(-9223372036854775808:Int)<=(e:Int)-(1:Int)/\(e:Int)-(1:Int)<=(9223372036854775807:Int)
def Rk(x:tX)(F:ah)(e:Nat):=ar zG x F (ax (tuple ⟨[ad (x.n+x.p),ad ↑e]⟩)) (Ex x F)
theorem ajp(x:tX)(F:ah)(s:zG.cond x)(w:zG.aO x F):aS ((x.n:Int)<=(↑(32:Nat):Int)) (dJ Tryz.prog (ba Tryz.f194 2 2) Fi/\∃(h:SI),[au (rU x) 32 32,ad ↑x.n]=[au h.a h.n h.cap,ad h.h]/\(0<=h.h/\h.h<=h.cap)/\aC 173 Ng/\true=true/\∃(g:SA),[au h.a h.h.toNat h.cap,aA ↑x.u]=[au (some ⟨g.b,0,none⟩) g.n g.cap,aA ↑g.u]/\[af x.b x.vs x.t]=[af g.b (bW (List.replicate g.z 0)) g.t]/\(g.n<=g.z/\g.u<Nat.pow 10 g.n/\g.u<18446744073709551616/\g.n<4611686018427387904)/\True/\∀(f:Unit),True->bM (x.n+x.p)/\(∃(a:Nat),JM a x/\(au (rU x) 32 32=au (rU x) 32 32/\ad ↑x.n=ad ↑a/\ad (x.n+x.p)=ad (x.n+x.p)/\True)/\aE [(0,af g.b (bW (jG g.u g.n g.z)) g.t),(1,F)] (Ex x F))/\aT fun(e:Nat)_=>JM e x->aS ((e:Int)>(0:Int)) (P_ e/\iS (ba Tryz.f194 4 6) [au (rU x) 32 32,ad ((e:Int)-(1:Int))] (fun c=>iR (Jy x) ⟨c.b,c.o+c.n.toNat*1,none⟩ (fun b=>Br (b==48) (P_ e/\∃(a:Nat),JM a x/\(au (rU x) 32 32=au (rU x) 32 32/\ad ((e:Int)-(1:Int))=ad ↑a/\ad (x.n+x.p)=ad (x.n+x.p)/\True)/\aE (Ex x F) (Ex x F)/\a<e) (Rk x F e)))) (Rk x F e)) (ar zG x F (ax (tuple ⟨[ad 0,ad ↑x.n]⟩)) [(0,af x.b x.vs x.t),(1,F)]):=by
 delta rU JM Ex P_ iS iR Jy Rk bM ad a8 aA au af aS ax aT;obtain⟨t,vs,b,u,p,n⟩:=x;obtain⟨⟨i⟩,m,j,l,o,r⟩:=s;dsimp only at i m j l o r⊢;refine bo (fun _=>⟨ajR rfl rfl rfl,⟨some ⟨b,0,none⟩,32,32,n⟩,rfl,⟨by simp[*],ae⟩,acF,rfl,⟨b,32,n,32,u,t⟩,rfl,by rw[i],⟨by grind,j,l,by grind⟩,ao,fun _ _=>⟨aK,⟨n,⟨bT _,rfl⟩,aV,az [0,1]⟩,?_⟩⟩) (fun q=>(q ae).elim);rintro k y ⟨v,d⟩;cases k with
 |zero=>exact bo (fun q=>absurd q ae) (fun _=>⟨(),ao,by show _=returned (.tuple #[.int .i64 (n+p),.int .i64 (jz u n n:Nat)]);rw[d];rfl,az [0,1]⟩)
 |succ k=>
  have e1:(((k+1:Nat):Int)-1)=((k:Nat):Int):=ae;rw[e1];rw[jz]at d;refine bo (fun _=>⟨aK,h9 1 rfl rfl rfl rfl,⟨b,0,32,32,k⟩,rfl,⟨by simp[*],by grind⟩,(((rz u n).getD k 0:Nat):Int),?_,?_⟩) (fun q=>absurd ae q)
  ·refine aP.cells ?_;rw[show 0+((k:Nat):Int).toNat*1=k by omega];exact acm ae
  ·rw[show((((rz u n).getD k 0:Nat):Int)==48)=((rz u n).getD k 0==48) by grind];refine aG (fun q=>?_) (fun q=>?_)
   ·rw[q,aU]at d;exact⟨aK,k,⟨ae,d⟩,aV,az [0,1],io _⟩
   ·rw[q,aM]at d;exact⟨(),ao,by show _=returned (.tuple #[.int .i64 (n+p),.int .i64 (jz u n n:Nat)]);rw[d],az [0,1]⟩
theorem ajo:aC 194 zG:=fo 36 Tryz.func194 (fun _ _=>[(2,2,.qo Fi),(2,4,bu Ng),(4,6,.qo (gb 1)),(4,7,.q [.ex 0 (.int .u8)])]) [] ajn aY bA [] ajp
def ey(neg:Bool):List Nat:=bif neg then [45] else []
def ep(ds:List Nat)(nd:Nat):Nat:=bif nd==0 then 48 else ds.getD 0 0
def ga(ds:List Nat)(nd:Nat):List Nat:=bif decide (nd>1) then 46::(ds.take nd).drop 1 else []
def eb(dp:Int)(nd:Nat):Int:=bif nd==0 then 0 else dp-1
def l_(e:Int):Nat:=bif decide (e<0) then 45 else 43
def mb(n:Nat):List Nat:=bif decide (n<10) then [48,n+48] else bif decide (n<100) then [n/10+48,n%10+48] else [n/100+48,n/10%10+48,n%10+48]
def qb(neg:Bool)(ds:List Nat)(dp:Int)(nd:Nat):List Nat:=ey neg++[ep ds nd]++ga ds nd++[101]++[l_ (eb dp nd)]++mb (eb dp nd).natAbs
structure kq where
 r:Row
 neg:Bool
 b:Nat
 ds:List Nat
 dp:Int
 nd:Nat
def mq(x:kq):Option Addr:=some ⟨x.b,0,none⟩
def yw:aQ where
 X:=kq
 Y:=Row
 args x:=[au x.r.a x.r.n x.r.cap,aj x.neg,au (mq x) 32 32,ad x.dp,ad x.nd,ad (x.nd-1:Nat),a8 101,aj true]
 pre x:=[x.r.A]
 cond x:=bz 5 1 [] x.r/\x.ds.length=32/\x.nd<=20/\ -900<=x.dp/\x.dp<=900
 aO x F:=c4 F ⟨x.b,0,none⟩ (bW x.ds)
 bZ x y:=bz 5 1 (bW (qb x.neg x.ds x.dp x.nd)) y
 val _ y:=ax (au y.a y.n y.cap)
 post _ y:=[y.A]
structure fF where
 r:Row
 c:Nat
 e:Int
def iW(l:List Nat)(d:fF):Prop:=bz 5 1 (bW l) d.r
def vX(x:kq)(F:ah)(P:fF->Prop)(lv:fF->List (Nat×Value)):Option Inv:=some {X:=fF,P:=P,mu:=fun _=>0,lv:=fun d=>[(0,.slice d.r.a d.r.n d.r.cap),(2,.slice (some ⟨x.b,0,none⟩) 32 32),(3,.int .i64 x.dp),(4,.int .i64 x.nd),(5,.int .i64 (x.nd-1:Nat)),(6,.int .u8 101)]++lv d,st:=fun d=>[d.r.A,F]}
def acZ(x:kq)(F:ah):Nat->Option Inv:=fun
 |22=>vX x F (fun d=>iW (ey x.neg) d) (fun _=>[])
 |25=>vX x F (fun d=>iW (ey x.neg) d/\d.c=ep x.ds x.nd) (fun d=>[(19,.int .u8 d.c)])
 |37=>vX x F (fun d=>iW (ey x.neg++[ep x.ds x.nd]++ga x.ds x.nd) d) (fun _=>[])
 |41=>vX x F (fun d=>iW (ey x.neg++[ep x.ds x.nd]++ga x.ds x.nd++[101]) d/\d.e=eb x.dp x.nd) (fun d=>[(22,.int .i64 d.e)])
 |45=>vX x F (fun d=>iW (ey x.neg++[ep x.ds x.nd]++ga x.ds x.nd++[101]) d/\d.e=(eb x.dp x.nd).natAbs/\d.c=l_ (eb x.dp x.nd)) (fun d=>[(19,.int .u8 d.c),(22,.int .i64 d.e)])
 |47=>vX x F (fun d=>iW (ey x.neg++[ep x.ds x.nd]++ga x.ds x.nd++[101]++[l_ (eb x.dp x.nd)]) d/\d.e=(eb x.dp x.nd).natAbs) (fun d=>[(22,.int .i64 d.e)])
 |51=>vX x F (fun d=>iW (qb x.neg x.ds x.dp x.nd) d) (fun _=>[])
 |_=>none
def ac1(x:kq)(F:ah):Nat->Option Inv:=fun
 |1=>vX x F (fun d=>iW (ey x.neg++[ep x.ds x.nd]++ga x.ds x.nd) d) (fun _=>[(113,.int .i64 0),(114,.int .i64 0)])
 |_=>none
theorem yb{o:Oper}{r:Row}{l m:List Nat}{a:Addr}{c:Nat}{K:oZ->Row->Prop}(d:e5 Tryz.prog o (de 5 1 1))(b:bz 5 1 (bW l) r)(hl:l.length<=1000)(h:m.length<=1000)(hs:c4 (.dq (rest S [0])) a (bW m))(hk:∀y,bz 5 1 (bW (l++m)) y->K ⟨r,bW l,some a,m.length,c,bW m⟩ y):
  e5 Tryz.prog o (de 5 1 1)/\true=true/\∃x:oZ,[slice r.a r.n r.cap,slice (some a) m.length c]=[slice x.r.a x.r.n x.r.cap,slice x.a x.m x.c]/\[r.A]=[x.r.A]/\
  (bz 5 1 x.cs x.r/\x.ys.length=x.m*1/\(∀u∈x.ys,u.oneCell'=true)/\(x.r.n+x.m)*1<=140737488355328/\x.r.n+x.m<=9223372036854775807/\(x.a=none->x.m=0/\x.c=0))/\
  (∀a,x.a=some a->c4 (.dq (rest S [0])) a x.ys)/\∀y:Row,(bz 5 1 (x.cs++x.ys) y/\y.n=x.r.n+x.m/\(x.m=0->y=x.r))->K x y:=by
 have hn:=b.len;rw[Cy]at hn;refine br d ⟨r,bW l,some a,m.length,c,bW m⟩ ⟨b,by dsimp only;rw[Cy];omega,fun u f=>Sb f,by grind,by grind,fun e=>by cases e⟩ (fun g e=>by cases e;exact hs) fun y i=>hk y ?_;rw[KF];simp[*]
theorem xc{b j:Nat}{vs ys:List Value}{t:TypeId}(a:gt S j= .cells b vs t)(e:ys=vs)(hn:j∉[0]):c4 (.dq (rest S [0])) ⟨b,0,none⟩ ys:=by
 subst e;exact c4.rest (j:=j) hn (by rw[a];exact c4.cells (fun i u hi=>by simp[*]))
theorem Ur(neg:Bool)(ds:List Nat)(nd:Nat)(h:ds.length=32):(ey neg).length<=1/\(ga ds nd).length<=32:=by
 constructor
 ·cases neg <;> decide
 ·unfold ga;cases decide (nd>1)with
  |false=>exact df _
  |true=>
   rw[aU,sJ,List.length_drop,List.length_take];omega
theorem ac3{n:Nat}(h:n<=999):∀b∈mb n,48<=b/\b<=57:=by
 unfold mb;intro b a;by_cases c:n<10
 ·grind
 ·rw[bF c,aM]at a;by_cases d:n<100
  ·grind
  ·rw[bF d,aM]at a;simp only[List.mem_cons,List.not_mem_nil,or_false]at a;omega
def J8(v0:Value)(z:fF)(e0:kq):=v0=au z.r.a z.r.n z.r.cap/\au (mq e0) 32 32=au (mq e0) 32 32/\ad e0.dp=ad e0.dp/\ad ↑e0.nd=ad ↑e0.nd/\ad (↑(e0.nd-1):Int)=ad (↑(e0.nd-1):Int)/\a8 101=a8 101/\True
def mZ(z:fF)(e1:ah):=[(0,z.r.A),(1,e1)]
def LJ(e0:kq)(e1:ah)(v0:Value)(a:St):=∃(z:fF),iW (ey e0.neg) z/\J8 v0 z e0/\aE a (mZ z e1)
def LK(e0:kq)(e1:ah)(v0 v1:Value)(a:St):=∃(z:fF),(iW (ey e0.neg) z/\z.c=ep e0.ds e0.nd)/\(v0=au z.r.a z.r.n z.r.cap/\au (mq e0) 32 32=au (mq e0) 32 32/\ad e0.dp=ad e0.dp/\ad ↑e0.nd=ad ↑e0.nd/\ad (↑(e0.nd-1):Int)=ad (↑(e0.nd-1):Int)/\a8 101=a8 101/\v1=a8 ↑z.c/\True)/\aE a (mZ z e1)
def wE(v:fF):=au v.r.a v.r.n v.r.cap
def JG(t:fF)(r:Nat):List Value:=[au t.r.a t.r.n t.r.cap,au (bI r) 1 1]
def tg(p:Row)(h:Nat):List Value:=[au p.a p.n p.cap,au (bI h) 1 1]
def Ev(p:Row)(F:ah)(r:Nat)(t:fF)(h:Nat):=[(0,p.A),(1,F),(9020,af r [a8 ↑t.c] 5),(9030,af h [a8 46] 5)]
def It(x:kq):=(-9223372036854775808:Int)<=(↑(x.nd-1):Int)+1/\(↑(x.nd-1):Int)+1<=(9223372036854775807:Int)
def LL(e0:kq)(e1:ah)(v0 v1:Value)(a:St):=∃(z:fF),iW (ey e0.neg++[ep e0.ds e0.nd]++ga e0.ds e0.nd) z/\(v0=au z.r.a z.r.n z.r.cap/\au (mq e0) 32 32=au (mq e0) 32 32/\ad e0.dp=ad e0.dp/\ad ↑e0.nd=ad ↑e0.nd/\ad (↑(e0.nd-1):Int)=ad (↑(e0.nd-1):Int)/\a8 101=a8 101/\v1=ad 0/\ad 0=ad 0/\True)/\aE a (mZ z e1)
def F7(e0:kq)(e1:ah)(v0:Value)(a:St):=∃(z:fF),iW (ey e0.neg++[ep e0.ds e0.nd]++ga e0.ds e0.nd) z/\J8 v0 z e0/\aE a (mZ z e1)
def Rb(e0:kq)(z:fF):=iW (ey e0.neg++[ep e0.ds e0.nd]++ga e0.ds e0.nd++[101]) z/\z.e=eb e0.dp e0.nd
def LM(e0:kq)(e1:ah)(v0 v1:Value)(a:St):=∃(z:fF),Rb e0 z/\(v0=au z.r.a z.r.n z.r.cap/\au (mq e0) 32 32=au (mq e0) 32 32/\ad e0.dp=ad e0.dp/\ad ↑e0.nd=ad ↑e0.nd/\ad (↑(e0.nd-1):Int)=ad (↑(e0.nd-1):Int)/\a8 101=a8 101/\v1=ad z.e/\True)/\aE a (mZ z e1)
def PU(e0:kq)(z:fF):=iW (ey e0.neg++[ep e0.ds e0.nd]++ga e0.ds e0.nd++[101]) z/\z.e=(↑(eb e0.dp e0.nd).natAbs:Int)/\z.c=l_ (eb e0.dp e0.nd)
def LN(e0:kq)(e1:ah)(v0 v1 v2:Value)(a:St):=∃(z:fF),PU e0 z/\(v0=au z.r.a z.r.n z.r.cap/\au (mq e0) 32 32=au (mq e0) 32 32/\ad e0.dp=ad e0.dp/\ad ↑e0.nd=ad ↑e0.nd/\ad (↑(e0.nd-1):Int)=ad (↑(e0.nd-1):Int)/\a8 101=a8 101/\v1=a8 ↑z.c/\v2=ad z.e/\True)/\aE a (mZ z e1)
def PP(x:kq)(a:fF):=iW (ey x.neg++[ep x.ds x.nd]++ga x.ds x.nd++[101]++[l_ (eb x.dp x.nd)]) a/\a.e=(↑(eb x.dp x.nd).natAbs:Int)
def F8(e0:kq)(e1:ah)(v0:Value)(a:St):=∃(z:fF),iW (qb e0.neg e0.ds e0.dp e0.nd) z/\J8 v0 z e0/\aE a (mZ z e1)
def P3(f:fF):=(-9223372036854775808:Int)<=f.e.tdiv (10:Int)/\f.e.tdiv (10:Int)<=(9223372036854775807:Int)
def Ru(f:fF):=0<=f.e.tdiv (10:Int)/\f.e.tdiv (10:Int)<=(255:Int)
def Rv(f:fF):=0<=f.e.tmod (10:Int)/\f.e.tmod (10:Int)<=(255:Int)
def QK(f:fF):=0<=f.e.tmod (10:Int)+(48:Int)/\f.e.tmod (10:Int)+(48:Int)<=(255:Int)
def QS(f:fF):List Value:=[a8 (f.e.tdiv (10:Int)+(48:Int)),a8 (f.e.tmod (10:Int)+(48:Int))]
def Px(f:fF):List Value:=[a8 (f.e.tdiv (100:Int)+(48:Int)),a8 ((f.e.tdiv (10:Int)).tmod (10:Int)+(48:Int)),a8 (f.e.tmod (10:Int)+(48:Int))]
theorem ac5(x:kq)(F:ah)(V:yw.cond x)(G:yw.aO x F):Br x.neg (∀(d:Nat),T3 (ba Tryz.f192 21 2) [au x.r.a x.r.n x.r.cap,au (bI d) 1 1] [x.r.A] (aH [(0,x.r.A),(1,F),(9010,af d [a8 45] 5)] [0]) (fun c b=>LJ x F (kE b) [(0,b.A),(1,F),(9010,af d [a8 45] 5)])) (LJ x F (au x.r.a x.r.n x.r.cap) [(0,x.r.A),(1,F)])/\aT fun(v:fF)_=>iW (ey x.neg) v->Br ((x.nd:Int)!=0) (iS (ba Tryz.f192 24 1) [au (mq x) 32 32,ad 0] (fun c=>iR F ⟨c.b,c.o+c.n.toNat*1,none⟩ (fun b=>LK x F (wE v) (a8 b) (mZ v F)))) (LK x F (wE v) (a8 48) (mZ v F))/\aT fun(t:fF)_=>(iW (ey x.neg) t/\t.c=ep x.ds x.nd)->∀(r:Nat),T3 (ba Tryz.f192 25 3) (JG t r) [t.r.A] (aH [(0,t.r.A),(1,F),(9020,af r [a8 ↑t.c] 5)] [0]) (fun q p=>aS ((↑(x.nd-1):Int)>0) (∀(h:Nat),T3 (ba Tryz.f192 27 2) (tg p h) [p.A] (aH (Ev p F r t h) [0]) (fun g f=>It x/\aS (1<if (↑(x.nd-1):Int)+1<(x.nd:Int) then (↑(x.nd-1):Int)+1 else (x.nd:Int)) (((0:Int)<=(1:Int)/\(1<=if (↑(x.nd-1):Int)+1<(x.nd:Int) then (↑(x.nd-1):Int)+1 else (x.nd:Int))/\(if (↑(x.nd-1):Int)+1<(x.nd:Int) then (↑(x.nd-1):Int)+1 else (x.nd:Int))<=(↑(32:Nat):Int)/\1<(↑(32:Nat):Int))/\T3 (ba Tryz.f192 31 5) [au f.a f.n f.cap,au (some ⟨x.b,1,none⟩) ((if (↑(x.nd-1):Int)+1<(x.nd:Int) then (↑(x.nd-1):Int)+1 else (x.nd:Int)).toNat-1) 31] [f.A] (aH (Ev f F r t h) [0]) (fun e d=>It x/\(((-9223372036854775808:Int)<=(↑(x.nd-1):Int)+1-if (↑(x.nd-1):Int)+1<(x.nd:Int) then (↑(x.nd-1):Int)+1 else (x.nd:Int))/\((↑(x.nd-1):Int)+1-if (↑(x.nd-1):Int)+1<(x.nd:Int) then (↑(x.nd-1):Int)+1 else (x.nd:Int))<=9223372036854775807)/\LL x F (kE d) (ad ((↑(x.nd-1):Int)+1-if (↑(x.nd-1):Int)+1<(x.nd:Int) then (↑(x.nd-1):Int)+1 else (x.nd:Int))) (Ev d F r t h)/\aT fun(c:fF)_=>iW (ey x.neg++[ep x.ds x.nd]++ga x.ds x.nd) c->F7 x F (wE c) (mZ c F))) (It x/\((-9223372036854775808:Int)<=(↑(x.nd-1):Int)+1-(1:Int)/\(↑(x.nd-1):Int)+1-(1:Int)<=(9223372036854775807:Int))/\LL x F (kE f) (ad ((↑(x.nd-1):Int)+1-(1:Int))) (Ev f F r t h)/\aT fun(c:fF)_=>iW (ey x.neg++[ep x.ds x.nd]++ga x.ds x.nd) c->F7 x F (wE c) (mZ c F)))) (F7 x F (kE p) [(0,p.A),(1,F),(9020,af r [a8 ↑t.c] 5)])/\aT fun(o:fF)_=>iW (ey x.neg++[ep x.ds x.nd]++ga x.ds x.nd) o->∀(m:Nat),T3 (ba Tryz.f192 37 3) (JG o m) [o.r.A] (aH [(0,o.r.A),(1,F),(9050,af m [a8 101] 5)] [0]) (fun l k=>((-9223372036854775808:Int)<=x.dp-1/\x.dp-1<=(9223372036854775807:Int))/\Br ((x.nd:Int)==0) (LM x F (kE k) (ad 0) [(0,k.A),(1,F),(9050,af m [a8 101] 5)]) (LM x F (kE k) (ad (x.dp-1)) [(0,k.A),(1,F),(9050,af m [a8 101] 5)])/\aT fun(j:fF)_=>Rb x j->aS (j.e<0) (LN x F (wE j) (a8 45) (ad (bU ((0:Int)-j.e))) (mZ j F)) (LN x F (wE j) (a8 43) (ad j.e) (mZ j F))/\aT fun(h:fF)_=>PU x h->(∀(d:Nat),T3 (ba Tryz.f192 45 3) (JG h d) [h.r.A] (aH [(0,h.r.A),(1,F),(9060,af d [a8 ↑h.c] 5)] [0]) (fun c b=>∃(a:fF),PP x a/\(au b.a b.n b.cap=au a.r.a a.r.n a.r.cap/\au (mq x) 32 32=au (mq x) 32 32/\ad x.dp=ad x.dp/\ad ↑x.nd=ad ↑x.nd/\ad (↑(x.nd-1):Int)=ad (↑(x.nd-1):Int)/\a8 101=a8 101/\ad h.e=ad a.e/\True)/\aE [(0,b.A),(1,F),(9060,af d [a8 ↑h.c] 5)] (mZ a F)))/\aT fun(f:fF)_=>PP x f->aS (f.e<10) ((0<=f.e/\f.e<=255)/\(0<=f.e+48/\f.e+48<=(255:Int))/\∀(d:Nat),T3 (ba Tryz.f192 48 5) [au f.r.a f.r.n f.r.cap,au (bI d) 2 2] [f.r.A] (aH [(0,f.r.A),(1,F),(9070,af d [a8 48,a8 (f.e+48)] 5)] [0]) (fun c b=>F8 x F (kE b) [(0,b.A),(1,F),(9070,af d [a8 48,a8 (f.e+48)] 5)])) (aS (f.e<100) ((10:Int)≠(0:Int)/\P3 f/\Ru f/\(0<=f.e.tdiv (10:Int)+(48:Int)/\f.e.tdiv (10:Int)+(48:Int)<=(255:Int))/\(10:Int)≠(0:Int)/\Rv f/\QK f/\∀(d:Nat),T3 (ba Tryz.f192 50 10) [au f.r.a f.r.n f.r.cap,au (bI d) 2 2] [f.r.A] (aH [(0,f.r.A),(1,F),(9080,af d (QS f) 5)] [0]) (fun c b=>F8 x F (kE b) [(0,b.A),(1,F),(9080,af d (QS f) 5)])) ((100:Int)≠(0:Int)/\((-9223372036854775808:Int)<=f.e.tdiv (100:Int)/\f.e.tdiv (100:Int)<=(9223372036854775807:Int))/\(0<=f.e.tdiv (100:Int)/\f.e.tdiv (100:Int)<=(255:Int))/\(0<=f.e.tdiv (100:Int)+(48:Int)/\f.e.tdiv (100:Int)+(48:Int)<=(255:Int))/\(10:Int)≠(0:Int)/\P3 f/\Ru f/\(10:Int)≠(0:Int)/\(0<=(f.e.tdiv (10:Int)).tmod (10:Int)+(48:Int)/\(f.e.tdiv (10:Int)).tmod (10:Int)+(48:Int)<=(255:Int))/\(10:Int)≠(0:Int)/\Rv f/\QK f/\∀(d:Nat),T3 (ba Tryz.f192 46 15) [au f.r.a f.r.n f.r.cap,au (bI d) 3 3] [f.r.A] (aH [(0,f.r.A),(1,F),(9090,af d (Px f) 5)] [0]) (fun c b=>F8 x F (kE b) [(0,b.A),(1,F),(9090,af d (Px f) 5)])))/\aT fun(b:fF)_=>iW (qb x.neg x.ds x.dp x.nd) b->ar yw x F (ax (wE b)) (mZ b F))):=by
 delta kF T3 bI mq J8 mZ LJ kE iS iR LK wE JG tg Ev It LL F7 Rb LM PU LN PP F8 P3 Ru Rv QK QS Px aH ad a8 au af bU aS ax aT;obtain⟨r0,neg,b,ds,dp,nd⟩:=x;obtain⟨D,L,R,T,U⟩:=V;replace G:c4 F ⟨b,0,none⟩ (bW ds):=G;dsimp only at D L R T U⊢;obtain⟨l1,l3⟩:=Ur neg ds nd L;have hE:(eb dp nd).natAbs<=999:=by
  unfold eb;grind
 have H:∀k,k<32->(bW ds)[k]?=some (.int .u8 (ds.getD k 0:Nat)):=fun k hk=>by
  unfold bW;simp[*]
 refine⟨aG (fun q=>fun lb=>yb (l:=[]) (m:=[45]) (jE 1 1 rfl rfl rfl rfl rfl rfl rfl (by decide)) D (by decide) (by decide) (xc (j:=9010) rfl rfl (by decide)) fun y w=>⟨⟨y,0,0⟩,by rw[q];exact w,aV,az [0,1]⟩) (fun q=>⟨⟨r0,0,0⟩,by rw[q];exact D,aV,az [0,1]⟩),?_⟩;clear D;rintro⟨r,-,-⟩ A (s:bz 5 1 (bW (ey neg)) r);refine⟨aG (fun q=>⟨h9 1 rfl rfl rfl rfl,⟨b,0,32,32,0⟩,rfl,⟨cD _,by simp[*]⟩,((ds.getD 0 0:Nat):Int),G 0 _ (H 0 (by decide)),⟨r,ds.getD 0 0,0⟩,⟨s,?_⟩,aV,az [0,1]⟩) (fun q=>⟨⟨r,48,0⟩,⟨s,?_⟩,aV,az [0,1]⟩),?_⟩
 ·show ds.getD 0 0=ep ds nd;unfold ep;grind
 ·show 48=ep ds nd;unfold ep;grind
 clear s r;rintro⟨r,c,e0⟩ A ⟨s,z⟩;replace s:bz 5 1 (bW (ey neg)) r:=s;dsimp only at z;subst z;dsimp only;intro lb;refine yb (l:=ey neg) (m:=[ep ds nd]) (jE 1 1 rfl rfl rfl rfl rfl rfl rfl (by decide)) s ae (by simp[*]) (xc (j:=9020) rfl rfl (by decide)) fun y w=>?_;refine⟨bo (fun q=>fun DO=>?_) (fun q=>⟨⟨y,0,0⟩,?_,aV,az [0,1]⟩),?_⟩
 ·have Z:nd>1:=by omega
  have e1:(((nd-1:Nat):Int)+1)=(nd:Int):=ae;rw[e1];refine yb (l:=ey neg++[ep ds nd]) (m:=[46]) (jE 1 1 rfl rfl rfl rfl rfl rfl rfl (by decide)) w (by grind) (by decide) (xc (j:=9030) rfl rfl (by decide)) fun y2 I=>?_;rw[if_neg (Int.lt_irrefl _)];have Q:((nd:Int)-(nd:Int))=0:=ae;have C:((ds.take nd).drop 1).length=nd-1:=by grind
  have key:∀B,bz 5 1 (bW (ey neg++[ep ds nd]++[46]++(ds.take nd).drop 1)) B->bz 5 1 (bW (ey neg++[ep ds nd]++ga ds nd)) B:=fun B h=>by
   unfold ga;grind
  refine⟨aK,bo (fun _=>⟨⟨by decide,ae,ae,by decide⟩,?_⟩) (fun q=>(q ae).elim)⟩;have P:((nd:Int).toNat-1)=((ds.take nd).drop 1).length:=ae;rw[P];refine yb (l:=ey neg++[ep ds nd]++[46]) (m:=(ds.take nd).drop 1) (jE 1 1 rfl rfl rfl rfl rfl rfl rfl (by decide)) I (by grind) ae ?_ fun B J=>?_
  ·refine c4.rest (j:=1) (by decide) ?_;intro j u N;have X:j<nd-1:=by
    have:=(kw.1 N).1;rw[Cy,C]at this;omega
   have:(bW ds)[1+j]?=some u:=by
    rw[<-N];unfold bW;grind
   have e:(⟨b,1,none⟩:Addr).add j=(⟨b,0,none⟩:Addr).add (1+j):=by simp[Addr.add]
   rw[e];exact G (1+j) u this
  ·rw[Q];exact⟨aK,⟨by decide,by decide⟩,⟨⟨B,0,0⟩,key B J,aV,az [0,1]⟩,fun d A hd=>⟨d,hd,aV,az [0,1]⟩⟩
 ·show bz 5 1 (bW (ey neg++[ep ds nd]++ga ds nd)) y;unfold ga;grind
 clear s r;rintro⟨r,-,-⟩ A (s:bz 5 1 (bW (ey neg++[ep ds nd]++ga ds nd)) r);intro lb;refine yb (l:=ey neg++[ep ds nd]++ga ds nd) (m:=[101]) (jE 1 1 rfl rfl rfl rfl rfl rfl rfl (by decide)) s (by grind) (by decide) (xc (j:=9050) rfl rfl (by decide)) fun y w=>?_;refine⟨aK,aG (fun q=>⟨⟨y,0,0⟩,⟨w,?_⟩,aV,az [0,1]⟩) (fun q=>⟨⟨y,0,dp-1⟩,⟨w,?_⟩,aV,az [0,1]⟩),?_⟩
 ·show 0=eb dp nd;unfold eb;grind
 ·show dp-1=eb dp nd;unfold eb;grind
 clear w s r y;rintro⟨r,O,e⟩ A ⟨s,z⟩;replace s:bz 5 1 (bW (ey neg++[ep ds nd]++ga ds nd++[101])) r:=s;dsimp only at z⊢;subst z;refine⟨bo (fun q=>⟨⟨r,45,((eb dp nd).natAbs:Nat)⟩,⟨s,rfl,?_⟩,⟨rfl,rfl,rfl,rfl,rfl,rfl,rfl,?_,ao⟩,az [0,1]⟩) (fun q=>⟨⟨r,43,((eb dp nd).natAbs:Nat)⟩,⟨s,rfl,?_⟩,⟨rfl,rfl,rfl,rfl,rfl,rfl,rfl,?_,ao⟩,az [0,1]⟩),?_⟩
 ·show 45=l_ (eb dp nd);unfold l_;simp[*]
 ·rw[dz (i:=.i64) (n:=0-eb dp nd) aK];grind
 ·show 43=l_ (eb dp nd);unfold l_;simp[*]
 ·grind
 clear s r;rintro⟨r,c,e⟩ A ⟨s,z,M⟩;replace s:bz 5 1 (bW (ey neg++[ep ds nd]++ga ds nd++[101])) r:=s;dsimp only at z M⊢;subst z M;refine⟨fun lb=>?_,?_⟩
 ·refine yb (l:=ey neg++[ep ds nd]++ga ds nd++[101]) (m:=[l_ (eb dp nd)]) (jE 1 1 rfl rfl rfl rfl rfl rfl rfl (by decide)) s (by grind) (by simp[*]) (xc (j:=9060) rfl rfl (by decide)) fun y w=>?_;exact⟨⟨y,0,((eb dp nd).natAbs:Nat)⟩,⟨w,rfl⟩,aV,az [0,1]⟩
 clear s r;rintro⟨r,O,e⟩ A ⟨s,z⟩;replace s:bz 5 1 (bW (ey neg++[ep ds nd]++ga ds nd++[101]++[l_ (eb dp nd)])) r:=s;dsimp only at z⊢;subst z;have fin:∀y,bz 5 1 (bW (ey neg++[ep ds nd]++ga ds nd++[101]++[l_ (eb dp nd)]++mb (eb dp nd).natAbs)) y->iW (qb neg ds dp nd) ⟨y,0,0⟩:=fun y h=>h;generalize W:(eb dp nd).natAbs=n at*;have t1:((n:Nat):Int).tdiv 10=((n/10:Nat):Int):=(Int.ofNat_tdiv n 10).symm;have t2:((n:Nat):Int).tmod 10=((n%10:Nat):Int):=(Int.ofNat_tmod n 10).symm;have t3:((n:Nat):Int).tdiv 100=((n/100:Nat):Int):=(Int.ofNat_tdiv n 100).symm;have t4:((n/10:Nat):Int).tmod 10=((n/10%10:Nat):Int):=(Int.ofNat_tmod (n/10) 10).symm;rw[t1,t2,t3,t4];have E:∀m:List Nat,mb n=m->m.length<=3->∀{o:Oper}{a:Addr}{c:Nat}{S:St}{K:oZ->Row->Prop},e5 Tryz.prog o (de 5 1 1)->c4 (.dq (rest S [0])) a (bW m)->(∀y,iW (qb neg ds dp nd) ⟨y,0,0⟩->K ⟨r,bW (ey neg++[ep ds nd]++ga ds nd++[101]++[l_ (eb dp nd)]),some a,m.length,c,bW m⟩ y)->_:=fun m hm Y o a c S K ho hs hk=>yb (l:=ey neg++[ep ds nd]++ga ds nd++[101]++[l_ (eb dp nd)]) (m:=m) (a:=a) (c:=c) (S:=S) (K:=K) ho s (by simp only[eS,A3];omega) ae hs fun y w=>hk y (fin y (by grind));refine⟨bo (fun q=>⟨aK,aK,fun lb=>?_⟩) (fun q=>bo (fun q2=>⟨by decide,aK,aK,aK,by decide,aK,aK,fun lb=>?_⟩) (fun q2=>⟨by decide,aK,aK,aK,by decide,aK,aK,by decide,aK,by decide,aK,aK,fun lb=>?_⟩)),?_⟩
 ·refine E [48,n+48] (by unfold mb;rw[bv (show n<10 by omega),aU]) aL (jE 1 1 rfl rfl rfl rfl rfl rfl rfl (by decide)) (xc (j:=9070) rfl rfl (by decide)) fun y w=>⟨⟨y,0,0⟩,w,aV,az [0,1]⟩
 ·refine E [n/10+48,n%10+48] (by unfold mb;rw[bF (show ¬n<10 by omega),bv (show n<100 by omega)];rfl) aL (jE 1 1 rfl rfl rfl rfl rfl rfl rfl (by decide)) (xc (j:=9080) rfl rfl (by decide)) fun y w=>⟨⟨y,0,0⟩,w,aV,az [0,1]⟩
 ·refine E [n/100+48,n/10%10+48,n%10+48] (by unfold mb;rw[bF (show ¬n<10 by omega),bF (show ¬n<100 by omega)];rfl) aL (jE 1 1 rfl rfl rfl rfl rfl rfl rfl (by decide)) (xc (j:=9090) rfl rfl (by decide)) fun y w=>⟨⟨y,0,0⟩,w,aV,az [0,1]⟩
 clear s fin E r;rintro⟨r,-,-⟩ A (s:bz 5 1 (bW (qb neg ds dp nd)) r);exact⟨r,s,rfl,az [0,1]⟩
theorem ac4:aC 192 yw:=fo 272 Tryz.func192 (fun _ _=>[(24,1,.qo (gb 1)),(24,2,.q [.ex 1 (.int .u8)]),(21,1,.n 9010),(21,2,dV (de 5 1 1)),(25,2,.n 9020),(25,3,dV (de 5 1 1)),(27,1,.n 9030),(27,2,dV (de 5 1 1)),(31,5,dV (de 5 1 1)),(35,1,.n 9040),(35,2,dV (de 5 1 1)),(37,2,.n 9050),(37,3,dV (de 5 1 1)),(45,2,.n 9060),(45,3,dV (de 5 1 1)),(48,3,.ck),(48,4,.n 9070),(48,5,dV (de 5 1 1)),(50,4,.ck),(50,8,.ck),(50,9,.n 9080),(50,10,dV (de 5 1 1)),(46,4,.ck),(46,9,.ck),(46,8,.ck),(46,13,.ck),(46,14,.n 9090),(46,15,dV (de 5 1 1))]) [] ac1 acZ bA [] ac5
end
section
open Go
theorem Uo{z k:Int}(a:0<=z)(b:z<18446744073709551616)(hk:1<=k):0<=z.fdiv k/\z.fdiv k<18446744073709551616:=by
 rw[Int.fdiv_eq_ediv_of_nonneg _ ae];exact⟨Int.ediv_nonneg a ae,Int.lt_of_le_of_lt (Int.ediv_le_self k a) b⟩
variable{e:Int}{a m n:Nat}{tb:Nat->Nat}
theorem ajz(b: -1137<=e)(c:e<=960): -347<(fV m e).p/\(fV m e).p<347:=by
 have f:11<=fu e/\fu e<=63/\ -1085<=e+fu e/\e+fu e<=971:=by
  unfold fu;by_cases q:e>= -1085
  all_goals grind
 unfold fV;cases a:lS m e with
 |true=>
  have d:e> -1085:=by
   unfold lS at a;grind
  rw[aU];exact(wh (k:=e+(63-52)) ae ae).2.2.2
 |false=>
  rw[aM];exact(wh (k:=e+fu e) ae ae).2.2.1
theorem ajC(a: -1137<=e)(b:e<=960):(qD tb m e).1<18446744073709551616/\ -400<=(qD tb m e).2/\(qD tb m e).2<=400:=by
 obtain⟨f,g⟩:=ajz (m:=m) a b;unfold qD vf;generalize fV m e=d at f g⊢;have w1:i64.wrap (0-(d.p-1))=0-(d.p-1):=dz (i:=.i64) aK;have h:i64.wrap (0-d.p)=0-d.p:=dz (i:=.i64) aK;rw[w1,h];have c:∀u,oi u<18446744073709551616:=fun u=>by
  unfold oi;have:=fW (u+3);exact(Uo this.1 ae (by decide)).2
 have r:∀u,nS u<18446744073709551616:=fun u=>by
  unfold nS;have:=fW (u64.wrap (u+1)+u64.wrap (↑(BitVec.ofInt u64.bits (u.fdiv (2^min (Int.toNat 2) u64.bits))&&& BitVec.ofInt u64.bits 1).toNat:Int));exact(Uo this.1 ae (by decide)).2
 by_cases q:u64.wrap (u64.wrap ((oL tb e d).tdiv 10)*10)>=qC tb e d
 ·rw[bv q,aU];have:=fW ((oL tb e d).tdiv 10);omega
 ·rw[bF q,aM];by_cases q2:qC tb e d<oL tb e d
  ·grind
  ·rw[bF q2,aM];dsimp only;have:=c (sW ⟨ig (mz tb e d.lo d.p),d.od⟩);unfold qC;omega
theorem abd:∀(k x:Nat),x<18446744073709551616->Lib.bitLen x=k+1->2^k<=x/\x<2^(k+1):=by
 intro k
 induction k with
 |zero=>
  intro x hx h;have a:x≠0:=by intro e;subst e;exact absurd h (by decide)
  rw[Lib.bitLen_half x a hx]at h;by_cases b:x/2=0
  ·omega
  ·have:=Lib.bitLen_half (x/2) b ae;omega
 |succ k c=>
  intro x hx h;have a:x≠0:=by
   intro e;subst e;have:Lib.bitLen 0=0:=by rfl
   omega
  rw[Lib.bitLen_half x a hx]at h;grind
theorem Tr{x:Nat}(d:x≠0)(hx:x<18446744073709551616):1<=Lib.bitLen x/\Lib.bitLen x<=64/\9223372036854775808<=x*2^(64-Lib.bitLen x)/\x*2^(64-Lib.bitLen x)<18446744073709551616:=by
 have e:Lib.bitLen x<=64:=Lib.bitLen_le x 64 ae ae;have f:=Lib.bitLen_half x d hx;obtain⟨k,hk⟩:∃k,Lib.bitLen x=k+1:=⟨Lib.bitLen (x/2),ae⟩;obtain⟨a,b⟩:=abd k x hx hk;rw[hk];have e1:2^k*2^(64-(k+1))=9223372036854775808:=by
  rw[<-Nat.pow_add,show k+(64-(k+1))=63 by omega]
 have c:2^(k+1)*2^(64-(k+1))=18446744073709551616:=by
  grind
 have p:0<2^(64-(k+1)):=Nat.pow_pos (by decide);refine⟨ae,ae,?_,?_⟩
 ·rw[<-e1];exact Nat.mul_le_mul_right _ a
 ·rw[<-c];exact Nat.mul_lt_mul_of_pos_right b p
def lF(n:Nat):Nat:=n/4503599627370496%2048
def nB(n:Nat):Nat:=n%4503599627370496
def mO(n:Nat):Int:=(bif lF n==0 then 1 else (lF n:Int))+ -1023
def eU(n:Nat):Nat:=bif lF n==0 then nB n else nB n+4503599627370496
def jl(n:Nat):Bool:=(n:Int).fdiv (2^min (Int.toNat (11+52)) u64.bits)!=0
structure n5(n:Nat):Prop where
 lo:0<n%9223372036854775808
 hi:n%9223372036854775808<9218868437227405312
theorem n5.V5(h:n5 n):lF n<2047/\eU n≠0/\eU n<9007199254740992/\ -1022<=mO n/\mO n<=1023/\nB n<4503599627370496:=by
 obtain⟨c,d⟩:=h;have hx:lF n=n%9223372036854775808/4503599627370496:=by unfold lF;omega
 have e:nB n=n%9223372036854775808%4503599627370496:=by unfold nB;omega
 have b:lF n<2047:=ae;have a:nB n<4503599627370496:=ae;unfold eU mO;grind
theorem Tf(x:Int)(k:Nat)(hk:k<=63):((BitVec.ofInt 64 x&&& BitVec.ofInt 64 ((2^k-1:Nat):Int)).toNat)=(x%18446744073709551616).toNat%2^k:=by
 have hp:2^k<=2^63:=mN (by decide) hk;have e:(2:Nat)^63=9223372036854775808:=by decide
 rw[BitVec.toNat_and,BitVec.toNat_ofInt,BitVec.toNat_ofInt,show((2^64:Nat):Int)=18446744073709551616 by decide];rw[show(((2^k-1:Nat):Int)%18446744073709551616).toNat=2^k-1 by omega,Nat.and_two_pow_sub_one_eq_mod]
theorem agS(h:a<4503599627370496):((BitVec.ofInt 64 (a:Int)|||BitVec.ofInt 64 4503599627370496).toNat)=a+4503599627370496:=by
 rw[BitVec.toNat_or,BitVec.toNat_ofInt,BitVec.toNat_ofInt,show((2^64:Nat):Int)=18446744073709551616 by decide];rw[show((a:Int)%18446744073709551616).toNat=a by omega,show((4503599627370496:Int)%18446744073709551616).toNat=2^52*1 by decide,Nat.or_comm,<-Nat.two_pow_add_eq_or_of_lt (i:=52) ae];omega
theorem adp(z:Int):i64.wrap (↑(BitVec.ofInt i64.bits z&&& BitVec.ofInt i64.bits (i64.wrap (i64.wrap (1*2^min (Int.toNat 11) i64.bits)-1))).toNat:Int)=(((z%18446744073709551616).toNat%2048:Nat):Int):=by
 have e1:i64.wrap (i64.wrap (1*2^min (Int.toNat 11) i64.bits)-1)=((2^11-1:Nat):Int):=by decide
 have a:=Tf z 11 (by decide);rw[e1];have b:(BitVec.ofInt i64.bits z&&& BitVec.ofInt i64.bits ((2^11-1:Nat):Int)).toNat=(z%18446744073709551616).toNat%2048:=a;rw[b];exact dz (i:=.i64) aK
theorem adq(m:Nat):((i64.wrap (m:Int))%18446744073709551616).toNat%2048=m%2048:=by
 rw[IntKind.wrap_i64];omega
theorem adn(n:Nat):(n:Int).fdiv (2^min (Int.toNat 52) u64.bits)=((n/4503599627370496:Nat):Int):=by
 rw[show min (Int.toNat 52) u64.bits=52 from rfl,Int.fdiv_eq_ediv_of_nonneg _ (by decide),show(2:Int)^52=4503599627370496 by decide];omega
theorem ado(n:Nat):i64.wrap (↑(BitVec.ofInt i64.bits (i64.wrap ((n:Int).fdiv (2^min (Int.toNat 52) u64.bits)))&&& BitVec.ofInt i64.bits (i64.wrap (i64.wrap (1*2^min (Int.toNat 11) i64.bits)-1))).toNat:Int)=(lF n:Int):=by
 rw[adp,adn,adq];rfl
theorem adr(n:Nat):u64.wrap (↑(BitVec.ofInt u64.bits (n:Int)&&& BitVec.ofInt u64.bits (u64.wrap (u64.wrap (1*2^min (Int.toNat 52) u64.bits)-1))).toNat:Int)=(nB n:Int):=by
 have e1:u64.wrap (u64.wrap (1*2^min (Int.toNat 52) u64.bits)-1)=((2^52-1:Nat):Int):=by decide
 have a:=Tf (n:Int) 52 (by decide);rw[e1];have b:(BitVec.ofInt u64.bits (n:Int)&&& BitVec.ofInt u64.bits ((2^52-1:Nat):Int)).toNat=nB n:=by
  refine Eq.trans a ?_;unfold nB;omega
 rw[b];exact dz (i:=.u64) ⟨ae,by unfold nB;omega⟩
theorem adt(h:a<4503599627370496):u64.wrap (↑(BitVec.ofInt u64.bits (a:Int)|||BitVec.ofInt u64.bits (u64.wrap (1*2^min (Int.toNat 52) u64.bits))).toNat:Int)=((a+4503599627370496:Nat):Int):=by
 rw[show u64.wrap (1*2^min (Int.toNat 52) u64.bits)=4503599627370496 by decide];have:(BitVec.ofInt u64.bits (a:Int)|||BitVec.ofInt u64.bits 4503599627370496).toNat=a+4503599627370496:=agS h;rw[this];exact dz (i:=.u64) aK
def qe(tb:Nat->Nat)(n:Nat):Int×Int:=qD tb (eU n*2^(64-Lib.bitLen (eU n))) (mO n-(64-Lib.bitLen (eU n):Int)-52)
def sK(tb:Nat->Nat)(n:Nat):List Nat:=
 let q:=qe tb n
 qb (jl n) (jG q.1.toNat (Lib.nDigits q.1.toNat) 32) (Lib.nDigits q.1.toNat+q.2) (jz q.1.toNat (Lib.nDigits q.1.toNat) (Lib.nDigits q.1.toNat))
theorem UA(c:∀i,tb i<18446744073709551616)(hp:∀i,i<696->9223372036854775808<=tb (i*2))(h:n5 n):1<=(qe tb n).1/\(qe tb n).1<18446744073709551616/\ -400<=(qe tb n).2/\(qe tb n).2<=400:=by
 obtain⟨a1,a2,a3,a4,a5,d⟩:=h.V5;obtain⟨e,f,b3,b4⟩:=Tr a2 ae;have b5:Lib.bitLen (eU n)<=53:=Lib.bitLen_le _ 53 ae ae;have a: -1137<=mO n-(64-Lib.bitLen (eU n):Int)-52:=ae;have b:mO n-(64-Lib.bitLen (eU n):Int)-52<=960:=ae;have r:=ajC (tb:=tb) (m:=eU n*2^(64-Lib.bitLen (eU n))) a b;exact⟨ajA b3 b4 a b c hp,r.1,r.2.1,r.2.2⟩
end
end Go.Proofs.YtdkchodgklpomaaGreatDoor
