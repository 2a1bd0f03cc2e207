/- Part of the proof that ParseShape answers true at every input. -/
import Derived.Test.YtdkchodgklpomaaGreatDoorPSai
set_option linter.all false
namespace Go.Proofs.YtdkchodgklpomaaGreatDoor
set_option maxRecDepth 100000
open Go.Value (int slice string bool pointer agg tuple func float iface nilIface)
open Go.IntKind (i64 u8 u64 i32 u32 u16 i8 i16)
open Go.FloatKind (f64)
open Go.Ending (returned panicked)
section
open Go
def okS(k:Int):Bool:=decide (-k<=dL (0-qx k))&&decide (dL (0-qx k)<= -k+4)&&decide (-k<=dL (0-qL k))&&decide (dL (0-qL k)<= -k+5)&&decide (-347<0-qx k)&&decide (0-qx k<347)&&decide (-347<0-qL k)&&decide (0-qL k<347)
theorem alX:(List.range 2100).all (fun n=>okS ((n:Int)-1100))=true:=by decide+kernel
theorem zM{k:Int}(h1: -1100<=k)(h2:k<1000):(-k<=dL (0-qx k)/\dL (0-qx k)<= -k+4)/\(-k<=dL (0-qL k)/\dL (0-qL k)<= -k+5)/\(-347<0-qx k/\0-qx k<347)/\ -347<0-qL k/\0-qL k<347:=by
 have h:=List.all_eq_true.1 alX (k+1100).toNat (List.mem_range.2 af);rw[show(((k+1100).toNat:Nat):Int)-1100=k by omega]at h;simp only[okS,kT,decide_eq_true_eq]at h;omega
structure sA where
 m:Nat
 e:Int
 tb:Nat->Nat
structure rk where
 lo:Nat
 hi:Nat
 od:Int
 p:Int
 b:Nat
def qK(k:Int):Int:=u64.wrap (1*2^min k.toNat u64.bits)
def yR(m:Nat)(z:Int):Int:=i64.wrap ((BitVec.ofInt i64.bits (i64.wrap ((m:Int).fdiv (2^min z.toNat u64.bits)))&&& BitVec.ofInt i64.bits 1).toNat:Int)
def fN(e:Int):Int:=bif decide (e>= -1085) then 63-52 else 63-52+(-1085-e)
def nH(m:Nat)(e:Int):Bool:=bif (m:Int)==9223372036854775808 then decide (e> -1085) else false
def gy(m:Nat)(e:Int):rk:=
 bif nH m e then ⟨(u64.wrap ((m:Int)-qK (63-52-2))).toNat,(u64.wrap ((m:Int)+qK (63-52-1))).toNat,yR m (63-52),0-qL (e+(63-52)),0⟩
 else ⟨(u64.wrap ((m:Int)-qK (fN e-1))).toNat,(u64.wrap ((m:Int)+qK (fN e-1))).toNat,yR m (fN e),0-qx (e+fN e),0⟩
def oH(tb:Nat->Nat)(e:Int)(u:Nat)(p:Int):oP:=⟨u,0,tb ((p+348).toNat*2),tb ((p+348).toNat*2+1),(-(e+dL p+3)).toNat⟩
def tN(tb:Nat->Nat)(e:Int)(d:rk):Int:=qj (wd ⟨jg (oH tb e d.lo d.p),d.od⟩)
def qJ(tb:Nat->Nat)(e:Int)(d:rk):Int:=vJ (wd ⟨jg (oH tb e d.hi d.p),i64.wrap (0-d.od)⟩)
def yS(tb:Nat->Nat)(m:Nat)(e:Int)(d:rk):Int×Int:=
 bif decide (u64.wrap (u64.wrap ((qJ tb e d).tdiv 10)*10)>=tN tb e d) then (u64.wrap ((qJ tb e d).tdiv 10),i64.wrap (0-(d.p-1)))
 else bif decide (tN tb e d<qJ tb e d) then (pZ (jg (oH tb e m d.p)),i64.wrap (0-d.p)) else (tN tb e d,i64.wrap (0-d.p))
def tO(tb:Nat->Nat)(m:Nat)(e:Int):Int×Int:=yS tb m e (gy m e)
structure Xw where
 d:Int
 p:Int
def yQ:aR where
 X:=sA
 Y:=Xw
 args x:=[aA x.m,ae x.e]
 cond x:=(9223372036854775808<=x.m/\x.m<18446744073709551616)/\(-1137<=x.e/\x.e<=960)/\(∀i,x.tb i<18446744073709551616)
 aQ x F:=∀i,i<1392->aO F ⟨15,i,none⟩ (.int .u64 (x.tb i))
 cd x y:=tO x.tb x.m x.e=(y.d,y.p)
 val _ y:=.returned (.tuple #[.int .u64 y.d,.int .i64 y.p])
 eX _ _ _ hs h:=fun i hi=>(h i hi).sub hs
def CI(x:sA)(d:rk):Prop:=d.lo<18446744073709551616/\d.hi<18446744073709551616/\(-347<d.p/\d.p<347)/\(0<= -(x.e+dL d.p+3)/\ -(x.e+dL d.p+3)<64)/\tO x.tb x.m x.e=yS x.tb x.m x.e d
def E4(d:rk):Option Addr:=some ⟨d.b,0,none⟩
def aoI(x:sA)(F:ai):Nat->Option Inv:=fun
 |27=>some {X:=rk,P:=fun d=>CI x d,mu:=fun _=>0,lv:=fun d=>[(0,aA x.m),(1,ae x.e),(5,ae d.p),(8,aA d.lo),(9,aA d.hi),(10,ae d.od)],st:=fun _=>[F]}
 |29=>some {X:=rk,P:=fun d=>CI x d,mu:=fun _=>0,lv:=fun d=>[(0,aA x.m),(1,ae x.e),(5,ae d.p),(8,aA d.lo),(9,aA d.hi),(10,ae d.od),(12,ah (E4 d))],st:=fun d=>[F,ag d.b [aA (x.tb ((d.p+348).toNat*2)),aA (x.tb ((d.p+348).toNat*2+1)),ae (-(x.e+dL d.p+3))] 178]}
 |_=>none
def L9:=(-9223372036854775808:Int)<=(63:Int)-(52:Int)-(1:Int)/\(63:Int)-(52:Int)-(1:Int)<=(9223372036854775807:Int)
def Nf:List Value:=[aA 1,ae ((63:Int)-(52:Int)-(1:Int))]
def Pp(e0:sA)(e1:ai)(v0 v1 v2 v3:Value)(ss:St):=∃(z:rk),CI e0 z/\(aA ↑e0.m=aA ↑e0.m/\ae e0.e=ae e0.e/\v0=ae z.p/\v1=aA ↑z.lo/\v2=aA ↑z.hi/\v3=ae z.od/\True)/\aD ss [(0,e1)]
def Vy(x:sA)(d:Int×Int):=aA (bc (x.m-bc (d.fst*2^min d.snd.toNat u64.bits)))
def Vx(x:sA)(c:Int×Int):=aA (bc (x.m+bc (c.fst*2^min c.snd.toNat u64.bits)))
def TG(b:Int×Int):=ae (bY (↑(iC (bY (b.fst.fdiv ((2:Int)^min b.snd.toNat u64.bits)))&&& iC (1:Int)).toNat:Int))
def Pq(aa:List Value)(k0:nP->Unit->Prop):=aC 185 BQ/\true=true/\∃(z:nP),aa=[ae z.i]/\([]:List ai)=[]/\Ij z/\True/\∀(u0:Unit),True->k0 z u0
def Tc(x:sA)(F:ai)(f:nP)(d c:Int×Int):Int×Int->Prop:=fun b=>Pp x F (ae (bY ((0:Int)-qx f.i))) (Vy x d) (Vx x c) (TG b) [(0,F)]
def Up(x:sA):=(-9223372036854775808:Int)<=(63:Int)-52+((-1085:Int)-x.e)-1/\(63:Int)-52+((-1085:Int)-x.e)-1<=(9223372036854775807:Int)
def Te(x:sA)(F:ai):=aP (x.e>=(-1085:Int)) (bT (x.e+((63:Int)-(52:Int)))/\Pq [ae (x.e+((63:Int)-(52:Int)))] (fun f e=>L9/\rm (a8 Tryz.f198 19 3) Nf (fun d=>L9/\rm (a8 Tryz.f198 20 3) Nf (fun c=>xf (a8 Tryz.f198 21 2) [aA ↑x.m,ae ((63:Int)-(52:Int))] (Tc x F f d c))))) (bT ((-1085:Int)-x.e)/\bT ((63:Int)-52+((-1085:Int)-x.e))/\bT (x.e+((63:Int)-52+((-1085:Int)-x.e)))/\Pq [ae (x.e+((63:Int)-52+((-1085:Int)-x.e)))] (fun f e=>Up x/\rm (a8 Tryz.f198 24 3) [aA 1,ae ((63:Int)-52+((-1085:Int)-x.e)-1)] (fun d=>Up x/\rm (a8 Tryz.f198 25 3) [aA 1,ae ((63:Int)-52+((-1085:Int)-x.e)-1)] (fun c=>xf (a8 Tryz.f198 26 2) [aA ↑x.m,ae ((63:Int)-52+((-1085:Int)-x.e))] (Tc x F f d c)))))
def Ab(F:ai)(a:rk)(x:sA):=[(0,F),(1,ag a.b [aA (↑(x.tb ((a.p+348).toNat*2)):Int),aA (↑(x.tb ((a.p+348).toNat*2+1)):Int),ae (-(x.e+dL a.p+3))] 178)]
def Pt(aa:List Value)(k0:Do->Unit->Prop):=aC 207 BW/\true=true/\∃(z:Do),aa=[aA z.u,ae z.d]/\([]:List ai)=[]/\True/\True/\∀(u0:Unit),True->k0 z u0
theorem aoN(x:sA)(F:ai)(hc:yQ.cond x)(hr:yQ.aQ x F):((-9223372036854775808:Int)<=(63:Int)-(52:Int)/\(63:Int)-(52:Int)<=(9223372036854775807:Int))/\Br ((x.m:Int)==9223372036854775808) (aP (x.e>(-1085:Int)) (bT (x.e+((63:Int)-(52:Int)))/\aC 206 Fl/\true=true/\∃(f:nP),[ae (x.e+((63:Int)-(52:Int)))]=[ae f.i]/\([]:List ai)=[]/\Ij f/\True/\∀(e:Unit),True->((-9223372036854775808:Int)<=(63:Int)-(52:Int)-(2:Int)/\(63:Int)-(52:Int)-(2:Int)<=(9223372036854775807:Int))/\rm (a8 Tryz.f198 14 3) [aA 1,ae ((63:Int)-(52:Int)-(2:Int))] (fun d=>L9/\rm (a8 Tryz.f198 15 3) Nf (fun c=>xf (a8 Tryz.f198 16 2) [aA ↑x.m,ae ((63:Int)-(52:Int))] (fun b=>Pp x F (ae (bY ((0:Int)-qL f.i))) (Vy x d) (Vx x c) (TG b) [(0,F)])))) (Te x F)) (Te x F)/\aS fun(u:rk)_=>CI x u->∀(s:Nat),JK [ae u.p] (fun e d=>JL [ah (bJ s),ae x.e,ae u.p,ae ((e.i*108853).fdiv ((2:Int)^min (Int.toNat (15:Int)) i64.bits))] [ag s ES 178] (aH [(0,F),(5000,ag s ES 178)] [5000]) (fun c b=>∃(a:rk),CI x a/\(aA ↑x.m=aA ↑x.m/\ae x.e=ae x.e/\ae u.p=ae a.p/\aA ↑u.lo=aA ↑a.lo/\aA ↑u.hi=aA ↑a.hi/\ae u.od=ae a.od/\ah (bJ s)=ah (E4 a)/\True)/\aD (Hx F c) (Ab F a x)))/\aS fun(r:rk)_=>CI x r->Dp [aA ↑r.lo,ah (E4 r)] (aH (Ab F r x) []) (fun p o=>Pt [aA (jg p),ae r.od] (fun n m=>aC 208 (jL qj)/\true=true/\∃(l:sB),[aA (wd n)]=[aA l.u]/\([]:List ai)=[]/\ET l/\True/\∀(k:Unit),True->Dp [aA ↑r.hi,ah (E4 r)] (aH (Ab F r x) []) (fun j i=>Pt [aA (jg j),ae (bY ((0:Int)-r.od))] (fun h g=>aC 209 (jL vJ)/\true=true/\∃(f:sB),[aA (wd h)]=[aA f.u]/\([]:List ai)=[]/\ET f/\True/\∀(e:Unit),True->aP (bc (bc ((vJ f.u).tdiv (10:Int))*10)>=qj l.u) (((-9223372036854775808:Int)<=r.p-1/\r.p-1<=(9223372036854775807:Int))/\aq yQ x F (az (tuple ⟨[aA (bc ((vJ f.u).tdiv (10:Int))),ae (bY ((0:Int)-(r.p-1)))]⟩)) (Ab F r x)) (aP (qj l.u<vJ f.u) (Dp [aA ↑x.m,ah (E4 r)] (aH (Ab F r x) []) (fun d c=>JM [aA (jg d)] (fun b a=>aq yQ x F (az (tuple ⟨[aA (pZ b.u),ae (bY ((0:Int)-r.p))]⟩)) (Ab F r x)))) (aq yQ x F (az (tuple ⟨[aA (qj l.u),ae (bY ((0:Int)-r.p))]⟩)) (Ab F r x))))))):=by
 delta Ij rm L9 Nf xf Pp Vy Vx TG Pq Tc Up Te JK JL bJ ES E4 Hx Ab Am Dp Pt ET JM aH bT ae aA ah ag iC bc bY aP az aS;obtain⟨m,e,tb⟩:=x;obtain⟨⟨h1,h2⟩,⟨h3,h4⟩,h5⟩:=hc;replace hr:∀i,i<1392->aO F ⟨15,i,none⟩ (.int .u64 (tb i)):=hr;dsimp only at h1 h2 h3 h4 h5⊢;have P0:aD [(0,F)] [(0,F)]:=aB [0];have uN:∀z:Int,u64.wrap z=(((u64.wrap z).toNat:Nat):Int)/\(u64.wrap z).toNat<18446744073709551616:=fun z=>by
  have:=gB z;omega
 have oth:nH m e=false->gy m e=⟨(u64.wrap ((m:Int)-qK (fN e-1))).toNat,(u64.wrap ((m:Int)+qK (fN e-1))).toNat,yR m (fN e),0-qx (e+fN e),0⟩:=fun hT=>by
  unfold gy;grind
 have top:nH m e=true->gy m e=⟨(u64.wrap ((m:Int)-qK (63-52-2))).toNat,(u64.wrap ((m:Int)+qK (63-52-1))).toNat,yR m (63-52),0-qL (e+(63-52)),0⟩:=fun hT=>by
  unfold gy;grind
 have heT:nH m e=true->e> -1085:=fun hT=>by
  unfold nH at hT;grind
 have hz:11<=fN e/\fN e<=63/\ -1085<=e+fN e/\e+fN e<=971:=by
  unfold fN;by_cases q:e>= -1085
  all_goals grind
 have hG:CI ⟨m,e,tb⟩ (gy m e):=by
  cases hT:nH m e with
  |true=>
   have he:e> -1085:=by
    simp[*]
   obtain⟨-,⟨a1,a2⟩,-,b1,b2⟩:=zM (k:=e+(63-52)) af af;refine⟨?_,?_,?_,?_,rfl⟩
   all_goals grind
  |false=>
   obtain⟨⟨a1,a2⟩,-,⟨b1,b2⟩,-⟩:=zM (k:=e+fN e) af af;refine⟨?_,?_,?_,?_,rfl⟩
   all_goals grind
 have oe:∀z,fN e=z->nH m e=false->int .i64 (i64.wrap (0-qx (e+z)))= .int .i64 (gy m e).p/\int .u64 (u64.wrap ((m:Int)-u64.wrap (1*2^min (z-1).toNat u64.bits)))= .int .u64 ((gy m e).lo:Nat)/\int .u64 (u64.wrap ((m:Int)+u64.wrap (1*2^min (z-1).toNat u64.bits)))= .int .u64 ((gy m e).hi:Nat)/\int .i64 (yR m z)= .int .i64 (gy m e).od:=by
  rintro z rfl hT;obtain⟨-,-,⟨b1,b2⟩,-⟩:=zM (k:=e+fN e) af af;rw[oth hT];dsimp only;rw[<-(uN _).1,<-(uN _).1];exact⟨congrArg _ (dA (i:=.i64) (n:=0-qx (e+fN e)) aJ),rfl,rfl,rfl⟩
 have te:nH m e=true->int .i64 (i64.wrap (0-qL (e+(63-52))))= .int .i64 (gy m e).p/\int .u64 (u64.wrap ((m:Int)-u64.wrap (1*2^min (63-52-2:Int).toNat u64.bits)))= .int .u64 ((gy m e).lo:Nat)/\int .u64 (u64.wrap ((m:Int)+u64.wrap (1*2^min (63-52-1:Int).toNat u64.bits)))= .int .u64 ((gy m e).hi:Nat)/\int .i64 (yR m (63-52))= .int .i64 (gy m e).od:=by
  intro hT;have:=heT hT;obtain⟨-,-,-,b1,b2⟩:=zM (k:=e+(63-52)) af af;rw[top hT];dsimp only;rw[<-(uN _).1,<-(uN _).1];exact⟨congrArg _ (dA (i:=.i64) (n:=0-qL (e+(63-52))) aJ),rfl,rfl,rfl⟩
 refine⟨⟨by decide,by decide⟩,aG (fun q=>bl (fun q1=>?_) (fun q1=>bl (fun q2=>?_) (fun q2=>?_))) (fun q=>bl (fun q2=>?_) (fun q2=>?_)),?_⟩
 ·obtain⟨e1,e2,e3,e4⟩:=te (by unfold nH;simp[*]);exact⟨aJ,ao0,rfl,⟨e+(63-52)⟩,rfl,rfl,⟨by grind,by grind⟩,ao,fun _ _=>⟨⟨by decide,by decide⟩,pj rfl,(1,63-52-2),rfl,by decide,⟨by decide,by decide⟩,pj rfl,(1,63-52-1),rfl,by decide,AE rfl,(m,63-52),rfl,(show(0:Int)<=63-52 by decide),gy m e,hG,⟨rfl,rfl,e1,e2,e3,e4,ao⟩,P0⟩⟩
 ·have hT:nH m e=false:=by grind
  have BL:fN e=63-52:=by unfold fN;simp[*]
  obtain⟨e1,e2,e3,e4⟩:=oe _ BL hT;exact⟨aJ,K9,rfl,⟨e+(63-52)⟩,rfl,rfl,⟨by grind,by grind⟩,ao,fun _ _=>⟨⟨by decide,by decide⟩,pj rfl,(1,63-52-1),rfl,by decide,⟨by decide,by decide⟩,pj rfl,(1,63-52-1),rfl,by decide,AE rfl,(m,63-52),rfl,(show(0:Int)<=63-52 by decide),gy m e,hG,⟨rfl,rfl,e1,e2,e3,e4,ao⟩,P0⟩⟩
 ·have hT:nH m e=false:=by grind
  have BL:fN e=63-52+(-1085-e):=by unfold fN;simp[*]
  obtain⟨e1,e2,e3,e4⟩:=oe _ BL hT;exact⟨aJ,aJ,aJ,K9,rfl,⟨e+(63-52+(-1085-e))⟩,rfl,rfl,⟨by grind,by grind⟩,ao,fun _ _=>⟨aJ,pj rfl,(1,63-52+(-1085-e)-1),rfl,af,aJ,pj rfl,(1,63-52+(-1085-e)-1),rfl,af,AE rfl,(m,63-52+(-1085-e)),rfl,af,gy m e,hG,⟨rfl,rfl,e1,e2,e3,e4,ao⟩,P0⟩⟩
 ·have hT:nH m e=false:=by unfold nH;simp[*]
  have BL:fN e=63-52:=by unfold fN;simp[*]
  obtain⟨e1,e2,e3,e4⟩:=oe _ BL hT;exact⟨aJ,K9,rfl,⟨e+(63-52)⟩,rfl,rfl,⟨by grind,by grind⟩,ao,fun _ _=>⟨⟨by decide,by decide⟩,pj rfl,(1,63-52-1),rfl,by decide,⟨by decide,by decide⟩,pj rfl,(1,63-52-1),rfl,by decide,AE rfl,(m,63-52),rfl,(show(0:Int)<=63-52 by decide),gy m e,hG,⟨rfl,rfl,e1,e2,e3,e4,ao⟩,P0⟩⟩
 ·have hT:nH m e=false:=by grind
  have BL:fN e=63-52+(-1085-e):=by unfold fN;simp[*]
  obtain⟨e1,e2,e3,e4⟩:=oe _ BL hT;exact⟨aJ,aJ,aJ,K9,rfl,⟨e+(63-52+(-1085-e))⟩,rfl,rfl,⟨by grind,by grind⟩,ao,fun _ _=>⟨aJ,pj rfl,(1,63-52+(-1085-e)-1),rfl,af,aJ,pj rfl,(1,63-52+(-1085-e)-1),rfl,af,AE rfl,(m,63-52+(-1085-e)),rfl,af,gy m e,hG,⟨rfl,rfl,e1,e2,e3,e4,ao⟩,P0⟩⟩
 rintro⟨lo,hi,od,p,b0⟩ js ⟨g1,g2,⟨g3,g4⟩,⟨g5,g6⟩,hv⟩ b;dsimp only at g1 g2 g3 g4 g5 g6 hv⊢;have lw:∀{S:St}{bF:List Nat},(0:Nat)∉bF->gt S 0=F->∀i,i<1392->aO (.dv (rest S bF)) ⟨15,i,none⟩ (.int .u64 (tb i)):=fun hj e i hi=>aO.rest (j:=0) hj (by simp[*]);have D3:∀c,tO tb m e=yS tb m e ⟨lo,hi,od,p,c⟩:=fun c=>hv;refine⟨bV aaf ⟨p⟩ ⟨by grind,by grind⟩ fun _ _=>⟨abm,rfl,⟨b,_,_,_,e,p,dL p,tb⟩,rfl,rfl,⟨by grind,by grind,by grind,by grind,by grind,by grind⟩,lw aM rfl,fun _ _=>⟨⟨lo,hi,od,p,b⟩,⟨g1,g2,⟨g3,g4⟩,⟨g5,g6⟩,D3 b⟩,aV,aB [0,5000]⟩⟩,?_⟩;clear D3 hv g1 g2 g3 g4 g5 g6 lo hi od p b0 b;rintro⟨lo,hi,od,p,b⟩ js ⟨g1,g2,⟨g3,g4⟩,⟨g5,g6⟩,hv⟩;dsimp only at g1 g2 g3 g4 g5 g6 hv⊢;have hs: -(e+dL p+3)=(((-(e+dL p+3)).toNat:Nat):Int):=af;have R:aO (.dv (rest [(0,F),(1,.cells b [.int .u64 (tb ((p+348).toNat*2)),.int .u64 (tb ((p+348).toNat*2+1)),.int .i64 (-(e+dL p+3))] 178)] [])) ⟨b,0,none⟩ (.int .u64 (tb ((p+348).toNat*2):Nat))/\aO (.dv (rest [(0,F),(1,.cells b [.int .u64 (tb ((p+348).toNat*2)),.int .u64 (tb ((p+348).toNat*2+1)),.int .i64 (-(e+dL p+3))] 178)] [])) ⟨b,1,none⟩ (.int .u64 (tb ((p+348).toNat*2+1):Nat))/\aO (.dv (rest [(0,F),(1,.cells b [.int .u64 (tb ((p+348).toNat*2)),.int .u64 (tb ((p+348).toNat*2+1)),.int .i64 (-(e+dL p+3))] 178)] [])) ⟨b,2,none⟩ (.int .i64 ((-(e+dL p+3)).toNat:Nat)):=by
  rw[<-hs];exact⟨aO.rest (j:=1) aM (aO.cells rfl),aO.rest (j:=1) aM (aO.cells rfl),aO.rest (j:=1) aM (aO.cells rfl)⟩
 have eU:∀u,jg ⟨u,b,tb ((p+348).toNat*2),tb ((p+348).toNat*2+1),(-(e+dL p+3)).toNat⟩=jg (oH tb e u p):=fun _=>rfl;have fin:∀v w:Int,yS tb m e ⟨lo,hi,od,p,b⟩=(v,w)->aq yQ ⟨m,e,tb⟩ F (returned (tuple #[.int .u64 v,.int .i64 w])) [(0,F),(1,.cells b [.int .u64 (tb ((p+348).toNat*2)),.int .u64 (tb ((p+348).toNat*2+1)),.int .i64 (-(e+dL p+3))] 178)]:=fun v w h=>
  ⟨⟨v,w⟩,(show tO tb m e=(v,w) by rw[hv,h]),rfl,aB [0]⟩
 have sc:(-(e+dL p+3)).toNat<64:=af;refine bp Ou ⟨lo,b,tb ((p+348).toNat*2),tb ((p+348).toNat*2+1),(-(e+dL p+3)).toNat⟩ ⟨g1,h5 _,h5 _,sc⟩ R fun _ _=>⟨aaM,rfl,⟨jg (oH tb e lo p),od⟩,by rw[<-eU lo],rfl,ao,ao,fun _ _=>bV af8 ⟨wd ⟨jg (oH tb e lo p),od⟩⟩ (gB _) fun _ _=>bp Ou ⟨hi,b,tb ((p+348).toNat*2),tb ((p+348).toNat*2+1),(-(e+dL p+3)).toNat⟩ ⟨g2,h5 _,h5 _,sc⟩ R fun _ _=>⟨aaM,rfl,⟨jg (oH tb e hi p),i64.wrap (0-od)⟩,by rw[<-eU hi],rfl,ao,ao,fun _ _=>bV ahN ⟨wd ⟨jg (oH tb e hi p),i64.wrap (0-od)⟩⟩ (gB _) fun _ _=>?_⟩⟩;dsimp only;refine bl (fun q=>⟨aJ,fin _ _ ?_⟩) (fun q=>bl (fun q2=>bp Ou ⟨m,b,tb ((p+348).toNat*2),tb ((p+348).toNat*2+1),(-(e+dL p+3)).toNat⟩ ⟨h2,h5 _,h5 _,sc⟩ R fun _ _=>⟨abz,rfl,⟨jg (oH tb e m p)⟩,by rw[<-eU m],rfl,acv _,ao,fun _ _=>fin _ _ ?_⟩) (fun q2=>fin _ _ ?_))
 ·unfold yS tN qJ;grind
 ·unfold yS tN qJ;grind
 ·unfold yS tN qJ;grind
theorem aoL:aC 198 yQ:=fo 133 Tryz.func198 (fun _ _=>[(13,3,aX Fl),(14,3,.qo (oI .u64 .i64)),(14,4,aW),(15,3,.qo (oI .u64 .i64)),(15,4,aW),(16,2,.qo (wN .u64 .i64)),(16,3,aW),(16,4,aW),(18,3,aX BQ),(20,3,.qo (oI .u64 .i64)),(19,3,.qo (oI .u64 .i64)),(19,4,aW),(20,4,aW),(21,2,.qo (wN .u64 .i64)),(21,3,aW),(21,4,aW),(23,3,aX BQ),(24,3,.qo (oI .u64 .i64)),(24,4,aW),(25,3,.qo (oI .u64 .i64)),(25,4,aW),(26,2,.qo (wN .u64 .i64)),(26,3,aW),(26,4,aW),(27,0,.n 5000),(28,3,aX BR),(28,4,.c B7 [5000] [5000]),(29,1,aX ve),(29,3,aX BW),(29,4,aX (jL qj)),(30,1,aX ve),(30,4,aX BW),(30,5,aX (jL vJ)),(31,1,aW),(32,1,aW),(36,1,aX ve),(36,2,aX (jL pZ))]) [] aY aoI bz [] aoN
end
section
open Go
theorem aa6{n:Nat}(h:n<2305843009213693952)(w:Nat)(hw:w<=1):(n:Int)<=u64.wrap ((BitVec.ofInt u64.bits (n:Int)|||BitVec.ofInt u64.bits (w:Int)).toNat:Int)/\u64.wrap ((BitVec.ofInt u64.bits (n:Int)|||BitVec.ofInt u64.bits (w:Int)).toNat:Int)<2305843009213693952:=by
 have e2:(2:Nat)^64=18446744073709551616:=by decide
 have e1:(2:Nat)^61=2305843009213693952:=by decide
 have hb:u64.bits=64:=rfl;rw[BitVec.ofInt_natCast,BitVec.ofInt_natCast,BitVec.toNat_or,BitVec.toNat_ofNat,BitVec.toNat_ofNat,hb,Nat.mod_eq_of_lt (show n<2^64 by omega),Nat.mod_eq_of_lt (show w<2^64 by omega)];have h1:n<=n|||w:=Nat.left_le_or;have h2:n|||w<2^61:=Nat.or_lt_two_pow af af;rw[lu af];omega
theorem X3(z:Int):0<=((BitVec.ofInt u64.bits z&&& BitVec.ofInt u64.bits 1).toNat:Int)/\((BitVec.ofInt u64.bits z&&& BitVec.ofInt u64.bits 1).toNat:Int)<=1:=by
 rw[BitVec.toNat_and];have:(BitVec.ofInt u64.bits 1).toNat=1:=by decide
 grind
theorem abU(m:Nat)(z:Int):0<=yR m z/\yR m z<=1:=by
 unfold yR;have h:=X3 (i64.wrap ((m:Int).fdiv (2^min z.toNat u64.bits)));have h:0<=((BitVec.ofInt i64.bits (i64.wrap ((m:Int).fdiv (2^min z.toNat u64.bits)))&&& BitVec.ofInt i64.bits 1).toNat:Int)/\((BitVec.ofInt i64.bits (i64.wrap ((m:Int).fdiv (2^min z.toNat u64.bits)))&&& BitVec.ofInt i64.bits 1).toNat:Int)<=1:=h;generalize ((BitVec.ofInt i64.bits (i64.wrap ((m:Int).fdiv (2^min z.toNat u64.bits)))&&& BitVec.ofInt i64.bits 1).toNat:Int)=w at h⊢;rw[dA (i:=.i64) (n:=w) aJ];exact h
theorem acu{x:oP}(hu:x.u<18446744073709551616)(hh:x.hi<18446744073709551616)(BJ:3<=x.s)(hs:x.s<=60){q:Nat}(hq:q*2^x.s+1<=x.u*x.hi/18446744073709551616):(q:Int)<=jg x/\jg x<2305843009213693952:=by
 have hH:x.u*x.hi/18446744073709551616<18446744073709551616:=by
  rw[Nat.div_lt_iff_lt_mul (by decide)];exact Nat.mul_lt_mul'' hu hh
 have hp:0<2^x.s:=Nat.pow_pos (by decide);have h16:8<=2^x.s:=by
  have:2^3<=2^x.s:=oV (by decide) BJ;omega
 have ZL:min ((x.s:Int)).toNat u64.bits=x.s:=by
  rw[cB];exact Nat.min_eq_left (by show x.s<=64;omega)
 have fd:∀k:Nat,(k:Int).fdiv (2^x.s)=((k/2^x.s:Nat):Int):=fun k=>by
  grind
 have small:∀k:Nat,k<18446744073709551616->k/2^x.s<2305843009213693952:=fun k hk=>by
  rw[Nat.div_lt_iff_lt_mul hp];omega
 have Bj:∀k:Nat,q*2^x.s<=k->q<=k/2^x.s:=fun k hk=>(Nat.le_div_iff_mul_le hp).2 hk;have Zm:IR x=((x.u*x.hi/18446744073709551616:Nat):Int):=rfl;generalize x.u*x.hi/18446744073709551616=H at*;unfold jg;cases IS x with
 |true=>
  rw[bf];unfold acs;rw[ZL,Zm,fd];have:=aa6 (small H hH) 1 (cr 1);have b:=Bj H af;exact⟨Int.le_trans af this.1,this.2⟩
 |false=>
  rw[aU];unfold act;rw[ZL,Zm];have key:∀c w:Nat,c<=1->w<=1->(q:Int)<=u64.wrap ((BitVec.ofInt u64.bits ((u64.wrap ((H:Int)-(c:Int))).fdiv (2^x.s))|||BitVec.ofInt u64.bits (w:Int)).toNat:Int)/\u64.wrap ((BitVec.ofInt u64.bits ((u64.wrap ((H:Int)-(c:Int))).fdiv (2^x.s))|||BitVec.ofInt u64.bits (w:Int)).toNat:Int)<2305843009213693952:=fun c w hc hw=>by
   rw[show(H:Int)-(c:Int)=((H-c:Nat):Int) by omega,lu (n:=H-c) af,fd];have:=aa6 (small (H-c) af) w hw;have b:=Bj (H-c) af;exact⟨Int.le_trans af this.1,this.2⟩
  cases decide (Oq x<Ot x) <;> cases decide (u64.wrap (Oq x-Ot x)>1)
  ·exact key 0 0 (by decide) (by decide)
  ·exact key 0 1 (by decide) (by decide)
  ·exact key 1 0 (by decide) (by decide)
  ·exact key 1 1 (by decide) (by decide)
variable{x:Int}
theorem af_{od:Int}(h1:1<=x)(h2:x<2305843009213693952)(h3:0<=od)(h4:od<=1):1<=qj (wd ⟨x,od⟩):=by
 unfold qj wd;dsimp only;rw[dA (i:=.u64) (n:=od) aJ,dA (i:=.u64) (n:=x+od) aJ,dA (i:=.u64) (n:=x+od+3) aJ];rw[show min (Int.toNat 2) u64.bits=2 from rfl,Re];omega
theorem aod(h1:3<=x)(h2:x<2305843009213693952):1<=pZ x:=by
 unfold pZ;have h:=X3 (x.fdiv (2^min (Int.toNat 2) u64.bits));generalize ((BitVec.ofInt u64.bits (x.fdiv (2^min (Int.toNat 2) u64.bits))&&& BitVec.ofInt u64.bits 1).toNat:Int)=w at h⊢;rw[dA (i:=.u64) (n:=w) aJ,dA (i:=.u64) (n:=x+1) aJ,dA (i:=.u64) (n:=x+1+w) aJ];rw[show min (Int.toNat 2) u64.bits=2 from rfl,Re];omega
theorem aoK{tb:Nat->Nat}{m:Nat}{e:Int}(h1:9223372036854775808<=m)(h2:m<18446744073709551616)(h3: -1137<=e)(h4:e<=960)(ht:∀i,tb i<18446744073709551616)(hp:∀i,i<696->9223372036854775808<=tb (i*2)):1<=(tO tb m e).1:=by
 have hz:11<=fN e/\fN e<=63/\ -1085<=e+fN e/\e+fN e<=971:=by
  unfold fN;by_cases q:e>= -1085
  all_goals grind
 have hK:∀k:Int,0<=k->k<=62->0<=qK k/\qK k<=4611686018427387904:=fun k a b=>by
  obtain⟨n,rfl⟩:∃n:Nat,k=(n:Int):=⟨k.toNat,af⟩;have e1:2^n<=2^62:=oV (by decide) af;have e2:(2:Nat)^62=4611686018427387904:=by decide
  unfold qK;rw[cB,show min n u64.bits=n from Nat.min_eq_left (by show n<=64;omega),show 1*(2:Int)^n=((2^n:Nat):Int) by simp[*],lu af];grind
 have cJ:∀k:Int,0<=k->k<=62->4611686018427387904<=(u64.wrap ((m:Int)-qK k)).toNat/\(u64.wrap ((m:Int)-qK k)).toNat<18446744073709551616:=fun k a b=>by
  have:=hK k a b;rw[dA (i:=.u64) (n:=(m:Int)-qK k) aJ];omega
 have hd:(4611686018427387904<=(gy m e).lo/\(gy m e).lo<18446744073709551616)/\(0<=(gy m e).od/\(gy m e).od<=1)/\(-347<(gy m e).p/\(gy m e).p<347)/\3<= -(e+dL (gy m e).p+3)/\ -(e+dL (gy m e).p+3)<=60:=by
  unfold gy;cases hT:nH m e with
  |true=>
   rw[bf];have he:e> -1085:=by
    unfold nH at hT;grind
   obtain⟨-,⟨a1,a2⟩,-,b1,b2⟩:=zM (k:=e+(63-52)) af af;refine⟨cJ _ (by decide) (by decide),abU _ _,⟨b1,b2⟩,?_⟩;grind
  |false=>
   rw[aU];obtain⟨⟨a1,a2⟩,-,⟨b1,b2⟩,-⟩:=zM (k:=e+fN e) af af;refine⟨cJ _ af af,abU _ _,⟨b1,b2⟩,?_⟩;grind
 unfold tO;generalize gy m e=d at hd⊢;obtain⟨⟨l1,l2⟩,⟨o1,o2⟩,⟨p1,p2⟩,s1,s2⟩:=hd;have hs:(oH tb e d.lo d.p).s=(-(e+dL d.p+3)).toNat:=rfl;have p60:∀s:Nat,s<=60->2^s<=1152921504606846976:=fun s hs=>by
  have:2^s<=2^60:=oV (by decide) hs;omega
 have sY:9223372036854775808<=tb ((d.p+348).toNat*2):=hp _ af;have ulo:=acu (x:=oH tb e d.lo d.p) l2 (ht _) af af (q:=1) (by
  have a:=p60 (oH tb e d.lo d.p).s af;have b:4611686018427387904*9223372036854775808<=d.lo*tb ((d.p+348).toNat*2):=Nat.mul_le_mul l1 sY;have c:2305843009213693952<=d.lo*tb ((d.p+348).toNat*2)/18446744073709551616:=(Nat.le_div_iff_mul_le (by decide)).2 (i_ (by decide) b);show 1*2^(oH tb e d.lo d.p).s+1<=d.lo*tb ((d.p+348).toNat*2)/18446744073709551616;omega)
 have um:=acu (x:=oH tb e m d.p) h2 (ht _) (by show 3<=(-(e+dL d.p+3)).toNat;omega) (by show(-(e+dL d.p+3)).toNat<=60;omega) (q:=3) (by
  have a:=p60 (oH tb e m d.p).s (by show(-(e+dL d.p+3)).toNat<=60;omega);have b:9223372036854775808*9223372036854775808<=m*tb ((d.p+348).toNat*2):=Nat.mul_le_mul h1 sY;have c:4611686018427387904<=m*tb ((d.p+348).toNat*2)/18446744073709551616:=(Nat.le_div_iff_mul_le (by decide)).2 (i_ (by decide) b);show 3*2^(oH tb e m d.p).s+1<=m*tb ((d.p+348).toNat*2)/18446744073709551616;omega)
 have dlo:1<=tN tb e d:=af_ ulo.1 ulo.2 o1 o2;unfold yS;by_cases q:u64.wrap (u64.wrap ((qJ tb e d).tdiv 10)*10)>=tN tb e d
 ·rw[bG q,bf];show 1<=u64.wrap ((qJ tb e d).tdiv 10);have hr:=gB ((qJ tb e d).tdiv 10);generalize u64.wrap ((qJ tb e d).tdiv 10)=v at q hr⊢;rcases Int.lt_or_le 0 v with h|h
  ·omega
  ·have h0:v=0:=by omega
   rw[h0,show u64.wrap (0*10)=0 by decide]at q;omega
 ·rw[bK q,aU];by_cases q2:tN tb e d<qJ tb e d
  ·rw[bG q2,bf];exact aod um.1 um.2
  simp[*]
end
section
open Go
def kB(k:Nat):Nat×ByteArray:=((Pinned.cheatRows.getD k (0,[])).1,⟨(Pinned.cheatRows.getD k (0,[])).2.toArray⟩)
def wP(i:Nat):Nat:=bif i%2==0 then (Pinned.pow10Rows.getD (i/2) (9223372036854775808,0)).1 else (Pinned.pow10Rows.getD (i/2) (9223372036854775808,0)).2
def Ys(k:Nat):Bool:=(List.range (kB k).2.size).all (fun i=>decide (48<=aE (kB k).2 i)&&decide (aE (kB k).2 i<=57))&&decide (1<=(kB k).2.size)&&decide (aE (kB k).2 (((kB k).2.size-1:Nat):Int)≠48)&&decide (vE (kB k).2=5^k)&&decide ((kB k).1+(kB k).2.size=k+1)&&decide (10^((kB k).2.size-1)<=5^k)&&decide (1<=(kB k).1)
theorem aga:((List.range 61).all fun k=>k==0||Ys k)=true:=by decide+kernel
theorem agb:sv kB:=fun k h1 h2=>by
 have h:=List.all_eq_true.1 aga k (List.mem_range.2 af);rw[show(k==0)=false by rw[ga];omega,Bool.false_or]at h;simp only[Ys,kT,decide_eq_true_eq,List.all_eq_true,List.mem_range]at h;obtain⟨⟨⟨⟨⟨⟨a,b⟩,c⟩,d⟩,e⟩,f⟩,g⟩:=h;exact⟨⟨a,b,c⟩,d,e,f,g⟩
theorem aof:(Pinned.pow10Rows.all fun x=>decide (9223372036854775808<=x.1)&&decide (x.1<18446744073709551616)&&decide (x.2<18446744073709551616))=true:=by decide+kernel
theorem abA(i:Nat):(9223372036854775808<=(Pinned.pow10Rows.getD i (9223372036854775808,0)).1/\(Pinned.pow10Rows.getD i (9223372036854775808,0)).1<18446744073709551616)/\(Pinned.pow10Rows.getD i (9223372036854775808,0)).2<18446744073709551616:=by
 rw[fD];cases h:Pinned.pow10Rows[i]? with
 |none=>exact⟨⟨cr _,by decide⟩,by decide⟩
 |some x=>
  have:=List.all_eq_true.1 aof x (oU h);simp only[kT,decide_eq_true_eq]at this;exact this
theorem W1(i:Nat):wP i<18446744073709551616:=by
 unfold wP;have h:=abA (i/2);cases i%2==0
 ·exact h.2
 ·exact h.1.2
theorem ab_(i:Nat):9223372036854775808<=wP (i*2):=by
 unfold wP;rw[show(i*2%2==0)=true by rw[beq_iff_eq];omega];exact(abA (i*2/2)).1.1
end
section
open Go
structure FL where
 f:Nat
def rI(f:Nat):Bool:=cR .gtr f 9218868437227405311
def K5:aR where
 X:=FL
 args x:=[float f64 x.f,ae 1]
 val x _:=az (ak (rI x.f))
theorem aj4(x:FL)(F:ai)(hc:K5.cond x)(hr:K5.aQ x F):JN (a8 Tryz.f137 5 1) [float f64 x.f,float f64 9218868437227405311] (fun a=>aq K5 x F (az (ak (cR BinOp.gtr a.fst a.snd))) [(0,F)]):=by
 delta u5 JN ak az;exact⟨rA (.inr (.inr (.inl rfl))) rfl,(x.f,9218868437227405311),rfl,ao,(),ao,rfl,aB [0]⟩
theorem aj3:aC 137 K5:=fo 15 Tryz.func137 (fun _ _=>[(5,1,.qo (qn .gtr))]) [] aY aY bz [] aj4
end
section
open Go
theorem adV{b o:Nat}{vs:List Value}{t:TypeId}{fr:Nat×Nat}{v:Value}(h:vs[o]?=some v):aO (.iT b (.cells ⟨vs⟩ t fr)) ⟨b,o,none⟩ v:=⟨fun I h' o' _ hA=>by
 rw[QT hA.2];exact h⟩
structure Xv where
 b:Nat
 c:Nat
def mj(s:ByteArray)(c:Nat):Array Value:=bytesRow s c
def N4(e:TypeId):aR where
 X:=fq
 Y:=Xv
 args x:=[aj x.s]
 cd x y:=x.s.size<=y.c
 val x y:=az (au (some ⟨y.b,0,none⟩) x.s.size y.c)
 post x y:=[.iT y.b (.cells (mj x.s y.c) e ((mj x.s y.c).size,(mj x.s y.c).size+1))]
theorem aot{P:Program}{o:Oper}{src dst e:TypeId}{x:Operand}(ho:o.op= .convert src dst x)(hs:P.underlying src=some .string)(hd:P.underlying dst=some (.slice e))(he:P.underlying e=some (.int .u8)):fj P o (N4 e):=by
 refine⟨fun y F I w ρ ha hc hr rG=>?_⟩;obtain⟨s⟩:=y;simp only[ho,Op.operands,N4]at ha;have c5:ρ x= .string s:=by simpa using ha
 have cm:=run_bytes_of_string w src dst e s hs hd he;refine⟨⟨w.heap.size,grownCap w s.size 0 e⟩,I,w.drew.alloc (.cells (bytesRow s (grownCap w s.size 0 e)) e ((bytesRow s (grownCap w s.size 0 e)).size,(bytesRow s (grownCap w s.size 0 e)).size+1)),.slice (some ⟨w.heap.size,0,none⟩) s.size (grownCap w s.size 0 e),grownCap_ge w s.size 0 e,.inl ?_,rfl,a7.le_refl I,?_,?_⟩
 ·simp only[execOp,ho,c5];show((convert src dst (.string s))>>=fun v=>(pure (Next.value v):Sem Next)).run P w=_;rw[Sem.run_bind,cm];rfl
 ·have h1:Sat I (bD [F]) w:=rG;have:=(h1.heap (w':=w.drew) rfl).new 1 (.cells (bytesRow s (grownCap w s.size 0 e)) e ((bytesRow s (grownCap w s.size 0 e)).size,(bytesRow s (grownCap w s.size 0 e)).size+1));have hm:mkAtom w.drew.heap.size (.cells (bytesRow s (grownCap w s.size 0 e)) e ((bytesRow s (grownCap w s.size 0 e)).size,(bytesRow s (grownCap w s.size 0 e)).size+1))= .iT w.heap.size (.cells (bytesRow s (grownCap w s.size 0 e)) e ((bytesRow s (grownCap w s.size 0 e)).size,(bytesRow s (grownCap w s.size 0 e)).size+1)):=by
   generalize (bytesRow s (grownCap w s.size 0 e)).size=n;cases n <;> rfl
  rw[hm]at this;exact Sat.pick [1,0] rfl rfl this
 ·exact ap
end
section
open Go
def mC(t:ByteArray):Nat->Int
 |0=>0
 |i+1=>mC t i*10+(aE t i-48)
structure wZ(s:ByteArray):Prop where
 lo:2<=s.size
 hi:s.size<=9
 sg:aE s 0=43\/aE s 0=45
 iA:∀i:Nat,i<(s.extract 1 s.size).size->48<=aE (s.extract 1 s.size) i/\aE (s.extract 1 s.size) i<=57
def m8(s:ByteArray):Int:=bif aE s 0==45 then 0-mC (s.extract 1 s.size) (s.size-1) else mC (s.extract 1 s.size) (s.size-1)
def rq:aR where
 X:=bR
 args x:=[aj x.s]
 cond x:=wZ x.s
 val x _:=.returned (.tuple #[.int .i64 (m8 x.s),.nilIface])
structure y8 where
 i:Nat
 b:Nat
 c:Nat
def afn(x:bR)(F:ai)(d:y8):List ai:=[F,.iT d.b (.cells (mj (x.s.extract 1 x.s.size) d.c) 5 ((mj (x.s.extract 1 x.s.size) d.c).size,(mj (x.s.extract 1 x.s.size) d.c).size+1))]
def E1(d:y8):Option Addr:=some ⟨d.b,0,none⟩
def afb(x:bR)(F:ai):Nat->Option Inv:=fun
 |0=>some {X:=y8,P:=fun d=>d.i<=(x.s.extract 1 x.s.size).size/\(x.s.extract 1 x.s.size).size<=d.c,mu:=fun d=>10-d.i,lv:=fun d=>[(5,aj x.s),(6,ae (mC (x.s.extract 1 x.s.size) d.i)),(47,(au (E1 d) (x.s.extract 1 x.s.size).size d.c)),(48,(ae (x.s.extract 1 x.s.size).size)),(49,ae d.i)],st:=fun d=>afn x F d}
 |_=>none
def afa(x:bR)(F:ai):Nat->Option Inv:=fun
 |8=>some {X:=Unit,P:=fun _=>True,mu:=fun _=>0,lv:=fun _=>[(0,aj (x.s.extract 1 x.s.size)),(5,aj x.s)],st:=fun _=>[F]}
 |_=>none
theorem aow{s:ByteArray}{c i:Nat}(h:i<s.size):(mj s c).toList[i]?=some (.int .u8 (aE s i)):=by
 have e1:(mj s c).toList[i]?=(mj s c)[i]?:=Array.getElem?_toList;have hs:i<s.data.size:=h;rw[e1];unfold mj bytesRow;rw[Array.getElem?_append_left (by rw[Array.size_map];exact hs),Array.getElem?_map,Array.getElem?_eq_getElem hs];unfold aE;rw[cB,fD,Array.getElem?_toList,Array.getElem?_eq_getElem hs];rfl
def VQ:=az (tuple ⟨[ae 0,fE 128 (ae 2)]⟩)
def Pv(e0:ai)(e1:bR)(v0:Value)(ss:St):=∃(z:Unit),True/\(v0=aj (e1.s.extract 1 e1.s.size)/\aj e1.s=aj e1.s/\True)/\aD ss [(0,e0)]
def Tj(x:bR)(F:ai):=zQ x/\aP ((↑(x.s.extract (Int.toNat (1:Int)) (x.s.size:Int).toNat).size:Int)<1) (aq rq x F VQ [(0,F)]) (Pv F x (zS x) [(0,F)])
def MP(a:y8)(x:bR):=a.i<=(x.s.extract 1 x.s.size).size/\(x.s.extract 1 x.s.size).size<=a.c
def Cw(F:ai)(a:y8)(x:bR):=[(0,F),(1,sT a.b (Obj.cells (mj (x.s.extract 1 x.s.size) a.c) 5 ((mj (x.s.extract 1 x.s.size) a.c).size,(mj (x.s.extract 1 x.s.size) a.c).size+1)))]
theorem afd(x:bR)(F:ai)(hc:rq.cond x)(hr:rq.aQ x F):aP (0<(x.s.size:Int)) (aP ((x.s.size:Int)<19) ((tw x/\Br (wy x) (Tj x F) (tw x/\Br (yu x) (Tj x F) (Pv F x (aj x.s) [(0,F)])))/\aS fun(i:Unit)_=>True->fj Tryz.prog (a8 Tryz.f163 9 1) (N4 (5:TypeId))/\true=true/\∃(g:fq),[aj (x.s.extract 1 x.s.size)]=[aj g.s]/\([]:List ai)=[]/\True/\True/\∀(f:Xv),g.s.size<=f.c->(∃(a:y8),MP a x/\(aj x.s=aj x.s/\ae 0=ae (mC (x.s.extract 1 x.s.size) a.i)/\au (some ⟨f.b,0,none⟩) g.s.size f.c=au (E1 a) (x.s.extract 1 x.s.size).size a.c/\ae ↑g.s.size=ae (↑(x.s.extract 1 x.s.size).size:Int)/\ae 0=ae ↑a.i/\True)/\aD [(0,F),(5000,sT f.b (Obj.cells (mj g.s f.c) 5 ((mj g.s f.c).size,(mj g.s f.c).size+1)))] (Cw F a x))/\aS fun(e:y8)_=>MP e x->aP ((e.i:Int)<(↑(x.s.extract 1 x.s.size).size:Int)) (kl (a8 Tryz.f163 11 0) [au (E1 e) (x.s.extract 1 x.s.size).size e.c,ae ↑e.i] (fun c=>jP (sT e.b (Obj.cells (mj (x.s.extract 1 x.s.size) e.c) 5 ((mj (x.s.extract 1 x.s.size) e.c).size,(mj (x.s.extract 1 x.s.size) e.c).size+1))) ⟨c.b,c.o+c.n.toNat*1,none⟩ (fun b=>aP (u8.wrap (b-48)>9) (aq rq x F VQ (Cw F e x)) (((-9223372036854775808:Int)<=mC (x.s.extract 1 x.s.size) e.i*10/\mC (x.s.extract 1 x.s.size) e.i*10<=(9223372036854775807:Int))/\bT (u8.wrap (b-48))/\bT (mC (x.s.extract 1 x.s.size) e.i*10+u8.wrap (b-48))/\((-9223372036854775808:Int)<=(e.i:Int)+1/\(e.i:Int)+1<=(9223372036854775807:Int))/\∃(a:y8),MP a x/\(aj x.s=aj x.s/\ae (mC (x.s.extract 1 x.s.size) e.i*10+u8.wrap (b-48))=ae (mC (x.s.extract 1 x.s.size) a.i)/\au (E1 e) (x.s.extract 1 x.s.size).size e.c=au (E1 a) (x.s.extract 1 x.s.size).size a.c/\ae (↑(x.s.extract 1 x.s.size).size:Int)=ae (↑(x.s.extract 1 x.s.size).size:Int)/\ae ((e.i:Int)+1)=ae ↑a.i/\True)/\aD (Cw F e x) (Cw F a x)/\10-a.i<10-e.i)))) (tw x/\Br (wy x) (aq rq x F (az (tuple ⟨[ae (bY ((0:Int)-mC (x.s.extract 1 x.s.size) e.i)),nilIface]⟩)) (Cw F e x)) (aq rq x F (az (tuple ⟨[ae (mC (x.s.extract 1 x.s.size) e.i),nilIface]⟩)) (Cw F e x)))) False) False:=by
 delta tw wy zQ VQ Pv zS Tj yu MP E1 Cw kl jP bT ae a_ aj au fE sT bY aP az aS;obtain⟨s⟩:=x;obtain⟨h1,h2,h3,h4⟩:=(hc:wZ s);dsimp only;generalize ht:s.extract 1 s.size=t at*;have GY:t.size=s.size-1:=by rw[<-ht,jU];omega
 have P0:aD [(0,F)] [(0,F)]:=aB [0];have hx:s.extract (Int.toNat 1) ((s.size:Nat):Int).toNat=t:=by rw[<-ht];rfl
 rw[hx];have kf:∀i,i<=t.size->0<=mC t i/\mC t i<10^i:=by
  intro i
  induction i with
  |zero=>intro _;exact⟨cN 0,by show(0:Int)<10^0;decide⟩
  |succ i ih=>
   intro hi;obtain⟨a,b⟩:=ih af;have:=h4 i af;rw[mC,Int.pow_succ];omega
 dsimp only at h1 h2 h3;refine bl (fun _=>bl (fun _=>⟨⟨⟨cN _,af⟩,aG (fun q=>⟨⟨by decide,af,cN _⟩,bl (fun q1=>absurd q1 af) (fun _=>⟨(),ao,aV,P0⟩)⟩) (fun q=>⟨⟨cN _,af⟩,aG (fun q2=>⟨⟨by decide,af,cN _⟩,bl (fun q1=>absurd q1 af) (fun _=>⟨(),ao,aV,P0⟩)⟩) (fun q2=>?_)⟩)⟩,?_⟩) (fun q=>(q af).elim)) (fun q=>(q af).elim)
 ·rcases h3 with h|h
  ·rw[h]at q2;exact absurd q2 (by decide)
  ·rw[h]at q;exact absurd q (by decide)
 rintro _ js-;refine nf (aot rfl rfl rfl rfl) ⟨t⟩ fun y hy=>⟨⟨⟨0,y.b,y.c⟩,⟨dC _,hy⟩,aV,aB [0,5000]⟩,?_⟩;rintro⟨i,b,c⟩ js ⟨g1,g2⟩;dsimp only at g1 g2⊢;obtain⟨r1,r2⟩:=kf i g1;have r3:(10:Int)^i<=100000000:=by
  have a:10^i<=10^8:=oV (by decide) af;have b:(10:Int)^i=((10^i:Nat):Int):=by rw[Int.natCast_pow];rfl
  have e:(10:Nat)^8=100000000:=by decide
  omega
 refine bl (fun q=>⟨jp 1 rfl rfl rfl rfl,⟨b,0,t.size,c,i⟩,rfl,iP,aE t i,?_,?_⟩) (fun q=>?_)
 ·rw[show 0+((i:Nat):Int).toNat*1=i by omega];exact adV (vs:=(mj t c).toList) (aow af)
 ·have hd:=h4 i af;rw[dA (i:=.u8) (n:=aE t i-48) aJ];refine bl (fun q2=>absurd q2 af) (fun _=>⟨aJ,aJ,aJ,aJ,⟨i+1,b,c⟩,⟨bd,g2⟩,⟨rfl,rfl,rfl,rfl,?_,ao⟩,aB [0,1],bd⟩);exact congrArg _ bd
 ·have hi:i=s.size-1:=by omega
  subst hi;refine⟨⟨cN _,af⟩,aG (fun q=>?_) (fun q=>?_)⟩
  ·refine⟨(),ao,?_,aB [0]⟩;show _=returned (.tuple #[.int .i64 (m8 s),.nilIface]);unfold m8;rw[ht,q,bf,dA (i:=.i64) (n:=0-mC t (s.size-1)) aJ]
  ·refine⟨(),ao,?_,aB [0]⟩;show _=returned (.tuple #[.int .i64 (m8 s),.nilIface]);unfold m8;rw[ht,q,aU]
theorem afc:aC 163 rq:=fo 77 Tryz.func163 (fun _ _=>[(9,1,.o (N4 5) [] [5000]),(11,0,.qo (h_ 1)),(11,1,.q [.ex 1 (.int .u8)]),(12,1,aW),(13,1,aW)]) [(20,1,aW)] afb afa bz [] afd
theorem afj(x:bR)(F:ai)(hc:rq.cond x)(hr:rq.aQ x F):aC 163 rq/\true=true/\∃(b:bR),[aj x.s]=[aj b.s]/\([]:List ai)=[]/\wZ b.s/\True/\∀(a:Unit),True->aq rq x F (az (tuple ⟨[ae (m8 b.s),nilIface]⟩)) [(0,F)]:=by
 delta ae aj az;exact bV afc ⟨x.s⟩ hc fun _ _=>lJ
theorem afi:aC 140 rq:=fo 18 Tryz.func140 (fun _ _=>[(1,1,aX rq)]) [] aY aY bz [] afj
end
end Go.Proofs.YtdkchodgklpomaaGreatDoor
namespace Go.Proofs
section
open Go.Shelf
def aeP:Go.Shelf.Ren:=⟨fun|284=>172|129=>148|317=>185|318=>152|n=>n,fun|53=>64|3=>3|212=>214|0=>0|4=>4|46=>101|5=>5|9=>9|n=>n,fun|17=>17|n=>n⟩
theorem aeO:Go.Proofs.LaysM.n284 Tryz.prog aeP:={
 mixed:=by kernel_rfl
 f129:=Tryz.func148.trans (congrArg some (by kernel_rfl))
 f284:=Tryz.func172.trans (congrArg some (by kernel_rfl))
 f317:=Tryz.func185.trans (congrArg some (by kernel_rfl))
 f318:=Tryz.func152.trans (congrArg some (by kernel_rfl))
 t0:=Tryz.underlying0
 a0:=Tryz.isAgg0
 z0:=Tryz.sizeOf0
 v0:=Tryz.zeroValue0
 t3:=Tryz.underlying3
 a3:=Tryz.isAgg3
 z3:=Tryz.sizeOf3
 v3:=Tryz.zeroValue3
 t4:=Tryz.underlying4
 a4:=Tryz.isAgg4
 z4:=Tryz.sizeOf4
 v4:=Tryz.zeroValue4
 t5:=Tryz.underlying5
 a5:=Tryz.isAgg5
 z5:=Tryz.sizeOf5
 v5:=Tryz.zeroValue5
 t9:=Tryz.underlying9
 a9:=Tryz.isAgg9
 z9:=Tryz.sizeOf9
 v9:=Tryz.zeroValue9
 t46:=Tryz.underlying101
 a46:=Tryz.isAgg101
 z46:=Tryz.sizeOf101
 v46:=Tryz.zeroValue101
 t53:=Tryz.underlying64
 a53:=Tryz.isAgg64
 z53:=Tryz.sizeOf64
 v53:=Tryz.zeroValue64
 t212:=Tryz.underlying214
 a212:=Tryz.isAgg214
 z212:=Tryz.sizeOf214
 v212:=Tryz.zeroValue214
 g17:=by kernel_rfl
 i0:=by kernel_rfl
 i3:=by kernel_rfl
 i4:=by kernel_rfl
 i5:=by kernel_rfl
 i9:=by kernel_rfl
 i46:=by kernel_rfl
 i53:=by kernel_rfl
 i212:=by kernel_rfl
 m17:=by kernel_rfl}
open Go.Lib in
theorem Tryz.internal_strconv_numDigits(u:Nat)(h1:1<=u)(h2:u<18446744073709551616)(w:World)(Sb:Lib.TabIs Tryz.prog w "internal/strconv.uint64pow10" .u64 Lib.pow10Tab):
  Calls Tryz.prog 172 #[.int .u64 u] w fun e w'=>e= .returned (.int .i64 (Lib.nDigits u))/\w'=w:=Any.internal_strconv_numDigits aeO u h1 h2 w Sb
def aeL:Go.Shelf.Ren:=⟨fun|285=>173|n=>n,fun|37=>93|53=>64|3=>3|4=>4|51=>115|9=>9|5=>5|0=>0|n=>n,fun|n=>n⟩
theorem aeK:Go.Proofs.Lays.n285 Tryz.prog aeL:={
 mixed:=by kernel_rfl
 f285:=Tryz.func173.trans (congrArg some (by kernel_rfl))
 t0:=Tryz.underlying0
 a0:=Tryz.isAgg0
 z0:=Tryz.sizeOf0
 v0:=Tryz.zeroValue0
 t3:=Tryz.underlying3
 a3:=Tryz.isAgg3
 z3:=Tryz.sizeOf3
 v3:=Tryz.zeroValue3
 t4:=Tryz.underlying4
 a4:=Tryz.isAgg4
 z4:=Tryz.sizeOf4
 v4:=Tryz.zeroValue4
 t5:=Tryz.underlying5
 a5:=Tryz.isAgg5
 z5:=Tryz.sizeOf5
 v5:=Tryz.zeroValue5
 t9:=Tryz.underlying9
 a9:=Tryz.isAgg9
 z9:=Tryz.sizeOf9
 v9:=Tryz.zeroValue9
 t37:=Tryz.underlying93
 a37:=Tryz.isAgg93
 z37:=Tryz.sizeOf93
 v37:=Tryz.zeroValue93
 t51:=Tryz.underlying115
 a51:=Tryz.isAgg115
 z51:=Tryz.sizeOf115
 v51:=Tryz.zeroValue115
 t53:=Tryz.underlying64
 a53:=Tryz.isAgg64
 z53:=Tryz.sizeOf64
 v53:=Tryz.zeroValue64}
open Go.RowKit Go.Sort Go.Lib in
theorem Tryz.internal_strconv_formatBase10(gg off cap:Nat)(u:Nat)(d:Array UInt8)(w:World)(hH:Holds (fun(b:UInt8)=>Value.int .u8 (b.toNat:Int)) w gg off d)(hu:u<10^d.size)(ajI:u<18446744073709551616)(gx:d.size<4611686018427387904):
  Calls Tryz.prog 173 #[.slice (some ⟨gg,off,none⟩) d.size cap,.int .u64 u] w fun e w'=>
   e= .returned (.tuple #[])/\∃(n v':Nat)(dk:Array UInt8),w'=(putRow (fun(b:UInt8)=>Value.int .u8 (b.toNat:Int)) w gg off dk).drewN n/\FmtInv d.size u 0 v' dk:=Any.internal_strconv_formatBase10 aeK gg off cap u d w hH hu ajI gx
def aeN:Go.Shelf.Ren:=⟨fun|171=>120|243=>136|246=>159|283=>171|284=>172|285=>173|286=>174|129=>148|317=>185|318=>152|319=>186|320=>187|337=>202|338=>203|n=>n,fun|3=>3|9=>9|2=>2|4=>4|171=>199|0=>0|53=>64|37=>93|5=>5|173=>201|212=>214|51=>115|20=>20|213=>215|46=>101|232=>221|233=>236|n=>n,fun|17=>17|18=>18|19=>19|n=>n⟩
theorem aeM:Go.Proofs.LaysM.n171 Tryz.prog aeN:={
 mixed:=by kernel_rfl
 f129:=Tryz.func148.trans (congrArg some (by kernel_rfl))
 f171:=Tryz.func120.trans (congrArg some (by kernel_rfl))
 f243:=Tryz.func136.trans (congrArg some (by kernel_rfl))
 f246:=Tryz.func159.trans (congrArg some (by kernel_rfl))
 f283:=Tryz.func171.trans (congrArg some (by kernel_rfl))
 f284:=Tryz.func172.trans (congrArg some (by kernel_rfl))
 f285:=Tryz.func173.trans (congrArg some (by kernel_rfl))
 f286:=Tryz.func174.trans (congrArg some (by kernel_rfl))
 f317:=Tryz.func185.trans (congrArg some (by kernel_rfl))
 f318:=Tryz.func152.trans (congrArg some (by kernel_rfl))
 f319:=Tryz.func186.trans (congrArg some (by kernel_rfl))
 f320:=Tryz.func187.trans (congrArg some (by kernel_rfl))
 f337:=Tryz.func202.trans (congrArg some (by kernel_rfl))
 f338:=Tryz.func203.trans (congrArg some (by kernel_rfl))
 t0:=Tryz.underlying0
 a0:=Tryz.isAgg0
 z0:=Tryz.sizeOf0
 v0:=Tryz.zeroValue0
 t2:=Tryz.underlying2
 a2:=Tryz.isAgg2
 z2:=Tryz.sizeOf2
 v2:=Tryz.zeroValue2
 t3:=Tryz.underlying3
 a3:=Tryz.isAgg3
 z3:=Tryz.sizeOf3
 v3:=Tryz.zeroValue3
 t4:=Tryz.underlying4
 a4:=Tryz.isAgg4
 z4:=Tryz.sizeOf4
 v4:=Tryz.zeroValue4
 t5:=Tryz.underlying5
 a5:=Tryz.isAgg5
 z5:=Tryz.sizeOf5
 v5:=Tryz.zeroValue5
 t9:=Tryz.underlying9
 a9:=Tryz.isAgg9
 z9:=Tryz.sizeOf9
 v9:=Tryz.zeroValue9
 t20:=Tryz.underlying20
 a20:=Tryz.isAgg20
 z20:=Tryz.sizeOf20
 v20:=Tryz.zeroValue20
 t37:=Tryz.underlying93
 a37:=Tryz.isAgg93
 z37:=Tryz.sizeOf93
 v37:=Tryz.zeroValue93
 t46:=Tryz.underlying101
 a46:=Tryz.isAgg101
 z46:=Tryz.sizeOf101
 v46:=Tryz.zeroValue101
 t51:=Tryz.underlying115
 a51:=Tryz.isAgg115
 z51:=Tryz.sizeOf115
 v51:=Tryz.zeroValue115
 t53:=Tryz.underlying64
 a53:=Tryz.isAgg64
 z53:=Tryz.sizeOf64
 v53:=Tryz.zeroValue64
 t171:=Tryz.underlying199
 a171:=Tryz.isAgg199
 z171:=Tryz.sizeOf199
 v171:=Tryz.zeroValue199
 t173:=Tryz.underlying201
 a173:=Tryz.isAgg201
 z173:=Tryz.sizeOf201
 v173:=Tryz.zeroValue201
 t212:=Tryz.underlying214
 a212:=Tryz.isAgg214
 z212:=Tryz.sizeOf214
 v212:=Tryz.zeroValue214
 t213:=Tryz.underlying215
 a213:=Tryz.isAgg215
 z213:=Tryz.sizeOf215
 t232:=Tryz.underlying221
 a232:=Tryz.isAgg221
 z232:=Tryz.sizeOf221
 v232:=Tryz.zeroValue221
 t233:=Tryz.underlying236
 a233:=Tryz.isAgg236
 z233:=Tryz.sizeOf236
 v233:=Tryz.zeroValue236
 g17:=by kernel_rfl
 g18:=by kernel_rfl
 g19:=by kernel_rfl
 i0:=by kernel_rfl
 i2:=by kernel_rfl
 i3:=by kernel_rfl
 i4:=by kernel_rfl
 i5:=by kernel_rfl
 i9:=by kernel_rfl
 i20:=by kernel_rfl
 i37:=by kernel_rfl
 i46:=by kernel_rfl
 i51:=by kernel_rfl
 i53:=by kernel_rfl
 i171:=by kernel_rfl
 i173:=by kernel_rfl
 i212:=by kernel_rfl
 i232:=by kernel_rfl
 i233:=by kernel_rfl
 m17:=by kernel_rfl
 m18:=by kernel_rfl
 m19:=by kernel_rfl}
open Go.RowKit Go.Sort Go.Lib in
theorem Tryz.strconv_Itoa(n:Int)(h0: -9223372036854775808<=n)(h1:n<=9223372036854775807)(w:World)(Sb:Lib.TabIs Tryz.prog w "internal/strconv.uint64pow10" .u64 Lib.pow10Tab):
  Calls Tryz.prog 120 #[.int .i64 n] w fun e w'=>e= .returned (.string ⟨(Lib.itoa n).toArray⟩)/\∃k os,w'=grow (w.drewN k) os:=Any.strconv_Itoa aeM n h0 h1 w Sb
def aeC:Go.Shelf.Ren:=⟨fun|145=>138|220=>161|219=>69|217=>79|225=>80|224=>81|267=>82|266=>93|314=>94|n=>n,fun|9=>9|4=>4|59=>168|3=>3|5=>5|46=>101|146=>116|51=>115|n=>n,fun|1=>4|n=>n⟩
theorem aeB:Go.Proofs.Lays.n145 Tryz.prog aeC:={
 mixed:=by kernel_rfl
 f145:=Tryz.func138.trans (congrArg some (by kernel_rfl))
 f217:=Tryz.func79.trans (congrArg some (by kernel_rfl))
 f219:=Tryz.func69.trans (congrArg some (by kernel_rfl))
 f220:=Tryz.func161.trans (congrArg some (by kernel_rfl))
 f224:=Tryz.func81.trans (congrArg some (by kernel_rfl))
 f225:=Tryz.func80.trans (congrArg some (by kernel_rfl))
 f266:=Tryz.func93.trans (congrArg some (by kernel_rfl))
 f267:=Tryz.func82.trans (congrArg some (by kernel_rfl))
 f314:=Tryz.func94.trans (congrArg some (by kernel_rfl))
 t3:=Tryz.underlying3
 a3:=Tryz.isAgg3
 z3:=Tryz.sizeOf3
 v3:=Tryz.zeroValue3
 t4:=Tryz.underlying4
 a4:=Tryz.isAgg4
 z4:=Tryz.sizeOf4
 v4:=Tryz.zeroValue4
 t5:=Tryz.underlying5
 a5:=Tryz.isAgg5
 z5:=Tryz.sizeOf5
 v5:=Tryz.zeroValue5
 t9:=Tryz.underlying9
 a9:=Tryz.isAgg9
 z9:=Tryz.sizeOf9
 v9:=Tryz.zeroValue9
 t46:=Tryz.underlying101
 a46:=Tryz.isAgg101
 z46:=Tryz.sizeOf101
 v46:=Tryz.zeroValue101
 t51:=Tryz.underlying115
 a51:=Tryz.isAgg115
 z51:=Tryz.sizeOf115
 v51:=Tryz.zeroValue115
 t59:=Tryz.underlying168
 a59:=Tryz.isAgg168
 z59:=Tryz.sizeOf168
 v59:=Tryz.zeroValue168
 t146:=Tryz.underlying116
 a146:=Tryz.isAgg116
 z146:=Tryz.sizeOf116
 v146:=Tryz.zeroValue116
 g1:=by kernel_rfl}
open Go.RowKit Go.Lib in
theorem Tryz.strings_Cut(s Iy:ByteArray)(m:Int)(w:World)(hs:s.size<4294967281)(hm:w.cell? ⟨4,0,none⟩=some (.int .i64 m)):
  Calls Tryz.prog 138 #[.string s,.string Iy] w fun e w'=>e= .returned (.tuple #[.string ⟨(Lib.cut s.data.toList Iy.data.toList).1.toArray⟩,.string ⟨(Lib.cut s.data.toList Iy.data.toList).2.1.toArray⟩,.bool (Lib.cut s.data.toList Iy.data.toList).2.2])/\∃n,w'=w.drewN n:=Any.strings_Cut aeB s Iy m w hs hm
def XZ:Go.Shelf.Ren:=⟨fun|154=>142|138=>165|165=>166|143=>52|166=>76|197=>67|169=>74|195=>180|218=>181|240=>91|241=>182|219=>69|260=>78|276=>105|277=>201|217=>79|225=>80|224=>81|267=>82|266=>93|314=>94|n=>n,fun|9=>9|3=>3|4=>4|72=>95|0=>0|76=>98|105=>88|21=>21|5=>5|70=>92|20=>20|37=>93|75=>97|127=>108|164=>124|46=>101|119=>111|139=>114|138=>113|146=>116|51=>115|80=>74|n=>n,fun|1=>4|3=>5|4=>6|n=>n⟩
theorem aeD:Go.Proofs.Lays.n154 Tryz.prog XZ:={
 mixed:=by kernel_rfl
 f138:=Tryz.func165.trans (congrArg some (by kernel_rfl))
 f143:=Tryz.func52.trans (congrArg some (by kernel_rfl))
 f154:=Tryz.func142.trans (congrArg some (by kernel_rfl))
 f165:=Tryz.func166.trans (congrArg some (by kernel_rfl))
 f166:=Tryz.func76.trans (congrArg some (by kernel_rfl))
 f169:=Tryz.func74.trans (congrArg some (by kernel_rfl))
 f195:=Tryz.func180.trans (congrArg some (by kernel_rfl))
 f197:=Tryz.func67.trans (congrArg some (by kernel_rfl))
 f217:=Tryz.func79.trans (congrArg some (by kernel_rfl))
 f218:=Tryz.func181.trans (congrArg some (by kernel_rfl))
 f219:=Tryz.func69.trans (congrArg some (by kernel_rfl))
 f224:=Tryz.func81.trans (congrArg some (by kernel_rfl))
 f225:=Tryz.func80.trans (congrArg some (by kernel_rfl))
 f240:=Tryz.func91.trans (congrArg some (by kernel_rfl))
 f241:=Tryz.func182.trans (congrArg some (by kernel_rfl))
 f260:=Tryz.func78.trans (congrArg some (by kernel_rfl))
 f266:=Tryz.func93.trans (congrArg some (by kernel_rfl))
 f267:=Tryz.func82.trans (congrArg some (by kernel_rfl))
 f276:=Tryz.func105.trans (congrArg some (by kernel_rfl))
 f277:=Tryz.func201.trans (congrArg some (by kernel_rfl))
 f314:=Tryz.func94.trans (congrArg some (by kernel_rfl))
 t0:=Tryz.underlying0
 a0:=Tryz.isAgg0
 z0:=Tryz.sizeOf0
 v0:=Tryz.zeroValue0
 t3:=Tryz.underlying3
 a3:=Tryz.isAgg3
 z3:=Tryz.sizeOf3
 v3:=Tryz.zeroValue3
 t4:=Tryz.underlying4
 a4:=Tryz.isAgg4
 z4:=Tryz.sizeOf4
 v4:=Tryz.zeroValue4
 t5:=Tryz.underlying5
 a5:=Tryz.isAgg5
 z5:=Tryz.sizeOf5
 v5:=Tryz.zeroValue5
 t9:=Tryz.underlying9
 a9:=Tryz.isAgg9
 z9:=Tryz.sizeOf9
 v9:=Tryz.zeroValue9
 t20:=Tryz.underlying20
 a20:=Tryz.isAgg20
 z20:=Tryz.sizeOf20
 v20:=Tryz.zeroValue20
 t21:=Tryz.underlying21
 a21:=Tryz.isAgg21
 z21:=Tryz.sizeOf21
 v21:=Tryz.zeroValue21
 t37:=Tryz.underlying93
 a37:=Tryz.isAgg93
 z37:=Tryz.sizeOf93
 v37:=Tryz.zeroValue93
 t46:=Tryz.underlying101
 a46:=Tryz.isAgg101
 z46:=Tryz.sizeOf101
 v46:=Tryz.zeroValue101
 t51:=Tryz.underlying115
 a51:=Tryz.isAgg115
 z51:=Tryz.sizeOf115
 v51:=Tryz.zeroValue115
 t70:=Tryz.underlying92
 a70:=Tryz.isAgg92
 z70:=Tryz.sizeOf92
 v70:=Tryz.zeroValue92
 t72:=Tryz.underlying95
 a72:=Tryz.isAgg95
 z72:=Tryz.sizeOf95
 v72:=Tryz.zeroValue95
 t75:=Tryz.underlying97
 a75:=Tryz.isAgg97
 z75:=Tryz.sizeOf97
 v75:=Tryz.zeroValue97
 t76:=Tryz.underlying98
 a76:=Tryz.isAgg98
 z76:=Tryz.sizeOf98
 v76:=Tryz.zeroValue98
 t105:=Tryz.underlying88
 a105:=Tryz.isAgg88
 z105:=Tryz.sizeOf88
 v105:=Tryz.zeroValue88
 t119:=Tryz.underlying111
 a119:=Tryz.isAgg111
 z119:=Tryz.sizeOf111
 t127:=Tryz.underlying108
 a127:=Tryz.isAgg108
 z127:=Tryz.sizeOf108
 v127:=Tryz.zeroValue108
 t138:=Tryz.underlying113
 a138:=Tryz.isAgg113
 z138:=Tryz.sizeOf113
 v138:=Tryz.zeroValue113
 t139:=Tryz.underlying114
 a139:=Tryz.isAgg114
 z139:=Tryz.sizeOf114
 v139:=Tryz.zeroValue114
 t146:=Tryz.underlying116
 a146:=Tryz.isAgg116
 z146:=Tryz.sizeOf116
 v146:=Tryz.zeroValue116
 t164:=Tryz.underlying124
 a164:=Tryz.isAgg124
 z164:=Tryz.sizeOf124
 v164:=Tryz.zeroValue124
 g1:=by kernel_rfl
 g3:=by kernel_rfl
 g4:=by kernel_rfl}
theorem aes:Builder.Extra Tryz.prog XZ:={
 sizeBuilder:=by kernel_rfl
 liesBuilder:=by kernel_rfl
 t5:=Tryz.underlying5
 a5:=Tryz.isAgg5
 z5:=Tryz.sizeOf5
 v5:=Tryz.zeroValue5
 infoByte:=by kernel_rfl
 cellsByte:=by kernel_rfl
 sizeByte:=by kernel_rfl
 neB5:=by decide}
open Go.RowKit Go.Lib in
theorem Tryz.strings_Replace(s Hi new:ByteArray)(n:Int)(m:Int)(w:World)(hs:s.size<4294967281)(hm:w.cell? ⟨4,0,none⟩=some (.int .i64 m))(h1:1<=Hi.size)(jo:s.size+Lib.countB s Hi*new.size<=140737488355328):
  Calls Tryz.prog 142 #[.string s,.string Hi,.string new,.int .i64 n] w fun e w'=>
   e= .returned (.string ⟨(Lib.replace s.data.toList Hi.data.toList new.data.toList n).toArray⟩)/\Below w.heap.size w w':=Any.strings_Replace aeD aes s Hi new n m w hs hm h1 jo
end
end Go.Proofs
namespace Go.Proofs.YtdkchodgklpomaaGreatDoor
set_option maxRecDepth 100000
open Go.Value (int slice string bool pointer agg tuple func float iface nilIface)
open Go.IntKind (i64 u8 u64 i32 u32 u16 i8 i16)
open Go.FloatKind (f64)
open Go.Ending (returned panicked)
section
open Go
structure Ba(F:ai)(b:Nat)(vs:List Value):Prop where
 h:∀I h o,FD I h->F.holds I h o->∃t fr,h b=some (.cells ⟨vs⟩ t fr)
variable{A B F:ai}{I:a7}{vs:List Value}{w:World}
theorem Ba.sub{b:Nat}(h:Ba A b vs)(hs:Sub A B):Ba B b vs:=⟨fun I g o hI hB=>let ⟨o',hA⟩:=hs I g o hB;h.h I g o' hI hA⟩
theorem Ba.Iw{b:Nat}(h:Ba F b vs)(hs:Sat I (bD [F]) w):∃t fr,w.heap[b]?=some (.cells ⟨vs⟩ t fr):=by
 obtain⟨f,h1,-,-⟩:=hs.mN;exact h.h I (hp w) (f 0) hs.o0 (h1 0)
def S0:List Value:=Lib.pow10Tab.map fun z=>int .u64 z
structure jQ(F:ai):Prop where
 p10:Ba F 17 S0
 mx:∃m,aO F ⟨4,0,none⟩ (.int .i64 m)
theorem jQ.sub(h:jQ A)(hs:Sub A B):jQ B:=⟨h.p10.sub hs,let ⟨m,q⟩:=h.mx;⟨m,q.sub hs⟩⟩
theorem jQ.IM(h:jQ F)(hs:Sat I (bD [F]) w):Lib.TabIs Tryz.prog w "internal/strconv.uint64pow10" .u64 Lib.pow10Tab:=by
 obtain⟨t,fr,e⟩:=h.p10.Iw hs;unfold Lib.TabIs World.var?;rw[show Tryz.prog.globalNamed "internal/strconv.uint64pow10"=some 17 from bh];show(match w.heap[17]? with|some (.cells cs _ _)=>some cs|_=>none)=_;rw[e];rfl
structure X0 where
 u:Nat
def Lg:aR where
 X:=X0
 args x:=[aA x.u]
 cond x:=1<=x.u/\x.u<18446744073709551616
 aQ _ F:=jQ F
 val x _:=az (ae (Lib.nDigits x.u))
theorem alA:aC 172 Lg:=ud Lg (fun _=>rfl) (fun _ _=>()) (fun _ _=>ao) (fun _ _=>rfl) fun x _ _ w hc hr hs=>
 (Go.Proofs.Tryz.internal_strconv_numDigits x.u hc.1 hc.2 w (jQ.IM hr hs)).mono fun e w' h=>⟨h.1,h.2▸RowKit.Below.refl _ _⟩
def G8:aR where
 X:=nP
 args x:=[ae x.i]
 cond x:= -9223372036854775808<=x.i/\x.i<=9223372036854775807
 aQ _ F:=jQ F
 val x _:=az (aj ⟨(Lib.itoa x.i).toArray⟩)
theorem afG(w:World)(k:Nat):RowKit.Below w.heap.size w (w.drewN k):=⟨rfl,rfl,rfl,cr _,fun _ _=>rfl⟩
theorem afH(w:World)(k:Nat)(os:Array Obj):RowKit.Below w.heap.size w (Sort.grow (w.drewN k) os):=by
 refine⟨rfl,rfl,rfl,?_,fun j hj=>?_⟩
 ·show w.heap.size<=(w.heap++os).size;rw[Array.size_append];omega
 ·show(w.heap++os)[j]?=_;rw[Array.getElem?_append_left hj]
theorem Z9:aC 120 G8:=ud G8 (fun _=>rfl) (fun _ _=>()) (fun _ _=>ao) (fun _ _=>rfl) fun x _ _ w hc hr hs=>
 (Go.Proofs.Tryz.strconv_Itoa x.i hc.1 hc.2 w (jQ.IM hr hs)).mono fun e w' h=>⟨h.1,let ⟨k,os,e⟩:=h.2;e▸afH w k os⟩
structure I2 where
 s:ByteArray
 t:ByteArray
def uz(s t:ByteArray):List UInt8×List UInt8×Bool:=Lib.cut s.data.toList t.data.toList
def YC:aR where
 X:=I2
 args x:=[aj x.s,aj x.t]
 cond x:=x.s.size<4294967281
 aQ _ F:=jQ F
 val x _:=.returned (.tuple #[.string ⟨(uz x.s x.t).1.toArray⟩,.string ⟨(uz x.s x.t).2.1.toArray⟩,.bool (uz x.s x.t).2.2])
theorem agv:aC 138 YC:=ud YC (fun _=>rfl) (fun _ _=>()) (fun _ _=>ao) (fun _ _=>rfl) fun x F _ w hc hr hs=>
 let ⟨m,hm⟩:=jQ.mx hr
 (Go.Proofs.Tryz.strings_Cut x.s x.t m w hc (hs.zH hm)).mono fun e w' h=>⟨h.1,let ⟨k,e⟩:=h.2;e▸afG w k⟩
structure FY where
 s:ByteArray
 t:ByteArray
 u:ByteArray
 n:Int
def It(x:FY):List UInt8:=Lib.replace x.s.data.toList x.t.data.toList x.u.data.toList x.n
def rpC:aR where
 X:=FY
 args x:=[aj x.s,aj x.t,aj x.u,ae x.n]
 cond x:=x.s.size<4294967281/\1<=x.t.size/\x.s.size+Lib.countB x.s x.t*x.u.size<=140737488355328
 aQ _ F:=jQ F
 val x _:=az (aj ⟨(It x).toArray⟩)
theorem aog:aC 142 rpC:=ud rpC (fun _=>rfl) (fun _ _=>()) (fun _ _=>ao) (fun _ _=>rfl) fun x F _ w hc hr hs=>
 let ⟨m,hm⟩:=jQ.mx hr
 (Go.Proofs.Tryz.strings_Replace x.s x.t x.u x.n m w hc.1 (hs.zH hm) hc.2.1 hc.2.2).mono fun e w' h=>⟨h.1,h.2⟩
def uA(u n:Nat):List Nat:=(List.range n).map fun t=>48+u/10^(n-1-t)%10
def kR(u n z:Nat):List Nat:=uA u n++List.replicate (z-n) 0
structure Xp where
 b:Nat
 z:Nat
 n:Nat
 cap:Nat
 u:Nat
 t:TypeId
def Q_:aR where
 X:=Xp
 args x:=[au (some ⟨x.b,0,none⟩) x.n x.cap,aA x.u]
 pre x:=[ag x.b (bZ (List.replicate x.z 0)) x.t]
 cond x:=x.n<=x.z/\x.u<10^x.n/\x.u<18446744073709551616/\x.n<4611686018427387904
 val _ _:=.returned (.tuple #[])
 post x _:=[ag x.b (bZ (kR x.u x.n x.z)) x.t]
abbrev Q2:UInt8->Value:=fun b=>int .u8 (b.toNat:Int)
theorem agM(u j:Nat):(Lib.dg u j).toNat=48+u/10^j%10:=by
 unfold Lib.dg;have:u/10^j%10<10:=Nat.mod_lt _ (by decide);rw[UInt8.toNat_ofNat'];omega
theorem ahg:aC 173 Q_:=by
 refine⟨fun x F I w hc _ hs=>?_⟩;obtain⟨b,z,n,cap,u,t⟩:=x;obtain⟨h1,h2,h3,h4⟩:=(hc:n<=z/\u<10^n/\u<18446744073709551616/\n<4611686018427387904);dsimp only at h1 h2 h3 h4;have hs:Sat I (bD [.cells b (bZ (List.replicate z 0)) t,F]) w:=hs;have hb:w.heap[b]?=some (.cells ⟨bZ (List.replicate z 0)⟩ t (0,0)):=hs.cells (j:=0) rfl;have hz:(Array.replicate n (0:UInt8)).size=n:=Array.size_replicate;have hH:Sort.Holds Q2 w b 0 (Array.replicate n (0:UInt8)):=by
  intro j hj;rw[hz]at hj;constructor
  ·unfold World.cell?;rw[hb];have:(Array.replicate n (0:UInt8))[j]! =0:=by rw[getElem!_pos _ j (by rw[hz];exact hj),Array.getElem_replicate]
   rw[this];show(⟨bZ (List.replicate z 0)⟩:Array Value)[0+j]?=_;rw[jk,<-Array.getElem?_toList];show(bZ (List.replicate z 0))[j]?=_;unfold bZ;rw[gw,List.getElem?_replicate,if_pos af];rfl
  ·unfold World.frozen?;rw[hb];simp
 have key:=Go.Proofs.Tryz.internal_strconv_formatBase10 b 0 cap u (Array.replicate n (0:UInt8)) w hH (by rw[hz];exact h2) h3 (by rw[hz];exact h4);rw[hz]at key;refine key.mono ?_;rintro e w' ⟨he,k,v',dk,hw,hi⟩;have hdk:dk.size=n:=hi.size;have hd:∀j,j<n->dk[j]! =Lib.dg u (n-1-j):=fun j hj=>hi.done j (dC _) hj;have xD:Sort.putCells Q2 0 dk ⟨bZ (List.replicate z 0)⟩=⟨bZ (kR u n z)⟩:=by
  apply Array.ext_getElem?;intro j;unfold Sort.putCells;rw[Array.getElem?_mapIdx,<-Array.getElem?_toList,<-Array.getElem?_toList];show Option.map _ (bZ (List.replicate z 0))[j]?=(bZ (kR u n z))[j]?;unfold bZ kR uA;rw[gw,gw,List.getElem?_replicate];by_cases RS:j<n
  ·rw[if_pos af,rB (by simpa using RS),gw,List.getElem?_range RS];simp only[Option.map_some];rw[if_pos ⟨dC _,af⟩,Nat.sub_zero,hd j RS];show some (int .u8 (((Lib.dg u (n-1-j)).toNat:Nat):Int))=_;rw[agM]
  ·rw[sR (by simp;omega),List.getElem?_replicate];simp only[List.length_map,List.length_range];by_cases ZF:j<z
   ·rw[if_pos ZF,if_pos af];simp only[Option.map_some];rw[if_neg af]
   ·rw[if_neg ZF,if_neg af];rfl
 have hh:∀c,w'.heap[c]?=if c=b then some (.cells ⟨bZ (kR u n z)⟩ t (0,0)) else w.heap[c]?:=by
  intro c;rw[hw];show(w.heap.modify b _)[c]?=_;rw[Array.getElem?_modify];by_cases DT:c=b
  ·subst DT;rw[if_pos rfl,if_pos rfl,hb];show some (Obj.cells (Sort.putCells Q2 0 dk ⟨bZ (List.replicate z 0)⟩) t (0,0))=_;rw[xD]
  ·rw[if_neg (fun e=>DT e.symm),if_neg DT]
 have gx:w'.heap.size=w.heap.size:=by
  rw[hw];show(w.heap.modify b _).size=_;rw[Array.size_modify]
 have dD:=hs.write (w':=w') (j:=0) (b:=b) (A':=.cells b (bZ (kR u n z)) t) (fun o ho=>ho.1) (fun c DT=>by rw[hh,if_neg DT]) gx (fun o ho=>⟨ho.1,by show w'.heap[b]?=_;rw[hh,if_pos rfl]⟩);refine⟨(),I,ao,he,a7.le_refl I,dD,?_⟩;rw[hw];exact ap
end
section
open Go
def kL(u n:Nat):Nat->Nat
 |0=>0
 |k+1=>bif (uA u n).getD k 0==48 then kL u n k else k+1
theorem acf(u n:Nat):∀k,kL u n k<=k
 |0=>cr _
 |k+1=>by
  rw[kL];cases (uA u n).getD k 0==48 with
  |true=>exact Nat.le_succ_of_le (acf u n k)
  |false=>exact cr _
theorem Kb(u n:Nat):(uA u n).length=n:=by simp[uA]
variable{z:Nat}{S:St}
theorem YK{u n:Nat}(h:n<=z):(kR u n z).length=z:=by
 unfold kR;rw[gi,Kb,List.length_replicate];omega
theorem agU{u n k:Nat}(h:k<n):(bZ (kR u n z))[k]?=some (.int .u8 ((uA u n).getD k 0:Nat)):=by
 unfold kR;rw[Oo,rB (by rw[Fu,Kb];exact h)];unfold bZ;rw[gw,gv (by rw[Kb];exact h),fD,gv (by rw[Kb];exact h)];rfl
structure Gh(vs:List Value):Prop where
 h:vs=bZ (List.replicate 32 0)
structure w_ where
 t:TypeId
 vs:List Value
 b:Nat
 u:Nat
 p:Int
 n:Nat
def u3(x:w_):Option Addr:=some ⟨x.b,0,none⟩
def Ns(x:w_):=ag x.b (bZ (kR x.u x.n 32)) x.t
def CG:aR where
 X:=w_
 args x:=[au (u3 x) 32 32,aA x.u,ae x.p,ae x.n]
 pre x:=[ag x.b x.vs x.t]
 cond x:=Gh x.vs/\x.n<=20/\x.u<10^x.n/\x.u<18446744073709551616/\ -100000<=x.p/\x.p<=100000
 val x _:=.returned (.tuple #[.int .i64 (x.n+x.p),.int .i64 (kL x.u x.n x.n:Nat)])
 post x _:=[Ns x]
def aox(x:w_)(F:ai):Nat->Option Inv:=fun
 |0=>some {X:=Nat,P:=fun k=>k<=x.n/\kL x.u x.n x.n=kL x.u x.n k,mu:=fun k=>k,lv:=fun k=>[(0,au (u3 x) 32 32),(3,ae k),(8,ae (x.n+x.p))],st:=fun _=>[Ns x,F]}
 |_=>none
def NF(a:Nat)(x:w_):=a<=x.n/\kL x.u x.n x.n=kL x.u x.n a
def HQ(x:w_)(F:ai):=[(0,ag x.b (bZ (kR x.u x.n 32)) x.t),(1,F)]
def UY(e:Nat):=(-9223372036854775808:Int)<=(e:Int)-(1:Int)/\(e:Int)-(1:Int)<=(9223372036854775807:Int)
def Wa(x:w_)(F:ai)(e:Nat):=aq CG x F (az (tuple ⟨[ae (x.n+x.p),ae ↑e]⟩)) (HQ x F)
theorem aoz(x:w_)(F:ai)(hc:CG.cond x)(hr:CG.aQ x F):aP ((x.n:Int)<=(↑(32:Nat):Int)) (dH Tryz.prog (a8 Tryz.f194 2 2) IB/\∃(h:Xy),[au (u3 x) 32 32,ae ↑x.n]=[au h.a h.n h.cap,ae h.h]/\(0<=h.h/\h.h<=h.cap)/\aC 173 Q_/\true=true/\∃(g:Xp),[au h.a h.h.toNat h.cap,aA ↑x.u]=[au (some ⟨g.b,0,none⟩) g.n g.cap,aA ↑g.u]/\[ag x.b x.vs x.t]=[ag g.b (bZ (List.replicate g.z 0)) g.t]/\(g.n<=g.z/\g.u<Nat.pow 10 g.n/\g.u<18446744073709551616/\g.n<4611686018427387904)/\True/\∀(f:Unit),True->bT (x.n+x.p)/\(∃(a:Nat),NF a x/\(au (u3 x) 32 32=au (u3 x) 32 32/\ae ↑x.n=ae ↑a/\ae (x.n+x.p)=ae (x.n+x.p)/\True)/\aD [(0,ag g.b (bZ (kR g.u g.n g.z)) g.t),(1,F)] (HQ x F))/\aS fun(e:Nat)_=>NF e x->aP ((e:Int)>(0:Int)) (UY e/\kl (a8 Tryz.f194 4 6) [au (u3 x) 32 32,ae ((e:Int)-(1:Int))] (fun c=>jP (Ns x) ⟨c.b,c.o+c.n.toNat*1,none⟩ (fun b=>Br (b==48) (UY e/\∃(a:Nat),NF a x/\(au (u3 x) 32 32=au (u3 x) 32 32/\ae ((e:Int)-(1:Int))=ae ↑a/\ae (x.n+x.p)=ae (x.n+x.p)/\True)/\aD (HQ x F) (HQ x F)/\a<e) (Wa x F e)))) (Wa x F e)) (aq CG x F (az (tuple ⟨[ae 0,ae ↑x.n]⟩)) [(0,ag x.b x.vs x.t),(1,F)]):=by
 delta u3 NF HQ UY kl jP Ns Wa bT ae a_ aA au ag aP az aS;obtain⟨t,vs,b,u,p,n⟩:=x;obtain⟨⟨h0⟩,h1,h2,h3,h4,h5⟩:=hc;dsimp only at h0 h1 h2 h3 h4 h5⊢;refine bl (fun _=>⟨ao4 rfl rfl rfl,⟨some ⟨b,0,none⟩,32,32,n⟩,rfl,⟨by simp[*],af⟩,ahg,rfl,⟨b,32,n,32,u,t⟩,rfl,by rw[h0],⟨by grind,h2,h3,by grind⟩,ao,fun _ _=>⟨aJ,⟨n,⟨cr _,rfl⟩,aV,aB [0,1]⟩,?_⟩⟩) (fun q=>(q af).elim);rintro k js ⟨h6,h7⟩;cases k with
 |zero=>exact bl (fun q=>absurd q af) (fun _=>⟨(),ao,by show _=returned (.tuple #[.int .i64 (n+p),.int .i64 (kL u n n:Nat)]);rw[h7];rfl,aB [0,1]⟩)
 |succ k=>
  have e1:(((k+1:Nat):Int)-1)=((k:Nat):Int):=af;rw[e1];rw[kL]at h7;refine bl (fun _=>⟨aJ,jp 1 rfl rfl rfl rfl,⟨b,0,32,32,k⟩,rfl,⟨by simp[*],by grind⟩,(((uA u n).getD k 0:Nat):Int),?_,?_⟩) (fun q=>absurd af q)
  ·refine aO.cells ?_;rw[show 0+((k:Nat):Int).toNat*1=k by omega];exact agU af
  ·rw[show((((uA u n).getD k 0:Nat):Int)==48)=((uA u n).getD k 0==48) by grind];refine aG (fun q=>?_) (fun q=>?_)
   ·rw[q,bf]at h7;exact⟨aJ,k,⟨af,h7⟩,aV,aB [0,1],jj _⟩
   ·rw[q,aU]at h7;exact⟨(),ao,by show _=returned (.tuple #[.int .i64 (n+p),.int .i64 (kL u n n:Nat)]);rw[h7],aB [0,1]⟩
theorem aoy:aC 194 CG:=fo 36 Tryz.func194 (fun _ _=>[(2,2,.qo IB),(2,4,bq Q_),(4,6,.qo (h_ 1)),(4,7,.q [.ex 0 (.int .u8)])]) [] aox aY bz [] aoz
def eI(neg:Bool):List Nat:=bif neg then [45] else []
def eC(ds:List Nat)(nd:Nat):Nat:=bif nd==0 then 48 else ds.getD 0 0
def gG(ds:List Nat)(nd:Nat):List Nat:=bif decide (nd>1) then 46::(ds.take nd).drop 1 else []
def d7(dp:Int)(nd:Nat):Int:=bif nd==0 then 0 else dp-1
def nX(e:Int):Nat:=bif decide (e<0) then 45 else 43
def nY(n:Nat):List Nat:=bif decide (n<10) then [48,n+48] else bif decide (n<100) then [n/10+48,n%10+48] else [n/100+48,n/10%10+48,n%10+48]
def sO(neg:Bool)(ds:List Nat)(dp:Int)(nd:Nat):List Nat:=eI neg++[eC ds nd]++gG ds nd++[101]++[nX (d7 dp nd)]++nY (d7 dp nd).natAbs
structure lZ where
 r:Row
 neg:Bool
 b:Nat
 ds:List Nat
 dp:Int
 nd:Nat
def oC(x:lZ):Option Addr:=some ⟨x.b,0,none⟩
def Bz:aR where
 X:=lZ
 Y:=Row
 args x:=[au x.r.a x.r.n x.r.cap,ak x.neg,au (oC x) 32 32,ae x.dp,ae x.nd,ae (x.nd-1:Nat),a_ 101,ak true]
 pre x:=[x.r.A]
 cond x:=bv 5 1 [] x.r/\x.ds.length=32/\x.nd<=20/\ -900<=x.dp/\x.dp<=900
 aQ x F:=da F ⟨x.b,0,none⟩ (bZ x.ds)
 cd x y:=bv 5 1 (bZ (sO x.neg x.ds x.dp x.nd)) y
 val _ y:=az (au y.a y.n y.cap)
 post _ y:=[y.A]
structure fT where
 r:Row
 c:Nat
 e:Int
def jT(l:List Nat)(d:fT):Prop:=bv 5 1 (bZ l) d.r
def zu(x:lZ)(F:ai)(P:fT->Prop)(lv:fT->List (Nat×Value)):Option Inv:=some {X:=fT,P:=P,mu:=fun _=>0,lv:=fun d=>[(0,.slice d.r.a d.r.n d.r.cap),(2,.slice (some ⟨x.b,0,none⟩) 32 32),(3,.int .i64 x.dp),(4,.int .i64 x.nd),(5,.int .i64 (x.nd-1:Nat)),(6,.int .u8 101)]++lv d,st:=fun d=>[d.r.A,F]}
def ahB(x:lZ)(F:ai):Nat->Option Inv:=fun
 |22=>zu x F (fun d=>jT (eI x.neg) d) (fun _=>[])
 |25=>zu x F (fun d=>jT (eI x.neg) d/\d.c=eC x.ds x.nd) (fun d=>[(19,.int .u8 d.c)])
 |37=>zu x F (fun d=>jT (eI x.neg++[eC x.ds x.nd]++gG x.ds x.nd) d) (fun _=>[])
 |41=>zu x F (fun d=>jT (eI x.neg++[eC x.ds x.nd]++gG x.ds x.nd++[101]) d/\d.e=d7 x.dp x.nd) (fun d=>[(22,.int .i64 d.e)])
 |45=>zu x F (fun d=>jT (eI x.neg++[eC x.ds x.nd]++gG x.ds x.nd++[101]) d/\d.e=(d7 x.dp x.nd).natAbs/\d.c=nX (d7 x.dp x.nd)) (fun d=>[(19,.int .u8 d.c),(22,.int .i64 d.e)])
 |47=>zu x F (fun d=>jT (eI x.neg++[eC x.ds x.nd]++gG x.ds x.nd++[101]++[nX (d7 x.dp x.nd)]) d/\d.e=(d7 x.dp x.nd).natAbs) (fun d=>[(22,.int .i64 d.e)])
 |51=>zu x F (fun d=>jT (sO x.neg x.ds x.dp x.nd) d) (fun _=>[])
 |_=>none
def ahD(x:lZ)(F:ai):Nat->Option Inv:=fun
 |1=>zu x F (fun d=>jT (eI x.neg++[eC x.ds x.nd]++gG x.ds x.nd) d) (fun _=>[(113,.int .i64 0),(114,.int .i64 0)])
 |_=>none
theorem Bf{o:Oper}{r:Row}{l m:List Nat}{a:Addr}{c:Nat}{K:qX->Row->Prop}(ho:fj Tryz.prog o (dt 5 1 1))(hr:bv 5 1 (bZ l) r)(hl:l.length<=1000)(hm:m.length<=1000)(hs:da (.dv (rest S [0])) a (bZ m))(hk:∀y,bv 5 1 (bZ (l++m)) y->K ⟨r,bZ l,some a,m.length,c,bZ m⟩ y):
  fj Tryz.prog o (dt 5 1 1)/\true=true/\∃x:qX,[slice r.a r.n r.cap,slice (some a) m.length c]=[slice x.r.a x.r.n x.r.cap,slice x.a x.m x.c]/\[r.A]=[x.r.A]/\
  (bv 5 1 x.cs x.r/\x.ys.length=x.m*1/\(∀u∈x.ys,u.oneCell'=true)/\(x.r.n+x.m)*1<=140737488355328/\x.r.n+x.m<=9223372036854775807/\(x.a=none->x.m=0/\x.c=0))/\
  (∀a,x.a=some a->da (.dv (rest S [0])) a x.ys)/\∀y:Row,(bv 5 1 (x.cs++x.ys) y/\y.n=x.r.n+x.m/\(x.m=0->y=x.r))->K x y:=by
 have hn:=hr.len;rw[Fu]at hn;refine bp ho ⟨r,bZ l,some a,m.length,c,bZ m⟩ ⟨hr,by dsimp only;rw[Fu];omega,fun u hu=>W2 hu,by grind,by grind,fun e=>by cases e⟩ (fun a' e=>by cases e;exact hs) fun y hy=>hk y ?_;rw[Oo];simp[*]
theorem AB{b j:Nat}{vs ys:List Value}{t:TypeId}(hj:gt S j= .cells b vs t)(e:ys=vs)(hn:j∉[0]):da (.dv (rest S [0])) ⟨b,0,none⟩ ys:=by
 subst e;exact da.rest (j:=j) hn (by rw[hj];exact da.cells (fun i u hi=>by simp[*]))
theorem Y5(neg:Bool)(ds:List Nat)(nd:Nat)(h:ds.length=32):(eI neg).length<=1/\(gG ds nd).length<=32:=by
 constructor
 ·cases neg <;> decide
 ·unfold gG;cases decide (nd>1)with
  |false=>exact dC _
  |true=>
   rw[bf,xA,List.length_drop,List.length_take];omega
theorem ahF{n:Nat}(h:n<=999):∀b∈nY n,48<=b/\b<=57:=by
 unfold nY;intro b hb;by_cases h1:n<10
 ·grind
 ·rw[bK h1,aU]at hb;by_cases h2:n<100
  ·grind
  ·rw[bK h2,aU]at hb;simp only[List.mem_cons,List.not_mem_nil,or_false]at hb;omega
def NV(v0:Value)(z:fT)(e0:lZ):=v0=au z.r.a z.r.n z.r.cap/\au (oC e0) 32 32=au (oC e0) 32 32/\ae e0.dp=ae e0.dp/\ae ↑e0.nd=ae ↑e0.nd/\ae (↑(e0.nd-1):Int)=ae (↑(e0.nd-1):Int)/\a_ 101=a_ 101/\True
def pg(z:fT)(e1:ai):=[(0,z.r.A),(1,e1)]
def Pw(e0:lZ)(e1:ai)(v0:Value)(ss:St):=∃(z:fT),jT (eI e0.neg) z/\NV v0 z e0/\aD ss (pg z e1)
def Px(e0:lZ)(e1:ai)(v0 v1:Value)(ss:St):=∃(z:fT),(jT (eI e0.neg) z/\z.c=eC e0.ds e0.nd)/\(v0=au z.r.a z.r.n z.r.cap/\au (oC e0) 32 32=au (oC e0) 32 32/\ae e0.dp=ae e0.dp/\ae ↑e0.nd=ae ↑e0.nd/\ae (↑(e0.nd-1):Int)=ae (↑(e0.nd-1):Int)/\a_ 101=a_ 101/\v1=a_ ↑z.c/\True)/\aD ss (pg z e1)
def z7(v:fT):=au v.r.a v.r.n v.r.cap
def NA(t:fT)(r:Nat):List Value:=[au t.r.a t.r.n t.r.cap,au (bJ r) 1 1]
def wu(p:Row)(h:Nat):List Value:=[au p.a p.n p.cap,au (bJ h) 1 1]
def HO(p:Row)(F:ai)(r:Nat)(t:fT)(h:Nat):=[(0,p.A),(1,F),(9020,ag r [a_ ↑t.c] 5),(9030,ag h [a_ 46] 5)]
def Mn(x:lZ):=(-9223372036854775808:Int)<=(↑(x.nd-1):Int)+1/\(↑(x.nd-1):Int)+1<=(9223372036854775807:Int)
def Py(e0:lZ)(e1:ai)(v0 v1:Value)(ss:St):=∃(z:fT),jT (eI e0.neg++[eC e0.ds e0.nd]++gG e0.ds e0.nd) z/\(v0=au z.r.a z.r.n z.r.cap/\au (oC e0) 32 32=au (oC e0) 32 32/\ae e0.dp=ae e0.dp/\ae ↑e0.nd=ae ↑e0.nd/\ae (↑(e0.nd-1):Int)=ae (↑(e0.nd-1):Int)/\a_ 101=a_ 101/\v1=ae 0/\ae 0=ae 0/\True)/\aD ss (pg z e1)
def Jo(e0:lZ)(e1:ai)(v0:Value)(ss:St):=∃(z:fT),jT (eI e0.neg++[eC e0.ds e0.nd]++gG e0.ds e0.nd) z/\NV v0 z e0/\aD ss (pg z e1)
def V3(e0:lZ)(z:fT):=jT (eI e0.neg++[eC e0.ds e0.nd]++gG e0.ds e0.nd++[101]) z/\z.e=d7 e0.dp e0.nd
def Pz(e0:lZ)(e1:ai)(v0 v1:Value)(ss:St):=∃(z:fT),V3 e0 z/\(v0=au z.r.a z.r.n z.r.cap/\au (oC e0) 32 32=au (oC e0) 32 32/\ae e0.dp=ae e0.dp/\ae ↑e0.nd=ae ↑e0.nd/\ae (↑(e0.nd-1):Int)=ae (↑(e0.nd-1):Int)/\a_ 101=a_ 101/\v1=ae z.e/\True)/\aD ss (pg z e1)
def UI(e0:lZ)(z:fT):=jT (eI e0.neg++[eC e0.ds e0.nd]++gG e0.ds e0.nd++[101]) z/\z.e=(↑(d7 e0.dp e0.nd).natAbs:Int)/\z.c=nX (d7 e0.dp e0.nd)
def PA(e0:lZ)(e1:ai)(v0 v1 v2:Value)(ss:St):=∃(z:fT),UI e0 z/\(v0=au z.r.a z.r.n z.r.cap/\au (oC e0) 32 32=au (oC e0) 32 32/\ae e0.dp=ae e0.dp/\ae ↑e0.nd=ae ↑e0.nd/\ae (↑(e0.nd-1):Int)=ae (↑(e0.nd-1):Int)/\a_ 101=a_ 101/\v1=a_ ↑z.c/\v2=ae z.e/\True)/\aD ss (pg z e1)
def UE(x:lZ)(a:fT):=jT (eI x.neg++[eC x.ds x.nd]++gG x.ds x.nd++[101]++[nX (d7 x.dp x.nd)]) a/\a.e=(↑(d7 x.dp x.nd).natAbs:Int)
def Jp(e0:lZ)(e1:ai)(v0:Value)(ss:St):=∃(z:fT),jT (sO e0.neg e0.ds e0.dp e0.nd) z/\NV v0 z e0/\aD ss (pg z e1)
def UR(f:fT):=(-9223372036854775808:Int)<=f.e.tdiv (10:Int)/\f.e.tdiv (10:Int)<=(9223372036854775807:Int)
def Wj(f:fT):=0<=f.e.tdiv (10:Int)/\f.e.tdiv (10:Int)<=(255:Int)
def Wk(f:fT):=0<=f.e.tmod (10:Int)/\f.e.tmod (10:Int)<=(255:Int)
def Vz(f:fT):=0<=f.e.tmod (10:Int)+(48:Int)/\f.e.tmod (10:Int)+(48:Int)<=(255:Int)
def VH(f:fT):List Value:=[a_ (f.e.tdiv (10:Int)+(48:Int)),a_ (f.e.tmod (10:Int)+(48:Int))]
def Uq(f:fT):List Value:=[a_ (f.e.tdiv (100:Int)+(48:Int)),a_ ((f.e.tdiv (10:Int)).tmod (10:Int)+(48:Int)),a_ (f.e.tmod (10:Int)+(48:Int))]
theorem ahH(x:lZ)(F:ai)(hc:Bz.cond x)(hr:Bz.aQ x F):Br x.neg (∀(d:Nat),T3 (a8 Tryz.f192 21 2) [au x.r.a x.r.n x.r.cap,au (bJ d) 1 1] [x.r.A] (aH [(0,x.r.A),(1,F),(9010,ag d [a_ 45] 5)] [0]) (fun c b=>Pw x F (mf b) [(0,b.A),(1,F),(9010,ag d [a_ 45] 5)])) (Pw x F (au x.r.a x.r.n x.r.cap) [(0,x.r.A),(1,F)])/\aS fun(v:fT)_=>jT (eI x.neg) v->Br ((x.nd:Int)!=0) (kl (a8 Tryz.f192 24 1) [au (oC x) 32 32,ae 0] (fun c=>jP F ⟨c.b,c.o+c.n.toNat*1,none⟩ (fun b=>Px x F (z7 v) (a_ b) (pg v F)))) (Px x F (z7 v) (a_ 48) (pg v F))/\aS fun(t:fT)_=>(jT (eI x.neg) t/\t.c=eC x.ds x.nd)->∀(r:Nat),T3 (a8 Tryz.f192 25 3) (NA t r) [t.r.A] (aH [(0,t.r.A),(1,F),(9020,ag r [a_ ↑t.c] 5)] [0]) (fun q p=>aP ((↑(x.nd-1):Int)>0) (∀(h:Nat),T3 (a8 Tryz.f192 27 2) (wu p h) [p.A] (aH (HO p F r t h) [0]) (fun g f=>Mn x/\aP (1<if (↑(x.nd-1):Int)+1<(x.nd:Int) then (↑(x.nd-1):Int)+1 else (x.nd:Int)) (((0:Int)<=(1:Int)/\(1<=if (↑(x.nd-1):Int)+1<(x.nd:Int) then (↑(x.nd-1):Int)+1 else (x.nd:Int))/\(if (↑(x.nd-1):Int)+1<(x.nd:Int) then (↑(x.nd-1):Int)+1 else (x.nd:Int))<=(↑(32:Nat):Int)/\1<(↑(32:Nat):Int))/\T3 (a8 Tryz.f192 31 5) [au f.a f.n f.cap,au (some ⟨x.b,1,none⟩) ((if (↑(x.nd-1):Int)+1<(x.nd:Int) then (↑(x.nd-1):Int)+1 else (x.nd:Int)).toNat-1) 31] [f.A] (aH (HO f F r t h) [0]) (fun e d=>Mn x/\(((-9223372036854775808:Int)<=(↑(x.nd-1):Int)+1-if (↑(x.nd-1):Int)+1<(x.nd:Int) then (↑(x.nd-1):Int)+1 else (x.nd:Int))/\((↑(x.nd-1):Int)+1-if (↑(x.nd-1):Int)+1<(x.nd:Int) then (↑(x.nd-1):Int)+1 else (x.nd:Int))<=9223372036854775807)/\Py x F (mf d) (ae ((↑(x.nd-1):Int)+1-if (↑(x.nd-1):Int)+1<(x.nd:Int) then (↑(x.nd-1):Int)+1 else (x.nd:Int))) (HO d F r t h)/\aS fun(c:fT)_=>jT (eI x.neg++[eC x.ds x.nd]++gG x.ds x.nd) c->Jo x F (z7 c) (pg c F))) (Mn x/\((-9223372036854775808:Int)<=(↑(x.nd-1):Int)+1-(1:Int)/\(↑(x.nd-1):Int)+1-(1:Int)<=(9223372036854775807:Int))/\Py x F (mf f) (ae ((↑(x.nd-1):Int)+1-(1:Int))) (HO f F r t h)/\aS fun(c:fT)_=>jT (eI x.neg++[eC x.ds x.nd]++gG x.ds x.nd) c->Jo x F (z7 c) (pg c F)))) (Jo x F (mf p) [(0,p.A),(1,F),(9020,ag r [a_ ↑t.c] 5)])/\aS fun(o:fT)_=>jT (eI x.neg++[eC x.ds x.nd]++gG x.ds x.nd) o->∀(m:Nat),T3 (a8 Tryz.f192 37 3) (NA o m) [o.r.A] (aH [(0,o.r.A),(1,F),(9050,ag m [a_ 101] 5)] [0]) (fun l k=>((-9223372036854775808:Int)<=x.dp-1/\x.dp-1<=(9223372036854775807:Int))/\Br ((x.nd:Int)==0) (Pz x F (mf k) (ae 0) [(0,k.A),(1,F),(9050,ag m [a_ 101] 5)]) (Pz x F (mf k) (ae (x.dp-1)) [(0,k.A),(1,F),(9050,ag m [a_ 101] 5)])/\aS fun(j:fT)_=>V3 x j->aP (j.e<0) (PA x F (z7 j) (a_ 45) (ae (bY ((0:Int)-j.e))) (pg j F)) (PA x F (z7 j) (a_ 43) (ae j.e) (pg j F))/\aS fun(h:fT)_=>UI x h->(∀(d:Nat),T3 (a8 Tryz.f192 45 3) (NA h d) [h.r.A] (aH [(0,h.r.A),(1,F),(9060,ag d [a_ ↑h.c] 5)] [0]) (fun c b=>∃(a:fT),UE x a/\(au b.a b.n b.cap=au a.r.a a.r.n a.r.cap/\au (oC x) 32 32=au (oC x) 32 32/\ae x.dp=ae x.dp/\ae ↑x.nd=ae ↑x.nd/\ae (↑(x.nd-1):Int)=ae (↑(x.nd-1):Int)/\a_ 101=a_ 101/\ae h.e=ae a.e/\True)/\aD [(0,b.A),(1,F),(9060,ag d [a_ ↑h.c] 5)] (pg a F)))/\aS fun(f:fT)_=>UE x f->aP (f.e<10) ((0<=f.e/\f.e<=255)/\(0<=f.e+48/\f.e+48<=(255:Int))/\∀(d:Nat),T3 (a8 Tryz.f192 48 5) [au f.r.a f.r.n f.r.cap,au (bJ d) 2 2] [f.r.A] (aH [(0,f.r.A),(1,F),(9070,ag d [a_ 48,a_ (f.e+48)] 5)] [0]) (fun c b=>Jp x F (mf b) [(0,b.A),(1,F),(9070,ag d [a_ 48,a_ (f.e+48)] 5)])) (aP (f.e<100) ((10:Int)≠(0:Int)/\UR f/\Wj f/\(0<=f.e.tdiv (10:Int)+(48:Int)/\f.e.tdiv (10:Int)+(48:Int)<=(255:Int))/\(10:Int)≠(0:Int)/\Wk f/\Vz f/\∀(d:Nat),T3 (a8 Tryz.f192 50 10) [au f.r.a f.r.n f.r.cap,au (bJ d) 2 2] [f.r.A] (aH [(0,f.r.A),(1,F),(9080,ag d (VH f) 5)] [0]) (fun c b=>Jp x F (mf b) [(0,b.A),(1,F),(9080,ag d (VH f) 5)])) ((100:Int)≠(0:Int)/\((-9223372036854775808:Int)<=f.e.tdiv (100:Int)/\f.e.tdiv (100:Int)<=(9223372036854775807:Int))/\(0<=f.e.tdiv (100:Int)/\f.e.tdiv (100:Int)<=(255:Int))/\(0<=f.e.tdiv (100:Int)+(48:Int)/\f.e.tdiv (100:Int)+(48:Int)<=(255:Int))/\(10:Int)≠(0:Int)/\UR f/\Wj f/\(10:Int)≠(0:Int)/\(0<=(f.e.tdiv (10:Int)).tmod (10:Int)+(48:Int)/\(f.e.tdiv (10:Int)).tmod (10:Int)+(48:Int)<=(255:Int))/\(10:Int)≠(0:Int)/\Wk f/\Vz f/\∀(d:Nat),T3 (a8 Tryz.f192 46 15) [au f.r.a f.r.n f.r.cap,au (bJ d) 3 3] [f.r.A] (aH [(0,f.r.A),(1,F),(9090,ag d (Uq f) 5)] [0]) (fun c b=>Jp x F (mf b) [(0,b.A),(1,F),(9090,ag d (Uq f) 5)])))/\aS fun(b:fT)_=>jT (sO x.neg x.ds x.dp x.nd) b->aq Bz x F (az (z7 b)) (pg b F))):=by
 delta mg T3 bJ oC NV pg Pw mf kl jP Px z7 NA wu HO Mn Py Jo V3 Pz UI PA UE Jp UR Wj Wk Vz VH Uq aH ae a_ au ag bY aP az aS;obtain⟨r0,neg,b,ds,dp,nd⟩:=x;obtain⟨h0,h1,h2,h3,h4⟩:=hc;replace hr:da F ⟨b,0,none⟩ (bZ ds):=hr;dsimp only at h0 h1 h2 h3 h4⊢;obtain⟨l1,l3⟩:=Y5 neg ds nd h1;have hE:(d7 dp nd).natAbs<=999:=by
  unfold d7;grind
 have sX:∀k,k<32->(bZ ds)[k]?=some (.int .u8 (ds.getD k 0:Nat)):=fun k hk=>by
  unfold bZ;simp[*]
 refine⟨aG (fun q=>fun lb=>Bf (l:=[]) (m:=[45]) (kP 1 1 rfl rfl rfl rfl rfl rfl rfl (by decide)) h0 (by decide) (by decide) (AB (j:=9010) rfl rfl (by decide)) fun y hy=>⟨⟨y,0,0⟩,by rw[q];exact hy,aV,aB [0,1]⟩) (fun q=>⟨⟨r0,0,0⟩,by rw[q];exact h0,aV,aB [0,1]⟩),?_⟩;clear h0;rintro⟨r,-,-⟩ js (h5:bv 5 1 (bZ (eI neg)) r);refine⟨aG (fun q=>⟨jp 1 rfl rfl rfl rfl,⟨b,0,32,32,0⟩,rfl,⟨cN _,by simp[*]⟩,((ds.getD 0 0:Nat):Int),hr 0 _ (sX 0 (by decide)),⟨r,ds.getD 0 0,0⟩,⟨h5,?_⟩,aV,aB [0,1]⟩) (fun q=>⟨⟨r,48,0⟩,⟨h5,?_⟩,aV,aB [0,1]⟩),?_⟩
 ·show ds.getD 0 0=eC ds nd;unfold eC;grind
 ·show 48=eC ds nd;unfold eC;grind
 clear h5 r;rintro⟨r,c,e0⟩ js ⟨h5,h6⟩;replace h5:bv 5 1 (bZ (eI neg)) r:=h5;dsimp only at h6;subst h6;dsimp only;intro lb;refine Bf (l:=eI neg) (m:=[eC ds nd]) (kP 1 1 rfl rfl rfl rfl rfl rfl rfl (by decide)) h5 af (by simp[*]) (AB (j:=9020) rfl rfl (by decide)) fun y hy=>?_;refine⟨bl (fun q=>fun uK=>?_) (fun q=>⟨⟨y,0,0⟩,?_,aV,aB [0,1]⟩),?_⟩
 ·have hn1:nd>1:=by omega
  have e1:(((nd-1:Nat):Int)+1)=(nd:Int):=af;rw[e1];refine Bf (l:=eI neg++[eC ds nd]) (m:=[46]) (kP 1 1 rfl rfl rfl rfl rfl rfl rfl (by decide)) hy (by grind) (by decide) (AB (j:=9030) rfl rfl (by decide)) fun y2 nk=>?_;rw[if_neg (Int.lt_irrefl _)];have ez:((nd:Int)-(nd:Int))=0:=af;have jo:((ds.take nd).drop 1).length=nd-1:=by grind
  have key:∀y3,bv 5 1 (bZ (eI neg++[eC ds nd]++[46]++(ds.take nd).drop 1)) y3->bv 5 1 (bZ (eI neg++[eC ds nd]++gG ds nd)) y3:=fun y3 h=>by
   unfold gG;grind
  refine⟨aJ,bl (fun _=>⟨⟨by decide,af,af,by decide⟩,?_⟩) (fun q=>(q af).elim)⟩;have em:((nd:Int).toNat-1)=((ds.take nd).drop 1).length:=af;rw[em];refine Bf (l:=eI neg++[eC ds nd]++[46]) (m:=(ds.take nd).drop 1) (kP 1 1 rfl rfl rfl rfl rfl rfl rfl (by decide)) nk (by grind) af ?_ fun y3 hy3=>?_
  ·refine da.rest (j:=1) (by decide) ?_;intro j u hj;have hjl:j<nd-1:=by
    have:=(mG.1 hj).1;rw[Fu,jo]at this;omega
   have:(bZ ds)[1+j]?=some u:=by
    rw[<-hj];unfold bZ;grind
   have e:(⟨b,1,none⟩:Addr).add j=(⟨b,0,none⟩:Addr).add (1+j):=by simp[Addr.add]
   rw[e];exact hr (1+j) u this
  ·rw[ez];exact⟨aJ,⟨by decide,by decide⟩,⟨⟨y3,0,0⟩,key y3 hy3,aV,aB [0,1]⟩,fun d js hd=>⟨d,hd,aV,aB [0,1]⟩⟩
 ·show bv 5 1 (bZ (eI neg++[eC ds nd]++gG ds nd)) y;unfold gG;grind
 clear h5 r;rintro⟨r,-,-⟩ js (h5:bv 5 1 (bZ (eI neg++[eC ds nd]++gG ds nd)) r);intro lb;refine Bf (l:=eI neg++[eC ds nd]++gG ds nd) (m:=[101]) (kP 1 1 rfl rfl rfl rfl rfl rfl rfl (by decide)) h5 (by grind) (by decide) (AB (j:=9050) rfl rfl (by decide)) fun y hy=>?_;refine⟨aJ,aG (fun q=>⟨⟨y,0,0⟩,⟨hy,?_⟩,aV,aB [0,1]⟩) (fun q=>⟨⟨y,0,dp-1⟩,⟨hy,?_⟩,aV,aB [0,1]⟩),?_⟩
 ·show 0=d7 dp nd;unfold d7;grind
 ·show dp-1=d7 dp nd;unfold d7;grind
 clear hy h5 r y;rintro⟨r,c0,e⟩ js ⟨h5,h6⟩;replace h5:bv 5 1 (bZ (eI neg++[eC ds nd]++gG ds nd++[101])) r:=h5;dsimp only at h6⊢;subst h6;refine⟨bl (fun q=>⟨⟨r,45,((d7 dp nd).natAbs:Nat)⟩,⟨h5,rfl,?_⟩,⟨rfl,rfl,rfl,rfl,rfl,rfl,rfl,?_,ao⟩,aB [0,1]⟩) (fun q=>⟨⟨r,43,((d7 dp nd).natAbs:Nat)⟩,⟨h5,rfl,?_⟩,⟨rfl,rfl,rfl,rfl,rfl,rfl,rfl,?_,ao⟩,aB [0,1]⟩),?_⟩
 ·show 45=nX (d7 dp nd);unfold nX;simp[*]
 ·rw[dA (i:=.i64) (n:=0-d7 dp nd) aJ];grind
 ·show 43=nX (d7 dp nd);unfold nX;simp[*]
 ·grind
 clear h5 r;rintro⟨r,c,e⟩ js ⟨h5,h6,h7⟩;replace h5:bv 5 1 (bZ (eI neg++[eC ds nd]++gG ds nd++[101])) r:=h5;dsimp only at h6 h7⊢;subst h6 h7;refine⟨fun lb=>?_,?_⟩
 ·refine Bf (l:=eI neg++[eC ds nd]++gG ds nd++[101]) (m:=[nX (d7 dp nd)]) (kP 1 1 rfl rfl rfl rfl rfl rfl rfl (by decide)) h5 (by grind) (by simp[*]) (AB (j:=9060) rfl rfl (by decide)) fun y hy=>?_;exact⟨⟨y,0,((d7 dp nd).natAbs:Nat)⟩,⟨hy,rfl⟩,aV,aB [0,1]⟩
 clear h5 r;rintro⟨r,c0,e⟩ js ⟨h5,h6⟩;replace h5:bv 5 1 (bZ (eI neg++[eC ds nd]++gG ds nd++[101]++[nX (d7 dp nd)])) r:=h5;dsimp only at h6⊢;subst h6;have fin:∀y,bv 5 1 (bZ (eI neg++[eC ds nd]++gG ds nd++[101]++[nX (d7 dp nd)]++nY (d7 dp nd).natAbs)) y->jT (sO neg ds dp nd) ⟨y,0,0⟩:=fun y h=>h;generalize hen:(d7 dp nd).natAbs=n at*;have t1:((n:Nat):Int).tdiv 10=((n/10:Nat):Int):=(Int.ofNat_tdiv n 10).symm;have t2:((n:Nat):Int).tmod 10=((n%10:Nat):Int):=(Int.ofNat_tmod n 10).symm;have t3:((n:Nat):Int).tdiv 100=((n/100:Nat):Int):=(Int.ofNat_tdiv n 100).symm;have t4:((n/10:Nat):Int).tmod 10=((n/10%10:Nat):Int):=(Int.ofNat_tmod (n/10) 10).symm;rw[t1,t2,t3,t4];have hL:∀m:List Nat,nY n=m->m.length<=3->∀{o:Oper}{a:Addr}{c:Nat}{S:St}{K:qX->Row->Prop},fj Tryz.prog o (dt 5 1 1)->da (.dv (rest S [0])) a (bZ m)->(∀y,jT (sO neg ds dp nd) ⟨y,0,0⟩->K ⟨r,bZ (eI neg++[eC ds nd]++gG ds nd++[101]++[nX (d7 dp nd)]),some a,m.length,c,bZ m⟩ y)->_:=fun m hm hm3 o a c S K ho hs hk=>Bf (l:=eI neg++[eC ds nd]++gG ds nd++[101]++[nX (d7 dp nd)]) (m:=m) (a:=a) (c:=c) (S:=S) (K:=K) ho h5 (by simp only[gi,DQ];omega) af hs fun y hy=>hk y (fin y (by grind));refine⟨bl (fun q=>⟨aJ,aJ,fun lb=>?_⟩) (fun q=>bl (fun q2=>⟨by decide,aJ,aJ,aJ,by decide,aJ,aJ,fun lb=>?_⟩) (fun q2=>⟨by decide,aJ,aJ,aJ,by decide,aJ,aJ,by decide,aJ,by decide,aJ,aJ,fun lb=>?_⟩)),?_⟩
 ·refine hL [48,n+48] (by unfold nY;rw[bG (show n<10 by omega),bf]) aM (kP 1 1 rfl rfl rfl rfl rfl rfl rfl (by decide)) (AB (j:=9070) rfl rfl (by decide)) fun y hy=>⟨⟨y,0,0⟩,hy,aV,aB [0,1]⟩
 ·refine hL [n/10+48,n%10+48] (by unfold nY;rw[bK (show ¬n<10 by omega),bG (show n<100 by omega)];rfl) aM (kP 1 1 rfl rfl rfl rfl rfl rfl rfl (by decide)) (AB (j:=9080) rfl rfl (by decide)) fun y hy=>⟨⟨y,0,0⟩,hy,aV,aB [0,1]⟩
 ·refine hL [n/100+48,n/10%10+48,n%10+48] (by unfold nY;rw[bK (show ¬n<10 by omega),bK (show ¬n<100 by omega)];rfl) aM (kP 1 1 rfl rfl rfl rfl rfl rfl rfl (by decide)) (AB (j:=9090) rfl rfl (by decide)) fun y hy=>⟨⟨y,0,0⟩,hy,aV,aB [0,1]⟩
 clear h5 fin hL r;rintro⟨r,-,-⟩ js (h5:bv 5 1 (bZ (sO neg ds dp nd)) r);exact⟨r,h5,rfl,aB [0,1]⟩
theorem ahG:aC 192 Bz:=fo 272 Tryz.func192 (fun _ _=>[(24,1,.qo (h_ 1)),(24,2,.q [.ex 1 (.int .u8)]),(21,1,.n 9010),(21,2,dO (dt 5 1 1)),(25,2,.n 9020),(25,3,dO (dt 5 1 1)),(27,1,.n 9030),(27,2,dO (dt 5 1 1)),(31,5,dO (dt 5 1 1)),(35,1,.n 9040),(35,2,dO (dt 5 1 1)),(37,2,.n 9050),(37,3,dO (dt 5 1 1)),(45,2,.n 9060),(45,3,dO (dt 5 1 1)),(48,3,.ck),(48,4,.n 9070),(48,5,dO (dt 5 1 1)),(50,4,.ck),(50,8,.ck),(50,9,.n 9080),(50,10,dO (dt 5 1 1)),(46,4,.ck),(46,9,.ck),(46,8,.ck),(46,13,.ck),(46,14,.n 9090),(46,15,dO (dt 5 1 1))]) [] ahD ahB bz [] ahH
end
section
open Go
theorem Y2{z k:Int}(h0:0<=z)(h1:z<18446744073709551616)(hk:1<=k):0<=z.fdiv k/\z.fdiv k<18446744073709551616:=by
 rw[Int.fdiv_eq_ediv_of_nonneg _ af];exact⟨Int.ediv_nonneg h0 af,Int.lt_of_le_of_lt (Int.ediv_le_self k h0) h1⟩
variable{e:Int}{a m n:Nat}{tb:Nat->Nat}
theorem aoJ(h3: -1137<=e)(h4:e<=960): -347<(gy m e).p/\(gy m e).p<347:=by
 have hz:11<=fN e/\fN e<=63/\ -1085<=e+fN e/\e+fN e<=971:=by
  unfold fN;by_cases q:e>= -1085
  all_goals grind
 unfold gy;cases hT:nH m e with
 |true=>
  have he:e> -1085:=by
   unfold nH at hT;grind
  rw[bf];exact(zM (k:=e+(63-52)) af af).2.2.2
 |false=>
  rw[aU];exact(zM (k:=e+fN e) af af).2.2.1
theorem aoM(h3: -1137<=e)(h4:e<=960):(tO tb m e).1<18446744073709551616/\ -400<=(tO tb m e).2/\(tO tb m e).2<=400:=by
 obtain⟨p1,p2⟩:=aoJ (m:=m) h3 h4;unfold tO yS;generalize gy m e=d at p1 p2⊢;have w1:i64.wrap (0-(d.p-1))=0-(d.p-1):=dA (i:=.i64) aJ;have w2:i64.wrap (0-d.p)=0-d.p:=dA (i:=.i64) aJ;rw[w1,w2];have c:∀u,qj u<18446744073709551616:=fun u=>by
  unfold qj;have:=gB (u+3);exact(Y2 this.1 af (by decide)).2
 have r:∀u,pZ u<18446744073709551616:=fun u=>by
  unfold pZ;have:=gB (u64.wrap (u+1)+u64.wrap (↑(BitVec.ofInt u64.bits (u.fdiv (2^min (Int.toNat 2) u64.bits))&&& BitVec.ofInt u64.bits 1).toNat:Int));exact(Y2 this.1 af (by decide)).2
 by_cases q:u64.wrap (u64.wrap ((qJ tb e d).tdiv 10)*10)>=tN tb e d
 ·rw[bG q,bf];have:=gB ((qJ tb e d).tdiv 10);omega
 ·rw[bK q,aU];by_cases q2:tN tb e d<qJ tb e d
  ·grind
  ·rw[bK q2,aU];dsimp only;have:=c (wd ⟨jg (oH tb e d.lo d.p),d.od⟩);unfold tN;omega
theorem afQ:∀(k x:Nat),x<18446744073709551616->Lib.bitLen x=k+1->2^k<=x/\x<2^(k+1):=by
 intro k
 induction k with
 |zero=>
  intro x hx h;have h0:x≠0:=by intro e;subst e;exact absurd h (by decide)
  rw[Lib.bitLen_half x h0 hx]at h;by_cases h2:x/2=0
  ·omega
  ·have:=Lib.bitLen_half (x/2) h2 af;omega
 |succ k ih=>
  intro x hx h;have h0:x≠0:=by
   intro e;subst e;have:Lib.bitLen 0=0:=by rfl
   omega
  rw[Lib.bitLen_half x h0 hx]at h;grind
theorem Yf{x:Nat}(h0:x≠0)(hx:x<18446744073709551616):1<=Lib.bitLen x/\Lib.bitLen x<=64/\9223372036854775808<=x*2^(64-Lib.bitLen x)/\x*2^(64-Lib.bitLen x)<18446744073709551616:=by
 have h1:Lib.bitLen x<=64:=Lib.bitLen_le x 64 af af;have h2:=Lib.bitLen_half x h0 hx;obtain⟨k,hk⟩:∃k,Lib.bitLen x=k+1:=⟨Lib.bitLen (x/2),af⟩;obtain⟨a,b⟩:=afQ k x hx hk;rw[hk];have e1:2^k*2^(64-(k+1))=9223372036854775808:=by
  rw[<-Nat.pow_add,show k+(64-(k+1))=63 by omega]
 have e2:2^(k+1)*2^(64-(k+1))=18446744073709551616:=by
  grind
 have p:0<2^(64-(k+1)):=Nat.pow_pos (by decide);refine⟨af,af,?_,?_⟩
 ·rw[<-e1];exact Nat.mul_le_mul_right _ a
 ·rw[<-e2];exact Nat.mul_lt_mul_of_pos_right b p
def nj(n:Nat):Nat:=n/4503599627370496%2048
def pI(n:Nat):Nat:=n%4503599627370496
def oW(n:Nat):Int:=(bif nj n==0 then 1 else (nj n:Int))+ -1023
def e_(n:Nat):Nat:=bif nj n==0 then pI n else pI n+4503599627370496
def kw(n:Nat):Bool:=(n:Int).fdiv (2^min (Int.toNat (11+52)) u64.bits)!=0
structure qb(n:Nat):Prop where
 lo:0<n%9223372036854775808
 hi:n%9223372036854775808<9218868437227405312
theorem qb.abc(h:qb n):nj n<2047/\e_ n≠0/\e_ n<9007199254740992/\ -1022<=oW n/\oW n<=1023/\pI n<4503599627370496:=by
 obtain⟨h1,h2⟩:=h;have hx:nj n=n%9223372036854775808/4503599627370496:=by unfold nj;omega
 have hm:pI n=n%9223372036854775808%4503599627370496:=by unfold pI;omega
 have hx2:nj n<2047:=af;have hm2:pI n<4503599627370496:=af;unfold e_ oW;grind
theorem X4(x:Int)(k:Nat)(hk:k<=63):((BitVec.ofInt 64 x&&& BitVec.ofInt 64 ((2^k-1:Nat):Int)).toNat)=(x%18446744073709551616).toNat%2^k:=by
 have hp:2^k<=2^63:=oV (by decide) hk;have e:(2:Nat)^63=9223372036854775808:=by decide
 rw[BitVec.toNat_and,BitVec.toNat_ofInt,BitVec.toNat_ofInt,show((2^64:Nat):Int)=18446744073709551616 by decide];rw[show(((2^k-1:Nat):Int)%18446744073709551616).toNat=2^k-1 by omega,Nat.and_two_pow_sub_one_eq_mod]
theorem al5(h:a<4503599627370496):((BitVec.ofInt 64 (a:Int)|||BitVec.ofInt 64 4503599627370496).toNat)=a+4503599627370496:=by
 rw[BitVec.toNat_or,BitVec.toNat_ofInt,BitVec.toNat_ofInt,show((2^64:Nat):Int)=18446744073709551616 by decide];rw[show((a:Int)%18446744073709551616).toNat=a by omega,show((4503599627370496:Int)%18446744073709551616).toNat=2^52*1 by decide,Nat.or_comm,<-Nat.two_pow_add_eq_or_of_lt (i:=52) af];omega
theorem ah0(z:Int):i64.wrap (↑(BitVec.ofInt i64.bits z&&& BitVec.ofInt i64.bits (i64.wrap (i64.wrap (1*2^min (Int.toNat 11) i64.bits)-1))).toNat:Int)=(((z%18446744073709551616).toNat%2048:Nat):Int):=by
 have e1:i64.wrap (i64.wrap (1*2^min (Int.toNat 11) i64.bits)-1)=((2^11-1:Nat):Int):=by decide
 have e3:=X4 z 11 (by decide);rw[e1];have e4:(BitVec.ofInt i64.bits z&&& BitVec.ofInt i64.bits ((2^11-1:Nat):Int)).toNat=(z%18446744073709551616).toNat%2048:=e3;rw[e4];exact dA (i:=.i64) aJ
theorem ah1(m:Nat):((i64.wrap (m:Int))%18446744073709551616).toNat%2048=m%2048:=by
 rw[IntKind.wrap_i64];omega
theorem ahY(n:Nat):(n:Int).fdiv (2^min (Int.toNat 52) u64.bits)=((n/4503599627370496:Nat):Int):=by
 rw[show min (Int.toNat 52) u64.bits=52 from rfl,Int.fdiv_eq_ediv_of_nonneg _ (by decide),show(2:Int)^52=4503599627370496 by decide];omega
theorem ahZ(n:Nat):i64.wrap (↑(BitVec.ofInt i64.bits (i64.wrap ((n:Int).fdiv (2^min (Int.toNat 52) u64.bits)))&&& BitVec.ofInt i64.bits (i64.wrap (i64.wrap (1*2^min (Int.toNat 11) i64.bits)-1))).toNat:Int)=(nj n:Int):=by
 rw[ah0,ahY,ah1];rfl
theorem ah2(n:Nat):u64.wrap (↑(BitVec.ofInt u64.bits (n:Int)&&& BitVec.ofInt u64.bits (u64.wrap (u64.wrap (1*2^min (Int.toNat 52) u64.bits)-1))).toNat:Int)=(pI n:Int):=by
 have e1:u64.wrap (u64.wrap (1*2^min (Int.toNat 52) u64.bits)-1)=((2^52-1:Nat):Int):=by decide
 have e3:=X4 (n:Int) 52 (by decide);rw[e1];have e4:(BitVec.ofInt u64.bits (n:Int)&&& BitVec.ofInt u64.bits ((2^52-1:Nat):Int)).toNat=pI n:=by
  refine Eq.trans e3 ?_;unfold pI;omega
 rw[e4];exact dA (i:=.u64) ⟨af,by unfold pI;omega⟩
theorem ah4(h:a<4503599627370496):u64.wrap (↑(BitVec.ofInt u64.bits (a:Int)|||BitVec.ofInt u64.bits (u64.wrap (1*2^min (Int.toNat 52) u64.bits))).toNat:Int)=((a+4503599627370496:Nat):Int):=by
 rw[show u64.wrap (1*2^min (Int.toNat 52) u64.bits)=4503599627370496 by decide];have:(BitVec.ofInt u64.bits (a:Int)|||BitVec.ofInt u64.bits 4503599627370496).toNat=a+4503599627370496:=al5 h;rw[this];exact dA (i:=.u64) aJ
def sU(tb:Nat->Nat)(n:Nat):Int×Int:=tO tb (e_ n*2^(64-Lib.bitLen (e_ n))) (oW n-(64-Lib.bitLen (e_ n):Int)-52)
def vK(tb:Nat->Nat)(n:Nat):List Nat:=
 let q:=sU tb n
 sO (kw n) (kR q.1.toNat (Lib.nDigits q.1.toNat) 32) (Lib.nDigits q.1.toNat+q.2) (kL q.1.toNat (Lib.nDigits q.1.toNat) (Lib.nDigits q.1.toNat))
theorem Zd(ht:∀i,tb i<18446744073709551616)(hp:∀i,i<696->9223372036854775808<=tb (i*2))(h:qb n):1<=(sU tb n).1/\(sU tb n).1<18446744073709551616/\ -400<=(sU tb n).2/\(sU tb n).2<=400:=by
 obtain⟨a1,a2,a3,a4,a5,a6⟩:=h.abc;obtain⟨b1,b2,b3,b4⟩:=Yf a2 af;have b5:Lib.bitLen (e_ n)<=53:=Lib.bitLen_le _ 53 af af;have h1: -1137<=oW n-(64-Lib.bitLen (e_ n):Int)-52:=af;have h2:oW n-(64-Lib.bitLen (e_ n):Int)-52<=960:=af;have r:=aoM (tb:=tb) (m:=e_ n*2^(64-Lib.bitLen (e_ n))) h1 h2;exact⟨aoK b3 b4 h1 h2 ht hp,r.1,r.2.1,r.2.2⟩
end
end Go.Proofs.YtdkchodgklpomaaGreatDoor
