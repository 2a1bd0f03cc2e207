/- Part of the proof that ParseShape answers true at every input. -/
import Derived.Test.YtdkchodgklpomaaGreatDoorPSae
set_option linter.all false
namespace Go.Proofs.YtdkchodgklpomaaGreatDoor
set_option maxRecDepth 100000
open Go.Value (int slice string bool pointer agg tuple func float iface nilIface)
open Go.IntKind (i64 u8 u64 i32 u32 u16 i8 i16)
open Go.FloatKind (f64)
open Go.Ending (returned panicked)
section
open Go
structure A4 where
 b:Nat
 v0:Value
 v1:Value
 v2:Value
 e:Int
 p:Int
 l:Int
 tb:Nat->Nat
def B7:aR where
 X:=A4
 args x:=[ah (some ⟨x.b,0,none⟩),ae x.e,ae x.p,ae x.l]
 pre x:=[ag x.b [x.v0,x.v1,x.v2] 178]
 cond x:= -348<=x.p/\x.p<348/\ -1000000<=x.e/\x.e<=1000000/\ -1000000<=x.l/\x.l<=1000000
 aQ x F:=∀i,i<1392->aO F ⟨15,i,none⟩ (.int .u64 (x.tb i))
 val x _:=.returned (.tuple #[])
 post x _:=[ag x.b [aA (x.tb ((x.p+348).toNat*2)),aA (x.tb ((x.p+348).toNat*2+1)),ae (-(x.e+x.l+3))] 178]
 eX _ _ _ hs h:=fun i hi=>(h i hi).sub hs
def U1(x:A4):=(-9223372036854775808:Int)<=x.p-(-348:Int)/\x.p-(-348:Int)<=(9223372036854775807:Int)
def Wf(x:A4):=0<=x.p-(-348:Int)/\x.p-(-348:Int)<(↑(696:Nat):Int)
theorem anv(x:A4)(F:ai)(hc:B7.cond x)(hr:B7.aQ x F):U1 x/\Wf x/\Dn F ⟨15,0+(x.p-(-348:Int)).toNat*2,none⟩ (fun b=>ax x.b 0/\U1 x/\Wf x/\Dn F ⟨15,0+(x.p-(-348:Int)).toNat*2+1,none⟩ (fun a=>ax x.b 1/\bT (x.e+x.l)/\((-9223372036854775808:Int)<=x.e+x.l+3/\x.e+x.l+3<=(9223372036854775807:Int))/\ax x.b 2/\aq B7 x F eM [(0,ag x.b [aA b,aA a,ae (bY ((0:Int)-(x.e+x.l+3)))] 178),(1,F)])):=by
 delta U1 Wf Dn eM ax bT ae aA ag bY az;obtain⟨b,v0,v1,v2,e,p,l,tb⟩:=x;obtain⟨h1,h2,h3,h4,h5,h6⟩:=hc;replace hr:∀i,i<1392->aO F ⟨15,i,none⟩ (.int .u64 (tb i)):=hr;dsimp only at h1 h2 h3 h4 h5 h6⊢;have e1:0+(p- -348).toNat*2=(p+348).toNat*2:=by rw[show p- -348=p+348 by omega,jk]
 have e3:i64.wrap (0-(e+l+3))= -(e+l+3):=by
  rw[dA (i:=.i64) (n:=0-(e+l+3)) aJ];omega
 rw[e1];refine⟨aJ,aJ,tb _,hr _ af,ap,aJ,aJ,tb _,hr _ af,ap,aJ,aJ,ap,(),ao,rfl,?_⟩
 first
  |exact aB [0,1]
  | (rw[e3];exact aB [0,1])
theorem abm:aC 150 B7:=fo 32 Tryz.func150 (fun _ _=>[(0,5,.q [.ex 1 (.int .u64)]),(0,8,.w [.z00 0]),(1,5,.q [.ex 1 (.int .u64)]),(1,8,.w [.z00 0]),(2,8,.w [.z00 0])]) [] aY aY bz [] anv
end
section
open Go
def oI(k kn:IntKind):mw where
 X:=Int×Int
 args x:=[.int k x.1,.int kn x.2]
 cond x:=0<=x.2
 val x:=.int k (k.wrap (x.1*2^min x.2.toNat k.bits))
def wN(k kn:IntKind):mw where
 X:=Int×Int
 args x:=[.int k x.1,.int kn x.2]
 cond x:=0<=x.2
 val x:=.int k (x.1.fdiv (2^min x.2.toNat k.bits))
variable{k kn:IntKind}{o:Oper}{x y:Operand}{P:Program}{t tn:TypeId}
theorem pj(ho:o.op= .binOp .shl t x y tn):dH P o (oI k kn):=by
 refine⟨fun q w ρ ha hc=>?_⟩;obtain⟨a,b⟩:=q;have hc:0<=b:=hc;simp only[ho,Op.operands,oI]at ha;have c5:ρ x= .int k a/\ρ y= .int kn b:=by grind
 obtain⟨hx,hy⟩:=c5;have hb:¬b<0:=af;simp[execOp,ho,hx,hy,eqGuard,binOp,Op.shift,oI,hb,Sem.run]
theorem AE(ho:o.op= .binOp .shr t x y tn):dH P o (wN k kn):=by
 refine⟨fun q w ρ ha hc=>?_⟩;obtain⟨a,b⟩:=q;have hc:0<=b:=hc;simp only[ho,Op.operands,wN]at ha;have c5:ρ x= .int k a/\ρ y= .int kn b:=by grind
 obtain⟨hx,hy⟩:=c5;have hb:¬b<0:=af;simp[execOp,ho,hx,hy,eqGuard,binOp,Op.shift,wN,hb,Sem.run]
structure lA where
 m:Nat
 e:Int
 g:Nat
 tb:Nat->Nat
def dL(e:Int):Int:=(e*108853).fdiv (2^min (Int.toNat 15) i64.bits)
def iO(x:lA):Int:=Lib.bitLen x.m
def ji(x:lA):Int:=min 1074 (53-iO x-dL x.e)
def kS(x:lA):Int:= -(ji x-(64-iO x)+dL x.e+3)
def Gw(x:lA):Int:=u64.wrap (x.m*2^min (64-iO x).toNat u64.bits)
def sK(x:lA):Int:=jg ⟨(Gw x).toNat,0,x.tb ((x.e+348).toNat*2),x.tb ((x.e+348).toNat*2+1),(kS x).toNat⟩
def ql(x:lA):Int:=bif decide (sK x>=AL 9007199254740992) then 1 else 0
def YU(x:lA):Int:=u64.wrap (↑(BitVec.ofInt u64.bits ((sK x).fdiv (2^min (ql x).toNat u64.bits))|||BitVec.ofInt u64.bits (u64.wrap (↑(BitVec.ofInt u64.bits (sK x)&&& BitVec.ofInt u64.bits 1).toNat:Int))).toNat:Int)
def Rb(x:lA):Int:=u64.wrap (↑(BitVec.ofInt u64.bits (↑x.g:Int)|||BitVec.ofInt u64.bits (pZ (YU x))).toNat:Int)
def YV(x:lA):Nat:=(u64.wrap (↑(BitVec.ofInt u64.bits (↑x.g:Int)|||BitVec.ofInt u64.bits 0).toNat:Int)).toNat
def hC(x:lA):Nat×Nat:=bif decide (kS x>=64) then (YV x,0) else mO ⟨Rb x,i64.wrap (0-(ji x-ql x))⟩
theorem gB(z:Int):0<=u64.wrap z/\u64.wrap z<=18446744073709551615:=by
 have:u64.wrap z=z%18446744073709551616:=by rfl
 omega
theorem acv(x:oP):0<=jg x/\jg x<=18446744073709551615:=by
 unfold jg;cases IS x
 ·exact gB _
 ·exact gB _
theorem akY(e:Int):dL e=e*108853/32768:=by
 unfold dL;rw[show min (Int.toNat 15) i64.bits=15 from rfl];grind
theorem ahk{x:lA}(h0:x.m<18446744073709551616)(h1: -348<=x.e)(h2:x.e<348):0<=iO x/\iO x<=64/\ -1157<=dL x.e/\dL x.e<=1153/\ji x<=1074/\ -1200<=ji x/\8<=kS x:=by
 have hb:iO x<=64:=by
  unfold iO;have:=Lib.bitLen_le x.m 64 af af;omega
 have zz:0<=iO x:=Int.natCast_nonneg _;have hl:=akY x.e;have he:ji x=min 1074 (53-iO x-dL x.e):=rfl;have hs:kS x= -(ji x-(64-iO x)+dL x.e+3):=rfl;omega
def DK:aR where
 X:=lA
 Y:=Unit ⊕ Unit
 args x:=[aA x.m,ae x.e,aA x.g]
 cond x:=x.m<18446744073709551616/\ -348<=x.e/\x.e<348/\x.g<18446744073709551616/\∀i,x.tb i<18446744073709551616
 aQ x F:=∀i,i<1392->aO F ⟨15,i,none⟩ (.int .u64 (x.tb i))
 cd x y:=match y with
  | .inl _=>(hC x).2=0
  | .inr _=>(hC x).2=1
 val x y:=match y with
  | .inl _=>.returned (.tuple #[.float .f64 (hC x).1,.nilIface])
  | .inr _=>.returned (.tuple #[.float .f64 (hC x).1,.iface 128 (.int .i64 1)])
 eX _ _ _ hs h:=fun i hi=>(h i hi).sub hs
 sum:=some (iX Unit Unit)
structure vl where
 b:Nat
 u:Int
 g:Int
def ahi(x:lA)(F:ai):Nat->Option Inv:=fun
 |4=>some {X:=Unit,P:=fun _=>True,mu:=fun _=>0,lv:=fun _=>[(0,aA x.m),(1,ae x.e),(2,aA x.g),(8,ae (iO x)),(9,ae (dL x.e)),(10,ae (ji x))],st:=fun _=>[F]}
 |8=>some {X:=vl,P:=fun _=>kS x<64,mu:=fun _=>0,lv:=fun d=>[(0,aA x.m),(2,aA x.g),(8,ae (iO x)),(10,ae (ji x)),(11,ah (some ⟨d.b,0,none⟩))],st:=fun d=>[F,ag d.b [aA (x.tb ((x.e+348).toNat*2)),aA (x.tb ((x.e+348).toNat*2+1)),ae (kS x)] 178]}
 |9=>some {X:=vl,P:=fun d=>kS x<64/\d.u=sK x,mu:=fun _=>0,lv:=fun d=>[(2,aA x.g),(10,ae (ji x)),(12,aA d.u)],st:=fun _=>[F]}
 |10=>some {X:=vl,P:=fun d=>kS x<64/\d.u=sK x/\d.g=ql x,mu:=fun _=>0,lv:=fun d=>[(2,aA x.g),(10,ae (ji x)),(12,aA d.u),(13,ae d.g)],st:=fun _=>[F]}
 |_=>none
def JJ(aa:List Value)(k0:OS->Unit->Prop):=aC 148 G_/\true=true/\∃(z:OS),aa=[aA ↑z.u]/\([]:List ai)=[]/\z.u<=18446744073709551615/\True/\∀(u0:Unit),True->k0 z u0
def Ij(z:nP):=(-100000:Int)<=z.i/\z.i<=100000
def JK(aa:List Value)(k0:nP->Unit->Prop):=aC 149 BR/\true=true/\∃(z:nP),aa=[ae z.i]/\([]:List ai)=[]/\Ij z/\True/\∀(u0:Unit),True->k0 z u0
def JL(aa:List Value)(pp:List ai)(rr:ai)(k0:A4->Unit->Prop):=aC 150 B7/\true=true/\∃(z:A4),aa=[ah (some ⟨z.b,0,none⟩),ae z.e,ae z.p,ae z.l]/\pp=[ag z.b [z.v0,z.v1,z.v2] 178]/\((-348:Int)<=z.p/\z.p<348/\(-1000000:Int)<=z.e/\z.e<=1000000/\(-1000000:Int)<=z.l/\z.l<=1000000)/\(∀(w0:Nat),w0<1392->aO rr ⟨15,w0,none⟩ (aA (↑(z.tb w0):Int)))/\∀(u0:Unit),True->k0 z u0
def ES:List Value:=[aA 0,aA 0,ae 0]
def Hx(F:ai)(m:A4):=[(0,F),(5000,ag m.b [aA (↑(m.tb ((m.p+348).toNat*2)):Int),aA (↑(m.tb ((m.p+348).toNat*2+1)):Int),ae (-(m.e+m.l+3))] 178)]
def L7(F:ai)(a:vl)(x:lA):=[(0,F),(1,ag a.b [aA (↑(x.tb ((x.e+348).toNat*2)):Int),aA (↑(x.tb ((x.e+348).toNat*2+1)):Int),ae (kS x)] 178)]
def rm(oo:Oper)(aa:List Value)(k0:Int×Int->Prop):=dH Tryz.prog oo (oI u64 i64)/\∃(z:Int×Int),aa=[aA z.fst,ae z.snd]/\0<=z.snd/\k0 z
def Dp(aa:List Value)(rr:ai)(k0:oP->Unit->Prop):=aC 151 ve/\true=true/\∃(z:oP),aa=[aA ↑z.u,ah (Am z)]/\([]:List ai)=[]/\(z.u<18446744073709551616/\z.hi<18446744073709551616/\z.lo<18446744073709551616/\z.s<64)/\(aO rr ⟨z.b,0,none⟩ (aA ↑z.hi)/\aO rr ⟨z.b,1,none⟩ (aA ↑z.lo)/\aO rr ⟨z.b,2,none⟩ (ae ↑z.s))/\∀(u0:Unit),True->k0 z u0
def ET(z:sB):=0<=z.u/\z.u<=18446744073709551615
def xf(oo:Oper)(aa:List Value)(k0:Int×Int->Prop):=dH Tryz.prog oo (wN u64 i64)/\∃(z:Int×Int),aa=[aA z.fst,ae z.snd]/\0<=z.snd/\k0 z
def JM(aa:List Value)(k0:sB->Unit->Prop):=aC 155 (jL pZ)/\true=true/\∃(z:sB),aa=[aA z.u]/\([]:List ai)=[]/\ET z/\True/\∀(u0:Unit),True->k0 z u0
theorem ahl(x:lA)(F:ai)(hc:DK.cond x)(hr:DK.aQ x F):JJ [aA ↑x.m] (fun t s=>JK [ae x.e] (fun r q=>(bT ((53:Int)-(↑(Lib.bitLen t.u):Int))/\bT ((53:Int)-(↑(Lib.bitLen t.u):Int)-(r.i*108853).fdiv ((2:Int)^min (Int.toNat (15:Int)) i64.bits))/\∃(a:Unit),True/\(aA ↑x.m=aA ↑x.m/\ae x.e=ae x.e/\aA ↑x.g=aA ↑x.g/\ae (↑(Lib.bitLen t.u):Int)=ae (iO x)/\ae ((r.i*108853).fdiv ((2:Int)^min (Int.toNat (15:Int)) i64.bits))=ae (dL x.e)/\ae (if (53:Int)-(↑(Lib.bitLen t.u):Int)-(r.i*108853).fdiv ((2:Int)^min (Int.toNat (15:Int)) i64.bits)<1074 then (53:Int)-(↑(Lib.bitLen t.u):Int)-(r.i*108853).fdiv ((2:Int)^min (Int.toNat (15:Int)) i64.bits) else (1074:Int))=ae (ji x)/\True)/\aD [(0,F)] [(0,F)])/\aS fun(p:Unit)_=>True->∀(n:Nat),bT ((64:Int)-iO x)/\bT (ji x-((64:Int)-iO x))/\JL [ah (bJ n),ae (ji x-((64:Int)-iO x)),ae x.e,ae (dL x.e)] [ag n ES 178] (aH [(0,F),(5000,ag n ES 178)] [5000]) (fun m l=>(dS ⟨n,2,none⟩ m.b/\aP (-(m.e+m.l+3)>=64) (aq DK x F (az (tuple ⟨[float f64 (bc (↑(cf (x.g:Int)|||cf (0:Int)).toNat:Int)).toNat,nilIface]⟩)) (Hx F m)) (∃(a:vl),kS x<64/\(aA ↑x.m=aA ↑x.m/\aA ↑x.g=aA ↑x.g/\ae (iO x)=ae (iO x)/\ae (ji x)=ae (ji x)/\ah (bJ n)=ah (some ⟨a.b,0,none⟩)/\True)/\aD (Hx F m) (L7 F a x)))/\aS fun(k:vl)_=>kS x<64->(bT ((64:Int)-iO x)/\rm (a8 Tryz.f135 8 3) [aA ↑x.m,ae ((64:Int)-iO x)] (fun d=>Dp [aA (bc (d.fst*2^min d.snd.toNat u64.bits)),ah (some ⟨k.b,0,none⟩)] (aH (L7 F k x) []) (fun c b=>∃(a:vl),(kS x<64/\a.u=sK x)/\(aA ↑x.g=aA ↑x.g/\ae (ji x)=ae (ji x)/\aA (jg c)=aA a.u/\True)/\aD (L7 F k x) [(0,F)])))/\aS fun(i:vl)_=>(kS x<64/\i.u=sK x)->(aC 153 (jL AL)/\true=true/\∃(e:sB),[aA 9007199254740992]=[aA e.u]/\([]:List ai)=[]/\ET e/\True/\∀(d:Unit),True->aC 152 Bh/\true=true/\∃(c:w4),[ak (decide (i.u>=AL e.u))]=[ak c.b]/\([]:List ai)=[]/\True/\True/\∀(b:Unit),True->∃(a:vl),(kS x<64/\a.u=sK x/\a.g=ql x)/\(aA ↑x.g=aA ↑x.g/\ae (ji x)=ae (ji x)/\aA i.u=aA a.u/\ae (bif c.b then (1:Int) else (0:Int))=ae a.g/\True)/\aD [(0,F)] [(0,F)])/\aS fun(g:vl)_=>(kS x<64/\g.u=sK x/\g.g=ql x)->xf (a8 Tryz.f135 10 2) [aA g.u,ae g.g] (fun e=>bT (ji x-g.g)/\JM [aA (bc (↑(cf (e.fst.fdiv ((2:Int)^min e.snd.toNat u64.bits))|||cf (bc (↑(cf g.u&&& cf (1:Int)).toNat:Int))).toNat:Int))] (fun d c=>aC 158 wg/\true=true/\∃(b:A3),[aA (bc (↑(cf (x.g:Int)|||cf (pZ d.u)).toNat:Int)),ae (bY ((0:Int)-(ji x-g.g)))]=[aA b.u,ae b.e]/\([]:List ai)=[]/\(0<=b.u/\b.u<=18446744073709551615/\(-1075:Int)<=b.e/\b.e<=100000)/\True/\(∀(a:Unit),(mO b).snd=0->aq DK x F (az (tuple ⟨[float f64 (mO b).fst,nilIface]⟩)) [(0,F)])/\∀(a:Unit),(mO b).snd=1->aq DK x F (az (tuple ⟨[float f64 (mO b).fst,fE 128 (ae 1)]⟩)) [(0,F)]))))):=by
 delta JJ Ij JK JL bJ ES Hx L7 rm Am Dp ET xf JM aH bT ae aA ak ah fE ag cf bc bY aP az aS;obtain⟨h0,h1,h2,h3,h4⟩:=hc;replace hr:∀i,i<1392->aO F ⟨15,i,none⟩ (.int .u64 (x.tb i)):=hr;obtain⟨r1,r2,r3,r4,r5,r6,r7⟩:=ahk h0 h1 h2;have wn:∀a b:Int,(if b<a then b else a)=min a b:=fun a b=>af;have lw:∀{S:St}{bF:List Nat},(0:Nat)∉bF->gt S 0=F->∀i,i<1392->aO (.dv (rest S bF)) ⟨15,i,none⟩ (.int .u64 (x.tb i)):=fun hj e i hi=>aO.rest (j:=0) hj (by simp[*]);refine bV aag ⟨x.m⟩ (by grind) fun _ _=>bV aaf ⟨x.e⟩ ⟨by grind,by grind⟩ fun _ _=>⟨?_,fun _ js _ b=>?_⟩
 ·change((-9223372036854775808<=53-iO x/\53-iO x<=9223372036854775807)/\(-9223372036854775808<=53-iO x-dL x.e/\53-iO x-dL x.e<=9223372036854775807)/\_);refine⟨aJ,aJ,(),ao,⟨rfl,rfl,rfl,rfl,rfl,?_,ao⟩,aB [0]⟩;exact congrArg _ (wn 1074 (53-iO x-dL x.e))
 refine⟨aJ,aJ,abm,rfl,⟨b,_,_,_,ji x-(64-iO x),x.e,dL x.e,x.tb⟩,rfl,rfl,⟨h1,h2,by grind,by grind,by grind,by grind⟩,lw aM rfl,fun _ _=>⟨⟨ap,bl (fun jn=>?_) (fun bP=>⟨⟨b,0,0⟩,by have bP:¬kS x>=64:=bP;omega,aV,aB [0,5000]⟩)⟩,?_⟩⟩
 ·have jn:kS x>=64:=jn;have e:hC x=(YV x,0):=by unfold hC;simp[*]
  exact⟨.inl (),by show(hC x).2=0;rw[e],by show _=returned (.tuple #[.float .f64 (hC x).1,.nilIface]);rw[e];rfl,aB [0]⟩
 rintro⟨b,_,_⟩ js bP;have bP:kS x<64:=bP;dsimp only;have hm:0<=Gw x/\Gw x<=18446744073709551615:=gB (x.m*2^min (64-iO x).toNat u64.bits);refine⟨⟨aJ,pj rfl,(x.m,64-iO x),rfl,af,Ou,rfl,⟨(Gw x).toNat,b,x.tb ((x.e+348).toNat*2),x.tb ((x.e+348).toNat*2+1),(kS x).toNat⟩,?_,rfl,⟨?_,h4 _,h4 _,?_⟩,?_,fun _ _=>⟨⟨0,sK x,0⟩,⟨bP,rfl⟩,aV,aB [0]⟩⟩,?_⟩
 ·rfl
 ·grind
 ·simp[*]
 ·have KN:∀(i:Nat)(v:Value),[int .u64 (x.tb ((x.e+348).toNat*2):Nat),.int .u64 (x.tb ((x.e+348).toNat*2+1):Nat),.int .i64 (kS x)][i]?=some v->aO (.dv (rest [(0,F),(1,ai.cells b [int .u64 (x.tb ((x.e+348).toNat*2):Nat),.int .u64 (x.tb ((x.e+348).toNat*2+1):Nat),.int .i64 (kS x)] 178)] [])) ⟨b,i,none⟩ v:=fun i v e=>aO.rest (j:=1) aM (aO.cells (by exact e));refine⟨KN 0 _ rfl,KN 1 _ rfl,KN 2 _ ?_⟩;grind
 rintro⟨_,u,_⟩ js ⟨_,hu⟩;dsimp only at hu⊢;subst hu;have hu:=acv ⟨(Gw x).toNat,0,x.tb ((x.e+348).toNat*2),x.tb ((x.e+348).toNat*2+1),(kS x).toNat⟩;refine⟨bV apJ ⟨9007199254740992⟩ ⟨by decide,by decide⟩ fun _ _=>⟨afC,rfl,⟨_⟩,rfl,rfl,ao,ao,fun _ _=>⟨⟨0,sK x,ql x⟩,⟨bP,rfl,rfl⟩,aV,aB [0]⟩⟩,?_⟩;rintro⟨_,u,g⟩ js ⟨_,e1,e2⟩;dsimp only at e1 e2⊢;subst e1 e2;have hg:0<=ql x/\ql x<=1:=by
  unfold ql;grind
 have e3:i64.wrap (0-(ji x-ql x))=0-(ji x-ql x):=dA (i:=.i64) aJ;have e4:hC x=mO ⟨Rb x,i64.wrap (0-(ji x-ql x))⟩:=by unfold hC;rw[bK af];rfl
 refine⟨AE rfl,(sK x,ql x),rfl,hg.1,aJ,abz,rfl,⟨YU x⟩,rfl,rfl,gB _,ao,fun _ _=>bV al9 ⟨Rb x,i64.wrap (0-(ji x-ql x))⟩ ⟨(gB _).1,(gB _).2,by grind,by grind⟩ ⟨fun _ q=>⟨.inl (),by show(hC x).2=0;grind,by show _=returned (.tuple #[.float .f64 (hC x).1,.nilIface]);rw[e4],aB [0]⟩,fun _ q=>⟨.inr (),by show(hC x).2=1;grind,by show _=returned (.tuple #[.float .f64 (hC x).1,.iface _ (.int .i64 1)]);rw[e4],aB [0]⟩⟩⟩
theorem ahj:aC 135 DK:=fo 63 Tryz.func135 (fun _ _=>[(1,1,aX G_),(2,1,aX BR),(3,4,aW),(4,0,.n 5000),(5,6,.c B7 [5000] [5000]),(6,1,aT 5000),(7,1,aW),(7,2,aW),(8,3,.qo (oI .u64 .i64)),(8,4,aX ve),(9,1,aX (jL AL)),(9,3,aX Bh),(10,2,.qo (wN .u64 .i64)),(10,4,aW),(10,5,aW),(12,2,aX (jL pZ)),(12,3,aW),(12,6,aX wg)]) [] aY ahi bz [] ahl
end
section
open Go
variable{P:Program}
def nc(op:BinOp)(a b:Nat):Option Nat:=floatBits op .f64 a b
def uC(op:BinOp):mw where
 X:=Nat×Nat
 args x:=[.float .f64 x.1,.float .f64 x.2]
 cond x:=(nc op x.1 x.2).isSome=true
 val x:=.float .f64 ((nc op x.1 x.2).getD 0)
variable{op:BinOp}{d:Ieee.Datum}{o:Oper}{x y:Operand}{rt t:TypeId}
theorem Y7(cv:op= .mul\/op= .quo)(ho:o.op= .binOp op t x y rt):dH P o (uC op):=by
 refine⟨fun q w ρ ha hc=>?_⟩;obtain⟨a,b⟩:=q;have hc:(nc op a b).isSome=true:=hc;simp only[ho,Op.operands,uC]at ha;have c5:ρ x= .float .f64 a/\ρ y= .float .f64 b:=by simpa using ha
 obtain⟨hx,hy⟩:=c5;obtain⟨r,hr⟩:=Option.isSome_iff_exists.1 hc;have kA:floatBits op .f64 a b=some r:=hr;show _=_;have:(uC op).val (a,b)= .float .f64 r:=by show float .f64 ((nc op a b).getD 0)=_;rw[hr];rfl
 rw[this];rcases cv with rfl|rfl <;> (unfold floatBits at kA;simp only at kA;simp[execOp,ho,hx,hy,eqGuard,binOp,Op.floatArith,kA,Sem.run])
theorem aaD(ho:o.op= .binOp .mul t x y rt):dH P o (uC .mul):=Y7 (.inl rfl) ho
theorem anQ(ho:o.op= .binOp .quo t x y rt):dH P o (uC .quo):=Y7 (.inr rfl) ho
def cR(op:BinOp)(a b:Nat):Bool:=
 match op with
 | .eql=>f64.format.order a b==some .eq
 | .lss=>f64.format.order a b==some .lt
 | .gtr=>f64.format.order a b==some .gt
 | .neq=>f64.format.order a b !=some .eq
 |_=>false
def qn(op:BinOp):mw where
 X:=Nat×Nat
 args x:=[.float .f64 x.1,.float .f64 x.2]
 cond _:=True
 val x:=.bool (cR op x.1 x.2)
theorem rA(cv:op= .eql\/op= .lss\/op= .gtr\/op= .neq)(ho:o.op= .binOp op t x y rt):dH P o (qn op):=by
 refine⟨fun q w ρ ha _=>?_⟩;obtain⟨a,b⟩:=q;simp only[ho,Op.operands,qn]at ha;have c5:ρ x= .float .f64 a/\ρ y= .float .f64 b:=by simpa using ha
 obtain⟨hx,hy⟩:=c5;rcases cv with rfl|rfl|rfl|rfl <;> simp[execOp,ho,hx,hy,eqGuard,binOp,Op.floatCmp,qn,cR,Sem.run]
def DO:mw where
 X:=Nat
 args x:=[.float .f64 x]
 cond _:=True
 val x:=.float .f64 (Op.negFloat .f64 x)
theorem Y_(ho:o.op= .unOp .neg t x):dH P o DO:=by
 refine⟨fun a w ρ ha _=>?_⟩;simp only[ho,Op.operands,DO]at ha;have hx:ρ x= .float .f64 a:=by simpa using ha
 simp[execOp,ho,hx,Op.unary,DO,Sem.run]
def K4(k:IntKind):mw where
 X:=Int
 args x:=[.int k x]
 cond _:=True
 val x:=.float .f64 (f64.nearest x)
theorem ajT{k:IntKind}{src dst:TypeId}(ho:o.op= .convert src dst x)(hs:(P.underlying src).isSome=true)(hd:P.underlying dst=some (.float .f64)):dH P o (K4 k):=by
 refine⟨fun c w ρ ha hc=>?_⟩;simp only[ho,Op.operands,K4]at ha;have c5:ρ x= .int k c:=by simpa using ha
 have cm:=run_convert_int_float (P:=P) w src dst k .f64 c hs hd;simp only[execOp,ho,c5];show((convert src dst (.int k c))>>=fun v=>(pure (Next.value v):Sem Next)).run P w=_;rw[Sem.run_bind,cm];rfl
def NN(x:Nat):Prop:=(Ieee.double.read x).isNaN=false
theorem aaR{x:Nat}(h:x%Ieee.double.signWeight<=Ieee.double.infRung):NN x:=by
 unfold NN Ieee.Format.read;dsimp only;split
 ·rfl
 ·split
  ·rfl
  ·split
   ·rfl
   ·omega
theorem CM:Ieee.double.signWeight=9223372036854775808:=by decide+kernel
theorem Z8:Ieee.double.infRung=9218868437227405312:=by decide+kernel
theorem SM(s:Bool)(r:Nat)(h:r<=Ieee.double.infRung):NN (Ieee.double.word s r):=by
 apply aaR;unfold Ieee.Format.word;rw[CM,Z8]at*;cases s <;> simp <;> omega
theorem aaT(h:d.isNaN=false):NN (Ieee.double.write d):=by
 cases d with
 |number s m e=>
  show NN (Ieee.double.nearest s m e);unfold Ieee.Format.nearest;split
  ·exact SM _ _ (dC _)
  ·exact SM _ _ (Nat.min_le_right _ _)
 |infinity s=>exact SM _ _ (cr _)
 |nan s f=>cases h
theorem alO{x:Nat}(h:NN x):NN (Op.negFloat .f64 x):=by
 unfold NN at h;by_cases hl:x%Ieee.double.signWeight<=Ieee.double.infRung
 ·apply aaR;have:Op.negFloat .f64 x%Ieee.double.signWeight=x%Ieee.double.signWeight:=by
   show(x^^^2^63)%Ieee.double.signWeight=_;rw[show Ieee.double.signWeight=2^63 from by rw[CM],Nat.xor_mod_two_pow,Nat.mod_self,Nat.xor_zero]
  rw[this];exact hl
 ·exfalso;unfold Ieee.Format.read at h;dsimp only at h;rw[CM,Z8]at*;have hb:Ieee.double.binade=4503599627370496:=by decide+kernel
  rw[hb]at h;rw[if_neg af,if_neg af,if_neg af]at h;cases h
theorem aaS(n:Int):NN (f64.nearest n):=aaT (d:=.number (n<0) n.natAbs 0) rfl
theorem Lk(h:d.isNaN=false):(Option.map Ieee.double.write (some d)).isSome=true/\NN ((Option.map Ieee.double.write (some d)).getD 0):=⟨rfl,aaT (d:=d) h⟩
def I5(y:Nat):Prop:=∃s m j,Ieee.double.read y= .number s m j/\m≠0
theorem aaC{x y:Nat}(hx:NN x)(hy:I5 y):(nc .mul x y).isSome=true/\NN ((nc .mul x y).getD 0):=by
 obtain⟨s,m,j,h1,h2⟩:=hy;show((Ieee.double.mul x y).isSome=true/\NN ((Ieee.double.mul x y).getD 0));unfold Ieee.Format.mul;rw[h1];unfold NN at hx;cases hd:Ieee.double.read x with
 |number a b c=>exact Lk (d:=.number (a^^s) (b*m) (c+j)) rfl
 |infinity a=>
  have:(Ieee.Datum.infinity a).product (.number s m j)=some (.infinity (a^^s)):=by
   show(if m=0 then none else some (Ieee.Datum.infinity (a^^s)))=_;rw[if_neg h2]
  rw[this];exact Lk (d:=.infinity (a^^s)) rfl
 |nan a b=>rw[hd]at hx;cases hx
theorem anP{x y:Nat}(hx:NN x)(hy:I5 y):(nc .quo x y).isSome=true/\NN ((nc .quo x y).getD 0):=by
 obtain⟨s,m,j,h1,h2⟩:=hy;show((Ieee.double.div x y).isSome=true/\NN ((Ieee.double.div x y).getD 0));unfold Ieee.Format.div;rw[h1];unfold NN at hx;cases hd:Ieee.double.read x with
 |number a b c=>
  unfold Ieee.Datum.quotient;dsimp only;rw[if_neg h2];exact Lk (d:=.number _ _ _) rfl
 |infinity a=>exact Lk (d:=.infinity (a^^s)) rfl
 |nan a b=>rw[hd]at hx;cases hx
end
section
open Go
def Kr:List Nat:=[4607182418800017408,4621819117588971520,4636737291354636288,4652007308841189376,4666723172467343360,4681608360884174848,4696837146684686336,4711630319722168320,4726483295884279808,4741671816366391296,4756540486875873280,4771362005757984768,4786511204640096256,4801453603149578240,4816244402031689728,4831355200913801216,4846369599423283200,4861130398305394688,4876203697187506176,4891288408196988160,4906019910204099648,4921056587992461136,4936209963552724370]
def n8(i:Nat):Nat:=Kr.getD i 0
def LF:List Nat:=[1,3,6,9,13,16,19,23,26]
def rM(i:Nat):Nat:=LF.getD i 0
structure sr(F:ai)(b:Nat)(t:TypeId):Prop where
 h:∀(I:a7)(m:Hp)(o:w8),FD I m->F.holds I m o->∃vs:Array Value,m b=some (.cells vs t (0,0))
variable{A B:ai}
theorem sr.sub{b:Nat}{t:TypeId}(h:sr A b t)(hs:Sub A B):sr B b t:=⟨fun I m o hc hB=>let ⟨o',hA⟩:=hs I m o hB;h.h I m o' hc hA⟩
structure ic(tb:Nat->Nat)(lc:Nat->Nat×ByteArray)(F:ai):Prop where
 pow:∀i,i<1392->aO F ⟨15,i,none⟩ (.int .u64 (tb i))
 i0:aO F ⟨11,0,none⟩ (.int .u64 52)
 i1:aO F ⟨11,1,none⟩ (.int .u64 11)
 i2:aO F ⟨11,2,none⟩ (.int .i64 (-1023))
 opt:aO F ⟨10,0,none⟩ (.bool true)
 bi:sr F 11 149
 bj:sr F 9 149
 fp:∃b o c,aO F ⟨14,0,none⟩ (.slice (some ⟨b,o,none⟩) 23 c)/\∀i,i<23->aO F ⟨b,o+i,none⟩ (.float .f64 (n8 i))
 pt:∃b o c,aO F ⟨13,0,none⟩ (.slice (some ⟨b,o,none⟩) 9 c)/\∀i,i<9->aO F ⟨b,o+i,none⟩ (.int .i64 (rM i))
 lc:∃b o c,aO F ⟨16,0,none⟩ (.slice (some ⟨b,o,none⟩) 61 c)/\∀i,i<61->aO F ⟨b,o+i*2,none⟩ (.int .i64 (lc i).1)/\aO F ⟨b,o+i*2+1,none⟩ (.string (lc i).2)
theorem ic.sub{tb:Nat->Nat}{lc:Nat->Nat×ByteArray}(h:ic tb lc A)(hs:Sub A B):ic tb lc B:=
 ⟨fun i hi=>(h.pow i hi).sub hs,h.i0.sub hs,h.i1.sub hs,h.i2.sub hs,h.opt.sub hs,h.bi.sub hs,h.bj.sub hs,
  let ⟨b,o,c,h1,h2⟩:=h.fp;⟨b,o,c,h1.sub hs,fun i hi=>(h2 i hi).sub hs⟩,
  let ⟨b,o,c,h1,h2⟩:=h.pt;⟨b,o,c,h1.sub hs,fun i hi=>(h2 i hi).sub hs⟩,
  let ⟨b,o,c,h1,h2⟩:=h.lc;⟨b,o,c,h1.sub hs,fun i hi=>⟨(h2 i hi).1.sub hs,(h2 i hi).2.sub hs⟩⟩⟩
structure pu where
 m:Nat
 e:Int
 n:Bool
 tb:Nat->Nat
 lc:Nat->Nat×ByteArray
def km(x:pu):Nat:=bif x.n then Op.negFloat .f64 (f64.nearest x.m) else f64.nearest x.m
def Dx(x:pu):Nat×Int:=bif decide (x.e>22) then ((nc .mul (km x) (n8 (x.e-22).toNat)).getD 0,22) else (km x,x.e)
def vx(p:Nat×Int):Nat×Bool:=bif cR .gtr p.1 4831355200913801216 then (p.1,false) else bif cR .lss p.1 14054727237768577024 then (p.1,false) else ((nc .mul p.1 (n8 p.2.toNat)).getD 0,true)
def sE(x:pu):Nat×Bool:=bif decide (x.e<0) then bif decide (x.e>= -22) then ((nc .quo (km x) (n8 (-x.e).toNat)).getD 0,true) else (km x,false) else (km x,false)
def m6(x:pu):Nat×Bool:=
 bif (x.m:Int).fdiv (2^min (Int.toNat 52) u64.bits)!=0 then (0,false)
 else bif x.e==0 then (km x,true)
 else bif decide (x.e>0) then bif decide (x.e<=37) then vx (Dx x) else sE x
 else sE x
theorem Rp:∀i,i<23->I5 (n8 i):=by
 have h:∀i:Fin 23,(match Ieee.double.read (n8 i.val)with| .number _ m _=>decide (m≠0)|_=>false)=true:=by decide+kernel
 intro i hi;have:=h ⟨i,hi⟩;dsimp only at this;revert this;unfold I5;grind
theorem ae4(x:pu):NN (km x):=by
 unfold km;cases x.n with
 |true=>exact alO (aaS _)
 |false=>exact aaS _
def sF:aR where
 X:=pu
 args x:=[aA x.m,ae x.e,ak x.n]
 cond x:= -100000<=x.e/\x.e<=100000
 aQ x F:=ic x.tb x.lc F
 val x _:=.returned (.tuple #[.float .f64 (m6 x).1,.bool (m6 x).2])
structure wY where
 f:Nat
 e:Int
def ae3(x:pu)(F:ai):Nat->Option Inv:=fun
 |5=>some {X:=wY,P:=fun d=>d.f=km x/\(m6 x=bif x.e==0 then (km x,true) else bif decide (x.e>0) then bif decide (x.e<=37) then vx (Dx x) else sE x else sE x),mu:=fun _=>0,lv:=fun d=>[(1,ae x.e),(6,float f64 d.f),(7,dq)],st:=fun _=>[F]}
 |11=>some {X:=wY,P:=fun d=>0<=d.e/\d.e<=22/\NN d.f/\m6 x=vx (d.f,d.e),mu:=fun _=>0,lv:=fun d=>[(1,ae d.e),(6,float f64 d.f),(7,dq)],st:=fun _=>[F]}
 |_=>none
def mR:=aA 52
def Dq(oo:Oper)(aa:List Value)(k0:Nat->Prop):=dH Tryz.prog oo DO/\∃(z:Nat),aa=[float f64 z]/\True/\k0 z
def Uo(z:wY)(e0:pu):=z.f=km e0/\(m6 e0=bif e0.e==0 then (km e0,true) else bif decide (e0.e>0) then bif decide (e0.e<=37) then vx (Dx e0) else sE e0 else sE e0)
def Qn(e0:pu)(e1:ai)(v0:Value)(ss:St):=∃(z:wY),Uo z e0/\(ae e0.e=ae e0.e/\v0=float f64 z.f/\ak false=ak false/\True)/\aD ss [(0,e1)]
def e8(aa:ai)(ad:Addr)(k0:Option Addr->Nat->Nat->Prop):=∃(z0:Option Addr),∃(z1:Nat),∃(z2:Nat),aO aa ad (au z0 z1 z2)/\k0 z0 z1 z2
def vt(aa:ai)(ad:Addr)(k0:Nat->Prop):=∃(z0:Nat),aO aa ad (float f64 z0)/\k0 z0
def u5(z:Nat×Nat):List Value:=[float f64 z.fst,float f64 z.snd]
def Qo(oo:Oper)(aa:List Value)(k0:Nat×Nat->Prop):=dH Tryz.prog oo (uC BinOp.mul)/\∃(z:Nat×Nat),aa=(u5 z)/\(nc BinOp.mul z.fst z.snd).isSome=true/\k0 z
def Qp(e0:pu)(e1:ai)(v0 v1:Value)(ss:St):=∃(z:wY),(0<=z.e/\z.e<=22/\NN z.f/\m6 e0=vx (z.f,z.e))/\(v0=ae z.e/\v1=float f64 z.f/\ak false=ak false/\True)/\aD ss [(0,e1)]
def JN(oo:Oper)(aa:List Value)(k0:Nat×Nat->Prop):=dH Tryz.prog oo (qn BinOp.gtr)/\∃(z:Nat×Nat),aa=(u5 z)/\True/\k0 z
def HM(x:pu)(F:ai)(l:wY):=aq sF x F (az (tuple ⟨[float f64 l.f,ak false]⟩)) [(0,F)]
def Dr(oo:Oper)(aa:List Value)(k0:Nat×Nat->Prop):=dH Tryz.prog oo (qn BinOp.lss)/\∃(z:Nat×Nat),aa=(u5 z)/\True/\k0 z
def XS(oo:Oper)(aa:List Value)(k0:Nat×Nat->Prop):=dH Tryz.prog oo (uC BinOp.quo)/\∃(z:Nat×Nat),aa=(u5 z)/\(nc BinOp.quo z.fst z.snd).isSome=true/\k0 z
def Ws(x:pu)(F:ai)(l:wY):=aP (x.e<0) (aP (x.e>=(-22:Int)) (e8 F ⟨14,0,none⟩ (fun f e d=>kl (a8 Tryz.f134 14 4) [au f e d,ae (bY ((0:Int)-x.e))] (fun c=>vt F ⟨c.b,c.o+c.n.toNat*1,none⟩ (fun b=>XS (a8 Tryz.f134 14 6) [float f64 l.f,float f64 b] (fun a=>aq sF x F (az (tuple ⟨[float f64 ((nc BinOp.quo a.fst a.snd).getD 0),ak true]⟩)) [(0,F)]))))) (HM x F l)) (HM x F l)
theorem ae6(x:pu)(F:ai)(hc:sF.cond x)(hr:sF.aQ x F):aO F ⟨11,0,none⟩ mR/\Br ((x.m:Int).fdiv ((2:Int)^min (Int.toNat (52:Int)) u64.bits)!=0) (aq sF x F zR [(0,F)]) (dH Tryz.prog (a8 Tryz.f134 2 1) (K4 u64)/\∃(m:Int),[aA ↑x.m]=[aA m]/\True/\Br x.n (Dq ⟨some 17,Op.unOp UnOp.neg 32 (Operand.tmp 16),32,"atof.go:443",⟨[⟨0,Ground.data⟩]⟩,none⟩ [float f64 (f64.nearest m)] (fun b=>Qn x F (float f64 (Op.negFloat f64 b)) [(0,F)])) (Qn x F (float f64 (f64.nearest m)) [(0,F)])/\aS fun(l:wY)_=>Uo l x->Br (x.e==0) (aq sF x F (az (tuple ⟨[float f64 l.f,ak true]⟩)) [(0,F)]) (aP (x.e>0) (aP (x.e<=37) (aP (x.e>22) (e8 F ⟨14,0,none⟩ (fun g f e=>((-9223372036854775808:Int)<=x.e-22/\x.e-22<=(9223372036854775807:Int))/\kl (a8 Tryz.f134 9 4) [au g f e,ae (x.e-22)] (fun d=>vt F ⟨d.b,d.o+d.n.toNat*1,none⟩ (fun c=>Qo (a8 Tryz.f134 9 6) [float f64 l.f,float f64 c] (fun b=>Qp x F (ae 22) (float f64 ((nc BinOp.mul b.fst b.snd).getD 0)) [(0,F)]))))) (Qp x F (ae x.e) (float f64 l.f) [(0,F)])/\aS fun(j:wY)_=>(0<=j.e/\j.e<=22/\NN j.f/\m6 x=vx (j.f,j.e))->JN (a8 Tryz.f134 11 1) [float f64 j.f,float f64 4831355200913801216] (fun h=>Br (cR BinOp.gtr h.fst h.snd) (HM x F j) (Dr (a8 Tryz.f134 11 4) [float f64 j.f,float f64 14054727237768577024] (fun g=>Br (cR BinOp.lss g.fst g.snd) (HM x F j) (e8 F ⟨14,0,none⟩ (fun f e d=>kl (a8 Tryz.f134 12 3) [au f e d,ae j.e] (fun c=>vt F ⟨c.b,c.o+c.n.toNat*1,none⟩ (fun b=>Qo (a8 Tryz.f134 12 5) [float f64 j.f,float f64 b] (fun a=>aq sF x F (az (tuple ⟨[float f64 ((nc BinOp.mul a.fst a.snd).getD 0),ak true]⟩)) [(0,F)]))))))))) (Ws x F l)) (Ws x F l))):=by
 delta mR zR Dq Uo Qn e8 kl vt u5 Qo Qp JN HM Dr XS Ws ae aA ak au bY aP az aS;obtain⟨m,e,n,tb,lc⟩:=x;obtain⟨h1,h2⟩:=hc;dsimp only at h1 h2;replace hr:ic tb lc F:=hr;obtain⟨b,o,c,g1,g2⟩:=hr.fp;have fin:∀{S:St}(v:Nat×Bool),gt S 0=F->m6 ⟨m,e,n,tb,lc⟩=v->aD S [(0,F)]->aq sF ⟨m,e,n,tb,lc⟩ F (returned (tuple #[float .f64 v.1,bool v.2])) S:=fun v _ e2 hE=>
  ⟨(),ao,by show _=returned (.tuple #[.float .f64 (m6 ⟨m,e,n,tb,lc⟩).1,.bool (m6 ⟨m,e,n,tb,lc⟩).2]);rw[e2],hE⟩
 have un:m6 ⟨m,e,n,tb,lc⟩=bif (m:Int).fdiv (2^min (Int.toNat 52) u64.bits)!=0 then (0,false) else bif e==0 then (km ⟨m,e,n,tb,lc⟩,true) else bif decide (e>0) then bif decide (e<=37) then vx (Dx ⟨m,e,n,tb,lc⟩) else sE ⟨m,e,n,tb,lc⟩ else sE ⟨m,e,n,tb,lc⟩:=rfl
 have P0:aD [(0,F)] [(0,F)]:=aB [0];refine⟨hr.i0,aG (fun h=>fin (0,false) rfl (by grind) P0) (fun h=>⟨ajT rfl rfl rfl,(m:Int),rfl,ao,aG (fun hn=>⟨Y_ rfl,_,rfl,ao,⟨km ⟨m,e,n,tb,lc⟩,0⟩,⟨rfl,by grind⟩,⟨rfl,?_,rfl,ao⟩,P0⟩) (fun hn=>⟨⟨km ⟨m,e,n,tb,lc⟩,0⟩,⟨rfl,by grind⟩,⟨rfl,?_,rfl,ao⟩,P0⟩),?_⟩)⟩
 ·have hn:n=true:=hn;unfold km;simp[*]
 ·have hn:n=false:=hn;unfold km;simp[*]
 rintro⟨f,_⟩ js ⟨hf,hV⟩;dsimp only at hf hV⊢;subst hf;have SL:=ae4 ⟨m,e,n,tb,lc⟩;have neg:((e==0)=false)->(decide (e>0)=false\/decide (e<=37)=false)->m6 ⟨m,e,n,tb,lc⟩=sE ⟨m,e,n,tb,lc⟩:=fun q h=>by
  grind
 have low:((e==0)=false)->(decide (e>0)=false\/decide (e<=37)=false)->Br (decide (e<0)) (Br (decide (e>= -22)) (∃(a:Option Addr),∃(l:Nat),∃(c:Nat),aO F ⟨14,0,none⟩ (slice a l c)/\dH Tryz.prog (a8 Tryz.f134 14 4) (h_ 1)/\∃(nL:w6),[slice a l c,int i64 (i64.wrap (0-e))]=[slice (some ⟨nL.b,nL.o,none⟩) nL.len nL.cap,int i64 nL.n]/\(0<=nL.n/\nL.n<(nL.len:Int))/\∃(b:Nat),aO F ⟨nL.b,nL.o+nL.n.toNat*1,none⟩ (float f64 b)/\dH Tryz.prog (a8 Tryz.f134 14 6) (uC BinOp.quo)/\∃(fe:Nat×Nat),[float f64 (km ⟨m,e,n,tb,lc⟩),float f64 b]=[float f64 fe.fst,float f64 fe.snd]/\(nc BinOp.quo fe.fst fe.snd).isSome=true/\aq sF ⟨m,e,n,tb,lc⟩ F (returned (tuple #[float f64 ((nc BinOp.quo fe.fst fe.snd).getD 0),bool true])) [(0,F)])
   (aq sF ⟨m,e,n,tb,lc⟩ F (returned (tuple #[float f64 (km ⟨m,e,n,tb,lc⟩),bool false])) [(0,F)]))
   (aq sF ⟨m,e,n,tb,lc⟩ F (returned (tuple #[float f64 (km ⟨m,e,n,tb,lc⟩),bool false])) [(0,F)]):=fun q0 q1=>
  bl (fun hl=>bl (fun hg=>by
   have ew:i64.wrap (0-e)= -e:=by rw[dA (i:=.i64) (n:=0-e) aJ];omega
   have hi:(-e).toNat<23:=by omega
   obtain⟨q2,q3⟩:=anP SL (Rp _ hi);rw[ew];exact⟨_,_,_,g1,jp 1 rfl rfl rfl rfl,⟨b,o,23,c,-e⟩,rfl,⟨by grind,by grind⟩,n8 (-e).toNat,by simp[*],anQ rfl,(km ⟨m,e,n,tb,lc⟩,n8 (-e).toNat),rfl,q2,fin (_,true) rfl (by rw[neg q0 q1];unfold sE;grind) P0⟩)
   (fun hg=>fin (_,false) rfl (by rw[neg q0 q1];unfold sE;dsimp only;rw[bG hl,bK hg];rfl) P0))
  (fun hl=>fin (_,false) rfl (by rw[neg q0 q1];unfold sE;dsimp only;rw[bK hl];rfl) P0)
 refine aG (fun h0=>fin (_,true) rfl (by rw[hV,h0];rfl) P0) (fun h0=>bl (fun h3=>bl (fun h4=>⟨bl (fun h5=>?_) (fun h5=>?_),?_⟩) (fun h4=>low h0 (.inr (bK h4)))) (fun h3=>low h0 (.inl (bK h3))))
 ·have hi:(e-22).toNat<23:=by omega
  obtain⟨q2,q3⟩:=aaC SL (Rp _ hi);refine⟨_,_,_,g1,aJ,jp 1 rfl rfl rfl rfl,⟨b,o,23,c,e-22⟩,rfl,⟨by grind,by grind⟩,n8 (e-22).toNat,by simp[*],aaD rfl,(km ⟨m,e,n,tb,lc⟩,n8 (e-22).toNat),rfl,q2,⟨_,22⟩,⟨by simp[*],by simp[*],q3,?_⟩,aV,P0⟩;rw[hV,h0,bG h3,bG h4];unfold Dx;grind
 ·refine⟨⟨km ⟨m,e,n,tb,lc⟩,e⟩,⟨by grind,by grind,SL,?_⟩,aV,P0⟩;rw[hV,h0,bG h3,bG h4];unfold Dx;simp[*]
 rintro⟨f,e'⟩ js ⟨q1,q2,q3,q4⟩;dsimp only at q1 q2 q3 q4⊢;refine⟨rA (.inr (.inr (.inl rfl))) rfl,(f,_),rfl,ao,aG (fun h5=>fin (f,false) rfl ?_ P0) (fun h5=>⟨rA (.inr (.inl rfl)) rfl,(f,_),rfl,ao,aG (fun h6=>fin (f,false) rfl ?_ P0) (fun h6=>?_)⟩)⟩
 ·rw[q4];unfold vx;simp[*]
 ·rw[q4];unfold vx;simp[*]
 ·have hi:e'.toNat<23:=by omega
  obtain⟨r2,r3⟩:=aaC q3 (Rp _ hi);refine⟨_,_,_,g1,jp 1 rfl rfl rfl rfl,⟨b,o,23,c,e'⟩,rfl,⟨q1,by grind⟩,n8 e'.toNat,by simp[*],aaD rfl,(f,n8 e'.toNat),rfl,r2,fin (_,true) rfl ?_ P0⟩;rw[q4];unfold vx;grind
theorem ae5:aC 134 sF:=fo 64 Tryz.func134 (fun _ _=>[(1,2,.q [.ex 0 (.is (.int .u64 52))]),(1,3,aW),(2,1,.qo (K4 .u64)),(4,1,.qo DO),(9,6,.qo (uC .mul)),(11,1,.qo (qn .gtr)),(11,4,.qo (qn .lss)),(12,5,.qo (uC .mul)),(14,6,.qo (uC .quo)),(9,1,.q [.ex 0 .slice]),(9,4,.qo (h_ 1)),(9,5,.q [.ex 0 (.float .f64)]),(12,1,.q [.ex 0 .slice]),(12,3,.qo (h_ 1)),(12,4,.q [.ex 0 (.float .f64)]),(14,1,.q [.ex 0 .slice]),(14,4,.qo (h_ 1)),(14,5,.q [.ex 0 (.float .f64)])]) [] aY ae3 bz [] ae6
end
section
open Go
structure Dw where
 c:Int
def eJ(c:Int):Int:=u8.wrap (↑(BitVec.ofInt u8.bits c|||BitVec.ofInt u8.bits 32).toNat:Int)
def mM:aR where
 X:=Dw
 args x:=[a_ x.c]
 val x _:=az (a_ (eJ x.c))
theorem akW(x:Dw)(F:ai)(hc:mM.cond x)(hr:mM.aQ x F):aq mM x F (az (a_ (u8.wrap (↑(BitVec.ofInt u8.bits x.c|||BitVec.ofInt u8.bits (32:Int)).toNat:Int)))) [(0,F)]:=by
 delta a_ az;exact lJ
theorem tj:aC 146 mM:=fo 5 Tryz.func146 (fun _ _=>[(1,1,aW)]) [] aY aY bz [] akW
structure zi where
 s:ByteArray
 p:ByteArray
def iq(s p:ByteArray):Int:=if (s.size:Int)<p.size then s.size else p.size
def IX(s:ByteArray)(i:Int):Int:=bif (bif decide (65<=aE s i) then decide (aE s i<=90) else false) then u8.wrap (aE s i+32) else aE s i
def AQ(s p:ByteArray):Nat->Int->Int
 |0,_=>iq s p
 |f+1,i=>bif IX s i !=aE p i then i else AQ s p f (i+1)
def jh(s p:ByteArray):Int:=AQ s p (iq s p).toNat 0
def vg:aR where
 X:=zi
 args x:=[aj x.s,aj x.p]
 cond x:=x.s.size<=1000000000/\x.p.size<=1000000000
 val x _:=az (ae (jh x.s x.p))
def aqv(x:zi)(F:ai):Nat->Option Inv:=fun
 |0=>some {X:=Int,P:=fun i=>0<=i/\i<=iq x.s x.p/\jh x.s x.p=AQ x.s x.p (iq x.s x.p-i).toNat i,mu:=fun i=>(iq x.s x.p-i).toNat,lv:=fun i=>[(0,aj x.s),(1,aj x.p),(5,ae (iq x.s x.p)),(6,ae i)],st:=fun _=>[F]}
 |_=>none
def MQ(z:Int)(e0:zi):=0<=z/\z<=iq e0.s e0.p/\jh e0.s e0.p=AQ e0.s e0.p (iq e0.s e0.p-z).toNat z
def dw(c:Int):=(-9223372036854775808:Int)<=c+1/\c+1<=(9223372036854775807:Int)
def Qq(e0:zi)(e1:ai)(v0:Value)(ss:St)(mm:Nat):=∃(z:Int),MQ z e0/\(aj e0.s=aj e0.s/\aj e0.p=aj e0.p/\ae (iq e0.s e0.p)=ae (iq e0.s e0.p)/\v0=ae z/\True)/\aD ss [(0,e1)]/\(iq e0.s e0.p-z).toNat<mm
def TT(c:Int)(x:zi)(F:ai):=(0<=c/\c<x.p.size)/\Br (aE x.s c !=aE x.p c) (aq vg x F (az (ae c)) [(0,F)]) (dw c/\Qq x F (ae (c+1)) [(0,F)] ((iq x.s x.p-c).toNat))
theorem aqw(x:zi)(F:ai)(hc:vg.cond x)(hr:vg.aQ x F):(∃(a:Int),MQ a x/\(aj x.s=aj x.s/\aj x.p=aj x.p/\ae (if (x.s.size:Int)<(x.p.size:Int) then (x.s.size:Int) else (x.p.size:Int))=ae (iq x.s x.p)/\ae 0=ae a/\True)/\aD [(0,F)] [(0,F)])/\aS fun(c:Int)_=>MQ c x->aP (c<iq x.s x.p) ((0<=c/\c<x.s.size)/\aP (65<=aE x.s c) (aP (aE x.s c<=90) ((0<=c/\c<x.p.size)/\Br (u8.wrap (aE x.s c+32)!=aE x.p c) (aq vg x F (az (ae c)) [(0,F)]) (dw c/\Qq x F (ae (c+1)) [(0,F)] ((iq x.s x.p-c).toNat))) (TT c x F)) (TT c x F)) (aq vg x F (az (ae (iq x.s x.p))) [(0,F)]):=by
 delta MQ dw Qq TT ae aj aP az aS;obtain⟨s,p⟩:=x;obtain⟨h1,h2⟩:=hc;dsimp only at h1 h2⊢;have hN:0<=iq s p/\iq s p<=s.size/\iq s p<=p.size:=by unfold iq;split <;> omega
 have P0:aD [(0,F)] [(0,F)]:=aB [0];have fin:∀v,jh s p=v->aq vg ⟨s,p⟩ F (returned (int .i64 v)) [(0,F)]:=fun v e=>
  ⟨(),ao,by show _=returned (.int .i64 (jh s p));rw[e],P0⟩
 refine⟨⟨0,⟨cN _,hN.1,by unfold jh;simp[*]⟩,aV,P0⟩,?_⟩;rintro i js ⟨i0,i1,i2⟩;refine bl (fun bP=>?_) (fun jn=>fin _ ?_)
 ·obtain⟨k,hk⟩:∃k,(iq s p-i).toNat=k+1:=⟨(iq s p-i).toNat-1,af⟩;rw[hk]at i2;have xx:∀c,IX s i=c->((0<=i/\i<(p.size:Int))/\Br (c !=aE p i) (aq vg ⟨s,p⟩ F (returned (int .i64 i)) [(0,F)]) ((-9223372036854775808<=i+1/\i+1<=9223372036854775807)/\∃(y:Int),(0<=y/\y<=iq s p/\jh s p=AQ s p (iq s p-y).toNat y)/\(string s=string s/\string p=string p/\int .i64 (iq s p)=int .i64 (iq s p)/\int .i64 (i+1)=int .i64 y/\True)/\aD [(0,F)] [(0,F)]/\(iq s p-y).toNat<(iq s p-i).toNat)):=by
   intro c Zr;refine⟨⟨i0,af⟩,aG (fun h=>fin _ ?_) (fun h=>⟨aJ,i+1,⟨af,af,?_⟩,aV,P0,af⟩)⟩
   ·rw[i2,AQ,Zr,show(c !=aE p i)=true from h];rfl
   ·rw[i2,AQ,Zr,show(c !=aE p i)=false from h,aU,show(iq s p-(i+1)).toNat=k by omega]
  refine⟨⟨i0,af⟩,bl (fun q1=>bl (fun q2=>xx _ ?_) (fun q2=>xx _ ?_)) (fun q1=>xx _ ?_)⟩
  ·unfold IX;simp[*]
  ·unfold IX;simp[*]
  ·unfold IX;simp[*]
 ·have:(iq s p-i).toNat=0:=by omega
  rw[i2,this,AQ]
theorem acI:aC 143 vg:=fo 36 Tryz.func143 (fun _ _=>[(1,4,aW),(7,1,aW)]) [] aqv aY bz [] aqw
def FA(s:Int):Nat:=bif decide (s>=0) then 9218868437227405312 else 18442240474082181120
def C3:aR where
 X:=Int
 args x:=[ae x]
 val x _:=az (float f64 (FA x))
theorem aqH(x:Int)(F:ai)(hc:C3.cond x)(hr:C3.aQ x F):aP (x>=0) (aq C3 x F (az (float f64 9218868437227405312)) [(0,F)]) (aq C3 x F (az (float f64 18442240474082181120)) [(0,F)]):=by
 delta aP az;exact aG (fun h=>⟨(),ao,by show _=returned (.float .f64 (bif decide (x>=0) then 9218868437227405312 else 18442240474082181120));simp[*],aB [0]⟩) (fun h=>⟨(),ao,by show _=returned (.float .f64 (bif decide (x>=0) then 9218868437227405312 else 18442240474082181120));simp[*],aB [0]⟩)
theorem acO:aC 144 C3:=fo 8 Tryz.func144 (fun _ _=>[]) [(5,1,aW)] aY aY bz [] aqH
def FB:aR where
 X:=Unit
 args _:=[]
 val _ _:=az (float f64 9221120237041090561)
theorem aqJ(x:PUnit)(F:ai)(hc:FB.cond x)(hr:FB.aQ x F):aq FB x F Ck [(0,F)]:=by
 delta Ck az;exact lJ
theorem aqI:aC 145 FB:=fo 2 Tryz.func145 (fun _ _=>[]) [(1,0,aW)] aY aY bz [] aqJ
def wU:ByteArray:=ByteArray.mk #[105,110,102,105,110,105,116,121]
def yW:ByteArray:=ByteArray.mk #[110,97,110]
def pr(t:ByteArray):Int:=bif (bif decide (3<jh t wU) then decide (jh t wU<8) else false) then 3 else jh t wU
def t7(t:ByteArray)(sg ns:Int):Nat×Int×Bool:=bif (bif pr t==3 then true else pr t==8) then (FA sg,ns+pr t,true) else (0,0,false)
def ed(s:ByteArray):Nat×Int×Bool:=
 bif (s.size:Int)==0 then (0,0,false)
 else bif aE s 0==43||aE s 0==45 then t7 (s.extract 1 s.size) (bif aE s 0==45 then-1 else 1) 1
 else bif aE s 0==105||aE s 0==73 then t7 s 1 0
 else bif aE s 0==110||aE s 0==78 then (bif jh s yW==3 then (9221120237041090561,3,true) else (0,0,false))
 else (0,0,false)
structure bR where
 s:ByteArray
def AU:aR where
 X:=bR
 args x:=[aj x.s]
 cond x:=x.s.size<=1000000000
 val x _:=.returned (.tuple #[.float .f64 (ed x.s).1,.int .i64 (ed x.s).2.1,.bool (ed x.s).2.2])
structure vw where
 t:ByteArray
 sg:Int
 ns:Int
 n:Int
def aqX(x:bR)(F:ai):Nat->Option Inv:=fun
 |12=>some {X:=Unit,P:=fun _=>0<x.s.size/\ed x.s=t7 (x.s.extract 1 x.s.size) (bif aE x.s 0==45 then-1 else 1) 1,mu:=fun _=>0,lv:=fun _=>[(0,aj x.s),(5,ae 1)],st:=fun _=>[F]}
 |16=>some {X:=vw,P:=fun d=>d.t.size<=1000000000/\ed x.s=t7 d.t d.sg d.ns/\0<=d.ns/\d.ns<=1,mu:=fun _=>0,lv:=fun d=>[(0,aj d.t),(5,ae d.sg),(6,ae d.ns)],st:=fun _=>[F]}
 |19=>some {X:=vw,P:=fun d=>ed x.s=(bif (bif d.n==3 then true else d.n==8) then (FA d.sg,d.ns+d.n,true) else (0,0,false))/\0<=d.ns/\d.ns<=1,mu:=fun _=>0,lv:=fun d=>[(5,ae d.sg),(6,ae d.ns),(7,ae d.n)],st:=fun _=>[F]}
 |21=>some {X:=Unit,P:=fun _=>ed x.s=(bif jh x.s yW==3 then (9221120237041090561,3,true) else (0,0,false)),mu:=fun _=>0,lv:=fun _=>[(0,aj x.s)],st:=fun _=>[F]}
 |23=>some {X:=Unit,P:=fun _=>ed x.s=(0,0,false),mu:=fun _=>0,lv:=fun _=>[],st:=fun _=>[F]}
 |_=>none
def VE:=az (tuple ⟨[float f64 0,ae 0,ak false]⟩)
def tw(x:bR):=(0:Int)<=(0:Int)/\0<(x.s.size:Int)
def yu(x:bR):=aE x.s (0:Int)==(43:Int)
def Uu(e0:bR):=0<e0.s.size/\ed e0.s=t7 (e0.s.extract 1 e0.s.size) (bif aE e0.s (0:Int)==(45:Int) then (-1:Int) else (1:Int)) (1:Int)
def Qr(e0:bR)(e1:ai)(ss:St):=∃(z:Unit),Uu e0/\(aj e0.s=aj e0.s/\ae 1=ae 1/\True)/\aD ss [(0,e1)]
def Wl(z:vw)(e0:bR):=z.t.size<=1000000000/\ed e0.s=t7 z.t z.sg z.ns/\0<=z.ns/\z.ns<=1
def Gc(e0:bR)(e1:ai)(v0 v1 v2:Value)(ss:St):=∃(z:vw),Wl z e0/\(v0=aj z.t/\v1=ae z.sg/\v2=ae z.ns/\True)/\aD ss [(0,e1)]
def Qs(e0:bR)(e1:ai)(ss:St):=∃(z:Unit),(ed e0.s=bif jh e0.s yW==3 then (9221120237041090561,(3:Int),true) else (0,(0:Int),false))/\(aj e0.s=aj e0.s/\True)/\aD ss [(0,e1)]
def HN(x:bR)(F:ai):=∃(a:Unit),ed x.s=(0,(0:Int),false)/\True/\aD [(0,F)] [(0,F)]
def US(x:bR)(F:ai):=Br (aE x.s (0:Int)==(110:Int)) (Br (aE x.s (0:Int)==(110:Int)) (Qs x F [(0,F)]) (HN x F)) (Br (aE x.s (0:Int)==(78:Int)) (Qs x F [(0,F)]) (HN x F))
def Tv(x:bR)(F:ai):=Br (aE x.s (0:Int)==(105:Int)) (Br (aE x.s (0:Int)==(105:Int)) (Gc x F (aj x.s) (ae 1) (ae 0) [(0,F)]) (US x F)) (Br (aE x.s (0:Int)==(73:Int)) (Gc x F (aj x.s) (ae 1) (ae 0) [(0,F)]) (US x F))
def wy(x:bR):=aE x.s (0:Int)==(45:Int)
def zQ(x:bR):=(0:Int)<=(1:Int)/\1<=(x.s.size:Int)/\(x.s.size:Int)<=(x.s.size:Int)
def zS(x:bR):=aj (x.s.extract (Int.toNat (1:Int)) (x.s.size:Int).toNat)
def Qt(aa:List Value)(k0:zi->Unit->Prop):=aC 143 vg/\true=true/\∃(z:zi),aa=[aj z.s,aj z.p]/\([]:List ai)=[]/\(z.s.size<=1000000000/\z.p.size<=1000000000)/\True/\∀(u0:Unit),True->k0 z u0
def UH(e0:bR)(z:vw):=(ed e0.s=bif bif z.n==3 then true else z.n==8 then (FA z.sg,z.ns+z.n,true) else (0,(0:Int),false))/\0<=z.ns/\z.ns<=1
def JO(e0:bR)(e1:ai)(v0 v1 v2:Value)(ss:St):=∃(z:vw),UH e0 z/\(v0=ae z.sg/\v1=ae z.ns/\v2=ae z.n/\True)/\aD ss [(0,e1)]
def XT(aa:List Value)(k0:Int->Unit->Prop):=aC 144 C3/\true=true/\∃(z:Int),aa=[ae z]/\([]:List ai)=[]/\True/\True/\∀(u0:Unit),True->k0 z u0
def Ue(d:vw)(x:bR)(F:ai):=XT [ae d.sg] (fun b a=>bT (d.ns+d.n)/\aq AU x F (az (tuple ⟨[float f64 (FA b),ae (d.ns+d.n),ak true]⟩)) [(0,F)])
theorem aq0(x:bR)(F:ai)(hc:AU.cond x)(hr:AU.aQ x F):Br ((x.s.size:Int)==0) (aq AU x F VE [(0,F)]) ((tw x/\((Br (yu x) (Br (yu x) (Qr x F [(0,F)]) (Tv x F)) (Br (wy x) (Qr x F [(0,F)]) (Tv x F))/\aS fun(c:Unit)_=>Uu x->tw x/\Br (wy x) (zQ x/\Gc x F (zS x) (ae (-1)) (ae 1) [(0,F)]) (zQ x/\Gc x F (zS x) (ae 1) (ae 1) [(0,F)]))/\aS fun(h:vw)_=>Wl h x->Qt [aj h.t,aj ⟨#[105,110,102,105,110,105,116,121]⟩] (fun f e=>aP (3<jh f.s f.p) (aP (jh f.s f.p<8) (JO x F (ae h.sg) (ae h.ns) (ae 3) [(0,F)]) (JO x F (ae h.sg) (ae h.ns) (ae (jh f.s f.p)) [(0,F)])) (JO x F (ae h.sg) (ae h.ns) (ae (jh f.s f.p)) [(0,F)])/\aS fun(d:vw)_=>UH x d->Br (d.n==3) (Ue d x F) (Br (d.n==8) (Ue d x F) (HN x F))))/\aS fun(f:Unit)_=>(ed x.s=bif jh x.s yW==3 then (9221120237041090561,(3:Int),true) else (0,(0:Int),false))->Qt [aj x.s,aj ⟨#[110,97,110]⟩] (fun d c=>Br (jh d.s d.p==3) (aC 145 FB/\true=true/\∃(b:Unit),([]:List Value)=[]/\([]:List ai)=[]/\True/\True/\∀(a:Unit),True->aq AU x F (az (tuple ⟨[float f64 9221120237041090561,ae 3,ak true]⟩)) [(0,F)]) (HN x F)))/\aS fun(b:Unit)_=>ed x.s=(0,(0:Int),false)->aq AU x F VE [(0,F)]):=by
 delta VE tw yu Uu Qr Wl Gc Qs HN US Tv wy zQ zS Qt UH JO XT Ue bT ae aj ak aP az aS;obtain⟨s⟩:=x;have hc:s.size<=1000000000:=hc;dsimp only;have P0:aD [(0,F)] [(0,F)]:=aB [0];have fin:∀v:Nat×Int×Bool,ed s=v->aq AU ⟨s⟩ F (returned (tuple #[float .f64 v.1,int .i64 v.2.1,bool v.2.2])) [(0,F)]:=fun v e=>
  ⟨(),ao,by show _=returned (.tuple #[.float .f64 (ed s).1,.int .i64 (ed s).2.1,.bool (ed s).2.2]);rw[e],P0⟩
 have un:ed s=bif (s.size:Int)==0 then (0,0,false)
  else bif aE s 0==43||aE s 0==45 then t7 (s.extract 1 s.size) (bif aE s 0==45 then-1 else 1) 1
  else bif aE s 0==105||aE s 0==73 then t7 s 1 0
  else bif aE s 0==110||aE s 0==78 then (bif jh s yW==3 then (9221120237041090561,3,true) else (0,0,false))
  else (0,0,false):=rfl
 refine aG (fun hz=>fin (0,0,false) (by simp[*])) (fun hz=>?_);have ZT:0<s.size:=by
  grind
 rw[show((s.size:Int)==0)=false from hz,aU]at un;refine⟨⟨⟨cN _,af⟩,⟨⟨⟨?_,?_⟩,?_⟩,?_⟩⟩,?_⟩
 ·have OO:(aE s 0==43||aE s 0==45)=true->(∃(se:Unit),(0<s.size/\ed s=t7 (s.extract 1 s.size) (bif aE s 0==45 then-1 else 1) 1)/\(string s=string s/\int .i64 1=int .i64 1/\True)/\aD [(0,F)] [(0,F)]):=fun h=>
   ⟨(),⟨ZT,by simp[*]⟩,aV,P0⟩
  have OP:(aE s 0==43||aE s 0==45)=false->(aE s 0==105||aE s 0==73)=true->(∃(se:vw),(se.t.size<=1000000000/\ed s=t7 se.t se.sg se.ns/\0<=se.ns/\se.ns<=1)/\(string s=string se.t/\int .i64 1=int .i64 se.sg/\int .i64 0=int .i64 se.ns/\True)/\aD [(0,F)] [(0,F)]):=fun h h2=>
   ⟨⟨s,1,0,0⟩,⟨hc,by simp[*],by simp[*],by simp[*]⟩,aV,P0⟩
  have OQ:(aE s 0==43||aE s 0==45)=false->(aE s 0==105||aE s 0==73)=false->(aE s 0==110||aE s 0==78)=true->(∃(se:Unit),(ed s=bif jh s yW==3 then (9221120237041090561,3,true) else (0,0,false))/\(string s=string s/\True)/\aD [(0,F)] [(0,F)]):=fun h h2 h3=>
   ⟨(),by simp[*],⟨rfl,ao⟩,P0⟩
  have OR:(aE s 0==43||aE s 0==45)=false->(aE s 0==105||aE s 0==73)=false->(aE s 0==110||aE s 0==78)=false->(∃(se:Unit),ed s=(0,0,false)/\True/\aD [(0,F)] [(0,F)]):=fun h h2 h3=>
   ⟨(),by simp[*],ao,P0⟩
  revert OO OP OQ OR;generalize (aE s 0==43)=a1,(aE s 0==45)=a2,(aE s 0==105)=a3,(aE s 0==73)=a4,(aE s 0==110)=a5,(aE s 0==78)=a6;intro OO OP OQ OR;cases a1 <;> cases a2 <;> cases a3 <;> cases a4 <;> cases a5 <;> cases a6 <;> first|exact OO rfl|exact OP rfl rfl|exact OQ rfl rfl rfl|exact OR rfl rfl rfl
 ·rintro _ js ⟨h0,h1⟩;refine⟨⟨cN _,af⟩,aG (fun h=>⟨⟨af,af,af⟩,⟨s.extract 1 s.size,-1,1,0⟩,⟨by dsimp only;rw[jU];omega,by simp[*],by simp[*],by simp[*]⟩,aV,P0⟩) (fun h=>⟨⟨af,af,af⟩,⟨s.extract 1 s.size,1,1,0⟩,⟨by dsimp only;rw[jU];omega,by grind,by simp[*],by simp[*]⟩,aV,P0⟩)⟩
 ·rintro⟨t,sg,ns,_⟩ js ⟨h0,h1,h2,h3⟩;dsimp only at h0 h1 h2 h3⊢;have nn:ed s=(bif (bif pr t==3 then true else pr t==8) then (FA sg,ns+pr t,true) else (0,0,false)):=h1;have nb:0<=jh t wU\/True:=.inr trivial;refine bV acI ⟨t,wU⟩ ⟨h0,by show wU.size<=_;decide⟩ fun _ _=>⟨aG (fun q1=>aG (fun q2=>⟨⟨t,sg,ns,3⟩,⟨?_,h2,h3⟩,aV,P0⟩) (fun q2=>⟨⟨t,sg,ns,jh t wU⟩,⟨?_,h2,h3⟩,aV,P0⟩)) (fun q1=>⟨⟨t,sg,ns,jh t wU⟩,⟨?_,h2,h3⟩,aV,P0⟩),?_⟩
  ·have:pr t=3:=by unfold pr;simp[*]
   grind
  ·have:pr t=jh t wU:=by unfold pr;simp[*]
   grind
  ·have:pr t=jh t wU:=by unfold pr;simp[*]
   grind
  rintro⟨_,sg,ns,n⟩ js ⟨h1,h2,h3⟩;dsimp only at h1 h2 h3⊢;refine aG (fun q=>nf acO sg fun _ _=>⟨?_,fin (_,_,true) (by rw[h1,show(n==3)=true from q];rfl)⟩) (fun q=>aG (fun q2=>nf acO sg fun _ _=>⟨?_,fin (_,_,true) (by rw[h1,show(n==3)=false from q,show(n==8)=true from q2];rfl)⟩) (fun q2=>⟨(),by grind,ao,P0⟩))
  all_goals grind
 ·rintro _ js h1;exact bV acI ⟨s,yW⟩ ⟨hc,by show yW.size<=_;decide⟩ fun _ _=>aG (fun q=>nf aqI () fun _ _=>fin (9221120237041090561,3,true) (by grind)) (fun q=>⟨(),by grind,ao,P0⟩)
 grind
theorem aqZ:aC 123 AU:=fo 50 Tryz.func123 (fun _ _=>[(16,1,aX vg),(20,1,aX C3),(21,1,aX vg),(22,0,aX FB)]) [] aY aqX bz [] aq0
end
section
open Go
def cH(s:ByteArray):ByteArray:=bif (bif decide ((s.size:Int)>=1) then (bif aE s 0==45 then true else aE s 0==43) else false) then s.extract 1 s.size else s
def qT(t:ByteArray):Bool:=bif (bif decide ((t.size:Int)>=2) then aE t 0==48 else false) then (bif (bif eJ (aE t 1)==98 then true else eJ (aE t 1)==111) then true else eJ (aE t 1)==120) else false
def sm(t:ByteArray)(hx:Bool)(i:Int):Bool:=bif (bif decide (48<=aE t i) then decide (aE t i<=57) else false) then true else (bif (bif hx then decide (97<=eJ (aE t i)) else false) then decide (eJ (aE t i)<=102) else false)
def t8(t:ByteArray)(hx:Bool):Nat->Int->Int->Bool
 |0,_,eY=>eY !=95
 |f+1,i,eY=>bif sm t hx i then t8 t hx f (i+1) 48 else bif aE t i==95 then (bif eY !=48 then false else t8 t hx f (i+1) 95) else (bif eY==95 then false else t8 t hx f (i+1) 33)
def qU(s:ByteArray):Bool:=bif qT (cH s) then t8 (cH s) (eJ (aE (cH s) 1)==120) ((cH s).size-2) 2 48 else t8 (cH s) false (cH s).size 0 94
def y6:aR where
 X:=bR
 args x:=[aj x.s]
 cond x:=x.s.size<=1000000000
 val x _:=az (ak (qU x.s))
structure iy where
 t:ByteArray
 hx:Bool
 i:Int
 eY:Int
def C6:(T:Type)×(iy->T):=⟨iy,fun d=>d⟩
def aq7(x:bR)(F:ai):Nat->Option Inv:=fun
 |5=>some {X:=Unit,P:=fun _=>True,mu:=fun _=>0,lv:=fun _=>[(0,aj (cH x.s)),(3,d8 94),(4,ae 0)],st:=fun _=>[F]}
 |7=>some {X:=Unit,P:=fun _=>True,mu:=fun _=>0,lv:=fun _=>[(0,aj (cH x.s)),(3,d8 94),(4,ae 0),(5,dq),(46,ak (qT (cH x.s)))],st:=fun _=>[F]}
 |10=>some {X:=iy,P:=fun d=>0<=d.i/\d.i<=(cH x.s).size/\qU x.s=t8 (cH x.s) d.hx ((cH x.s).size-d.i).toNat d.i d.eY,mu:=fun _=>0,lv:=fun d=>[(0,aj (cH x.s)),(3,d8 d.eY),(4,ae d.i),(5,ak d.hx)],st:=fun _=>[F]}
 |13=>some {X:=iy,gh:=some C6,P:=fun d=>0<=d.i/\d.i<(cH x.s).size,mu:=fun _=>0,lv:=fun d=>[(0,aj (cH x.s)),(3,d8 d.eY),(4,ae d.i),(5,ak d.hx),(83,ak (sm (cH x.s) d.hx d.i))],st:=fun _=>[F]}
 |_=>none
def aq8(x:bR)(F:ai):Nat->Option Inv:=fun
 |0=>some {X:=iy,P:=fun d=>0<=d.i/\d.i<=(cH x.s).size/\qU x.s=t8 (cH x.s) d.hx ((cH x.s).size-d.i).toNat d.i d.eY,mu:=fun d=>((cH x.s).size-d.i).toNat,lv:=fun d=>[(0,aj (cH x.s)),(3,d8 d.eY),(4,ae d.i),(5,ak d.hx)],st:=fun _=>[F]}
 |_=>none
def Gd(e0:ai)(e1:bR)(v0:Value)(ss:St):=∃(z:Unit),True/\(v0=aj (cH e1.s)/\d8 94=d8 94/\ae 0=ae 0/\True)/\aD ss [(0,e0)]
def HT(x:bR):=(0:Int)<=(1:Int)/\1<(↑(cH x.s).size:Int)
def pB(aa:List Value)(k0:Dw->Unit->Prop):=aC 146 mM/\true=true/\∃(z:Dw),aa=[a_ z.c]/\([]:List ai)=[]/\True/\True/\∀(u0:Unit),True->k0 z u0
def H6(x:bR):List Value:=[a_ (aE (cH x.s) (1:Int))]
def Ds(e0:ai)(e1:bR)(v0:Value)(ss:St):=∃(z:Unit),True/\(aj (cH e1.s)=aj (cH e1.s)/\d8 94=d8 94/\ae 0=ae 0/\ak false=ak false/\v0=ak (qT (cH e1.s))/\True)/\aD ss [(0,e0)]
def Ht(z:iy)(e0:bR):=0<=z.i/\z.i<=(↑(cH e0.s).size:Int)/\qU e0.s=t8 (cH e0.s) z.hx ((↑(cH e0.s).size:Int)-z.i).toNat z.i z.eY
def JP(e0:bR)(e1:ai)(v0 v1 v2:Value)(ss:St):=∃(z:iy),Ht z e0/\(aj (cH e0.s)=aj (cH e0.s)/\v0=d8 z.eY/\v1=ae z.i/\v2=ak z.hx/\True)/\aD ss [(0,e1)]
def zW(h:iy)(x:bR):=0<=h.i/\h.i<(↑(cH x.s).size:Int)
def Ge(e0:bR)(e1:iy)(e2:ai)(v0 v1 v2 v3:Value)(ss:St):=∃(z:iy),(zW z e0/\C6.snd z=e1)/\(aj (cH e0.s)=aj (cH e0.s)/\v0=d8 z.eY/\v1=ae z.i/\v2=ak z.hx/\v3=ak (sm (cH e0.s) z.hx z.i)/\True)/\aD ss [(0,e2)]
def Wu(h:iy)(x:bR)(f:iy)(F:ai):=Br h.hx (zW h x/\pB [a_ (aE (cH x.s) h.i)] (fun e d=>aP (97<=eJ e.c) (zW h x/\pB [a_ (aE (cH x.s) h.i)] (fun c b=>Ge x f F (d8 h.eY) (ae h.i) (ak h.hx) (ak (decide (eJ c.c<=102))) [(0,F)])) (Ge x f F (d8 h.eY) (ae h.i) (ak h.hx) dq [(0,F)]))) (Ge x f F (d8 h.eY) (ae h.i) (ak h.hx) dq [(0,F)])
def MN(c:iy):=(-9223372036854775808:Int)<=c.i+1/\c.i+1<=(9223372036854775807:Int)
def JR(e0:bR)(e1:ai)(v0 v1 v2:Value)(ss:St)(mm:Nat):=∃(z:iy),Ht z e0/\(aj (cH e0.s)=aj (cH e0.s)/\v0=d8 z.eY/\v1=ae z.i/\v2=ak z.hx/\True)/\aD ss [(0,e1)]/\((↑(cH e0.s).size:Int)-z.i).toNat<mm
theorem aq_(x:bR)(F:ai)(hc:y6.cond x)(hr:y6.aQ x F):aP ((x.s.size:Int)>=1) (tw x/\Br (wy x) (zQ x/\Gd F x (zS x) [(0,F)]) (tw x/\Br (yu x) (zQ x/\Gd F x (zS x) [(0,F)]) (Gd F x (aj x.s) [(0,F)]))) (Gd F x (aj x.s) [(0,F)])/\aS fun(l:Unit)_=>True->(aP ((↑(cH x.s).size:Int)>=2) (((0:Int)<=(0:Int)/\0<(↑(cH x.s).size:Int))/\Br (aE (cH x.s) (0:Int)==(48:Int)) (HT x/\pB (H6 x) (fun g f=>Br (eJ g.c==98) (Ds F x (ak true) [(0,F)]) (HT x/\pB (H6 x) (fun e d=>Br (eJ e.c==111) (Ds F x (ak true) [(0,F)]) (HT x/\pB (H6 x) (fun c b=>Ds F x (ak (eJ c.c==120)) [(0,F)])))))) (Ds F x dq [(0,F)])) (Ds F x dq [(0,F)])/\aS fun(e:Unit)_=>True->Br (qT (cH x.s)) (HT x/\pB (H6 x) (fun c b=>JP x F (d8 48) (ae 2) (ak (eJ c.c==120)) [(0,F)])) (JP x F (d8 94) (ae 0) dq [(0,F)]))/\aS fun(j:iy)_=>Ht j x->JP x F (d8 j.eY) (ae j.i) (ak j.hx) [(0,F)]/\aS fun(h:iy)_=>Ht h x->aP (h.i<(↑(cH x.s).size:Int)) (∃(f:iy),(zW h x/\aP (48<=aE (cH x.s) h.i) (zW h x/\aP (aE (cH x.s) h.i<=57) (Ge x f F (d8 h.eY) (ae h.i) (ak h.hx) (ak true) [(0,F)]) (Wu h x f F)) (Wu h x f F))/\aS fun(c:iy)_=>(zW c x/\C6.snd c=f)->Br (sm (cH x.s) c.hx c.i) (MN c/\JR x F (d8 48) (ae (c.i+1)) (ak c.hx) [(0,F)] (((↑(cH x.s).size:Int)-h.i).toNat)) (zW c x/\Br (aE (cH x.s) c.i==95) (Br (c.eY !=48) (aq y6 x F c7 [(0,F)]) (MN c/\JR x F (d8 95) (ae (c.i+1)) (ak c.hx) [(0,F)] (((↑(cH x.s).size:Int)-h.i).toNat))) (Br (c.eY==95) (aq y6 x F c7 [(0,F)]) (MN c/\JR x F (d8 33) (ae (c.i+1)) (ak c.hx) [(0,F)] (((↑(cH x.s).size:Int)-h.i).toNat))))) (aq y6 x F (az (ak (h.eY !=95))) [(0,F)]):=by
 delta tw wy zQ Gd zS yu HT pB H6 Ds dq Ht JP zW Ge Wu MN JR c7 ae a_ d8 aj ak aP az aS;obtain⟨s⟩:=x;have hc:s.size<=1000000000:=hc;dsimp only;have P0:aD [(0,F)] [(0,F)]:=aB [0];have ht:(cH s).size<=1000000000:=by
  unfold cH;cases (bif decide ((s.size:Int)>=1) then (bif aE s 0==45 then true else aE s 0==43) else false)with
  |true=>rw[bf,jU];omega
  |false=>exact hc
 have fin:∀v:Bool,qU s=v->aq y6 ⟨s⟩ F (returned (bool v)) [(0,F)]:=fun v e=>
  ⟨(),ao,by show _=returned (.bool (qU s));rw[e],P0⟩
 refine⟨?_,fun _ js _=>⟨⟨?_,fun _ js _=>?_⟩,?_⟩⟩
 ·have y:∀t,t=cH s->(∃(se:Unit),True/\(string t=string (cH s)/\int .i32 94=int .i32 94/\int .i64 0=int .i64 0/\True)/\aD [(0,F)] [(0,F)]):=fun t e=>⟨(),ao,⟨by rw[e],rfl,rfl,ao⟩,P0⟩;refine bl (fun h1=>⟨⟨cN _,af⟩,aG (fun h2=>⟨⟨af,af,af⟩,y _ ?_⟩) (fun h2=>⟨⟨cN _,af⟩,aG (fun h3=>⟨⟨af,af,af⟩,y _ ?_⟩) (fun h3=>y _ ?_)⟩)⟩) (fun h1=>y _ ?_)
  ·unfold cH;simp[*]
  ·unfold cH;simp[*]
  ·unfold cH;simp[*]
  ·unfold cH;simp[*]
 ·generalize cH s=t at*;have y:∀b,b=qT t->(∃(x_2:Unit),True/\(string t=string t/\int .i32 94=int .i32 94/\int .i64 0=int .i64 0/\bool false=bool false/\bool b=bool (qT t)/\True)/\aD [(0,F)] [(0,F)]):=fun t e=>⟨(),ao,⟨rfl,rfl,rfl,rfl,by rw[e],ao⟩,P0⟩;refine bl (fun h1=>⟨⟨cN _,af⟩,aG (fun h2=>⟨aJ,tj,rfl,⟨_⟩,rfl,rfl,ao,ao,fun _ _=>aG (fun h3=>y _ ?_) (fun h3=>⟨aJ,tj,rfl,⟨_⟩,rfl,rfl,ao,ao,fun _ _=>aG (fun h4=>y _ ?_) (fun h4=>⟨aJ,tj,rfl,⟨_⟩,rfl,rfl,ao,ao,fun _ _=>y _ ?_⟩)⟩)⟩) (fun h2=>y _ ?_)⟩) (fun h1=>y _ ?_)
  ·unfold qT;rw[bG h1,show(aE t 0==48)=true from h2,show(eJ (aE t 1)==98)=true from h3];rfl
  ·unfold qT;rw[bG h1,show(aE t 0==48)=true from h2,show(eJ (aE t 1)==98)=false from h3,show(eJ (aE t 1)==111)=true from h4];rfl
  ·unfold qT;rw[bG h1,show(aE t 0==48)=true from h2,show(eJ (aE t 1)==98)=false from h3,show(eJ (aE t 1)==111)=false from h4];rfl
  ·unfold qT;simp[*]
  ·unfold qT;simp[*]
 ·refine aG (fun h=>?_) (fun h=>⟨⟨cH s,false,0,94⟩,⟨by simp[*],by simp[*],?_⟩,aV,P0⟩)
  ·have h2:2<=(cH s).size:=by
    have h:qT (cH s)=true:=h;unfold qT at h;grind
   refine⟨aJ,tj,rfl,⟨_⟩,rfl,rfl,ao,ao,fun _ _=>⟨⟨cH s,_,2,48⟩,⟨by simp[*],by grind,?_⟩,aV,P0⟩⟩;unfold qU;rw[show qT (cH s)=true from h,bf];dsimp only;rw[show(((cH s).size:Int)-2).toNat=(cH s).size-2 by omega];rfl
  ·unfold qU;simp[*]
 generalize cH s=t at*;intro d js hd;refine⟨⟨d,hd,aV,P0⟩,?_⟩;rintro⟨_,hx,i,eY⟩ js ⟨h0,h1,h2⟩;dsimp only at h0 h1 h2⊢;refine bl (fun bP=>?_) (fun jn=>fin _ ?_)
 ·obtain⟨k,hk⟩:∃k,((t.size:Int)-i).toNat=k+1:=⟨((t.size:Int)-i).toNat-1,af⟩;rw[hk,t8]at h2;refine⟨(⟨t,hx,i,eY⟩:iy),⟨⟨h0,bP⟩,?_⟩,?_⟩
  ·have y:∀b,b=sm t hx i->(∃(fe:iy),((0<=fe.i/\fe.i<(t.size:Int))/\C6.2 fe=(⟨t,hx,i,eY⟩:iy))/\(string t=string t/\int .i32 eY=int .i32 fe.eY/\int .i64 i=int .i64 fe.i/\bool hx=bool fe.hx/\bool b=bool (sm t fe.hx fe.i)/\True)/\aD [(0,F)] [(0,F)]):=fun b e=>⟨⟨t,hx,i,eY⟩,⟨⟨h0,bP⟩,rfl⟩,⟨rfl,rfl,rfl,rfl,by rw[e],ao⟩,P0⟩;have z:(bif decide (48<=aE t i) then decide (aE t i<=57) else false)=false->Br hx ((0<=i/\i<(t.size:Int))/\aC 146 mM/\true=true/\∃(fe:Dw),[int .u8 (aE t i)]=[int .u8 fe.c]/\([]:List ai)=[]/\True/\True/\∀(y:Unit),True->Br (decide (97<=eJ fe.c)) ((0<=i/\i<(t.size:Int))/\aC 146 mM/\true=true/\∃(p6:Dw),[int .u8 (aE t i)]=[int .u8 p6.c]/\([]:List ai)=[]/\True/\True/\∀(y:Unit),True->∃(AP:iy),((0<=AP.i/\AP.i<(t.size:Int))/\C6.2 AP=(⟨t,hx,i,eY⟩:iy))/\(string t=string t/\int .i32 eY=int .i32 AP.eY/\int .i64 i=int .i64 AP.i/\bool hx=bool AP.hx/\bool (decide (eJ p6.c<=102))=bool (sm t AP.hx AP.i)/\True)/\aD [(0,F)] [(0,F)])
    (∃(p6:iy),((0<=p6.i/\p6.i<(t.size:Int))/\C6.2 p6=(⟨t,hx,i,eY⟩:iy))/\(string t=string t/\int .i32 eY=int .i32 p6.eY/\int .i64 i=int .i64 p6.i/\bool hx=bool p6.hx/\bool false=bool (sm t p6.hx p6.i)/\True)/\aD [(0,F)] [(0,F)]))
    (∃(fe:iy),((0<=fe.i/\fe.i<(t.size:Int))/\C6.2 fe=(⟨t,hx,i,eY⟩:iy))/\(string t=string t/\int .i32 eY=int .i32 fe.eY/\int .i64 i=int .i64 fe.i/\bool hx=bool fe.hx/\bool false=bool (sm t fe.hx fe.i)/\True)/\aD [(0,F)] [(0,F)]):=fun e=>by
    refine aG (fun q=>⟨⟨h0,bP⟩,tj,rfl,⟨_⟩,rfl,rfl,ao,ao,fun _ _=>aG (fun q2=>⟨⟨h0,bP⟩,tj,rfl,⟨_⟩,rfl,rfl,ao,ao,fun _ _=>y _ ?_⟩) (fun q2=>y _ ?_)⟩) (fun q=>y _ ?_)
    ·unfold sm;rw[e,show hx=true from q,show decide (97<=eJ (aE t i))=true from q2];rfl
    ·unfold sm;rw[e,show hx=true from q,show decide (97<=eJ (aE t i))=false from q2];rfl
    ·unfold sm;simp[*]
   refine aG (fun q1=>⟨⟨h0,bP⟩,aG (fun q2=>y _ ?_) (fun q2=>z ?_)⟩) (fun q1=>z ?_)
   ·unfold sm;simp[*]
   all_goals grind
  ·rintro⟨t',hx',i',aov⟩ js ⟨_,e⟩;have e:(⟨t',hx',i',aov⟩:iy)=⟨t,hx,i,eY⟩:=e;cases e;dsimp only;have nx:∀sw,qU s=t8 t hx k (i+1) sw->((-9223372036854775808<=i+1/\i+1<=9223372036854775807)/\∃(y:iy),(0<=y.i/\y.i<=(t.size:Int)/\qU s=t8 t y.hx ((t.size:Int)-y.i).toNat y.i y.eY)/\(string t=string t/\int .i32 sw=int .i32 y.eY/\int .i64 (i+1)=int .i64 y.i/\bool hx=bool y.hx/\True)/\aD [(0,F)] [(0,F)]/\((t.size:Int)-y.i).toNat<((t.size:Int)-i).toNat):=fun sw e=>
    ⟨aJ,⟨t,hx,i+1,sw⟩,⟨by grind,by grind,by dsimp only;rw[show((t.size:Int)-(i+1)).toNat=k by omega];exact e⟩,aV,P0,by grind⟩
   refine aG (fun q=>nx _ ?_) (fun q=>⟨⟨h0,bP⟩,aG (fun q2=>aG (fun q3=>fin _ ?_) (fun q3=>nx _ ?_)) (fun q2=>aG (fun q3=>fin _ ?_) (fun q3=>nx _ ?_))⟩)
   all_goals grind
 ·rw[h2,show((t.size:Int)-i).toNat=0 by omega,t8]
theorem aq9:aC 147 y6:=fo 94 Tryz.func147 (fun _ _=>[(6,11,aX mM),(6,16,aX mM),(6,22,aX mM),(9,2,aX mM),(12,16,aX mM),(12,23,aX mM)]) [] aq8 aq7 bz [] aq_
end
section
open Go
variable{I J:a7}{k:Nat}{S:St}{v:Value}{w:World}
theorem Sat.freeze(h:Sat I S w){j b:Nat}{vs:List Value}{t:TypeId}(hj:gt S j= .cells b vs t):
  ∃J,a7.le I J/\J b=some (.cells ⟨vs⟩ t (0,0))/\Sat J (gn S j .dT) w:=by
 obtain⟨⟨f,h1,h2,h3⟩,hi⟩:=h;have hb:=h1 j;rw[hj]at hb;obtain⟨BE,hhb⟩:=hb;have hIb:=(h3 j b BE).1;refine⟨fun c=>if c=b then some (.cells ⟨vs⟩ t (0,0)) else I c,fun c o hc=>?_,aM,⟨⟨fun i c=>i≠j/\f i c,fun i=>?_,fun i i' c hc mI=>h2 _ _ _ hc.2 mI.2,fun i c hc=>⟨?_,(h3 i c hc.2).2⟩⟩,fun c o hc=>?_⟩⟩
 ·grind
 ·rw[vM];by_cases e:i=j
  ·simp[e];trivial
  ·have e2:(fun c=>i≠j/\f i c)=f i:=by simp[*]
   simp only[e,if_false];rw[show(fun c=>¬i=j/\f i c)=f i from e2];refine ai.mono (fun c o hc=>?_) (h1 i);grind
 ·grind
 ·by_cases e:c=b
  ·grind
  ·simp[e]at hc;exact hi c o hc
theorem Sat.SY{Y:Type}{R:Y->Prop}{B:Y->ai}(j:Nat)(h:Sat I S w)(hA:∀h o,(gt S j).holds I h o->∃y,R y/\(B y).holds I h o):∃y,R y/\Sat I (gn S j (B y)) w:=by
 obtain⟨⟨f,h1,h2,h3⟩,hi⟩:=h;obtain⟨y,hy,hB⟩:=hA (hp w) (f j) (h1 j);refine⟨y,hy,⟨⟨f,fun i=>?_,h2,h3⟩,hi⟩⟩;rw[vM];grind
theorem Sat.Fj{B:ai}(j:Nat)(h:Sat I S w)(hA:∀h o,(gt S j).holds I h o->B.holds I h o):Sat I (gn S j B) w:=by
 obtain⟨⟨f,h1,h2,h3⟩,hi⟩:=h;refine⟨⟨f,fun i=>?_,h2,h3⟩,hi⟩;rw[vM];grind
def bC(ns:List Int):List Value:=ns.map fun n=>.int .i64 n
theorem D6(ns:List Int):(bC ns).length=ns.length:=by unfold bC;simp
theorem xY(ns ms:List Int):bC (ns++ms)=bC ns++bC ms:=by unfold bC;simp
theorem Yq(h:a7.le I J){a:Addr}(hc:xw I a=some v):xw J a=some v:=by
 unfold xw at hc⊢;cases e:I a.block with
 |none=>rw[e]at hc;simp at hc
 |some o=>rw[e]at hc;rw[h _ _ e];exact hc
def C8(I:a7)(k:Nat)(v:Value)(xs:List Value):Prop:=∃a n cap,v= .slice a n cap/\mt k xs a n/\∀ad,a=some ad->∀j u,xs[j]?=some u->xw I (ad.add j)=some u
theorem C8.mono(h:a7.le I J){xs:List Value}(hf:C8 I k v xs):C8 J k v xs:=by
 obtain⟨a,n,cap,h1,h2,h4⟩:=hf;exact⟨a,n,cap,h1,h2,fun ad e j u hj=>Yq h (h4 ad e j u hj)⟩
theorem Sat.ahW(h:Sat I S w)(j:Nat){e:TypeId}{cs:List Value}{r:Row}(hr:bv e k cs r)(hj:gt S j=r.A):
  ∃J,a7.le I J/\C8 J k r.v cs/\Sat J (gn S j .dT) w:=by
 have ZX:=hr.src;cases hr with
 |nil hn=>exact⟨I,a7.le_refl I,⟨none,0,0,rfl,ZX,fun _ e=>by cases e⟩,h.Fj j fun _ _ _=>ao⟩
 |gg rb n cap sp hl gx arG=>
  obtain⟨J,bS,hJ,hsJ⟩:=h.freeze hj;refine⟨J,bS,⟨_,_,_,rfl,ZX,fun ad e j u hj=>?_⟩,hsJ⟩;cases e;rw[sD,QT hJ,jk,rB (mG.1 hj).1];exact hj
end
section
open Go
def eP:(Nat->Option Nat)->Code->Code
 |ρ,.seq a b=>.seq (eP ρ a) (eP ρ b)
 |ρ,.cond x a b=>.cond x (eP ρ a) (eP ρ b)
 |ρ,.block i c=>.block i (eP ρ c)
 |ρ,.loop c=>.loop (eP ρ c)
 |_,.scope c=>.scope (eP (fun _=>none) c)
 |_,.label _=>.skip
 |ρ,.goto l=>match ρ l with|some i=>.exit i|none=>.goto l
 |_,c=>c
def ot:Code->Bool
 | .seq a b=>ot a&&ot b
 | .cond _ a b=>ot a&&ot b
 | .block i c=>Nat.blt i 1000000&&ot c
 | .loop c=>ot c
 | .scope c=>ot c
 |_=>true
def su(P:Program)(N:Nat)(fn:Func)(H:kj)(rh:List LH)(c:Code)(T:Tm)(S:St)(lv:List (Nat×Value))(R:Ending->St->Prop):Prop:=
 E P N H c 0 T S fun e T S=>match e with
  | .normal=>match lv with| []=>True|_::_=>rd P S (kK fn T) rh fun v=>R (.returned v) S
  | .ret=>rd P S (kK fn T) rh fun v=>R (.returned v) S
  | .panic ch=>ki T lv/\R (.panicked ch) S
  |_=>False
noncomputable def iN(fn:Func):Code:=fn.body.getD .skip
section
variable{P:Program}{N:Nat}
theorem acX(hm:P.follows .mixedOrders=true)(H:kj):∀(c:Code){ρ:Nat->Option Nat}{key:Nat}{T:Tm}{S:St}{K:Exit->Tm->St->Prop}{a:Act}{I:a7}{w:World}{ds:List Deferred}{Q:Exit->Act->World->Prop},
  E P N H (eP ρ c) key T S K->dM N T a->a.defers=ds->Sat I S w->(∀e a' w',fh N I w ds (K e) a' w'->Q e a' w')->(∀l i,ρ l=some i->1000000<=i/\∀a' w',Q (.exit i) a' w'->Q (.goto l) a' w')->ot c=true->c.wp P Q a w:=by
 intro c
 induction c with
 |skip=>
  intro ρ key T S K a I w ds Q h bw hd hs hQ hG hl;exact wp_skip (hQ _ _ _ ⟨T,S,I,bw,hd,a7.le_refl I,hs,cE.refl w,h⟩)
 |exit id=>
  intro ρ key T S K a I w ds Q h bw hd hs hQ hG hl;exact wp_exit (hQ _ _ _ ⟨T,S,I,bw,hd,a7.le_refl I,hs,cE.refl w,h⟩)
 |ret=>
  intro ρ key T S K a I w ds Q h bw hd hs hQ hG hl;exact wp_ret (hQ _ _ _ ⟨T,S,I,bw,hd,a7.le_refl I,hs,cE.refl w,h⟩)
 |seq x y zF xX=>
  intro ρ key T S K a I w ds Q h bw hd hs hQ hG hl;simp only[eP,E]at h;refine wp_seq ?_;have Zl:∀l i,ρ l=some i->1000000<=i/\∀a' w',Exit.then (Code.wp P y Q) Q (.exit i) a' w'->Exit.then (Code.wp P y Q) Q (.goto l) a' w':=hG;have iD:ot x=true/\ot y=true:=by simpa[ot]using hl
  split at h
  ·refine zF h bw hd hs (fun e a' w' bN=>?_) Zl iD.1;cases e with
   |normal=>
    obtain⟨T',S',J,h1,h2,h3,h4,h5,h6⟩:=bN;exact xX h6 h1 h2 h4 (fun e a w h=>hQ e a w (h.from h3 h5)) hG iD.2
   |_=>exact hQ _ _ _ bN
  ·rename_i V hV
   have go:∀Pr:V.X->Prop,(E P N H (eP ρ x) key T S fun e T S=>match e with| .normal=>∃x,Pr x/\ki T (V.lv x)/\aD S (bD (V.st x))|e=>K e T S)->
     (∀x js,Pr x->E P N H (eP ρ y) key (kE js (V.lv x)) (bD (V.st x)) K)->Code.wp P x (Exit.then (Code.wp P y Q) Q) a w:=by
    intro Pr hx hy;refine zF hx bw hd hs (fun e a' w' bN=>?_) Zl iD.1;cases e with
    |normal=>
     obtain⟨T',S',J,h1,h2,h3,h4,h5,x,hp,he,jW⟩:=bN;obtain⟨J',bS,el⟩:=jW.h J w' h4;exact xX (hy x T'.z00 hp) (qB h1 he) h2 el (fun e a w h=>hQ e a w (h.from (a7.le_trans h3 bS) h5)) hG iD.2
    |_=>exact hQ _ _ _ bN
   split at h
   ·exact go _ h.1 h.2
   ·obtain⟨_,hx,hy⟩:=h;exact go _ hx hy
 |cond x c1 c2 Sq Sr=>
  intro ρ key T S K a I w ds Q h bw hd hs hQ hG hl;simp only[eP,E]at h;split at h
  ·rename_i t ht
   have hc:a.eval x= .bool t:=by rw[bw.eval];exact ht
   refine wp_cond hc ?_;have iD:ot c1=true/\ot c2=true:=by simpa[ot]using hl
   rcases Br.cases h with⟨rfl,hk⟩| ⟨rfl,hk⟩
   all_goals grind
  grind
 |block id c ih=>
  intro ρ key T S K a I w ds Q h bw hd hs hQ hG hl;simp only[eP,E]at h;have iD:id<1000000/\ot c=true:=by simpa[ot]using hl
  refine wp_block (ih h bw hd hs (fun e a' w' bN=>?_) (fun l i hr=>⟨(hG l i hr).1,fun a' w' hq=>by
   have h1:=(hG l i hr).1;have h2:i≠id:=by omega
   simp only[Exit.inBlock,h2,if_false]at hq;exact(hG l i hr).2 a' w' hq⟩) iD.2)
  cases e with
  |exit i=>
   simp only[Exit.inBlock];by_cases hi:i=id
   ·subst hi;simp only[if_true];refine hQ _ _ _ (bN.mono fun T S h=>?_);simpa using h
   ·simp only[hi,if_false];refine hQ _ _ _ (bN.mono fun T S h=>?_);simpa[vB hi]using h
  |_=>exact hQ _ _ _ bN
 |scope c ih=>
  intro ρ key T S K a I w ds Q h bw hd hs hQ hG hl;simp only[eP,E]at h;refine wp_scope_straight (ih h bw hd hs (fun e a' w' bN=>?_) (fun l r hr=>by cases hr) hl);cases e with
  |goto l=>
   obtain⟨_,_,_,_,_,_,_,_,h6⟩:=bN;grind
  |_=>exact hQ _ _ _ bN
 |loop c ih=>
  intro ρ key T S K a I w ds Q h bw hd hs hQ hG hl;simp only[eP,E]at h;split at h
  ·grind
  ·rename_i V hV
   have go:∀Pr:V.X->Prop,(∃x,Pr x/\ki T (V.lv x)/\aD S (bD (V.st x)))->(∀x js,Pr x->E P N H (eP ρ c) key (kE js (V.lv x)) (bD (V.st x)) fun e T S=>match e with
     | .normal=>∃y,Pr y/\ki T (V.lv y)/\aD S (bD (V.st y))/\V.mu y<V.mu x
     |e=>K e T S)->Code.wp P (.loop c) Q a w:=by
    rintro Pr ⟨x0,vQ,GF,GG⟩ GW;obtain⟨J0,BG,BJ⟩:=GG.h I w hs;refine wp_loop_ghost (fun n a' w'=>∃x js J,V.mu x=n/\Pr x/\dM N (kE js (V.lv x)) a'/\a'.defers=ds/\a7.le I J/\Sat J (bD (V.st x)) w'/\cE w w') (V.mu x0)
     ⟨x0,T.z00,J0,rfl,vQ,qB bw GF,hd,BG,BJ,cE.refl w⟩ ?_
    rintro n a' w' ⟨x,js,J,rfl,hp,oY,uE,bS,el,ft⟩;refine ih (GW x js hp) oY uE el (fun e a2 w2 bN=>?_) hG hl;cases e with
    |normal=>
     obtain⟨T',S',J',h1,h2,h3,h4,h5,y,GU,GI,GH,GQ⟩:=bN;obtain⟨J2,og,dD⟩:=GH.h J' w2 h4;exact⟨V.mu y,GQ,y,T'.z00,J2,rfl,GU,qB h1 GI,h2,a7.le_trans bS (a7.le_trans h3 og),dD,ft.trans h5⟩
    |_=>exact hQ _ _ _ (bN.from bS ft)
   split at h
   ·exact go _ h.1 h.2
   ·obtain⟨_,hx,hy⟩:=h;exact go _ hx hy
 |region id aN Kd=>
  intro ρ key T S K a I w ds Q h bw hd hs hQ hG hl;simp only[eP,E]at h;split at h
  ·exact wp_region (WA _ h bw hd hs (fun a w h=>hQ _ a w h) (fun ch a w h=>hQ _ a w h))
  ·exact wp_region_any hm (QY h.1 h.2 bw hd (hs.heap (w':={w with drawn:=w.drawn+1}) rfl) (fun a w h=>hQ _ a w (h.from (a7.le_refl _) ap)) (fun ch a w h=>hQ _ a w (h.from (a7.le_refl _) ap)))
 |label l=>
  intro ρ key T S K a I w ds Q h bw hd hs hQ hG hl;exact wp_label (hQ _ _ _ ⟨T,S,I,bw,hd,a7.le_refl I,hs,cE.refl w,h⟩)
 |goto l=>
  intro ρ key T S K a I w ds Q h bw hd hs hQ hG hl;simp only[eP]at h;split at h
  ·rename_i r hr
   exact wp_goto ((hG l r hr).2 a w (hQ _ _ _ ⟨T,S,I,bw,hd,a7.le_refl I,hs,cE.refl w,h⟩))
  ·exact h.elim
 |_=>intro ρ key T S K a I w ds Q h;exact h.elim
theorem ahR(hm:P.follows .mixedOrders=true){f:FuncId}{fn n5:Func}{c:Code}{C:aR}(hf:P.funcs[f]?=some fn)(hb:fn.body=some c)(hN:fn.ntmps=N)(hl:∀x,(C.args x).length<=N)
  (ai2:ot c=true) (mI:iN n5=eP (fun _=>none) c) (vS:n5.results=fn.results) (H:C.X->ai->kj) (rh:List LH) (lv:C.X->List (Nat×Value)) (RW:∀x,lv x≠[])
  (h:∀x F,C.cond x->C.aQ x F->su P N n5 (H x F) rh (iN n5) (oS (C.args x)) (bD (C.pre x++[F])) (lv x) (aq C x F)):lB P f C:=by
 refine⟨fun x F I w hc hr hs=>?_⟩;have zz:=h x F hc hr;rw[mI]at zz;refine calls_of_wp hf hb ?_;rw[hN];refine acX hm (H x F) c zz (Is (C.args x) (hl x)) rfl hs (fun e a w' bN=>?_) (fun l r hr=>by cases hr) ai2;obtain⟨T,S',J,h1,h2,h3,h4,h5,h6⟩:=bN;have td:kK n5 T=kK fn T:=by unfold kK;rw[vS]
 have out:∀(en:Ending)(vf:World),vf=w'->aq C x F en S'->∃y J,C.cd x y/\en=C.val x y/\a7.le I J/\Sat J (bD (C.post x y++[F])) vf/\cE w vf:=by
  rintro en vf rfl ⟨y,bw,rfl,jW⟩;obtain⟨J',xK,dD⟩:=jW.h J vf h4;exact⟨y,J',bw,rfl,a7.le_trans h3 xK,dD,h5⟩
 have fin:rd P S' (kK n5 T) rh (fun v=>aq C x F (.returned v) S')->a.defers=[]/\∃v,(results fn a.tmps).run P w'= .ok v w'/\∃y J,C.cd x y/\returned v=C.val x y/\a7.le I J/\Sat J (bD (C.post x y++[F])) w'/\cE w w':=fun h6=>by
  rw[td]at h6;obtain⟨v,cm,hR⟩:=yC h4 _ _ _ h6;exact⟨h2,v,by rw[Fe h1];omega,out _ _ rfl hR⟩
 cases e with
 |normal=>
  cases ta:lv x with
  |nil=>exact absurd ta (RW x)
  |cons u l=>rw[ta]at h6;exact fin h6
 |ret=>exact fin h6
 |panic ch=>exact⟨h2,out _ _ rfl h6.2⟩
 |_=>exact h6.elim
end
end
end Go.Proofs.YtdkchodgklpomaaGreatDoor
