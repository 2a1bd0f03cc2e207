/- Part of the proof that ParseShape answers true at every input. -/
import Derived.Test.YtdkchodgklpomaaGreatDoorPSam
set_option linter.all false
namespace Go.Proofs.YtdkchodgklpomaaGreatDoor
set_option maxRecDepth 100000
open Go.Value (int slice string bool pointer agg tuple func float iface nilIface)
open Go.IntKind (i64 u8 u64 i32 u32 u16 i8 i16)
open Go.FloatKind (f64)
open Go.Ending (returned panicked)
section
open Go
variable{K:cj}{os:List Int}{bF:List Nat}{n:Nat}{s:aw}{x:co}{S:St}{tag:ar}{α:Type}
theorem eZ{β γ:Type}{m:PM α}{f:α->PM β}{g:β->PM γ}:((m>>=f)>>=g) s=(m>>=fun a=>f a>>=g) s:=by
 show cq (cq m f) g s=cq m (fun a=>cq (f a) g) s;unfold cq;cases m s <;> rfl
theorem abb{f:Nat}(h:f<=n)(ho:bo K x f tag s≠.out):bo K x n tag s=bo K x f tag s:=by
 rcases Xt (L:=x.L) (fin:=x.fin) (aL:=K.tv) (wide:=br) h tag s with e|e
 ·exact absurd e ho
 ·exact e
theorem Rn.up{f:Nat}{kk:Int->aw->PR α}{r:PR α}(h:Rn (bo K x f tag s) kk r)(hf:f<=n):Rn (bo K x n tag s) kk r:=by
 have e:bo K x n tag s=bo K x f tag s:=abb hf h.o;rw[e];exact h
theorem xZ(k:Int):∀u∈bC [k],u.oneCell'=true:=by
 intro u hu;have:u= .int .i64 k:=by simpa[bC]using hu
 subst this;rfl
theorem yH{ks:List Int}{r:Row}(h:bv 3 1 (bC ks) r)(hn:ks.length<=4194304):(r.n+1)*8<=140737488355328:=by
 have:=h.len;rw[D6]at this;omega
theorem yI{ks:List Int}{r:Row}(h:bv 3 1 (bC ks) r)(hn:ks.length<=4194304):r.n+1<=9223372036854775807:=by
 have:=h.len;rw[D6]at this;omega
theorem yN{b:Nat}{ks:List Int}(j:Nat)(e:gt S j= .cells b (bC ks) 3)(hj:j∉bF:=by simp):∀a,(some ⟨b,0,none⟩:Option Addr)=some a->da (.dv (rest S bF)) a (bC ks):=fun a ha=>by
 cases ha;refine da.rest hj ?_;rw[e];exact da.cells (fun j u hj=>by rw[jk];exact hj)
theorem mz{o:Oper}{lb:Nat}{rr:Row}{ks:List Int}{k:Int}{aa:List Value}{pp:List ai}{k0:qX->Row->Prop}(j:Nat)(bB:bv 3 1 (bC ks) rr)(hn:ks.length<=4194304)
  (xx:∀r2,bv 3 1 (bC (ks++[k])) r2->k0 ⟨rr,bC ks,some ⟨lb,0,none⟩,1,1,bC [k]⟩ r2)
  (h:fj Tryz.prog o (dt 3 1 8):=by exact kP 1 8 rfl rfl rfl rfl rfl rfl rfl (by decide)) (ha:aa=[.slice rr.a rr.n rr.cap,.slice (some ⟨lb,0,none⟩) 1 1]:=by exact rfl) (hp:pp=[rr.A]:=by exact rfl)
  (e:gt S j= .cells lb (bC [k]) 3:=by exact rfl) (hj:j∉bF:=by simp):
  fj Tryz.prog o (dt 3 1 8)/\true=true/\∃z:qX,aa=[.slice z.r.a z.r.n z.r.cap,.slice z.a z.m z.c]/\pp=[z.r.A]/\
   (bv 3 1 z.cs z.r/\z.ys.length=z.m*1/\(∀u:Value,u∈z.ys->u.oneCell'=true)/\(z.r.n+z.m)*8<=140737488355328/\z.r.n+z.m<=9223372036854775807/\(z.a=none->z.m=0/\z.c=0))/\
   (∀a:Addr,z.a=some a->da (.dv (rest S bF)) a z.ys)/\∀y:Row,(bv 3 1 (z.cs++z.ys) y/\y.n=z.r.n+z.m/\(z.m=0->y=z.r))->k0 z y:=
 ⟨h,rfl,⟨rr,bC ks,some ⟨lb,0,none⟩,1,1,bC [k]⟩,ha,hp,⟨bB,rfl,xZ _,yH bB hn,yI bB hn,fun h=>nomatch h⟩,yN j e hj,fun r2 h2=>xx r2 (by rw[xY];exact h2.1)⟩
theorem Z4(n:Nat):(uH n).length=n:=by unfold uH;simp
theorem bX.len{fin:Int}(h:bX fin s os):os.length<=s.nodes.length:=by
 have:=h.wh.length_eq;rw[Z4,gi]at this;omega
theorem ra{ks:List Int}(h:PG x s (os++ks))(hl:x.L.length<=1048576):ks.length<=2097152:=by
 have h1:=h.fo.len;have h2:=h.cap hl;rw[gi]at h1;omega
structure pz where
 t:aw
 ks:List Int
 r:Row
 f:Nat
 c:Nat
def nq(c:Nat)(kind:Int)(op:ByteArray)(num:Nat)(r:Row)(pos:Int):ai:=.cells c [.int .i64 kind,.string op,.float .f64 num,.slice r.a r.n r.cap,.int .i64 pos] 35
def j9(x:bg Bool):Option Addr:=some ⟨x.x.b,0,none⟩
def u4(d:pz):Option Addr:=some ⟨d.c,0,none⟩
def amg(x:bg Bool)(F:ai):Nat->Option Inv:=fun
 |0=>some {X:=pz,P:=fun d=>PG x.x d.t (x.os++d.ks)/\bv 3 1 (bC d.ks) d.r/\d.f<=x.n/\(P x.x.L x.x.fin x.K.tv br d.f (.jR d.ks x.t)>>=fun aF=>bM ⟨23,.empty,0,aF,(aI x.x.L x.x.fin x.s).pos⟩) d.t=bo x.K x.x (x.n+1) (.block x.t) x.s,mu:=fun d=>d.f,lv:=fun d=>[(0,ah (j9 x)),(1,ak x.t),(5,ah (u4 d))],st:=fun d=>[al x.x d.t,F,(nq d.c 23 .empty 0 d.r (aI x.x.L x.x.fin x.s).pos),d.r.A]}
 |_=>none
def amh(x:bg Bool)(_F:ai):List (Nat×Nat×OH):=[(1,1,aX jm),(1,4,.n 2040),(1,5,.w (eF 2040)),(2,1,bq jd),(3,1,bq ja),(4,1,aT 2),(4,4,bq (cG x.n 17)),(4,5,.n 5050),(4,6,.o (dt 3 1 8) [3] [3]),(4,8,.w [.z00 2]),(5,1,.q (eF 2)),(5,2,.c fR [0,3] [0])]
def Mw(p:c8):List Value:=[ae 23,aj ⟨#[]⟩,float f64 0,au none 0 0,ae (cu p.L p.fin p.i).pos]
def NT(x:bg Bool)(b:pz):=PG x.x b.t (x.os++b.ks)/\bv 3 1 (bC b.ks) b.r/\b.f<=x.n/\(P x.x.L x.x.fin x.K.tv br b.f (ar.jR b.ks x.t)>>=fun(a:List Int)=>bM ⟨(23:Int),ByteArray.empty,0,a,(aI x.x.L x.x.fin x.s).pos⟩) b.t=bo x.K x.x (x.n+1) (ar.block x.t) x.s
def Cx(b:pz)(x:bg Bool):List Value:=[ae 23,aj ByteArray.empty,float f64 0,au b.r.a b.r.n b.r.cap,ae (aI x.x.L x.x.fin x.s).pos]
def Nn(x:bg Bool)(b:pz)(F:ai):=[(0,al x.x b.t),(1,F),(2,ag b.c (Cx b x) 35),(3,b.r.A)]
def fQ(oo:Oper)(aa:List Value)(pp:List ai)(rr:ai)(k0:qX->Row->Prop):=fj Tryz.prog oo (dt (3:TypeId) 1 8)/\true=true/\∃(z:qX),aa=(mg z)/\pp=[z.r.A]/\(bv 3 1 z.cs z.r/\z.ys.length=z.m*1/\(∀(w0:Value),w0∈z.ys->w0.oneCell'=true)/\(z.r.n+z.m)*8<=140737488355328/\z.r.n+z.m<=9223372036854775807/\(z.a=none->z.m=0/\z.c=0))/\(∀(w0:Addr),z.a=some w0->da rr w0 z.ys)/\∀(u0:Row),bv 3 1 (z.cs++z.ys) u0/\u0.n=z.r.n+z.m/\(z.m=0->u0=z.r)->k0 z u0
theorem amj(x:bg Bool)(F:ai)(hc:aR.cond (bk (fun(b:Bool)=>ar.block b)) x)(hr:aR.aQ (bk (fun(b:Bool)=>ar.block b)) x F):fm [ah (j9 x)] (aH [(0,al x.x x.s),(1,F)] []) (fun p o=>∀(n:Nat),cF n (gD [ah (j9 x),aj ⟨#[123]⟩] [al x.x x.s] (aH [(0,al x.x x.s),(1,F),(2040,ag n (Mw p) 35)] [0]) (fun m l=>(∃(b:pz),NT x b/\(ah (j9 x)=ah (j9 x)/\ak x.t=ak x.t/\ah (bJ n)=ah (u4 b)/\True)/\aD [(0,al m.x m.s.ay),(1,F),(2040,ag n (Mw p) 35)] (Nn x b F))/\aS fun(k:pz)_=>NT x k->fX [ah (j9 x),aj ⟨#[125]⟩] [al x.x k.t] (aH (Nn x k F) [0]) (fun i d=>cF k.c (dc [ah (j9 x),agg ⟨Cx k x⟩] [al i.x i.s.ay,k.r.A] (fun c b=>aq (bk fun(a:Bool)=>ar.block a) x F (fK c) [(0,al c.x (c.s.add c.n)),(1,F),(2,ag k.c (Cx k x) 35),(3,ba)]))) (fun i h=>true=true/\ax k.c 3/\cw x.n 17 [ah (j9 x),ak x.t] [al i.x i.s] (aH [(0,al i.x i.s),(1,F),(2,ag k.c (Cx k x) 35),(3,k.r.A)] [0]) (fun g f=>∀(e:Nat),fQ (a8 Tryz.f30 4 6) [au k.r.a k.r.n k.r.cap,au (bJ e) 1 1] [k.r.A] (aH [(0,al g.x f.snd),(1,F),(2,ag k.c (Cx k x) 35),(3,k.r.A),(5050,ag e (bU f) 3)] [3]) (fun d c=>ax k.c 3/\∃(b:pz),NT x b/\(ah (j9 x)=ah (j9 x)/\ak x.t=ak x.t/\ah (u4 k)=ah (u4 b)/\True)/\aD [(0,al g.x f.snd),(1,F),(2,ag k.c [ae 23,aj ByteArray.empty,float f64 0,au c.a c.n c.cap,ae (aI x.x.L x.x.fin x.s).pos] 35),(3,c.A),(5050,ag e (bU f) 3)] (Nn x b F)/\b.f<k.f)) (fun g c=>∀(b:Tm),aq (bk fun(a:Bool)=>ar.block a) x F (ci c) [(0,ba),(1,F),(2,ag k.c (Cx k x) 35),(3,k.r.A)]))) (fun m b=>aq (bk fun(a:Bool)=>ar.block a) x F (gO m) [(0,ba),(1,F),(2040,ag n (Mw p) 35)]))):=by
 delta je fm j9 j_ gD Mw NT bJ u4 Cx Nn fX lR lS dc lm fK cw mg fQ bU ci gO dK aH al ax cF ae aj ak ah au ag ba az aS;obtain⟨K,x,s,os,n,tp⟩:=x;obtain⟨ih,hK,hG,hp,dP,cJ,ho⟩:=hc;replace hr:cI K x F:=hr;replace ho:bo K x (n+1) (.block tp) s≠.out:=ho;dsimp only at ih hK hG hp dP cJ⊢;obtain⟨r,e0⟩:∃r,bo K x (n+1) (.block tp) s=r:=⟨_,rfl⟩;rw[e0]at ho;have hk:=e0;unfold bo at hk;rw[P]at hk;have hl:=hK.len;rw[pl]at hk;refine bp l9 (x.p s) hl (hr.ls.di 0 1 aM aM rfl rfl) fun _ _ c=>?_
 repeat (refine⟨ap,?_⟩)
 refine ma hG hk (fun hk g1=>?_);refine⟨⟨⟨s.ay,[],dF,n,c⟩,⟨g1.cast (dJ _).symm,.nil rfl,cr _,hk.trans e0.symm⟩,aV,aB [0,1,2040,999]⟩,?_⟩;clear hk;rintro⟨t,ks,r',f,c⟩ js ⟨g,bB,hf,hk⟩;dsimp only at g bB hf hk⊢;rw[e0]at hk;obtain _|f:=f
 ·exact absurd hk (fun e=>ho (e.symm.trans (by rw[P];rfl)))
 replace hf:f<=n:=Nat.le_of_succ_le hf;rw[P,eZ]at hk;refine bp kV ⟨x,t,rc⟩ ⟨hl,g.i⟩ (hr.ls.sub (b_ 1)) ⟨fun _ q=>?_,fun _ q=>?_⟩
 ·rw[ml q,bf,jf,jx]at hk;have g2:=g.is q
  repeat (refine⟨ap,?_⟩)
  refine bV fv ⟨x,t.ay,⟨23,.empty,0,ks,(aI x.L x.fin s).pos⟩,r'⟩ ⟨by have:=g2.cap hl;dsimp only[aw.ay,aw.add]at*;omega,bB⟩ fun _ _=>?_;exact eH (e0.trans hk.symm)
 rw[mW q,aU,eZ]at hk;refine⟨rfl,ap,?_⟩;refine ca g ((fL hk ho).up hf) (fun k t1 hk g1 gJ gL gH gK gF gS=>?_) (cL:=ao) (cC:=ao) (cU:=ao);dsimp only[ar.sl,aw.ay,aw.add]at gJ gL gH gK gF gS;intro lb;have n_:=ra g hl;refine mz (ks:=ks) (k:=k) 5050 bB af (fun r2 h2=>?_);exact⟨ap,⟨t1,ks++[k],r2,f,c⟩,⟨g1.cast (lI _ _ _),h2,hf,hk.trans e0.symm⟩,aV,aB [0,1,2,3],jj _⟩
theorem ami:aC 30 (bk (fun(b:Bool)=>ar.block b)):=fo 26 Tryz.func30 amh [] amg aY bz [] amj
structure Gf where
 t:aw
 ks:List Int
 r:Row
 f:Nat
 c:Nat
 d:Nat
 w:ByteArray
 kd:List Int
 rd:Row
 p:Int
def anL(x:bg Unit)(F:ai):Nat->Option Inv:=fun
 |0=>some {X:=pz,P:=fun d=>PG x.x d.t (x.os++d.ks)/\bv 3 1 (bC d.ks) d.r/\d.f<=x.n/\(P x.x.L x.x.fin x.K.tv br d.f (.gR d.ks)>>=fun aF=>bM ⟨21,.empty,0,aF,(aI x.x.L x.x.fin x.s).pos⟩) d.t=bo x.K x.x (x.n+1) .vars x.s,mu:=fun d=>d.f,lv:=fun d=>[(0,ah (cg x)),(3,ah (u4 d))],st:=fun d=>[al x.x d.t,F,(nq d.c 21 .empty 0 d.r (aI x.x.L x.x.fin x.s).pos),d.r.A]}
 |_=>none
def anK(x:bg Unit)(F:ai):Nat->Option Inv:=fun
 |7=>some {X:=Gf,gh:=some ⟨Nat,fun d=>d.f⟩,P:=fun d=>PG x.x d.t (x.os++d.ks++d.kd)/\bv 3 1 (bC d.ks) d.r/\bv 3 1 (bC d.kd) d.rd/\d.f<=x.n/\(0<=d.p/\d.p<=x.x.fin)/\d.t.nodes.length+1<=2*d.t.i/\((eK ⟨22,d.w,0,d.kd,d.p⟩>>=fun k=>eg x.x.L sG>>=fun h=>bif !h then ret (d.ks++[k]) else P x.x.L x.x.fin x.K.tv br d.f (.gR (d.ks++[k])))>>=fun aF=>bM ⟨21,.empty,0,aF,(aI x.x.L x.x.fin x.s).pos⟩) d.t=bo x.K x.x (x.n+1) .vars x.s,mu:=fun _=>0,lv:=fun d=>[(0,.pointer (some ⟨x.x.b,0,none⟩)),(3,.pointer (some ⟨d.c,0,none⟩)),(4,.pointer (some ⟨d.d,0,none⟩))],st:=fun d=>[al x.x d.t,F,nq d.c 21 .empty 0 d.r (aI x.x.L x.x.fin x.s).pos,d.r.A,nq d.d 22 d.w 0 d.rd d.p,d.rd.A]}
 |_=>none
def anM(x:bg Unit)(_F:ai):List (Nat×Nat×OH):=[(1,1,aX jm),(1,4,.n 2040),(1,5,.w (eF 2040)),(2,3,dm),(2,7,dO fS),(3,1,aX jm),(3,4,.n 4040),(3,5,.w (eF 4040)),(4,1,bq wS),(4,3,.w [.z00 4040]),(5,1,bq ja),(6,1,bq (cG x.n 14)),(6,2,.n 7020),(6,4,.w [.z00 4040]),
 (7,1,aT 2),(7,3,.q (eF 4)),(7,4,.c fR [0,5] [0]),(7,5,.n 8050),(7,6,.o (dt 3 1 8) [3] [3]),(7,8,.w [.z00 2]),(8,1,bq ja),(9,1,.q (eF 2)),(9,2,.c fR [0,3] [0])]
def NU(x:bg Unit)(b:pz):=PG x.x b.t (x.os++b.ks)/\bv 3 1 (bC b.ks) b.r/\b.f<=x.n/\(P x.x.L x.x.fin x.K.tv br b.f (ar.gR b.ks)>>=fun(a:List Int)=>bM ⟨(21:Int),ByteArray.empty,0,a,(aI x.x.L x.x.fin x.s).pos⟩) b.t=bo x.K x.x (x.n+1) ar.vars x.s
def yp(b:pz)(x:bg Unit):List Value:=[ae 21,aj ByteArray.empty,float f64 0,au b.r.a b.r.n b.r.cap,ae (aI x.x.L x.x.fin x.s).pos]
def Nm(x:bg Unit)(b:pz)(F:ai):=[(0,al x.x b.t),(1,F),(2,ag b.c (yp b x) 35),(3,b.r.A)]
def A8(aa:List Value)(pp:List ai)(rr:ai)(k0:kN->Unit->Prop)(k1:kN->Unit->Prop):=aC 65 wS/\true=true/\∃(z:kN),aa=(nC z)/\pp=[al z.x z.s]/\z.x.L.length<=1048576/\fW z.x rr/\(∀(u0:Unit),(aI z.x.L z.x.fin z.s).kind=1->k0 z u0)/\∀(u1:Unit),((aI z.x.L z.x.fin z.s).kind=1->False)->k1 z u1
def U7(t:c8):List Value:=[ae 22,aj ⟨#[]⟩,float f64 0,au none 0 0,ae (cu t.L t.fin t.i).pos]
def Hu(q:kN)(t:c8):List Value:=[ae 22,aj (aI q.x.L q.x.fin q.s).text,float f64 0,au none 0 0,ae (cu t.L t.fin t.i).pos]
def U_(z:Gf)(e0:bg Unit):List Value:=[ae 21,aj ByteArray.empty,float f64 0,au z.r.a z.r.n z.r.cap,ae (aI e0.x.L e0.x.fin e0.s).pos]
def Cb(z:Gf):List Value:=[ae 22,aj z.w,float f64 0,au z.rd.a z.rd.n z.rd.cap,ae z.p]
def PQ(e0:bg Unit)(e1:Nat)(e2:ai)(v0 v1:Value)(ss:St):=∃(z:Gf),((PG e0.x z.t (e0.os++z.ks++z.kd)/\bv 3 1 (bC z.ks) z.r/\bv 3 1 (bC z.kd) z.rd/\z.f<=e0.n/\(0<=z.p/\z.p<=e0.x.fin)/\z.t.nodes.length+1<=2*z.t.i/\((do let k <-eK ⟨(22:Int),z.w,0,z.kd,z.p⟩ let h <-eg e0.x.L sG bif !h then ret (z.ks++[k]) else P e0.x.L e0.x.fin e0.K.tv br z.f (ar.gR (z.ks++[k])))>>=fun(w0:List Int)=>bM ⟨(21:Int),ByteArray.empty,0,w0,(aI e0.x.L e0.x.fin e0.s).pos⟩) z.t=bo e0.K e0.x (e0.n+1) ar.vars e0.s)/\z.f=e1)/\(ah (cg e0)=ah (cg e0)/\v0=ah (some ⟨z.c,0,none⟩)/\v1=ah (some ⟨z.d,0,none⟩)/\True)/\aD ss [(0,al e0.x z.t),(1,e2),(2,ag z.c (U_ z e0) 35),(3,z.r.A),(4,ag z.d (Cb z) 35),(5,z.rd.A)]
def qF(l:qc):List Value:=[ae ↑l.s.nodes.length]
def Hv(f:Row)(x:bg Unit):List Value:=[ae 21,aj ByteArray.empty,float f64 0,au f.a f.n f.cap,ae (aI x.x.L x.x.fin x.s).pos]
def Cq(q:kN):=dK (aI q.x.L q.x.fin q.s).pos 60
theorem anO(x:bg Unit)(F:ai)(hc:aR.cond (bk (fun(_:Unit)=>ar.vars)) x)(hr:aR.aQ (bk (fun(_:Unit)=>ar.vars)) x F):fm (eb x) (aH [(0,al x.x x.s),(1,F)] []) (fun C B=>∀(A:Nat),cF A (T1 (al x.x x.s) ⟨x.x.b,1,none⟩ (fun z=>dw z/\dI (a8 Tryz.f41 2 7) (pd x z) [al x.x x.s] (fun y w=>(∃(b:pz),NU x b/\(ah (cg x)=ah (cg x)/\ah (bJ A)=ah (u4 b)/\True)/\aD [(0,al y.x y.t),(1,F),(2040,ag A [ae 21,aj ⟨#[]⟩,float f64 0,au none 0 0,ae (cu C.L C.fin C.i).pos] 35)] (Nm x b F))/\aS fun(v:pz)_=>NU x v->fm (eb x) (aH (Nm x v F) []) (fun t s=>∀(r:Nat),cF r (A8 (eb x) [al x.x v.t] (aH [(0,al x.x v.t),(1,F),(2,ag v.c (yp v x) 35),(3,v.r.A),(4040,ag r (U7 t) 35)] [0]) (fun q p=>ax r 1/\∃(o:Nat),fX [ah (cg x),aj ⟨#[61]⟩] [al q.x q.s.ay] (aH [(0,al q.x q.s.ay),(1,F),(2,ag v.c (yp v x) 35),(3,v.r.A),(4040,ag r (Hu q t) 35)] [0]) (fun g f=>cw x.n 14 (eb x) [al g.x g.s.ay] (aH [(0,al g.x g.s.ay),(1,F),(2,ag v.c (yp v x) 35),(3,v.r.A),(4040,ag r (Hu q t) 35)] [0]) (fun e d=>∀(c:Nat),ax r 3/\PQ x o F (ah (u4 v)) (cW r) [(0,al e.x d.snd),(1,F),(2,ag v.c (yp v x) 35),(3,v.r.A),(4040,ag r [ae 22,aj (aI q.x.L q.x.fin q.s).text,float f64 0,au (bJ c) 1 1,ae (cu t.L t.fin t.i).pos] 35),(7020,ag c (bU d) 3)]) (fun e b=>aq (bk fun(a:Unit)=>ar.vars) x F (ci b) [(0,ba),(1,F),(2,ag v.c (yp v x) 35),(3,v.r.A),(4040,ag r (Hu q t) 35)])) (fun g c=>PQ x o F (ah (u4 v)) (cW r) [(0,al g.x g.s),(1,F),(2,ag v.c (yp v x) 35),(3,v.r.A),(4040,ag r (Hu q t) 35)])/\aS fun(n:Gf)_=>((PG x.x n.t (x.os++n.ks++n.kd)/\bv 3 1 (bC n.ks) n.r/\bv 3 1 (bC n.kd) n.rd/\n.f<=x.n/\(0<=n.p/\n.p<=x.x.fin)/\n.t.nodes.length+1<=2*n.t.i/\((do let k <-eK ⟨(22:Int),n.w,0,n.kd,n.p⟩ let h <-eg x.x.L sG bif !h then ret (n.ks++[k]) else P x.x.L x.x.fin x.K.tv br n.f (ar.gR (n.ks++[k])))>>=fun(a:List Int)=>bM ⟨(21:Int),ByteArray.empty,0,a,(aI x.x.L x.x.fin x.s).pos⟩) n.t=bo x.K x.x (x.n+1) ar.vars x.s)/\n.f=o)->true=true/\ax n.c 3/\cF n.d (dc [ah (cg x),agg ⟨Cb n⟩] [al x.x n.t,n.rd.A] (fun l j=>∀(i:Nat),fQ (a8 Tryz.f41 7 6) [au n.r.a n.r.n n.r.cap,au (bJ i) 1 1] [n.r.A] (aH [(0,al l.x (l.s.add l.n)),(1,F),(2,ag n.c (U_ n x) 35),(3,n.r.A),(4,ag n.d (Cb n) 35),(5,ba),(8050,ag i (qF l) 3)] [3]) (fun g f=>ax n.c 3/\fX [ah (cg x),aj ⟨#[44]⟩] [al l.x (l.s.add l.n)] (aH [(0,al l.x (l.s.add l.n)),(1,F),(2,ag n.c (Hv f x) 35),(3,f.A),(4,ag n.d (Cb n) 35),(5,ba),(8050,ag i (qF l) 3)] [0]) (fun e c=>∃(b:pz),NU x b/\(ah (cg x)=ah (cg x)/\ah (some ⟨n.c,0,none⟩)=ah (u4 b)/\True)/\aD [(0,al e.x e.s.ay),(1,F),(2,ag n.c (Hv f x) 35),(3,f.A),(4,ag n.d (Cb n) 35),(5,ba),(8050,ag i (qF l) 3)] (Nm x b F)/\b.f<v.f) (fun e d=>cF n.c (dc [ah (cg x),agg ⟨Hv f x⟩] [al e.x e.s,f.A] (fun c b=>aq (bk fun(a:Unit)=>ar.vars) x F (fK c) [(0,al c.x (c.s.add c.n)),(1,F),(2,ag n.c (Hv f x) 35),(3,ba),(4,ag n.d (Cb n) 35),(5,ba),(8050,ag i (qF l) 3)]))))))) (fun q b=>aq (bk fun(a:Unit)=>ar.vars) x F (Cq q) [(0,ba),(1,F),(2,ag v.c (yp v x) 35),(3,v.r.A),(4040,ag r (U7 t) 35)]))))))):=by
 delta je fm cg eb T1 dw mT mU dI pd NU bJ u4 yp Nm oA nC A8 U7 j_ fX Hu cw U_ Cb PQ cW bU ci lR lS dc mg fQ qF Hv lm fK Cq dK aH al ax cF ae aj ah au ag ba az aS;obtain⟨K,x,s,os,n,tp⟩:=x;obtain⟨ih,hK,hG,hp,dP,cJ,ho⟩:=hc;replace hr:cI K x F:=hr;replace ho:bo K x (n+1) .vars s≠.out:=ho;dsimp only at ih hK hG hp dP cJ⊢;obtain⟨r,e0⟩:∃r,bo K x (n+1) .vars s=r:=⟨_,rfl⟩;rw[e0]at ho;have hk:=e0;unfold bo at hk;rw[P]at hk;have hl:=hK.len;have dP:s.i<x.L.length:=dP;rw[pl,mn]at hk;refine bp l9 (x.p s) hl (hr.ls.di 0 1 aM aM rfl rfl) fun _ _ c=>?_
 repeat (refine⟨ap,?_⟩)
 refine⟨_,d_ fun _=>rfl,oZ (i:=s.i) (i_ hG.i hl),gQ rfl rfl rfl,rfl,⟨x,s,s.ay,1,_⟩,rfl,rfl,⟨fun _=>rfl,rfl,bd,rfl,rfl⟩,ao,fun _ _=>?_⟩;have g1:=hG.step dP;refine⟨⟨⟨s.ay,[],dF,n,c⟩,⟨g1.cast (dJ _).symm,.nil rfl,cr _,hk.trans e0.symm⟩,aV,aB [0,1,2040,999]⟩,?_⟩;clear hk;rintro⟨t,ks,r',f,c⟩ js ⟨g,bB,hf,hk⟩;dsimp only at g bB hf hk⊢;rw[e0]at hk;obtain _|f:=f
 ·exact absurd hk (fun e=>ho (e.symm.trans (by rw[P];rfl)))
 replace hf:f<=n:=Nat.le_of_succ_le hf;rw[P,eZ]at hk;rw[pl,eZ]at hk;refine bp l9 (x.p t) hl (hr.ls.di 0 1 aM aM rfl rfl) fun _ _ d=>?_
 repeat (refine⟨ap,?_⟩)
 refine bp Ox ⟨x,t⟩ hl (hr.ls.sub (b_ 1)) ⟨fun _ q=>?_,fun _ q=>⟨.inr (_,_),⟨_,e0.trans (hk.symm.trans (Of q))⟩,rfl,aB [1]⟩⟩;rw[Og q,eZ]at hk;have hi:t.i<x.L.length:=xG (fin:=x.fin) (fun e=>by rw[e]at q;cases q);have g2:=g.step hi;have iE:=w9 hK t;have vP:t.nodes.length<=2*t.i:=g.nd;refine⟨ap,f,?_,?_⟩
 ·skip
  refine bp kV ⟨x,t.ay,eq⟩ ⟨hl,g2.i⟩ (hr.ls.sub (b_ 1)) ⟨fun _ q=>?_,fun _ q=>?_⟩
  ·have g3:=g2.is q;rw[ml q,bf,eZ]at hk;refine ca g3 ((CF hk ho).up hf) (fun k t1 hk g4 G6 Hf Gy Hd Gm IV=>?_) (cL:=ao) (cC:=ao) (cU:=ao);dsimp only[ar.sl,aw.ay,aw.add]at G6 Hf Gy Hd Gm IV;intro lb;exact⟨ap,⟨t1,ks,r',f,c,d,(aI x.L x.fin t).text,[k],mc lb [k],(aI x.L x.fin t).pos⟩,⟨⟨g4,bB,kC lb [k],hf,iE,bd,hk.trans e0.symm⟩,rfl⟩,aV,aB [0,1,2,3,4040,7020]⟩
  ·rw[mW q,aU,eZ,jf]at hk;exact⟨⟨t.ay,ks,r',f,c,d,(aI x.L x.fin t).text,[],dF,(aI x.L x.fin t).pos⟩,⟨⟨g2.cast (dJ _).symm,bB,.nil rfl,hf,iE,by dsimp only[aw.ay];omega,hk.trans e0.symm⟩,rfl⟩,aV,aB [0,1,2,3,4040,999]⟩
 clear hk q hi g2 iE vP hf bB g;rintro⟨t,ks,r',f',c,d,w,kd,rd,p⟩ js ⟨⟨g,bB,oX,hf,iE,vP,hk⟩,e1⟩;have e1:f'=f:=e1;subst e1;dsimp only at g bB oX hf iE vP hk⊢;rw[e0,eZ,AG,eZ]at hk;refine⟨rfl,ap,?_⟩
 repeat (refine⟨ap,?_⟩)
 have g3:=PG.node (n:=⟨22,w,0,kd,p⟩) g iE vP;refine bV fv ⟨x,t,⟨22,w,0,kd,p⟩,rd⟩ ⟨by have:=g.cap hl;dsimp only[aw.ay,aw.add]at*;omega,oX⟩ fun _ _=>?_;intro lb;have n_:=ra (os:=os) (ks:=ks++kd) (g.cast (lI _ _ _)) hl;rw[gi]at n_;refine mz (ks:=ks) (k:=(t.nodes.length:Int)) 8050 bB af (fun r2 h2=>?_);refine⟨ap,?_⟩;refine bp kV ⟨x,t.add ⟨22,w,0,kd,p⟩,sG⟩ ⟨hl,g3.i⟩ (hr.ls.sub (b_ 1)) ⟨fun _ q=>?_,fun _ q=>?_⟩
 ·rw[ml q]at hk;simp only[Bool.not_true,aU]at hk;have g4:=g3.is q;exact⟨⟨_,_,r2,_,c⟩,⟨g4.cast (lI _ _ _),h2,hf,hk.trans e0.symm⟩,aV,aB [0,1,2,3],jj _⟩
 ·rw[mW q]at hk;simp only[Bool.not_false,bf,jf,jx]at hk
  repeat (refine⟨ap,?_⟩)
  refine bV fv ⟨x,t.add ⟨22,w,0,kd,p⟩,⟨21,.empty,0,ks++[(t.nodes.length:Int)],(aI x.L x.fin s).pos⟩,r2⟩ ⟨by have:=g3.cap hl;dsimp only[aw.ay,aw.add]at*;omega,h2⟩ fun _ _=>?_;exact eH (e0.trans hk.symm)
theorem anN:aC 41 (bk (fun(_:Unit)=>ar.vars)):=fo 43 Tryz.func41 anM [] anL anK bz [] anO
end
section
open Go
def DP(L:List bA)(fin:Int)(tv:Nat->ByteArray)(n:Nat)(kind:Int)(op:ByteArray)(pos:Int)(ps:List Int):PM (List Int):=do
 let s <-ie
 lV {s with bQ:=s.bQ+1,loops:=0,bI:=0}
 let b <-one (P L fin tv br n (.block true))
 let t <-ie
 lV {t with bQ:=t.bQ-1,loops:=s.loops,bI:=s.bI}
 bM ⟨kind,op,0,ps++[b],pos⟩
def Rl(L:List bA)(fin:Int)(tv:Nat->ByteArray)(n:Nat)(kind:Int)(op:ByteArray)(pos:Int):PM (List Int):=do
 dn L fin lp
 let ps <-P L fin tv br n (.gk [])
 DP L fin tv n kind op pos ps
def Rm(L:List bA)(fin:Int)(tv:Nat->ByteArray)(f:Nat)(ks:List Int):PM (List Int):=do
 let x <-ig L fin
 let w <-ly L fin
 let k <-eK ⟨3,w,0,[],x.pos⟩
 P L fin tv br f (.gk (ks++[k]))
structure l4 where
 t:aw
 op:ByteArray
 ks:List Int
 r:Row
 f:Nat
 c:Nat
def l4.ok(d:l4)(x:co)(s:aw)(os:List Int)(n:Nat):Prop:=PG x d.t (os++d.ks)/\bv 3 1 (bC d.ks) d.r/\d.f<=n/\s.i+1<=d.t.i/\d.t.bQ=s.bQ/\d.t.loops=s.loops/\d.t.bI=s.bI
def cD(x:bg Int):Option Addr:=some ⟨x.x.b,0,none⟩
def tz(d:l4):Option Addr:=some ⟨d.c,0,none⟩
def amz(x:bg Int)(F:ai):Nat->Option Inv:=fun
 |0=>some {X:=l4,P:=fun d=>d.ok x.x x.s x.os x.n/\(P x.x.L x.x.fin x.K.tv br d.f (.gk d.ks)>>=DP x.x.L x.x.fin x.K.tv x.n x.t d.op (aI x.x.L x.x.fin x.s).pos) d.t=bo x.K x.x (x.n+1) (.func x.t) x.s,mu:=fun d=>d.f,lv:=fun d=>[(0,ah (cD x)),(5,ah (tz d))],st:=fun d=>[al x.x d.t,F,(nq d.c x.t d.op 0 d.r (aI x.x.L x.x.fin x.s).pos),d.r.A]}
 |_=>none
def amy(x:bg Int)(F:ai):Nat->Option Inv:=fun
 |5=>some {X:=l4,P:=fun d=>d.ok x.x x.s x.os x.n/\d.ks=[]/\Rl x.x.L x.x.fin x.K.tv x.n x.t d.op (aI x.x.L x.x.fin x.s).pos d.t=bo x.K x.x (x.n+1) (.func x.t) x.s,mu:=fun _=>0,lv:=fun d=>[(0,ah (cD x)),(5,ah (tz d))],st:=fun d=>[al x.x d.t,F,(nq d.c x.t d.op 0 d.r (aI x.x.L x.x.fin x.s).pos),d.r.A]}
 |9=>some {X:=l4,gh:=some ⟨Nat,fun d=>d.f⟩,P:=fun d=>d.ok x.x x.s x.os x.n/\(Rm x.x.L x.x.fin x.K.tv d.f d.ks>>=DP x.x.L x.x.fin x.K.tv x.n x.t d.op (aI x.x.L x.x.fin x.s).pos) d.t=bo x.K x.x (x.n+1) (.func x.t) x.s,mu:=fun _=>0,lv:=fun d=>[(0,ah (cD x)),(5,ah (tz d))],st:=fun d=>[al x.x d.t,F,(nq d.c x.t d.op 0 d.r (aI x.x.L x.x.fin x.s).pos),d.r.A]}
 |_=>none
def amB(x:bg Int)(_F:ai):List (Nat×Nat×OH):=[(1,2,aX jm),(1,5,.n 2050),(1,6,.w (eF 2050)),(2,3,dm),(2,7,dO fS),(3,4,aX zK),(4,1,bq wS),(4,3,.w [.z00 2050]),(5,1,bq jd),
 (6,1,bq ja),(7,1,aT 2),(8,1,bq jd),(9,1,aX jm),(10,1,aT 2),(10,4,bq wS),(10,7,.c fR [0,999] [0]),(10,8,.n 11080),(10,9,.o (dt 3 1 8) [3] [3]),(10,11,.w [.z00 2]),
 (11,3,dm),(11,7,dm),(12,6,dm),(12,10,dO fS),(12,13,dO fS),(12,16,dO fS),(13,1,aT 2),(13,3,bq (cG x.n 30)),(13,4,.n 14040),(13,5,.o (dt 3 1 8) [3] [3]),(13,7,.w [.z00 2]),
 (14,6,dm),(14,12,dO fS),(14,15,dO fS),(14,18,dO fS),(15,1,.q (eF 2)),(15,2,.c fR [0,3] [0])]
def amA:Nat->List Nat:=fun r=>if r=10 then [0,1,2,3,5,4,6,7,8,9,10,11] else []
def kJ(x:bg Int):List Value:=[ah (cD x)]
def Hz(x:bg Int)(N:c8):List Value:=[ae x.t,aj ⟨#[]⟩,float f64 0,au none 0 0,ae (cu N.L N.fin N.i).pos]
def Ui(z:l4)(e0:bg Int):=z.ok e0.x e0.s e0.os e0.n/\z.ks=[]/\Rl e0.x.L e0.x.fin e0.K.tv e0.n e0.t z.op (aI e0.x.L e0.x.fin e0.s).pos z.t=bo e0.K e0.x (e0.n+1) (ar.func e0.t) e0.s
def wo(e0:bg Int)(z:l4):List Value:=[ae e0.t,aj z.op,float f64 0,au z.r.a z.r.n z.r.cap,ae (aI e0.x.L e0.x.fin e0.s).pos]
def yf(e0:bg Int)(z:l4)(e1:ai):=[(0,al e0.x z.t),(1,e1),(2,ag z.c (wo e0 z) 35),(3,z.r.A)]
def PS(e0:bg Int)(e1:ai)(v0:Value)(ss:St):=∃(z:l4),Ui z e0/\(ah (cD e0)=ah (cD e0)/\v0=ah (tz z)/\True)/\aD ss (yf e0 z e1)
def Wr(x:bg Int)(J:vq)(F:ai)(L:Nat)(N:c8):=A8 (kJ x) [al J.x J.t] (aH [(0,al J.x J.t),(1,F),(2050,ag L (Hz x N) 35)] [0]) (fun c b=>ax L 1/\PS x F (cW L) [(0,al c.x c.s.ay),(1,F),(2050,ag L [ae x.t,aj (aI c.x.L c.x.fin c.s).text,float f64 0,au none 0 0,ae (cu N.L N.fin N.i).pos] 35)]) (fun c b=>aq (bk fun(a:Int)=>ar.func a) x F (Cq c) [(0,ba),(1,F),(2050,ag L (Hz x N) 35)])
def JB(aa:List Value)(rr:ai)(k0:I6->Unit->Prop):=aC 66 zK/\true=true/\∃(z:I6),aa=[ah (some ⟨z.p.b,0,none⟩),ae ↑z.a]/\([]:List ai)=[]/\(z.p.L.length<=1048576/\z.p.i<=1048576/\z.a<=1048576)/\jD z.p rr/\∀(u0:Unit),True->k0 z u0
def LK(a:l4)(x:bg Int):=a.ok x.x x.s x.os x.n/\(P x.x.L x.x.fin x.K.tv br a.f (ar.gk a.ks)>>=DP x.x.L x.x.fin x.K.tv x.n x.t a.op (aI x.x.L x.x.fin x.s).pos) a.t=bo x.K x.x (x.n+1) (ar.func x.t) x.s
def Cu(x:bg Int):List Value:=[ah (cD x),aj ⟨#[41]⟩]
def MH(x:bg Int)(C:l4)(k:Row):List Value:=[ae x.t,aj C.op,float f64 0,au k.a k.n k.cap,ae (aI x.x.L x.x.fin x.s).pos]
def HW(F:ai)(C:l4)(x:bg Int):=[(0,ba),(1,F),(2,ag C.c (wo x C) 35),(3,C.r.A)]
def TN(z:l4)(e0:bg Int):=z.ok e0.x e0.s e0.os e0.n/\(Rm e0.x.L e0.x.fin e0.K.tv z.f z.ks>>=DP e0.x.L e0.x.fin e0.K.tv e0.n e0.t z.op (aI e0.x.L e0.x.fin e0.s).pos) z.t=bo e0.K e0.x (e0.n+1) (ar.func e0.t) e0.s
def PT(e0:bg Int)(e1:Nat)(e2:ai)(v0:Value)(ss:St):=∃(z:l4),(TN z e0/\z.f=e1)/\(ah (cD e0)=ah (cD e0)/\v0=ah (tz z)/\True)/\aD ss (yf e0 z e2)
theorem amD(x:bg Int)(F:ai)(hc:aR.cond (bk (fun(k:Int)=>ar.func k)) x)(hr:aR.aQ (bk (fun(k:Int)=>ar.func k)) x F):fm (kJ x) (aH [(0,al x.x x.s),(1,F)] []) (fun N M=>∀(L:Nat),cF L (T1 (al x.x x.s) ⟨x.x.b,1,none⟩ (fun K=>dw K/\dI (a8 Tryz.f43 2 7) [ah (some ⟨x.x.b,1,none⟩),ae (K+1)] [al x.x x.s] (fun J I=>Br (x.t==35) (Wr x J F L N) (JB [ah (cD x),ae 0] (aH [(0,al J.x J.t),(1,F),(2050,ag L (Hz x N) 35)] []) (fun e d=>Br (Ef e.p.L (e.p.i+e.a)) (Wr x J F L N) (PS x F (cW L) [(0,al J.x J.t),(1,F),(2050,ag L (Hz x N) 35)])))/\aS fun(H:l4)_=>Ui H x->gD [ah (cD x),aj ⟨#[40]⟩] [al x.x H.t] (aH (yf x H F) [0]) (fun E D=>(∃(a:l4),LK a x/\(ah (cD x)=ah (cD x)/\ah (tz H)=ah (tz a)/\True)/\aD [(0,al E.x E.s.ay),(1,F),(2,ag H.c (wo x H) 35),(3,H.r.A)] (yf x a F))/\aS fun(C:l4)_=>LK C x->fX (Cu x) [al x.x C.t] (aH (yf x C F) [0]) (fun A z=>true=true/\T1 (al A.x A.s.ay) ⟨x.x.b,5,none⟩ (fun y=>T1 (al A.x A.s.ay) ⟨x.x.b,6,none⟩ (fun w=>T1 (al A.x A.s.ay) ⟨x.x.b,4,none⟩ (fun v=>dw v/\dI (a8 Tryz.f43 12 10) [ah (some ⟨x.x.b,4,none⟩),ae (v+1)] [al A.x A.s.ay] (fun u t=>dI (a8 Tryz.f43 12 13) [ah (some ⟨x.x.b,5,none⟩),ae 0] [al u.x u.t] (fun s r=>dI (a8 Tryz.f43 12 16) [ah (some ⟨x.x.b,6,none⟩),ae 0] [al s.x s.t] (fun q p=>true=true/\ax C.c 3/\cw x.n 30 [ah (cD x),ak true] [al q.x q.t] (aH [(0,al q.x q.t),(1,F),(2,ag C.c (wo x C) 35),(3,C.r.A)] [0]) (fun o n=>∀(m:Nat),fQ (a8 Tryz.f43 13 5) [au C.r.a C.r.n C.r.cap,au (bJ m) 1 1] [C.r.A] (aH [(0,al o.x n.snd),(1,F),(2,ag C.c (wo x C) 35),(3,C.r.A),(14040,ag m (bU n) 3)] [3]) (fun l k=>ax C.c 3/\T1 (al o.x n.snd) ⟨x.x.b,4,none⟩ (fun j=>pY j/\dI (a8 Tryz.f43 14 12) [ah (some ⟨x.x.b,4,none⟩),ae (j-1)] [al o.x n.snd] (fun i h=>dI (a8 Tryz.f43 14 15) [ah (some ⟨x.x.b,5,none⟩),ae y] [al i.x i.t] (fun g f=>dI (a8 Tryz.f43 14 18) [ah (some ⟨x.x.b,6,none⟩),ae w] [al g.x g.t] (fun e d=>cF C.c (dc [ah (cD x),agg ⟨MH x C k⟩] [al e.x e.t,k.A] (fun c b=>aq (bk fun(a:Int)=>ar.func a) x F (fK c) [(0,al c.x (c.s.add c.n)),(1,F),(2,ag C.c (MH x C k) 35),(3,ba),(14040,ag m (bU n) 3)])))))))) (fun o c=>∀(b:Tm),aq (bk fun(a:Int)=>ar.func a) x F (ci c) (HW F C x))))))))) (fun A n=>∃(m:Nat),(ax C.c 3/\aP ((C.r.n:Int)>0) (gD [ah (cD x),aj ⟨#[44]⟩] [al A.x A.s] (aH [(0,al A.x A.s),(1,F),(2,ag C.c (wo x C) 35),(3,C.r.A)] [0]) (fun c b=>PT x m F (ah (tz C)) [(0,al c.x c.s.ay),(1,F),(2,ag C.c (wo x C) 35),(3,C.r.A)]) (fun c b=>aq (bk fun(a:Int)=>ar.func a) x F (gO c) (HW F C x))) (PT x m F (ah (tz C)) [(0,al A.x A.s),(1,F),(2,ag C.c (wo x C) 35),(3,C.r.A)]))/\aS fun(l:l4)_=>(TN l x/\l.f=m)->fm (kJ x) (aH (yf x l F) []) (fun j i=>true=true/\ax l.c 3/\A8 (kJ x) [al x.x l.t] (aH (yf x l F) [0]) (fun h g=>dc [ah (cD x),agg ⟨[ae 3,aj (aI h.x.L h.x.fin h.s).text,float f64 0,au none 0 0,ae (cu j.L j.fin j.i).pos]⟩] [al h.x h.s.ay,ba] (fun f e=>∀(d:Nat),fQ (a8 Tryz.f43 10 9) [au l.r.a l.r.n l.r.cap,au (bJ d) 1 1] [l.r.A] (aH [(0,al f.x (f.s.add f.n)),(1,F),(2,ag l.c (wo x l) 35),(3,l.r.A),(999,ba),(11080,ag d (qF f) 3)] [3]) (fun c b=>ax l.c 3/\∃(a:l4),LK a x/\(ah (cD x)=ah (cD x)/\ah (tz l)=ah (tz a)/\True)/\aD [(0,al f.x (f.s.add f.n)),(1,F),(2,ag l.c (MH x l b) 35),(3,b.A),(999,ba),(11080,ag d (qF f) 3)] (yf x a F)/\a.f<C.f))) (fun h c=>∀(b:Tm),aq (bk fun(a:Int)=>ar.func a) x F (Cq h) (HW F l x))))) (fun E b=>aq (bk fun(a:Int)=>ar.func a) x F (gO E) (HW F H x)))))):=by
 delta je fm cD kJ T1 dw mT mU dI oA nC A8 Hz Ui tz wo yf PS bJ cW Cq Wr JB j_ gD LK fX Cu cw mg fQ bU pY lR lS dc MH lm fK ci HW TN PT gO qF dK aH al ax cF ae aj ak ah au ag ba aP az aS;obtain⟨K,x,s,os,n,tp⟩:=x;obtain⟨ih,hK,hG,hp,dP,cJ,ho⟩:=hc;replace hr:cI K x F:=hr;replace ho:bo K x (n+1) (.func tp) s≠.out:=ho;dsimp only at ih hK hG hp dP cJ⊢;obtain⟨r,e0⟩:∃r,bo K x (n+1) (.func tp) s=r:=⟨_,rfl⟩;rw[e0]at ho;have hk:=e0;unfold bo at hk;rw[P]at hk;have hl:=hK.len;have dP:s.i<x.L.length:=dP;rw[pl,mn,mV]at hk;refine bp l9 (x.p s) hl (hr.ls.di 0 1 aM aM rfl rfl) fun _ _ c=>?_
 repeat (refine⟨ap,?_⟩)
 refine⟨_,d_ fun _=>rfl,oZ (i:=s.i) (i_ hG.i hl),gQ rfl rfl rfl,rfl,⟨x,s,s.ay,1,_⟩,rfl,rfl,⟨fun _=>rfl,rfl,bd,rfl,rfl⟩,ao,fun _ _=>?_⟩;have g1:=hG.step dP;have vR:=w9 hK s;have bS:s.i+1<=s.ay.i:=cr _;refine⟨?_,?_⟩
 ·refine mo (A:=(tp==35||uP x.L s.ay 0)=true) (fun kx=>aG (fun h1=>kx ?_) (fun h1=>bp aaG ⟨x.p s.ay,0⟩ ⟨hl,by have:=g1.i;show s.ay.i<=1048576;omega,bd⟩ (hr.ls.di 0 1 aM aM rfl rfl) fun _ _=>aG (fun h2=>kx ?_) (fun h2=>?_))) (fun hx=>?_)
  ·rw[show(tp==35)=true from h1];rfl
  ·rw[show uP x.L s.ay 0=true from h2,n7]
  ·rw[show(tp==35)=false from h1,show uP x.L s.ay 0=false from h2,Bool.or_self,aU,jf]at hk;exact⟨⟨s.ay,.empty,[],dF,n,c⟩,⟨⟨g1.cast (dJ _).symm,.nil rfl,cr _,bS,rfl,rfl,rfl⟩,rfl,hk.trans e0.symm⟩,aV,aB [0,1,2050,999]⟩
  ·rw[hx,bf]at hk;refine bp Ox ⟨x,s.ay⟩ hl (hr.ls.sub (b_ 1)) ⟨fun _ q=>?_,fun _ q=>⟨.inr (_,_),⟨_,e0.trans (hk.symm.trans (Of q))⟩,rfl,aB [1]⟩⟩;rw[Og q]at hk;have hi:s.ay.i<x.L.length:=xG (fin:=x.fin) (fun e=>by rw[e]at q;cases q);have g2:=g1.step hi;exact⟨ap,⟨s.ay.ay,(aI x.L x.fin s.ay).text,[],dF,n,c⟩,⟨⟨g2.cast (dJ _).symm,.nil rfl,cr _,Nat.le_succ_of_le bS,rfl,rfl,rfl⟩,rfl,hk.trans e0.symm⟩,aV,aB [0,1,2050,999]⟩
 clear hk;rintro⟨t,op,ks,r',f,c⟩ js ⟨⟨g,bB,hf,hi,f1,f2,f3⟩,xI,hk⟩;have xI:ks=[]:=xI;subst xI;dsimp only at g bB hf hi f1 f2 f3 hk⊢;rw[e0,Rl]at hk;refine ma g hk (fun hk g2=>?_);refine⟨⟨⟨t.ay,op,[],r',n,c⟩,⟨⟨g2,bB,cr _,Nat.le_succ_of_le hi,f1,f2,f3⟩,hk.trans e0.symm⟩,aV,aB [0,1,2,3]⟩,?_⟩;clear hk g g2 bB hf hi f1 f2 f3;rintro⟨t,op,ks,r',f,c⟩ js ⟨⟨g,bB,hf,hi,f1,f2,f3⟩,hk⟩;dsimp only at g bB hf hi f1 f2 f3 hk⊢;rw[e0]at hk;obtain _|f:=f
 ·exact absurd hk (fun e=>ho (e.symm.trans (by rw[P];rfl)))
 replace hf:f<=n:=Nat.le_of_succ_le hf;rw[P,eZ]at hk;have xQ:r'.n=ks.length:=by have:=bB.len;rw[D6]at this;omega
 refine bp kV ⟨x,t,rp⟩ ⟨hl,g.i⟩ (hr.ls.sub (b_ 1)) ⟨fun _ q=>?_,fun _ q=>?_⟩
 ·rw[ml q,bf,jf,DP,mV,CL]at hk;have g2:=g.is q;have b1:=g.f;have b2:=g.i;have b3:s.bQ<=s.i:=hG.f.2;refine⟨rfl,_,d_ fun _=>rfl,_,d_ fun _=>rfl,?_⟩;refine⟨_,d_ fun _=>rfl,⟨by show-9223372036854775808<=t.bQ+1;omega,by show t.bQ+1<=9223372036854775807;omega⟩,gQ rfl rfl rfl,rfl,⟨x,t.ay,⟨t.ay.i,t.ay.nodes,t.ay.bQ+1,t.ay.loops,t.ay.bI⟩,4,_⟩,rfl,rfl,⟨fun _=>rfl,rfl,bd,rfl,rfl⟩,ao,fun _ _=>?_⟩;refine⟨gQ rfl rfl rfl,rfl,⟨x,_,⟨t.ay.i,t.ay.nodes,t.ay.bQ+1,0,t.ay.bI⟩,5,_⟩,rfl,rfl,⟨fun _=>rfl,rfl,bd,rfl,rfl⟩,ao,fun _ _=>?_⟩;refine⟨gQ rfl rfl rfl,rfl,⟨x,_,⟨t.ay.i,t.ay.nodes,t.ay.bQ+1,0,0⟩,6,_⟩,rfl,rfl,⟨fun _=>rfl,rfl,bd,rfl,rfl⟩,ao,fun _ _=>?_⟩;have g3:PG x ⟨t.ay.i,t.ay.nodes,t.ay.bQ+1,0,0⟩ (os++ks):=g2.Rj (t:=⟨t.ay.i,t.ay.nodes,t.ay.bQ+1,0,0⟩) rfl rfl ⟨by show 0<=t.bQ+1;omega,by show t.bQ+1<=((t.i+1:Nat):Int);omega⟩ ⟨cN 0,Int.natCast_nonneg _⟩ ⟨cN 0,Int.natCast_nonneg _⟩;refine⟨rfl,ap,?_⟩;refine ca g3 (fL hk ho) (fun b u1 hk g4 G6 Hf Gy Hd Gm IV=>?_) (cL:=ao) (cC:=ao) (cU:=ao);dsimp only[ar.sl,aw.ay,aw.add]at G6 Hf Gy Hd Gm IV;rw[mV,CL]at hk;intro lb;have n_:=ra g hl;refine mz (ks:=ks) (k:=b) 14040 bB af (fun r2 h2=>?_);refine⟨ap,?_⟩;have b4:=g4.i;refine⟨_,d_ fun _=>rfl,⟨by show-9223372036854775808<=u1.bQ-1;omega,by show u1.bQ-1<=9223372036854775807;omega⟩,gQ rfl rfl rfl,rfl,⟨x,u1,⟨u1.i,u1.nodes,u1.bQ-1,u1.loops,u1.bI⟩,4,_⟩,rfl,rfl,⟨fun _=>rfl,rfl,bd,rfl,rfl⟩,ao,fun _ _=>?_⟩;refine⟨gQ rfl rfl rfl,rfl,⟨x,_,⟨u1.i,u1.nodes,u1.bQ-1,t.ay.loops,u1.bI⟩,5,_⟩,rfl,rfl,⟨fun _=>rfl,rfl,bd,rfl,rfl⟩,ao,fun _ _=>?_⟩;refine⟨gQ rfl rfl rfl,rfl,⟨x,_,⟨u1.i,u1.nodes,u1.bQ-1,t.ay.loops,t.ay.bI⟩,6,_⟩,rfl,rfl,⟨fun _=>rfl,rfl,bd,rfl,rfl⟩,ao,fun _ _=>?_⟩
  repeat (refine⟨ap,?_⟩)
  have cap:=g4.cap hl;refine bV fv ⟨x,⟨u1.i,u1.nodes,u1.bQ-1,t.ay.loops,t.ay.bI⟩,⟨tp,op,0,ks++[b],(aI x.L x.fin s).pos⟩,r2⟩ ⟨by show u1.nodes.length<=4194304;omega,h2⟩ fun _ _=>?_;exact eH (e0.trans hk.symm)
 ·rw[mW q,aU]at hk;have n_:=ra g hl;refine⟨f,⟨ap,?_⟩,?_⟩
  ·refine bl (fun h1=>?_) (fun h1=>?_)
   ·rw[bG (show ks.length>0 by omega),bf]at hk;rw[eZ]at hk;refine ma g hk (fun hk g2=>?_);exact⟨⟨t.ay,op,ks,r',f,c⟩,⟨⟨⟨g2,bB,hf,Nat.le_succ_of_le hi,f1,f2,f3⟩,hk.trans e0.symm⟩,rfl⟩,aV,aB [0,1,2,3]⟩
   ·rw[bK (show ¬ks.length>0 by omega),aU,eZ,jf]at hk;exact⟨⟨t,op,ks,r',f,c⟩,⟨⟨⟨g,bB,hf,hi,f1,f2,f3⟩,hk.trans e0.symm⟩,rfl⟩,aV,aB [0,1,2,3]⟩
  clear hk q n_ hf hi f1 f2 f3 g xQ bB;rintro⟨t,op,ks,r',f',c⟩ js ⟨⟨⟨g,bB,hf,hi,f1,f2,f3⟩,hk⟩,e1⟩;have e1:f'=f:=e1;subst e1;dsimp only at g bB hf hi f1 f2 f3 hk⊢;rw[e0,Rm,eZ,pl,eZ]at hk;refine bp l9 (x.p t) hl (hr.ls.di 0 1 aM aM rfl rfl) fun _ _=>?_;refine⟨rfl,ap,Ox,rfl,⟨x,t⟩,rfl,rfl,hl,hr.ls.sub (b_ 1),fun _ q=>?_,fun _ q=>fun _=>⟨.inr (_,_),⟨_,e0.trans (hk.symm.trans (Of q))⟩,rfl,aB [1]⟩⟩;rw[Og q,eZ,AG]at hk;have jY:t.i<x.L.length:=xG (fin:=x.fin) (fun e=>by rw[e]at q;cases q);have g2:=g.step jY;have hY:=g.nd;have g3:=PG.node (n:=⟨3,(aI x.L x.fin t).text,0,[],(aI x.L x.fin t).pos⟩) (g2.cast (dJ _).symm) (w9 hK t) (by show t.nodes.length+1<=2*(t.i+1);omega);refine bV fv ⟨x,t.ay,⟨3,(aI x.L x.fin t).text,0,[],(aI x.L x.fin t).pos⟩,dF⟩ ⟨by have:=g2.cap hl;dsimp only[aw.ay,aw.add]at*;omega,.nil rfl⟩ fun _ _=>?_;intro lb;have n_:=ra g hl;refine mz (ks:=ks) (k:=(t.nodes.length:Int)) 11080 bB af (fun r2 h2=>?_);exact⟨ap,⟨_,op,_,r2,_,c⟩,⟨⟨g3.cast (lI _ _ _),h2,hf,Nat.le_succ_of_le hi,f1,f2,f3⟩,hk.trans e0.symm⟩,aV,aB [0,1,2,3],jj _⟩
theorem amC:aC 43 (bk (fun(k:Int)=>ar.func k)):=fo 103 Tryz.func43 amB [] amz amy amA [] amD
end
section
open Go
structure qe where
 t:aw
 k:Int
 f:Nat
def Gp(L:List bA)(fin:Int)(tv:Nat->ByteArray)(f:Nat)(k:Int)(aF:List Int):PM (List Int):=do
 let p <-fJ k
 let m <-eK ⟨10,.empty,0,aF,p⟩
 P L fin tv br f (.gm m)
def QV(L:List bA)(fin:Int)(tv:Nat->ByteArray)(f:Nat)(ks:List Int):PM (List Int):=do
 let e <-one (P L fin tv br f .bx)
 P L fin tv br f (.gY (ks++[e]))
structure uc where
 t:aw
 k:Int
 ks:List Int
 r:Row
 f:Nat
 f0:Nat
def uc.ok(d:uc)(x:co)(s:aw)(os:List Int)(n:Nat):Prop:=PG x d.t (os++d.ks)/\bv 3 1 (bC d.ks) d.r/\d.f<=n/\d.f0<=n/\d.k∈d.ks
def ang(x:bg Unit)(F:ai):Nat->Option Inv:=fun
 |0=>some {X:=qe,P:=fun d=>PG x.x d.t (x.os++[d.k])/\d.f<=x.n/\P x.x.L x.x.fin x.K.tv br d.f (.gm d.k) d.t=bo x.K x.x (x.n+1) .suffix x.s,mu:=fun d=>d.f,lv:=fun d=>[(0,ah (cg x)),(3,ae d.k)],st:=fun d=>[al x.x d.t,F]}
 |3=>some {X:=uc,gh:=some ⟨Nat,fun d=>d.f0⟩,P:=fun d=>d.ok x.x x.s x.os x.n/\(P x.x.L x.x.fin x.K.tv br d.f (.gY d.ks)>>=Gp x.x.L x.x.fin x.K.tv d.f0 d.k) d.t=bo x.K x.x (x.n+1) .suffix x.s,mu:=fun d=>d.f,lv:=fun d=>[(0,ah (cg x)),(3,ae d.k),(6,au d.r.a d.r.n d.r.cap)],st:=fun d=>[al x.x d.t,F,d.r.A]}
 |_=>none
def anf(x:bg Unit)(F:ai):Nat->Option Inv:=fun
 |18=>some {X:=uc,gh:=some ⟨Nat×Nat,fun d=>(d.f,d.f0)⟩,P:=fun d=>d.ok x.x x.s x.os x.n/\(QV x.x.L x.x.fin x.K.tv d.f d.ks>>=Gp x.x.L x.x.fin x.K.tv d.f0 d.k) d.t=bo x.K x.x (x.n+1) .suffix x.s,mu:=fun _=>0,lv:=fun d=>[(0,.pointer (some ⟨x.x.b,0,none⟩)),(3,.int .i64 d.k),(6,.slice d.r.a d.r.n d.r.cap)],st:=fun d=>[al x.x d.t,F,d.r.A]}
 |_=>none
def ani(x:bg Unit)(_F:ai):List (Nat×Nat×OH):=[(1,1,bq (cG x.n 106)),(3,1,bq ja),(4,1,aX jm),(4,2,.n 5020),(4,3,.w (eF 5020)),(5,1,aT 5020),(5,5,aT 5020),(6,1,aX mD),(7,3,dm),(7,7,dO fS),(8,2,aT 5020),(8,4,.n 9040),(8,7,bq vz),(8,9,.c fR [0,9040] [0]),
 (9,1,bq ja),(10,1,bq (cG x.n 14)),(11,1,bq jd),(12,3,.n 13030),(12,6,bq vz),(12,8,.c fR [0,13030] [0]),
 (13,1,bq ja),(14,1,.n 15010),(15,1,bq ja),(17,1,bq jd),(18,2,bq (cG x.n 14)),(18,3,.n 19030),(18,4,.o (dt 3 1 8) [2] [2]),(19,4,bq vz),(19,6,.c fR [0,2] [0])]
def anh:Nat->List Nat:=fun r=>if r=8 then [0,1,2,3,5,6,7,4,8,9,10] else []
def Mb(e0:bg Unit)(z:qe):=PG e0.x z.t (e0.os++[z.k])/\z.f<=e0.n/\P e0.x.L e0.x.fin e0.K.tv br z.f (ar.gm z.k) z.t=bo e0.K e0.x (e0.n+1) ar.suffix e0.s
def JC(e0:bg Unit)(e1:ai)(v0:Value)(ss:St)(mm:Nat):=∃(z:qe),Mb e0 z/\(ah (cg e0)=ah (cg e0)/\v0=ae z.k/\True)/\aD ss [(0,al e0.x z.t),(1,e1)]/\z.f<mm
def Wt(u:jB)(x:bg Unit)(j:Nat)(w:qe)(l:c8)(F:ai):=T1 (al u.x u.s.ay) ⟨x.x.b,1,none⟩ (fun i=>dw i/\dI (a8 Tryz.f92 7 7) (pd x i) [al u.x u.s.ay] (fun h g=>true=true/\ax j 1/\uq [ah (cg x),ae w.k] [al h.x h.t] (fun f e=>∀(d:Nat),dc [ah (cg x),agg ⟨[ae 8,aj (cu l.L l.fin l.i).text,float f64 0,au (bJ d) 1 1,ae (dG f.s f.k)]⟩] [al f.x f.s,ag d [ae w.k] 3] (fun c b=>JC x F (lm c) [(0,al c.x (c.s.add c.n)),(1,F),(5020,ag j (q0 l) 53),(9040,ba)] w.f))))
def LU(a:uc)(x:bg Unit)(n:Nat):=(a.ok x.x x.s x.os x.n/\(P x.x.L x.x.fin x.K.tv br a.f (ar.gY a.ks)>>=Gp x.x.L x.x.fin x.K.tv a.f0 a.k) a.t=bo x.K x.x (x.n+1) ar.suffix x.s)/\a.f0=n
def Uy(z:uc)(e0:bg Unit):=z.ok e0.x e0.s e0.os e0.n/\(QV e0.x.L e0.x.fin e0.K.tv z.f z.ks>>=Gp e0.x.L e0.x.fin e0.K.tv z.f0 z.k) z.t=bo e0.K e0.x (e0.n+1) ar.suffix e0.s
def PU(e0:bg Unit)(e1:Nat×Nat)(e2:ai)(v0 v1:Value)(ss:St):=∃(z:uc),(Uy z e0/\(z.f,z.f0)=e1)/\(ah (cg e0)=ah (cg e0)/\v0=ae z.k/\v1=au z.r.a z.r.n z.r.cap/\True)/\aD ss [(0,al e0.x z.t),(1,e2),(2,z.r.A)]
theorem ank(x:bg Unit)(F:ai)(hc:aR.cond (bk (fun(_:Unit)=>ar.suffix)) x)(hr:aR.aQ (bk (fun(_:Unit)=>ar.suffix)) x F):cw x.n 106 (eb x) [al x.x x.s] (wD x F) (fun z y=>(∃(a:qe),Mb x a/\(ah (cg x)=ah (cg x)/\ae y.fst=ae a.k/\True)/\aD (mS z y F) [(0,al x.x a.t),(1,F)])/\aS fun(w:qe)_=>Mb x w->fX [ah (cg x),aj ⟨#[46]⟩] [al x.x w.t] (aH [(0,al x.x w.t),(1,F)] [0]) (fun u m=>fm (eb x) (aH (oD u F) []) (fun l k=>∀(j:Nat),cF j (ax j 0/\Br ((cu l.L l.fin l.i).kind !=1) (ax j 0/\Br ((cu l.L l.fin l.i).kind !=2) (l6 (eb x) (aH [(0,al u.x u.s.ay),(1,F),(5020,ag j (q0 l) 53)] []) (fun c b=>aq (bk fun(a:Unit)=>ar.suffix) x F (kG c) [(0,al u.x u.s.ay),(1,F),(5020,ag j (q0 l) 53)])) (Wt u x j w l F)) (Wt u x j w l F)))) (fun u t=>fX [ah (cg x),aj ⟨#[91]⟩] [al u.x u.s] (aH (lQ u F) [0]) (fun s k=>cw x.n 14 (eb x) [al s.x s.s.ay] (aH (oD s F) [0]) (fun j i=>gD [ah (cg x),aj ⟨#[93]⟩] [al j.x i.snd] (aH (mS j i F) [0]) (fun h g=>∀(f:Nat),uq [ah (cg x),ae w.k] [al h.x h.s.ay] (fun e d=>dc [ah (cg x),agg ⟨[ae 9,aj ⟨#[]⟩,float f64 0,au (bJ f) 2 2,ae (dG e.s e.k)]⟩] [al e.x e.s,ag f [ae w.k,ae i.fst] 3] (fun c b=>JC x F (lm c) [(0,al c.x (c.s.add c.n)),(1,F),(13030,ba)] w.f))) (fun h b=>aq (bk fun(a:Unit)=>ar.suffix) x F (gO h) (iV F))) (fun j b=>aq (bk fun(a:Unit)=>ar.suffix) x F (ci b) (iV F))) (fun s r=>fX [ah (cg x),aj ⟨#[40]⟩] [al s.x s.s] (aH (lQ s F) [0]) (fun q p=>∀(o:Nat),∃(n:Nat),(∃(a:uc),LU a x n/\(ah (cg x)=ah (cg x)/\ae w.k=ae a.k/\au (bJ o) 1 1=au a.r.a a.r.n a.r.cap/\True)/\aD [(0,al q.x q.s.ay),(1,F),(15010,ag o [ae w.k] 3)] [(0,al x.x a.t),(1,F),(2,a.r.A)])/\aS fun(m:uc)_=>LU m x n->fX [ah (cg x),aj ⟨#[41]⟩] [al x.x m.t] (aH [(0,al x.x m.t),(1,F),(2,m.r.A)] [0]) (fun k f=>uq [ah (cg x),ae m.k] [al k.x k.s.ay] (fun e d=>dc [ah (cg x),agg ⟨[ae 10,aj ⟨#[]⟩,float f64 0,au m.r.a m.r.n m.r.cap,ae (dG e.s e.k)]⟩] [al e.x e.s,m.r.A] (fun c b=>JC x F (lm c) [(0,al c.x (c.s.add c.n)),(1,F),(2,ba)] w.f))) (fun k j=>∃(i:Nat×Nat),aP ((m.r.n:Int)>1) (gD [ah (cg x),aj ⟨#[44]⟩] [al k.x k.s] (aH [(0,al k.x k.s),(1,F),(2,m.r.A)] [0]) (fun c b=>PU x i F (ae m.k) (au m.r.a m.r.n m.r.cap) [(0,al c.x c.s.ay),(1,F),(2,m.r.A)]) (fun c b=>aq (bk fun(a:Unit)=>ar.suffix) x F (gO c) [(0,ba),(1,F),(2,m.r.A)])) (PU x i F (ae m.k) (au m.r.a m.r.n m.r.cap) [(0,al k.x k.s),(1,F),(2,m.r.A)])/\aS fun(h:uc)_=>(Uy h x/\(h.f,h.f0)=i)->cw x.n 14 (eb x) [al x.x h.t] (aH [(0,al x.x h.t),(1,F),(2,h.r.A)] [0]) (fun f e=>∀(d:Nat),fQ (a8 Tryz.f92 18 4) [au h.r.a h.r.n h.r.cap,au (bJ d) 1 1] [h.r.A] (aH [(0,al f.x e.snd),(1,F),(2,h.r.A),(19030,ag d (bU e) 3)] [2]) (fun c b=>∃(a:uc),LU a x n/\(ah (cg x)=ah (cg x)/\ae h.k=ae a.k/\au b.a b.n b.cap=au a.r.a a.r.n a.r.cap/\True)/\aD [(0,al f.x e.snd),(1,F),(2,b.A),(19030,ag d (bU e) 3)] [(0,al x.x a.t),(1,F),(2,a.r.A)]/\a.f<m.f)) (fun f b=>aq (bk fun(a:Unit)=>ar.suffix) x F (ci b) [(0,ba),(1,F),(2,h.r.A)]))) (fun q b=>aq (bk fun(a:Unit)=>ar.suffix) x F (az (ae w.k)) (lQ q F))))) (fun z b=>aq (bk fun(a:Unit)=>ar.suffix) x F (ci b) (iV F)):=by
 delta cw cg eb wD Mb mS j_ fX je fm oD l6 q0 kG T1 dw mT mU dI pd uq lR lS dc bJ JC lm Wt lQ gD gO iV ci LU Uy PU mg fQ bU dK aH al ax cF ae aj ak ah au ag ba aP az aS;obtain⟨K,x,s,os,n,tp⟩:=x;obtain⟨ih,hK,hG,hp,dP,cJ,ho⟩:=hc;replace hr:cI K x F:=hr;replace ho:bo K x (n+1) .suffix s≠.out:=ho;dsimp only at ih hK hG hp dP cJ⊢;obtain⟨r,e0⟩:∃r,bo K x (n+1) .suffix s=r:=⟨_,rfl⟩;rw[e0]at ho;have hk:=e0;unfold bo at hk;rw[P]at hk;have hl:=hK.len;refine ca hG (fL hk ho) (fun k t1 hk g1 gJ gL gH gK gF gS=>?_) (cL:=ao) (cC:=ao) (cU:=ao);dsimp only[ar.sl,aw.ay,aw.add]at gJ gL gH gK gF gS;refine⟨⟨⟨t1,k,n⟩,⟨g1,cr _,hk.trans e0.symm⟩,aV,aB [0,1]⟩,?_⟩;clear hk g1;rintro⟨t,k,f⟩ js ⟨g,hf,hk⟩;dsimp only at g hf hk⊢;rw[e0]at hk;obtain _|f:=f
 ·exact absurd hk (fun e=>ho (e.symm.trans (by rw[P];rfl)))
 replace hf:f<=n:=Nat.le_of_succ_le hf;rw[P]at hk;have hY:=g.nd;refine bp kV ⟨x,t,YH⟩ ⟨hl,g.i⟩ (hr.ls.sub (b_ 1)) ⟨fun _ q=>?_,fun _ q=>?_⟩
 ·rw[ml q,bf,pl]at hk;have g2:=g.is q;refine bp l9 (x.p t.ay) hl (hr.ls.di 0 1 aM aM rfl rfl) fun _ _ c=>?_
  repeat (refine⟨ap,?_⟩)
  refine mo (A:=((aI x.L x.fin t.ay).kind !=1&&(aI x.L x.fin t.ay).kind !=2)=false) (fun kx=>aG (fun h1=>⟨ap,aG (fun h2=>?_) (fun h2=>kx ?_)⟩) (fun h1=>kx ?_)) (fun hx=>?_)
  ·rw[show((aI x.L x.fin t.ay).kind !=1)=true from h1,show((aI x.L x.fin t.ay).kind !=2)=true from h2,Bool.and_self,bf]at hk;exact bp ru (x.p t.ay) hl (hr.ls.di 0 1 aM aM rfl rfl) fun _ _=>⟨.inr (_,_),⟨_,e0.trans hk.symm⟩,rfl,aB [1]⟩
  ·rw[show((aI x.L x.fin t.ay).kind !=2)=false from h2,n6]
  ·rw[show((aI x.L x.fin t.ay).kind !=1)=false from h1,nh]
  rw[hx,aU,jf,mn,CJ,AG]at hk;have hi:t.ay.i<x.L.length:=xG (fin:=x.fin) (fun e=>by rw[e]at hx;cases hx);have g3:=g2.step hi;refine⟨_,d_ fun _=>rfl,oZ (i:=t.ay.i) (i_ g2.i hl),gQ rfl rfl rfl,rfl,⟨x,t.ay,t.ay.ay,1,_⟩,rfl,rfl,⟨fun _=>rfl,rfl,by simp[*],rfl,rfl⟩,ao,fun _ _=>?_⟩;refine⟨rfl,ap,?_⟩;refine bV zl ⟨x,t.ay.ay,k⟩ (g3.kf aM) fun _ _=>?_;intro lb;have g4:=PG.node (n:=⟨8,(aI x.L x.fin t.ay).text,0,[k],dG t.ay.ay k⟩) g3 (g3.pos aM) (by show t.nodes.length+1<=2*(t.i+1+1);omega);refine bV fv ⟨x,t.ay.ay,⟨8,(aI x.L x.fin t.ay).text,0,[k],dG t.ay.ay k⟩,mc lb [k]⟩ ⟨by have:=g3.cap hl;grind,kC lb [k]⟩ fun _ _=>?_;exact⟨⟨_,_,f⟩,⟨g4,hf,hk.trans e0.symm⟩,aV,aB [0,1],jj _⟩
 rw[mW q,aU]at hk;refine bp kV ⟨x,t,lb⟩ ⟨hl,g.i⟩ (hr.ls.sub (b_ 1)) ⟨fun _ q=>?_,fun _ q=>?_⟩
 ·rw[ml q,bf]at hk;have g2:=g.is q;refine ca g2 ((fL hk ho).up hf) (fun e t1 hk g3 lL lN lH lM lG lX=>?_) (cL:=ao) (cC:=ao) (cU:=ao);dsimp only[ar.sl,aw.ay,aw.add]at lL lN lH lM lG lX;refine ma g3 hk (fun hk g4=>?_);rw[CJ,AG]at hk;intro lb;refine bV zl ⟨x,t1.ay,k⟩ (g4.kf aM) fun _ _=>?_;have g5:=PG.node (n:=⟨9,.empty,0,[k,e],dG t1.ay k⟩) (g4.cast (lI _ _ _)) (g4.pos aM) (by show t1.nodes.length+1<=2*(t1.i+1);omega);refine bV fv ⟨x,t1.ay,⟨9,.empty,0,[k,e],dG t1.ay k⟩,mc lb [k,e]⟩ ⟨by have:=g4.cap hl;grind,kC lb [k,e]⟩ fun _ _=>?_;exact⟨⟨_,_,f⟩,⟨g5,hf,hk.trans e0.symm⟩,aV,aB [0,1],jj _⟩
 rw[mW q,aU]at hk;refine bp kV ⟨x,t,lp⟩ ⟨hl,g.i⟩ (hr.ls.sub (b_ 1)) ⟨fun _ q=>?_,fun _ q=>?_⟩;rotate_left
 ·rw[mW q,aU]at hk;exact eH (e0.trans hk.symm)
 rw[ml q,bf]at hk;have g2:=g.is q;intro lb;refine⟨f,⟨⟨t.ay,k,[k],mc lb [k],f,f⟩,⟨⟨⟨g2,kC lb [k],hf,hf,List.mem_singleton.2 rfl⟩,hk.trans e0.symm⟩,rfl⟩,aV,aB [0,1,15010]⟩,?_⟩;clear hk g g2 q hY;rintro⟨t,k,ks,r',f2,f3⟩ js ⟨⟨⟨g,bB,hf,qr,tc⟩,hk⟩,e1⟩;have e1:f3=f:=e1;subst e1;dsimp only at g bB hf qr tc hk⊢;rw[e0]at hk;obtain _|f2:=f2
 ·exact absurd hk (fun e=>ho (e.symm.trans (by rw[P];rfl)))
 replace hf:f2<=n:=Nat.le_of_succ_le hf;rw[P,eZ]at hk;have xQ:r'.n=ks.length:=by have:=bB.len;rw[D6]at this;omega
 have hY:=g.nd;refine bp kV ⟨x,t,rp⟩ ⟨hl,g.i⟩ (hr.ls.sub (b_ 1)) ⟨fun _ q=>?_,fun _ q=>?_⟩
 ·rw[ml q,bf,jf,Gp,CJ,AG]at hk;have g2:=g.is q;refine bV zl ⟨x,t.ay,k⟩ (g2.kf (by simp[tc])) fun _ _=>?_;have g3:=PG.node (n:=⟨10,.empty,0,ks,dG t.ay k⟩) g2 (g2.pos (by simp[tc])) (by show t.nodes.length+1<=2*(t.i+1);omega);refine bV fv ⟨x,t.ay,⟨10,.empty,0,ks,dG t.ay k⟩,r'⟩ ⟨by have:=g2.cap hl;grind,bB⟩ fun _ _=>?_;exact⟨⟨_,_,_⟩,⟨g3,qr,hk.trans e0.symm⟩,aV,aB [0,1],jj _⟩
 rw[mW q,aU]at hk;refine⟨(f2,f3),?_,?_⟩
 ·refine bl (fun h1=>?_) (fun h1=>?_)
  ·rw[bG (show ks.length>1 by omega),bf,eZ]at hk;refine ma g hk (fun hk g2=>?_);exact⟨⟨t.ay,k,ks,r',f2,f3⟩,⟨⟨⟨g2,bB,hf,qr,tc⟩,hk.trans e0.symm⟩,rfl⟩,aV,aB [0,1,2]⟩
  ·rw[bK (show ¬ks.length>1 by omega),aU,eZ,jf]at hk;exact⟨⟨t,k,ks,r',f2,f3⟩,⟨⟨⟨g,bB,hf,qr,tc⟩,hk.trans e0.symm⟩,rfl⟩,aV,aB [0,1,2]⟩
 clear hk g bB hf qr tc xQ hY q;rintro⟨t,k,ks,r',DJ,f3'⟩ js ⟨⟨⟨g,bB,hf,qr,tc⟩,hk⟩,e1⟩;have e1:(DJ,f3')=(f2,f3):=e1;cases e1;dsimp only at g bB hf qr tc hk⊢;rw[e0,QV,eZ]at hk;refine ca g ((fL hk ho).up hf) (fun e t1 hk g2 oi ow nZ oq nR oL=>?_) (cL:=ao) (cC:=ao) (cU:=ao);dsimp only[ar.sl,aw.ay,aw.add]at oi ow nZ oq nR oL;intro lb;have n_:=ra g hl;refine mz (ks:=ks) (k:=e) 19030 bB af (fun r2 h2=>?_);exact⟨⟨t1,k,ks++[e],r2,f2,f3⟩,⟨⟨⟨g2.cast (lI _ _ _),h2,hf,qr,rC _ tc⟩,hk.trans e0.symm⟩,rfl⟩,aV,aB [0,1,2],jj _⟩
theorem anj:aC 92 (bk (fun(_:Unit)=>ar.suffix)):=fo 83 Tryz.func92 ani [] ang anf anh [] ank
end
section
open Go
def qE(x:bg Nat):Option Addr:=some ⟨x.x.b,0,none⟩
def amV(x:bg Nat)(F:ai):Nat->Option Inv:=fun
 |0=>some {X:=qe,P:=fun d=>PG x.x d.t (x.os++[d.k])/\d.f<=x.n/\x.t<=9/\P x.x.L x.x.fin x.K.tv br d.f (.j6 x.t d.k) d.t=bo x.K x.x (x.n+1) (.level x.t) x.s,mu:=fun d=>d.f,lv:=fun d=>[(0,ah (qE x)),(1,ae x.t),(5,ae d.k)],st:=fun d=>[al x.x d.t,F]}
 |_=>none
def amX(x:bg Nat)(_F:ai):List (Nat×Nat×OH):=[(2,1,bq (cG x.n 64)),(3,3,bq (cG x.n 37)),(4,1,aX jm),(4,2,.n 5020),(4,3,.w (eF 5020)),(5,1,aT 5020),(5,5,aT 5020),(5,11,.q [.ex 1 .slice]),(5,13,aT 5020),(5,14,aX Bn),(7,3,dm),(7,7,dO fS),(8,3,bq (cG x.n 37)),(12,3,aT 5020),(12,6,.n 13060),(12,9,bq vz),(12,11,.c fR [0,13060] [0])]
def amW:Nat->List Nat:=fun r=>if r=12 then [0,1,2,3,4,5,7,8,9,6,10,11,12] else []
theorem akG(n:Nat):((x8[n]?).getD []).length<=1000:=by
 rcases Nat.lt_or_ge n 10 with h|h
 ·have:n=0\/n=1\/n=2\/n=3\/n=4\/n=5\/n=6\/n=7\/n=8\/n=9:=by omega
  rcases this with rfl|rfl|rfl|rfl|rfl|rfl|rfl|rfl|rfl|rfl <;> decide
 ·rw[sQ (show x8.length<=n from h)];decide
def Vs(x:bg Nat):=(-9223372036854775808:Int)<=(x.t:Int)+1/\(x.t:Int)+1<=(9223372036854775807:Int)
def LZ(e0:bg Nat)(z:qe):=PG e0.x z.t (e0.os++[z.k])/\z.f<=e0.n/\e0.t<=9/\P e0.x.L e0.x.fin e0.K.tv br z.f (ar.j6 e0.t z.k) z.t=bo e0.K e0.x (e0.n+1) (ar.level e0.t) e0.s
def VP(x:bg Nat)(F:ai)(u:qe)(q:Nat)(s:c8):=aq (bk fun(a:Nat)=>ar.level a) x F (az (ae u.k)) [(0,al x.x u.t),(1,F),(5020,ag q (q0 s) 53)]
def XJ(e0:bg Nat)(e1:ai)(v0:Value)(ss:St)(mm:Nat):=∃(z:qe),LZ e0 z/\(ah (qE e0)=ah (qE e0)/\ae ↑e0.t=ae ↑e0.t/\v0=ae z.k/\True)/\aD ss [(0,al e0.x z.t),(1,e1)]/\z.f<mm
def Wc(x:bg Nat)(F:ai)(q:Nat)(s:c8)(u:qe):qc->Unit->Prop:=fun c b=>XJ x F (lm c) [(0,al c.x (c.s.add c.n)),(1,F),(5020,ag q (q0 s) 53),(13060,ba)] u.f
def Tk(x:bg Nat)(F:ai)(q:Nat)(s:c8)(u:qe):=(0<=(x.t:Int)/\(x.t:Int)<(↑(10:Nat):Int))/\e8 F ⟨3,0+(x.t:Int).toNat*1,none⟩ (fun p o n=>ax q 1/\Jz [au p o n,aj (cu s.L s.fin s.i).text] (aH [(0,al x.x u.t),(1,F),(5020,ag q (q0 s) 53)] []) (fun m l=>Br (!dy m.row m.t) (VP x F u q s) (T1 (al x.x u.t) ⟨x.x.b,1,none⟩ (fun k=>dw k/\dI (a8 Tryz.f37 7 7) [ah (some ⟨x.x.b,1,none⟩),ae (k+1)] [al x.x u.t] (fun j i=>Vs x/\cw x.n 37 [ah (qE x),ae ((x.t:Int)+1)] [al j.x j.t] (aH [(0,al j.x j.t),(1,F),(5020,ag q (q0 s) 53)] [0]) (fun h g=>aP ((x.t:Int)<2) (true=true/\ax q 1/\uq [ah (qE x),ae u.k] [al h.x g.snd] (fun f e=>∀(d:Nat),dc [ah (qE x),agg ⟨[ae 14,aj (cu s.L s.fin s.i).text,float f64 0,au (bJ d) 2 2,ae (dG f.s f.k)]⟩] [al f.x f.s,ag d [ae u.k,ae g.fst] 3] (Wc x F q s u))) (true=true/\ax q 1/\uq [ah (qE x),ae u.k] [al h.x g.snd] (fun f e=>∀(d:Nat),dc [ah (qE x),agg ⟨[ae 13,aj (cu s.L s.fin s.i).text,float f64 0,au (bJ d) 2 2,ae (dG f.s f.k)]⟩] [al f.x f.s,ag d [ae u.k,ae g.fst] 3] (Wc x F q s u)))) (fun h b=>aq (bk fun(a:Nat)=>ar.level a) x F (ci b) [(0,ba),(1,F),(5020,ag q (q0 s) 53)]))))))
theorem amZ(x:bg Nat)(F:ai)(hc:aR.cond (bk (fun(m:Nat)=>ar.level m)) x)(hr:aR.aQ (bk (fun(m:Nat)=>ar.level m)) x F):Br ((x.t:Int)==10) (cw x.n 64 [ah (qE x)] [al x.x x.s] (aH [(0,al x.x x.s),(1,F)] [0]) (fun c b=>aq (bk fun(a:Nat)=>ar.level a) x F (kI b) (mS c b F)) (fun c b=>aq (bk fun(a:Nat)=>ar.level a) x F (ci b) (iV F))) (Vs x/\cw x.n 37 [ah (qE x),ae ((x.t:Int)+1)] [al x.x x.s] (aH [(0,al x.x x.s),(1,F)] [0]) (fun w v=>(∃(a:qe),LZ x a/\(ah (qE x)=ah (qE x)/\ae ↑x.t=ae ↑x.t/\ae v.fst=ae a.k/\True)/\aD (mS w v F) [(0,al x.x a.t),(1,F)])/\aS fun(u:qe)_=>LZ x u->fm [ah (qE x)] (aH [(0,al x.x u.t),(1,F)] []) (fun s r=>∀(q:Nat),cF q (true=true/\ax q 0/\Br (Aj s) (ax q 0/\Br ((cu s.L s.fin s.i).kind !=2) (VP x F u q s) (Tk x F q s u)) (Tk x F q s u)))) (fun w b=>aq (bk fun(a:Nat)=>ar.level a) x F (ci b) (iV F))):=by
 delta cw qE kI mS ci iV Vs LZ je fm Aj q0 VP e8 rR EW Jz T1 dw mT mU dI uq lR lS dc bJ XJ lm Wc Tk dK aH al ax cF ae aj ak ah au ag ba aP az aS;obtain⟨K,x,s,os,n,tp⟩:=x;obtain⟨ih,hK,hG,hp,dP,cJ,ho⟩:=hc;replace hr:cI K x F:=hr;replace ho:bo K x (n+1) (.level tp) s≠.out:=ho;dsimp only at ih hK hG hp dP cJ⊢;obtain⟨r,e0⟩:∃r,bo K x (n+1) (.level tp) s=r:=⟨_,rfl⟩;rw[e0]at ho;have hk:=e0;unfold bo at hk;rw[P]at hk;have hl:=hK.len;have dP:tp<=10:=dP;refine aG (fun h=>?_) (fun h=>?_)
 ·have h:((tp:Int)==10)=true:=h;rw[f_ 10 h,bf]at hk;exact ca hG (wI hk ho) (fun _ _ q _ _ _ _ _ _ _=>eH (e0.trans q.symm)) (cL:=ao) (cC:=ao) (cU:=ao)
 have h:((tp:Int)==10)=false:=h;have h9:tp<=9:=by
  rcases Nat.lt_or_ge tp 10 with h'|h'
  ·omega
  ·rw[show tp=10 by omega]at h;cases h
 rw[f_ 10 h,aU]at hk;refine⟨⟨by(try dsimp only);omega,by(try dsimp only);omega⟩,?_⟩;refine ca hG (fL hk ho) (fun k t1 hk g1 gJ gL gH gK gF gS=>?_) (cL:=ao) (cC:=(show tp+1<=10 by omega)) (cU:=ao);dsimp only[ar.sl,aw.ay,aw.add]at gJ gL gH gK gF gS;refine⟨⟨⟨t1,k,n⟩,⟨g1,cr _,h9,hk.trans e0.symm⟩,aV,aB [0,1]⟩,?_⟩;clear hk g1;rintro⟨t,k,f⟩ js ⟨g,hf,-,hk⟩;dsimp only at g hf hk⊢;rw[e0]at hk;obtain _|f:=f
 ·exact absurd hk (fun e=>ho (e.symm.trans (by rw[P];rfl)))
 replace hf:f<=n:=Nat.le_of_succ_le hf;rw[P,pl]at hk;have hY:=g.nd;refine bp l9 (x.p t) hl (hr.ls.di 0 1 aM aM rfl rfl) fun _ _ c=>?_
 repeat (refine⟨ap,?_⟩)
 refine mo (A:=x9 x t) (fun kx=>⟨rfl,ap,aG (fun h1=>⟨ap,aG (fun h2=>?_) (fun h2=>kx (.inr (Eh h2)))⟩) (fun h1=>kx (.inl (Eh h1)))⟩) (fun hx=>?_)
 ·rw[show((aI x.L x.fin t).kind !=5)=true from h1,show((aI x.L x.fin t).kind !=2)=true from h2,Bool.and_self,Bool.true_or,bf]at hk;exact eH (e0.trans hk.symm)
 have hb:((aI x.L x.fin t).kind !=5&&(aI x.L x.fin t).kind !=2)=false:=by rcases hx with h|h <;> rw[h] <;> rfl
 rw[hb,Bool.false_or]at hk;obtain⟨row,bB⟩:∃row,x8[tp]?=some row:=⟨_,gv (show tp<x8.length from Nat.lt_succ_of_le h9)⟩;obtain⟨rb,ro,Fd,uF,RU⟩:=hr.gp.aam tp row bB;have xP:=akG tp;rw[bB]at hk xP;rw[Option.getD_some]at hk xP;refine⟨⟨by(try dsimp only);omega,by(try dsimp only);omega⟩,_,_,_,?_,ap,YA,rfl,⟨rb,ro,Fd,row,(aI x.L x.fin t).text⟩,rfl,rfl,xP,da.rest (j:=1) aM RU,fun _ _=>aG (fun h2=>?_) (fun h2=>?_)⟩
 ·have e2:0+(tp:Int).toNat*1=tp:=by omega
  rw[e2];exact uF
 ·rw[show(!dy row (aI x.L x.fin t).text)=true from h2,bf]at hk;exact eH (e0.trans hk.symm)
 rw[show(!dy row (aI x.L x.fin t).text)=false from h2,aU,mn]at hk;have g2:=g.step hx.lt;refine⟨_,d_ fun _=>rfl,oZ (i:=t.i) (i_ g.i hl),gQ rfl rfl rfl,rfl,⟨x,t,t.ay,1,_⟩,rfl,rfl,⟨fun _=>rfl,rfl,bd,rfl,rfl⟩,ao,fun _ _=>?_⟩;refine⟨⟨by(try dsimp only);omega,by(try dsimp only);omega⟩,?_⟩;refine ca g2 ((fL hk ho).up hf) (fun k2 t1 hk g3 lL lN lH lM lG lX=>?_) (cL:=ao) (cC:=(show tp+1<=10 by omega)) (cU:=ao);dsimp only[ar.sl,aw.ay,aw.add]at lL lN lH lM lG lX;rw[CJ,AG]at hk;have RY:=g3.nd;have hi3:1<=t1.i:=af;refine bl (fun h3=>?_) (fun h3=>?_)
 ·rw[bG (show tp<2 by omega),bf]at hk;refine⟨rfl,ap,?_⟩;refine bV zl ⟨x,t1,k⟩ (g3.kf aM) fun _ _=>?_;intro lb;have g5:=PG.node (n:=⟨14,(aI x.L x.fin t).text,0,[k,k2],dG t1 k⟩) (g3.cast (lI _ _ _)) (g3.pos aM) af;refine bV fv ⟨x,t1,⟨14,(aI x.L x.fin t).text,0,[k,k2],dG t1 k⟩,mc lb [k,k2]⟩ ⟨by have:=g3.cap hl;dsimp only[aw.ay,aw.add]at*;omega,kC lb [k,k2]⟩ fun _ _=>?_;exact⟨⟨_,_,f⟩,⟨g5,hf,h9,hk.trans e0.symm⟩,aV,aB [0,1],jj _⟩
 ·rw[bK (show ¬tp<2 by omega),aU]at hk;refine⟨rfl,ap,?_⟩;refine bV zl ⟨x,t1,k⟩ (g3.kf aM) fun _ _=>?_;intro lb;have g5:=PG.node (n:=⟨13,(aI x.L x.fin t).text,0,[k,k2],dG t1 k⟩) (g3.cast (lI _ _ _)) (g3.pos aM) af;refine bV fv ⟨x,t1,⟨13,(aI x.L x.fin t).text,0,[k,k2],dG t1 k⟩,mc lb [k,k2]⟩ ⟨by have:=g3.cap hl;dsimp only[aw.ay,aw.add]at*;omega,kC lb [k,k2]⟩ fun _ _=>?_;exact⟨⟨_,_,f⟩,⟨g5,hf,h9,hk.trans e0.symm⟩,aV,aB [0,1],jj _⟩
theorem amY:aC 37 (bk (fun(m:Nat)=>ar.level m)):=fo 62 Tryz.func37 amX [] amV aY amW [] amZ
end
section
open Go
structure mY where
 K:cj
 x:co
 s:aw
 os:List Int
 n:Nat
 kc:Nat
 pc:Nat
 ks:List Int
 r:Row
def jw(x:mY):List Value:=[ah (some ⟨x.x.b,0,none⟩)]
def ty(x:mY):List Value:=[au x.r.a x.r.n x.r.cap]
def Bc:aR where
 X:=mY
 Y:=(Int×aw×Row) ⊕ (Int×Int)
 args x:=[ah (some ⟨x.kc,0,none⟩),ah (some ⟨x.pc,0,none⟩)]
 pre x:=[al x.x x.s,ag x.kc (ty x) 33,ag x.pc (jw x) 39,x.r.A]
 cond x:=(∀bO,aC bO (cG x.n bO))/\iu x.K x.x/\PG x.x x.s (x.os++x.ks)/\bv 3 1 (bC x.ks) x.r/\bo x.K x.x x.n .bx x.s≠.out
 aQ x F:=cI x.K x.x F
 cd x y:=match y with
  | .inl a=>bo x.K x.x x.n .bx x.s= .ok [a.1] a.2.1/\bv 3 1 (bC (x.ks++[a.1])) a.2.2
  | .inr a=>∃t,bo x.K x.x x.n .bx x.s= .stop a.1 a.2 t
 val x y:=match y with
  | .inl _=>.returned (.tuple #[])
  | .inr a=>.panicked [⟨jy a.1 a.2,false,false⟩]
 post x y:=match y with
  | .inl a=>[al x.x a.2.1,.cells x.kc [.slice a.2.2.a a.2.2.n a.2.2.cap] 33,.cells x.pc [.pointer (some ⟨x.x.b,0,none⟩)] 39,a.2.2.A]
  | .inr _=>[]
 eX _ _ _ hs h:=cI.sub hs h
 sum:=some (iX (Int×aw×Row) (Int×Int))
def aeR(x:mY)(_F:ai):List (Nat×Nat×OH):=[(0,0,aT 1),(0,1,aT 2),(0,2,bq (cG x.n 14)),(0,3,.n 1030),(0,4,.o (dt 3 1 8) [3] [3]),(0,5,.w [.z00 1])]
def Nd(x:mY)(F:ai):=aH [(0,al x.x x.s),(1,ag x.kc (ty x) 33),(2,ag x.pc (jw x) 39),(3,x.r.A),(4,F)] [0]
def Nz(x:mY)(F:ai):=[(0,ba),(1,ag x.kc (ty x) 33),(2,ag x.pc (jw x) 39),(3,x.r.A),(4,F)]
theorem aeT(x:mY)(F:ai)(hc:Bc.cond x)(hr:Bc.aQ x F):true=true/\ax x.kc 0/\ax x.pc 0/\cw x.n 14 (jw x) [al x.x x.s] (Nd x F) (fun e d=>∀(c:Nat),fQ (a8 Tryz.f113 0 4) [au x.r.a x.r.n x.r.cap,au (bJ c) 1 1] [x.r.A] (aH [(0,al e.x d.snd),(1,ag x.kc (ty x) 33),(2,ag x.pc (jw x) 39),(3,x.r.A),(4,F),(1030,ag c (bU d) 3)] [3]) (fun b a=>ax x.kc 0/\aq Bc x F eM [(0,al e.x d.snd),(1,ag x.kc (yr a) 33),(2,ag x.pc (jw x) 39),(3,a.A),(4,F),(1030,ag c (bU d) 3)])) (fun e b=>∀(a:Tm),aq Bc x F (ci b) (Nz x F)):=by
 delta cw jw ty Nd mg fQ bJ bU eM yr ci Nz dK aH al ax ae ah au ag ba az;obtain⟨K,x,s,os,n,kc,pc,ks,r'⟩:=x;obtain⟨ih,hK,hG,bB,ho⟩:=hc;replace hr:cI K x F:=hr;dsimp only at ih hK hG bB ho⊢;refine⟨rfl,ap,ap,ih _,rfl,⟨K,x,s,os++ks,.bx⟩,rfl,rfl,⟨hK,hG,rfl,ao,ao,ao,ho⟩,hr.sub (b_ 4),fun a q=>?_,fun a q=>fun _=>⟨.inr a,q,rfl,aB [4]⟩⟩;obtain⟨k,t⟩:=a;replace q:bo K x n .bx s= .ok [k] t:=q;intro lb;have n_:=ra hG hK.len;refine mz (ks:=ks) (k:=k) 1030 bB af (fun r2 h2=>?_);exact⟨ap,.inl (k,t,r2),⟨q,h2⟩,rfl,aB [0,1,2,3,4]⟩
theorem aeS:aC 113 Bc:=fo 7 Tryz.func113 aeR [] aY aY bz [] aeT
def iL(L:List bA)(fin:Int)(tv:Nat->ByteArray)(n:Nat):PM (List Int):=do
 let k <-eV L fin tv br
 dn L fin colon
 let e <-one (P L fin tv br n .bx)
 ret [k,e]
def xh:aR where
 X:=mY
 Y:=(Int×Int×aw×Row) ⊕ (Int×Int)
 args x:=[ah (some ⟨x.kc,0,none⟩),ah (some ⟨x.pc,0,none⟩)]
 pre x:=[al x.x x.s,ag x.kc (ty x) 33,ag x.pc (jw x) 39,x.r.A]
 cond x:=(∀bO,aC bO (cG x.n bO))/\iu x.K x.x/\PG x.x x.s (x.os++x.ks)/\bv 3 1 (bC x.ks) x.r/\iL x.x.L x.x.fin x.K.tv x.n x.s≠.out
 aQ x F:=cI x.K x.x F
 cd x y:=match y with
  | .inl a=>iL x.x.L x.x.fin x.K.tv x.n x.s= .ok [a.1,a.2.1] a.2.2.1/\bv 3 1 (bC (x.ks++[a.1]++[a.2.1])) a.2.2.2/\PG x.x a.2.2.1 (x.os++x.ks++[a.1]++[a.2.1])
  | .inr a=>∃t,iL x.x.L x.x.fin x.K.tv x.n x.s= .stop a.1 a.2 t
 val x y:=match y with
  | .inl _=>.returned (.tuple #[])
  | .inr a=>.panicked [⟨jy a.1 a.2,false,false⟩]
 post x y:=match y with
  | .inl a=>[al x.x a.2.2.1,.cells x.kc [.slice a.2.2.2.a a.2.2.2.n a.2.2.2.cap] 33,.cells x.pc [.pointer (some ⟨x.x.b,0,none⟩)] 39,a.2.2.2.A]
  | .inr _=>[]
 eX _ _ _ hs h:=cI.sub hs h
 sum:=some (iX (Int×Int×aw×Row) (Int×Int))
def aeU(x:mY)(_F:ai):List (Nat×Nat×OH):=[(0,0,aT 1),(0,1,aT 2),(0,2,bq BP),(0,3,.n 1030),(0,4,.o (dt 3 1 8) [3] [3]),(0,5,.w [.z00 1]),(1,0,aT 2),(1,1,bq jd),(2,0,aT 1),(2,1,aT 2),(2,2,bq (cG x.n 14)),(2,3,.n 3030),(2,4,.o (dt 3 1 8) [3] [3]),(2,5,.w [.z00 1])]
def EL(l:nQ):List Value:=[ae ↑l.s.nodes.length]
def Wh(e:pA)(d:Int×aw)(x:mY)(h:Row)(F:ai)(j:Nat)(l:nQ)(c:Nat):=[(0,al e.x d.snd),(1,ag x.kc (yr h) 33),(2,ag x.pc (jw x) 39),(3,h.A),(4,F),(1030,ag j (EL l) 3),(3030,ag c (bU d) 3)]
def V5(x:mY)(h:Row)(F:ai)(j:Nat)(l:nQ):=[(0,ba),(1,ag x.kc (yr h) 33),(2,ag x.pc (jw x) 39),(3,h.A),(4,F),(1030,ag j (EL l) 3)]
theorem ae0(x:mY)(F:ai)(hc:xh.cond x)(hr:xh.aQ x F):true=true/\ax x.kc 0/\ax x.pc 0/\aC 115 BP/\true=true/\∃(l:nQ),(jw x)=[ah (wA l)]/\[al x.x x.s]=[al l.x l.s]/\(PaK l.K l.x/\l.s.nodes.length<=4194304)/\cI l.K l.x (Nd x F)/\(∀(k:aw),eV l.x.L l.x.fin l.K.tv br l.s=PR.ok (l.s.nodes.length:Int) k->∀(j:Nat),fQ (a8 Tryz.f114 0 4) [au x.r.a x.r.n x.r.cap,au (bJ j) 1 1] [x.r.A] (aH [(0,al l.x k),(1,ag x.kc (ty x) 33),(2,ag x.pc (jw x) 39),(3,x.r.A),(4,F),(1030,ag j (EL l) 3)] [3]) (fun i h=>ax x.kc 0/\ax x.pc 0/\gD [ah (some ⟨x.x.b,0,none⟩),aj ⟨#[58]⟩] [al l.x k] (aH [(0,al l.x k),(1,ag x.kc (yr h) 33),(2,ag x.pc (jw x) 39),(3,h.A),(4,F),(1030,ag j (EL l) 3)] [0]) (fun g f=>true=true/\ax x.kc 0/\ax x.pc 0/\cw x.n 14 (jw x) [al g.x g.s.ay] (aH [(0,al g.x g.s.ay),(1,ag x.kc (yr h) 33),(2,ag x.pc (jw x) 39),(3,h.A),(4,F),(1030,ag j (EL l) 3)] [0]) (fun e d=>∀(c:Nat),fQ (a8 Tryz.f114 2 4) (wu h c) [h.A] (aH (Wh e d x h F j l c) [3]) (fun b a=>ax x.kc 0/\aq xh x F eM (Wh e d x a F j l c))) (fun e b=>∀(a:Tm),aq xh x F (ci b) (V5 x h F j l))) (fun g a=>aq xh x F (gO g) (V5 x h F j l))))/\∀(b:Int),eV l.x.L l.x.fin l.K.tv br l.s=PR.stop b (60:Int) l.s->∀(a:Tm),aq xh x F (dK b 60) (Nz x F):=by
 delta jw wA ty Nd mg fQ bJ EL j_ gD yr cw wu bU Wh eM ci V5 gO Nz dK aH al ax ae aj ah au ag ba az;obtain⟨K,x,s,os,n,kc,pc,ks,r'⟩:=x;obtain⟨ih,hK,hG,bB,ho⟩:=hc;replace hr:cI K x F:=hr;dsimp only at ih hK hG bB ho⊢;have hl:=hK.len;obtain⟨r,e0⟩:∃r,iL x.L x.fin K.tv n s=r:=⟨_,rfl⟩;rw[e0]at ho;have hk:=e0;rw[iL]at hk;refine⟨rfl,ap,ap,akp,rfl,⟨K,x,s⟩,rfl,rfl,⟨hK.toPaK,by have:=hG.cap hl;dsimp only;omega⟩,hr.sub (b_ 4),fun u q=>?_,fun p q=>fun _=>⟨.inr (p,60),⟨_,e0.trans (hk.symm.trans (IG q))⟩,rfl,aB [4]⟩⟩;replace q:eV x.L x.fin K.tv br s= .ok (s.nodes.length:Int) u:=q;obtain⟨g1,i1,-⟩:=PG.key hK hG q;rw[tS q]at hk;clear q;intro lb;have n_:=ra hG hl;refine mz (ks:=ks) (k:=(s.nodes.length:Int)) 1030 bB af (fun r2 h2=>?_);refine⟨ap,ap,?_⟩;refine ma g1 hk (fun hk g2=>?_);refine⟨rfl,ap,ap,?_⟩;refine ca g2 (fL hk ho) (fun e t hk g3 lL lN lH lM lG lX=>?_) (cL:=ao) (cC:=ao) (cU:=ao);dsimp only[ar.sl,aw.ay,aw.add]at lL lN lH lM lG lX;rw[CK]at hk;intro uK;have arz:=ra (os:=os) (ks:=ks++[(s.nodes.length:Int)]) (g1.cast (lI _ _ _)) hl;refine bp (kP 1 8 rfl rfl rfl rfl rfl rfl rfl (by decide)) ⟨r2,bC (ks++[(s.nodes.length:Int)]),some ⟨uK,0,none⟩,1,1,bC [e]⟩ ⟨h2,rfl,xZ _,yH h2 af,yI h2 af,fun h=>nomatch h⟩ (yN 3030 rfl) fun r3 h3=>?_;replace h3:bv 3 1 (bC (ks++[(s.nodes.length:Int)]++[e])) r3:=by rw[xY];exact h3.1
 exact⟨ap,.inl ((s.nodes.length:Int),e,t,r3),⟨e0.trans hk.symm,h3,g3⟩,rfl,aB [0,1,2,3,4]⟩
theorem aeZ:aC 114 xh:=fo 14 Tryz.func114 aeU [] aY aY bz [] ae0
section
variable{L:List bA}{fin:Int}{tv:Nat->ByteArray}{f:Nat}{s u:aw}{R:Int->Int->PM (List Int)}
theorem QD:(∃k e u,iL L fin tv f s= .ok [k,e] u/\∀R:Int->Int->PM (List Int),(eV L fin tv br>>=fun k=>dn L fin colon>>=fun _=>one (P L fin tv br f .bx)>>=fun e=>R k e) s=R k e u)\/(∃p e u,iL L fin tv f s= .stop p e u/\∀R:Int->Int->PM (List Int),(eV L fin tv br>>=fun k=>dn L fin colon>>=fun _=>one (P L fin tv br f .bx)>>=fun e=>R k e) s= .stop p e u)\/(iL L fin tv f s= .out/\∀R:Int->Int->PM (List Int),(eV L fin tv br>>=fun k=>dn L fin colon>>=fun _=>one (P L fin tv br f .bx)>>=fun e=>R k e) s= .out):=by
 cases h1:eV L fin tv br s with
 |stop p e u=>exact .inr (.inl ⟨p,e,u,by rw[iL,IG h1],fun R=>by rw[IG h1]⟩)
 |out=>exact .inr (.inr ⟨by rw[iL];show cq _ _ s=_;unfold cq;rw[h1],fun R=>by show cq _ _ s=_;unfold cq;rw[h1]⟩)
 |ok k u=>
  cases h2:bE L u 0 colon with
  |false=>exact .inr (.inl ⟨_,_,_,by rw[iL,tS h1,IH h2],fun R=>by rw[tS h1,IH h2]⟩)
  |true=>
   cases h3:one (P L fin tv br f .bx) u.ay with
   |ok e v=>exact .inl ⟨k,e,v,by rw[iL,tS h1,wO h2,Fq h3,CK],fun R=>by rw[tS h1,wO h2,Fq h3]⟩
   |stop p e v=>exact .inr (.inl ⟨p,e,v,by rw[iL,tS h1,wO h2,Fs h3],fun R=>by rw[tS h1,wO h2,Fs h3]⟩)
   |out=>exact .inr (.inr ⟨by rw[iL,tS h1,wO h2];show cq _ _ u.ay=_;unfold cq;rw[h3],fun R=>by rw[tS h1,wO h2];show cq _ _ u.ay=_;unfold cq;rw[h3]⟩)
theorem aeV{k e:Int}(h:iL L fin tv f s= .ok [k,e] u):(eV L fin tv br>>=fun k=>dn L fin colon>>=fun _=>one (P L fin tv br f .bx)>>=fun e=>R k e) s=R k e u:=by
 rcases QD (L:=L) (fin:=fin) (tv:=tv) (f:=f) (s:=s)with⟨k',e',u',h1,h2⟩| ⟨p,e',u',h1,h2⟩| ⟨h1,h2⟩
 ·rw[h]at h1;cases h1;exact h2 R
 ·rw[h]at h1;cases h1
 ·rw[h]at h1;cases h1
theorem aeX{p e:Int}(h:iL L fin tv f s= .stop p e u):(eV L fin tv br>>=fun k=>dn L fin colon>>=fun _=>one (P L fin tv br f .bx)>>=fun e=>R k e) s= .stop p e u:=by
 rcases QD (L:=L) (fin:=fin) (tv:=tv) (f:=f) (s:=s)with⟨k',e',u',h1,h2⟩| ⟨p',e',u',h1,h2⟩| ⟨h1,h2⟩
 ·rw[h]at h1;cases h1
 ·rw[h]at h1;cases h1;exact h2 R
 ·rw[h]at h1;cases h1
theorem aeW(h:(eV L fin tv br>>=fun k=>dn L fin colon>>=fun _=>one (P L fin tv br f .bx)>>=fun e=>R k e) s≠.out):iL L fin tv f s≠.out:=by
 rcases QD (L:=L) (fin:=fin) (tv:=tv) (f:=f) (s:=s)with⟨k',e',u',h1,h2⟩| ⟨p',e',u',h1,h2⟩| ⟨h1,h2⟩
 ·rw[h1];intro e;cases e
 ·rw[h1];intro e;cases e
 ·exact absurd (h2 R) h
theorem aeY{n:Nat}(hf:f<=n)(h:iL L fin tv f s≠.out):iL L fin tv n s=iL L fin tv f s:=by
 unfold iL at h⊢;cases h1:eV L fin tv br s with
 |stop p e u=>rw[IG h1,IG h1]
 |out=>exact absurd (by show cq _ _ s=_;unfold cq;rw[h1]) h
 |ok k u=>
  rw[tS h1]at h;rw[tS h1,tS h1];cases h2:bE L u 0 colon with
  |false=>rw[IH h2,IH h2]
  |true=>
   rw[wO h2]at h;rw[wO h2,wO h2];have e1:P L fin tv br n .bx u.ay=P L fin tv br f .bx u.ay:=by
    rcases Xt (L:=L) (fin:=fin) (aL:=tv) (wide:=br) hf .bx u.ay with e|e
    ·exact absurd e (WV h)
    ·exact e
   show cq (one _) _ _=cq (one _) _ _;unfold cq one cq;rw[e1]
end
structure lC where
 a:mY
 f:Nat
structure qZ where
 t:aw
 ks:List Int
 r:Row
 f:Nat
def nB(x:lC):Option Addr:=some ⟨x.a.x.b,0,none⟩
def Cv(x:lC):List Value:=[au x.a.r.a x.a.r.n x.a.r.cap]
def qH(x:lC):List Value:=[ah (nB x)]
def o3(bO:FuncId)(Q6:ByteArray)(tg:List Int->ar):aR where
 X:=lC
 Y:=(List Int×aw×Row) ⊕ (Int×Int)
 args x:=[.pointer (some ⟨x.a.x.b,0,none⟩),.string Q6,.func (.func bO) #[] #[.pointer (some ⟨x.a.kc,0,none⟩),.pointer (some ⟨x.a.pc,0,none⟩)]]
 pre x:=[al x.a.x x.a.s,ag x.a.kc (Cv x) 33,ag x.a.pc (qH x) 39,x.a.r.A]
 cond x:=(∀bO,aC bO (cG x.a.n bO))/\iu x.a.K x.a.x/\PG x.a.x x.a.s (x.a.os++x.a.ks)/\bv 3 1 (bC x.a.ks) x.a.r/\x.f<=x.a.n/\bo x.a.K x.a.x x.f (tg x.a.ks) x.a.s≠.out
 aQ x F:=cI x.a.K x.a.x F
 cd x y:=match y with
  | .inl a=>bo x.a.K x.a.x x.f (tg x.a.ks) x.a.s= .ok a.1 a.2.1/\bv 3 1 (bC a.1) a.2.2/\PG x.a.x a.2.1 (x.a.os++a.1)
  | .inr a=>∃t,bo x.a.K x.a.x x.f (tg x.a.ks) x.a.s= .stop a.1 a.2 t
 val x y:=match y with
  | .inl _=>.returned (.tuple #[])
  | .inr a=>.panicked [⟨jy a.1 a.2,false,false⟩]
 post x y:=match y with
  | .inl a=>[al x.a.x a.2.1,.cells x.a.kc [.slice a.2.2.a a.2.2.n a.2.2.cap] 33,.cells x.a.pc [.pointer (some ⟨x.a.x.b,0,none⟩)] 39,a.2.2.A]
  | .inr _=>[]
 eX _ _ _ hs h:=cI.sub hs h
 sum:=some (iX (List Int×aw×Row) (Int×Int))
def z6(d:qZ):List Value:=[au d.r.a d.r.n d.r.cap]
def aan(bO:FuncId)(Q6:ByteArray)(tg:List Int->ar)(x:lC)(F:ai):Nat->Option Inv:=fun
 |0=>some {X:=qZ,P:=fun d=>PG x.a.x d.t (x.a.os++d.ks)/\bv 3 1 (bC d.ks) d.r/\d.f<=x.a.n/\P x.a.x.L x.a.x.fin x.a.K.tv br d.f (tg d.ks) d.t=bo x.a.K x.a.x x.f (tg x.a.ks) x.a.s,mu:=fun d=>d.f,lv:=fun _=>[(0,.pointer (some ⟨x.a.x.b,0,none⟩)),(1,.string Q6),(2,.func (.func bO) #[] #[.pointer (some ⟨x.a.kc,0,none⟩),.pointer (some ⟨x.a.pc,0,none⟩)])],st:=fun d=>[al x.a.x d.t,ag x.a.kc (z6 d) 33,ag x.a.pc (qH x) 39,d.r.A,F]}
 |_=>none
def Ty(x:lC)(b:qZ):=PG x.a.x b.t (x.a.os++b.ks)/\bv 3 1 (bC b.ks) b.r/\b.f<=x.a.n/\P x.a.x.L x.a.x.fin x.a.K.tv br b.f ((fun(a:List Int)=>ar.dY a) b.ks) b.t=bo x.a.K x.a.x x.f ((fun(a:List Int)=>ar.dY a) x.a.ks) x.a.s
def u6(e0:lC):List Value:=[ah (some ⟨e0.a.kc,0,none⟩),ah (some ⟨e0.a.pc,0,none⟩)]
def TW(e0:lC):=ah (nB e0)=ah (nB e0)/\aj rb=aj rb/\func (Fn.func 113) ⟨[]⟩ ⟨u6 e0⟩=func (Fn.func 113) ⟨[]⟩ ⟨u6 e0⟩/\True
def M1(x:lC)(F:ai):=[(0,al x.a.x x.a.s),(1,ag x.a.kc (Cv x) 33),(2,ag x.a.pc (qH x) 39),(3,x.a.r.A),(4,F)]
def Ap(e0:lC)(z:qZ)(e1:ai):=[(0,al e0.a.x z.t),(1,ag e0.a.kc (z6 z) 33),(2,ag e0.a.pc (qH e0) 39),(3,z.r.A),(4,e1)]
def NP(j:jB)(x:lC)(l:qZ)(F:ai):=[(0,al j.x j.s.ay),(1,ag x.a.kc (z6 l) 33),(2,ag x.a.pc (qH x) 39),(3,l.r.A),(4,F)]
def NH(h:mY):List Value:=[ah (some ⟨h.kc,0,none⟩),ah (some ⟨h.pc,0,none⟩)]
def Nl(j:jB)(x:lC)(l:qZ)(F:ai):=aH [(0,al j.x j.s),(1,ag x.a.kc (z6 l) 33),(2,ag x.a.pc (qH x) 39),(3,l.r.A),(4,F)] [0,1,2,3]
def NC(g:Int×aw×Row):List Value:=[au g.snd.snd.a g.snd.snd.n g.snd.snd.cap]
def L6(h:mY)(g:Int×aw×Row)(F:ai):=[(0,al h.x g.snd.fst),(1,ag h.kc (NC g) 33),(2,ag h.pc (jw h) 39),(3,g.snd.snd.A),(4,F)]
def PV(e0:lC)(e1:ai)(ss:St)(mm:Nat):=∃(z:qZ),(PG e0.a.x z.t (e0.a.os++z.ks)/\bv 3 1 (bC z.ks) z.r/\z.f<=e0.a.n/\P e0.a.x.L e0.a.x.fin e0.a.K.tv br z.f ((fun(w0:List Int)=>ar.dY w0) z.ks) z.t=bo e0.a.K e0.a.x e0.f ((fun(w0:List Int)=>ar.dY w0) e0.a.ks) e0.a.s)/\TW e0/\aD ss (Ap e0 z e1)/\z.f<mm
theorem akx(x:lC)(F:ai)(hc:aR.cond (o3 113 rb (fun ks=>ar.dY ks)) x)(hr:aR.aQ (o3 113 rb (fun ks=>ar.dY ks)) x F):(∃(b:qZ),Ty x b/\TW x/\aD (M1 x F) (Ap x b F))/\aS fun(l:qZ)_=>Ty x l->fX [ah (nB x),aj rb] [al x.a.x l.t] (aH (Ap x l F) [0]) (fun j b=>aq (o3 (113:FuncId) rb fun(a:List Int)=>ar.dY a) x F eM (NP j x l F)) (fun j i=>aC 113 Bc/\true=true/\∃(h:mY),(u6 x)=(NH h)/\[al j.x j.s,ag x.a.kc (z6 l) 33,ag x.a.pc (qH x) 39,l.r.A]=[al h.x h.s,ag h.kc (ty h) 33,ag h.pc (jw h) 39,h.r.A]/\((∀(a:FuncId),aC a (cG h.n a))/\iu h.K h.x/\PG h.x h.s (h.os++h.ks)/\bv 3 1 (bC h.ks) h.r/\bo h.K h.x h.n ar.bx h.s≠PR.out)/\cI h.K h.x (Nl j x l F)/\(∀(g:Int×aw×Row),(bo h.K h.x h.n ar.bx h.s=PR.ok [g.fst] g.snd.fst/\bv 3 1 (bC (h.ks++[g.fst])) g.snd.snd)->gW [ah (nB x),ae 0,aj rb] (aH (L6 h g F) []) (fun f e=>Br (!jb f.p.L (f.p.i+f.a) f.t) (gD [ah (nB x),aj ⟨#[44]⟩] [al h.x g.snd.fst] (aH (L6 h g F) [0]) (fun d c=>PV x F [(0,al d.x d.s.ay),(1,ag h.kc (NC g) 33),(2,ag h.pc (jw h) 39),(3,g.snd.snd.A),(4,F)] l.f) (fun d b=>aq (o3 (113:FuncId) rb fun(a:List Int)=>ar.dY a) x F (gO d) [(0,ba),(1,ag h.kc (NC g) 33),(2,ag h.pc (jw h) 39),(3,g.snd.snd.A),(4,F)])) (PV x F (L6 h g F) l.f)))/\∀(b:Int×Int),(∃(a:aw),bo h.K h.x h.n ar.bx h.s=PR.stop b.fst b.snd a)->aq (o3 (113:FuncId) rb fun(a:List Int)=>ar.dY a) x F (ci b) [(0,ba),(1,ba),(2,ba),(3,ba),(4,F)]):=by
 delta Ty nB u6 TW Cv qH M1 z6 Ap j_ fX eM NP NH ty jw Nl rT rU gW NC L6 gD PV gO ci dK aH al ae aj ah au ag ba az aS;obtain⟨⟨K,x,s,os,n,kc,pc,ks,r'⟩,f⟩:=x;obtain⟨ih,hK,hG,bB,hf,ho⟩:=hc;replace hr:cI K x F:=hr;dsimp only at ih hK hG bB hf ho⊢;have hl:=hK.len;obtain⟨r,e0⟩:∃r,bo K x f (.dY ks) s=r:=⟨_,rfl⟩;rw[e0]at ho;refine⟨⟨⟨s,ks,r',f⟩,⟨hG,bB,hf,rfl⟩,aV,aB [0,1,2,3,4]⟩,?_⟩;rintro⟨t,rJ,Iq,f2⟩ js ⟨g,BI,mJ,hk⟩;dsimp only at g BI mJ hk⊢;rw[e0]at hk;obtain _|f2:=f2
 ·exact absurd hk (fun e=>ho (e.symm.trans (by rw[P];rfl)))
 replace mJ:f2<=n:=Nat.le_of_succ_le mJ;rw[P]at hk;refine bp kV ⟨x,t,rb⟩ ⟨hl,g.i⟩ (hr.ls.sub (b_ 4)) ⟨fun _ q=>?_,fun _ q=>?_⟩
 ·rw[ml q,bf,CK]at hk;exact⟨.inl (rJ,t.ay,Iq),⟨e0.trans hk.symm,BI,g.is q⟩,rfl,aB [0,1,2,3,4]⟩
 rw[mW q,aU]at hk;have oo:bo K x f2 .bx t≠.out:=WV (by rw[hk];exact ho);have eu:bo K x n .bx t=bo K x f2 .bx t:=abb mJ oo;refine bp aeS ⟨K,x,t,os,n,kc,pc,rJ,Iq⟩ ⟨ih,hK,g,BI,fun e=>oo (eu.symm.trans e)⟩ (hr.sub (b_ 4)) ⟨fun a qq=>?_,fun a⟨u,qq⟩=>⟨.inr a,⟨u,e0.trans (hk.symm.trans (ab4 (eu.symm.trans qq)))⟩,rfl,aB [4]⟩⟩;obtain⟨e,t1,r3⟩:=a;obtain⟨q1,h3⟩:=qq;replace q1:bo K x f2 .bx t= .ok [e] t1:=eu.symm.trans q1;replace h3:bv 3 1 (bC (rJ++[e])) r3:=h3;obtain⟨g2,-⟩:=PG.run (tag:=.bx) hK g trivial trivial rfl rfl q1;rw[ab3 q1,IF]at hk;refine bp kY ⟨x.p t1,0,rb⟩ ⟨hl,by have:=g2.i;show t1.i<=1048576;omega,bd⟩ (hr.ls.di 0 4 aM aM rfl rfl) fun _ _=>aG (fun h=>?_) (fun h=>?_)
 ·rw[show(!bE x.L t1 0 rb)=true from h,bf]at hk;refine ma g2 hk (fun hk g3=>?_);exact⟨⟨t1.ay,rJ++[e],r3,f2⟩,⟨g3.cast (lI _ _ _),h3,mJ,hk.trans e0.symm⟩,aV,aB [0,1,2,3,4],jj _⟩
 ·rw[show(!bE x.L t1 0 rb)=false from h,aU,jf]at hk;exact⟨⟨t1,rJ++[e],r3,f2⟩,⟨g2.cast (lI _ _ _),h3,mJ,hk.trans e0.symm⟩,aV,aB [0,1,2,3,4],jj _⟩
theorem akw:aC 112 (o3 113 rb (fun ks=>ar.dY ks)):=fo 18 Tryz.func112 (fun _ _=>[(0,2,bq ja),(1,1,.c Bc [0,1,2,3] [0,1,2,3]),(2,2,aX hZ),(3,1,bq jd)]) [] (aan 113 rb (fun ks=>ar.dY ks)) aY bz [] akx
def Tz(x:lC)(b:qZ):=PG x.a.x b.t (x.a.os++b.ks)/\bv 3 1 (bC b.ks) b.r/\b.f<=x.a.n/\P x.a.x.L x.a.x.fin x.a.K.tv br b.f ((fun(a:List Int)=>ar.ey a) b.ks) b.t=bo x.a.K x.a.x x.f ((fun(a:List Int)=>ar.ey a) x.a.ks) x.a.s
def TX(e0:lC):=ah (nB e0)=ah (nB e0)/\aj rc=aj rc/\func (Fn.func 114) ⟨[]⟩ ⟨u6 e0⟩=func (Fn.func 114) ⟨[]⟩ ⟨u6 e0⟩/\True
def Nk(g:Int×Int×aw×Row):List Value:=[au g.snd.snd.snd.a g.snd.snd.snd.n g.snd.snd.snd.cap]
def LY(h:mY)(g:Int×Int×aw×Row)(F:ai):=[(0,al h.x g.snd.snd.fst),(1,ag h.kc (Nk g) 33),(2,ag h.pc (jw h) 39),(3,g.snd.snd.snd.A),(4,F)]
def PW(e0:lC)(e1:ai)(ss:St)(mm:Nat):=∃(z:qZ),(PG e0.a.x z.t (e0.a.os++z.ks)/\bv 3 1 (bC z.ks) z.r/\z.f<=e0.a.n/\P e0.a.x.L e0.a.x.fin e0.a.K.tv br z.f ((fun(w0:List Int)=>ar.ey w0) z.ks) z.t=bo e0.a.K e0.a.x e0.f ((fun(w0:List Int)=>ar.ey w0) e0.a.ks) e0.a.s)/\TX e0/\aD ss (Ap e0 z e1)/\z.f<mm
theorem akz(x:lC)(F:ai)(hc:aR.cond (o3 114 rc (fun ks=>ar.ey ks)) x)(hr:aR.aQ (o3 114 rc (fun ks=>ar.ey ks)) x F):(∃(b:qZ),Tz x b/\TX x/\aD (M1 x F) (Ap x b F))/\aS fun(l:qZ)_=>Tz x l->fX [ah (nB x),aj rc] [al x.a.x l.t] (aH (Ap x l F) [0]) (fun j b=>aq (o3 (114:FuncId) rc fun(a:List Int)=>ar.ey a) x F eM (NP j x l F)) (fun j i=>aC 114 xh/\true=true/\∃(h:mY),(u6 x)=(NH h)/\[al j.x j.s,ag x.a.kc (z6 l) 33,ag x.a.pc (qH x) 39,l.r.A]=[al h.x h.s,ag h.kc (ty h) 33,ag h.pc (jw h) 39,h.r.A]/\((∀(a:FuncId),aC a (cG h.n a))/\iu h.K h.x/\PG h.x h.s (h.os++h.ks)/\bv 3 1 (bC h.ks) h.r/\iL h.x.L h.x.fin h.K.tv h.n h.s≠PR.out)/\cI h.K h.x (Nl j x l F)/\(∀(g:Int×Int×aw×Row),(iL h.x.L h.x.fin h.K.tv h.n h.s=PR.ok [g.fst,g.snd.fst] g.snd.snd.fst/\bv 3 1 (bC (h.ks++[g.fst]++[g.snd.fst])) g.snd.snd.snd/\PG h.x g.snd.snd.fst (h.os++h.ks++[g.fst]++[g.snd.fst]))->gW [ah (nB x),ae 0,aj rc] (aH (LY h g F) []) (fun f e=>Br (!jb f.p.L (f.p.i+f.a) f.t) (gD [ah (nB x),aj ⟨#[44]⟩] [al h.x g.snd.snd.fst] (aH (LY h g F) [0]) (fun d c=>PW x F [(0,al d.x d.s.ay),(1,ag h.kc (Nk g) 33),(2,ag h.pc (jw h) 39),(3,g.snd.snd.snd.A),(4,F)] l.f) (fun d b=>aq (o3 (114:FuncId) rc fun(a:List Int)=>ar.ey a) x F (gO d) [(0,ba),(1,ag h.kc (Nk g) 33),(2,ag h.pc (jw h) 39),(3,g.snd.snd.snd.A),(4,F)])) (PW x F (LY h g F) l.f)))/\∀(b:Int×Int),(∃(a:aw),iL h.x.L h.x.fin h.K.tv h.n h.s=PR.stop b.fst b.snd a)->aq (o3 (114:FuncId) rc fun(a:List Int)=>ar.ey a) x F (ci b) [(0,ba),(1,ba),(2,ba),(3,ba),(4,F)]):=by
 delta Tz nB u6 TX Cv qH M1 z6 Ap j_ fX eM NP NH ty jw Nl rT rU gW Nk LY gD PW gO ci dK aH al ae aj ah au ag ba az aS;obtain⟨⟨K,x,s,os,n,kc,pc,ks,r'⟩,f⟩:=x;obtain⟨ih,hK,hG,bB,hf,ho⟩:=hc;replace hr:cI K x F:=hr;dsimp only at ih hK hG bB hf ho⊢;have hl:=hK.len;obtain⟨r,e0⟩:∃r,bo K x f (.ey ks) s=r:=⟨_,rfl⟩;rw[e0]at ho;refine⟨⟨⟨s,ks,r',f⟩,⟨hG,bB,hf,rfl⟩,aV,aB [0,1,2,3,4]⟩,?_⟩;rintro⟨t,rJ,Iq,f2⟩ js ⟨g,BI,mJ,hk⟩;dsimp only at g BI mJ hk⊢;rw[e0]at hk;obtain _|f2:=f2
 ·exact absurd hk (fun e=>ho (e.symm.trans (by rw[P];rfl)))
 replace mJ:f2<=n:=Nat.le_of_succ_le mJ;rw[P]at hk;refine bp kV ⟨x,t,rc⟩ ⟨hl,g.i⟩ (hr.ls.sub (b_ 4)) ⟨fun _ q=>?_,fun _ q=>?_⟩
 ·rw[ml q,bf,CK]at hk;exact⟨.inl (rJ,t.ay,Iq),⟨e0.trans hk.symm,BI,g.is q⟩,rfl,aB [0,1,2,3,4]⟩
 rw[mW q,aU]at hk;have oo:iL x.L x.fin K.tv f2 t≠.out:=aeW (by rw[hk];exact ho);have eu:iL x.L x.fin K.tv n t=iL x.L x.fin K.tv f2 t:=aeY mJ oo;refine bp aeZ ⟨K,x,t,os,n,kc,pc,rJ,Iq⟩ ⟨ih,hK,g,BI,fun e=>oo (eu.symm.trans e)⟩ (hr.sub (b_ 4)) ⟨fun a qq=>?_,fun a⟨u,qq⟩=>⟨.inr a,⟨u,e0.trans (hk.symm.trans (aeX (eu.symm.trans qq)))⟩,rfl,aB [4]⟩⟩;obtain⟨k,e,t1,r3⟩:=a;obtain⟨q1,h3,g2⟩:=qq;replace q1:iL x.L x.fin K.tv f2 t= .ok [k,e] t1:=eu.symm.trans q1;replace h3:bv 3 1 (bC (rJ++[k]++[e])) r3:=h3;replace g2:PG x t1 (os++rJ++[k]++[e]):=g2;have Ze:PG x t1 (os++(rJ++[k]++[e])):=g2.cast aM;rw[aeV q1,IF]at hk;refine bp kY ⟨x.p t1,0,rc⟩ ⟨hl,by have:=g2.i;show t1.i<=1048576;omega,bd⟩ (hr.ls.di 0 4 aM aM rfl rfl) fun _ _=>aG (fun h=>?_) (fun h=>?_)
 ·rw[show(!bE x.L t1 0 rc)=true from h,bf]at hk;refine ma Ze hk (fun hk g3=>?_);exact⟨⟨t1.ay,rJ++[k]++[e],r3,f2⟩,⟨g3,h3,mJ,hk.trans e0.symm⟩,aV,aB [0,1,2,3,4],jj _⟩
 ·rw[show(!bE x.L t1 0 rc)=false from h,aU,jf]at hk;exact⟨⟨t1,rJ++[k]++[e],r3,f2⟩,⟨Ze,h3,mJ,hk.trans e0.symm⟩,aV,aB [0,1,2,3,4],jj _⟩
theorem aky:aC 112 (o3 114 rc (fun ks=>ar.ey ks)):=fo 18 Tryz.func112 (fun _ _=>[(0,2,bq ja),(1,1,.c xh [0,1,2,3] [0,1,2,3]),(2,2,aX hZ),(3,1,bq jd)]) [] (aan 114 rc (fun ks=>ar.ey ks)) aY bz [] akz
end
section
open Go
def anb(x:bg Unit)(_F:ai):List (Nat×Nat×OH):=[(0,0,.n 1000),(1,0,aT 1000),(1,1,aX jm),(1,2,.n 2020),(1,3,.w (eF 2020)),(2,1,aT 2020),
 (4,0,aT 1000),(4,3,dm),(4,7,dO fS),(5,0,aT 1000),(5,2,aT 2020),(5,4,aT 2020),(5,6,.c fR [0,999] [0]),
 (7,0,aT 1000),(7,3,dm),(7,7,dO fS),(8,0,aT 1000),(8,2,aT 2020),(8,4,aT 2020),(8,6,.c fR [0,999] [0]),
 (10,0,aT 1000),(10,3,dm),(10,7,dO fS),(11,0,aT 1000),(11,2,aT 2020),(11,4,aT 2020),(11,6,.c fR [0,999] [0]),
 (12,0,.n 13000),(13,0,aT 1000),(13,1,aX hZ),(13,3,aT 1000),(13,4,aX hZ),(13,7,aT 1000),(13,8,aX hZ),
 (14,0,aT 1000),(14,3,dm),(14,7,dO fS),(15,0,aT 1000),(15,2,aT 2020),(15,4,aT 2020),(15,6,.c fR [0,999] [0]),
 (16,0,aT 1000),(16,1,aX hZ),(17,0,aT 1000),(17,1,bq (cG x.n 43)),(18,0,aT 1000),(18,1,bq ja),(19,0,aT 1000),(19,1,bq (cG x.n 14)),(20,0,aT 1000),(20,1,bq jd),
 (22,0,aT 1000),(22,1,bq ja),(23,0,aT 1000),(23,2,.c (o3 113 rb (fun ks=>ar.dY ks)) [0,13000,1000,999] [0,13000,1000,998]),(24,0,aT 1000),(24,1,aT 13000),(24,3,aT 2020),(24,5,.c fR [0,998] [0]),
 (25,0,aT 1000),(25,1,bq ja),(26,0,aT 1000),(26,2,.c (o3 114 rc (fun ks=>ar.ey ks)) [0,13000,1000,999] [0,13000,1000,998]),(27,0,aT 1000),(27,1,aT 13000),(27,3,aT 2020),(27,5,.c fR [0,998] [0]),(28,0,aT 1000),(28,1,aX mD)]
def LW(x:bg Unit)(F:ai)(y u:Nat)(w:c8):qc->Unit->Prop:=fun c b=>aq (bk fun(a:Unit)=>ar.fx) x F (fK c) [(0,al c.x (c.s.add c.n)),(1,F),(999,ba),(1000,ag y (eb x) 39),(2020,ag u (q0 w) 53)]
def eW:List Value:=[au none 0 0]
def CD(x:bg Unit)(F:ai)(y u:Nat)(w:c8)(t:Nat):=[(0,al x.x x.s),(1,F),(1000,ag y (eb x) 39),(2020,ag u (q0 w) 53),(13000,ag t eW 33)]
def Mr(y:Nat)(x:bg Unit)(u:Nat)(w:c8)(F:ai)(t:Nat):=ax y 0/\T1 (al x.x x.s) ⟨x.x.b,1,none⟩ (fun f=>dw f/\dI (a8 Tryz.f106 14 7) (pd x f) [al x.x x.s] (fun e d=>ax y 0/\ax u 1/\ax u 3/\dc [ah (cg x),agg ⟨[ae 4,aj (cu w.L w.fin w.i).text,float f64 0,au none 0 0,ae (cu w.L w.fin w.i).pos]⟩] [al e.x e.t,ba] (fun c b=>aq (bk fun(a:Unit)=>ar.fx) x F (fK c) [(0,al c.x (c.s.add c.n)),(1,F),(999,ba),(1000,ag y (eb x) 39),(2020,ag u (q0 w) 53),(13000,ag t eW 33)])))
def MO(F:ai)(y:Nat)(x:bg Unit)(u:Nat)(w:c8)(t:Nat):=[(0,ba),(1,F),(1000,ag y (eb x) 39),(2020,ag u (q0 w) 53),(13000,ag t eW 33)]
def HA(k:jB)(F:ai)(y:Nat)(x:bg Unit)(u:Nat)(w:c8)(t:Nat):=[(0,al k.x k.s.ay),(1,F),(1000,ag y (eb x) 39),(2020,ag u (q0 w) 53),(13000,ag t eW 33)]
def HD(k:jB)(F:ai)(y:Nat)(x:bg Unit)(u:Nat)(w:c8)(t:Nat):=[(0,al k.x k.s),(1,F),(1000,ag y (eb x) 39),(2020,ag u (q0 w) 53),(13000,ag t eW 33)]
def TF(x:bg Unit)(F:ai)(e:lC)(u:Nat)(w:c8)(d:List Int×aw×Row):qc->Unit->Prop:=fun c b=>aq (bk fun(a:Unit)=>ar.fx) x F (fK c) [(0,al c.x (c.s.add c.n)),(1,F),(998,ba),(999,ba),(1000,ag e.a.pc (qH e) 39),(2020,ag u (q0 w) 53),(13000,ag e.a.kc [au d.snd.snd.a d.snd.snd.n d.snd.snd.cap] 33)]
def V4(F:ai)(u:Nat)(w:c8):=[(0,ba),(1,F),(999,ba),(1000,ba),(2020,ag u (q0 w) 53),(13000,ba)]
theorem ane(x:bg Unit)(F:ai)(hc:aR.cond (bk (fun(_:Unit)=>ar.fx)) x)(hr:aR.aQ (bk (fun(_:Unit)=>ar.fx)) x F):∀(y:Nat),ax y 0/\fm (eb x) (aH [(0,al x.x x.s),(1,F),(1000,ag y (eb x) 39)] []) (fun w v=>∀(u:Nat),cF u (ax u 0/\Br ((cu w.L w.fin w.i).kind==3) (ax y 0/\T1 (al x.x x.s) ⟨x.x.b,1,none⟩ (fun f=>dw f/\dI (a8 Tryz.f106 4 7) (pd x f) [al x.x x.s] (fun e d=>ax y 0/\ax u 2/\ax u 3/\dc [ah (cg x),agg ⟨[ae 1,aj ⟨#[]⟩,float f64 (cu w.L w.fin w.i).num,au none 0 0,ae (cu w.L w.fin w.i).pos]⟩] [al e.x e.t,ba] (LW x F y u w)))) (Br ((cu w.L w.fin w.i).kind==4) (ax y 0/\T1 (al x.x x.s) ⟨x.x.b,1,none⟩ (fun f=>dw f/\dI (a8 Tryz.f106 7 7) (pd x f) [al x.x x.s] (fun e d=>ax y 0/\ax u 1/\ax u 3/\dc [ah (cg x),agg ⟨M_ w⟩] [al e.x e.t,ba] (LW x F y u w)))) (Br (Ik w) (ax y 0/\T1 (al x.x x.s) ⟨x.x.b,1,none⟩ (fun f=>dw f/\dI (a8 Tryz.f106 10 7) (pd x f) [al x.x x.s] (fun e d=>ax y 0/\ax u 1/\ax u 3/\dc [ah (cg x),agg ⟨[ae 3,aj (cu w.L w.fin w.i).text,float f64 0,au none 0 0,ae (cu w.L w.fin w.i).pos]⟩] [al e.x e.t,ba] (LW x F y u w)))) (∀(t:Nat),ax y 0/\gW [ah (cg x),ae 0,aj ⟨#[116,114,117,101]⟩] (aH (CD x F y u w t) []) (fun s r=>Br (jb s.p.L (s.p.i+s.a) s.t) (Mr y x u w F t) (ax y 0/\gW [ah (cg x),ae 0,aj ⟨#[102,97,108,115,101]⟩] (aH (CD x F y u w t) []) (fun q p=>Br (jb q.p.L (q.p.i+q.a) q.t) (Mr y x u w F t) (ax y 0/\gW [ah (cg x),ae 0,aj ⟨#[110,117,108,108]⟩] (aH (CD x F y u w t) []) (fun o n=>Br (jb o.p.L (o.p.i+o.a) o.t) (Mr y x u w F t) (ax y 0/\gW [ah (cg x),ae 0,aj ⟨#[102,117,110,99,116,105,111,110]⟩] (aH (CD x F y u w t) []) (fun m l=>Br (jb m.p.L (m.p.i+m.a) m.t) (ax y 0/\cw x.n 43 [ah (cg x),ae 7] [al x.x x.s] (aH (CD x F y u w t) [0]) (fun c b=>aq (bk fun(a:Unit)=>ar.fx) x F (kI b) [(0,al c.x b.snd),(1,F),(1000,ag y (eb x) 39),(2020,ag u (q0 w) 53),(13000,ag t eW 33)]) (fun c b=>aq (bk fun(a:Unit)=>ar.fx) x F (ci b) (MO F y x u w t))) (ax y 0/\fX [ah (cg x),aj ⟨#[40]⟩] [al x.x x.s] (aH (CD x F y u w t) [0]) (fun k f=>ax y 0/\cw x.n 14 (eb x) [al k.x k.s.ay] (aH (HA k F y x u w t) [0]) (fun e d=>ax y 0/\gD [ah (cg x),aj ⟨#[41]⟩] [al e.x d.snd] (aH [(0,al e.x d.snd),(1,F),(1000,ag y (eb x) 39),(2020,ag u (q0 w) 53),(13000,ag t eW 33)] [0]) (fun c b=>aq (bk fun(a:Unit)=>ar.fx) x F (kI d) (HA c F y x u w t)) (fun c b=>aq (bk fun(a:Unit)=>ar.fx) x F (gO c) (MO F y x u w t))) (fun e b=>aq (bk fun(a:Unit)=>ar.fx) x F (ci b) (MO F y x u w t))) (fun k j=>ax y 0/\fX [ah (cg x),aj ⟨#[91]⟩] [al k.x k.s] (aH (HD k F y x u w t) [0]) (fun i f=>ax y 0/\aC 112 (o3 (113:FuncId) rb fun(a:List Int)=>ar.dY a)/\true=true/\∃(e:lC),[ah (cg x),aj ⟨#[93]⟩,func (Fn.func 113) ⟨[]⟩ ⟨[ah (bJ t),ah (bJ y)]⟩]=[ah (nB e),aj rb,func (Fn.func 113) ⟨[]⟩ ⟨u6 e⟩]/\[al i.x i.s.ay,ag t eW 33,ag y (eb x) 39,ba]=[al e.a.x e.a.s,ag e.a.kc (Cv e) 33,ag e.a.pc (qH e) 39,e.a.r.A]/\((∀(a:FuncId),aC a (cG e.a.n a))/\iu e.a.K e.a.x/\PG e.a.x e.a.s (e.a.os++e.a.ks)/\bv 3 1 (bC e.a.ks) e.a.r/\e.f<=e.a.n/\bo e.a.K e.a.x e.f ((fun(a:List Int)=>ar.dY a) e.a.ks) e.a.s≠PR.out)/\cI e.a.K e.a.x (aH (HA i F y x u w t) [0,13000,1000,999])/\(∀(d:List Int×aw×Row),(bo e.a.K e.a.x e.f ((fun(a:List Int)=>ar.dY a) e.a.ks) e.a.s=PR.ok d.fst d.snd.fst/\bv 3 1 (bC d.fst) d.snd.snd/\PG e.a.x d.snd.fst (e.a.os++d.fst))->dS ⟨y,0,none⟩ e.a.pc/\dS ⟨t,0,none⟩ e.a.kc/\ax u 3/\dc [ah (nB e),agg ⟨[ae 5,aj ⟨#[]⟩,float f64 0,au d.snd.snd.a d.snd.snd.n d.snd.snd.cap,ae (cu w.L w.fin w.i).pos]⟩] [al e.a.x d.snd.fst,d.snd.snd.A] (TF x F e u w d))/\∀(c:Int×Int),(∃(b:aw),bo e.a.K e.a.x e.f ((fun(a:List Int)=>ar.dY a) e.a.ks) e.a.s=PR.stop c.fst c.snd b)->aq (bk fun(a:Unit)=>ar.fx) x F (ci c) (V4 F u w)) (fun i h=>ax y 0/\fX [ah (cg x),aj ⟨#[123]⟩] [al i.x i.s] (aH (HD i F y x u w t) [0]) (fun g f=>ax y 0/\aC 112 (o3 (114:FuncId) rc fun(a:List Int)=>ar.ey a)/\true=true/\∃(e:lC),[ah (cg x),aj ⟨#[125]⟩,func (Fn.func 114) ⟨[]⟩ ⟨[ah (bJ t),ah (bJ y)]⟩]=[ah (nB e),aj rc,func (Fn.func 114) ⟨[]⟩ ⟨u6 e⟩]/\[al g.x g.s.ay,ag t eW 33,ag y (eb x) 39,ba]=[al e.a.x e.a.s,ag e.a.kc (Cv e) 33,ag e.a.pc (qH e) 39,e.a.r.A]/\((∀(a:FuncId),aC a (cG e.a.n a))/\iu e.a.K e.a.x/\PG e.a.x e.a.s (e.a.os++e.a.ks)/\bv 3 1 (bC e.a.ks) e.a.r/\e.f<=e.a.n/\bo e.a.K e.a.x e.f ((fun(a:List Int)=>ar.ey a) e.a.ks) e.a.s≠PR.out)/\cI e.a.K e.a.x (aH (HA g F y x u w t) [0,13000,1000,999])/\(∀(d:List Int×aw×Row),(bo e.a.K e.a.x e.f ((fun(a:List Int)=>ar.ey a) e.a.ks) e.a.s=PR.ok d.fst d.snd.fst/\bv 3 1 (bC d.fst) d.snd.snd/\PG e.a.x d.snd.fst (e.a.os++d.fst))->dS ⟨y,0,none⟩ e.a.pc/\dS ⟨t,0,none⟩ e.a.kc/\ax u 3/\dc [ah (nB e),agg ⟨[ae 6,aj ⟨#[]⟩,float f64 0,au d.snd.snd.a d.snd.snd.n d.snd.snd.cap,ae (cu w.L w.fin w.i).pos]⟩] [al e.a.x d.snd.fst,d.snd.snd.A] (TF x F e u w d))/\∀(c:Int×Int),(∃(b:aw),bo e.a.K e.a.x e.f ((fun(a:List Int)=>ar.ey a) e.a.ks) e.a.s=PR.stop c.fst c.snd b)->aq (bk fun(a:Unit)=>ar.fx) x F (ci c) (V4 F u w)) (fun g d=>ax y 0/\l6 (eb x) (aH (HD g F y x u w t) []) (fun c b=>aq (bk fun(a:Unit)=>ar.fx) x F (kG c) (HD g F y x u w t)))))))))))))))))):=by
 delta je fm cg eb T1 dw mT mU dI pd lR lS dc lm fK q0 LW M_ Ik rT rU gW eW CD Mr cw kI ci MO j_ fX HA gD gO HD bJ nB u6 Cv qH TF V4 l6 kG dK aH al ax cF ae aj ak ah au ag ba az;obtain⟨K,x,s,os,n,tp⟩:=x;obtain⟨ih,hK,hG,hp,dP,cJ,ho⟩:=hc;replace hr:cI K x F:=hr;replace ho:bo K x (n+1) .fx s≠.out:=ho;dsimp only at ih hK hG hp dP cJ⊢;obtain⟨r,e0⟩:∃r,bo K x (n+1) .fx s=r:=⟨_,rfl⟩;rw[e0]at ho;have hk:=e0;unfold bo at hk;rw[P]at hk;have hl:=hK.len;rw[pl]at hk;intro pc;refine⟨ap,?_⟩;refine bp l9 (x.p s) hl (hr.ls.di 0 1 aM aM rfl rfl) fun _ _ c=>?_
 repeat (refine⟨ap,?_⟩)
 refine aG (fun h1=>?_) (fun h1=>?_)
 ·replace h1:((aI x.L x.fin s).kind==3)=true:=h1;rw[h1,bf,mn,jx]at hk;have g1:=hG.step (zD h1 (by decide));refine⟨ap,?_⟩;refine⟨_,d_ fun _=>rfl,oZ (i:=s.i) (i_ hG.i hl),gQ rfl rfl rfl,rfl,⟨x,s,s.ay,1,_⟩,rfl,rfl,⟨fun _=>rfl,rfl,bd,rfl,rfl⟩,ao,fun _ _=>?_⟩;refine⟨ap,ap,ap,?_⟩;refine bV fv ⟨x,s.ay,⟨1,.empty,(aI x.L x.fin s).num,[],(aI x.L x.fin s).pos⟩,dF⟩ ⟨by have:=g1.cap hl;dsimp only[aw.ay,aw.add]at*;omega,.nil rfl⟩ fun _ _=>?_;exact eH (e0.trans hk.symm)
 replace h1:((aI x.L x.fin s).kind==3)=false:=h1;rw[h1,aU]at hk;refine aG (fun h2=>?_) (fun h2=>?_)
 ·replace h2:((aI x.L x.fin s).kind==4)=true:=h2;rw[h2,bf,mn,jx]at hk;have g1:=hG.step (zD h2 (by decide));refine⟨ap,?_⟩;refine⟨_,d_ fun _=>rfl,oZ (i:=s.i) (i_ hG.i hl),gQ rfl rfl rfl,rfl,⟨x,s,s.ay,1,_⟩,rfl,rfl,⟨fun _=>rfl,rfl,bd,rfl,rfl⟩,ao,fun _ _=>?_⟩;refine⟨ap,ap,ap,?_⟩;refine bV fv ⟨x,s.ay,⟨2,(aI x.L x.fin s).text,0,[],(aI x.L x.fin s).pos⟩,dF⟩ ⟨by have:=g1.cap hl;dsimp only[aw.ay,aw.add]at*;omega,.nil rfl⟩ fun _ _=>?_;exact eH (e0.trans hk.symm)
 replace h2:((aI x.L x.fin s).kind==4)=false:=h2;rw[h2,aU]at hk;refine aG (fun h3=>?_) (fun h3=>?_)
 ·replace h3:((aI x.L x.fin s).kind==1)=true:=h3;rw[h3,bf,mn,jx]at hk;have g1:=hG.step (zD h3 (by decide));refine⟨ap,?_⟩;refine⟨_,d_ fun _=>rfl,oZ (i:=s.i) (i_ hG.i hl),gQ rfl rfl rfl,rfl,⟨x,s,s.ay,1,_⟩,rfl,rfl,⟨fun _=>rfl,rfl,bd,rfl,rfl⟩,ao,fun _ _=>?_⟩;refine⟨ap,ap,ap,?_⟩;refine bV fv ⟨x,s.ay,⟨3,(aI x.L x.fin s).text,0,[],(aI x.L x.fin s).pos⟩,dF⟩ ⟨by have:=g1.cap hl;dsimp only[aw.ay,aw.add]at*;omega,.nil rfl⟩ fun _ _=>?_;exact eH (e0.trans hk.symm)
 replace h3:((aI x.L x.fin s).kind==1)=false:=h3;rw[h3,aU,mV]at hk;intro kc;refine⟨ap,?_⟩;have hi0:=hG.i;have c0:x.L.length<=1048576/\s.i<=1048576/\0<=1048576:=⟨hl,i_ hi0 hl,dC _⟩;refine mo (A:=(bE x.L s 0 IL||(bE x.L s 0 IJ||bE x.L s 0 IK))=true) (fun kx=>bp kY ⟨x.p s,0,IL⟩ c0 (hr.ls.di 0 1 aM aM rfl rfl) fun _ _=>aG (fun h4=>kx ?_) (fun h4=>⟨ap,kY,rfl,⟨x.p s,0,IJ⟩,rfl,rfl,c0,hr.ls.di 0 1 aM aM rfl rfl,fun _ _=>aG (fun h5=>kx ?_) (fun h5=>⟨ap,kY,rfl,⟨x.p s,0,IK⟩,rfl,rfl,c0,hr.ls.di 0 1 aM aM rfl rfl,fun _ _=>aG (fun h6=>kx ?_) (fun h6=>?_)⟩)⟩)) (fun hx=>?_)
 rotate_right
 ·rw[hx,bf,mn,jx]at hk;have hi:s.i<x.L.length:=by
   rw[Bool.or_eq_true,Bool.or_eq_true]at hx;rcases hx with h|h|h <;> exact j5 h
  have g1:=hG.step hi;refine⟨ap,?_⟩;refine⟨_,d_ fun _=>rfl,oZ (i:=s.i) (i_ hG.i hl),gQ rfl rfl rfl,rfl,⟨x,s,s.ay,1,_⟩,rfl,rfl,⟨fun _=>rfl,rfl,bd,rfl,rfl⟩,ao,fun _ _=>?_⟩;refine⟨ap,ap,ap,?_⟩;refine bV fv ⟨x,s.ay,⟨4,(aI x.L x.fin s).text,0,[],(aI x.L x.fin s).pos⟩,dF⟩ ⟨by have:=g1.cap hl;dsimp only[aw.ay,aw.add]at*;omega,.nil rfl⟩ fun _ _=>?_;exact eH (e0.trans hk.symm)
 ·rw[show bE x.L s 0 IL=true from h4];rfl
 ·rw[show bE x.L s 0 IJ=true from h5,Bool.true_or,n7]
 ·rw[show bE x.L s 0 IK=true from h6,n7,n7]
 rw[show bE x.L s 0 IL=false from h4,show bE x.L s 0 IJ=false from h5,show bE x.L s 0 IK=false from h6,Bool.or_self,Bool.or_self,aU]at hk;refine⟨ap,?_⟩;refine bp kY ⟨x.p s,0,vd⟩ ⟨hl,by have:=hG.i;show s.i<=1048576;omega,bd⟩ (hr.ls.di 0 1 aM aM rfl rfl) fun _ _=>?_;refine aG (fun h7=>?_) (fun h7=>?_)
 ·replace h7:bE x.L s 0 vd=true:=h7;rw[h7,bf]at hk;refine⟨ap,?_⟩;exact ca hG (wI hk ho) (fun _ _ q _ _ _ _ _ _ _=>eH (e0.trans q.symm)) (cL:=ao) (cC:=j5 h7) (cU:=ao)
 rw[show bE x.L s 0 vd=false from h7,aU]at hk;refine⟨ap,?_⟩;refine bp kV ⟨x,s,lp⟩ ⟨hl,hG.i⟩ (hr.ls.sub (b_ 1)) ⟨fun _ q=>?_,fun _ q=>?_⟩
 ·rw[ml q,bf]at hk;have g1:=hG.is q;refine⟨ap,?_⟩;refine ca g1 (fL hk ho) (fun k t1 hk g2 oi ow nZ oq nR oL=>?_) (cL:=ao) (cC:=ao) (cU:=ao);dsimp only[ar.sl,aw.ay,aw.add]at oi ow nZ oq nR oL;refine⟨ap,?_⟩;refine ma g2 hk (fun hk g3=>?_);exact eH (e0.trans hk.symm)
 rw[mW q,aU]at hk;refine⟨ap,?_⟩;refine bp kV ⟨x,s,lb⟩ ⟨hl,hG.i⟩ (hr.ls.sub (b_ 1)) ⟨fun _ q=>?_,fun _ q=>?_⟩
 ·rw[ml q,bf]at hk;have g1:=hG.is q;have oo:bo K x n (.dY []) s.ay≠.out:=Ob (by rw[hk];exact ho);refine⟨ap,akw,rfl,⟨⟨K,x,s.ay,os,n,kc,pc,[],dF⟩,n⟩,rfl,rfl,⟨ih,hK,g1.cast (dJ _).symm,.nil rfl,cr _,oo⟩,hr.sub (b_ 1),fun a qq=>?_,fun a⟨u,qq⟩=>⟨.inr a,⟨u,e0.trans (hk.symm.trans (Fs qq))⟩,rfl,aB [1]⟩⟩;obtain⟨ks,t1,r'⟩:=a;obtain⟨q1,bB,g2⟩:=qq;replace q1:bo K x n (.dY []) s.ay= .ok ks t1:=q1;replace g2:PG x t1 (os++ks):=g2;rw[Fq q1,jx]at hk;refine⟨ap,ap,ap,?_⟩;refine bV fv ⟨x,t1,⟨5,.empty,0,ks,(aI x.L x.fin s).pos⟩,r'⟩ ⟨by have:=g2.cap hl;dsimp only[aw.ay,aw.add]at*;omega,bB⟩ fun _ _=>?_;exact eH (e0.trans hk.symm)
 rw[mW q,aU]at hk;refine⟨ap,?_⟩;refine bp kV ⟨x,s,lc⟩ ⟨hl,hG.i⟩ (hr.ls.sub (b_ 1)) ⟨fun _ q=>?_,fun _ q=>?_⟩
 ·rw[ml q,bf]at hk;have g1:=hG.is q;have oo:bo K x n (.ey []) s.ay≠.out:=Ob (by rw[hk];exact ho);refine⟨ap,aky,rfl,⟨⟨K,x,s.ay,os,n,kc,pc,[],dF⟩,n⟩,rfl,rfl,⟨ih,hK,g1.cast (dJ _).symm,.nil rfl,cr _,oo⟩,hr.sub (b_ 1),fun a qq=>?_,fun a⟨u,qq⟩=>⟨.inr a,⟨u,e0.trans (hk.symm.trans (Fs qq))⟩,rfl,aB [1]⟩⟩;obtain⟨ks,t1,r'⟩:=a;obtain⟨q1,bB,g2⟩:=qq;replace q1:bo K x n (.ey []) s.ay= .ok ks t1:=q1;replace g2:PG x t1 (os++ks):=g2;rw[Fq q1,jx]at hk;refine⟨ap,ap,ap,?_⟩;refine bV fv ⟨x,t1,⟨6,.empty,0,ks,(aI x.L x.fin s).pos⟩,r'⟩ ⟨by have:=g2.cap hl;dsimp only[aw.ay,aw.add]at*;omega,bB⟩ fun _ _=>?_;exact eH (e0.trans hk.symm)
 rw[mW q,aU]at hk;refine⟨ap,?_⟩;exact bp ru (x.p s) hl (hr.ls.di 0 1 aM aM rfl rfl) fun _ _=>⟨.inr (_,_),⟨_,e0.trans hk.symm⟩,rfl,aB [1]⟩
theorem anc:aC 106 (bk (fun(_:Unit)=>ar.fx)):=fo 122 Tryz.func106 anb [] aY aY bz [] ane
end
end Go.Proofs.YtdkchodgklpomaaGreatDoor
