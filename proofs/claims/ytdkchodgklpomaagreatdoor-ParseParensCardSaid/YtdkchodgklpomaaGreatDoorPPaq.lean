/- Part of the proof that ParseParens answers true at every input. -/
import Derived.Test.YtdkchodgklpomaaGreatDoorPPap
set_option linter.all false
namespace Go.Proofs.YtdkchodgklpomaaGreatDoor
set_option maxRecDepth 100000
open Go.Value (int slice string bool pointer agg tuple func float iface nilIface)
open Go.IntKind (i64 u8 u64 i32 u32 u16 i8 i16)
open Go.FloatKind (f64)
open Go.Ending (returned panicked)
section
open Go
def dc(K:bQ)(x:cf)(n:Nat):PM Unit:=P x.L x.fin K.tv bx n (.prog [])>>=fun _=>ret ()
def bS(K:bQ)(x:cf)(n:Nat):PM Unit:=j4 x.L x.fin K.tv bx n
structure nY where
 K:bQ
 x:cf
 s:al
 n:Nat
def mo(x:nY):Option Addr:=some ⟨x.x.b,0,none⟩
def mI(M:bQ->cf->Nat->PM Unit):aQ where
 X:=nY
 Y:=al ⊕ (Int×Int)
 args x:=[ag (mo x)]
 pre x:=[ak x.x x.s]
 cond x:=gM x.K x.x/\PG x.x x.s []/\M x.K x.x x.n x.s≠.out
 aO x F:=cA x.K x.x F
 bZ x y:=match y with
  | .inl t=>M x.K x.x x.n x.s= .ok () t/\(∃os,bR x.x.fin t os)/\t.nodes.length<=4194304
  | .inr a=>∃t,M x.K x.x x.n x.s= .stop a.1 a.2 t
 val x y:=match y with
  | .inl _=>.returned (.tuple #[])
  | .inr a=>.panicked [⟨iz a.1 a.2,false,false⟩]
 post x y:=match y with
  | .inl t=>[ak x.x t]
  | .inr _=>[]
 eM _ _ _ hs h:=cA.sub hs h
 sum:=some (hU al (Int×Int))
def abE(x:nY)(a:ah):List (Nat×Nat×OH):=[(0,1,bu (cx x.n 14)),(1,3,c9),(1,7,.q [.ex 0 .slice]),(2,1,aW kS)]
theorem abG(x:nY)(F:ah)(w:(mI bS).cond x)(m:(mI bS).aO x F):cq x.n 14 [ag (mo x)] [ak x.x x.s] (aH [(0,ak x.x x.s),(1,F)] [0]) (fun h g=>true=true/\T1 (ak h.x g.snd) ⟨x.x.b,1,none⟩ (fun f=>eI (ak h.x g.snd) ⟨x.x.b,0,none⟩ (fun e d c=>aS (f<d) (kv [ag (mo x)] (aH (lf h g F) []) (fun b a=>ar (mI bS) x F (jt b) (lf h g F))) (ar (mI bS) x F eC (lf h g F))))) (fun h b=>ar (mI bS) x F (cd b) (hT F)):=by
 delta cq mo T1 eI ib kv lf jt eC cd hT dL aH ak ad ag au bd aS ax;obtain⟨K,x,s,n⟩:=x;obtain⟨v,u,l⟩:=w;replace m:cA K x F:=m;dsimp only at v u l⊢;have y:=Of n;obtain⟨r,e0⟩:∃r,bS K x n s=r:=⟨_,rfl⟩;rw[e0]at l;have hk:=e0;unfold bS j4 at hk;have hl:=v.len;refine ca u (zF hk l) (fun k t1 hk g1 o q j p i t=>?_) (cB:=ao) (ct:=ao) (cN:=ao);dsimp only[ap.sl,al.ay,al.add]at o q j p i t;rw[lU]at hk;refine⟨rfl,_,ef fun _=>rfl,_,_,_,ef fun _=>rfl,bo (fun h=>?_) (fun h=>?_)⟩
 ·replace h:(t1.i:Int)<(x.L.length:Int):=h;rw[bv (show t1.i<x.L.length by omega),aU,show iU x.L x.fin t1= .stop (aB x.L x.fin t1).pos 60 t1 from rfl]at hk;exact br pe (x.p t1) hl (m.ls.da 0 1 aL aL rfl rfl) fun _ _=>⟨.inr (_,_),⟨_,e0.trans hk.symm⟩,rfl,az [1]⟩
 ·replace h:¬(t1.i:Int)<(x.L.length:Int):=h;rw[bF (show ¬t1.i<x.L.length by omega),aM,zM]at hk;have cap:=g1.cap hl;exact⟨.inl t1,⟨e0.trans hk.symm,⟨_,g1.fo⟩,ae⟩,rfl,az [0,1]⟩
theorem abF:aC 13 (mI bS):=fo 16 Tryz.func13 abE [] aY aY bA [] abG
structure xH where
 t:al
 ks:List Int
 r:Row
 f:Nat
 c:Nat
def abI(x:nY)(F:ah):Nat->Option Inv:=fun
 |0=>some {X:=xH,P:=fun d=>PG x.x d.t d.ks/\bz 3 1 (bB d.ks) d.r/\d.f<=x.n/\(P x.x.L x.x.fin x.K.tv bx d.f (.prog d.ks)>>=fun _=>ret ()) d.t=dc x.K x.x x.n x.s,mu:=fun d=>d.f,lv:=fun d=>[(0,ag (mo x)),(2,ag (some ⟨d.c,0,none⟩))],st:=fun d=>[ak x.x d.t,F,(lH d.c 37 .empty 0 d.r 0),d.r.A]}
 |_=>none
def abJ(x:nY)(a:ah):List (Nat×Nat×OH):=[(0,1,.n 1010),(0,2,.w (eJ 1010)),(1,3,c9),(1,7,.q [.ex 0 .slice]),(2,1,aR 2),(2,3,bu (cx x.n 17)),(2,4,.n 3040),(2,5,.o (de 3 1 8) [3] [3]),(2,7,.w [.z00 2]),(3,1,.q (eJ 2)),(3,2,.c fD [0,3] [0])]
def HY(x:nY)(b:xH):=PG x.x b.t b.ks/\bz 3 1 (bB b.ks) b.r/\b.f<=x.n/\(P x.x.L x.x.fin x.K.tv bx b.f (ap.prog b.ks)>>=fun(a:List Int)=>ret ()) b.t=dc x.K x.x x.n x.s
def Cg(b:xH):List Value:=[ad 37,ai ByteArray.empty,float f64 0,au b.r.a b.r.n b.r.cap,ad 0]
def Ju(x:nY)(b:xH)(F:ah):=[(0,ak x.x b.t),(1,F),(2,af b.c (Cg b) 35),(3,b.r.A)]
theorem abL(x:nY)(F:ah)(E:(mI dc).cond x)(C:(mI dc).aO x F):∀(n:Nat),cz n ((∃(b:xH),HY x b/\(ag (mo x)=ag (mo x)/\ag (bI n)=ag (some ⟨b.c,0,none⟩)/\True)/\aE [(0,ak x.x x.s),(1,F),(1010,af n [ad 37,ai ⟨#[]⟩,float f64 0,au none 0 0,ad 0] 35)] (Ju x b F))/\aT fun(m:xH)_=>HY x m->true=true/\T1 (ak x.x m.t) ⟨x.x.b,1,none⟩ (fun k=>eI (ak x.x m.t) ⟨x.x.b,0,none⟩ (fun j i h=>aS (k<i) (true=true/\aw m.c 3/\cq x.n 17 [ag (mo x),aj true] [ak x.x m.t] (aH (Ju x m F) [0]) (fun g f=>∀(e:Nat),fz (ba Tryz.f16 2 5) [au m.r.a m.r.n m.r.cap,au (bI e) 1 1] [m.r.A] (aH [(0,ak g.x f.snd),(1,F),(2,af m.c (Cg m) 35),(3,m.r.A),(3040,af e (bN f) 3)] [3]) (fun d c=>aw m.c 3/\∃(b:xH),HY x b/\(ag (mo x)=ag (mo x)/\ag (some ⟨m.c,0,none⟩)=ag (some ⟨b.c,0,none⟩)/\True)/\aE [(0,ak g.x f.snd),(1,F),(2,af m.c [ad 37,ai ByteArray.empty,float f64 0,au c.a c.n c.cap,ad 0] 35),(3,c.A),(3040,af e (bN f) 3)] (Ju x b F)/\b.f<m.f)) (fun g b=>∀(a:Tm),ar (mI dc) x F (cd b) [(0,bd),(1,F),(2,af m.c (Cg m) 35),(3,m.r.A)])) (cz m.c (c7 [ag (mo x),agg ⟨Cg m⟩] [ak x.x m.t,m.r.A] (fun b a=>ar (mI dc) x F eC [(0,ak b.x (b.s.add b.n)),(1,F),(2,af m.c (Cg m) 35),(3,bd)])))))):=by
 delta HY mo bI Cg Ju T1 eI cq kF fz bN cd kg kh c7 eC dL aH ak aw cz ad ai aj ag au af bd aS ax aT;obtain⟨K,x,s,n⟩:=x;obtain⟨v,B,p⟩:=E;replace C:cA K x F:=C;dsimp only at v B p⊢;have J:=Of n;obtain⟨r,e0⟩:∃r,dc K x n s=r:=⟨_,rfl⟩;rw[e0]at p;have hk:=e0;unfold dc at hk;have hl:=v.len;intro c
 repeat (refine⟨aq,?_⟩)
 refine⟨⟨⟨s,[],dG,n,c⟩,⟨B,.nil rfl,bT _,rfl⟩,aV,az [0,1,1010,999]⟩,?_⟩;clear hk;rintro⟨t,ks,H,f,c⟩ L ⟨g,l,o,hk⟩;dsimp only at g l o hk⊢;rw[e0]at hk;obtain _|f:=f
 ·exact absurd hk (fun e=>p (e.symm.trans (by rw[P];rfl)))
 replace o:f<=n:=Nat.le_of_succ_le o;rw[P,eO]at hk;rw[lU]at hk;have G:=o4 (os:=[]) g hl;refine⟨rfl,_,ef fun _=>rfl,_,_,_,ef fun _=>rfl,bo (fun h=>?_) (fun h=>?_)⟩
 ·have hi:t.i<x.L.length:=by omega
  rw[bv hi,aU,eO]at hk;refine⟨rfl,aq,?_⟩;refine ca g ((ft hk p).up o) (fun k t1 hk g1 w z u y q A=>?_) (cB:=ao) (ct:=ao) (cN:=ao);dsimp only[ap.sl,al.ay,al.add]at w z u y q A;intro lb;refine kQ (ks:=ks) (k:=k) 3040 l ae (fun I D=>?_);exact⟨aq,⟨t1,ks++[k],I,f,c⟩,⟨g1,D,o,hk.trans e0.symm⟩,aV,az [0,1,2,3],io _⟩
 ·rw[bF (show ¬t.i<x.L.length by omega),aM,show(cg ⟨37,.empty,0,ks,0⟩>>=fun _=>(ret ():PM Unit)) t= .ok () (t.add ⟨37,.empty,0,ks,0⟩)from rfl]at hk;have cap:=g.cap hl
  repeat (refine⟨aq,?_⟩)
  refine bO e_ ⟨x,t,⟨37,.empty,0,ks,0⟩,H⟩ ⟨by have:=g.cap hl;dsimp only[al.ay,al.add]at*;omega,l⟩ fun _ _=>?_;refine⟨.inl (t.add ⟨37,.empty,0,ks,0⟩),⟨e0.trans hk.symm,⟨_,bR.node (os:=[]) g.fo ⟨cD 0,v.d6.f0⟩⟩,?_⟩,rfl,az [0,1]⟩;show(t.nodes++[_]).length<=_;rw[eS,A3];omega
theorem abK:aC 16 (mI dc):=fo 24 Tryz.func16 abJ [] abI aY bA [] abL
end
section
open Go
def nr:Code->Code
 | .seq a _=>a
 |c=>c
def iV:Nat->Code->Code
 |0,c=>c
 |n+1,.seq _ b=>iV n b
 |_+1,c=>c
noncomputable def k9:Code:=g_ Tryz.f12
noncomputable def D4:Func:={Tryz.f12 with body:=some (.seq (nr k9) (.seq (nr (iV 1 k9)) (.seq (nr (iV 2 k9)) (.seq (nr (iV 3 k9)) (.region 5 #[] false)))))}
noncomputable def s7:Func:={Tryz.f12 with body:=some (.seq .skip (iV 5 k9))}
noncomputable def Ol:Func:={Tryz.f21 with body:=some (.seq .skip (iV 1 (g_ Tryz.f21)))}
def GN(M:bQ->cf->Nat->PM Unit):aQ where
 X:=nY
 Y:=(al×eP) ⊕ (Int×Int)
 args x:=[ag (mo x)]
 pre x:=[ak x.x x.s]
 cond x:=gM x.K x.x/\PG x.x x.s []/\M x.K x.x x.n x.s≠.out
 aO x F:=cA x.K x.x F
 bZ x y:=match y with
  | .inl a=>(M x.K x.x x.n x.s= .ok () a.1/\(∃os,bR x.x.fin a.1 os)/\a.1.nodes.length<=4194304)/\a.2.ok a.1.nodes/\kO a.1.nodes a.2.vs
  | .inr a=>∃t,M x.K x.x x.n x.s= .stop a.1 a.2 t
 val x y:=match y with
  | .inl _=>.returned (.tuple #[])
  | .inr a=>.panicked [⟨iz a.1 a.2,false,false⟩]
 post x y:=match y with
  | .inl a=>[.cells x.x.b [.slice x.x.la x.x.L.length x.x.lc,.int .i64 a.1.i,.int .i64 x.x.fin,.slice a.2.r.a a.2.r.n a.2.r.cap,.int .i64 a.1.bw,.int .i64 a.1.loops,.int .i64 a.1.bn] 43,a.2.r.A,fR a.1.nodes a.2.vs]
  | .inr _=>[]
 eM _ _ _ hs h:=cA.sub hs h
 sum:=some (hU (al×eP) (Int×Int))
theorem TE{M:bQ->cf->Nat->PM Unit}{bJ:FuncId}(h:aC bJ (mI M)):aC bJ (GN M):=⟨fun x F I w j k hs=>(h.h x F I w j k hs).mono fun e w'⟨y,J,c,i,d,f,b⟩=>by
 match y with
 | .inl t=>
  obtain⟨v,l,g⟩:=HM (F:=F) f;obtain⟨_,hk,_⟩:=g.Oa (Y:=Unit) (R:=fun _=>kO t.nodes v.vs) (B:=fun _=>fR t.nodes v.vs) 2 fun _ _ h=>⟨(),xG.pure h,h⟩;exact⟨.inl (t,v),J,⟨c,l,hk⟩,i,d,g,b⟩
 | .inr a=>exact⟨.inr a,J,c,i,d,f,b⟩⟩
def ee:al:=⟨0,[],0,0,0⟩
structure o5 where
 K:bQ
 src:ByteArray
 bJ:FuncId
def o5.ip(x:o5)(r:Row):Prop:=x.src.size<=8192/\(co x.K x.src).2= -1/\bz 53 5 (hO (co x.K x.src).1) r/\(co x.K x.src).1.length<=x.src.size
def o5.dI(x:o5):Prop:=x.src.size>8192\/0<=(co x.K x.src).2
def pv:aQ where
 X:=o5
 args x:=[.string x.src,.func (.func x.bJ) #[] #[]]
 cond x:=aC 72 (nJ x.K)
 aO x F:=eH x.K F
 bZ x _:=x.dI
 val x _:=.returned (.tuple #[.agg #[.slice none 0 0],.int .i64 (i6 x.K x.src).1,.int .i64 (i6 x.K x.src).2])
structure CZ where
 b4:Nat
 b5:Nat
 b6:Nat
 p:Int
 e:Int
 r:Row
structure Al where
 b4:Nat
 b5:Nat
 b6:Nat
 b8:Nat
 r:Row
def Al.x(d:Al)(x:o5):cf:=⟨d.b8,d.r.a,d.r.cap,(co x.K x.src).1,x.src.size⟩
def Oh(x:o5)(F:ah):Nat->Option Inv:=fun
 |2=>some {X:=CZ,P:=fun d=>(d.e=0/\d.p=0/\x.ip d.r)\/(x.dI/\d.p=(i6 x.K x.src).1/\d.e=(i6 x.K x.src).2/\d.e≠0),mu:=fun _=>0,lv:=fun d=>[(0,.string x.src),(1,.func (.func x.bJ) #[] #[]),(4,.pointer (some ⟨d.b4,0,none⟩)),(5,.pointer (some ⟨d.b5,0,none⟩)),(6,.pointer (some ⟨d.b6,0,none⟩)),(7,.slice d.r.a d.r.n d.r.cap)],st:=fun d=>[F,af d.b4 eK 25,af d.b5 [ad d.p] 3,af d.b6 [ad d.e] 26,d.r.A]}
 |5=>some {X:=Al,P:=fun d=>x.ip d.r,mu:=fun _=>0,lv:=fun d=>[(1,.func (.func x.bJ) #[] #[]),(4,.pointer (some ⟨d.b4,0,none⟩)),(5,.pointer (some ⟨d.b5,0,none⟩)),(6,.pointer (some ⟨d.b6,0,none⟩)),(8,.pointer (some ⟨d.b8,0,none⟩))],st:=fun d=>[F,af d.b4 eK 25,af d.b5 [ad 0] 3,af d.b6 [ad 0] 26,ak (d.x x) ee,d.r.A]}
 |_=>none
def ahU(b:o5)(a:ah):List (Nat×Nat×OH):=[(0,0,.n 1000),(0,1,.n 1010),(0,2,.n 1020),(1,1,.c sV [] [997]),(1,7,.w [.z00 1010]),(1,8,.w [.z00 1020]),(2,0,aR 3),(3,1,aR 2),(3,2,aR 3),(3,3,.w [.z00 1]),(3,4,.w [.z00 2]),(3,5,.w [.z00 3]),(4,4,.n 5040)]
def uZ:List LH:=[.z00 1,.z00 2,.z00 3]
def Oi(_:o5):List (Nat×Value):=[]
noncomputable def V9(x:aQ.X pv)(F:ah):jc where
 op:=hk ((ahU x F)++[])
 yB:=(fun _ _ _=>none) x F
 cut:=Oh x F
 yT:=(fun _=>[])
def Qj(z:CZ)(e0:o5):=z.e=0/\z.p=0/\e0.ip z.r\/e0.dI/\z.p=(i6 e0.K e0.src).fst/\z.e=(i6 e0.K e0.src).snd/\z.e≠(0:Int)
def Qd(e1:ah)(z:CZ):=[(0,e1),(1,af z.b4 eK 25),(2,af z.b5 [ad z.p] 3),(3,af z.b6 [ad z.e] 26),(4,z.r.A)]
def Mf(e0:o5)(e1:ah)(v0 v1 v2 v3:Value)(a:St):=∃(z:CZ),Qj z e0/\(ai e0.src=ai e0.src/\func (Fn.func e0.bJ) ⟨[]⟩ ⟨[]⟩=func (Fn.func e0.bJ) ⟨[]⟩ ⟨[]⟩/\v0=ag (some ⟨z.b4,0,none⟩)/\v1=ag (some ⟨z.b5,0,none⟩)/\v2=ag (some ⟨z.b6,0,none⟩)/\v3=au z.r.a z.r.n z.r.cap/\True)/\aE a (Qd e1 z)
theorem ahW(x:o5)(F:ah)(k:pv.cond x)(l:pv.aO x F):∀(g f e:Nat),(aC 20 sV/\true=true/\∃(c:tV),[ai x.src]=[ai c.src]/\([]:List ah)=[]/\aC 72 (nJ c.K)/\eH c.K (aH [(0,F),(1000,af g eK 25),(1010,af f [ad 0] 3),(1020,af e [ad 0] 26)] [])/\(∀(b:Row),(c.src.size<=8192/\(co c.K c.src).snd=(-1:Int)/\bz 53 5 (hO (co c.K c.src).fst) b/\(co c.K c.src).fst.length<=c.src.size)->aw f 0/\aw e 0/\Mf x F (cE g) (cE f) (cE e) (kE b) [(0,F),(997,b.A),(1000,af g eK 25),(1010,af f [ad 0] 3),(1020,af e [ad 0] 26)])/\∀(b:Unit),(c.src.size>8192\/0<=(co c.K c.src).snd)->aw f 0/\aw e 0/\Mf x F (cE g) (cE f) (cE e) (au none 0 0) [(0,F),(997,bd),(1000,af g eK 25),(1010,af f [ad (i6 c.K c.src).fst] 3),(1020,af e [ad (i6 c.K c.src).snd] 26)])/\aT fun(d:CZ)_=>Qj d x->aw d.b6 0/\Br (d.e !=0) (true=true/\aw d.b5 0/\aw d.b6 0/\aw d.b4 0/\aw d.b5 0/\aw d.b6 0/\aw d.b4 0/\aw d.b5 0/\aw d.b6 0/\ar pv x F (ax (tuple ⟨[agg ⟨eK⟩,ad d.p,ad d.e]⟩)) (Qd F d)) ((∀(b:Nat),∃(a:Al),x.ip a.r/\(func (Fn.func x.bJ) ⟨[]⟩ ⟨[]⟩=func (Fn.func x.bJ) ⟨[]⟩ ⟨[]⟩/\ag (some ⟨d.b4,0,none⟩)=ag (some ⟨a.b4,0,none⟩)/\ag (some ⟨d.b5,0,none⟩)=ag (some ⟨a.b5,0,none⟩)/\ag (some ⟨d.b6,0,none⟩)=ag (some ⟨a.b6,0,none⟩)/\ag (bI b)=ag (some ⟨a.b8,0,none⟩)/\True)/\aE [(0,F),(1,af d.b4 eK 25),(2,af d.b5 [ad d.p] 3),(3,af d.b6 [ad d.e] 26),(4,d.r.A),(5040,af b [au d.r.a d.r.n d.r.cap,ad 0,ad ↑x.src.size,au none 0 0,ad 0,ad 0,ad 0] 43)] [(0,F),(1,af a.b4 eK 25),(2,af a.b5 [ad 0] 3),(3,af a.b6 [ad 0] 26),(4,ak (a.x x) ee),(5,a.r.A)])/\aT fun(b:Al)_=>x.ip b.r->True):=by
 delta eK Qj Qd Mf bI cE kE aH ak aw ad ai ag au af bd ax aT;intro b4 b5 b6;refine⟨br afR ⟨x.K,x.src⟩ k (eH.sub l (bP 0)) ⟨fun r h=>⟨aq,aq,⟨b4,b5,b6,0,0,r⟩,.inl ⟨rfl,rfl,h⟩,aV,az [0,1000,1010,1020,997]⟩,fun _ h=>⟨aq,aq,⟨b4,b5,b6,_,_,dG⟩,.inr ⟨h,rfl,rfl,?_⟩,aV,az [0,1000,1010,1020,997]⟩⟩,?_⟩
 ·show(i6 x.K x.src).2≠0;unfold i6;cases decide (x.src.size>8192)
  ·exact(show(50:Int)≠0 by decide)
  ·exact(show(2:Int)≠0 by decide)
 rintro⟨b4,b5,b6,p,e,r⟩ u h;dsimp only at h⊢;refine⟨aq,aG (fun i=>?_) (fun i=>⟨?_,?_⟩)⟩
 ·rcases h with⟨rfl,_⟩| ⟨h,rfl,rfl,_⟩
  ·cases i
  ·exact⟨rfl,aq,aq,aq,aq,aq,aq,aq,aq,(),h,rfl,az [0]⟩
 ·rcases h with⟨rfl,rfl,h⟩| ⟨_,_,_,h⟩;rotate_left
  ·exact absurd (by simpa using i) h
  intro b8;refine⟨⟨b4,b5,b6,b8,r⟩,h,aV,⟨fun I w hs=>?_⟩⟩;obtain⟨o,s,j,t⟩:=h;have hn:r.n=(co x.K x.src).1.length:=by
   have:=j.len;rw[Hk]at this;omega
  have s1:Sat I (bD ([F,.cells b4 [.slice none 0 0] 25,.cells b5 [.int .i64 0] 3,.cells b6 [.int .i64 0] 26,r.A]++[.cells b8 [.slice r.a (co x.K x.src).1.length r.cap,.int .i64 0,.int .i64 x.src.size,.slice none 0 0,.int .i64 0,.int .i64 0,.int .i64 0] 43,.d0,.d0])) w:=by
   rw[<-hn];exact hs.pick [0,1,2,3,4,5040,999,998] rfl rfl
  have s2:=s1.Cp (B:=fR [] []) 7 fun _ _ _=>ao;have m:Sat I (bD ([F,.cells b4 [.slice none 0 0] 25,.cells b5 [.int .i64 0] 3,.cells b6 [.int .i64 0] 26,r.A]++[.cells b8 [.slice r.a (co x.K x.src).1.length r.cap,.int .i64 0,.int .i64 x.src.size,.slice none 0 0,.int .i64 0,.int .i64 0,.int .i64 0] 43,dG.A,fR [] []])) w:=s2.pick [0,1,2,3,4,5,6,7] rfl rfl;have n:=m.Tn.Cp (B:=ak ((⟨b4,b5,b6,b8,r⟩:Al).x x) ee) 5 fun _ _ q=>⟨⟨dG,[]⟩,⟨.nil rfl,rfl⟩,q⟩;exact⟨I,a_.le_refl I,n.pick [0,1,2,3,5,4] rfl rfl⟩
 ·exact fun _ _ _=>ao
theorem ahV(x:aQ.X pv)(F:ah)(a:pv.cond x)(b:pv.aO x F):pW Tryz.prog 45 D4 (V9 x F) uZ (g_ D4) (mK (aQ.args pv x)) (bD (aQ.pre pv x++[F])) (Oi x) (ar pv x F):=
 Eq.mpr bl (ahW x F a b)
structure CX where
 b4:Nat
 b5:Nat
 b6:Nat
 p:Int
 e:Int
def nM:aQ where
 X:=CX
 args x:=[ag (some ⟨x.b4,0,none⟩),ag (some ⟨x.b5,0,none⟩),ag (some ⟨x.b6,0,none⟩),iz x.p x.e]
 pre x:=[af x.b4 eK 25,af x.b5 [ad 0] 3,af x.b6 [ad 0] 26]
 val _ _:=.returned (.tuple #[])
 post x _:=[af x.b4 eK 25,af x.b5 [ad x.p] 3,af x.b6 [ad x.e] 26]
def ahY(x:CX):List (Nat×Value):=[(0,.pointer (some ⟨x.b4,0,none⟩))]
def ahX(x:CX)(F:ah):Nat->Option Inv:=fun
 |1=>some {X:=Unit,P:=fun _=>True,mu:=fun _=>0,lv:=fun _=>[(0,ag (some ⟨x.b4,0,none⟩)),(1,ag (some ⟨x.b5,0,none⟩)),(2,ag (some ⟨x.b6,0,none⟩)),(3,iz x.p x.e)],st:=fun _=>[F,af x.b4 eK 25,af x.b5 [ad 0] 3,af x.b6 [ad 0] 26]}
 |_=>none
def ahZ(b:CX)(a:ah):List (Nat×Nat×OH):=[(2,2,.n 3020),(2,3,.w [.z00 3020,.z00 3020]),(3,2,aR 3020),(3,4,aR 3020),(3,5,.w [.z00 1]),(3,6,.w [.z00 2]),(3,7,.w [.z00 3])]
noncomputable def ah0(x:aQ.X nM)(F:ah):jc where
 op:=hk ((ahZ x F)++[])
 yB:=(fun _ _ _=>none) x F
 cut:=ahX x F
 yT:=(fun _=>[])
theorem ah2(x:CX)(F:ah)(d:nM.cond x)(e:nM.aO x F):(∃(a:Unit),True/\(ag (some ⟨x.b4,0,none⟩)=ag (some ⟨x.b4,0,none⟩)/\ag (some ⟨x.b5,0,none⟩)=ag (some ⟨x.b5,0,none⟩)/\ag (some ⟨x.b6,0,none⟩)=ag (some ⟨x.b6,0,none⟩)/\fh 51 (agg ⟨[ad x.p,ad x.e]⟩)=fh 51 (agg ⟨[ad x.p,ad x.e]⟩)/\True)/\aE [(0,af x.b4 eK 25),(1,af x.b5 [ad 0] 3),(2,af x.b6 [ad 0] 26),(3,F)] [(0,F),(1,af x.b4 eK 25),(2,af x.b5 [ad 0] 3),(3,af x.b6 [ad 0] 26)])/\aT fun(c:Unit)_=>True->∀(a:Nat),aw a 0/\aw a 1/\true=true/\aw a 0/\aw a 1/\aw x.b4 0/\aw x.b5 0/\aw x.b6 0/\ar nM x F eC [(0,F),(1,af x.b4 eK 25),(2,af x.b5 [ad x.p] 3),(3,af x.b6 [ad x.e] 26),(3020,af a [ad x.p,ad x.e] 51)]:=by
 delta eK eC aw ad ag au fh af ax aT;refine⟨⟨(),ao,aV,az [3,0,1,2]⟩,fun _ f _ b=>?_⟩;exact⟨aq,aq,rfl,aq,aq,aq,aq,aq,(),ao,rfl,az [1,2,3,0]⟩
theorem ah1(x:aQ.X nM)(F:ah)(a:nM.cond x)(b:nM.aO x F):pW Tryz.prog 15 Ol (ah0 x F) [] (g_ Ol) (mK (aQ.args nM x)) (bD (aQ.pre nM x++[F])) (ahY x) (ar nM x F):=
 Eq.mpr bl (ah2 x F a b)
end
section
open Go
structure ku where
 K:bQ
 x:cf
 n:Nat
 b4:Nat
 b5:Nat
 b6:Nat
 r:Row
structure Sv where
 nodes:List cj
 e:Int
 y:eP
def oh(ns:List cj):List cj×Int:=bif decide (ns.length>4096)||lA ns then ([],4) else (ns,0)
def eW(bJ:FuncId)(M:bQ->cf->Nat->PM Unit):aQ where
 X:=ku
 Y:=Sv ⊕ (Int×Int)
 args x:=[undef,.func (.func bJ) #[] #[],undef,undef,.pointer (some ⟨x.b4,0,none⟩),.pointer (some ⟨x.b5,0,none⟩),.pointer (some ⟨x.b6,0,none⟩),undef,.pointer (some ⟨x.x.b,0,none⟩)]
 pre x:=[af x.b4 eK 25,af x.b5 [ad 0] 3,af x.b6 [ad 0] 26,ak x.x ee,x.r.A]
 cond x:=aC bJ (mI M)/\gM x.K x.x/\M x.K x.x x.n ee≠.out/\bz 53 5 (hO x.x.L) x.r/\x.x.la=x.r.a
 aO x F:=eH x.K F/\iA F
 bZ x y:=match y with
  | .inl a=>(∃t,M x.K x.x x.n ee= .ok () t/\oh t.nodes=(a.nodes,a.e))/\a.y.ok a.nodes/\kO a.nodes a.y.vs
  | .inr a=>∃t,M x.K x.x x.n ee= .stop a.1 a.2 t
 val x y:=match y with
  | .inl a=>.returned (.tuple #[.agg #[.slice a.y.r.a a.y.r.n a.y.r.cap],.int .i64 0,.int .i64 a.e])
  | .inr a=>.panicked [⟨iz a.1 a.2,false,false⟩]
 post x y:=match y with
  | .inl a=>[a.y.r.A,fR a.nodes a.y.vs]
  | .inr _=>[.cells x.b4 [.slice none 0 0] 25,.cells x.b5 [.int .i64 0] 3,.cells x.b6 [.int .i64 0] 26]
 sum:=some (hU Sv (Int×Int))
def HL(bJ:FuncId)(x:ku)(F:ah):Nat->Option Inv:=fun
 |6=>some {X:=Unit,P:=fun _=>True,mu:=fun _=>0,lv:=fun _=>[(1,.func (.func bJ) #[] #[]),(4,.pointer (some ⟨x.b4,0,none⟩)),(5,.pointer (some ⟨x.b5,0,none⟩)),(6,.pointer (some ⟨x.b6,0,none⟩)),(8,.pointer (some ⟨x.x.b,0,none⟩))],st:=fun _=>[F,af x.b4 eK 25,af x.b5 [ad 0] 3,af x.b6 [ad 0] 26,ak x.x ee,x.r.A]}
 |_=>none
def V_(M:bQ->cf->Nat->PM Unit)(b:ku)(a:ah):List (Nat×Nat×OH):=[(6,2,.c (GN M) [4] [4,6,7]),(7,3,.q [.z00 4]),(7,8,.c yn [4,6,7] [4,6,7]),(8,1,.w [.z00 1]),(8,2,.w [.z00 2]),(8,3,.w [.z00 3]),(9,3,.q [.z00 4]),(9,5,.w [.z00 1]),(9,6,.w [.z00 2]),(9,7,.w [.z00 3])]
def Bt(x:ku):List (Nat×Value):=[(4,.pointer (some ⟨x.b4,0,none⟩)),(5,.pointer (some ⟨x.b5,0,none⟩)),(6,.pointer (some ⟨x.b6,0,none⟩))]
theorem DB{F:ah}:aE (bD [.d0,.d0,F]) (bD [dG.A,fR [] [],F]):=⟨fun I _ h=>⟨I,a_.le_refl I,(h.Cp (B:=fR [] []) 1 fun _ _ _=>ao).pick [0,1,2] rfl rfl⟩⟩
variable{ns:List cj}
theorem M1(h:ns.length>4096):oh ns=([],4):=by unfold oh;rw[bv h];rfl
theorem M0(h:lA ns=true):oh ns=([],4):=by unfold oh;rw[h,mc];rfl
theorem GL(h:¬ns.length>4096)(a:lA ns=false):oh ns=(ns,0):=by unfold oh;rw[bF h,a];rfl
noncomputable def V7(x:aQ.X (eW 16 dc))(F:ah):jc where
 op:=hk (((V_ dc) x F)++[])
 yB:=(fun _ _ _=>none) x F
 cut:=(HL 16) x F
 yT:=(fun _=>[])
def wJ(x:ku):Option Addr:=some ⟨x.b4,0,none⟩
def wK(x:ku):Option Addr:=some ⟨x.b5,0,none⟩
def wL(x:ku):Option Addr:=some ⟨x.b6,0,none⟩
def th(x:ku):Option Addr:=some ⟨x.x.b,0,none⟩
def Je(x:ku)(F:ah):=[(0,af x.b4 eK 25),(1,af x.b5 [ad 0] 3),(2,af x.b6 [ad 0] 26),(3,ak x.x ee),(4,x.r.A),(5,F)]
def BA(F:ah)(x:ku):=[(0,F),(1,af x.b4 eK 25),(2,af x.b5 [ad 0] 3),(3,af x.b6 [ad 0] 26),(4,ak x.x ee),(5,x.r.A)]
def BL:=ax (tuple ⟨[agg ⟨eK⟩,ad 0,ad 4]⟩)
def E8(d:nY)(c:al×eP):List Value:=[au d.x.la d.x.L.length d.x.lc,ad ↑c.fst.i,ad d.x.fin,au c.snd.r.a c.snd.r.n c.snd.r.cap,ad c.fst.bw,ad c.fst.loops,ad c.fst.bn]
def IL(F:ah)(x:ku)(d:nY)(c:al×eP):=[(0,F),(1,af x.b4 eK 25),(2,af x.b5 [ad 0] 3),(3,af x.b6 [ad 4] 26),(4,af d.x.b (E8 d c) 43),(5,x.r.A),(6,c.snd.r.A),(7,eT (Kf.rest c.fst.nodes c.snd.vs))]
def Gm(aa:List Value)(pp:List ah)(a:n4->Unit->Prop):=aC 22 yn/\true=true/\∃(z:n4),aa=[ag (nQ z)]/\pp=[af z.x.b (uD z) 43,z.y.r.A,eT (Kf.rest z.s.nodes z.y.vs)]/\(z.y.ok z.s.nodes/\kO z.s.nodes z.y.vs/\bR z.x.fin z.s z.os/\z.s.nodes.length<=4194304)/\True/\∀(b:Unit),True->a z b
def II(F:ah)(x:ku)(b:n4):=[(0,F),(1,af x.b4 eK 25),(2,af x.b5 [ad 0] 3),(3,af x.b6 [ad 4] 26),(4,af b.x.b (uD b) 43),(5,x.r.A),(6,b.y.r.A),(7,eT (Kf.rest b.s.nodes b.y.vs))]
def Jn(b:n4):=ax (tuple ⟨[agg ⟨[au b.y.r.a b.y.r.n b.y.r.cap]⟩,ad 0,ad 0]⟩)
def Iu(F:ah)(x:ku)(b:n4):=[(0,F),(1,af x.b4 [au b.y.r.a b.y.r.n b.y.r.cap] 25),(2,af x.b5 [ad 0] 3),(3,af x.b6 [ad 0] 26),(4,af b.x.b (uD b) 43),(5,x.r.A),(6,b.y.r.A),(7,eT (Kf.rest b.s.nodes b.y.vs))]
def Il(x:ku):=ag (wJ x)=ag (wJ x)/\ag (wK x)=ag (wK x)/\ag (wL x)=ag (wL x)/\True
def Jg(F:ah)(x:ku):=[(0,F),(1,af x.b4 eK 25),(2,af x.b5 [ad 0] 3),(3,af x.b6 [ad 0] 26),(4,bd),(5,x.r.A)]
theorem ahc(x:ku)(F:ah)(B:(eW 16 dc).cond x)(C:(eW 16 dc).aO x F):(∃(a:Unit),True/\(func (Fn.func 16) ⟨[]⟩ ⟨[]⟩=func (Fn.func 16) ⟨[]⟩ ⟨[]⟩/\ag (wJ x)=ag (wJ x)/\ag (wK x)=ag (wK x)/\ag (wL x)=ag (wL x)/\ag (th x)=ag (th x)/\True)/\aE (Je x F) (BA F x))/\aT fun(f:Unit)_=>True->aC 16 (GN dc)/\true=true/\∃(d:nY),[ag (th x)]=[ag (mo d)]/\[ak x.x ee]=[ak d.x d.s]/\(gM d.K d.x/\PG d.x d.s []/\dc d.K d.x d.n d.s≠PR.out)/\cA d.K d.x (aH (BA F x) [4])/\(∀(c:al×eP),((dc d.K d.x d.n d.s=PR.ok () c.fst/\(∃(a:List Int),bR d.x.fin c.fst a)/\c.fst.nodes.length<=4194304)/\c.snd.ok c.fst.nodes/\kO c.fst.nodes c.snd.vs)->d9 ⟨x.x.b,3,none⟩ d.x.b/\aS ((c.snd.r.n:Int)>4096) (aw x.b4 0/\aw x.b5 0/\aw x.b6 0/\aw x.b4 0/\aw x.b5 0/\aw x.b6 0/\ar (eW (16:FuncId) dc) x F BL (IL F x d c)) (Gm [ag (th x)] [af d.x.b (E8 d c) 43,c.snd.r.A,eT (Kf.rest c.fst.nodes c.snd.vs)] (fun b a=>Br (lA b.s.nodes) (aw x.b4 0/\aw x.b5 0/\aw x.b6 0/\aw x.b4 0/\aw x.b5 0/\aw x.b6 0/\ar (eW (16:FuncId) dc) x F BL (II F x b)) (d9 ⟨x.x.b,3,none⟩ b.x.b/\aw x.b4 0/\aw x.b5 0/\aw x.b6 0/\aw x.b4 0/\aw x.b5 0/\aw x.b6 0/\ar (eW (16:FuncId) dc) x F (Jn b) (Iu F x b)))))/\∀(b:Int×Int),(∃(a:al),dc d.K d.x d.n d.s=PR.stop b.fst b.snd a)->Il x/\ar (eW (16:FuncId) dc) x F (cd b) (Jg F x):=by
 delta wJ wK wL th eK Je BA mo BL E8 IL nQ uD Gm II Jn Iu Il cd Jg dL aH ak aw ad ag au af eT bd aS ax aT;obtain⟨K,x,n,b4,b5,b6,r⟩:=x;obtain⟨v,u,w,g,j⟩:=B;obtain⟨k,l⟩:=C;dsimp only at v u w g j k l⊢;refine⟨⟨(),ao,aV,az [5,0,1,2,3,4]⟩,fun _ D _=>?_⟩;have hn:r.n=x.L.length:=by
  have:=g.len;rw[Hk]at this;omega
 have z:PG x ee []:=⟨df _,⟨List.Perm.refl _,List.Pairwise.nil,fun i x h=>by simp[ee]at h,fun x h=>by simp[ee]at h⟩,bT _,⟨cD 0,cD 0⟩,⟨cD 0,cD 0⟩,⟨cD 0,cD 0⟩⟩;refine br (TE v) ⟨K,x,ee,n⟩ ⟨u,z,w⟩ ⟨⟨?_,?_⟩,eH.sub k (bP 0),iA.sub l (bP 0)⟩ ⟨?_,?_⟩
 ·rw[j,<-hn];exact g.src
 ·rw[j];exact g.Ct.sub (bP 5)
 ·rintro⟨t,y⟩ ⟨⟨m,⟨os,q⟩,s⟩,o,hk⟩;dsimp only at m q s o hk⊢;have hl:=o.len;refine⟨aq,bo (fun A=>?_) (fun A=>?_)⟩
  ·exact⟨aq,aq,aq,aq,aq,aq,.inl ⟨[],4,⟨dG,[]⟩⟩,⟨⟨t,m,M1 ae⟩,⟨.nil rfl,rfl⟩,ao⟩,rfl,aE.trans (az [999,998,0]) DB⟩
  ·refine bO TS ⟨x,t,y,os⟩ ⟨o,hk,q,s⟩ fun _ _=>aG (fun hd=>?_) (fun hd=>?_)
   ·exact⟨aq,aq,aq,aq,aq,aq,.inl ⟨[],4,⟨dG,[]⟩⟩,⟨⟨t,m,M0 hd⟩,⟨.nil rfl,rfl⟩,ao⟩,rfl,aE.trans (az [999,998,0]) DB⟩
   ·exact⟨aq,aq,aq,aq,aq,aq,aq,.inl ⟨t.nodes,0,y⟩,⟨⟨t,m,GL ae hd⟩,o,hk⟩,rfl,az [6,7,0]⟩
 ·rintro⟨p,e⟩ h;exact⟨aV,.inr (p,e),h,rfl,az [1,2,3,0]⟩
theorem ahb(x:aQ.X (eW 16 dc))(F:ah)(a:(eW 16 dc).cond x)(b:(eW 16 dc).aO x F):pW Tryz.prog 45 s7 (V7 x F) uZ (g_ s7) (mK (aQ.args (eW 16 dc) x)) (bD (aQ.pre (eW 16 dc) x++[F])) (Bt x) (ar (eW 16 dc) x F):=
 Eq.mpr bl (ahc x F a b)
noncomputable def V6(x:aQ.X (eW 13 bS))(F:ah):jc where
 op:=hk (((V_ bS) x F)++[])
 yB:=(fun _ _ _=>none) x F
 cut:=(HL 13) x F
 yT:=(fun _=>[])
theorem ag6(x:ku)(F:ah)(B:(eW 13 bS).cond x)(C:(eW 13 bS).aO x F):(∃(a:Unit),True/\(func (Fn.func 13) ⟨[]⟩ ⟨[]⟩=func (Fn.func 13) ⟨[]⟩ ⟨[]⟩/\ag (wJ x)=ag (wJ x)/\ag (wK x)=ag (wK x)/\ag (wL x)=ag (wL x)/\ag (th x)=ag (th x)/\True)/\aE (Je x F) (BA F x))/\aT fun(f:Unit)_=>True->aC 13 (GN bS)/\true=true/\∃(d:nY),[ag (th x)]=[ag (mo d)]/\[ak x.x ee]=[ak d.x d.s]/\(gM d.K d.x/\PG d.x d.s []/\bS d.K d.x d.n d.s≠PR.out)/\cA d.K d.x (aH (BA F x) [4])/\(∀(c:al×eP),((bS d.K d.x d.n d.s=PR.ok () c.fst/\(∃(a:List Int),bR d.x.fin c.fst a)/\c.fst.nodes.length<=4194304)/\c.snd.ok c.fst.nodes/\kO c.fst.nodes c.snd.vs)->d9 ⟨x.x.b,3,none⟩ d.x.b/\aS ((c.snd.r.n:Int)>4096) (aw x.b4 0/\aw x.b5 0/\aw x.b6 0/\aw x.b4 0/\aw x.b5 0/\aw x.b6 0/\ar (eW (13:FuncId) bS) x F BL (IL F x d c)) (Gm [ag (th x)] [af d.x.b (E8 d c) 43,c.snd.r.A,eT (Kf.rest c.fst.nodes c.snd.vs)] (fun b a=>Br (lA b.s.nodes) (aw x.b4 0/\aw x.b5 0/\aw x.b6 0/\aw x.b4 0/\aw x.b5 0/\aw x.b6 0/\ar (eW (13:FuncId) bS) x F BL (II F x b)) (d9 ⟨x.x.b,3,none⟩ b.x.b/\aw x.b4 0/\aw x.b5 0/\aw x.b6 0/\aw x.b4 0/\aw x.b5 0/\aw x.b6 0/\ar (eW (13:FuncId) bS) x F (Jn b) (Iu F x b)))))/\∀(b:Int×Int),(∃(a:al),bS d.K d.x d.n d.s=PR.stop b.fst b.snd a)->Il x/\ar (eW (13:FuncId) bS) x F (cd b) (Jg F x):=by
 delta wJ wK wL th eK Je BA mo BL E8 IL nQ uD Gm II Jn Iu Il cd Jg dL aH ak aw ad ag au af eT bd aS ax aT;obtain⟨K,x,n,b4,b5,b6,r⟩:=x;obtain⟨v,u,w,g,j⟩:=B;obtain⟨k,l⟩:=C;dsimp only at v u w g j k l⊢;refine⟨⟨(),ao,aV,az [5,0,1,2,3,4]⟩,fun _ D _=>?_⟩;have hn:r.n=x.L.length:=by
  have:=g.len;rw[Hk]at this;omega
 have z:PG x ee []:=⟨df _,⟨List.Perm.refl _,List.Pairwise.nil,fun i x h=>by simp[ee]at h,fun x h=>by simp[ee]at h⟩,bT _,⟨cD 0,cD 0⟩,⟨cD 0,cD 0⟩,⟨cD 0,cD 0⟩⟩;refine br (TE v) ⟨K,x,ee,n⟩ ⟨u,z,w⟩ ⟨⟨?_,?_⟩,eH.sub k (bP 0),iA.sub l (bP 0)⟩ ⟨?_,?_⟩
 ·rw[j,<-hn];exact g.src
 ·rw[j];exact g.Ct.sub (bP 5)
 ·rintro⟨t,y⟩ ⟨⟨m,⟨os,q⟩,s⟩,o,hk⟩;dsimp only at m q s o hk⊢;have hl:=o.len;refine⟨aq,bo (fun A=>?_) (fun A=>?_)⟩
  ·exact⟨aq,aq,aq,aq,aq,aq,.inl ⟨[],4,⟨dG,[]⟩⟩,⟨⟨t,m,M1 ae⟩,⟨.nil rfl,rfl⟩,ao⟩,rfl,aE.trans (az [999,998,0]) DB⟩
  ·refine bO TS ⟨x,t,y,os⟩ ⟨o,hk,q,s⟩ fun _ _=>aG (fun hd=>?_) (fun hd=>?_)
   ·exact⟨aq,aq,aq,aq,aq,aq,.inl ⟨[],4,⟨dG,[]⟩⟩,⟨⟨t,m,M0 hd⟩,⟨.nil rfl,rfl⟩,ao⟩,rfl,aE.trans (az [999,998,0]) DB⟩
   ·exact⟨aq,aq,aq,aq,aq,aq,aq,.inl ⟨t.nodes,0,y⟩,⟨⟨t,m,GL ae hd⟩,o,hk⟩,rfl,az [6,7,0]⟩
 ·rintro⟨p,e⟩ h;exact⟨aV,.inr (p,e),h,rfl,az [1,2,3,0]⟩
theorem ag5(x:aQ.X (eW 13 bS))(F:ah)(a:(eW 13 bS).cond x)(b:(eW 13 bS).aO x F):pW Tryz.prog 45 s7 (V6 x F) uZ (g_ s7) (mK (aQ.args (eW 13 bS) x)) (bD (aQ.pre (eW 13 bS) x++[F])) (Bt x) (ar (eW 13 bS) x F):=
 Eq.mpr bl (ag6 x F a b)
end
section
open Go
section
variable{P:Program}{N:Nat}
theorem Xw(o:P.follows .mixedOrders=true){H:jc}{x y z:Code}{key:Nat}{T:Tm}{S:St}{K:Exit->Tm->St->Prop}{a:Act}{I:a_}{w:World}{ds:List Deferred}{Q:Exit->Act->World->Prop}
  (d:(qc y).bind H.cut=none) (h:E P N H (.seq x y) key T S K) (f:dR N T a) (hd:a.defers=ds) (hs:Sat I S w)
  (n:∀e b w',e≠.normal->eZ N I w ds (K e) b w'->Q e b w')
  (p:∀T' S' J b w',E P N H y key T' S' K->dR N T' b->b.defers=ds->a_.le I J->Sat J S' w'->cv w w'->z.wp P Q b w'):(Code.seq x z).wp P Q a w:=by
 simp only[E]at h;rw[d]at h;refine wp_seq (CK o H x h f hd hs fun e b w' c=>?_);cases e with
 |normal=>
  obtain⟨T',S',J,g,i,j,k,l,m⟩:=c;exact p T' S' J b w' m g i j k l
 |_=>exact n _ _ _ (fun e=>nomatch e) c
theorem wp_cut(B:P.follows .mixedOrders=true){H:jc}{x y z:Code}{key:Nat}{T:Tm}{S:St}{K:Exit->Tm->St->Prop}{a:Act}{I:a_}{w:World}{ds:List Deferred}{Q:Exit->Act->World->Prop}{V:Inv}
  (f:(qc y).bind H.cut=some V) (l:V.gh=none) (h:E P N H (.seq x y) key T S K) (j:dR N T a) (hd:a.defers=ds) (hs:Sat I S w)
  (v:∀e b w',e≠.normal->eZ N I w ds (K e) b w'->Q e b w')
  (C:∀d k J b w',V.P d->E P N H y key (jq k (V.lv d)) (bD (V.st d)) K->dR N (jq k (V.lv d)) b->b.defers=ds->a_.le I J->Sat J (bD (V.st d)) w'->cv w w'->z.wp P Q b w'):(Code.seq x z).wp P Q a w:=by
 simp only[E]at h;rw[f]at h;have h:(E P N H x key T S fun e T S=>match e with| .normal=>∃x,V.P x/\jb T (V.lv x)/\aE S (bD (V.st x))|e=>K e T S)/\∀x k,V.P x->E P N H y key (jq k (V.lv x)) (bD (V.st x)) K:=by
  dsimp only at h;split at h
  ·exact h
  ·rename_i g o
   rw[l]at o;cases o
 refine wp_seq (CK B H x h.1 j hd hs fun e b w' c=>?_);cases e with
 |normal=>
  obtain⟨T',S',J,q,r,s,t,u,d,hp,A,i⟩:=c;obtain⟨p,m,n⟩:=i.h J w' t;exact C d T'.z00 p b w' hp (h.2 d T'.z00 hp) (oB q A) r (a_.le_trans s m) n u
 |_=>exact v _ _ _ (fun e=>nomatch e) c
end
theorem Sy{P:Program}{N:Nat}{H:jc}{x y:Code}{key:Nat}{T:Tm}{S:St}{K:Exit->Tm->St->Prop}{V:Inv}(a:(qc y).bind H.cut=some V)(b:V.gh=none)(h:E P N H (.seq x y) key T S K):∀d e,V.P d->E P N H y key (jq e (V.lv d)) (bD (V.st d)) K:=by
 simp only[E]at h;rw[a]at h;dsimp only at h;split at h
 ·exact h.2
 ·rename_i g c
  rw[b]at c;cases c
theorem wpOps_cons{P:Program}{aN:Array Oper}{Q:Exit->Act->World->Prop}{a:Act}{w:World}{i:Nat}{rest:List Nat}{o:Oper}(c:aN[i]?=some o)(b:o.guard=none)(h:o.wp P a w (wpOps P aN Q rest) Q):wpOps P aN Q (i::rest) a w:=by
 simp only[wpOps,c];have:Region.wanted o (yielded aN a.tmps)=true:=by unfold Region.wanted;rw[b]
 rw[if_pos this];exact .inl h
theorem Xv{P:Program}{aN:Array Oper}{Q:Exit->Act->List Frame->World->Prop}{a:Act}{cs nt:List Frame}{w w':World}{i:Nat}{rest:List Nat}{o:Oper}{v:Value}(e:aN[i]?=some o)(d:o.guard=none)
  (b:((execOp a.eval o).run P w= .ok .recover w'/\(recoverD cs=some (v,nt)\/(recoverD cs=none/\v= .nilIface/\nt=cs)))\/((execOp a.eval o).run P w= .ok (.value v) w'/\nt=cs))
  (h:wpOpsS P aN Q rest (a.put o.dst v) nt w'):wpOpsS P aN Q (i::rest) a cs w:=by
 simp only[wpOpsS,e];have:Region.wanted o (yielded aN a.tmps)=true:=by unfold Region.wanted;rw[d]
 rw[if_pos this];rcases b with⟨b,c| ⟨c,rfl,rfl⟩⟩| ⟨b,rfl⟩
 ·rw[b];simp only[c];exact h
 ·rw[b];simp only[c];exact h
 ·rw[b];exact h
def pV(b:Nat):Value:=.pointer (some ⟨b,0,none⟩)
def Tx(b4 b5 b6:Nat):Deferred:={target:=.fn (.func 21) #[pV b4,pV b5,pV b6],args:=#[]}
theorem alc{Q:Exit->Act->World->Prop}{T:Tm}{a:Act}{w:World}{b4 b5 b6:Nat}(c:dR 45 T a)(f:T.z00 4=pV b4)(g:T.z00 5=pV b5)(j:T.z00 6=pV b6)
  (h:∀T' d,d.defers=Tx b4 b5 b6::a.defers->dR 45 T' d->(∀i,i≠25->T'.z00 i=T.z00 i)->Q .normal d w):(nr (iV 4 k9)).wp Tryz.prog Q a w:=by
 have e:nr (iV 4 k9)= .region 5 #[ba Tryz.f12 5 0,ba Tryz.f12 5 1] false:=bl;rw[e];refine wp_region ?_;show wpOps _ _ _ [0,1] a w;have k:(execOp (ev T) (ba Tryz.f12 5 0)).run Tryz.prog w= .ok (.value (.func (.func 21) #[] #[T.z00 4,T.z00 5,T.z00 6])) w:=bl;refine wpOps_cons (o:=ba Tryz.f12 5 0) rfl rfl ?_;unfold Oper.wp;rw[c.eval,k,Oper.upon_value];have b:=c.put (ba Tryz.f12 5 0).dst (.func (.func 21) #[] #[T.z00 4,T.z00 5,T.z00 6]);refine wpOps_cons (o:=ba Tryz.f12 5 1) rfl rfl ?_;unfold Oper.wp;have l:(execOp (ev (dw 45 (ba Tryz.f12 5 0).dst (.func (.func 21) #[] #[T.z00 4,T.z00 5,T.z00 6]) T)) (ba Tryz.f12 5 1)).run Tryz.prog w= .ok (.defer {target:=.fn (.func 21) #[T.z00 4,T.z00 5,T.z00 6],args:=#[]}) w:=bl;rw[b.eval,l,Oper.upon_defer];refine h _ _ ?_ ((b.defers _).put (ba Tryz.f12 5 1).dst undef) ?_
 ·rw[Bx,f,g,j];show _::(a.put _ _).defers=_;rw[Bx];rfl
 ·intro i hi;show(dw 45 none undef (dw 45 (some 25) _ T)).z00 i=_;show(dw 45 (some 25) _ T).z00 i=_;rw[Bw];rw[if_neg (fun h=>hi h.2)]
theorem abP:g_ Tryz.f21= .seq (.region 0 #[ba Tryz.f21 0 0,ba Tryz.f21 0 1] false) (iV 1 (g_ Tryz.f21)):=bl
theorem abQ:∃A,iV 1 (g_ Tryz.f21)= .seq (.region 1 #[ba Tryz.f21 1 0,ba Tryz.f21 1 1] false) (.cond (.tmp 7) A .skip):=⟨match iV 2 (g_ Tryz.f21)with| .cond _ a _=>a|c=>c,bl⟩
theorem Ty{Q:Exit->Act->List Frame->World->Prop}{b4 b5 b6:Nat}{v:Value}{cs nt:List Frame}{w:World}(e:recoverD cs=some (v,nt)\/(recoverD cs=none/\v= .nilIface/\nt=cs))
  (h:∀T a,dR 15 T a->a.defers=[]->T.z00 0=pV b4->T.z00 1=pV b5->T.z00 2=pV b6->T.z00 3=v->(iV 1 (g_ Tryz.f21)).wpS Tryz.prog Q a nt w):
  (g_ Tryz.f21).wpS Tryz.prog Q {tmps:=#[pV b4,pV b5,pV b6]++Array.replicate (15-3) undef,defers:=[]} cs w:=by
 rw[abP];refine wpS_seq (wpS_region ?_);have d:=Fa (N:=15) [pV b4,pV b5,pV b6] (Nat.le_of_ble_eq_true rfl);show wpOpsS _ _ _ [0,1] {tmps:=⟨[pV b4,pV b5,pV b6]⟩++Array.replicate (15-3) undef,defers:=[]} cs w;refine Xv (v:=v) (nt:=nt) (w':=w) (o:=ba Tryz.f21 0 0) rfl rfl (.inl ⟨?_,e⟩) ?_
 ·rw[show(execOp _ (ba Tryz.f21 0 0)).run Tryz.prog w= .ok .recover w from rfl]
 have b:=d.put (ba Tryz.f21 0 0).dst v;refine Xv (v:=v) (nt:=nt) (w':=w) (o:=ba Tryz.f21 0 1) rfl rfl (.inr ⟨?_,rfl⟩) ?_
 ·have:(execOp (ev (dw 15 (ba Tryz.f21 0 0).dst v (mK [pV b4,pV b5,pV b6]))) (ba Tryz.f21 0 1)).run Tryz.prog w= .ok (.value v) w:=by kernel_rfl
  rw[<-b.eval]at this;exact this
 have c:=b.put (ba Tryz.f21 0 1).dst v;exact h _ _ c (by rw[Bx,Bx]) bl bl bl bl
theorem abr(b4 b5 b6:Nat)(w:World):CallsD Tryz.prog 21 #[pV b4,pV b5,pV b6] .returning w fun e l w'=>e= .returned (.tuple #[])/\l= .returning/\w'=w:=by
 refine callsD_of_wpS (c:=g_ Tryz.f21) Tryz.func21 bl fun g cs i=>?_;refine Ty (v:=.nilIface) (nt:=g::cs) (.inr ⟨by simp[recoverD,i],rfl,rfl⟩) fun T a h hd _ _ _ j=>?_;obtain⟨A,k⟩:=abQ;rw[k];refine wpS_of_wp (wp_seq (wp_region ?_));show wpOps _ _ _ [0,1] a w;have b:dR 15 (jq T.z00 [(3,.nilIface)]) a:=oB h ⟨j,ao⟩;refine wpOps_cons (o:=ba Tryz.f21 1 0) rfl rfl ?_;unfold Oper.wp;rw[b.eval,show(execOp (ev (jq T.z00 [(3,.nilIface)])) (ba Tryz.f21 1 0)).run Tryz.prog w= .ok (.value .nilIface) w by kernel_rfl,Oper.upon_value];have d:=b.put (ba Tryz.f21 1 0).dst .nilIface;refine wpOps_cons (o:=ba Tryz.f21 1 1) rfl rfl ?_;unfold Oper.wp;rw[d.eval,show(execOp (ev (dw 15 (ba Tryz.f21 1 0).dst .nilIface (jq T.z00 [(3,.nilIface)]))) (ba Tryz.f21 1 1)).run Tryz.prog w= .ok (.value (.bool false)) w by kernel_rfl,Oper.upon_value];have f:=d.put (ba Tryz.f21 1 1).dst (.bool false);show Code.wp _ _ _ _ _;refine wp_cond (t:=false) ?_ (wp_skip ?_)
 ·rw[f.eval];kernel_rfl
 ·refine⟨by rw[Bx,Bx];exact hd,.returning,?_,.tuple #[],bl,rfl,rfl,rfl⟩;rw[<-i]
theorem abs{b4 b5 b6:Nat}{p e:Int}{F:ah}{I:a_}{w:World}(hs:Sat I (bD (nM.pre ⟨b4,b5,b6,p,e⟩++[F])) w):CallsD Tryz.prog 21 #[pV b4,pV b5,pV b6] (.panicking [⟨iz p e,false,false⟩]) w fun i l w'=>i= .returned (.tuple #[])/\l= .panicking [⟨iz p e,true,false⟩]/\∃J,a_.le I J/\Sat J (bD (nM.post ⟨b4,b5,b6,p,e⟩ ()++[F])) w'/\cv w w':=by
 refine callsD_of_wpS (c:=g_ Tryz.f21) Tryz.func21 bl fun b cs C=>?_;refine Ty (v:=iz p e) (nt:={b with mode:=.panicking [⟨iz p e,true,false⟩]}::cs) (.inl (by simp[recoverD,C])) fun T a h hd u y z A=>?_;have m:=ah1 ⟨b4,b5,b6,p,e⟩ F trivial trivial;unfold pW at m;have B:=Sy (V:={X:=Unit,P:=fun _=>True,mu:=fun _=>0,lv:=fun _=>[(0,.pointer (some ⟨b4,0,none⟩)),(1,.pointer (some ⟨b5,0,none⟩)),(2,.pointer (some ⟨b6,0,none⟩)),(3,iz p e)],st:=fun _=>[F,.cells b4 [.slice none 0 0] 25,.cells b5 [.int .i64 0] 3,.cells b6 [.int .i64 0] 26]}) bl rfl (show E _ _ _ (.seq .skip (iV 1 (g_ Tryz.f21))) _ _ _ _ from m) () T.z00 trivial;refine wpS_of_wp (CK bl _ _ B (oB h ⟨u,y,z,A,ao⟩) hd (hs.pick [3,0,1,2] rfl rfl) fun x r w' f=>?_);obtain⟨T',S',J,g1,s,g3,g4,t,d⟩:=f;have fin:rd Tryz.prog S' (jx Ol T') [] (fun v=>ar nM ⟨b4,b5,b6,p,e⟩ F (.returned v) S')->bodyPostS Tryz.prog Tryz.f21 b cs (fun i l w'=>i= .returned (.tuple #[])/\l= .panicking [⟨iz p e,true,false⟩]/\∃J,a_.le I J/\Sat J (bD (nM.post ⟨b4,b5,b6,p,e⟩ ()++[F])) w'/\cv w w') .normal r ({b with mode:=.panicking [⟨iz p e,true,false⟩]}::cs) w':=by
  intro d;obtain⟨v,n,⟨⟨_,_,o,g⟩⟩⟩:=uY g4 _ _ _ d;obtain⟨q,j,k⟩:=g.h J w' g4;exact⟨s,_,rfl,.tuple #[],bl,rfl,rfl,q,a_.le_trans g3 j,k,t⟩
 cases x with
 |normal=>exact fin d
 |ret=>exact fin d
 |panic D=>
  obtain⟨_,⟨⟨_,_,o,_⟩⟩⟩:=d;cases o
 |_=>exact d.elim
structure K8 where
 K:bQ
 src:ByteArray
 n:Nat
def jf(K:bQ)(src:ByteArray):cf:=⟨0,none,0,(co K src).1,src.size⟩
def nq(K:bQ)(src:ByteArray):Prop:=src.size>8192\/0<=(co K src).2
def bY(M:bQ->cf->Nat->PM Unit)(K:bQ)(src:ByteArray)(n:Nat):List cj×Int×Int:=
 bif decide (src.size>8192)||decide (0<=(co K src).2) then ([],(i6 K src).1,(i6 K src).2)
 else match M K (jf K src) n ee with
  | .ok _ t=>((oh t.nodes).1,0,(oh t.nodes).2)
  | .stop p e _=>([],p,e)
  | .out=>([],0,0)
def s9(bJ:FuncId)(M:bQ->cf->Nat->PM Unit):aQ where
 X:=K8
 Y:=eP
 args x:=[.string x.src,.func (.func bJ) #[] #[]]
 cond x:=aC 72 (nJ x.K)/\aC bJ (mI M)/\(¬nq x.K x.src->gM x.K (jf x.K x.src)/\M x.K (jf x.K x.src) x.n ee≠.out)
 aO x F:=eH x.K F/\iA F
 bZ x y:=y.ok (bY M x.K x.src x.n).1/\kO (bY M x.K x.src x.n).1 y.vs
 val x y:=.returned (.tuple #[.agg #[.slice y.r.a y.r.n y.r.cap],.int .i64 (bY M x.K x.src x.n).2.1,.int .i64 (bY M x.K x.src x.n).2.2])
 post x y:=[y.r.A,(fR (bY M x.K x.src x.n).1 y.vs)]
theorem Og{M:bQ->cf->Nat->PM Unit}{K:bQ}{src:ByteArray}{n:Nat}(h:nq K src):bY M K src n=([],(i6 K src).1,(i6 K src).2):=by
 unfold bY;have:(decide (src.size>8192)||decide (0<=(co K src).2))=true:=by
  rcases h with h|h <;> simp[h]
 rw[this];rfl
theorem DZ{M:bQ->cf->Nat->PM Unit}{K:bQ}{src:ByteArray}{n:Nat}(h:¬nq K src):bY M K src n=match M K (jf K src) n ee with
  | .ok _ t=>((oh t.nodes).1,0,(oh t.nodes).2)
  | .stop p e _=>([],p,e)
  | .out=>([],0,0):=by
 unfold bY;have:(decide (src.size>8192)||decide (0<=(co K src).2))=false:=by
  rw[Bool.or_eq_false_iff,decide_eq_false_iff_not,decide_eq_false_iff_not];exact⟨fun e=>h (.inl e),fun e=>h (.inr e)⟩
 rw[this];rfl
def KW(M:bQ->cf->Nat->PM Unit):Prop:=∀(K:bQ)(b d:Nat)(la a:Option Addr)(lc c:Nat)(L:List bh)(fin:Int)(n:Nat),M K ⟨b,la,lc,L,fin⟩ n=M K ⟨d,a,c,L,fin⟩ n
theorem aie:KW dc:=fun _ _ _ _ _ _ _ _ _ _=>rfl
theorem acD:KW bS:=fun _ _ _ _ _ _ _ _ _ _=>rfl
def Oj(bJ:FuncId)(M:bQ->cf->Nat->PM Unit):Prop:=∃H:ku->ah->jc,(∀x F,(qc (iV 5 k9)).bind (H x F).cut=HL bJ x F 6)/\∀(x:ku)(F:ah),(eW bJ M).cond x->(eW bJ M).aO x F->pW Tryz.prog 45 s7 (H x F) uZ (g_ s7) (mK ((eW bJ M).args x)) (bD ((eW bJ M).pre x++[F])) (Bt x) (ar (eW bJ M) x F)
theorem aha:Oj 16 dc:=⟨V7,fun _ _=>bl,ahb⟩
theorem ag4:Oj 13 bS:=⟨V6,fun _ _=>bl,ag5⟩
theorem abO:Tryz.f12.body=some (.seq (nr k9) (.seq (nr (iV 1 k9)) (.seq (nr (iV 2 k9)) (.seq (nr (iV 3 k9)) (.seq (nr (iV 4 k9)) (iV 5 k9)))))):=bl
theorem aij{bJ:FuncId}{M:bQ->cf->Nat->PM Unit}{x:ku}{F:ah}{I:a_}{w:World}{R:Ending->World->Prop}
  (q:∀a w' J,(eW bJ M).bZ x (.inl a)->a_.le I J->Sat J (bD ((eW bJ M).post x (.inl a)++[F])) w'->cv w w'->R ((eW bJ M).val x (.inl a)) w')
  (o:∀p e w' J,(eW bJ M).bZ x (.inr (p,e))->a_.le I J->Sat J (bD [F]) w'->cv w w'->R (.returned (.tuple #[.agg #[.slice none 0 0],.int .i64 p,.int .i64 e])) w'):
  ∀e d w',eZ 45 I w [Tx x.b4 x.b5 x.b6] ((fun e T S=>match e with
  | .normal=>match Bt x with| []=>True|_::_=>rd Tryz.prog S (jx s7 T) uZ fun v=>ar (eW bJ M) x F (.returned v) S
  | .ret=>rd Tryz.prog S (jx s7 T) uZ fun v=>ar (eW bJ M) x F (.returned v) S
  | .panic B=>jb T (Bt x)/\ar (eW bJ M) x F (.panicked B) S
  |_=>False:Exit->Tm->St->Prop) e) d w'->bodyPostD Tryz.prog Tryz.f12 R e d w':=by
 intro e d w' m;obtain⟨T',S',J,g1,C,g3,g4,D,l⟩:=m;have fin:rd Tryz.prog S' (jx s7 T') uZ (fun v=>ar (eW bJ M) x F (.returned v) S')->Leaves Tryz.prog Tryz.f12 d.tmps R d.defers .returning w':=by
  intro l;obtain⟨v,h,⟨⟨y,j,i,b⟩⟩⟩:=uY g4 _ _ _ l;obtain⟨A,k,c⟩:=b.h J w' g4;rw[C];refine leaves_cons aL (f:=21) (args:=#[pV x.b4,pV x.b5,pV x.b6]) bl ((abr _ _ _ _).mono ?_);rintro _ _ s ⟨rfl,rfl,t⟩;replace t:=t.symm;subst t;have g:(results Tryz.f12 d.tmps).run Tryz.prog w'= .ok v w':=by
   rw[show results Tryz.f12 d.tmps=results s7 d.tmps from rfl,Ci g1];exact h
  match y,j,i,c with
  | .inl a,j,i,c=>exact⟨v,g,i▸q a w' A j (a_.le_trans g3 k) c D⟩
  | .inr a,j,i,c=>cases i
 cases e with
 |normal=>exact fin l
 |ret=>exact fin l
 |panic B=>
  obtain⟨G,⟨⟨y,j,i,b⟩⟩⟩:=l
  match y,j,i,b with
  | .inl a,j,i,b=>cases i
  | .inr (p,e),j,i,b=>
   obtain⟨A,k,c⟩:=b.h J w' g4;cases i;show Leaves Tryz.prog Tryz.f12 d.tmps R d.defers _ w';rw[C];refine leaves_cons aL (f:=21) (args:=#[pV x.b4,pV x.b5,pV x.b6]) bl ((abs (F:=F) (p:=p) (e:=e) c).mono ?_);rintro _ _ s ⟨rfl,rfl,E,n,r,u⟩;have z:rd Tryz.prog (bD (nM.post ⟨x.b4,x.b5,x.b6,p,e⟩ ()++[F])) (jx Tryz.f12 (jq T'.z00 (Bt x))) [.z00 0,.z00 1,.z00 2] (fun v=>v= .tuple #[.agg #[.slice none 0 0],.int .i64 p,.int .i64 e]):=by
    exact Eq.mpr (show _=(d9 ⟨x.b4,0,none⟩ x.b4/\d9 ⟨x.b5,0,none⟩ x.b5/\d9 ⟨x.b6,0,none⟩ x.b6/\(tuple #[.agg #[.slice none 0 0],.int .i64 p,.int .i64 e]= .tuple #[.agg #[.slice none 0 0],.int .i64 p,.int .i64 e])) by kernel_rfl) ⟨aq,aq,aq,rfl⟩
   obtain⟨v,h,rfl⟩:=uY r _ _ _ z;have g:(results Tryz.f12 d.tmps).run Tryz.prog s= .ok (.tuple #[.agg #[.slice none 0 0],.int .i64 p,.int .i64 e]) s:=by
    rw[Ci (oB g1 G)];exact h
   exact⟨_,g,o p e s E j (a_.le_trans g3 (a_.le_trans k n)) (r.pick [3] rfl rfl) (D.trans u)⟩
 |_=>exact l.elim
theorem Om{bJ:FuncId}{M:bQ->cf->Nat->PM Unit}{K:bQ}{src:ByteArray}{n:Nat}{F:ah}{I J:a_}{w w':World}{ns:List cj}{p e:Int}{y:eP}(b:bY M K src n=(ns,p,e))(d:y.ok ns)(hk:kO ns y.vs)(a:a_.le I J)(hs:Sat J (bD [y.r.A,fR ns y.vs,F]) w')(c:cv w w'):
  ∃z J,(s9 bJ M).bZ ⟨K,src,n⟩ z/\returned (.tuple #[.agg #[.slice y.r.a y.r.n y.r.cap],.int .i64 p,.int .i64 e])=(s9 bJ M).val ⟨K,src,n⟩ z/\a_.le I J/\Sat J (bD ((s9 bJ M).post ⟨K,src,n⟩ z++[F])) w'/\cv w w':=by
 refine⟨y,J,?_,?_,a,?_,c⟩
 ·show y.ok (bY M K src n).1/\kO (bY M K src n).1 y.vs;rw[b];exact⟨d,hk⟩
 ·show _=returned (.tuple #[.agg #[.slice y.r.a y.r.n y.r.cap],.int .i64 (bY M K src n).2.1,.int .i64 (bY M K src n).2.2]);rw[b]
 ·show Sat J (bD [y.r.A,fR (bY M K src n).1 y.vs,F]) w';rw[b];exact hs
theorem VJ{J:a_}{F:ah}{w:World}(h:Sat J (bD [F]) w):∃a,a_.le J a/\Sat a (bD [dG.A,fR [] [],F]) w:=
 DB.h J w (h.pick [999,998,0] rfl rfl)
theorem Wb{bJ:FuncId}{M:bQ->cf->Nat->PM Unit}(hM:KW M)(hB:Oj bJ M):aC 12 (s9 bJ M):=⟨fun x F I w hc hr hs=>by
 obtain⟨K,src,n⟩:=x;obtain⟨UB,UC,UD⟩:=hc;dsimp only at UB UC UD;refine calls_of_wp_defers Tryz.func12 abO ?_;have hm:Tryz.prog.follows .mixedOrders=true:=by kernel_rfl
 have aed:=Fa (N:=45) [.string src,.func (.func bJ) #[] #[]] (Nat.le_of_ble_eq_true rfl);have hA:=ahV ⟨K,src,bJ⟩ F UB hr.1;unfold pW at hA;have hQ:∀(I':a_)(w0:World),a_.le I I'->cv w w0->∀e u w',e≠Exit.normal->eZ 45 I' w0 [] ((fun e T S=>match e with
  | .normal=>match Oi ⟨K,src,bJ⟩with| []=>True|_::_=>rd Tryz.prog S (jx D4 T) uZ fun v=>ar pv ⟨K,src,bJ⟩ F (.returned v) S
  | .ret=>rd Tryz.prog S (jx D4 T) uZ fun v=>ar pv ⟨K,src,bJ⟩ F (.returned v) S
  | .panic ch=>jb T (Oi ⟨K,src,bJ⟩)/\ar pv ⟨K,src,bJ⟩ F (.panicked ch) S
  |_=>False:Exit->Tm->St->Prop) e) u w'->bodyPostD Tryz.prog Tryz.f12 (fun e w'=>∃y J,(s9 bJ M).bZ ⟨K,src,n⟩ y/\e=(s9 bJ M).val ⟨K,src,n⟩ y/\a_.le I J/\Sat J (bD ((s9 bJ M).post ⟨K,src,n⟩ y++[F])) w'/\cv w w') e u w':=by
  intro I' w0 adZ C e u w' hne adD;obtain⟨T',S',J,g1,g2,g3,g4,g5,g6⟩:=adD;cases e with
  |normal=>exact absurd rfl hne
  |ret=>
   obtain⟨v,aef,⟨⟨_,adE,Y,adN⟩⟩⟩:=uY g4 _ _ _ g6;obtain⟨J',l,X⟩:=adN.h J w' g4;obtain⟨J2,b,o⟩:=VJ X;show Leaves Tryz.prog Tryz.f12 u.tmps _ u.defers .returning w';rw[g2];refine⟨v,by rw[show results Tryz.f12 u.tmps=results D4 u.tmps from rfl,Ci g1];exact aef,?_⟩;have:=Om (bJ:=bJ) (M:=M) (K:=K) (src:=src) (n:=n) (y:=⟨dG,[]⟩) (Og adE) ⟨.nil rfl,rfl⟩ trivial (a_.le_trans adZ (a_.le_trans g3 (a_.le_trans l b))) o (C.trans g5);rw[Y];exact this
  |panic ch=>
   obtain⟨_,⟨⟨_,_,Y,_⟩⟩⟩:=g6;cases Y
  |_=>exact g6.elim
 refine Xw hm (H:=V9 ⟨K,src,bJ⟩ F) (y:=.seq (nr (iV 1 k9)) (.seq (nr (iV 2 k9)) (.seq (nr (iV 3 k9)) (.region 5 #[] false)))) bl hA aed rfl hs (hQ I w (a_.le_refl I) (cv.refl w)) ?_;intro T1 S1 J1 a1 w1 hE1 O vZ q hs1 j;refine wp_cut hm (V:=(Oh ⟨K,src,bJ⟩ F 2).get rfl) bl rfl hE1 O vZ hs1 (hQ J1 w1 q j) ?_;rintro d2 js2 J2 a2 w2 UM hE2 P hd2 b X D;have m:=a_.le_trans q b;have f:=j.trans D;refine Xw hm (y:=.seq (nr (iV 3 k9)) (.region 5 #[] false)) bl hE2 P hd2 X (hQ J2 w2 m f) ?_;intro T3 S3 J3 a3 w3 hE3 Q hd3 ad0 o G;have d:=a_.le_trans m ad0;have a:=f.trans G;refine wp_cut hm (V:=(Oh ⟨K,src,bJ⟩ F 5).get rfl) bl rfl hE3 Q hd3 o (hQ J3 w3 d a) ?_;rintro⟨b4,b5,b6,b8,r⟩ js5 J5 a5 w5 c-R hd5 s hs5 k;replace c:o5.ip ⟨K,src,bJ⟩ r:=c;obtain⟨q1,q2,q3,q4⟩:=c;dsimp only at q1 q2 q3 q4;have L:¬nq K src:=by
  rintro(h|h) <;> omega
 obtain⟨hP,ho⟩:=UD L;refine wp_seq (alc R (b4:=b4) (b5:=b5) (b6:=b6) rfl rfl rfl fun T6 a6 hd6 U g=>?_);obtain⟨H,B,A⟩:=hB;have hP':gM K ⟨b8,r.a,r.cap,(co K src).1,src.size⟩:=⟨⟨hP.num,hP.KB,hP.len,hP.KD⟩,hP.d6⟩;have z:M K ⟨b8,r.a,r.cap,(co K src).1,src.size⟩ n=M K (jf K src) n:=hM K _ _ _ _ _ _ _ _ _;have hb:=A ⟨K,⟨b8,r.a,r.cap,(co K src).1,src.size⟩,n,b4,b5,b6,r⟩ F ⟨UC,hP',by dsimp only;rw[z];exact ho,q3,rfl⟩ hr;unfold pW at hb;have hE:=Sy (V:=(HL bJ ⟨K,⟨b8,r.a,r.cap,(co K src).1,src.size⟩,n,b4,b5,b6,r⟩ F 6).get rfl) (B _ _) rfl (show E _ _ _ (.seq .skip (iV 5 k9)) _ _ _ _ from hb) () T6.z00 trivial;refine CK hm _ _ hE (oB U ⟨(g 1 (by decide)).trans rfl,(g 4 (by decide)).trans rfl,(g 5 (by decide)).trans rfl,(g 6 (by decide)).trans rfl,(g 8 (by decide)).trans rfl,ao⟩) (hd6.trans (by rw[hd5])) (hs5.pick [0,1,2,3,4,5] rfl rfl) (aij ?_ ?_)
 ·rintro⟨ns,e,y⟩ w' J ⟨⟨t,Z,h2⟩,hy,hk⟩ l W i;dsimp only at Z h2 hy hk;have Y:bY M K src n=(ns,0,e):=by
   rw[DZ L,<-z,Z];dsimp only;rw[h2]
  exact Om Y hy hk (a_.le_trans d (a_.le_trans s l)) W ((a.trans k).trans i)
 ·intro p e w' J ⟨t,Z⟩ l W i;dsimp only at Z;have Y:bY M K src n=([],p,e):=by
   rw[DZ L,<-z,Z]
  obtain⟨J2,b,o⟩:=VJ W;exact Om (y:=⟨dG,[]⟩) Y ⟨.nil rfl,rfl⟩ trivial (a_.le_trans d (a_.le_trans s (a_.le_trans l b))) o ((a.trans k).trans i)⟩
end
section
open Go
theorem ak2(c:Nat):(ii c).length<=4:=by
 unfold ii;cases decide (c>65535) <;> (dsimp only[aU,aM];simp)
theorem akd(s:ByteArray)(mark:Nat):∀(f i:Nat)(o:List Nat)(j:Nat)(u:List Nat),i<=s.size->gJ s mark f i o=(j,some u)->u.length+4*i<=o.length+4*j:=by
 intro f
 induction f with
 |zero=>intro i o j u _ h;cases h
 |succ f m=>
  intro i o j u hi h;rw[gJ]at h;cases hn:cS s i with
  |none=>rw[hn]at h;cases h
  |some g=>
   obtain⟨c,n⟩:=g;obtain⟨a,f2,f3⟩:=jO hn;rw[hn]at h;dsimp only at h;cases b:(c==10||c==13)with
   |true=>rw[b]at h;cases h
   |false=>
    rw[b,aM]at h;cases l:c==mark with
    |true=>
     grind
    |false=>
     rw[l,aM]at h;cases d:c==92 with
     |true=>
      rw[d,aU]at h;rcases e:eo s (i+n)with⟨k,_|v⟩
      ·grind
      ·rw[e]at h;obtain⟨q1,q2,q3⟩:=AV e a;grind
     |false=>
      rw[d,aM]at h;have:=m (i+n) (o++ii c) j u a h;have p:=ak2 c;grind
def CU(s:ByteArray)(x:bh):Prop:=0<=x.pos/\x.pos<=s.size/\x.text.size<=4*s.size+3
variable{s:ByteArray}{num:Nat->Nat}
theorem afl{i k:Nat}{aD:Bool}{d:bh}(hi:i<s.size)(h:fl num s i aD=(k,some d)):CU s d:=by
 cases hl:fi (bt s i)with
 |true=>
  rw[yQ hl]at h;cases h;refine⟨Int.natCast_nonneg _,by grind,?_⟩;dsimp only;rw[gS];omega
 |false=>
  cases hn:gU s i with
  |true=>
   rw[wj hl hn]at h;cases e:(dX s i).2 with
   |false=>rw[e]at h;cases h
   |true=>
    rw[e]at h;cases h;exact⟨Int.natCast_nonneg _,by grind,df _⟩
  |false=>
   cases f:(bt s i==34||bt s i==39)with
   |true=>
    rw[wk hl hn f]at h;have b:=W6 s (bt s i) (s.size+1) (i+1) [] hi;unfold jA at h;rcases c:gJ s (bt s i) (s.size+1) (i+1) []with⟨j,_|u⟩
    ·grind
    ·have l:=akd s (bt s i) (s.size+1) (i+1) [] j u hi c;rw[c]at h b;cases h;refine⟨Int.natCast_nonneg _,by grind,?_⟩;dsimp only at b⊢;rw[rx];grind
   |false=>
    rw[uy hl hn f]at h;cases a:eV.find? (fun m=>cY s i (dj m))with
    |none=>rw[a]at h;cases h
    |some m=>
     rw[a]at h;cases h;have g:∀m∈eV,m.size<=3:=by decide+kernel
     have:=g m (List.mem_of_find?_eq_some a);exact⟨Int.natCast_nonneg _,by grind,by grind⟩
theorem afj:∀(f i:Nat)(aD:Bool)(o r:List bh)(p:Int),i<=s.size->(∀x∈o,CU s x)->gB num s f i aD o=(r,p)->p<0->p= -1/\(∀x∈r,CU s x)/\r.length+i<=o.length+s.size:=by
 intro f
 induction f with
 |zero=>
  intro i aD o r p _ _ h hp;cases h;omega
 |succ f n=>
  intro i aD o r p hi v h hp;rw[gB]at h;have c:=Dt s (s.size+1) i aD hi;rcases g:cF s (s.size+1) i aD with⟨q,j,l⟩;rw[g]at h c;dsimp only at h c;cases m:decide (q>=0)with
  |true=>
   grind
  |false=>
   rw[m,aM]at h;cases b:j==s.size with
   |true=>
    grind
   |false=>
    rw[b,aM]at h;have b:=dU.1 b;rcases a:fl num s j l with⟨k,_|d⟩
    ·grind
    ·rw[a]at h;dsimp only at h;have t:=afl ae a;have e:=DX ae a;have u:=n k false (o++[d]) r p e.2 (fun x hx=>?_) h hp
     all_goals grind
theorem U_(h:(sT num s).2<0):(sT num s).2= -1/\(∀x∈(sT num s).1,CU s x)/\(sT num s).1.length<=s.size:=by
 unfold sT at h⊢;rcases a:gB num s (s.size+1) 0 false []with⟨r,p⟩;rw[a]at h;have:=afj _ _ _ _ _ _ (df _) (fun x hx=>by simp at hx) a h;grind
end
section
open Go
structure nh(K:bQ):Prop where
 num:aC 72 (nJ K)
 KD:aC 122 (DV K)
 KB:∀n,(K.tv n).size<=1048576
theorem nh.NP{K:bQ}{src:ByteArray}(a:¬nq K src):src.size<=8192/\(co K src).2= -1/\(∀x∈(co K src).1,CU src x)/\(co K src).1.length<=src.size:=by
 have c:¬src.size>8192:=fun e=>a (.inl e);have b:¬0<=(co K src).2:=fun e=>a (.inr e);exact⟨ae,U_ (by unfold co at b;omega)⟩
theorem nh.Oe{K:bQ}(h:nh K){src:ByteArray}(b:¬nq K src):gM K (jf K src):=by
 obtain⟨c,f,a,g⟩:=nh.NP b;refine⟨⟨h.KD,h.KB,?_,fun i d e=>?_⟩,⟨Int.natCast_nonneg _,fun x hx=>⟨(a x hx).1,(a x hx).2.1⟩⟩⟩
 ·show(co K src).1.length<=_;omega
 ·have:=(a d (ou e)).2.2;omega
def cm(K:bQ)(src:ByteArray):Nat:=24*(co K src).1.length+40
theorem aif{K:bQ}{src:ByteArray}:dc K (jf K src) (cm K src) ee≠.out:=by
 intro e;have h:=K5 (L:=(co K src).1) (fin:=src.size) (aI:=K.tv) (wide:=bx) (cm K src) (.prog []) ee trivial (by unfold cm left ee ap.eX;dsimp only;omega);unfold TP at h;unfold dc at e;have b:b0 (P (co K src).1 src.size K.tv bx (cm K src) (.prog [])) (fun _=>ret ()) ee= .out:=e;unfold b0 at b;revert h b;cases P (co K src).1 src.size K.tv bx (cm K src) (.prog []) ee with
 |ok a t=>intro _ e;cases e
 |stop p q t=>intro _ e;cases e
 |out=>intro h;exact h.elim
theorem yr{K:bQ}{src:ByteArray}:bS K (jf K src) (cm K src) ee≠.out:=by
 intro e;have h:=K5 (L:=(co K src).1) (fin:=src.size) (aI:=K.tv) (wide:=bx) (cm K src) .aZ ee trivial (by unfold cm left ee ap.eX;dsimp only;omega);unfold TP at h;have b:b0 (P (co K src).1 src.size K.tv bx (cm K src) .aZ) (fun _=>ez>>=fun s=>bif decide (s.i<(co K src).1.length) then iU (co K src).1 src.size else ret ()) ee= .out:=e;unfold b0 at b;revert h b;cases P (co K src).1 src.size K.tv bx (cm K src) .aZ ee with
 |ok a t=>
  intro _ e;have e:(bif decide (t.i<(co K src).1.length) then (iU (co K src).1 src.size:PM Unit) else ret ()) t= .out:=e;revert e;cases decide (t.i<(co K src).1.length) <;> (intro e;cases e)
 |stop p q t=>intro _ e;cases e
 |out=>intro h;exact h.elim
structure o9 where
 K:bQ
 src:ByteArray
def nV(M:bQ->cf->Nat->PM Unit):aQ where
 X:=o9
 Y:=eP
 args x:=[ai x.src]
 cond x:=nh x.K
 aO x F:=eH x.K F/\iA F
 bZ x y:=y.ok (bY M x.K x.src (cm x.K x.src)).1/\kO (bY M x.K x.src (cm x.K x.src)).1 y.vs
 val x y:=.returned (.tuple #[.agg #[.slice y.r.a y.r.n y.r.cap],.int .i64 (bY M x.K x.src (cm x.K x.src)).2.1,.int .i64 (bY M x.K x.src (cm x.K x.src)).2.2])
 post x y:=[y.r.A,(fR (bY M x.K x.src (cm x.K x.src)).1 y.vs)]
def W5(bJ:FuncId)(M:bQ->cf->Nat->PM Unit)(b:o9)(a:ah):List (Nat×Nat×OH):=[(0,0,.n 1000),(1,1,.c (s9 bJ M) [] [1,2]),(1,5,.w [.z00 1000])]
def Wo:List LH:=[.z00 1000]
def BT(F:ah)(c:Nat):=aH [(0,F),(1000,af c eK 25)] []
def mj(a:eP):List Value:=[au a.r.a a.r.n a.r.cap]
theorem akf(x:o9)(F:ah)(d:(nV dc).cond x)(h:(nV dc).aO x F):∀(c:Nat),aC 12 (s9 (16:FuncId) dc)/\true=true/\∃(b:K8),[ai x.src,func (Fn.func 16) ⟨[]⟩ ⟨[]⟩]=[ai b.src,func (Fn.func 16) ⟨[]⟩ ⟨[]⟩]/\([]:List ah)=[]/\(aC 72 (nJ b.K)/\aC 16 (mI dc)/\(¬nq b.K b.src->gM b.K (jf b.K b.src)/\dc b.K (jf b.K b.src) b.n ee≠PR.out))/\(eH b.K (BT F c)/\iA (BT F c))/\∀(a:eP),(a.ok (bY dc b.K b.src b.n).fst/\kO (bY dc b.K b.src b.n).fst a.vs)->aw c 0/\aw c 0/\ar (nV dc) x F (ax (tuple ⟨[agg ⟨mj a⟩,ad (bY dc b.K b.src b.n).snd.fst,ad (bY dc b.K b.src b.n).snd.snd]⟩)) [(0,F),(1,a.r.A),(2,eT (Kf.rest (bY dc b.K b.src b.n).fst a.vs)),(1000,af c (mj a) 25)]:=by
 delta eK BT mj aH aw ad ai au af eT ax;obtain⟨K,src⟩:=x;replace d:nh K:=d;obtain⟨e,f⟩:=h;intro b;exact br (Wb aie aha) ⟨K,src,cm K src⟩ ⟨d.num,abK,fun g=>⟨d.Oe g,aif⟩⟩ ⟨eH.sub e (bP 0),iA.sub f (bP 0)⟩ fun y i=>⟨aq,aq,y,i,rfl,az [1,2,0]⟩
theorem ake:aC 10 (nV dc):=fo 10 Tryz.func10 (W5 16 dc) [] aY aY bA Wo akf
theorem akb(x:o9)(F:ah)(d:(nV bS).cond x)(h:(nV bS).aO x F):∀(c:Nat),aC 12 (s9 (13:FuncId) bS)/\true=true/\∃(b:K8),[ai x.src,func (Fn.func 13) ⟨[]⟩ ⟨[]⟩]=[ai b.src,func (Fn.func 13) ⟨[]⟩ ⟨[]⟩]/\([]:List ah)=[]/\(aC 72 (nJ b.K)/\aC 13 (mI bS)/\(¬nq b.K b.src->gM b.K (jf b.K b.src)/\bS b.K (jf b.K b.src) b.n ee≠PR.out))/\(eH b.K (BT F c)/\iA (BT F c))/\∀(a:eP),(a.ok (bY bS b.K b.src b.n).fst/\kO (bY bS b.K b.src b.n).fst a.vs)->aw c 0/\aw c 0/\ar (nV bS) x F (ax (tuple ⟨[agg ⟨mj a⟩,ad (bY bS b.K b.src b.n).snd.fst,ad (bY bS b.K b.src b.n).snd.snd]⟩)) [(0,F),(1,a.r.A),(2,eT (Kf.rest (bY bS b.K b.src b.n).fst a.vs)),(1000,af c (mj a) 25)]:=by
 delta eK BT mj aH aw ad ai au af eT ax;obtain⟨K,src⟩:=x;replace d:nh K:=d;obtain⟨e,f⟩:=h;intro b;exact br (Wb acD ag4) ⟨K,src,cm K src⟩ ⟨d.num,abF,fun g=>⟨d.Oe g,yr⟩⟩ ⟨eH.sub e (bP 0),iA.sub f (bP 0)⟩ fun y i=>⟨aq,aq,y,i,rfl,az [1,2,0]⟩
theorem KA:aC 7 (nV bS):=fo 10 Tryz.func7 (W5 13 bS) [] aY aY bA Wo akb
end
section
open Go
theorem kOk:nh M5:=
 ⟨agJ abC Sa (fun _ h=>h.1) (fun _ h=>h.2.1) rfl,aku ⟨Sa,fun i _=>W4 i⟩ rfl (fun _ h=>h.2.2),fun n=>gR (akk ⟨Sa,fun i _=>W4 i⟩ n) (by decide)⟩
theorem ajW:ownKnob Tryz.prog.godebug=none:=bl
theorem ajQ:laidOutB Tryz.prog=true:=bl
end
section
open Go
def rm:ByteArray:=⟨#[49,43,50,42,51]⟩
def ua:ByteArray:=⟨#[118,97,114,32,120,32,61,32,49,10,120,43,43]⟩
def Ds:ByteArray:=⟨#[97,43,49,32,61,32,50]⟩
section
set_option maxRecDepth 100000
theorem aaR(K:bQ):(bY bS K rm (cm K rm)).2=(0,0):=bl
theorem aaQ(K:bQ):(bY bS K rm (cm K rm)).1.length=5:=bl
theorem aaO(K:bQ):((bY bS K rm (cm K rm)).1[3]?).map (·.op)=some ⟨#[42]⟩:=bl
theorem aaP(K:bQ):((bY bS K rm (cm K rm)).1[4]?).map (·.aJ)=some [0,3]:=bl
theorem aaU(K:bQ):(bY dc K ua (cm K ua)).2=(0,0):=bl
theorem aaT(K:bQ):(bY dc K ua (cm K ua)).1.length=7:=bl
theorem aaS(K:bQ):((bY dc K ua (cm K ua)).1[6]?).map (·.kind)=some 37:=bl
theorem aaV(K:bQ):(bY bS K Ds (cm K Ds)).2=(0,61):=bl
end
theorem map_some{α β:Type}{f:α->β}{o:Option α}{b:β}(h:o.map f=some b):∃a,o=some a/\f a=b:=by
 cases o with
 |none=>cases h
 |some a=>exact⟨a,rfl,by simpa using h⟩
variable{t:Bool}{A B:Prop}
theorem sC(h:t=true)(a:A):Br t A B:=by subst h;exact a
theorem AM(h:t=false)(b:B):Br t A B:=by subst h;exact b
theorem VC{y:eP}{ns:List cj}(f:y.ok ns){rb i:Nat}{d:cj}(hk:kO ns y.vs)(e:y.r.a=some ⟨rb,0,none⟩)(hd:ns[i]?=some d):∃a n cap,y.vs[i]?=some (.slice a n cap)/\jd 1 (bB d.aJ) a n/\n=d.aJ.length/\aP y.r.A ⟨rb,0+i*5+3,none⟩ (.slice a n cap):=by
 obtain⟨v,c,a,n,cap,rfl,hs⟩:=GD hk i d hd;have hn:n=d.aJ.length:=by
  have:=hs.len;unfold bB at this;rw[List.length_map]at this;omega
 refine⟨a,n,cap,c,hs,hn,?_⟩;have b:=f.1.Ct;rw[e]at b;have:=b.look (GX ns y.vs i 3 d _ _ hd c rfl);rw[Nat.add_assoc];exact this
structure KR where
 K:bQ
def oe:aQ where
 X:=KR
 args _:=[]
 cond x:=nh x.K
 aO x F:=eH x.K F/\iA F
 val _ _:=ax (aj true)
def At(aa:List Value)(rr:ah)(b:o9->eP->Prop):=aC 7 (nV bS)/\true=true/\∃(z:o9),aa=[ai z.src]/\([]:List ah)=[]/\nh z.K/\(eH z.K rr/\iA rr)/\∀(a:eP),a.ok (bY bS z.K z.src (cm z.K z.src)).fst/\kO (bY bS z.K z.src (cm z.K z.src)).fst a.vs->b z a
def PW(F:ah)(r:eP)(s:o9)(q:Nat):=aH [(0,F),(11,r.r.A),(12,eT (Kf.rest (bY bS s.K s.src (cm s.K s.src)).fst r.vs)),(2050,af q (mj r) 25)] []
def JW(s:o9):=(bY bS s.K s.src (cm s.K s.src)).snd.snd==0
def q7(F:ah)(r:eP)(s:o9)(o:eP)(p:o9)(l:eP)(m:o9)(q n k:Nat):=[(0,F),(11,r.r.A),(12,eT (Kf.rest (bY bS s.K s.src (cm s.K s.src)).fst r.vs)),(21,o.r.A),(22,eT (Kf.rest (bY dc p.K p.src (cm p.K p.src)).fst o.vs)),(31,l.r.A),(32,eT (Kf.rest (bY bS m.K m.src (cm m.K m.src)).fst l.vs)),(2050,af q (mj r) 25),(3050,af n (mj o) 25),(4050,af k (mj l) 25)]
theorem aaX(x:KR)(F:ah)(C:oe.cond x)(hr:oe.aO x F):At [ai ⟨#[49,43,50,42,51]⟩] (cP F) (fun s r=>∀(q:Nat),aw q 0/\aC 10 (nV dc)/\true=true/\∃(p:o9),[ai ⟨#[118,97,114,32,120,32,61,32,49,10,120,43,43]⟩]=[ai p.src]/\([]:List ah)=[]/\nh p.K/\(eH p.K (PW F r s q)/\iA (PW F r s q))/\∀(o:eP),(o.ok (bY dc p.K p.src (cm p.K p.src)).fst/\kO (bY dc p.K p.src (cm p.K p.src)).fst o.vs)->∀(n:Nat),aw n 0/\At [ai ⟨#[97,43,49,32,61,32,50]⟩] (aH [(0,F),(11,r.r.A),(12,eT (Kf.rest (bY bS s.K s.src (cm s.K s.src)).fst r.vs)),(21,o.r.A),(22,eT (Kf.rest (bY dc p.K p.src (cm p.K p.src)).fst o.vs)),(2050,af q (mj r) 25),(3050,af n (mj o) 25)] []) (fun m l=>∀(k:Nat),aw k 0/\Br (JW s) (Br ((bY dc p.K p.src (cm p.K p.src)).snd.snd==0) (Br ((bY bS m.K m.src (cm m.K m.src)).snd.snd==61) (Br ((bY bS m.K m.src (cm m.K m.src)).snd.fst==0) (aw q 0/\Br ((r.r.n:Int)==5) (aw q 0/\j0 (ba Tryz.f6 4 23) [au r.r.a r.r.n r.r.cap,ad 3] (fun j=>T2 r.r.A ⟨j.b,j.o+j.n.toNat*5+1,none⟩ (fun i=>Br (i.toList==(ByteArray.mk #[42]).toList) (aw q 0/\j0 (ba Tryz.f6 4 31) [au r.r.a r.r.n r.r.cap,ad 4] (fun h=>eI r.r.A ⟨h.b,h.o+h.n.toNat*5+3,none⟩ (fun g f e=>iS (ba Tryz.f6 4 34) [au g f e,ad 1] (fun d=>T1 (eT (Kf.rest (bY bS s.K s.src (cm s.K s.src)).fst r.vs)) ⟨d.b,d.o+d.n.toNat*1,none⟩ (fun c=>Br (c==3) (aw n 0/\Br ((o.r.n:Int)==7) (aw n 0/\j0 (ba Tryz.f6 4 47) [au o.r.a o.r.n o.r.cap,ad 6] (fun b=>T1 o.r.A ⟨b.b,b.o+b.n.toNat*5,none⟩ (fun a=>ar oe x F (ax (aj (a==37))) (q7 F r s o p l m q n k)))) (ar oe x F cV (q7 F r s o p l m q n k))) (ar oe x F cV (q7 F r s o p l m q n k))))))) (ar oe x F cV (q7 F r s o p l m q n k))))) (ar oe x F cV (q7 F r s o p l m q n k))) (ar oe x F cV (q7 F r s o p l m q n k))) (ar oe x F cV (q7 F r s o p l m q n k))) (ar oe x F cV (q7 F r s o p l m q n k))) (ar oe x F cV (q7 F r s o p l m q n k)))):=by
 delta At cP mj PW JW j0 T2 eI iS T1 q7 c6 cV aH aw ad ai aj au af eT ax;obtain⟨K⟩:=x;replace C:nh K:=C;obtain⟨y,z⟩:=hr;have g1:=aaR K;have P:=aaQ K;have g3:=aaO K;have g4:=aaP K;have Q:=aaU K;have R:=aaT K;have S:=aaS K;have T:=aaV K;refine br KA ⟨K,rm⟩ C ⟨eH.sub y (bP 0),iA.sub z (bP 0)⟩ fun G H b1=>⟨aq,ake,rfl,⟨K,ua⟩,rfl,rfl,C,⟨eH.sub y (bP 0),iA.sub z (bP 0)⟩,fun U I b2=>⟨aq,KA,rfl,⟨K,Ds⟩,rfl,rfl,C,⟨eH.sub y (bP 0),iA.sub z (bP 0)⟩,fun y3 _ b3=>⟨aq,?_⟩⟩⟩;dsimp only at H I⊢;generalize bY bS K rm (cm K rm)=p1 at*;generalize bY dc K ua (cm K ua)=p2 at*;generalize bY bS K Ds (cm K Ds)=p3 at*;obtain⟨n1,v1⟩:=p1;obtain⟨n2,v2⟩:=p2;obtain⟨n3,v3⟩:=p3;dsimp only at g1 P g3 g4 Q R S T H I⊢;subst g1 Q T;obtain⟨w,J⟩:=H;obtain⟨A,_⟩:=I;have l1:=w.len;have l2:=A.len;obtain⟨W,Y,q3⟩:=map_some g3;obtain⟨d4,O,q4⟩:=map_some g4;obtain⟨X,Z,q6⟩:=map_some S;obtain⟨E,u⟩:=w.1.AK ae;obtain⟨N,B⟩:=A.1.AK ae;obtain⟨a4,m4,V,L,D,t,M⟩:=VC w J u O;rw[q4]at D t;obtain⟨kb,ko,rfl⟩:=D.some (by rw[t];decide);have t:m4=2:=t;subst t;refine sC rfl (sC rfl (sC rfl (sC rfl ⟨aq,sC ?_ ⟨aq,h9 5 rfl rfl rfl rfl,⟨E,0,G.r.n,G.r.cap,3⟩,by rw[u],hC,W.op,we (j:=1) w u Y (fun v=>rfl),sC ?_ ⟨aq,h9 5 rfl rfl rfl rfl,⟨E,0,G.r.n,G.r.cap,4⟩,by rw[u],hC,_,_,_,M,h9 1 rfl rfl rfl rfl,⟨kb,ko,2,V,1⟩,rfl,hC,3,NJ (j:=1) O L (by rw[q4];rfl),sC rfl ⟨aq,sC ?_ ⟨aq,h9 5 rfl rfl rfl rfl,⟨N,0,U.r.n,U.r.cap,6⟩,by rw[B],hC,X.kind,we (j:=0) A B Z (fun v=>rfl),(),ao,?_,az [0]⟩⟩⟩⟩⟩)))
 ·rw[l1,P];rfl
 ·rw[q3];exact beq_self_eq_true _
 ·rw[l2,R];rfl
 ·rw[q6];rfl
theorem aaW:aC 6 oe:=fo 77 Tryz.func6 (fun _ _=>[(1,0,.c (nV bS) [] [11,12]),(1,5,.n 2050),(1,6,.w [.z00 2050]),(2,0,.c (nV dc) [] [21,22]),(2,5,.n 3050),(2,6,.w [.z00 3050]),(3,0,.c (nV bS) [] [31,32]),(3,5,.n 4050),(3,6,.w [.z00 4050]),(4,16,aR 2050),(4,22,aR 2050),(4,23,.qo (gb 5)),(4,25,.q [.ex 11 .str]),(4,30,aR 2050),(4,31,.qo (gb 5)),(4,33,.q [.ex 11 .slice]),(4,34,.qo (gb 1)),(4,35,.q [.ex 12 (.int .i64)]),(4,40,aR 3050),(4,46,aR 3050),(4,47,.qo (gb 5)),(4,49,.q [.ex 21 (.int .i64)])]) [] aY aY bA [] aaX
end
section
open Go
def NZ{α:Type}(m:PM α):Prop:=∀s p t,m s≠.stop p 0 t
section
variable{α β:Type}{L:List bh}{fin:Int}{aI:Nat->ByteArray}{wide:ByteArray->ByteArray}
theorem NZ.bind{m:PM α}{f:α->PM β}(h:NZ m)(c:∀a,NZ (f a)):NZ (m>>=f):=by
 intro s p t e;have e:b0 m f s= .stop p 0 t:=e;unfold b0 at e;cases b:m s with
 |ok a u=>rw[b]at e;exact c a u p t e
 |stop q r u=>rw[b]at e;cases e;exact h _ _ _ b
 |out=>rw[b]at e;cases e
variable{b:Bool}{t:ByteArray}{x:cj}{k:Int}
theorem NZ.bif{m k:PM α}(h:NZ m)(hk:NZ k):NZ (bif b then m else k):=by cases b;exact hk;exact h
theorem NZ.ret{a:α}:NZ (ret a):=fun _ _ _ e=>by cases e
theorem NZ.out:NZ (Oc:PM α):=fun _ _ _ e=>by cases e
theorem NZ.fail{p e:Int}(h:e≠0):NZ (acR p e:PM α):=fun _ _ _ h'=>by cases h';exact h rfl
theorem NZ.get:NZ ez:=fun _ _ _ e=>by cases e
theorem NZ.set{s:al}:NZ (ic s):=fun _ _ _ e=>by cases e
theorem NZ.step:NZ eE:=fun _ _ _ e=>by cases e
theorem NZ.node:NZ (db x):=fun _ _ _ e=>by cases e
theorem NZ.dI:NZ (iU L fin:PM α):=fun _ _ _ e=>by cases e
theorem NZ.b9:NZ (cH L t):=by
 intro s p u e;unfold cH at e;grind
theorem NZ.bV:NZ (cr L fin t):=by
 intro s p u e;unfold cr at e;grind
theorem NZ.is{a:Nat}:NZ (iK L a t):=fun _ _ _ e=>by cases e
theorem NZ.ce:NZ (e9 L fin):=fun _ _ _ e=>by cases e
theorem NZ.pos:NZ (dN k):=fun _ _ _ e=>by cases e
theorem NZ.j9:NZ (ka k b):=by
 intro s p u e;unfold ka at e;grind
theorem NZ.word:NZ (gD L fin):=by
 intro s p u e;unfold gD at e;grind
theorem NZ.pK:NZ (dP L fin):=by
 intro s p u e;unfold dP at e;grind
theorem NZ.key:NZ (dW L fin aI wide):=by
 intro s p u e;unfold dW at e;revert e;dsimp only;generalize ((aB L fin s).kind==1||(aB L fin s).kind==2)=a;generalize ((aB L fin s).kind==3)=b;generalize ((aB L fin s).kind==4)=c;cases a <;> cases b <;> cases c <;> (intro e;cases e)
theorem NZ.empty:NZ (iJ L fin):=NZ.bind NZ.ce fun _=>NZ.node
theorem NZ.one{m:PM (List Int)}(h:NZ m):NZ (Go.Proofs.YtdkchodgklpomaaGreatDoor.one m):=NZ.bind h fun _=>NZ.ret
theorem NZ.cZ:NZ (cg x):=NZ.bind NZ.node fun _=>NZ.ret
set_option maxHeartbeats 4000000 in
theorem Y4:∀(f:Nat)(tag:ap),NZ (P L fin aI wide f tag):=by
 intro f
 induction f with
 |zero=>intro tag;rw[P];exact NZ.out
 |succ f a=>
  intro tag;cases tag <;> rw[P]
  all_goals
   repeat (first
    |exact a _
    |exact NZ.ret
    |exact NZ.get
    |exact NZ.set
    |exact NZ.step
    |exact NZ.node
    |exact NZ.dI
    |exact NZ.b9
    |exact NZ.bV
    |exact NZ.is
    |exact NZ.ce
    |exact NZ.pos
    |exact NZ.j9
    |exact NZ.word
    |exact NZ.pK
    |exact NZ.key
    |exact NZ.empty
    |exact NZ.cZ
    |exact NZ.fail (by decide)
    |apply NZ.one
    |apply NZ.bind
    |apply NZ.bif
    |intro _)
end
end
section
open Go
theorem abq(ns:List cj):oh ns=([],4)\/(oh ns=(ns,0)/\ns.length<=4096):=by
 unfold oh;grind
end
section
open Go
def Ua(j:Nat):List LH:=[.ex j (.int .i64),.ex j .str,.ex j (.float .f64),.ex j .slice,.ex j (.int .i64)]
end
section
open Go
structure K0 where
 n:Nat
def zJ:aQ where
 X:=K0
 args x:=[float f64 x.n,float f64 x.n]
 val _ _:=ax (aj true)
theorem ajF(x:K0)(F:ah)(c:zJ.cond x)(d:zJ.aO x F):xS (ba Tryz.f19 1 2) [float f64 x.n,float f64 x.n] (fun b=>Br (cG BinOp.neq b.fst b.snd) (xS (ba Tryz.f19 2 2) [float f64 x.n,float f64 x.n] (fun a=>ar zJ x F (ax (aj (cG BinOp.neq a.fst a.snd))) [(0,F)])) (ar zJ x F (ax (aj ((x.n:Int)==(x.n:Int)))) [(0,F)])):=by
 delta qs xS aj ax;refine⟨nz (.inr (.inr (.inr rfl))) rfl,(x.n,x.n),rfl,ao,aG (fun h=>⟨nz (.inr (.inr (.inr rfl))) rfl,(x.n,x.n),rfl,ao,(),ao,?_,az [0]⟩) (fun h=>⟨(),ao,?_,az [0]⟩)⟩
 ·show returned (.bool (cG .neq x.n x.n))=returned (.bool true);simp[*]
 ·show returned (.bool (_==_))=returned (.bool true);simp[*]
theorem ajE:aC 19 zJ:=fo 16 Tryz.func19 (fun _ _=>[(1,2,.qo (mM .neq)),(2,2,.qo (mM .neq)),(3,1,aX),(3,3,aX)]) [] aY aY bA [] ajF
structure rf where
 kind:Int
 op:ByteArray
 num:Nat
 pos:Int
 Bs:Int
 aJ:List Int
 n:Nat
 a:Option Addr
 ca:Nat
 b:Option Addr
 cb:Nat
 p:Bool
def r6:aQ where
 X:=rf
 args x:=[.agg #[.int .i64 x.kind,.string x.op,.float .f64 x.num,.slice x.a x.n x.ca,.int .i64 x.pos],.agg #[.int .i64 x.kind,.string x.op,.float .f64 x.num,.slice x.b x.n x.cb,.int .i64 x.Bs],.bool x.p]
 cond x:=(x.p=true->x.pos=x.Bs)/\jd 1 (bB x.aJ) x.a x.n/\jd 1 (bB x.aJ) x.b x.n/\x.n<=1048576
 aO x F:=lq F x.a (bB x.aJ)/\lq F x.b (bB x.aJ)
 val _ _:=ax (aj true)
structure l6 where
 b3:Nat
 b4:Nat
 i:Nat
def WZ(x:rf)(F:ah)(d:l6):List ah:=[F,.cells d.b3 [.int .i64 x.kind,.string x.op,.float .f64 x.num,.slice x.a x.n x.ca,.int .i64 x.pos] 35,.cells d.b4 [.int .i64 x.kind,.string x.op,.float .f64 x.num,.slice x.b x.n x.cb,.int .i64 x.Bs] 35]
def pB(d:l6):Option Addr:=some ⟨d.b3,0,none⟩
def pC(d:l6):Option Addr:=some ⟨d.b4,0,none⟩
def aj8(x:rf)(F:ah):Nat->Option Inv:=fun
 |0=>some {X:=l6,P:=fun d=>d.i<=x.n,mu:=fun d=>x.n-d.i,lv:=fun d=>[(3,ag (pB d)),(4,ag (pC d)),(7,ad d.i)],st:=WZ x F}
 |_=>none
def aj7(x:rf)(F:ah):Nat->Option Inv:=fun
 |3=>some {X:=l6,P:=fun _=>True,mu:=fun _=>0,lv:=fun d=>[(3,ag (pB d)),(4,ag (pC d))],st:=WZ x F}
 |_=>none
def EA(e1:rf):List Value:=[ad e1.kind,ai e1.op,float f64 e1.num,au e1.a e1.n e1.ca,ad e1.pos]
def Ez(e1:rf):List Value:=[ad e1.kind,ai e1.op,float f64 e1.num,au e1.b e1.n e1.cb,ad e1.Bs]
def zg(F:ah)(k:Nat)(x:rf)(j:Nat):=[(0,F),(10,af k (EA x) 35),(20,af j (Ez x) 35)]
def wy(e0:ah)(z:l6)(e1:rf):=[(0,e0),(1,af z.b3 (EA e1) 35),(2,af z.b4 (Ez e1) 35)]
def Mg(e0:ah)(e1:rf)(v0 v1:Value)(a:St):=∃(z:l6),True/\(v0=ag (pB z)/\v1=ag (pC z)/\True)/\aE a (wy e0 z e1)
def Jr(g:l6):=(-9223372036854775808:Int)<=(g.i:Int)+1/\(g.i:Int)+1<=(9223372036854775807:Int)
theorem aj_(x:rf)(F:ah)(r:r6.cond x)(t:r6.aO x F):∀(k j:Nat),(aw k 0/\aw j 0/\Br (x.kind !=x.kind) (ar r6 x F cV (zg F k x j)) (aw k 1/\aw j 1/\Br (!x.op.toList==x.op.toList) (ar r6 x F cV (zg F k x j)) (aw k 2/\aw j 2/\aC 19 zJ/\true=true/\∃(c:K0),[float f64 x.num,float f64 x.num]=[float f64 c.n,float f64 c.n]/\([]:List ah)=[]/\True/\True/\∀(b:Unit),True->aw k 3/\aw j 3/\Br ((x.n:Int)!=(x.n:Int)) (ar r6 x F cV (zg F k x j)) (Br x.p (aw k 4/\aw j 4/\Br (x.pos !=x.Bs) (ar r6 x F cV (zg F k x j)) (Mg F x (cE k) (cE j) (zg F k x j))) (Mg F x (cE k) (cE j) (zg F k x j))))))/\aT fun(i:l6)_=>True->(∃(a:l6),a.i<=x.n/\(ag (pB i)=ag (pB a)/\ag (pC i)=ag (pC a)/\ad 0=ad ↑a.i/\True)/\aE (wy F i x) (wy F a x))/\aT fun(g:l6)_=>g.i<=x.n->aw g.b3 3/\aS ((g.i:Int)<(x.n:Int)) (true=true/\aw g.b3 3/\iS (ba Tryz.f11 6 3) [au x.a x.n x.ca,ad ↑g.i] (fun e=>T1 F ⟨e.b,e.o+e.n.toNat*1,none⟩ (fun d=>aw g.b4 3/\iS (ba Tryz.f11 6 8) [au x.b x.n x.cb,ad ↑g.i] (fun c=>T1 F ⟨c.b,c.o+c.n.toNat*1,none⟩ (fun b=>Br (d !=b) (ar r6 x F cV (wy F g x)) (Jr g/\∃(a:l6),a.i<=x.n/\(ag (pB g)=ag (pB a)/\ag (pC g)=ag (pC a)/\ad ((g.i:Int)+1)=ad ↑a.i/\True)/\aE (wy F g x) (wy F a x)/\x.n-a.i<x.n-g.i)))))) (ar r6 x F fm (wy F g x)):=by
 delta c6 cV EA Ez zg pB pC wy Mg bI cE iS T1 Jr fm aw ad ai aj ag au af aS ax aT;obtain⟨y,h,q,z⟩:=r;obtain⟨l,m⟩:=t;have l1:x.aJ.length=x.n:=by have:=h.len;unfold bB at this;grind
 intro b c;refine⟨⟨aq,aq,AM aL ⟨aq,aq,AM aL ⟨aq,aq,ajE,rfl,⟨x.num⟩,rfl,rfl,ao,ao,fun _ _=>⟨aq,aq,AM aL (aG (fun hp=>⟨aq,aq,AM (by simp[*]) ⟨⟨b,c,0⟩,ao,aV,az [0,10,20]⟩⟩) (fun _=>⟨⟨b,c,0⟩,ao,aV,az [0,10,20]⟩))⟩⟩⟩⟩,?_⟩;rintro⟨b,c,_⟩ u-;refine⟨⟨⟨b,c,0⟩,df _,aV,az [0,1,2]⟩,?_⟩;rintro⟨b,c,i⟩ u hi;dsimp only at hi⊢;refine⟨aq,bo (fun s=>?_) (fun _=>im)⟩;obtain⟨k,hk⟩:∃k,x.aJ[i]?=some k:=⟨_,gy ae⟩;obtain⟨n,v,e1⟩:=h.some ae;obtain⟨o,w,p⟩:=q.some ae;rw[e1]at l⊢;rw[p]at m⊢;have f:(bB x.aJ)[i]?=some (.int .i64 k):=NH hk;refine⟨rfl,aq,h9 1 rfl rfl rfl rfl,⟨n,v,x.n,x.ca,i⟩,rfl,⟨by simp[*],ae⟩,k,?_,aq,h9 1 rfl rfl rfl rfl,⟨o,w,x.n,x.cb,i⟩,rfl,⟨by simp[*],ae⟩,k,?_,AM aL ⟨aK,⟨b,c,i+1⟩,by grind,aV,?_,by grind⟩⟩
 ·have:=l.look f;simp[*]
 ·have:=m.look f;simp[*]
 ·exact az [0,1,2]
theorem aj9:aC 11 r6:=fo 65 Tryz.func11 (fun _ _=>[(0,0,.n 10),(0,1,.n 20),(1,1,aR 10),(1,3,aR 20),(1,7,aR 10),(1,9,aR 20),(1,14,aR 10),(1,16,aR 20),(1,17,aW zJ),(1,22,aR 10),(1,25,aR 20),(1,33,aR 10),(1,35,aR 20),(4,2,aR 1),(6,1,aR 1),(6,3,.qo (gb 1)),(6,4,c9),(6,6,aR 2),(6,8,.qo (gb 1)),(6,9,c9)]) [] aj8 aj7 bA [] aj_
structure vC(ns:List cj)(a:Option Addr)(F:ah):Prop where
 h:∀(i:Nat)(d:cj),ns[i]?=some d->∃rb k c,a=some ⟨rb,0,none⟩/\jd 1 (bB d.aJ) k d.aJ.length/\lq F k (bB d.aJ)/\
  aP F ⟨rb,0+i*5+0,none⟩ (.int .i64 d.kind)/\aP F ⟨rb,0+i*5+1,none⟩ (.string d.op)/\aP F ⟨rb,0+i*5+2,none⟩ (.float .f64 d.num)/\aP F ⟨rb,0+i*5+3,none⟩ (.slice k d.aJ.length c)/\aP F ⟨rb,0+i*5+4,none⟩ (.int .i64 d.pos)
theorem vC.sub{ns:List cj}{a:Option Addr}{A B:ah}(hs:Sub A B)(h:vC ns a A):vC ns a B:=⟨fun i d hd=>by
 obtain⟨rb,k,c,e,b,f,g,j,l,m,n⟩:=h.h i d hd;exact⟨rb,k,c,e,b,f.sub hs,g.sub hs,j.sub hs,l.sub hs,m.sub hs,n.sub hs⟩⟩
structure xO where
 ns:List cj
 ms:List cj
 a:Option Addr
 ca:Nat
 b:Option Addr
 cb:Nat
def zK:aQ where
 X:=xO
 args x:=[.agg #[.slice x.a x.ns.length x.ca],.agg #[.slice x.b x.ms.length x.cb],.bool false]
 cond x:=C3 x.ns x.ms/\x.ns.length<=1048576/\∀d∈x.ns,d.aJ.length<=1048576
 aO x F:=vC x.ns x.a F/\vC x.ms x.b F
 val _ _:=ax (aj true)
def zs(x:xO):List Value:=[au x.a x.ns.length x.ca]
def zt(x:xO):List Value:=[au x.b x.ms.length x.cb]
def ajT(x:xO)(F:ah):Nat->Option Inv:=fun
 |0=>some {X:=l6,P:=fun d=>d.i<=x.ns.length,mu:=fun d=>x.ns.length-d.i,lv:=fun d=>[(2,c6),(3,ag (pB d)),(4,ag (pC d)),(7,ad d.i)],st:=fun d=>[F,af d.b3 (zs x) 25,af d.b4 (zt x) 25]}
 |_=>none
def zC(F:ah)(a:l6)(x:xO):=[(0,F),(1,af a.b3 (zs x) 25),(2,af a.b4 (zt x) 25)]
theorem ajV(x:xO)(F:ah)(I:zK.cond x)(L:zK.aO x F):∀(w v:Nat),aw w 0/\aw v 0/\Br ((x.ns.length:Int)!=(x.ms.length:Int)) (ar zK x F cV [(0,F),(10,af w (zs x) 25),(20,af v (zt x) 25)]) ((∃(a:l6),a.i<=x.ns.length/\(aj false=aj false/\ag (bI w)=ag (pB a)/\ag (bI v)=ag (pC a)/\ad 0=ad ↑a.i/\True)/\aE [(0,F),(10,af w (zs x) 25),(20,af v (zt x) 25)] (zC F a x))/\aT fun(u:l6)_=>u.i<=x.ns.length->aw u.b3 0/\aS ((u.i:Int)<(x.ns.length:Int)) (true=true/\aw u.b3 0/\j0 (ba Tryz.f9 6 3) [au x.a x.ns.length x.ca,ad ↑u.i] (fun s=>T1 F ⟨s.b,s.o+s.n.toNat*5,none⟩ (fun r=>T2 F ⟨s.b,s.o+s.n.toNat*5+1,none⟩ (fun q=>rj F ⟨s.b,s.o+s.n.toNat*5+2,none⟩ (fun p=>eI F ⟨s.b,s.o+s.n.toNat*5+3,none⟩ (fun o n m=>T1 F ⟨s.b,s.o+s.n.toNat*5+4,none⟩ (fun l=>aw u.b4 0/\j0 (ba Tryz.f9 6 8) [au x.b x.ms.length x.cb,ad ↑u.i] (fun k=>T1 F ⟨k.b,k.o+k.n.toNat*5,none⟩ (fun j=>T2 F ⟨k.b,k.o+k.n.toNat*5+1,none⟩ (fun i=>rj F ⟨k.b,k.o+k.n.toNat*5+2,none⟩ (fun h=>eI F ⟨k.b,k.o+k.n.toNat*5+3,none⟩ (fun g f e=>T1 F ⟨k.b,k.o+k.n.toNat*5+4,none⟩ (fun d=>aC 11 r6/\true=true/\∃(c:rf),[agg ⟨[ad r,ai q,float f64 p,au o n m,ad l]⟩,agg ⟨[ad j,ai i,float f64 h,au g f e,ad d]⟩,aj false]=[agg ⟨EA c⟩,agg ⟨Ez c⟩,aj c.p]/\([]:List ah)=[]/\((c.p=true->c.pos=c.Bs)/\jd 1 (bB c.aJ) c.a c.n/\jd 1 (bB c.aJ) c.b c.n/\c.n<=1048576)/\(lq (aH (zC F u x) []) c.a (bB c.aJ)/\lq (aH (zC F u x) []) c.b (bB c.aJ))/\∀(b:Unit),True->Jr u/\∃(a:l6),a.i<=x.ns.length/\(aj false=aj false/\ag (pB u)=ag (pB a)/\ag (pC u)=ag (pC a)/\ad ((u.i:Int)+1)=ad ↑a.i/\True)/\aE (zC F u x) (zC F a x)/\x.ns.length-a.i<x.ns.length-u.i))))))))))))) (ar zK x F fm (zC F u x))):=by
 delta c6 cV zs zt bI pB pC zC j0 T1 T2 rj eI EA Ez Jr fm aH aw ad ai aj ag au af aS ax aT;obtain⟨z,T,G⟩:=I;obtain⟨M,N⟩:=L;have l1:=z.len;intro b c;refine⟨aq,aq,AM (by simp[*]) ⟨⟨⟨b,c,0⟩,df _,aV,az [0,10,20]⟩,?_⟩⟩;rintro⟨b,c,i⟩ U hi;dsimp only at hi⊢;refine⟨aq,bo (fun K=>?_) (fun _=>im)⟩;obtain⟨d,hd⟩:∃d,x.ns[i]?=some d:=⟨_,gy ae⟩;obtain⟨e,J,q1,q2,q3,q4⟩:=z.get i d hd;obtain⟨C,A,t,e1,s1,t1,O,P,Q,R,S⟩:=M.h i d hd;obtain⟨D,B,y,E,s2,t2,v0,v1,v2,v3,v4⟩:=N.h i e J;rw[q1]at v0;rw[q2]at v1;rw[q3]at v2;rw[q4]at v3 s2 t2;have H:=G d (ou hd);refine⟨rfl,aq,h9 5 rfl rfl rfl rfl,⟨C,0,x.ns.length,x.ca,i⟩,by rw[e1],⟨by simp[*],ae⟩,d.kind,O,d.op,P,d.num,Q,A,_,t,R,d.pos,S,aq,h9 5 rfl rfl rfl rfl,⟨D,0,x.ms.length,x.cb,i⟩,by rw[E],⟨by simp[*],by simp[*]⟩,d.kind,v0,d.op,v1,d.num,v2,B,_,y,v3,e.pos,v4,aj9,rfl,⟨d.kind,d.op,d.num,d.pos,e.pos,d.aJ,d.aJ.length,A,t,B,y,false⟩,rfl,rfl,⟨(fun h=>nomatch h),s1,s2,H⟩,⟨t1.sub (bP 0),t2.sub (bP 0)⟩,fun _ _=>⟨aK,⟨b,c,i+1⟩,by grind,aV,az [0,1,2],by grind⟩⟩
theorem ajU:aC 9 zK:=fo 35 Tryz.func9 (fun _ _=>[(0,0,.n 10),(0,1,.n 20),(1,1,aR 10),(1,4,aR 20),(4,2,aR 1),(6,1,aR 1),(6,3,.qo (gb 5)),(6,4,.q (Ua 0)),(6,6,aR 2),(6,8,.qo (gb 5)),(6,9,.q (Ua 0)),(6,11,aW r6)]) [] ajT aY bA [] ajV
theorem ab4(s:ByteArray)(p j:Nat)(h:0<j)(a:j<(Utf8.decode s p).2):128<=bt s (p+j):=by
 rw[Lib.decode_at]at a;have e1:=G6 s (p+1);have d:=G6 s (p+2);have f:=G6 s (p+3);rw[e1,d,f]at a;rcases Lib.decodeN_shape (s.size-p) (s.get! p).toNat (bt s (p+1)) (bt s (p+2)) (bt s (p+3))with⟨_,e⟩| ⟨_,_,b,_,e⟩| ⟨_,_,b,c,_,_,e⟩| ⟨_,_,b,c,g,_,_,e⟩|e <;> rw[e]at a <;> dsimp only at a
 ·omega
 ·grind
 ·grind
 ·rcases(by omega:j=1\/j=2\/j=3)with rfl|rfl|rfl <;> omega
 ·omega
def Ah(s:ByteArray)(p:Nat):Prop:=∀i,i<p->i<s.size->bt s i≠40/\bt s i≠41/\bt s i≠47
structure C0 where
 b:Nat
 p:Nat
def u4:aQ where
 X:=vw
 Y:=Bool
 args x:=[ai x.s]
 cond x:=x.s.size<=1048576
 bZ x y:=y=false->Ah x.s x.s.size
 val _ y:=ax (aj y)
def B9(d:C0):Option Addr:=some ⟨d.b,0,none⟩
def aiZ(x:vw)(F:ah):Nat->Option Inv:=fun
 |0=>some {X:=C0,P:=fun d=>Ah x.s d.p,mu:=fun d=>x.s.size-d.p,lv:=fun d=>[(0,ai x.s),(5,ag (B9 d))],st:=fun d=>[F,.gW d.b (.stringIter x.s d.p)]}
 |_=>none
def JJ(c:Ai)(x:vw):=0<=(c.p:Int)/\(c.p:Int)<(x.s.size:Int)
theorem ai1(x:vw)(F:ah)(o:u4.cond x)(q:u4.aO x F):∀(f:Nat),(∃(a:C0),Ah x.s a.p/\(ai x.s=ai x.s/\ag (bI f)=ag (B9 a)/\True)/\aE [(0,F),(10,lE f (Obj.stringIter x.s 0))] [(0,F),(1,lE a.b (Obj.stringIter x.s a.p))])/\aT fun(e:C0)_=>Ah x.s e.p->Gp ⟨some 6,Op.next (Operand.tmp 5) true,0,"law.go:77",⟨[]⟩,none⟩ [ag (B9 e)] [lE e.b (Obj.stringIter x.s e.p)] (fun c b=>JJ c x/\Br (aF x.s (c.p:Int)==40) (ar u4 x F fm (wo F c)) (JJ c x/\Br (aF x.s (c.p:Int)==41) (ar u4 x F fm (wo F c)) (JJ c x/\Br (aF x.s (c.p:Int)==47) (ar u4 x F fm (wo F c)) (∃(a:C0),Ah x.s a.p/\(ai x.s=ai x.s/\ag (B9 e)=ag (B9 a)/\True)/\aE (wo F c) [(0,F),(1,lE a.b (Obj.stringIter x.s a.p))]/\x.s.size-a.p<x.s.size-e.p)))) (fun c a=>ar u4 x F (ax (aj (x.s.toList==oJ.toList))) [(0,F),(1,lE c.b (Obj.stringIter c.s c.p))]):=by
 delta bI B9 Gp JJ fm wo oJ ai aj ag lE ax aT;obtain⟨s⟩:=x;intro b;refine⟨⟨⟨b,0⟩,fun i h=>absurd h (Nat.not_lt_zero _),aV,az [0,10]⟩,?_⟩;rintro⟨b,p⟩ r j;dsimp only at j⊢;refine kV (VQ rfl) ⟨b,s,p⟩ ⟨fun _ hp=>?_,fun _ hp=>⟨_,fun _ i g d=>j i (by grind) d,rfl,az [0]⟩⟩;have hp:p<s.size:=hp;dsimp only;have e:aF s (p:Int)=(bt s p:Int):=by rw[f_,cw]
 rw[e];have jy:(0:Int)<=(p:Int)/\(p:Int)<(s.size:Int):=aK;refine⟨jy,aG (fun _=>⟨true,(fun h=>nomatch h),rfl,az [0]⟩) (fun g=>⟨jy,aG (fun _=>⟨true,(fun h=>nomatch h),rfl,az [0]⟩) (fun d=>⟨jy,aG (fun _=>⟨true,(fun h=>nomatch h),rfl,az [0]⟩) (fun l=>⟨⟨b,p+(Utf8.decode s p).2⟩,?_,aV,az [0,1],?_⟩)⟩)⟩)⟩
 ·intro i hi hs;have hi:i<p+(Utf8.decode s p).2:=hi;have g:=dU.1 g;have d:=dU.1 d;have l:=dU.1 l;rcases Nat.lt_trichotomy i p with h|h|h
  ·exact j i h hs
  ·grind
  ·have:=ab4 s p (i-p) ae ae;grind
 ·have:1<=(Utf8.decode s p).2:=by
   rw[Lib.decode_at];rcases Lib.decodeN_shape (s.size-p) (s.get! p).toNat (s.get! (p+1)).toNat (s.get! (p+2)).toNat (s.get! (p+3)).toNat with⟨_,e⟩| ⟨_,_,k,_,e⟩| ⟨_,_,k,m,_,_,e⟩| ⟨_,_,k,m,n,_,_,e⟩|e <;> rw[e] <;> dsimp only <;> omega
  grind
theorem ai0:aC 8 u4:=fo 27 Tryz.func8 (fun _ _=>[(1,1,.n 10),(2,0,.o DW [1] [1])]) [] aiZ aY bA [] ai1
end
section
open Go
structure cM(s w:ByteArray)(d:Nat):Prop where
 eq:∃a e:List UInt8,w.data.toList=a++(s.data.toList++e)/\a.length=d/\(e=[]\/∃b,e=10::b)
theorem AO(s:ByteArray)(i:Nat):bt s i=((s.data.toList[i]?).map UInt8.toNat).getD 0:=by
 unfold bt;simp[*]
theorem sS(s:ByteArray):s.data.toList.length=s.size:=aL
theorem Ue(s:ByteArray)(i j:Nat):(s.extract i j).data.toList=(s.data.toList.drop i).take (j-i):=by
 simp[*]
section
variable{s w:ByteArray}{d:Nat}
variable{t:List Nat}{i k:Nat}
theorem cM.at_(h:cM s w d)(hk:k<s.size):bt w (k+d)=bt s k:=by
 obtain⟨a,e,b,c,_⟩:=h.eq;rw[AO,AO,b,j6 ae,lD (by simp[*])];simp[*]
theorem cM.size(h:cM s w d):s.size+d<=w.size:=by
 obtain⟨a,e,b,c,_⟩:=h.eq;have:=congrArg List.length b;rw[sS,eS,eS,sS]at this;omega
theorem cM.nl(h:cM s w d):(w.size=s.size+d/\bt w (s.size+d)=0)\/(s.size+d<w.size/\bt w (s.size+d)=10):=by
 obtain⟨a,e,f,g,c⟩:=h.eq;have hl:=congrArg List.length f;rw[sS,eS,eS,sS]at hl;rcases c with c| ⟨b,c⟩
 ·subst c;rw[List.length_nil]at hl;exact .inl ⟨ae,ud ae⟩
 ·subst c;rw[sJ]at hl;refine .inr ⟨ae,?_⟩;rw[AO,f,j6 ae,j6 (by simp[*]),sS];simp[*]
theorem cM.ask(h:cM s w d)(hk:k<=s.size){α:Type}(p:Nat->α)(e:p 10=p 0):p (bt w (k+d))=p (bt s k):=by
 rcases Nat.lt_or_ge k s.size with hl|hl
 ·rw[h.at_ hl]
 ·have a:k=s.size:=by omega
  subst a;rw[ud (bT _)];rcases h.nl with⟨_,b⟩| ⟨_,b⟩ <;> rw[b];exact e
theorem cM.He(h:cM s w d)(hk:k<=s.size)(p:Nat->Bool)(e:p 10=false):(decide (k+d<w.size)&&p (bt w (k+d)))=(decide (k<s.size)&&p (bt s k)):=by
 rcases Nat.lt_or_ge k s.size with hl|hl
 ·rw[h.at_ hl,bv hl,bv (by have:=h.size;omega)]
 ·have a:k=s.size:=by omega
  subst a;rw[bF (Nat.lt_irrefl _),jk];rcases h.nl with⟨c,b⟩| ⟨_,b⟩
  all_goals grind
theorem cM.ext(h:cM s w d){j:Nat}(hi:i<=s.size)(f:j<=s.size):w.extract (i+d) (j+d)=s.extract i j:=by
 obtain⟨a,e,b,c,_⟩:=h.eq;apply ByteArray.ext;apply Array.ext';rw[Ue,Ue,b,List.drop_append,List.drop_of_length_le ae,List.nil_append,show i+d-a.length=i by omega,List.drop_append_of_le_length (by simp[*]),List.take_append_of_le_length (by rw[List.length_drop,sS];omega),show j+d-(i+d)=j-i by omega]
theorem cM.sub(h:cM s w d)(hi:i<=s.size):cM (s.extract i s.size) (w.extract (i+d) w.size) 0:=by
 obtain⟨a,e,b,f,c⟩:=h.eq;refine⟨[],e,?_,rfl,c⟩;rw[DC,DC,b,List.drop_append,List.drop_of_length_le ae,List.nil_append,List.nil_append,show i+d-a.length=i by omega,List.drop_append_of_le_length (by simp[*])]
theorem ab_(n b c d b3 a e f:Nat)(h:n=1\/a/64≠2):Lib.decodeN 1 b c d b3=Lib.decodeN n b a e f:=by
 unfold Lib.decodeN;have e1:¬((1:Nat)<1/\c/64=2):=ae;have g:¬(1<n/\a/64=2):=ae;simp[*]
theorem aca(n b c d b3 a e:Nat)(hn:2<=n)(h:n=2\/a/64≠2):Lib.decodeN 2 b c d b3=Lib.decodeN n b c a e:=by
 unfold Lib.decodeN;have e0:(1<n)=((1:Nat)<2):=propext ⟨fun _=>ae,fun _=>ae⟩;have e1:¬((2:Nat)<2/\d/64=2):=ae;have f:¬(2<n/\a/64=2):=ae;simp[*]
theorem acb(n b c d b3 a:Nat)(hn:3<=n)(h:n=3\/a/64≠2):Lib.decodeN 3 b c d b3=Lib.decodeN n b c d a:=by
 unfold Lib.decodeN;have e0:(1<n)=((1:Nat)<3):=propext ⟨fun _=>ae,fun _=>ae⟩;have e:(2<n)=((2:Nat)<3):=propext ⟨fun _=>ae,fun _=>ae⟩;have e1:¬((3:Nat)<3/\b3/64=2):=ae;have f:¬(3<n/\a/64=2):=ae;simp[*]
theorem acc(n m a b c b3:Nat)(hn:4<=n)(e:4<=m):Lib.decodeN m a b c b3=Lib.decodeN n a b c b3:=by
 unfold Lib.decodeN;have e0:(1<n)=(1<m):=propext ⟨fun _=>ae,fun _=>ae⟩;have e1:(2<n)=(2<m):=propext ⟨fun _=>ae,fun _=>ae⟩;have d:(3<n)=(3<m):=propext ⟨fun _=>ae,fun _=>ae⟩;simp[*]
theorem cM.next(h:cM s w d)(hi:i<s.size):cS w (i+d)=cS s i:=by
 unfold cS;have hs:=h.size;rw[bv hi,bv (show i+d<w.size by omega),h.at_ hi];have key:Lib.decodeN (w.size-(i+d)) (bt s i) (bt w (i+d+1)) (bt w (i+d+2)) (bt w (i+d+3))=Lib.decodeN (s.size-i) (bt s i) (bt s (i+1)) (bt s (i+2)) (bt s (i+3)):=by
  have a:i+1<s.size->bt w (i+d+1)=bt s (i+1):=fun hl=>by rw[show i+d+1=i+1+d by omega,h.at_ hl]
  have c:i+2<s.size->bt w (i+d+2)=bt s (i+2):=fun hl=>by rw[show i+d+2=i+2+d by omega,h.at_ hl]
  have e:i+3<s.size->bt w (i+d+3)=bt s (i+3):=fun hl=>by rw[show i+d+3=i+3+d by omega,h.at_ hl]
  by_cases f:i+1=s.size
  ·rw[show s.size-i=1 by omega];refine(ab_ _ _ _ _ _ _ _ _ ?_).symm;rcases h.nl with⟨b,_⟩| ⟨_,b⟩
   all_goals grind
  by_cases b:i+2=s.size
  ·rw[show s.size-i=2 by omega,a ae];refine(aca _ _ _ _ _ _ _ ae ?_).symm;rcases h.nl with⟨b,_⟩| ⟨_,b⟩
   all_goals grind
  by_cases g:i+3=s.size
  ·rw[show s.size-i=3 by omega,a ae,c ae];refine(acb _ _ _ _ _ _ ae ?_).symm;rcases h.nl with⟨b,_⟩| ⟨_,b⟩
   all_goals grind
  rw[a ae,c ae,e ae];exact acc _ _ _ _ _ _ ae ae
 rw[key]
theorem DU(h:bt w i=10)(hi:i<w.size):cS w i=some (10,1):=by
 unfold cS;rw[bv hi,h];rfl
theorem VH{c:Nat}(h:bt w i=c)(a:c<128)(hi:i<w.size):cS w i=some (c,1):=by
 unfold cS;have:Lib.decodeN (w.size-i) (bt w i) (bt w (i+1)) (bt w (i+2)) (bt w (i+3))=(c,1):=by
  unfold Lib.decodeN;simp[*]
 grind
theorem Bk(hi:w.size<=i):cS w i=none:=by
 unfold cS;grind
theorem cM.hp(h:cM s w d)(hi:i<=s.size)(c:∀b∈t,b≠10/\b≠0):cY w (i+d) t=cY s i t:=by
 unfold cY;have hs:=h.size;by_cases hl:i+t.length<=s.size
 ·rw[bv hl,bv (show i+d+t.length<=w.size by omega),Bool.true_and,Bool.true_and,Bool.eq_iff_iff,List.all_eq_true,List.all_eq_true];have e:∀k,k<t.length->bt w (i+d+k)=bt s (i+k):=fun k hk=>by rw[show i+d+k=i+k+d by omega,h.at_ ae]
  grind
 ·rw[bF hl,jk,Bool.and_eq_false_iff];refine .inr ?_;rw[List.all_eq_false];have hk:s.size-i<t.length:=ae;refine⟨s.size-i,List.mem_range.2 hk,?_⟩;rw[show i+d+(s.size-i)=s.size+d by omega,fg,gy hk];have:=c _ (List.getElem_mem hk);rw[beq_iff_eq];rcases h.nl with⟨_,a⟩| ⟨_,a⟩ <;> rw[a]
  all_goals grind
theorem cM.aD(h:cM s w d):∀(f g i:Nat),i<=s.size->s.size-i<f->w.size-(i+d)<g->fN w g (i+d)=((fN s f i).1+d,(fN s f i).2):=by
 intro f
 induction f with
 |zero=>intro g i _ a _;omega
 |succ f l=>
  intro g i hi m o;obtain⟨g,rfl⟩:∃k,g=k+1:=⟨g-1,ae⟩;have hs:=h.size;rw[fN,fN];rcases Nat.lt_or_ge i s.size with hl|hl
  ·rw[bv hl,bv (show i+d<w.size by omega),h.next hl,aU,aU];cases hn:cS s i with
   |none=>rfl
   |some b=>
    obtain⟨c,n⟩:=b;obtain⟨e,f2,f3⟩:=jO hn;dsimp only;cases hL c with
    |true=>rfl
    |false=>
     rw[aM,aM,show i+d+n=i+n+d by omega];exact l g (i+n) e ae ae
  ·have:i=s.size:=by omega
   subst this;rw[bF (Nat.lt_irrefl _)];rcases h.nl with⟨a,_⟩| ⟨a,j⟩
   ·simp[*]
   ·rw[bv a,DU j a];rfl
theorem cM.rD(h:cM s w d)(a:∀b∈t,b≠10/\b≠0):∀(f g i k:Nat),i<=s.size->w.size-(i+d)<g->nG s t f i=some k->nG w t g (i+d)=some (k+d):=by
 intro f
 induction f with
 |zero=>intro g i k _ _ h;cases h
 |succ f c=>
  intro g i k hi e hk;obtain⟨g,rfl⟩:∃k,g=k+1:=⟨g-1,ae⟩;have hs:=h.size;rw[nG]at hk⊢;rw[h.hp hi a];cases hp:cY s i t with
  |true=>rw[hp]at hk;cases hk;rfl
  |false=>
   rw[hp,aM]at hk;rw[aM];by_cases hl:i<s.size
   ·rw[bv hl]at hk;rw[bv (show i+d<w.size by omega),aU,show i+d+1=i+1+d by omega];exact c g (i+1) k hl ae hk
   grind
theorem aiP(t:ByteArray):∀(f g i:Nat)(aD:Bool),t.size-i<f->t.size-i<g->eL t f i aD=eL t g i aD:=by
 intro f
 induction f with
 |zero=>intro g i aD h _;omega
 |succ f j=>
  intro g i aD d e;obtain⟨g,rfl⟩:∃k,g=k+1:=⟨g-1,ae⟩;rw[eL,eL];by_cases hi:i<t.size
  ·rw[bv hi];cases hn:cS t i with
   |none=>rfl
   |some a=>
    obtain⟨c,n⟩:=a;obtain⟨b,f2,f3⟩:=jO hn;grind
  simp[*]
theorem abg(t:ByteArray):∀(f g i:Nat)(aD:Bool),i<=t.size->t.size-i<f->t.size-i<g->cF t f i aD=cF t g i aD:=by
 intro f
 induction f with
 |zero=>intro g i aD _ h _;omega
 |succ f b=>
  intro g i aD hi q r;obtain⟨g,rfl⟩:∃k,g=k+1:=⟨g-1,ae⟩;rw[cF,cF];by_cases hl:i<t.size
  ·rw[bv hl];cases hn:cS t i with
   |none=>rfl
   |some d=>
    obtain⟨c,n⟩:=d;obtain⟨a,f2,f3⟩:=jO hn;dsimp only[aU];rw[b g (i+n) true a ae ae,b g (i+n) aD a ae ae];have p:=DR t (t.size+1) i hi;cases o:cY t i [47,47]with
    |true=>
     rw[aU,aU];have l:i<(fN t (t.size+1) i).1\/hL c=true\/(fN t (t.size+1) i).2=false:=by
      rw[fN,bv hl,hn];dsimp only[cond_true];cases hL c with
      |true=>exact .inr (.inl rfl)
      |false=>rw[aM];exact .inl (by have:=DR t t.size (i+n) a;omega)
     grind
    |false=>
     rw[aM,aM];cases e:cY t i [47,42]with
     |false=>rfl
     |true=>
      rw[aU,aU];have hp:=DI e;have m:([47,42]:List Nat).length=2:=rfl;cases hx:nG (t.extract (i+2) t.size) [42,47] (t.size+1) 0 with
      |none=>rfl
      |some k=>
       have j:=ND _ _ _ _ _ hx;rw[gS]at j;grind
  simp[*]
theorem cM.Ts(h:cM s w d):∀(f g i j:Nat)(aD l:Bool),i<=s.size->s.size-i<f->w.size-(i+d)<g->cF s f i aD=(-1,j,l)->
  (j<s.size->cF w g (i+d) aD=(-1,j+d,l))/\(j=s.size->∀m,w.size-(s.size+d)<m->cF w g (i+d) aD=cF w m (s.size+d) l):=by
 intro f
 induction f with
 |zero=>intro g i j aD l _ o _;omega
 |succ f p=>
  intro g i j aD l hi J G a;obtain⟨g,rfl⟩:∃k,g=k+1:=⟨g-1,ae⟩;have hs:=h.size;rw[cF]at a;rcases Nat.lt_or_ge i s.size with hl|hl
  ·rw[bv hl]at a;have e0:∀m,cF w (m+1) (i+d) aD=_:=fun m=>by rw[cF,bv (show i+d<w.size by omega),h.next hl,h.hp hi (t:=[47,47]) (by decide),h.hp hi (t:=[47,42]) (by decide),aU]
   rw[e0];cases hn:cS s i with
   |none=>
    rw[hn]at a;have:=congrArg Prod.fst a;have:(i:Int)= -1:=this;omega
   |some B=>
    obtain⟨c,n⟩:=B;obtain⟨q,f2,f3⟩:=jO hn;rw[hn]at a;dsimp only[aU]at a⊢;have x:i+d+n=i+n+d:=ae;cases o:hL c with
    |true=>
     rw[o,aU]at a;rw[aU,x];exact p g (i+n) j true l q ae ae a
    |false=>
     rw[o,aM]at a;rw[aM];cases y:rE c with
     |true=>
      rw[y,aU]at a;rw[aU,x];exact p g (i+n) j aD l q ae ae a
     |false=>
      rw[y,aM]at a;rw[aM];cases z:cY s i [47,47]with
      |true=>
       rw[z,aU]at a;rw[aU,h.aD (s.size+1) (w.size+1) i hi ae ae];dsimp only;have D:=DR s (s.size+1) i hi;have u:(fN s (s.size+1) i).2=true->i<(fN s (s.size+1) i).1:=by
        rw[fN,bv hl,hn];dsimp only[cond_true];rw[o,aM];have:=DR s s.size (i+n) q;intro _;omega
       cases b:(fN s (s.size+1) i).2 with
       |true=>
        rw[b,aU]at a;rw[aU];have:=u b;exact p g _ j aD l D.2 ae ae a
       |false=>
        rw[b,aM]at a;have:=congrArg Prod.fst a;have:((fN s (s.size+1) i).1:Int)= -1:=this;omega
      |false=>
       rw[z,aM]at a;rw[aM];cases b:cY s i [47,42]with
       |false=>
        rw[b,aM]at a;rw[aM];cases a;exact⟨fun _=>rfl,fun e=>ae⟩
       |true=>
        rw[b,aU]at a;rw[aU];have hp:=DI b;have H:([47,42]:List Nat).length=2:=rfl;have E:=h.sub (i:=i+2) ae;cases hx:nG (s.extract (i+2) s.size) [42,47] (s.size+1) 0 with
        |none=>
         rw[hx]at a;have:=congrArg Prod.fst a;have:(i:Int)= -1:=this;omega
        |some k=>
         rw[hx]at a;have C:=ND _ _ _ _ _ hx;rw[gS]at C;have I:([42,47]:List Nat).length=2:=rfl;have v:nG (w.extract (i+d+2) w.size) [42,47] (w.size+1) 0=some k:=by
          have:=E.rD (t:=[42,47]) (by decide) (s.size+1) (w.size+1) 0 k (df _) (by rw[gS];omega) hx;rw[show i+d+2=i+2+d by omega];exact this
         rw[v];dsimp only at a⊢;have F:w.extract (i+d+2) (i+d+2+k)=s.extract (i+2) (i+2+k):=by
          rw[show i+d+2=i+2+d by omega,show i+2+d+k=i+2+k+d by omega];exact h.ext ae ae
         rw[F,aiP _ (w.size+1) (s.size+1) 0 aD (by rw[gS];omega) (by rw[gS];omega)];cases A:(eL (s.extract (i+2) (i+2+k)) (s.size+1) 0 aD).1 with
         |true=>
          rw[A,aU]at a;rw[aU,show i+d+k+4=i+k+4+d by omega];exact p g (i+k+4) j _ l ae ae ae a
         |false=>
          rw[A,aM]at a;have:=congrArg Prod.fst a;have:(i:Int)= -1:=this;omega
  ·have:i=s.size:=by omega
   subst this;rw[bF (Nat.lt_irrefl _)]at a;cases a;exact⟨fun e=>absurd e (Nat.lt_irrefl _),fun _ m r=>abg w _ _ _ _ hs G r⟩
theorem cM.abf(h:cM s w d)(b:∀i,i<s.size->bt s i≠47):∀(f g i:Nat)(aD:Bool),i<=s.size->0<=(cF s f i aD).1->f<=g->0<=(cF w g (i+d) aD).1:=by
 intro f
 induction f with
 |zero=>intro g i aD _ j _;exact absurd j (by show ¬(0:Int)<= -1;decide)
 |succ f o=>
  intro g i aD hi a m;obtain⟨g,rfl⟩:∃k,g=k+1:=⟨g-1,ae⟩;have hs:=h.size;rw[cF]at a;rcases Nat.lt_or_ge i s.size with hl|hl
  ·rw[bv hl,aU]at a;rw[cF,bv (show i+d<w.size by omega),aU,h.next hl];have no:∀t:List Nat,cY s i (47::t)=false:=fun t=>by
    cases hp:cY s i (47::t)with
    |false=>rfl
    |true=>
     exfalso;unfold cY at hp;rw[gx,List.all_eq_true]at hp;have:=hp.2 0 (List.mem_range.2 (Nat.succ_pos _));grind
   cases hn:cS s i with
   |none=>show(0:Int)<=(((i+d:Nat)):Int);omega
   |some e=>
    obtain⟨c,n⟩:=e;obtain⟨l,f2,f3⟩:=jO hn;grind
  grind
end
end
end Go.Proofs.YtdkchodgklpomaaGreatDoor
