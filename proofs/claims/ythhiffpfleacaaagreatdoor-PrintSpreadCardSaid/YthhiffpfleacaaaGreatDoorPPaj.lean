/- A part of the proof that pennantlaw07.PrintSpread answers true at every input. -/
import Derived.Test.YthhiffpfleacaaaGreatDoorPPai
set_option linter.all false
namespace Go.Proofs.YthhiffpfleacaaaGreatDoor
set_option maxRecDepth 100000
open Go.Value (int slice string bool pointer agg tuple func float iface nilIface)
open Go.IntKind (i64 u8 u64 i32 u32 u16 i8 i16)
open Go.FloatKind (f64)
open Go.Ending (returned panicked)
open Go.Proofs.Tryz
def cU(K:bD)(x:bY)(n:Nat):j ax:=P x.L x.ae K.tv bo n (.prog [])>>=λ_=>ret ()
def ci(K:bD)(x:bY)(n:Nat):j ax:=ps x.L x.ae K.tv bo n
structure pT where
 K:bD
 x:bY
 s:ap
 n:Nat
abbrev nZ(x:pT):bv:=some ⟨x.x.b,0,none⟩
abbrev oD(M:bD->bY->Nat->j ax):aF where
 X:=pT
 Y:=ap ⊕ (Int×Int)
 args x:=[W (nZ x)]
 pre x:=[G x.x x.s]
 cond x:=hW x.K x.x/\PG x.x x.s []/\M x.K x.x x.n x.s≠.out
 aE x F:=dj x.K x.x F
 bS x y:=match y with
  | .inl t=>M x.K x.x x.n x.s= .ok () t/\(∃c,bM x.x.ae t c)/\t.a.length<=4194304
  | .inr a=>∃t,M x.K x.x x.n x.s= .stop a.1 a.2 t
 val x y:=match y with
  | .inl _=>.returned (.tuple #[])
  | .inr a=>.panicked [⟨jj a.1 a.2,false,false⟩]
 post x y:=match y with
  | .inl t=>[G x.x t]
  | .inr _=>[]
 eL _ _ _ b h:=dj.sub b h
 sum:=some (iL ap (Int×Int))
def af0(x:pT)(a:ag):List (Nat×Nat×OH):=[(0,1,q (cv x.n 10)),(1,3,cD),(1,7,.q [.ex 0 .slice]),(2,1,aI mo)]
def af2(x:pT)(F:ag)(D:(oD ci).cond x)(E:(oD ci).aE x F):cd x.n 10 [W (nZ x)] [G x.x x.s] (g [(0,G x.x x.s),(1,F)] [0]) (λh i=>true=true/\T1 (G h.x i.snd) ⟨x.x.b,1,none⟩ (λf=>dN (G h.x i.snd) ⟨x.x.b,0,none⟩ (λe d c=>aK (f<d) (lN [W (nZ x)] (g (mJ h i F) []) (λb a=>l (oD ci) x F (kv b) (mJ h i F))) (l (oD ci) x F eK (mJ h i F))))) (λh b=>l (oD ci) x F (q8 b) (iK F)):=by
 delta cd nZ T1 dN lN mJ kv eK q8 iK g G bz Z W Q ce aY aK al;obtain⟨K,x,s,n⟩:=x;obtain⟨B,A,q⟩:=D;dsimp only at B A q⊢;have H:=SM n;obtain⟨r,m⟩:∃r,ci K x n s=r:=⟨_,rfl⟩;rw[m]at q;have U:=m;unfold ci ps at U;have C:=B.len;refine ca A (CO U q) (λk j U z t v p u o w=>?_) (cB:=ai) (ct:=ai) (cP:=ai);dsimp only[aj.sl,ap.az,ap.add]at t v p u o w;rw[nt]at U;refine⟨rfl,_,ee λ_=>rfl,_,_,_,ee λ_=>rfl,bd (λh=>?_) (λh=>?_)⟩;replace h:(j.i:Int)<(x.L.length:Int):=h;rw[bp (show j.i<x.L.length by omega),aW,show ju x.L x.ae j= .stop (I x.L x.ae j).au 60 j from rfl]at U;exact ba qS (x.p j) C (E.ls.dc 0 1 X X rfl rfl) λ_ _=>⟨.inr (_,_),⟨_,m.trans U.symm⟩,rfl,ao [1]⟩;replace h:¬(j.i:Int)<(x.L.length:Int):=h;rw[bF (show ¬j.i<x.L.length by omega),y,C0]at U;have aq:=z.aq C;exact⟨.inl j,⟨m.trans U.symm,⟨_,z.fo⟩,O⟩,rfl,ao [0,1]⟩
def af1:aG 9 (oD ci):=iB func9 af0 af2
structure AY where
 t:ap
 ks:aM
 r:Row
 f:Nat
 c:Nat
def af4(x:pT)(F:ag):Nat->Option Inv:=fun
 |0=>some {X:=AY,P:=λd=>PG x.x d.t d.ks/\bl 3 1 (a7 d.ks) d.r/\d.f<=x.n/\(P x.x.L x.x.ae x.K.tv bo d.f (.prog d.ks)>>=λ_=>ret ()) d.t=cU x.K x.x x.n x.s,mu:=λd=>d.f,lv:=λd=>[(0,W (nZ x)),(2,W (some ⟨d.c,0,none⟩))],st:=λd=>[G x.x d.t,F,(m_ d.c 37 .empty 0 d.r 0),d.r.A]}
 |_=>none
def af5(x:pT)(a:ag):List (Nat×Nat×OH):=[(0,1,.n 1010),(0,2,.w (eT 1010)),(1,3,cD),(1,7,.q [.ex 0 .slice]),(2,1,z 2),(2,3,q (cv x.n 17)),(2,4,.n 3040),(2,5,.o (cS 3 1 8) [3] [3]),(2,7,.w [.aS 2]),(3,1,.q (eT 2)),(3,2,.c fO [0,3] [0])]
def Mt(x:pT)(b:AY):=PG x.x b.t b.ks/\bl 3 1 (a7 b.ks) b.r/\b.f<=x.n/\(P x.x.L x.x.ae x.K.tv bo b.f (aj.prog b.ks)>>=λ(a:aM)=>ret ()) b.t=cU x.K x.x x.n x.s
abbrev EH(b:AY):aN:=[Z 37,C ByteArray.empty,float f64 0,Q b.r.a b.r.n b.r.aq,Z 0]
abbrev N4(x:pT)(b:AY)(F:ag):=[(0,G x.x b.t),(1,F),(2,D b.c (EH b) 35),(3,b.r.A)]
def af7(x:pT)(F:ag)(X:(oD cU).cond x)(hr:(oD cU).aE x F):∀(n:Nat),bQ n ((∃(b:AY),Mt x b/\(W (nZ x)=W (nZ x)/\W (bq n)=W (some ⟨b.c,0,none⟩)/\True)/\ay [(0,G x.x x.s),(1,F),(1010,D n [Z 37,C ⟨#[]⟩,float f64 0,Q none 0 0,Z 0] 35)] (N4 x b F))/\aQ λ(m:AY)_=>Mt x m->true=true/\T1 (G x.x m.t) ⟨x.x.b,1,none⟩ (λk=>dN (G x.x m.t) ⟨x.x.b,0,none⟩ (λo i h=>aK (k<i) (true=true/\V m.c 3/\cd x.n 17 [W (nZ x),H true] [G x.x m.t] (g (N4 x m F) [0]) (λp f=>∀(e:Nat),gu (aL f16 2 5) [Q m.r.a m.r.n m.r.aq,Q (bq e) 1 1] [m.r.A] (g [(0,G p.x f.snd),(1,F),(2,D m.c (EH m) 35),(3,m.r.A),(3040,D e (bI f) 3)] [3]) (λd c=>V m.c 3/\∃(b:AY),Mt x b/\(W (nZ x)=W (nZ x)/\W (some ⟨m.c,0,none⟩)=W (some ⟨b.c,0,none⟩)/\True)/\ay [(0,G p.x f.snd),(1,F),(2,D m.c [Z 37,C ByteArray.empty,float f64 0,Q c.a c.n c.aq,Z 0] 35),(3,c.A),(3040,D e (bI f) 3)] (N4 x b F)/\b.f<m.f)) (λp b=>∀(a:Tm),l (oD cU) x F (q8 b) [(0,aY),(1,F),(2,D m.c (EH m) 35),(3,m.r.A)])) (bQ m.c (c7 [W (nZ x),agg ⟨EH m⟩] [G x.x m.t,m.r.A] (λb a=>l (oD cU) x F eK [(0,G b.x (b.s.add b.n)),(1,F),(2,D m.c (EH m) 35),(3,aY)])))))):=by
 delta Mt nZ bq EH N4 T1 dN cd mM jx rz l6 gu bI q8 lB c7 eK g G V bQ dK jc Z C H W Q ce D aY aK al aQ;obtain⟨K,x,s,n⟩:=x;obtain⟨E,N,z⟩:=X;dsimp only at E N z⊢;have ih:=SM n;obtain⟨r,v⟩:∃r,cU K x n s=r:=⟨_,rfl⟩;rw[v]at z;have U:=v;unfold cU at U;have R:=E.len;intro c
 repeat (refine⟨Y, ?_⟩)
 refine⟨⟨⟨s,[],dq,n,c⟩,⟨N,.nil rfl,bK _,rfl⟩,aU,ao [0,1,1010,999]⟩, ?_⟩;clear U;rintro⟨t,u,r',f,c⟩ js ⟨p,q,w,U⟩;dsimp only at p q w U⊢;rw[v]at U;obtain _|f:=f;exact absurd U (λe=>z (e.symm.trans (by rw[P] <;> rfl)));replace w:f<=n:=Nat.le_of_succ_le w;rw[P,eZ]at U;rw[nt]at U;have x0:=qH (os:=[]) p R;refine⟨rfl,_,ee λ_=>rfl,_,_,_,ee λ_=>rfl,bd (λh=>?_) (λh=>?_)⟩;have hi:t.i<x.L.length:=O;rw[bp hi,aW,eZ]at U;refine⟨rfl,Y, ?_⟩;refine ca p ((fH U z).up w) (λk t1 U S I L B J A M=>?_) (cB:=ai) (ct:=ai) (cP:=ai);dsimp only[aj.sl,ap.az,ap.add]at I L B J A M;intro lb;refine mn (ks:=u) (k:=k) 3040 q O (λr2 T=>?_);exact⟨Y,⟨t1,u++[k],r2,f,c⟩,⟨S,T,w,U.trans v.symm⟩,aU,ao [0,1,2,3],jd _⟩;rw[bF (show ¬t.i<x.L.length by omega),y,show(cj ⟨37,.empty,0,u,0⟩>>=λ_=>(ret ():j ax)) t= .ok () (t.add ⟨37,.empty,0,u,0⟩)from rfl]at U;have aq:=p.aq R
 repeat (refine⟨Y, ?_⟩)
 refine bG fy ⟨x,t,⟨37,.empty,0,u,0⟩,r'⟩ ⟨by grind,q⟩ λ_ _=>?_;refine⟨.inl (t.add ⟨37,.empty,0,u,0⟩),⟨v.trans U.symm,⟨_,bM.node (os:=[]) p.fo ⟨cH 0,E.dW.f0⟩⟩, ?_⟩,rfl,ao [0,1]⟩;show(t.a++[_]).length<=_;grind
def af6:aG 16 (oD cU):=mt func16 af5 af4 af7
def pn:Code->Code
 | .seq a _=>a
 |c=>c
def jG:Nat->Code->Code
 |0,c=>c
 |n+1,.seq _ b=>jG n b
 |_+1,c=>c
noncomputable def mE:Code:=iu f8
noncomputable def HI:Func:={f8 with body:=some (.seq (pn mE) (.seq (pn (jG 1 mE)) (.seq (pn (jG 2 mE)) (.seq (pn (jG 3 mE)) (.region 5 #[] false)))))}
noncomputable def vG:Func:={f8 with body:=some (.seq .skip (jG 5 mE))}
noncomputable def SS:Func:={f20 with body:=some (.seq .skip (jG 1 (iu f20)))}
abbrev KY(M:bD->bY->Nat->j ax):aF where
 X:=pT
 Y:=(ap×fT) ⊕ (Int×Int)
 args x:=[W (nZ x)]
 pre x:=[G x.x x.s]
 cond x:=hW x.K x.x/\PG x.x x.s []/\M x.K x.x x.n x.s≠.out
 aE x F:=dj x.K x.x F
 bS x y:=match y with
  | .inl a=>(M x.K x.x x.n x.s= .ok () a.1/\(∃c,bM x.x.ae a.1 c)/\a.1.a.length<=4194304)/\a.2.ok a.1.a/\mi a.1.a a.2.vs
  | .inr a=>∃t,M x.K x.x x.n x.s= .stop a.1 a.2 t
 val x y:=match y with
  | .inl _=>.returned (.tuple #[])
  | .inr a=>.panicked [⟨jj a.1 a.2,false,false⟩]
 post x y:=match y with
  | .inl a=>[.cells x.x.b [.slice x.x.la x.x.L.length x.x.lc,.int .i64 a.1.i,.int .i64 x.x.ae,.slice a.2.r.a a.2.r.n a.2.r.aq,.int .i64 a.1.h,.int .i64 a.1.loops,.int .i64 a.1.d] 41,a.2.r.A,gx a.1.a a.2.vs]
  | .inr _=>[]
 eL _ _ _ b h:=dj.sub b h
 sum:=some (iL (ap×fT) (Int×Int))
def Ys{M:bD->bY->Nat->j ax}{bA:FuncId}(h:aG bA (oD M)):aG bA (KY M):=⟨λx F I w k l m=>(h.h x F I w k l m).mono λe o⟨y,J,c,i,d,f,b⟩=>by
 match y with
 | .inl t=>
  obtain⟨v,n,g⟩:=L_ (F:=F) f;obtain⟨_,U,_⟩:=g.SH (Y:=ax) (R:=λ_=>mi t.a v.vs) (B:=λ_=>gx t.a v.vs) 2 λ_ _ h=>⟨(),AX.pure h,h⟩;exact⟨.inl (t,v),J,⟨c,n,U⟩,i,d,g,b⟩
 | .inr a=>exact⟨.inr a,J,c,i,d,f,b⟩⟩
def dE:ap:=⟨0,[],0,0,0⟩
structure qI where
 K:bD
 af:ah
 bA:FuncId
def qI.je(x:qI)(r:Row):Prop:=x.af.size<=8192/\(cA x.K x.af).2= -1/\bl 56 5 (iF (cA x.K x.af).1) r/\(cA x.K x.af).1.length<=x.af.size
def qI.e_(x:qI):Prop:=x.af.size>8192\/0<=(cA x.K x.af).2
abbrev ru:aF where
 X:=qI
 args x:=[.string x.af,.func (.func x.bA) #[] #[]]
 cond x:=aG 117 (pE x.K)
 aE x F:=eu x.K F
 bS x _:=x.e_
 val x _:=.returned (.tuple #[.agg #[.slice none 0 0],.int .i64 (kg x.K x.af).1,.int .i64 (kg x.K x.af).2])
structure Gs where
 b4:Nat
 b5:Nat
 b6:Nat
 p:Int
 e:Int
 r:Row
structure Dw where
 b4:Nat
 b5:Nat
 b6:Nat
 b8:Nat
 r:Row
def Dw.x(d:Dw)(x:qI):bY:=⟨d.b8,d.r.a,d.r.aq,(cA x.K x.af).1,x.af.size⟩
def SO(x:qI)(F:ag):Nat->Option Inv:=fun
 |2=>some {X:=Gs,P:=λd=>(d.e=0/\d.p=0/\x.je d.r)\/(x.e_/\d.p=(kg x.K x.af).1/\d.e=(kg x.K x.af).2/\d.e≠0),mu:=λ_=>0,lv:=λd=>[(0,.string x.af),(1,.func (.func x.bA) #[] #[]),(4,.pointer (some ⟨d.b4,0,none⟩)),(5,.pointer (some ⟨d.b5,0,none⟩)),(6,.pointer (some ⟨d.b6,0,none⟩)),(7,.slice d.r.a d.r.n d.r.aq)],st:=λd=>[F,D d.b4 eJ 25,D d.b5 [Z d.p] 3,D d.b6 [Z d.e] 26,d.r.A]}
 |5=>some {X:=Dw,P:=λd=>x.je d.r,mu:=λ_=>0,lv:=λd=>[(1,.func (.func x.bA) #[] #[]),(4,.pointer (some ⟨d.b4,0,none⟩)),(5,.pointer (some ⟨d.b5,0,none⟩)),(6,.pointer (some ⟨d.b6,0,none⟩)),(8,.pointer (some ⟨d.b8,0,none⟩))],st:=λd=>[F,D d.b4 eJ 25,D d.b5 [Z 0] 3,D d.b6 [Z 0] 26,G (d.x x) dE,d.r.A]}
 |_=>none
def alX(b:qI)(a:ag):List (Nat×Nat×OH):=[(0,0,.n 1000),(0,1,.n 1010),(0,2,.n 1020),(1,1,.c vy [] [997]),(1,7,.w [.aS 1010]),(1,8,.w [.aS 1020]),(2,0,z 3),(3,1,z 2),(3,2,z 3),(3,3,.w [.aS 1]),(3,4,.w [.aS 2]),(3,5,.w [.aS 3]),(4,4,.n 5040)]
def ya:List LH:=[.aS 1,.aS 2,.aS 3]
def SP(_:qI):List (Nat×aD):=[]
noncomputable def aaz(x:aF.X ru)(F:ag):jZ where
 op:=U ((alX x F)++[])
 BK:=(λ_ _ _=>none) x F
 cut:=SO x F
 B2:=(λ_=>[])
def UT(z:Gs)(a:qI):=z.e=0/\z.p=0/\a.je z.r\/a.e_/\z.p=(kg a.K a.af).fst/\z.e=(kg a.K a.af).snd/\z.e≠(0:Int)
abbrev UP(e1:ag)(z:Gs):=[(0,e1),(1,D z.b4 eJ 25),(2,D z.b5 [Z z.p] 3),(3,D z.b6 [Z z.e] 26),(4,z.r.A)]
def QQ(a:qI)(e1:ag)(c d e f:aD)(b:St):=∃(z:Gs),UT z a/\(C a.af=C a.af/\func (Fn.func a.bA) ⟨[]⟩ ⟨[]⟩=func (Fn.func a.bA) ⟨[]⟩ ⟨[]⟩/\c=W (some ⟨z.b4,0,none⟩)/\d=W (some ⟨z.b5,0,none⟩)/\e=W (some ⟨z.b6,0,none⟩)/\f=Q z.r.a z.r.n z.r.aq/\True)/\ay b (UP e1 z)
def alZ(x:qI)(F:ag)(t:ru.cond x)(v:ru.aE x F):∀(i f e:Nat),(aG 19 vy/\true=true/\∃(c:wI),[C x.af]=[C c.af]/\([]:List ag)=[]/\aG 117 (pE c.K)/\eu c.K (g [(0,F),(1000,D i eJ 25),(1010,D f [Z 0] 3),(1020,D e [Z 0] 26)] [])/\(∀(b:Row),(c.af.size<=8192/\(cA c.K c.af).snd=(-1:Int)/\bl 56 5 (iF (cA c.K c.af).fst) b/\(cA c.K c.af).fst.length<=c.af.size)->V f 0/\V e 0/\QQ x F (bL i) (bL f) (bL e) (kq b) [(0,F),(997,b.A),(1000,D i eJ 25),(1010,D f [Z 0] 3),(1020,D e [Z 0] 26)])/\∀(b:ax),(c.af.size>8192\/0<=(cA c.K c.af).snd)->V f 0/\V e 0/\QQ x F (bL i) (bL f) (bL e) (Q none 0 0) [(0,F),(997,aY),(1000,D i eJ 25),(1010,D f [Z (kg c.K c.af).fst] 3),(1020,D e [Z (kg c.K c.af).snd] 26)])/\aQ λ(d:Gs)_=>UT d x->V d.b6 0/\Br (d.e !=0) (true=true/\V d.b5 0/\V d.b6 0/\V d.b4 0/\V d.b5 0/\V d.b6 0/\V d.b4 0/\V d.b5 0/\V d.b6 0/\l ru x F (al (tuple ⟨[agg ⟨eJ⟩,Z d.p,Z d.e]⟩)) (UP F d)) ((∀(b:Nat),∃(a:Dw),x.je a.r/\(func (Fn.func x.bA) ⟨[]⟩ ⟨[]⟩=func (Fn.func x.bA) ⟨[]⟩ ⟨[]⟩/\W (some ⟨d.b4,0,none⟩)=W (some ⟨a.b4,0,none⟩)/\W (some ⟨d.b5,0,none⟩)=W (some ⟨a.b5,0,none⟩)/\W (some ⟨d.b6,0,none⟩)=W (some ⟨a.b6,0,none⟩)/\W (bq b)=W (some ⟨a.b8,0,none⟩)/\True)/\ay [(0,F),(1,D d.b4 eJ 25),(2,D d.b5 [Z d.p] 3),(3,D d.b6 [Z d.e] 26),(4,d.r.A),(5040,D b [Q d.r.a d.r.n d.r.aq,Z 0,Z ↑x.af.size,Q none 0 0,Z 0,Z 0,Z 0] 41)] [(0,F),(1,D a.b4 eJ 25),(2,D a.b5 [Z 0] 3),(3,D a.b6 [Z 0] 26),(4,G (a.x x) dE),(5,a.r.A)])/\aQ λ(b:Dw)_=>x.je b.r->True):=by
 delta eJ UT UP QQ bq bL kq g G V Z C W Q D aY al aQ;intro j k m;refine⟨ba ajE ⟨x.K,x.af⟩ t (eu.sub v (bB 0)) ⟨λr h=>⟨Y,Y,⟨j,k,m,0,0,r⟩,.inl ⟨rfl,rfl,h⟩,aU,ao [0,1000,1010,1020,997]⟩,λ_ h=>⟨Y,Y,⟨j,k,m,_,_,dq⟩,.inr ⟨h,rfl,rfl, ?_⟩,aU,ao [0,1000,1010,1020,997]⟩⟩, ?_⟩;unfold kg;grind;rintro⟨j,k,m,p,e,r⟩ L h;dsimp only at h⊢;refine⟨Y,ar (λo=>?_) (λo=>⟨?_, ?_⟩)⟩;rcases h with⟨rfl,_⟩| ⟨h,rfl,rfl,_⟩;cases o;exact⟨rfl,Y,Y,Y,Y,Y,Y,Y,Y,(),h,rfl,ao [0]⟩
 ·
  rcases h with⟨rfl,rfl,h⟩| ⟨_,_,_,h⟩;rotate_left;grind;intro n;refine⟨⟨j,k,m,n,r⟩,h,aU,⟨λI w y=>?_⟩⟩;obtain⟨H,J,s,K⟩:=h;have u:r.n=(cA x.K x.af).1.length:=by{have:=s.len;rw[LB]at this;omega};have s1:Sat I (bu ([F,.cells j [.slice none 0 0] 25,.cells k [.int .i64 0] 3,.cells m [.int .i64 0] 26,r.A]++[.cells n [.slice r.a (cA x.K x.af).1.length r.aq,.int .i64 0,.int .i64 x.af.size,.slice none 0 0,.int .i64 0,.int .i64 0,.int .i64 0] 41,.d7,.d7])) w:=by{rw[<-u];exact y.pick [0,1,2,3,4,5040,999,998] rfl rfl};have z:=s1.FT (B:=gx [] []) 7 λ_ _ _=>ai;have A:Sat I (bu ([F,.cells j [.slice none 0 0] 25,.cells k [.int .i64 0] 3,.cells m [.int .i64 0] 26,r.A]++[.cells n [.slice r.a (cA x.K x.af).1.length r.aq,.int .i64 0,.int .i64 x.af.size,.slice none 0 0,.int .i64 0,.int .i64 0,.int .i64 0] 41,dq.A,gx [] []])) w:=z.pick [0,1,2,3,4,5,6,7] rfl rfl;have E:=A.X_.FT (B:=G ((⟨j,k,m,n,r⟩:Dw).x x) dE) 5 λ_ _ q=>⟨⟨dq,[]⟩,⟨.nil rfl,rfl⟩,q⟩;exact⟨I,aX.le_refl I,E.pick [0,1,2,3,5,4] rfl rfl⟩
 simp[*]
def alY(x:aF.X ru)(F:ag)(a:ru.cond x)(b:ru.aE x F):tH prog 45 HI (aaz x F) ya (iu HI) (lP (aF.args ru x)) (bu (aF.pre ru x++[F])) (SP x) (l ru x F):=
 Eq.mpr bg (alZ x F a b)
structure Gq where
 b4:Nat
 b5:Nat
 b6:Nat
 p:Int
 e:Int
abbrev pH:aF where
 X:=Gq
 args x:=[W (some ⟨x.b4,0,none⟩),W (some ⟨x.b5,0,none⟩),W (some ⟨x.b6,0,none⟩),jj x.p x.e]
 pre x:=[D x.b4 eJ 25,D x.b5 [Z 0] 3,D x.b6 [Z 0] 26]
 val _ _:=.returned (.tuple #[])
 post x _:=[D x.b4 eJ 25,D x.b5 [Z x.p] 3,D x.b6 [Z x.e] 26]
def al1(x:Gq):List (Nat×aD):=[(0,.pointer (some ⟨x.b4,0,none⟩))]
def al0(x:Gq)(F:ag):Nat->Option Inv:=fun
 |1=>some {X:=ax,P:=λ_=>True,mu:=λ_=>0,lv:=λ_=>[(0,W (some ⟨x.b4,0,none⟩)),(1,W (some ⟨x.b5,0,none⟩)),(2,W (some ⟨x.b6,0,none⟩)),(3,jj x.p x.e)],st:=λ_=>[F,D x.b4 eJ 25,D x.b5 [Z 0] 3,D x.b6 [Z 0] 26]}
 |_=>none
def al2(b:Gq)(a:ag):List (Nat×Nat×OH):=[(2,2,.n 3020),(2,3,.w [.aS 3020,.aS 3020]),(3,2,z 3020),(3,4,z 3020),(3,5,.w [.aS 1]),(3,6,.w [.aS 2]),(3,7,.w [.aS 3])]
noncomputable def al3(x:aF.X pH)(F:ag):jZ where
 op:=U ((al2 x F)++[])
 BK:=(λ_ _ _=>none) x F
 cut:=al0 x F
 B2:=(λ_=>[])
def al5(x:Gq)(F:ag)(d:pH.cond x)(e:pH.aE x F):(∃(a:ax),True/\(W (some ⟨x.b4,0,none⟩)=W (some ⟨x.b4,0,none⟩)/\W (some ⟨x.b5,0,none⟩)=W (some ⟨x.b5,0,none⟩)/\W (some ⟨x.b6,0,none⟩)=W (some ⟨x.b6,0,none⟩)/\ce 54 (agg ⟨[Z x.p,Z x.e]⟩)=ce 54 (agg ⟨[Z x.p,Z x.e]⟩)/\True)/\ay [(0,D x.b4 eJ 25),(1,D x.b5 [Z 0] 3),(2,D x.b6 [Z 0] 26),(3,F)] [(0,F),(1,D x.b4 eJ 25),(2,D x.b5 [Z 0] 3),(3,D x.b6 [Z 0] 26)])/\aQ λ(c:ax)_=>True->∀(a:Nat),V a 0/\V a 1/\true=true/\V a 0/\V a 1/\V x.b4 0/\V x.b5 0/\V x.b6 0/\l pH x F eK [(0,F),(1,D x.b4 eJ 25),(2,D x.b5 [Z x.p] 3),(3,D x.b6 [Z x.e] 26),(3020,D a [Z x.p,Z x.e] 54)]:=by
 delta eJ eK V Z W Q ce D al aQ;refine⟨⟨(),ai,aU,ao [3,0,1,2]⟩,λ_ f _ b=>?_⟩;exact⟨Y,Y,rfl,Y,Y,Y,Y,Y,(),ai,rfl,ao [1,2,3,0]⟩
def al4(x:aF.X pH)(F:ag)(a:pH.cond x)(b:pH.aE x F):tH prog 15 SS (al3 x F) [] (iu SS) (lP (aF.args pH x)) (bu (aF.pre pH x++[F])) (al1 x) (l pH x F):=
 Eq.mpr bg (al5 x F a b)
section
structure lM where
 K:bD
 x:bY
 n:Nat
 b4:Nat
 b5:Nat
 b6:Nat
 r:Row
structure W5 where
 a:List aR
 e:Int
 y:fT
def tT(ns:List aR):List aR×Int:=bif decide (ns.length>4096)||mZ ns then ([],4) else (ns,0)
abbrev fg(bA:FuncId)(M:bD->bY->Nat->j ax):aF where
 X:=lM
 Y:=W5 ⊕ (Int×Int)
 args x:=[undef,.func (.func bA) #[] #[],undef,undef,.pointer (some ⟨x.b4,0,none⟩),.pointer (some ⟨x.b5,0,none⟩),.pointer (some ⟨x.b6,0,none⟩),undef,.pointer (some ⟨x.x.b,0,none⟩)]
 pre x:=[D x.b4 eJ 25,D x.b5 [Z 0] 3,D x.b6 [Z 0] 26,G x.x dE,x.r.A]
 cond x:=aG bA (oD M)/\hW x.K x.x/\M x.K x.x x.n dE≠.out/\bl 56 5 (iF x.x.L) x.r/\x.x.la=x.r.a
 aE x F:=eu x.K F/\hU F
 bS x y:=match y with
  | .inl a=>(∃t,M x.K x.x x.n dE= .ok () t/\tT t.a=(a.a,a.e))/\a.y.ok a.a/\mi a.a a.y.vs
  | .inr a=>∃t,M x.K x.x x.n dE= .stop a.1 a.2 t
 val x y:=match y with
  | .inl a=>.returned (.tuple #[.agg #[.slice a.y.r.a a.y.r.n a.y.r.aq],.int .i64 0,.int .i64 a.e])
  | .inr a=>.panicked [⟨jj a.1 a.2,false,false⟩]
 post x y:=match y with
  | .inl a=>[a.y.r.A,gx a.a a.y.vs]
  | .inr _=>[.cells x.b4 [.slice none 0 0] 25,.cells x.b5 [.int .i64 0] 3,.cells x.b6 [.int .i64 0] 26]
 sum:=some (iL W5 (Int×Int))
def L9(bA:FuncId)(x:lM)(F:ag):Nat->Option Inv:=fun
 |6=>some {X:=ax,P:=λ_=>True,mu:=λ_=>0,lv:=λ_=>[(1,.func (.func bA) #[] #[]),(4,.pointer (some ⟨x.b4,0,none⟩)),(5,.pointer (some ⟨x.b5,0,none⟩)),(6,.pointer (some ⟨x.b6,0,none⟩)),(8,.pointer (some ⟨x.x.b,0,none⟩))],st:=λ_=>[F,D x.b4 eJ 25,D x.b5 [Z 0] 3,D x.b6 [Z 0] 26,G x.x dE,x.r.A]}
 |_=>none
def aaA(M:bD->bY->Nat->j ax)(b:lM)(a:ag):List (Nat×Nat×OH):=[(6,2,.c (KY M) [4] [4,6,7]),(7,3,.q [.aS 4]),(7,8,.c By [4,6,7] [4,6,7]),(8,1,.w [.aS 1]),(8,2,.w [.aS 2]),(8,3,.w [.aS 3]),(9,3,.q [.aS 4]),(9,5,.w [.aS 1]),(9,6,.w [.aS 2]),(9,7,.w [.aS 3])]
def ED(x:lM):List (Nat×aD):=[(4,.pointer (some ⟨x.b4,0,none⟩)),(5,.pointer (some ⟨x.b5,0,none⟩)),(6,.pointer (some ⟨x.b6,0,none⟩))]
def G_{F:ag}:ay (bu [.d7,.d7,F]) (bu [dq.A,gx [] [],F]):=⟨λI _ h=>⟨I,aX.le_refl I,(h.FT (B:=gx [] []) 1 λ_ _ _=>ai).pick [0,1,2] rfl rfl⟩⟩
variable{ns:List aR}
theorem RE(h:ns.length>4096):tT ns=([],4):=by unfold tT;rw[bp h] <;> rfl
theorem RD(h:mZ ns=true):tT ns=([],4):=by unfold tT;rw[h,oG] <;> rfl
theorem KW(h:¬ns.length>4096)(a:mZ ns=false):tT ns=(ns,0):=by unfold tT;rw[bF h,a] <;> rfl
noncomputable def aau(x:aF.X (fg 16 cU))(F:ag):jZ where
 op:=U (((aaA cU) x F)++[])
 BK:=(λ_ _ _=>none) x F
 cut:=(L9 16) x F
 B2:=(λ_=>[])
abbrev zT(x:lM):bv:=some ⟨x.b4,0,none⟩
abbrev zU(x:lM):bv:=some ⟨x.b5,0,none⟩
abbrev zV(x:lM):bv:=some ⟨x.b6,0,none⟩
abbrev vR(x:lM):bv:=some ⟨x.x.b,0,none⟩
abbrev NL(x:lM)(F:ag):=[(0,D x.b4 eJ 25),(1,D x.b5 [Z 0] 3),(2,D x.b6 [Z 0] 26),(3,G x.x dE),(4,x.r.A),(5,F)]
abbrev EK(F:ag)(x:lM):=[(0,F),(1,D x.b4 eJ 25),(2,D x.b5 [Z 0] 3),(3,D x.b6 [Z 0] 26),(4,G x.x dE),(5,x.r.A)]
abbrev EU:=al (tuple ⟨[agg ⟨eJ⟩,Z 0,Z 4]⟩)
abbrev HN(d:pT)(c:ap×fT):aN:=[Q d.x.la d.x.L.length d.x.lc,Z ↑c.fst.i,Z d.x.ae,Q c.snd.r.a c.snd.r.n c.snd.r.aq,Z c.fst.h,Z c.fst.loops,Z c.fst.d]
abbrev Ng(F:ag)(x:lM)(d:pT)(c:ap×fT):=[(0,F),(1,D x.b4 eJ 25),(2,D x.b5 [Z 0] 3),(3,D x.b6 [Z 4] 26),(4,D d.x.b (HN d c) 41),(5,x.r.A),(6,c.snd.r.A),(7,fN (Kf.rest c.fst.a c.snd.vs))]
def Kn:=dK 21 By (λa=>a.y.ok a.s.a/\mi a.s.a a.y.vs/\bM a.x.ae a.s a.os/\a.s.a.length<=4194304)
abbrev Nd(F:ag)(x:lM)(b:rX):=[(0,F),(1,D x.b4 eJ 25),(2,D x.b5 [Z 0] 3),(3,D x.b6 [Z 4] 26),(4,D b.x.b (zz b) 41),(5,x.r.A),(6,b.y.r.A),(7,fN (Kf.rest b.s.a b.y.vs))]
abbrev N0(b:rX):=al (tuple ⟨[agg ⟨[Q b.y.r.a b.y.r.n b.y.r.aq]⟩,Z 0,Z 0]⟩)
abbrev MX(F:ag)(x:lM)(b:rX):=[(0,F),(1,D x.b4 [Q b.y.r.a b.y.r.n b.y.r.aq] 25),(2,D x.b5 [Z 0] 3),(3,D x.b6 [Z 0] 26),(4,D b.x.b (zz b) 41),(5,x.r.A),(6,b.y.r.A),(7,fN (Kf.rest b.s.a b.y.vs))]
def MR(x:lM):=W (zT x)=W (zT x)/\W (zU x)=W (zU x)/\W (zV x)=W (zV x)/\True
abbrev NP(F:ag)(x:lM):=[(0,F),(1,D x.b4 eJ 25),(2,D x.b5 [Z 0] 3),(3,D x.b6 [Z 0] 26),(4,aY),(5,x.r.A)]
theorem ak4(x:lM)(F:ag)(H:(fg 16 cU).cond x)(J:(fg 16 cU).aE x F):(∃(a:ax),True/\(func (Fn.func 16) ⟨[]⟩ ⟨[]⟩=func (Fn.func 16) ⟨[]⟩ ⟨[]⟩/\W (zT x)=W (zT x)/\W (zU x)=W (zU x)/\W (zV x)=W (zV x)/\W (vR x)=W (vR x)/\True)/\ay (NL x F) (EK F x))/\aQ λ(f:ax)_=>True->aG 16 (KY cU)/\true=true/\∃(d:pT),[W (vR x)]=[W (nZ d)]/\[G x.x dE]=[G d.x d.s]/\(hW d.K d.x/\PG d.x d.s []/\cU d.K d.x d.n d.s≠PR.out)/\dj d.K d.x (g (EK F x) [4])/\(∀(c:ap×fT),((cU d.K d.x d.n d.s=PR.ok () c.fst/\(∃(a:aM),bM d.x.ae c.fst a)/\c.fst.a.length<=4194304)/\c.snd.ok c.fst.a/\mi c.fst.a c.snd.vs)->d6 ⟨x.x.b,3,none⟩ d.x.b/\aK ((c.snd.r.n:Int)>4096) (V x.b4 0/\V x.b5 0/\V x.b6 0/\V x.b4 0/\V x.b5 0/\V x.b6 0/\l (fg (16:FuncId) cU) x F EU (Ng F x d c)) (Kn [W (vR x)] [D d.x.b (HN d c) 41,c.snd.r.A,fN (Kf.rest c.fst.a c.snd.vs)] (λb a=>Br (mZ b.s.a) (V x.b4 0/\V x.b5 0/\V x.b6 0/\V x.b4 0/\V x.b5 0/\V x.b6 0/\l (fg (16:FuncId) cU) x F EU (Nd F x b)) (d6 ⟨x.x.b,3,none⟩ b.x.b/\V x.b4 0/\V x.b5 0/\V x.b6 0/\V x.b4 0/\V x.b5 0/\V x.b6 0/\l (fg (16:FuncId) cU) x F (N0 b) (MX F x b)))))/\∀(b:Int×Int),(∃(a:ap),cU d.K d.x d.n d.s=PR.stop b.fst b.snd a)->MR x/\l (fg (16:FuncId) cU) x F (q8 b) (NP F x):=by
 delta zT zU zV vR eJ NL EK nZ EU HN Ng Kn zz Nd N0 MX MR q8 NP g G V dK Z W Q ce D fN aY aK al aQ;obtain⟨K,x,n,M,N,P,r⟩:=x;obtain⟨A,z,B,j,k⟩:=H;obtain⟨m,o⟩:=J;dsimp only at A z B j k m o⊢;refine⟨⟨(),ai,aU,ao [5,0,1,2,3,4]⟩,λ_ S _=>?_⟩;have I:r.n=x.L.length:=by{have:=j.len;rw[LB]at this;omega};have C:PG x dE []:=⟨b7 _,⟨List.Perm.refl _,List.Pairwise.nil,λi x h=>by simp[dE]at h,λx h=>by simp[dE]at h⟩,bK _,⟨cH 0,cH 0⟩,⟨cH 0,cH 0⟩,⟨cH 0,cH 0⟩⟩;refine ba (Ys A) ⟨K,x,dE,n⟩ ⟨z,C,B⟩ ⟨⟨?_, ?_⟩,eu.sub m (bB 0),hU.sub o (bB 0)⟩ ⟨?_, ?_⟩;rw[k,<-I];exact j.af;rw[k];exact j.FY.sub (bB 5);rintro⟨t,y⟩ ⟨⟨q,⟨L,v⟩,w⟩,s,U⟩;dsimp only at q v w s U⊢;have R:=s.len;refine⟨Y,bd (λE=>?_) (λE=>?_)⟩;exact⟨Y,Y,Y,Y,Y,Y,.inl ⟨[],4,⟨dq,[]⟩⟩,⟨⟨t,q,RE O⟩,⟨.nil rfl,rfl⟩,ai⟩,rfl,ay.trans (ao [999,998,0]) G_⟩;refine bG YE ⟨x,t,y,L⟩ ⟨s,U,v,w⟩ λ_ _=>ar (λu=>?_) (λu=>?_);exact⟨Y,Y,Y,Y,Y,Y,.inl ⟨[],4,⟨dq,[]⟩⟩,⟨⟨t,q,RD u⟩,⟨.nil rfl,rfl⟩,ai⟩,rfl,ay.trans (ao [999,998,0]) G_⟩;exact⟨Y,Y,Y,Y,Y,Y,Y,.inl ⟨t.a,0,y⟩,⟨⟨t,q,KW O u⟩,s,U⟩,rfl,ao [6,7,0]⟩;rintro⟨p,e⟩ h;exact⟨aU,.inr (p,e),h,rfl,ao [1,2,3,0]⟩
theorem ak3(x:aF.X (fg 16 cU))(F:ag)(a:(fg 16 cU).cond x)(b:(fg 16 cU).aE x F):tH prog 45 vG (aau x F) ya (iu vG) (lP (aF.args (fg 16 cU) x)) (bu (aF.pre (fg 16 cU) x++[F])) (ED x) (l (fg 16 cU) x F):=
 Eq.mpr bg (ak4 x F a b)
noncomputable def aat(x:aF.X (fg 9 ci))(F:ag):jZ where
 op:=U (((aaA ci) x F)++[])
 BK:=(λ_ _ _=>none) x F
 cut:=(L9 9) x F
 B2:=(λ_=>[])
theorem akX(x:lM)(F:ag)(H:(fg 9 ci).cond x)(J:(fg 9 ci).aE x F):(∃(a:ax),True/\(func (Fn.func 9) ⟨[]⟩ ⟨[]⟩=func (Fn.func 9) ⟨[]⟩ ⟨[]⟩/\W (zT x)=W (zT x)/\W (zU x)=W (zU x)/\W (zV x)=W (zV x)/\W (vR x)=W (vR x)/\True)/\ay (NL x F) (EK F x))/\aQ λ(f:ax)_=>True->aG 9 (KY ci)/\true=true/\∃(d:pT),[W (vR x)]=[W (nZ d)]/\[G x.x dE]=[G d.x d.s]/\(hW d.K d.x/\PG d.x d.s []/\ci d.K d.x d.n d.s≠PR.out)/\dj d.K d.x (g (EK F x) [4])/\(∀(c:ap×fT),((ci d.K d.x d.n d.s=PR.ok () c.fst/\(∃(a:aM),bM d.x.ae c.fst a)/\c.fst.a.length<=4194304)/\c.snd.ok c.fst.a/\mi c.fst.a c.snd.vs)->d6 ⟨x.x.b,3,none⟩ d.x.b/\aK ((c.snd.r.n:Int)>4096) (V x.b4 0/\V x.b5 0/\V x.b6 0/\V x.b4 0/\V x.b5 0/\V x.b6 0/\l (fg (9:FuncId) ci) x F EU (Ng F x d c)) (Kn [W (vR x)] [D d.x.b (HN d c) 41,c.snd.r.A,fN (Kf.rest c.fst.a c.snd.vs)] (λb a=>Br (mZ b.s.a) (V x.b4 0/\V x.b5 0/\V x.b6 0/\V x.b4 0/\V x.b5 0/\V x.b6 0/\l (fg (9:FuncId) ci) x F EU (Nd F x b)) (d6 ⟨x.x.b,3,none⟩ b.x.b/\V x.b4 0/\V x.b5 0/\V x.b6 0/\V x.b4 0/\V x.b5 0/\V x.b6 0/\l (fg (9:FuncId) ci) x F (N0 b) (MX F x b)))))/\∀(b:Int×Int),(∃(a:ap),ci d.K d.x d.n d.s=PR.stop b.fst b.snd a)->MR x/\l (fg (9:FuncId) ci) x F (q8 b) (NP F x):=by
 delta zT zU zV vR eJ NL EK nZ EU HN Ng Kn zz Nd N0 MX MR q8 NP g G V dK Z W Q ce D fN aY aK al aQ;obtain⟨K,x,n,M,N,P,r⟩:=x;obtain⟨A,z,B,j,k⟩:=H;obtain⟨m,o⟩:=J;dsimp only at A z B j k m o⊢;refine⟨⟨(),ai,aU,ao [5,0,1,2,3,4]⟩,λ_ S _=>?_⟩;have I:r.n=x.L.length:=by{have:=j.len;rw[LB]at this;omega};have C:PG x dE []:=⟨b7 _,⟨List.Perm.refl _,List.Pairwise.nil,λi x h=>by simp[dE]at h,λx h=>by simp[dE]at h⟩,bK _,⟨cH 0,cH 0⟩,⟨cH 0,cH 0⟩,⟨cH 0,cH 0⟩⟩;refine ba (Ys A) ⟨K,x,dE,n⟩ ⟨z,C,B⟩ ⟨⟨?_, ?_⟩,eu.sub m (bB 0),hU.sub o (bB 0)⟩ ⟨?_, ?_⟩;rw[k,<-I];exact j.af;rw[k];exact j.FY.sub (bB 5);rintro⟨t,y⟩ ⟨⟨q,⟨L,v⟩,w⟩,s,U⟩;dsimp only at q v w s U⊢;have R:=s.len;refine⟨Y,bd (λE=>?_) (λE=>?_)⟩;exact⟨Y,Y,Y,Y,Y,Y,.inl ⟨[],4,⟨dq,[]⟩⟩,⟨⟨t,q,RE O⟩,⟨.nil rfl,rfl⟩,ai⟩,rfl,ay.trans (ao [999,998,0]) G_⟩;refine bG YE ⟨x,t,y,L⟩ ⟨s,U,v,w⟩ λ_ _=>ar (λu=>?_) (λu=>?_);exact⟨Y,Y,Y,Y,Y,Y,.inl ⟨[],4,⟨dq,[]⟩⟩,⟨⟨t,q,RD u⟩,⟨.nil rfl,rfl⟩,ai⟩,rfl,ay.trans (ao [999,998,0]) G_⟩;exact⟨Y,Y,Y,Y,Y,Y,Y,.inl ⟨t.a,0,y⟩,⟨⟨t,q,KW O u⟩,s,U⟩,rfl,ao [6,7,0]⟩;rintro⟨p,e⟩ h;exact⟨aU,.inr (p,e),h,rfl,ao [1,2,3,0]⟩
theorem akW(x:aF.X (fg 9 ci))(F:ag)(a:(fg 9 ci).cond x)(b:(fg 9 ci).aE x F):tH prog 45 vG (aat x F) ya (iu vG) (lP (aF.args (fg 9 ci) x)) (bu (aF.pre (fg 9 ci) x++[F])) (ED x) (l (fg 9 ci) x F):=
 Eq.mpr bg (akX x F a b)
end
section
section
variable{P:Program}{N:Nat}
theorem abZ(s:P.follows .mixedOrders=true){H:jZ}{x y z:Code}{key:Nat}{T:Tm}{S:St}{K:Exit->Tm->St->Prop}{a:Act}{I:aX}{w:World}{ds:List Deferred}{Q:Exit->Act->World->Prop}
  (f:(sw y).bind H.cut=none) (h:E P N H (.seq x y) key T S K) (g:dS N T a) (r:a.defers=ds) (hs:Sat I S w)
  (q:∀e b d,e≠.normal->fm N I w ds (K e) b d->Q e b d)
  (t:∀j i J b d,E P N H y key j i K->dS N j b->b.defers=ds->aX.le I J->Sat J i d->cn w d->z.wp P Q b d):(Code.seq x z).wp P Q a w:=by
 simp only[E]at h;rw[f]at h;refine wp_seq (Gf s H x h g r hs λe b d c=>?_);cases e with
 |normal=>
  obtain⟨j,i,J,k,l,m,n,o,p⟩:=c;exact t j i J b d p k l m n o
 |_=>exact q _ _ _ (λe=>nomatch e) c
theorem wp_cut(C:P.follows .mixedOrders=true){H:jZ}{x y z:Code}{key:Nat}{T:Tm}{S:St}{K:Exit->Tm->St->Prop}{a:Act}{I:aX}{w:World}{ds:List Deferred}{Q:Exit->Act->World->Prop}{V:Inv}
  (g:(sw y).bind H.cut=some V) (B:V.gh=none) (h:E P N H (.seq x y) key T S K) (j:dS N T a) (v:a.defers=ds) (hs:Sat I S w)
  (u:∀e c b,e≠.normal->fm N I w ds (K e) c b->Q e c b)
  (D:∀d k J c b,V.P d->E P N H y key (kT k (V.lv d)) (bu (V.st d)) K->dS N (kT k (V.lv d)) c->c.defers=ds->aX.le I J->Sat J (bu (V.st d)) b->cn w b->z.wp P Q c b):(Code.seq x z).wp P Q a w:=by
 simp only[E]at h;rw[g]at h;have h:(E P N H x key T S λe T S=>match e with| .normal=>∃x,V.P x/\jX T (V.lv x)/\ay S (bu (V.st x))|e=>K e T S)/\∀x k,V.P x->E P N H y key (kT k (V.lv x)) (bu (V.st x)) K:=by{dsimp only at h;split at h;exact h;grind};refine wp_seq (Gf C H x h.1 j v hs λe c b f=>?_);cases e with
 |normal=>
  obtain⟨n,F,J,p,q,r,s,t,d,hp,A,i⟩:=f;obtain⟨o,l,m⟩:=i.h J b s;exact D d n.aS o c b hp (h.2 d n.aS hp) (qe p A) q (aX.le_trans r l) m t
 |_=>exact u _ _ _ (λe=>nomatch e) f
end
def Xa{P:Program}{N:Nat}{H:jZ}{x y:Code}{key:Nat}{T:Tm}{S:St}{K:Exit->Tm->St->Prop}{V:Inv}(a:(sw y).bind H.cut=some V)(b:V.gh=none)(h:E P N H (.seq x y) key T S K):∀d c,V.P d->E P N H y key (kT c (V.lv d)) (bu (V.st d)) K:=by
 simp only[E]at h;grind
def wpOps_cons{P:Program}{b:Array Oper}{Q:Exit->Act->World->Prop}{a:Act}{w:World}{i:Nat}{rest:a_}{o:Oper}(d:b[i]?=some o)(c:o.guard=none)(h:o.wp P a w (wpOps P b Q rest) Q):wpOps P b Q (i::rest) a w:=by
 simp only[wpOps,d];have:Region.wanted o (yielded b a.tmps)=true:=by unfold Region.wanted;rw[c]
 simp[*]
def abY{P:Program}{b:Array Oper}{Q:Exit->Act->List Frame->World->Prop}{a:Act}{cs p5:List Frame}{w w':World}{i:Nat}{rest:a_}{o:Oper}{v:aD}(f:b[i]?=some o)(e:o.guard=none)
  (c:((execOp a.eval o).run P w= .ok .recover w'/\(recoverD cs=some (v,p5)\/(recoverD cs=none/\v= .nilIface/\p5=cs)))\/((execOp a.eval o).run P w= .ok (.value v) w'/\p5=cs))
  (h:wpOpsS P b Q rest (a.put o.dst v) p5 w'):wpOpsS P b Q (i::rest) a cs w:=by
 simp only[wpOpsS,f];have:Region.wanted o (yielded b a.tmps)=true:=by unfold Region.wanted;rw[e]
 rw[if_pos this];rcases c with⟨c,d| ⟨d,rfl,rfl⟩⟩| ⟨c,rfl⟩;simp[*];simp[*];rw[c];exact h
def pV(b:Nat):aD:=.pointer (some ⟨b,0,none⟩)
def Ym(b4 b5 b6:Nat):Deferred:={target:=.fn (.func 20) #[pV b4,pV b5,pV b6],args:=#[]}
def apL{Q:Exit->Act->World->Prop}{T:Tm}{a:Act}{w:World}{b4 b5 b6:Nat}(c:dS 45 T a)(g:T.aS 4=pV b4)(j:T.aS 5=pV b5)(k:T.aS 6=pV b6)
  (h:∀f d,d.defers=Ym b4 b5 b6::a.defers->dS 45 f d->(∀i,i≠25->f.aS i=T.aS i)->Q .normal d w):(pn (jG 4 mE)).wp prog Q a w:=by
 have e:pn (jG 4 mE)= .region 5 #[aL f8 5 0,aL f8 5 1] false:=bg;refine wp_region ?_;show wpOps _ _ _ [0,1] a w;have l:(execOp (ev T) (aL f8 5 0)).run prog w= .ok (.value (.func (.func 20) #[] #[T.aS 4,T.aS 5,T.aS 6])) w:=bg;refine wpOps_cons (o:=aL f8 5 0) rfl rfl ?_;unfold Oper.wp;rw[c.eval,l,Oper.upon_value];have b:=c.put (aL f8 5 0).dst (.func (.func 20) #[] #[T.aS 4,T.aS 5,T.aS 6]);refine wpOps_cons (o:=aL f8 5 1) rfl rfl ?_;unfold Oper.wp;have m:(execOp (ev (dH 45 (aL f8 5 0).dst (.func (.func 20) #[] #[T.aS 4,T.aS 5,T.aS 6]) T)) (aL f8 5 1)).run prog w= .ok (.defer {target:=.fn (.func 20) #[T.aS 4,T.aS 5,T.aS 6],args:=#[]}) w:=bg;rw[b.eval,m,Oper.upon_defer];refine h _ _ ?_ ((b.defers _).put (aL f8 5 1).dst undef) ?_;rw[amP,g,j,k];rfl;intro i n;show(dH 45 none undef (dH 45 (some 25) _ T)).aS i=_;show(dH 45 (some 25) _ T).aS i=_;rw[EG];simp[*]
def aqK:iu f20= .seq (.region 0 #[aL f20 0 0,aL f20 0 1] false) (jG 1 (iu f20)):=bg
def aga:∃A,jG 1 (iu f20)= .seq (.region 1 #[aL f20 1 0,aL f20 1 1] false) (.cond (.tmp 7) A .skip):=⟨match jG 2 (iu f20)with| .cond _ a _=>a|c=>c,bg⟩
def Yn{Q:Exit->Act->List Frame->World->Prop}{b4 b5 b6:Nat}{v:aD}{cs p5:List Frame}{w:World}(e:recoverD cs=some (v,p5)\/(recoverD cs=none/\v= .nilIface/\p5=cs))
  (h:∀T a,dS 15 T a->a.defers=[]->T.aS 0=pV b4->T.aS 1=pV b5->T.aS 2=pV b6->T.aS 3=v->(jG 1 (iu f20)).wpS prog Q a p5 w):
  (iu f20).wpS prog Q {tmps:=#[pV b4,pV b5,pV b6]++Array.replicate (15-3) undef,defers:=[]} cs w:=by
 refine wpS_seq (wpS_region ?_);have d:=IY (N:=15) [pV b4,pV b5,pV b6] (Nat.le_of_ble_eq_true rfl);show wpOpsS _ _ _ [0,1] {tmps:=⟨[pV b4,pV b5,pV b6]⟩++Array.replicate (15-3) undef,defers:=[]} cs w;refine abY (v:=v) (p5:=p5) (w':=w) (o:=aL f20 0 0) rfl rfl (.inl ⟨?_,e⟩) ?_;rfl;have b:=d.put (aL f20 0 0).dst v;refine abY (v:=v) (p5:=p5) (w':=w) (o:=aL f20 0 1) rfl rfl (.inr ⟨?_,rfl⟩) ?_;rfl;have c:=b.put (aL f20 0 1).dst v;exact h _ _ c (by rfl) bg bg bg bg
def afK(b4 b5 b6:Nat)(w:World):CallsD prog 20 #[pV b4,pV b5,pV b6] .returning w λe l m=>e= .returned (.tuple #[])/\l= .returning/\m=w:=by
 refine callsD_of_wpS (c:=iu f20) func20 bg λg j i=>?_;refine Yn (v:=.nilIface) (p5:=g::j) (.inr ⟨by simp[recoverD,i],rfl,rfl⟩) λT a h p _ _ _ k=>?_;obtain⟨A,n⟩:=aga;refine wpS_of_wp (wp_seq (wp_region ?_));show wpOps _ _ _ [0,1] a w;have b:dS 15 (kT T.aS [(3,.nilIface)]) a:=qe h ⟨k,ai⟩;refine wpOps_cons (o:=aL f20 1 0) rfl rfl ?_;unfold Oper.wp;rw[b.eval,show(execOp (ev (kT T.aS [(3,.nilIface)])) (aL f20 1 0)).run prog w= .ok (.value .nilIface) w by kernel_rfl,Oper.upon_value];have d:=b.put (aL f20 1 0).dst .nilIface;refine wpOps_cons (o:=aL f20 1 1) rfl rfl ?_;unfold Oper.wp;rw[d.eval,show(execOp (ev (dH 15 (aL f20 1 0).dst .nilIface (kT T.aS [(3,.nilIface)]))) (aL f20 1 1)).run prog w= .ok (.value (.bool false)) w by kernel_rfl,Oper.upon_value];have f:=d.put (aL f20 1 1).dst (.bool false);show Code.wp _ _ _ _ _;refine wp_cond (t:=false) ?_ (wp_skip ?_);rw[f.eval] <;> rfl;refine⟨by simp[*],.returning, ?_,.tuple #[],bg,rfl,rfl,rfl⟩;rw[<-i]
def afL{b4 b5 b6:Nat}{p e:Int}{F:ag}{I:aX}{w:World}(hs:Sat I (bu (pH.pre ⟨b4,b5,b6,p,e⟩++[F])) w):CallsD prog 20 #[pV b4,pV b5,pV b6] (.panicking [⟨jj p e,false,false⟩]) w λk o d=>k= .returned (.tuple #[])/\o= .panicking [⟨jj p e,true,false⟩]/\∃J,aX.le I J/\Sat J (bu (pH.post ⟨b4,b5,b6,p,e⟩ ()++[F])) d/\cn w d:=by
 refine callsD_of_wpS (c:=iu f20) func20 bg λb j O=>?_;refine Yn (v:=jj p e) (p5:={b with mode:=.panicking [⟨jj p e,true,false⟩]}::j) (.inl (by simp[recoverD,O])) λT a i N D G H K=>?_;have M:=al4 ⟨b4,b5,b6,p,e⟩ F trivial trivial;have L:=Xa (V:={X:=ax,P:=λ_=>True,mu:=λ_=>0,lv:=λ_=>[(0,.pointer (some ⟨b4,0,none⟩)),(1,.pointer (some ⟨b5,0,none⟩)),(2,.pointer (some ⟨b6,0,none⟩)),(3,jj p e)],st:=λ_=>[F,.cells b4 [.slice none 0 0] 25,.cells b5 [.int .i64 0] 3,.cells b6 [.int .i64 0] 26]}) bg rfl (show E _ _ _ (.seq .skip (jG 1 (iu f20))) _ _ _ _ from M) () T.aS trivial;refine wpS_of_wp (Gf bg _ _ L (qe i ⟨D,G,H,K,ai⟩) N (hs.pick [3,0,1,2] rfl rfl) λx z d g=>?_);obtain⟨y,q,J,R,A,B,r,C,f⟩:=g;have ae:rd prog q (ky SS y) [] (λv=>l pH ⟨b4,b5,b6,p,e⟩ F (.returned v) q)->bodyPostS prog f20 b j (λk o d=>k= .returned (.tuple #[])/\o= .panicking [⟨jj p e,true,false⟩]/\∃J,aX.le I J/\Sat J (bu (pH.post ⟨b4,b5,b6,p,e⟩ ()++[F])) d/\cn w d) .normal z ({b with mode:=.panicking [⟨jj p e,true,false⟩]}::j) d:=by{intro f;obtain⟨v,s,⟨⟨_,_,t,h⟩⟩⟩:=x_ r _ _ _ f;obtain⟨u,m,n⟩:=h.h J d r;exact⟨A,_,rfl,.tuple #[],bg,rfl,rfl,u,aX.le_trans B m,n,C⟩};cases x with
 |normal=>exact ae f
 |ret=>exact ae f
 |panic Q=>
  obtain⟨_,⟨⟨_,_,t,_⟩⟩⟩:=f;cases t
 |_=>exact f.elim
structure PrX where
 K:bD
 af:ah
 n:Nat
def jH(K:bD)(af:ah):bY:=⟨0,none,0,(cA K af).1,af.size⟩
def p0(K:bD)(af:ah):Prop:=af.size>8192\/0<=(cA K af).2
def cf(M:bD->bY->Nat->j ax)(K:bD)(af:ah)(n:Nat):List aR×Int×Int:=
 bif decide (af.size>8192)||decide (0<=(cA K af).2) then ([],(kg K af).1,(kg K af).2)
 else match M K (jH K af) n dE with
  | .ok _ t=>((tT t.a).1,0,(tT t.a).2)
  | .stop p e _=>([],p,e)
  | .out=>([],0,0)
abbrev vH(bA:FuncId)(M:bD->bY->Nat->j ax):aF where
 X:=PrX
 Y:=fT
 args x:=[.string x.af,.func (.func bA) #[] #[]]
 cond x:=aG 117 (pE x.K)/\aG bA (oD M)/\(¬p0 x.K x.af->hW x.K (jH x.K x.af)/\M x.K (jH x.K x.af) x.n dE≠.out)
 aE x F:=eu x.K F/\hU F
 bS x y:=y.ok (cf M x.K x.af x.n).1/\mi (cf M x.K x.af x.n).1 y.vs
 val x y:=.returned (.tuple #[.agg #[.slice y.r.a y.r.n y.r.aq],.int .i64 (cf M x.K x.af x.n).2.1,.int .i64 (cf M x.K x.af x.n).2.2])
 post x y:=[y.r.A,(gx (cf M x.K x.af x.n).1 y.vs)]
def aar{M:bD->bY->Nat->j ax}{K:bD}{af:ah}{n:Nat}(h:p0 K af):cf M K af n=([],(kg K af).1,(kg K af).2):=by
 unfold cf;have:(decide (af.size>8192)||decide (0<=(cA K af).2))=true:=by{rcases h with h|h <;> simp[h]};simp[*]
def L5{M:bD->bY->Nat->j ax}{K:bD}{af:ah}{n:Nat}(h:¬p0 K af):cf M K af n=match M K (jH K af) n dE with
  | .ok _ t=>((tT t.a).1,0,(tT t.a).2)
  | .stop p e _=>([],p,e)
  | .out=>([],0,0):=by
 unfold cf;have:(decide (af.size>8192)||decide (0<=(cA K af).2))=false:=by{rw[Bool.or_eq_false_iff,decide_eq_false_iff_not,decide_eq_false_iff_not];exact⟨λe=>h (.inl e),λe=>h (.inr e)⟩};simp[*]
def Pr(M:bD->bY->Nat->j ax):Prop:=∀(K:bD)(b d:Nat)(e a:bv)(lc c:Nat)(L:List a8)(ae:Int)(n:Nat),M K ⟨b,e,lc,L,ae⟩ n=M K ⟨d,a,c,L,ae⟩ n
def amm:Pr cU:=λ_ _ _ _ _ _ _ _ _ _=>rfl
def ag7:Pr ci:=λ_ _ _ _ _ _ _ _ _ _=>rfl
def SQ(bA:FuncId)(M:bD->bY->Nat->j ax):Prop:=∃H:lM->ag->jZ,(∀x F,(sw (jG 5 mE)).bind (H x F).cut=L9 bA x F 6)/\∀(x:lM)(F:ag),(fg bA M).cond x->(fg bA M).aE x F->tH prog 45 vG (H x F) ya (iu vG) (lP ((fg bA M).args x)) (bu ((fg bA M).pre x++[F])) (ED x) (l (fg bA M) x F)
def ak2:SQ 16 cU:=⟨aau,λ_ _=>bg,ak3⟩
def akV:SQ 9 ci:=⟨aat,λ_ _=>bg,akW⟩
def af_:f8.body=some (.seq (pn mE) (.seq (pn (jG 1 mE)) (.seq (pn (jG 2 mE)) (.seq (pn (jG 3 mE)) (.seq (pn (jG 4 mE)) (jG 5 mE)))))):=bg
def amp{bA:FuncId}{M:bD->bY->Nat->j ax}{x:lM}{F:ag}{I:aX}{w:World}{R:Ending->World->Prop}
  (s:∀a c J,(fg bA M).bS x (.inl a)->aX.le I J->Sat J (bu ((fg bA M).post x (.inl a)++[F])) c->cn w c->R ((fg bA M).val x (.inl a)) c)
  (r:∀p e c J,(fg bA M).bS x (.inr (p,e))->aX.le I J->Sat J (bu [F]) c->cn w c->R (.returned (.tuple #[.agg #[.slice none 0 0],.int .i64 p,.int .i64 e])) c):
  ∀e g c,fm 45 I w [Ym x.b4 x.b5 x.b6] ((λe T S=>match e with
  | .normal=>match ED x with| []=>True|_::_=>rd prog S (ky vG T) ya λv=>l (fg bA M) x F (.returned v) S
  | .ret=>rd prog S (ky vG T) ya λv=>l (fg bA M) x F (.returned v) S
  | .panic K=>jX T (ED x)/\l (fg bA M) x F (.panicked K) S
  |_=>False:Exit->Tm->St->Prop) e) g c->bodyPostD prog f8 R e g c:=by
 intro e g c o;obtain⟨H,G,J,L,N,O,B,P,n⟩:=o;have ae:rd prog G (ky vG H) ya (λv=>l (fg bA M) x F (.returned v) G)->Leaves prog f8 g.tmps R g.defers .returning c:=by
  intro n;obtain⟨v,t,⟨⟨y,k,i,b⟩⟩⟩:=x_ B _ _ _ n;obtain⟨E,m,d⟩:=b.h J c B;rw[N];refine leaves_cons X (f:=20) (args:=#[pV x.b4,pV x.b5,pV x.b6]) bg ((afK _ _ _ _).mono ?_);rintro _ _ z ⟨rfl,rfl,A⟩;replace A:=A.symm;subst A;have h:(results f8 g.tmps).run prog c= .ok v c:=by{rw[show results f8 g.tmps=results vG g.tmps from rfl,FK L];omega}
  match y,k,i,d with
  | .inl a,k,i,d=>exact⟨v,h,i▸s a c E k (aX.le_trans O m) d P⟩
  | .inr a,k,i,d=>cases i
 cases e with
 |normal=>exact ae n
 |ret=>exact ae n
 |panic K=>
  obtain⟨U,⟨⟨y,k,i,b⟩⟩⟩:=n
  match y,k,i,b with
  | .inl a,k,i,b=>cases i
  | .inr (p,e),k,i,b=>
   obtain⟨E,m,d⟩:=b.h J c B;cases i;show Leaves prog f8 g.tmps R g.defers _ c;rw[N];refine leaves_cons X (f:=20) (args:=#[pV x.b4,pV x.b5,pV x.b6]) bg ((afL (F:=F) (p:=p) (e:=e) d).mono ?_);rintro _ _ z ⟨rfl,rfl,Q,q,u,C⟩;have D:rd prog (bu (pH.post ⟨x.b4,x.b5,x.b6,p,e⟩ ()++[F])) (ky f8 (kT H.aS (ED x))) [.aS 0,.aS 1,.aS 2] (λv=>v= .tuple #[.agg #[.slice none 0 0],.int .i64 p,.int .i64 e]):=by{exact Eq.mpr (show _=(d6 ⟨x.b4,0,none⟩ x.b4/\d6 ⟨x.b5,0,none⟩ x.b5/\d6 ⟨x.b6,0,none⟩ x.b6/\(tuple #[.agg #[.slice none 0 0],.int .i64 p,.int .i64 e]= .tuple #[.agg #[.slice none 0 0],.int .i64 p,.int .i64 e])) by kernel_rfl) ⟨Y,Y,Y,rfl⟩};obtain⟨v,t,rfl⟩:=x_ u _ _ _ D;have h:(results f8 g.tmps).run prog z= .ok (.tuple #[.agg #[.slice none 0 0],.int .i64 p,.int .i64 e]) z:=by{rw[FK (qe L U)];omega};exact⟨_,h,r p e z Q k (aX.le_trans O (aX.le_trans m q)) (u.pick [3] rfl rfl) (P.trans C)⟩
 |_=>exact n.elim
def ST{bA:FuncId}{M:bD->bY->Nat->j ax}{K:bD}{af:ah}{n:Nat}{F:ag}{I J:aX}{w w':World}{a:List aR}{p e:Int}{y:fT}(d:cf M K af n=(a,p,e))(f:y.ok a)(U:mi a y.vs)(b:aX.le I J)(hs:Sat J (bu [y.r.A,gx a y.vs,F]) w')(c:cn w w'):
  ∃z J,(vH bA M).bS ⟨K,af,n⟩ z/\returned (.tuple #[.agg #[.slice y.r.a y.r.n y.r.aq],.int .i64 p,.int .i64 e])=(vH bA M).val ⟨K,af,n⟩ z/\aX.le I J/\Sat J (bu ((vH bA M).post ⟨K,af,n⟩ z++[F])) w'/\cn w w':=by
 refine⟨y,J, ?_, ?_,b, ?_,c⟩;show y.ok (cf M K af n).1/\mi (cf M K af n).1 y.vs;simp[*];show _=returned (.tuple #[.agg #[.slice y.r.a y.r.n y.r.aq],.int .i64 (cf M K af n).2.1,.int .i64 (cf M K af n).2.2]);rw[d];show Sat J (bu [y.r.A,gx (cf M K af n).1 y.vs,F]) w';simp[*]
def ZY{J:aX}{F:ag}{w:World}(h:Sat J (bu [F]) w):∃a,aX.le J a/\Sat a (bu [dq.A,gx [] [],F]) w:=
 G_.h J w (h.pick [999,998,0] rfl rfl)
def aaC{bA:FuncId}{M:bD->bY->Nat->j ax}(hM:Pr M)(hB:SQ bA M):aG 8 (vH bA M):=⟨λx F I w hc hr hs=>by
 obtain⟨K,af,n⟩:=x;obtain⟨x4,x5,x6⟩:=hc;dsimp only at x4 x5 x6;refine calls_of_wp_defers func8 af_ ?_;have hm:prog.follows .mixedOrders=true:=by kernel_rfl
 have y0:=IY (N:=45) [.string af,.func (.func bA) #[] #[]] (Nat.le_of_ble_eq_true rfl);have hA:=alY ⟨K,af,bA⟩ F x4 hr.1;unfold tH at hA;have hQ:∀(I':aX)(w0:World),aX.le I I'->cn w w0->∀e B u,e≠Exit.normal->fm 45 I' w0 [] ((λe T S=>match e with
  | .normal=>match SP ⟨K,af,bA⟩with| []=>True|_::_=>rd prog S (ky HI T) ya λv=>l ru ⟨K,af,bA⟩ F (.returned v) S
  | .ret=>rd prog S (ky HI T) ya λv=>l ru ⟨K,af,bA⟩ F (.returned v) S
  | .panic ch=>jX T (SP ⟨K,af,bA⟩)/\l ru ⟨K,af,bA⟩ F (.panicked ch) S
  |_=>False:Exit->Tm->St->Prop) e) B u->bodyPostD prog f8 (λe u=>∃y J,(vH bA M).bS ⟨K,af,n⟩ y/\e=(vH bA M).val ⟨K,af,n⟩ y/\aX.le I J/\Sat J (bu ((vH bA M).post ⟨K,af,n⟩ y++[F])) u/\cn w u) e B u:=by
  intro I' w0 x8 L e B u z0 x2;obtain⟨T',S',J,g1,g2,g3,g4,g5,g6⟩:=x2;cases e with
  |normal=>exact absurd rfl z0
  |ret=>
   obtain⟨v,y1,⟨⟨_,x3,hv,x7⟩⟩⟩:=x_ g4 _ _ _ g6;obtain⟨J',o,x1⟩:=x7.h J u g4;obtain⟨J2,b,s⟩:=ZY x1;show Leaves prog f8 B.tmps _ B.defers .returning u;rw[g2];refine⟨v,by rw[show results f8 B.tmps=results HI B.tmps from rfl,FK g1];exact y1, ?_⟩;have:=ST (bA:=bA) (M:=M) (K:=K) (af:=af) (n:=n) (y:=⟨dq,[]⟩) (aar x3) ⟨.nil rfl,rfl⟩ trivial (aX.le_trans x8 (aX.le_trans g3 (aX.le_trans o b))) s (L.trans g5);rw[hv];exact this
  |panic ch=>
   obtain⟨_,⟨⟨_,_,hv,_⟩⟩⟩:=g6;cases hv
  |_=>exact g6.elim
 refine abZ hm (H:=aaz ⟨K,af,bA⟩ F) (y:=.seq (pn (jG 1 mE)) (.seq (pn (jG 2 mE)) (.seq (pn (jG 3 mE)) (.region 5 #[] false)))) bg hA y0 rfl hs (hQ I w (aX.le_refl I) (cn.refl w)) ?_;intro T1 S1 J1 a1 w1 y2 R ze z z1 k;refine wp_cut hm (V:=(SO ⟨K,af,bA⟩ F 2).get rfl) bg rfl y2 R ze z1 (hQ J1 w1 z k) ?_;rintro d2 z4 J2 a2 w2 z3 y3 W y6 b x1 O;have q:=aX.le_trans z b;have f:=k.trans O;refine abZ hm (y:=.seq (pn (jG 3 mE)) (.region 5 #[] false)) bg y3 W y6 x1 (hQ J2 w2 q f) ?_;intro T3 S3 J3 a3 w3 y4 X y7 x9 s P;have d:=aX.le_trans q x9;have a:=f.trans P;refine wp_cut hm (V:=(SO ⟨K,af,bA⟩ F 5).get rfl) bg rfl y4 X y7 s (hQ J3 w3 d a) ?_;rintro⟨b4,b5,b6,b8,r⟩ z5 J5 a5 w5 c-Y y8 A z2 m;replace c:qI.je ⟨K,af,bA⟩ r:=c;obtain⟨q1,q2,q3,q4⟩:=c;dsimp only at q1 q2 q3 q4;have Q:¬p0 K af:=by{rintro(h|h) <;> omega};obtain⟨hP,ho⟩:=x6 Q;refine wp_seq (apL Y (b4:=b4) (b5:=b5) (b6:=b6) rfl rfl rfl λT6 a6 y9 Z g=>?_);obtain⟨H,G,D⟩:=hB;have y5:hW K ⟨b8,r.a,r.aq,(cA K af).1,af.size⟩:=⟨⟨hP.aT,hP.Pc,hP.len,hP.Jp⟩,hP.dW⟩;have C:M K ⟨b8,r.a,r.aq,(cA K af).1,af.size⟩ n=M K (jH K af) n:=hM K _ _ _ _ _ _ _ _ _;have hb:=D ⟨K,⟨b8,r.a,r.aq,(cA K af).1,af.size⟩,n,b4,b5,b6,r⟩ F ⟨x5,y5,by dsimp only;rw[C];exact ho,q3,rfl⟩ hr;unfold tH at hb;have hE:=Xa (V:=(L9 bA ⟨K,⟨b8,r.a,r.aq,(cA K af).1,af.size⟩,n,b4,b5,b6,r⟩ F 6).get rfl) (G _ _) rfl (show E _ _ _ (.seq .skip (jG 5 mE)) _ _ _ _ from hb) () T6.aS trivial;refine Gf hm _ _ hE (qe Z ⟨(g 1 (by decide)).trans rfl,(g 4 (by decide)).trans rfl,(g 5 (by decide)).trans rfl,(g 6 (by decide)).trans rfl,(g 8 (by decide)).trans rfl,ai⟩) (y9.trans (by rw[y8])) (z2.pick [0,1,2,3,4,5] rfl rfl) (amp ?_ ?_);rintro⟨ns,e,y⟩ u J ⟨⟨t,h1,h2⟩,hy,U⟩ o x0 i;dsimp only at h1 h2 hy U;have hv:cf M K af n=(ns,0,e):=by{rw[L5 Q,<-C,h1];dsimp only;rw[h2]};exact ST hv hy U (aX.le_trans d (aX.le_trans A o)) x0 ((a.trans m).trans i);intro p e u J ⟨t,h1⟩ o x0 i;dsimp only at h1;have hv:cf M K af n=([],p,e):=by{rw[L5 Q,<-C,h1]};obtain⟨J2,b,s⟩:=ZY x0;exact ST (y:=⟨dq,[]⟩) hv ⟨.nil rfl,rfl⟩ trivial (aX.le_trans d (aX.le_trans A (aX.le_trans o b))) s ((a.trans m).trans i)⟩
end
section
def apB(c:Nat):(jl c).length<=4:=by
 unfold jl;cases decide (c>65535) <;> (dsimp only[cond_true,cond_false];simp)
def aoR(s:ah)(mark:Nat):∀(f i:Nat)(o:a_)(j:Nat)(u:a_),i<=s.size->lE s mark f i o=(j,some u)->u.length+4*i<=o.length+4*j:=by
 intro f
 induction f with
 |zero=>intro i o j u _ h;cases h
 |succ f l=>
  intro i o j u q h;rw[lE]at h;cases b:c6 s i with
  |none=>rw[b]at h;cases h
  |some m=>
   obtain⟨c,n⟩:=m;obtain⟨f1,f2,f3⟩:=lV b;rw[b]at h;dsimp only at h;cases d:(c==10||c==13)with
   |true=>rw[d]at h;cases h
   |false=>
    rw[d,y]at h;cases e:c==mark with
    |true=>
     rw[e,aW]at h;cases h;omega
    |false=>
     rw[e,y]at h;cases g:c==92 with
     |true=>
      rw[g,aW]at h;rcases a:eE s (i+n)with⟨k,_|v⟩;rw[a]at h;cases h;rw[a]at h;obtain⟨q1,q2,q3⟩:=Ha a f1;have p:=q3 v rfl;have:=l k (o++v) j u q2 h;rw[eH]at this;omega
     |false=>
      rw[g,y]at h;have:=l (i+n) (o++jl c) j u f1 h;have p:=apB c;rw[eH]at this;omega
def Gm(s:ah)(x:a8):Prop:=0<=x.au/\x.au<=s.size/\x.aJ.size<=4*s.size+3
variable{s:ah}{aT:Nat->Nat}
theorem ajd{i k:Nat}{aB:Bool}{d:a8}(g:i<s.size)(h:gH aT s i aB=(k,some d)):Gm s d:=by
 cases a:gn (L s i)with
 |true=>
  rw[Hz a]at h;cases h;refine⟨Int.natCast_nonneg _,bX, ?_⟩;dsimp only;rw[iA];omega
 |false=>
  cases e:jg s i with
  |true=>
   rw[HA a e]at h;cases l:(d8 s i).2 with
   |false=>rw[l]at h;cases h
   |true=>
    rw[l]at h;cases h;exact⟨Int.natCast_nonneg _,bX,b7 _⟩
  |false=>
   cases n:(L s i==34||L s i==39)with
   |true=>
    rw[HB a e n]at h;have f:=abw s (L s i) (s.size+1) (i+1) [] g;unfold me at h;rcases b:lE s (L s i) (s.size+1) (i+1) []with⟨j,_|u⟩;rw[b]at h;cases h;have o:=aoR s (L s i) (s.size+1) (i+1) [] j u g b;rw[b]at h f;cases h;refine⟨Int.natCast_nonneg _,bX, ?_⟩;dsimp only at f⊢;rw[se];rw[List.length_nil]at o;omega
   |false=>
    rw[Ez a e n]at h;cases c:fx.find? (λm=>dn s i (dF m))with
    |none=>rw[c]at h;cases h
    |some m=>
     rw[c]at h;cases h;have p:∀m∈fx,m.size<=3:=by decide+kernel
     have:=p m (List.mem_of_find?_eq_some c);exact⟨Int.natCast_nonneg _,bX,bX⟩
theorem ajc:∀(f i:Nat)(aB:Bool)(o r:List a8)(p:Int),i<=s.size->(∀x∈o,Gm s x)->kh aT s f i aB o=(r,p)->p<0->p= -1/\(∀x∈r,Gm s x)/\r.length+i<=o.length+s.size:=by
 intro f
 induction f with
 |zero=>
  intro i aB o r p _ _ h hp;cases h;omega
 |succ f C=>
  intro i aB o r p B m h hp;rw[kh]at h;have g:=Rw s (s.size+1) i aB B;rcases A:cW s (s.size+1) i aB with⟨q,j,l⟩;rw[A]at h g;dsimp only at h g;cases e:decide (q>=0)with
  |true=>
   rw[e,aW]at h;have e:=kK e;cases h;omega
  |false=>
   rw[e,y]at h;cases c:j==s.size with
   |true=>
    rw[c,aW]at h;cases h;exact⟨rfl,m,O⟩
   |false=>
    rw[c,y]at h;have c:=fw.1 c;rcases b:gH aT s j l with⟨k,_|d⟩;rw[b]at h;have h:=congrArg Prod.snd h;dsimp only at h;omega;rw[b]at h;dsimp only at h;have n:=ajd O b;have t:=SE O b;have u:=C k false (o++[d]) r p t.2 (λx a=>?_) h hp;obtain⟨v,w,z⟩:=u;rw[eH,zc]at z;exact⟨v,w,O⟩;rcases List.mem_append.1 a with a|a;exact m x a;rw[List.mem_singleton]at a;rw[a];exact n
theorem Zw(h:(xj aT s).2<0):(xj aT s).2= -1/\(∀x∈(xj aT s).1,Gm s x)/\(xj aT s).1.length<=s.size:=by
 unfold xj at h⊢;rcases a:kh aT s (s.size+1) 0 false []with⟨r,p⟩;rw[a]at h;have:=ajc _ _ _ _ _ _ (b7 _) (λx b=>by simp at b) a h;rw[List.length_nil]at this;exact⟨this.1,this.2.1,bX⟩
end
structure pe(K:bD):Prop where
 aT:aG 117 (pE K)
 Jp:aG 32 (zq K)
 Pc:∀n,(K.tv n).size<=1048576
def pe.Ek{K:bD}{af:ah}(a:¬p0 K af):af.size<=8192/\(cA K af).2= -1/\(∀x∈(cA K af).1,Gm af x)/\(cA K af).1.length<=af.size:=by
 have c:¬af.size>8192:=λe=>a (.inl e);have b:¬0<=(cA K af).2:=λe=>a (.inr e);exact⟨O,Zw (by unfold cA at b;omega)⟩
def pe.L3{K:bD}(h:pe K){af:ah}(c:¬p0 K af):hW K (jH K af):=by
 obtain⟨f,g,a,j⟩:=pe.Ek c;refine⟨⟨h.Jp,h.Pc, ?_,λi d e=>?_⟩,⟨Int.natCast_nonneg _,λx b=>⟨(a x b).1,(a x b).2.1⟩⟩⟩;show(cA K af).1.length<=_;omega;have:=(a d (iz e)).2.2;omega
def cz(K:bD)(af:ah):Nat:=24*(cA K af).1.length+40
def aaB{K:bD}{af:ah}:cU K (jH K af) (cz K af) dE≠.out:=by
 intro e;have h:=Xl (L:=(cA K af).1) (ae:=af.size) (aO:=K.tv) (wide:=bo) (s:=dE) (f:=cz K af) (tag:=.prog []) (b7 _) trivial (by unfold cz dE aj.sZ;simp[*]);have b:bP (P (cA K af).1 af.size K.tv bo (cz K af) (.prog [])) (λ_=>ret ()) dE= .out:=e;unfold bP at b;revert h b;cases P (cA K af).1 af.size K.tv bo (cz K af) (.prog []) dE with
 |ok a t=>intro _ e;cases e
 |stop p q t=>intro _ e;cases e
 |out=>intro h;exact absurd rfl h
def K8{K:bD}{af:ah}:ci K (jH K af) (cz K af) dE≠.out:=by
 intro e;have h:=Xl (L:=(cA K af).1) (ae:=af.size) (aO:=K.tv) (wide:=bo) (s:=dE) (f:=cz K af) (tag:=.bf) (b7 _) trivial (by unfold cz dE aj.sZ;simp[*]);have b:bP (P (cA K af).1 af.size K.tv bo (cz K af) .bf) (λ_=>fd>>=λs=>bif decide (s.i<(cA K af).1.length) then ju (cA K af).1 af.size else ret ()) dE= .out:=e;unfold bP at b;revert h b;cases P (cA K af).1 af.size K.tv bo (cz K af) .bf dE with
 |ok a t=>
  intro _ e;have e:(bif decide (t.i<(cA K af).1.length) then (ju (cA K af).1 af.size:j ax) else ret ()) t= .out:=e;revert e;cases decide (t.i<(cA K af).1.length) <;> (intro e;cases e)
 |stop p q t=>intro _ e;cases e
 |out=>intro h;exact absurd rfl h
structure qO where
 K:bD
 af:ah
abbrev oj(M:bD->bY->Nat->j ax):aF where
 X:=qO
 Y:=fT
 args x:=[C x.af]
 cond x:=pe x.K
 aE x F:=eu x.K F/\hU F
 bS x y:=y.ok (cf M x.K x.af (cz x.K x.af)).1/\mi (cf M x.K x.af (cz x.K x.af)).1 y.vs
 val x y:=.returned (.tuple #[.agg #[.slice y.r.a y.r.n y.r.aq],.int .i64 (cf M x.K x.af (cz x.K x.af)).2.1,.int .i64 (cf M x.K x.af (cz x.K x.af)).2.2])
 post x y:=[y.r.A,(gx (cf M x.K x.af (cz x.K x.af)).1 y.vs)]
def abv(bA:FuncId)(M:bD->bY->Nat->j ax)(b:qO)(a:ag):List (Nat×Nat×OH):=[(0,0,.n 1000),(1,1,.c (vH bA M) [] [1,2]),(1,5,.w [.aS 1000])]
def rh1:List LH:=[.aS 1000]
abbrev km(a:fT):aN:=[Q a.r.a a.r.n a.r.aq]
def aoS(x:qO)(F:ag)(f:(oj cU).cond x)(j:(oj cU).aE x F):∀(c:Nat),dP 8 (vH (16:FuncId) cU) (λb=>aG 117 (pE b.K)/\aG 16 (oD cU)/\(¬p0 b.K b.af->hW b.K (jH b.K b.af)/\cU b.K (jH b.K b.af) b.n dE≠PR.out)) (λb h=>eu b.K h/\hU h) (λb a=>a.ok (cf cU b.K b.af b.n).fst/\mi (cf cU b.K b.af b.n).fst a.vs) [C x.af,func (Fn.func 16) ⟨[]⟩ ⟨[]⟩] ([]:List ag) (g [(0,F),(1000,D c eJ 25)] []) (λb a=>V c 0/\V c 0/\l (oj cU) x F (al (tuple ⟨[agg ⟨km a⟩,Z (cf cU b.K b.af b.n).snd.fst,Z (cf cU b.K b.af b.n).snd.snd]⟩)) [(0,F),(1,a.r.A),(2,fN (Kf.rest (cf cU b.K b.af b.n).fst a.vs)),(1000,D c (km a) 25)]):=by
 delta eJ km g V dP Z C Q D fN al;obtain⟨K,af⟩:=x;obtain⟨d,e⟩:=j;intro b;exact ba (aaC amm ak2) ⟨K,af,cz K af⟩ ⟨f.aT,af6,λi=>⟨f.L3 i,aaB⟩⟩ ⟨eu.sub d (bB 0),hU.sub e (bB 0)⟩ λy k=>⟨Y,Y,y,k,rfl,ao [1,2,0]⟩
def abz:aG 7 (oj cU):=fo 10 func7 (abv 16 cU) [] dV dV gj rh1 aoS
def aoQ(x:qO)(F:ag)(f:(oj ci).cond x)(j:(oj ci).aE x F):∀(c:Nat),dP 8 (vH (9:FuncId) ci) (λb=>aG 117 (pE b.K)/\aG 9 (oD ci)/\(¬p0 b.K b.af->hW b.K (jH b.K b.af)/\ci b.K (jH b.K b.af) b.n dE≠PR.out)) (λb h=>eu b.K h/\hU h) (λb a=>a.ok (cf ci b.K b.af b.n).fst/\mi (cf ci b.K b.af b.n).fst a.vs) [C x.af,func (Fn.func 9) ⟨[]⟩ ⟨[]⟩] ([]:List ag) (g [(0,F),(1000,D c eJ 25)] []) (λb a=>V c 0/\V c 0/\l (oj ci) x F (al (tuple ⟨[agg ⟨km a⟩,Z (cf ci b.K b.af b.n).snd.fst,Z (cf ci b.K b.af b.n).snd.snd]⟩)) [(0,F),(1,a.r.A),(2,fN (Kf.rest (cf ci b.K b.af b.n).fst a.vs)),(1000,D c (km a) 25)]):=by
 delta eJ km g V dP Z C Q D fN al;obtain⟨K,af⟩:=x;obtain⟨d,e⟩:=j;intro b;exact ba (aaC ag7 akV) ⟨K,af,cz K af⟩ ⟨f.aT,af1,λi=>⟨f.L3 i,K8⟩⟩ ⟨eu.sub d (bB 0),hU.sub e (bB 0)⟩ λy k=>⟨Y,Y,y,k,rfl,ao [1,2,0]⟩
def Pa:aG 5 (oj ci):=fo 10 func5 (abv 9 ci) [] dV dV gj rh1 aoQ
def kOk:pe pq:=
 ⟨akw afY O_ (λ_ h=>h.1) (λ_ h=>h.2.1) rfl,ao8 ⟨O_,λi _=>WO i⟩ rfl (λ_ h=>h.2.2),λn=>gi (abK ⟨O_,λi _=>WO i⟩ n) (by decide)⟩
def aov:ownKnob prog.godebug=none:=bg
def aor:laidOutB prog=true:=bg
section
structure c8(s w:ah)(d:Nat):Prop where
 eq:∃a e:List UInt8,w.data.toList=a++(s.data.toList++e)/\a.length=d/\(e=[]\/∃b,e=10::b)
def KV(s:ah)(i:Nat):L s i=((s.data.toList[i]?).map UInt8.toNat).getD 0:=by
 unfold L;simp[*]
def qa(s:ah):s.data.toList.length=s.size:=X
def YO(s:ah)(i j:Nat):(s.extract i j).data.toList=(s.data.toList.drop i).take (j-i):=by
 simp[*]
section
variable{s w:ah}{d:Nat}
variable{t:a_}{i k:Nat}
theorem c8.at_(h:c8 s w d)(U:k<s.size):L w (k+d)=L s k:=by
 obtain⟨a,e,b,c,_⟩:=h.eq;rw[KV,KV,b,lQ O,m5 (by simp[*])];simp[*]
theorem c8.size(h:c8 s w d):s.size+d<=w.size:=by
 obtain⟨a,e,b,c,_⟩:=h.eq;have:=congrArg List.length b;rw[qa,eH,eH,qa]at this;omega
theorem c8.nl(h:c8 s w d):(w.size=s.size+d/\L w (s.size+d)=0)\/(s.size+d<w.size/\L w (s.size+d)=10):=by
 obtain⟨a,e,g,i,c⟩:=h.eq;have f:=congrArg List.length g;rw[qa,eH,eH,qa]at f;rcases c with c| ⟨b,c⟩;subst c;rw[List.length_nil]at f;exact .inl ⟨O,wX O⟩;subst c;rw[kI]at f;refine .inr ⟨O, ?_⟩;rw[KV,g,lQ O,lQ (by simp[*]),qa];simp[*]
theorem c8.ask(h:c8 s w d)(U:k<=s.size){α:Type}(p:Nat->α)(e:p 10=p 0):p (L w (k+d))=p (L s k):=by
 rcases Nat.lt_or_ge k s.size with c|c;rw[h.at_ c];have a:k=s.size:=by omega
 subst a;rw[wX (bK _)];rcases h.nl with⟨_,b⟩| ⟨_,b⟩ <;> rw[b];exact e
theorem c8.Lu(h:c8 s w d)(U:k<=s.size)(p:Nat->Bool)(e:p 10=false):(decide (k+d<w.size)&&p (L w (k+d)))=(decide (k<s.size)&&p (L s k)):=by
 rcases Nat.lt_or_ge k s.size with b|b;rw[h.at_ b,bp b,bp (by have:=h.size;omega)]
 ·
  have a:k=s.size:=O;subst a;rcases h.nl with⟨f,c⟩| ⟨_,c⟩
  all_goals grind
theorem c8.ext(h:c8 s w d){j:Nat}(f:i<=s.size)(g:j<=s.size):w.extract (i+d) (j+d)=s.extract i j:=by
 obtain⟨a,e,b,c,_⟩:=h.eq;apply ByteArray.ext;apply Array.ext';rw[YO,YO,b,List.drop_append,List.drop_of_length_le O,List.nil_append,show i+d-a.length=i by omega,List.drop_append_of_le_length (by simp[*]),List.take_append_of_le_length (by rw[List.length_drop,qa];omega),show j+d-(i+d)=j-i by omega]
theorem c8.sub(h:c8 s w d)(g:i<=s.size):c8 (s.extract i s.size) (w.extract (i+d) w.size) 0:=by
 obtain⟨a,e,b,f,c⟩:=h.eq;refine⟨[],e, ?_,rfl,c⟩;rw[Hb,Hb,b,List.drop_append,List.drop_of_length_le O,List.nil_append,List.nil_append,show i+d-a.length=i by omega,List.drop_append_of_le_length (by simp[*])]
theorem agu(n b c d e a f g:Nat)(h:n=1\/a/64≠2):Lib.decodeN 1 b c d e=Lib.decodeN n b a f g:=by
 unfold Lib.decodeN;have i:¬(1<n/\a/64=2):=O;simp[*]
theorem agv(n b c d e a f:Nat)(hn:2<=n)(h:n=2\/a/64≠2):Lib.decodeN 2 b c d e=Lib.decodeN n b c a f:=by
 unfold Lib.decodeN;have g:(1<n)=((1:Nat)<2):=propext ⟨λ_=>O,λ_=>O⟩;have i:¬(2<n/\a/64=2):=O;simp[*]
theorem agw(n b c d e a:Nat)(hn:3<=n)(h:n=3\/a/64≠2):Lib.decodeN 3 b c d e=Lib.decodeN n b c d a:=by
 unfold Lib.decodeN;have g:(1<n)=((1:Nat)<3):=propext ⟨λ_=>O,λ_=>O⟩;have f:(2<n)=((2:Nat)<3):=propext ⟨λ_=>O,λ_=>O⟩;have i:¬(3<n/\a/64=2):=O;simp[*]
theorem agx(n m a b c d:Nat)(hn:4<=n)(g:4<=m):Lib.decodeN m a b c d=Lib.decodeN n a b c d:=by
 unfold Lib.decodeN;have e:(1<n)=(1<m):=propext ⟨λ_=>O,λ_=>O⟩;have e1:(2<n)=(2<m):=propext ⟨λ_=>O,λ_=>O⟩;have f:(3<n)=(3<m):=propext ⟨λ_=>O,λ_=>O⟩;simp[*]
theorem c8.next(h:c8 s w d)(g:i<s.size):c6 w (i+d)=c6 s i:=by
 unfold c6;have l:=h.size;rw[bp g,bp (show i+d<w.size by omega),h.at_ g];have key:Lib.decodeN (w.size-(i+d)) (L s i) (L w (i+d+1)) (L w (i+d+2)) (L w (i+d+3))=Lib.decodeN (s.size-i) (L s i) (L s (i+1)) (L s (i+2)) (L s (i+3)):=by
  have a:i+1<s.size->L w (i+d+1)=L s (i+1):=λe=>by rw[show i+d+1=i+1+d by omega,h.at_ e]
  have c:i+2<s.size->L w (i+d+2)=L s (i+2):=λe=>by rw[show i+d+2=i+2+d by omega,h.at_ e]
  have f:i+3<s.size->L w (i+d+3)=L s (i+3):=λe=>by rw[show i+d+3=i+3+d by omega,h.at_ e]
  by_cases j:i+1=s.size
  ·rw[show s.size-i=1 by omega];refine(agu _ _ _ _ _ _ _ _ ?_).symm;rcases h.nl with⟨b,_⟩| ⟨_,b⟩
   all_goals grind
  by_cases b:i+2=s.size
  ·rw[show s.size-i=2 by omega,a O];refine(agv _ _ _ _ _ _ _ O ?_).symm;rcases h.nl with⟨b,_⟩| ⟨_,b⟩
   all_goals grind
  by_cases k:i+3=s.size
  ·rw[show s.size-i=3 by omega,a O,c O];refine(agw _ _ _ _ _ _ O ?_).symm;rcases h.nl with⟨b,_⟩| ⟨_,b⟩
   all_goals grind
  rw[a O,c O,f O];exact agx _ _ _ _ _ _ O O
 rw[key]
theorem Sy(h:L w i=10)(a:i<w.size):c6 w i=some (10,1):=by
 unfold c6;rw[bp a,h];rfl
theorem ake{c:Nat}(h:L w i=c)(a:c<128)(b:i<w.size):c6 w i=some (c,1):=by
 unfold c6;have:Lib.decodeN (w.size-i) (L w i) (L w (i+1)) (L w (i+2)) (L w (i+3))=(c,1):=by{unfold Lib.decodeN;simp[*]};grind
theorem LN(a:w.size<=i):c6 w i=none:=by
 unfold c6;grind
theorem c8.hp(h:c8 s w d)(f:i<=s.size)(j:∀b∈t,b≠10/\b≠0):dn w (i+d) t=dn s i t:=by
 unfold dn;have g:=h.size;by_cases c:i+t.length<=s.size;have e:∀k,k<t.length->L w (i+d+k)=L s (i+k):=λk U=>by rw[show i+d+k=i+k+d by omega,h.at_ O]
 grind
 ·
  rw[bF c,lj,Bool.and_eq_false_iff];refine .inr ?_;rw[List.all_eq_false];have U:s.size-i<t.length:=O;refine⟨s.size-i,List.mem_range.2 U, ?_⟩;rw[show i+d+(s.size-i)=s.size+d by omega,eG,da U];rw[beq_iff_eq];rcases h.nl with⟨_,a⟩| ⟨_,a⟩ <;> rw[a]
  all_goals grind
theorem c8.aB(h:c8 s w d):∀(f g i:Nat),i<=s.size->s.size-i<f->w.size-(i+d)<g->f_ w g (i+d)=((f_ s f i).1+d,(f_ s f i).2):=by
 intro f
 induction f with
 |zero=>intro g i _ a _;omega
 |succ f m=>
  intro g i q o p;obtain⟨g,rfl⟩:∃k,g=k+1:=⟨g-1,O⟩;have r:=h.size;rw[f_,f_];rcases Nat.lt_or_ge i s.size with b|b
  ·rw[bp b,bp (show i+d<w.size by omega),h.next b,aW,aW];cases l:c6 s i with
   |none=>rfl
   |some e=>
    obtain⟨c,n⟩:=e;obtain⟨f1,f2,f3⟩:=lV l;dsimp only;cases iD c with
    |true=>rfl
    |false=>
     rw[y,y,show i+d+n=i+n+d by omega];exact m g (i+n) f1 O O
  have:i=s.size:=by omega
  subst this;rw[bF (Nat.lt_irrefl _)];rcases h.nl with⟨a,_⟩| ⟨a,j⟩;simp[*];rw[bp a,Sy j a] <;> rfl
theorem c8.tZ(h:c8 s w d)(e:∀b∈t,b≠10/\b≠0):∀(f g i k:Nat),i<=s.size->w.size-(i+d)<g->pA s t f i=some k->pA w t g (i+d)=some (k+d):=by
 intro f
 induction f with
 |zero=>intro g i k _ _ h;cases h
 |succ f j=>
  intro g i k c l U;obtain⟨g,rfl⟩:∃k,g=k+1:=⟨g-1,O⟩;have m:=h.size;rw[pA]at U⊢;rw[h.hp c e];cases hp:dn s i t with
  |true=>rw[hp]at U;cases U;rfl
  |false=>
   rw[hp,y]at U;by_cases a:i<s.size;rw[bp a]at U;rw[bp (show i+d<w.size by omega),aW,show i+d+1=i+1+d by omega];exact j g (i+1) k a O U;grind
theorem anj(t:ah):∀(f g i:Nat)(aB:Bool),t.size-i<f->t.size-i<g->eY t f i aB=eY t g i aB:=by
 intro f
 induction f with
 |zero=>intro g i aB h _;omega
 |succ f l=>
  intro g i aB d e;obtain⟨g,rfl⟩:∃k,g=k+1:=⟨g-1,O⟩;rw[eY,eY];by_cases j:i<t.size;cases b:c6 t i with
  |none=>rfl
  |some a=>
   obtain⟨c,n⟩:=a;obtain⟨f1,f2,f3⟩:=lV b;grind
  simp[*]
theorem afz(t:ah):∀(f g i:Nat)(aB:Bool),i<=t.size->t.size-i<f->t.size-i<g->cW t f i aB=cW t g i aB:=by
 intro f
 induction f with
 |zero=>intro g i aB _ h _;omega
 |succ f b=>
  intro g i aB m u v;obtain⟨g,rfl⟩:∃k,g=k+1:=⟨g-1,O⟩;rw[cW,cW];by_cases o:i<t.size;cases a:c6 t i with
  |none=>rfl
  |some d=>
   obtain⟨c,n⟩:=d;obtain⟨f1,f2,f3⟩:=lV a;dsimp only[cond_true];rw[b g (i+n) true f1 O O,b g (i+n) aB f1 O O];have s:=Hu t (t.size+1) i m;cases r:dn t i [47,47]with
   |true=>
    rw[aW,aW];have l:i<(f_ t (t.size+1) i).1\/iD c=true\/(f_ t (t.size+1) i).2=false:=by
     rw[f_,bp o,a];dsimp only[cond_true];cases iD c with
     |true=>exact .inr (.inl rfl)
     |false=>rw[y];exact .inl (by have:=Hu t t.size (i+n) f1;omega)
    grind
   |false=>
    rw[y,y];cases e:dn t i [47,42]with
    |false=>rfl
    |true=>
     rw[aW,aW];have hp:=Hj e;have p:([47,42]:a_).length=2:=rfl;cases q:pA (t.extract (i+2) t.size) [42,47] (t.size+1) 0 with
     |none=>rfl
     |some k=>
      have j:=Sf _ _ _ _ _ q;rw[iA]at j;grind
  simp[*]
theorem c8.afy(h:c8 s w d):∀(f g i j:Nat)(aB l:Bool),i<=s.size->s.size-i<f->w.size-(i+d)<g->cW s f i aB=(-1,j,l)->
  (j<s.size->cW w g (i+d) aB=(-1,j+d,l))/\(j=s.size->∀m,w.size-(s.size+d)<m->cW w g (i+d) aB=cW w m (s.size+d) l):=by
 intro f
 induction f with
 |zero=>intro g i j aB l _ o _;omega
 |succ f v=>
  intro g i j aB l p Q L a;obtain⟨g,rfl⟩:∃k,g=k+1:=⟨g-1,O⟩;have N:=h.size;rw[cW]at a;rcases Nat.lt_or_ge i s.size with q|q
  ·
   rw[bp q]at a;have G:∀m,cW w (m+1) (i+d) aB=_:=λm=>by rw[cW,bp (show i+d<w.size by omega),h.next q,h.hp p (t:=[47,47]) (by decide),h.hp p (t:=[47,42]) (by decide),aW]
   rw[G];cases r:c6 s i with
   |none=>
    rw[r]at a;have:=congrArg Prod.fst a;have:(i:Int)= -1:=this;omega
   |some F=>
    obtain⟨c,n⟩:=F;obtain⟨f1,f2,f3⟩:=lV r;rw[r]at a;dsimp only[cond_true]at a⊢;have B:i+d+n=i+n+d:=O;cases o:iD c with
    |true=>
     rw[o,aW]at a;rw[aW,B];exact v g (i+n) j true l f1 O O a
    |false=>
     rw[o,y]at a;cases C:t8 c with
     |true=>
      rw[C,aW]at a;rw[aW,B];exact v g (i+n) j aB l f1 O O a
     |false=>
      rw[C,y]at a;rw[y];cases D:dn s i [47,47]with
      |true=>
       rw[D,aW]at a;rw[aW,h.aB (s.size+1) (w.size+1) i p O O];dsimp only;have I:=Hu s (s.size+1) i p;have z:(f_ s (s.size+1) i).2=true->i<(f_ s (s.size+1) i).1:=by{rw[f_,bp q,r];dsimp only[cond_true];rw[o,y];have:=Hu s s.size (i+n) f1;intro _;omega};cases b:(f_ s (s.size+1) i).2 with
       |true=>
        rw[b,aW]at a;rw[aW];have:=z b;exact v g _ j aB l I.2 O O a
       |false=>
        rw[b,y]at a;have:=congrArg Prod.fst a;have:((f_ s (s.size+1) i).1:Int)= -1:=this;omega
      |false=>
       rw[D,y]at a;rw[y];cases b:dn s i [47,42]with
       |false=>
        rw[b,y]at a;rw[y];cases a;exact⟨λ_=>rfl,λe=>O⟩
       |true=>
        rw[b,aW]at a;rw[aW];have hp:=Hj b;have M:([47,42]:a_).length=2:=rfl;have J:=h.sub (i:=i+2) O;cases u:pA (s.extract (i+2) s.size) [42,47] (s.size+1) 0 with
        |none=>
         rw[u]at a;have:=congrArg Prod.fst a;have:(i:Int)= -1:=this;omega
        |some k=>
         rw[u]at a;have H:=Sf _ _ _ _ _ u;rw[iA]at H;have P:([42,47]:a_).length=2:=rfl;have A:pA (w.extract (i+d+2) w.size) [42,47] (w.size+1) 0=some k:=by{have:=J.tZ (t:=[42,47]) (by decide) (s.size+1) (w.size+1) 0 k (b7 _) (by rw[iA];omega) u;rw[show i+d+2=i+2+d by omega];exact this};rw[A];dsimp only at a⊢;have K:w.extract (i+d+2) (i+d+2+k)=s.extract (i+2) (i+2+k):=by{rw[show i+d+2=i+2+d by omega,show i+2+d+k=i+2+k+d by omega];exact h.ext O O};rw[K,anj _ (w.size+1) (s.size+1) 0 aB (by rw[iA];omega) (by rw[iA];omega)];cases E:(eY (s.extract (i+2) (i+2+k)) (s.size+1) 0 aB).1 with
         |true=>
          rw[E,aW]at a;rw[aW,show i+d+k+4=i+k+4+d by omega];exact v g (i+k+4) j _ l O O O a
         |false=>
          rw[E,y]at a;have:=congrArg Prod.fst a;have:(i:Int)= -1:=this;omega
  have:i=s.size:=O;subst this;rw[bF (Nat.lt_irrefl _)]at a;cases a;exact⟨λe=>absurd e (Nat.lt_irrefl _),λ_ m x=>afz w _ _ _ _ N L x⟩
end
end
section
def afA(s:ah):∀(f i:Nat)(aB:Bool),(cW s f i aB).1= -1\/0<=(cW s f i aB).1:=by
 intro f
 induction f with
 |zero=>intro i aB;exact .inl rfl
 |succ f a=>
  intro i aB;rw[cW];cases decide (i<s.size)with
  |false=>exact .inl rfl
  |true=>
   cases c6 s i with
   |none=>exact .inr (Int.natCast_nonneg _)
   |some b=>
    obtain⟨c,n⟩:=b;dsimp only;cases iD c with
    |true=>exact a _ _
    |false=>
     rw[y];cases t8 c with
     |true=>exact a _ _
     |false=>
      grind
section
variable{s w:ah}{d:Nat}
theorem c8.anN(h:c8 s w d)(p:Nat->Bool)(e:p 10=false):∀(f g i:Nat),i<=s.size->s.size-i<f->w.size-(i+d)<g->gL w p g (i+d)=gL s p f i+d:=by
 intro f
 induction f with
 |zero=>intro g i _ j _;omega
 |succ f c=>
  intro g i a m n;obtain⟨g,rfl⟩:∃k,g=k+1:=⟨g-1,O⟩;have o:=h.size;rw[gL,gL,h.Lu a p e];cases l:(decide (i<s.size)&&p (L s i))with
  |false=>rfl
  |true=>
   rw[aW,aW,show i+d+1=i+1+d by omega];have b:i<s.size:=by{grind};exact c g (i+1) b O O
variable{i:Nat}{aT Hx:Nat->Nat}
theorem c8.OS(h:c8 s w d)(p:Nat->Bool)(e:p 10=false)(a:i<=s.size):bw w p (i+d)=bw s p i+d:=by
 exact h.anN p e _ _ i a O O
theorem c8.aa2(h:c8 s w d)(p:Nat->Bool)(e:p 10=false){n:Nat}(a:i+n<=s.size):bw w p (i+d+n)=bw s p (i+n)+d:=by
 rw[show i+d+n=i+n+d by omega];exact h.OS p e a
theorem c8.gt(i j k:Nat):decide (j+d>i+d+k)=decide (j>i+k):=by
 grind
theorem c8.Z4(h:c8 s w d){j:Nat}(f:j<=s.size):rm w (j+d)=((rm s j).1+d,(rm s j).2):=by
 unfold rm;rw[h.ask f (λb=>(b|||32)==101) rfl];cases a:(L s j|||32)==101 with
 |false=>
  rw[y,y];unfold aO;rw[h.ask f (λb=> !(gn b||bE b)) rfl]
 |true=>
  have i:j<s.size:=wW (by intro e;rw[e]at a;cases a);rw[show j+d+1=j+1+d by omega,h.ask (k:=j+1) i (λb=>b==43||b==45) rfl];have key:∀m,m<=s.size->BW w (m+d)=((BW s m).1+d,(BW s m).2):=λm g=>by{unfold BW;have r:=n_ s bE g;rw[h.OS bE rfl g,h.ask r.2 (λb=> !(gn b||bE b)) rfl];simp[*]};cases c:(L s (j+1)==43||L s (j+1)==45)with
  |true=>
   rw[aW,aW,show j+d+2=j+2+d by omega];have l:j+1<s.size:=wW (by intro e;rw[e]at c;cases c);grind
  |false=>
   grind
theorem c8.Z3(h:c8 s w d)(a:i<s.size):d8 w (i+d)=((d8 s i).1+d,(d8 s i).2):=by
 rw[BV,BV,show i+d+1=i+1+d by omega,h.at_ a,h.Lu (k:=i+1) a (λb=>(b|||32)==120) rfl];cases f:(L s i==48&&(decide (i+1<s.size)&&(L s (i+1)|||32)==120))with
 |true=>
  rw[aW,aW];have c:i+1<s.size:=by{grind};have r:=n_ s gf (show i+2<=s.size by omega);rw[h.aa2 gf rfl (show i+2<=s.size by omega),h.ask r.2 (λb=> !(gn b||bE b)) rfl,c8.gt]
 |false=>
  unfold LU zr;have r:=n_ s bE (Nat.le_of_lt a);rw[h.OS bE rfl (Nat.le_of_lt a),h.at_ a,show decide (bw s bE i+d-(i+d)>1)=decide (bw s bE i-i>1) by grind];cases g:(decide (bw s bE i-i>1)&&L s i==48)with
  |true=>rfl
  |false=>
   rw[y,y];unfold BU;rw[h.ask r.2 (λb=>b==46) rfl];cases c:L s (bw s bE i)==46 with
   |false=>rw[y,y];exact h.Z4 r.2
   |true=>
    rw[aW,aW];have j:bw s bE i<s.size:=wW (by intro e;rw[e]at c;cases c);rw[h.aa2 bE rfl (i:=bw s bE i) (n:=1) O];exact h.Z4 (n_ s bE (show bw s bE i+1<=s.size by omega)).2
theorem c8.gm(h:c8 s w d):∀(n i u:Nat),i<=s.size->eB w n (i+d) u=((eB s n i u).1+d,(eB s n i u).2):=by
 intro n
 induction n with
 |zero=>intro i u _;rfl
 |succ n e=>
  intro i u a;rw[eB,eB,h.Lu a gf rfl];cases c:(decide (i<s.size)&&gf (L s i))with
  |false=>rfl
  |true=>
   have b:i<s.size:=by{grind};rw[aW,aW,h.at_ b,show i+d+1=i+1+d by omega];grind
theorem c8.esc(h:c8 s w d)(o:i<=s.size):eE w (i+d)=((eE s i).1+d,(eE s i).2)\/(s.size+d<w.size/\eE w (i+d)=(s.size+d+1,some [])/\((eE s i).2=none\/(eE s i).1=s.size)):=by
 rcases Nat.lt_or_ge i s.size with g|g
 ·
  unfold eE;rw[h.next g];cases m:c6 s i with
  |none=>exact .inl rfl
  |some j=>
   obtain⟨c,n⟩:=j;obtain⟨f1,f2,f3⟩:=lV m;dsimp only;have k:i+d+n=i+n+d:=O;rw[k];cases w7.find? (λp=>p.1==c)with
   |some p=>exact .inl rfl
   |none=>
    dsimp only;cases c==120 with
    |true=>
     rw[aW,aW,h.gm 2 (i+n) 0 f1];simp[*]
    |false=>
     rw[y,y];cases c==117 with
     |true=>
      rw[aW,aW,h.gm 4 (i+n) 0 f1];simp[*]
     |false=>
      rw[y,y];cases c==48 with
      |true=>
       rw[aW,aW,h.ask f1 bE rfl];simp[*]
      |false=>
       rw[y,y];cases oE c 49 57 with
       |true=>exact .inl rfl
       |false=>
        rw[y,y];cases a:c==13 with
        |false=>
         grind
        |true=>
         rw[Bool.true_and,Bool.true_and];have b:iD c=true:=by rw[eq_of_beq a] <;> rfl
         rw[b];rcases Nat.lt_or_ge (i+n) s.size with f|f;rw[h.at_ f];grind
         ·
          have e:i+n=s.size:=O;rw[e,wX (bK _)];rcases h.nl with⟨_,q⟩| ⟨q0,q⟩
          all_goals grind
 have e:i=s.size:=O;subst e;have l:eE s s.size=(s.size,none):=by{unfold eE;rw[LN (bK _)]};rw[l];rcases h.nl with⟨q0,q⟩| ⟨q0,q⟩;refine .inl ?_;unfold eE;rw[LN O];refine .inr ⟨q0, ?_,.inl rfl⟩;unfold eE;rw[Sy q q0];rfl
theorem c8.aJ(h:c8 s w d)(mark:Nat):∀(f g i:Nat)(o:a_)(j:Nat)(u:a_),i<=s.size->w.size-(i+d)<g->lE s mark f i o=(j,some u)->lE w mark g (i+d) o=(j+d,some u):=by
 intro f
 induction f with
 |zero=>intro g i o j u _ _ b;cases b
 |succ f z=>
  intro g i o j u B A a;obtain⟨g,rfl⟩:∃k,g=k+1:=⟨g-1,O⟩;have C:=h.size;rw[lE]at a;rcases Nat.lt_or_ge i s.size with l|l
  ·
   rw[lE,h.next l];cases m:c6 s i with
   |none=>rw[m]at a;cases a
   |some t=>
    obtain⟨c,n⟩:=t;obtain⟨f1,f2,f3⟩:=lV m;rw[m]at a;dsimp only at a⊢;have x:i+d+n=i+n+d:=O;rw[x];cases b:(c==10||c==13)with
    |true=>rw[b]at a;cases a
    |false=>
     rw[b,y]at a;cases p:c==mark with
     |true=>rw[p,aW]at a;cases a;rfl
     |false=>
      rw[p,y]at a;rw[y];cases r:c==92 with
      |false=>
       rw[r,y]at a;rw[y];exact z g (i+n) _ j u f1 O a
      |true=>
       rw[r,aW]at a;rw[aW];rcases e:eE s (i+n)with⟨k,_|v⟩;grind;rw[e]at a;obtain⟨q1,q2,q3⟩:=Ha e f1;dsimp only at a;rcases h.esc f1 with q| ⟨_,_,q|q⟩;grind;grind;rw[e]at q;dsimp only at q;subst q;cases f with
       |zero=>cases a
       |succ f=>
        rw[lE,LN (bK _)]at a;cases a
  rw[LN l]at a;cases a
def a8.mv(d:Nat)(x:a8):a8:={x with au:=x.au+d}
theorem ajI:∀m∈fx,∀b∈dF m,b≠10/\b≠0:=by decide+kernel
theorem c8.find(h:c8 s w d)(c:i<=s.size):(fx.find? λm=>dn w (i+d) (dF m))=fx.find? λm=>dn s i (dF m):=by
 have key:∀l:List ah,(∀m∈l,∀b∈dF m,b≠10/\b≠0)->(l.find? λm=>dn w (i+d) (dF m))=l.find? λm=>dn s i (dF m):=by
  intro l
  induction l with
  |nil=>intro _;rfl
  |cons m l f=>
   intro a;rw[List.find?_cons,List.find?_cons,h.hp c (a m kJ),f (λx e=>a x (nP _ e))]
 exact key fx ajI
theorem c8.aiB(h:c8 s w d)(a:i<s.size):jg w (i+d)=jg s i:=by
 unfold jg;rw[h.at_ a,show i+d+1=i+1+d by omega,h.Lu (k:=i+1) a bE rfl]
theorem c8.one(h:c8 s w d)(c:i<s.size){aB:Bool}(hn:jg s i=true->(d8 s i).2=true->Hx (i+d)=aT i){k:Nat}{x:a8}(e:gH aT s i aB=(k,some x)):gH Hx w (i+d) aB=(k+d,some (x.mv d)):=by
 have v:=h.at_ c;have p:=h.aiB c;cases n:gn (L s i)with
 |true=>
  have b:gn (L w (i+d))=true:=by simp[*]
  rw[Hz n]at e;rw[Hz b];cases e;have r:=n_ s iE (Nat.le_of_lt c);rw[h.OS iE rfl (Nat.le_of_lt c),h.ext (Nat.le_of_lt c) r.2];rfl
 |false=>
  have b:gn (L w (i+d))=false:=by simp[*]
  cases a:jg s i with
  |true=>
   rw[HA n a]at e;rw[HA b (p.trans a),h.Z3 c];cases g:(d8 s i).2 with
   |false=>rw[g]at e;cases e
   |true=>
    rw[g]at e;cases e;rw[aW,hn a g];rfl
  |false=>
   have f:=p.trans a;cases t:(L s i==34||L s i==39)with
   |true=>
    have l:(L w (i+d)==34||L w (i+d)==39)=true:=by simp[*]
    rw[HB n a t]at e;rw[HB b f l];rcases o:me s i with⟨j,_|u⟩;grind;rw[o]at e;cases e;have y:=h.size;have:me w (i+d)=(k+d,some u):=by{unfold me at o⊢;rw[v,show i+d+1=i+1+d by omega];exact h.aJ _ _ _ _ _ _ _ c O o};rw[this];rfl
   |false=>
    have l:(L w (i+d)==34||L w (i+d)==39)=false:=by simp[*]
    rw[Ez n a t]at e;rw[Ez b f l,h.find (Nat.le_of_lt c)];cases q:fx.find? (λm=>dn s i (dF m))with
    |none=>rw[q]at e;cases e
    |some m=>
     rw[q]at e;cases e;unfold a8.mv;grind
theorem c8.Ek(h:c8 s w d)(hn:∀i,i<s.size->jg s i=true->(d8 s i).2=true->Hx (i+d)=aT i):∀(f g i:Nat)(aB:Bool)(o r:List a8),i<=s.size->w.size-(i+d)<g->kh aT s f i aB o=(r,-1)->
  ∃(x:List a8)(l:Bool)(m:Nat),r=o++x/\w.size-(s.size+d)<m/\∀n,kh Hx w g (i+d) aB n=kh Hx w m (s.size+d) l (n++x.map (a8.mv d)):=by
 intro f
 induction f with
 |zero=>intro g i aB o r _ _ e;cases e
 |succ f C=>
  intro g i aB o r v I e;obtain⟨g,rfl⟩:∃k,g=k+1:=⟨g-1,O⟩;have J:=h.size;rw[kh]at e;have u:=Rw s (s.size+1) i aB v;have c:=afA s (s.size+1) i aB;rcases t:cW s (s.size+1) i aB with⟨q,j,l⟩;rw[t]at e u c;dsimp only at e u c;have B:q= -1:=by{grind};subst B;obtain⟨E,F⟩:=h.afy (s.size+1) (w.size+1) i j aB l v O O t;cases b:j==s.size with
  |true=>
   rw[b,aW]at e;have b:=eq_of_beq b;cases e;refine⟨[],l,g+1,(dQ _).symm,O,λn=>?_⟩;rw[List.map_nil,dQ,kh,kh,F b (w.size+1) O]
  |false=>
   rw[b,y]at e;have b:=fw.1 b;have a:j<s.size:=O;rcases p:gH aT s j l with⟨k,_|x⟩;grind;rw[p]at e;dsimp only at e;have A:=SE a p;obtain⟨G,D,m,e1,z,H⟩:=C g k false (o++[x]) r A.2 O e;refine⟨x::G,D,m,by simp[*],z,λn=>?_⟩;rw[kh,E a];dsimp only;rw[bF (by decide),y,show(j+d==w.size)=false from fw.2 O,y,h.one a (hn j a) p];simp[*]
end
end
section
section
variable{V:Vw}
end
section
variable{L:List a8}{ae:Int}{aO:Nat->ah}{wide:ah->ah}{s:ap}
end
section
variable{La Lb J:List a8}{fa fb fj:Int}{aO:Nat->ah}{wide:ah->ah}
end
end
section
section
variable{s w:ah}{d:Nat}
def xt(c:Nat)(m:ah):Bool:=decide (c<128)&&(!iD c&&(!t8 c&&(!(c==47)&&(!gn c&&(!bE c&&(!(c==46)&&(!(c==34)&&(!(c==39)&&((fx.all λa=> !((dF a).head?==some c)||dF a==[c])&&((fx.find? λa=>dF a==[c]).map dF==some (dF m)&&m.size==1))))))))))
theorem ZJ:xt 40 lp=true:=by decide+kernel
theorem ZK:xt 41 rp=true:=by decide+kernel
theorem aj1{a b:ah}(h:dF a=dF b):a=b:=by
 have:=List.map_inj_right (f:=UInt8.toNat) (λx y e=>UInt8.toNat.inj e) |>.1 h;exact ByteArray.ext (Array.ext' this)
theorem ajG{c:Nat}{m:ah}(h:xt c m=true){j:Nat}(x:j<w.size)(v:L w j=c):(fx.find? λm=>dn w j (dF m))=some m:=by
 unfold xt at h;simp only[iP]at h;obtain⟨-,-,-,-,-,-,-,-,-,n,f,u⟩:=h;rw[List.all_eq_true]at n;have f:=eq_of_beq f;have key:∀d∈fx,dn w j (dF d)=(dF d==[c]):=by
  intro d i;have q:=n d i;have k:dF d≠[]:=by
   have:∀m∈fx,dF m≠[]:=by decide+kernel
   simp[*]
  cases o:dF d with
  |nil=>exact absurd o k
  |cons b r=>
   rw[o]at q;rw[List.head?_cons]at q;by_cases g:b=c;have e:(b::r)=[b]:=by{grind};rw[e];unfold dn;grind;have s:(b::r==[c])=false:=fw.2 (λe=>g (List.cons.inj e).1);rw[s];unfold dn;rw[Bool.and_eq_false_iff];refine .inr ?_;rw[List.all_eq_false];refine⟨0,List.mem_range.2 (Nat.succ_pos _), ?_⟩;grind
 have t:(fx.find? λm=>dn w j (dF m))=fx.find? λd=>dF d==[c]:=by
  have:∀l:List ah,(∀d∈l,dn w j (dF d)=(dF d==[c]))->(l.find? λm=>dn w j (dF m))=l.find? λd=>dF d==[c]:=by
   intro l
   induction l with
   |nil=>intro _;rfl
   |cons a l z=>
    grind
  grind
 rw[t];cases p:fx.find? (λd=>dF d==[c])with
 |none=>rw[p]at f;cases f
 |some y=>
  rw[p]at f;have:dF y=dF m:=Option.some.inj f;rw[aj1 this]
theorem Zx{c:Nat}{m:ah}(a:xt c m=true){aT:Nat->Nat}{g i j:Nat}{l b:Bool}{o:List a8}(d:cW w (w.size+1) i l=(-1,j,b))(f:j<w.size)(h:L w j=c):kh aT w (g+1) i l o=kh aT w g (j+1) false (o++[⟨5,m,0,j,b⟩]):=by
 have e:=ajG a f h;unfold xt at a;simp only[iP,Bool.not_eq_true']at a;obtain⟨q,r,s,t,u,v,x,y,z,-,-,A⟩:=a;rw[kh,d];dsimp only;have k:gn (L w j)=false:=by simp[*]
 have n:jg w j=false:=by unfold jg;simp[*]
 have p:(L w j==34||L w j==39)=false:=by simp[*]
 rw[Ez k n p,e];grind
theorem afB{c:Nat}{m:ah}(a:xt c m=true){f j:Nat}{l:Bool}(b:j<w.size)(h:L w j=c):cW w (f+1) j l=(-1,j,l):=by
 unfold xt at a;simp only[iP,Bool.not_eq_true']at a;obtain⟨d,e,g,i,-⟩:=a;have no:∀t:a_,dn w j (47::t)=false:=λt=>by
  cases hp:dn w j (47::t)with
  |false=>rfl
  |true=>
   exfalso;unfold dn at hp;rw[iP,List.all_eq_true]at hp;have:=hp.2 0 (List.mem_range.2 (Nat.succ_pos _));grind
 rw[cW,bp b,ake h (kK d) b];simp[*]
theorem Yf{c:Nat}{m:ah}(d:xt c m=true){j:Nat}{l:Bool}(b:j+1<w.size)(a:L w j=10)(h:L w (j+1)=c):cW w (w.size+1) j l=(-1,j+1,true):=by
 obtain⟨k,U⟩:∃k,w.size=k+1:=⟨w.size-1,O⟩;rw[cW,bp (show j<w.size by omega),Sy a O];show cW w w.size (j+1) true=_;have:=afB (w:=w) d (f:=k) (j:=j+1) (l:=true) b h;simp[*]
theorem aje{aT:Nat->Nat}{g:Nat}{l:Bool}{o:List a8}:kh aT w (g+1) w.size l o=(o,-1):=by
 rw[kh,cW,bF (Nat.lt_irrefl _)];simp[*]
theorem c8.aT(h:c8 s w d)(K:bD):∀i,i<s.size->jg s i=true->(d8 s i).2=true->iV K w (i+d)=iV K s i:=by
 intro i a b ok;unfold iV;have:=Z6 a b ok;rw[h.Z3 a,h.ext (Nat.le_of_lt a) this.2]
theorem ajf{aT:Nat->Nat}{s:ah}(h:(xj aT s).2<0):∃r,xj aT s=(r,-1):=by
 have:=(Zw h).1;grind
end
def ajX{d:Nat}{l:List a8}{i:Nat}{x:a8}(h:l[i]?=some x):(l.map (a8.mv d))[i]?=some (x.mv d):=by
 simp[*]
end
section
section
variable{α β:Type}{L:List a8}{ae:Int}{aO:Nat->ah}{wide:ah->ah}
end
end
def aih(n:Nat)(j:Nat):(oL n).count (j:Int)=if j<n then 1 else 0:=by
 unfold oL
 induction n with
 |zero=>rfl
 |succ n a=>
  rw[List.range_succ,List.map_append,List.count_append,a];show _+List.count (j:Int) [(n:Int)]=_;rw[List.count_singleton];have e:((n:Int)==(j:Int))=decide (n=j):=by{rw[Bool.eq_iff_iff,beq_iff_eq,decide_eq_true_iff];omega};rw[e];simp only[decide_eq_true_eq];split <;> split <;> split <;> omega
def anv{ae:Int}{t:ap}{k:Int}(h:bM ae t [k]):k=(t.a.length:Int)-1:=by
 have f:=h.gK (List.mem_singleton.2 rfl);have b:((t.a.length-1:Nat):Int)∈oL t.a.length:=by{unfold oL;exact List.mem_map.2 ⟨t.a.length-1,List.mem_range.2 O,rfl⟩};rcases List.mem_append.1 (h.rn.mem_iff.2 b)with a|a;obtain⟨d,c,U⟩:=List.mem_flatMap.1 a;obtain⟨i,e,rfl⟩:=List.getElem_of_mem c;have:=(h.b i _ (da e)).2 _ U;omega;rw[List.mem_singleton]at a;omega
section
def ajb(K:bD)(s:ah):(kg K s).2≠0:=by
 unfold kg;cases decide (s.size>8192);exact(show ¬(50:Int)=0 by decide);exact(show ¬(2:Int)=0 by decide)
section
variable{M:bD->bY->Nat->j ax}{K:bD}{s:ah}{n:Nat}
theorem SV(f:∀p t,M K (jH K s) n dE≠.stop p 0 t)(i:M K (jH K s) n dE≠.out)(h:(cf M K s n).2.2=0):
  ¬p0 K s/\∃t,M K (jH K s) n dE= .ok () t/\t.a.length<=4096/\mZ t.a=false/\cf M K s n=(t.a,0,0):=by
 by_cases d:p0 K s;rw[aar d]at h;exact absurd h (ajb K s);refine⟨d, ?_⟩;rw[L5 d]at h⊢;cases b:M K (jH K s) n dE with
 |out=>exact absurd b i
 |stop p e t=>
  rw[b]at h;subst h;exact absurd b (f p t)
 |ok a t=>
  rw[b]at h;dsimp only at h⊢;by_cases g:t.a.length>4096;rw[RE g]at h;exact absurd h (show ¬(4:Int)=0 by decide);cases c:mZ t.a with
  |true=>rw[RD c]at h;exact absurd h (show ¬(4:Int)=0 by decide)
  |false=>exact⟨t,rfl,O,c,by rw[KW g c]⟩
theorem amQ{t:ap}(b:¬p0 K s)(h:M K (jH K s) n dE= .ok () t)(c:t.a.length<=4096)(a:mZ t.a=false):cf M K s n=(t.a,0,0):=by
 rw[L5 b,h];dsimp only;rw[KW O a]
end
section
variable{L:List a8}{ae:Int}{aO:Nat->ah}{wide:ah->ah}{s t:ap}{f g:Nat}
theorem ag6(b:f<=g)(h:ps L ae aO wide f s≠.out):ps L ae aO wide g s=ps L ae aO wide f s:=by
 let k:aM->j ax:=λ_=>fd>>=λs=>bif decide (s.i<L.length) then ju L ae else ret ()
 have a:∀n,ps L ae aO wide n s=bP (P L ae aO wide n .bf) k s:=λ_=>rfl;rw[a]at h;rw[a,a];unfold bP at h⊢;rcases JF L ae aO wide b .bf s with e|e;rw[e]at h;exact absurd rfl h;rw[e]
theorem YN(s:ap)(p:Int)(t:ap)(c:s.i<=L.length:=by exact b7 _):ps L ae aO wide f s≠.stop p 0 t:=by
 intro e;have h:=Xo (L:=L) (ae:=ae) (aO:=aO) (wide:=wide) (f:=f) (tag:=.bf) c trivial p;have b:bP (P L ae aO wide f .bf) (λ_=>fd>>=λs=>bif decide (s.i<L.length) then ju L ae else ret ()) s= .stop p 0 t:=e;unfold bP at b;revert h b;cases P L ae aO wide f .bf s with
 |ok a u=>
  intro _ e;have e:(bif decide (u.i<L.length) then (ju L ae:j ax) else ret ()) u= .stop p 0 t:=e;revert e;cases decide (u.i<L.length) <;> (intro e;cases e)
 |stop q r u=>intro h e;cases e;exact h _ rfl
 |out=>intro _ e;cases e
theorem ag5{F:Nat}(h:∀G,F<=G->ps L ae aO wide G s= .ok () t)(a:ps L ae aO wide f s≠.out):ps L ae aO wide f s= .ok () t:=by
 rw[<-ag6 (Nat.le_max_right F f) a];exact h _ (Nat.le_max_left F f)
end
def anS{a c:List aR}(h:Gv a c):mZ c=mZ a:=by
 have key:∀(i:Nat)(b:aM),sj c i b=sj a i b:=by
  intro i
  induction i with
  |zero=>intro b;rfl
  |succ i g=>
   intro b;have e:(c[i]?).map (·.b)=(a[i]?).map (·.b):=by
    cases d:a[i]? with
    |some x=>
     obtain⟨y,f,-,-,-,U⟩:=h.get i x d;rw[f,Option.map_some,Option.map_some,U]
    |none=>
     have:=List.getElem?_eq_none_iff.1 d;rw[oH (by rw[h.len];exact this)]
   rw[sj,sj,g,e]
 unfold mZ;rw[key,h.len]
section
variable{K:bD}{s:ah}{k:Nat}
theorem ajg(h:¬p0 K s):(cA K s).2<0:=by
 have:¬0<=(cA K s).2:=λe=>h (.inr e);omega
end
end
section
variable{t:Bool}{d:aR}{ns:List aR}{pre sn:aM}{i n:Nat}{y:fT}{A B:Prop}
theorem Bo(h:t=true)(a:A):Br t A B:=by subst h;exact a
theorem Bn(h:t=false)(b:B):Br t A B:=by subst h;exact b
theorem aj7(k:y.ok ns){rb:Nat}(U:mi ns y.vs)(e:y.r.a=some ⟨rb,0,none⟩)(c:ns[i]?=some d):∃a n aq,y.vs[i]?=some (.slice a n aq)/\e6 1 (a7 d.b) a n/\n=d.b.length/\aH y.r.A ⟨rb,0+i*5+3,none⟩ (.slice a n aq)/\n<=aq:=by
 obtain⟨v,g,a,n,aq,rfl,f,h⟩:=KM U i d c;have j:n=d.b.length:=by{have:=f.len;unfold a7 at this;rw[List.length_map]at this;omega};refine⟨a,n,aq,g,f,j, ?_,h⟩;have b:=k.1.FY;rw[e]at b;have:=b.look (K6 ns y.vs i 3 d _ _ c g rfl);exact this
def qJ(n:Nat)(pre:aM)(sn:aM):Prop:=sn.length=n/\pre.length<=n/\∀j,j<n->sn.getD j 0=(pre.count (j:Int):Int)
theorem qJ.zero(n:Nat):qJ n [] (List.replicate n 0):=by
 refine⟨List.length_replicate ..,b7 _,λj a=>?_⟩;rw[eG,List.getElem?_replicate,if_pos a] <;> rfl
theorem qJ.step{k:Int}(h:qJ n pre sn)(b:0<=k)(U:k<n)(g:pre.length+1<=n):qJ n (pre++[k]) (sn.set k.toNat (sn.getD k.toNat 0+1)):=by
 obtain⟨c,i,a⟩:=h;refine⟨by rw[List.length_set];exact c,by rw[eH,zc];exact g,λj f=>?_⟩;rw[List.count_append,List.count_singleton];by_cases e:j=k.toNat;subst e;rw[eG,List.getElem?_set_self O];have d:=a k.toNat O;rw[Int.toNat_of_nonneg b]at d⊢;rw[if_pos X];show sn.getD k.toNat 0+1=_;omega;rw[eG,List.getElem?_set_ne O,<-eG,a j f];rw[if_neg (by simp;omega)];omega
theorem qJ.gK(h:qJ n pre sn){j:Nat}{m:Int}(b:sn[j]?=some m):0<=m/\m<=n/\m=(pre.count (j:Int):Int):=by
 have c:j<n:=by rw[<-h.1];exact(ic.1 b).1
 have:=h.2.2 j c;rw[eG,b]at this;have this:m=(pre.count (j:Int):Int):=this;have d:=List.count_le_length (a:=(j:Int)) (l:=pre);have:=h.2.1;omega
theorem WN(h:ns[i]?=some d):(ns.take (i+1)).flatMap (·.b)=(ns.take i).flatMap (·.b)++d.b:=by
 rw[List.take_add_one,h,List.flatMap_append];simp
theorem aoO(ns:List aR)(i:Nat):((ns.take i).flatMap (·.b)).length<=(ns.flatMap (·.b)).length:=by
 conv=>rhs;rw[<-List.take_append_drop i ns,List.flatMap_append,eH]
 omega
def BB(j:Nat):List LH:=[.ex j (.int .i64),.ex j .str,.ex j (.float .f64),.ex j .slice,.ex j (.int .i64)]
structure mj(ns:List aR)(a:bv)(F:ag):Prop where
 h:∀(i:Nat)(d:aR),ns[i]?=some d->∃rb k c,a=some ⟨rb,0,none⟩/\e6 1 (a7 d.b) k d.b.length/\e8 F k (a7 d.b)/\
  aH F ⟨rb,0+i*5+0,none⟩ (.int .i64 d.ak)/\aH F ⟨rb,0+i*5+1,none⟩ (.string d.op)/\aH F ⟨rb,0+i*5+2,none⟩ (.float .f64 d.aT)/\aH F ⟨rb,0+i*5+3,none⟩ (.slice k d.b.length c)/\aH F ⟨rb,0+i*5+4,none⟩ (.int .i64 d.au)/\d.b.length<=c
theorem mj.sub{a:bv}{A B:ag}(hs:Sub A B)(h:mj ns a A):mj ns a B:=⟨λi d p=>by
 obtain⟨rb,k,c,e,b,f,g,j,l,m,n,o⟩:=h.h i d p;exact⟨rb,k,c,e,b,f.sub hs,g.sub hs,j.sub hs,l.sub hs,m.sub hs,n.sub hs,o⟩⟩
theorem Hv{F:ag}(g:y.ok ns)(U:mi ns y.vs)(l:Sub y.r.A F)(s:Sub (gx ns y.vs) F):mj ns y.r.a F:=⟨λi d f=>by
 have B:=g.len;have A:=(ic.1 f).1;obtain⟨rb,h⟩:=g.1.KO O;obtain⟨a,n,c,w,r,t,x,m⟩:=aj7 g U h f;subst t;refine⟨rb,a,c,h,r, ?_,(Ev (j:=0) g h f λv=>rfl).sub l,(Ev (j:=1) g h f λv=>rfl).sub l,(Ev (j:=2) g h f λv=>rfl).sub l,x.sub l,(Ev (j:=4) g h f λv=>rfl).sub l,m⟩;intro z e j u q;subst e;unfold a7 at q;rw[fZ,Option.map_eq_some_iff]at q;obtain⟨k,p,rfl⟩:=q;obtain⟨b,o,e⟩:=r.some (by have:=(ic.1 p).1;omega);cases e;rw[oC];exact(Zq f w p).sub s⟩
end
section
def S(ns:List aR)(i:Nat):aR:=match ns[i]? with|some d=>⟨d.ak,d.op,d.aT,d.b,0⟩|none=>⟨0,.empty,0,[],0⟩
variable{ns:List aR}
theorem mY{i:Nat}{d:aR}(h:ns[i]?=some d):S ns i=⟨d.ak,d.op,d.aT,d.b,0⟩:=by unfold S;rw[h]
theorem afl{a:List aR}(h:Gv ns a):S a=S ns:=by
 funext i;unfold S;cases b:ns[i]? with
 |some x=>
  obtain⟨y,g,c,d,e,f⟩:=h.get i x b;simp[*]
 |none=>rw[oH (by rw[h.len];grind)]
def jL(k:Int):Bool:=bif decide (k>=1) then decide (k<=16) else false
def m6(n:Nat):Nat:=L ⟨#[48,49,50,51,52,53,54,55,56,57,97,98,99,100,101,102]⟩ n
def CM(u:Nat):a_:=bif (decide (32<=u)&&(decide (u<=126)&&(u !=34&&u !=92))) then [u] else [92,117,m6 (u/4096),m6 (u/256%16),m6 (u/16%16),m6 (u%16)]
def n7(w:ah):Nat->a_
 |0=>[34]
 |i+1=>n7 w i++CM (bW w i)
def IW(w:ah):ah:=cF (n7 w (w.size/2)++[34])
theorem am9(u:Nat):(CM u).length<=6:=by
 unfold CM;cases (decide (32<=u)&&(decide (u<=126)&&(u !=34&&u !=92))) <;> first|exact bK 6|exact Nat.le_add_left 1 5
theorem OL(w:ah):∀i,(n7 w i).length<=6*i+1
 |0=>bK _
 |i+1=>by
  have:=OL w i;have:=am9 (bW w i);rw[n7,eH];omega
def Jn(s p:ah):ah:=⟨(Lib.trimSuffix s.data.toList p.data.toList).toArray⟩
section
variable(tv:Nat->ah)(T:Nat->aR)(t:Nat->ah)
def kd(d:aR)(i:Nat):Nat:=(d.b.getD i 0).toNat
def lG(ks:aM):List ah:=ks.map λk=>t k.toNat
def ff(ks:aM)(a:ah):ah:=⟨(Lib.join ((lG t ks).map (·.data.toList)) a.data.toList).toArray⟩
def cX:ah:=⟨#[44,32]⟩
def B0(k:Int):Bool:=k==1||(k==2||(k==3||(k==4||(k==5||(k==8||(k==9||k==10))))))
def xw(s:ah):ah:=(⟨#[40]⟩++s)++⟨#[41]⟩
def di(i:Nat):ah:=bif B0 (T i).ak then t i else xw (t i)
def hZ(i:Nat):ah:=bif (T i).ak==1 then xw (t i) else di T t i
def mw(d:aR):ah:=((((⟨#[102,117,110,99,116,105,111,110,32]⟩++d.op)++⟨#[40]⟩)++ff t (d.b.take (d.b.length-1)) cX)++⟨#[41,32]⟩)++t (kd d (d.b.length-1))
def kl:aM->List ah
 |a::b::r=>((t a.toNat++⟨#[58,32]⟩)++t b.toNat)::kl r
 |_=>[]
def vw(l:List ah)(a:ah):ah:=⟨(Lib.join (l.map (·.data.toList)) a.data.toList).toArray⟩
def K7(d:aR):ah:=
 bif d.ak==1 then tv d.aT
 else bif d.ak==2 then IW d.op
 else bif d.ak==5 then (⟨#[91]⟩++ff t d.b cX)++⟨#[93]⟩
 else bif d.ak==6 then (⟨#[123]⟩++vw (kl t d.b) cX)++⟨#[125]⟩
 else bif d.ak==7 then Jn (mw t d) ⟨#[10]⟩
 else bif d.ak==8 then (hZ T t (kd d 0)++⟨#[46]⟩)++d.op
 else bif d.ak==9 then ((hZ T t (kd d 0)++⟨#[91]⟩)++t (kd d 1))++⟨#[93]⟩
 else bif d.ak==10 then ((hZ T t (kd d 0)++⟨#[40]⟩)++ff t (d.b.drop 1) cX)++⟨#[41]⟩
 else bif d.ak==11 then (bif d.op.toList==(⟨#[116,121,112,101,111,102]⟩:ah).toList||d.op.toList==(⟨#[100,101,108,101,116,101]⟩:ah).toList then (d.op++⟨#[32]⟩)++di T t (kd d 0) else d.op++di T t (kd d 0))
 else bif d.ak==12 then (bif cq .eql d.aT iI then d.op++di T t (kd d 0) else di T t (kd d 0)++d.op)
 else bif d.ak==13||d.ak==14 then (((di T t (kd d 0)++⟨#[32]⟩)++d.op)++⟨#[32]⟩)++di T t (kd d 1)
 else bif d.ak==16 then (((di T t (kd d 0)++⟨#[32]⟩)++d.op)++⟨#[32]⟩)++t (kd d 1)
 else bif d.ak==15 then (((di T t (kd d 0)++⟨#[32,63,32]⟩)++t (kd d 1))++⟨#[32,58,32]⟩)++t (kd d 2)
 else d.op
def AI:ah:=⟨#[118,97,114,32]⟩
def iw(i:Nat):ah:=
 bif (T i).ak==36 then ⟨#[]⟩
 else bif (T i).ak==21 then AI++ff t (T i).b cX
 else bif (T i).ak==20 then xw (t (kd (T i) 0))
 else t i
def iJ(i:Nat):ah:=bif (T i).ak==36 then ⟨#[]⟩ else t i
def FQ:ah:=⟨#[59,10]⟩
def Wh:ah:=⟨#[125,10]⟩
def FL:ah:=⟨#[41,32]⟩
def DX(ks:aM):ah:=ff t ks ⟨#[]⟩
def Pb(d:aR):ah:=
 let s:=⟨#[116,114,121,32]⟩++t (kd d 0)
 let s:=bif cq .neq d.aT uL then s++(((⟨#[99,97,116,99,104,32,40]⟩++d.op)++FL)++t (kd d 1)) else s
 bif cq .neq d.aT iI then s++(⟨#[102,105,110,97,108,108,121,32]⟩++t (kd d (d.b.length-1))) else s
def jm(d:aR):ah:=
 bif d.ak==28 then (bif (d.b.length:Int)==0 then ⟨#[114,101,116,117,114,110,59,10]⟩ else (⟨#[114,101,116,117,114,110,32]⟩++t (kd d 0))++FQ)
 else bif d.ak==31 then (⟨#[116,104,114,111,119,32]⟩++t (kd d 0))++FQ
 else bif d.ak==29 then ⟨#[98,114,101,97,107,59,10]⟩
 else bif d.ak==30 then ⟨#[99,111,110,116,105,110,117,101,59,10]⟩
 else bif d.ak==36 then FQ
 else bif d.ak==32 then Pb t d
 else bif d.ak==33 then (((⟨#[115,119,105,116,99,104,32,40]⟩++t (kd d 0))++⟨#[41,32,123,10]⟩)++DX t (d.b.drop 1))++Wh
 else bif d.ak==34 then (bif cq .eql d.aT iI||(d.b.length:Int)==0 then ⟨#[100,101,102,97,117,108,116,58,10]⟩++DX t d.b else ((⟨#[99,97,115,101,32]⟩++t (kd d 0))++⟨#[58,10]⟩)++DX t (d.b.drop 1))
 else bif d.ak==35 then mw t d
 else DX t d.b
def jV(d:aR):ah:=
 bif d.ak==20 then (bif iR (t (kd d 0)) ⟨#[123]⟩||iR (t (kd d 0)) ⟨#[102,117,110,99,116,105,111,110]⟩ then xw (t (kd d 0)) else t (kd d 0))++FQ
 else bif d.ak==21 then (AI++ff t d.b cX)++FQ
 else bif d.ak==22 then (bif (d.b.length:Int)==0 then d.op else (d.op++⟨#[32,61,32]⟩)++t (kd d 0))
 else bif d.ak==23 then (⟨#[123,10]⟩++DX t d.b)++Wh
 else bif d.ak==24 then (let s:=((⟨#[105,102,32,40]⟩++t (kd d 0))++FL)++t (kd d 1)
  bif (d.b.length:Int)==3 then s++(⟨#[101,108,115,101,32]⟩++t (kd d 2)) else s)
 else bif d.ak==25 then ((⟨#[119,104,105,108,101,32,40]⟩++t (kd d 0))++FL)++t (kd d 1)
 else bif d.ak==26 then ((((((⟨#[102,111,114,32,40]⟩++iw T t (kd d 0))++⟨#[59,32]⟩)++iJ T t (kd d 1))++⟨#[59,32]⟩)++iJ T t (kd d 2))++FL)++t (kd d 3)
 else bif d.ak==27 then (((((⟨#[102,111,114,32,40]⟩++(bif cq .eql d.aT iI then AI else ⟨#[]⟩))++d.op)++⟨#[32,105,110,32]⟩)++t (kd d 0))++FL)++t (kd d 1)
 else jm t d
def xu(d:aR):ah:=bif jL d.ak then K7 tv T t d else jV T t d
end
def aP(tv:Nat->ah)(T:Nat->aR):Nat->Nat->ah
 |0,_=>.empty
 |m+1,i=>xu tv T (aP tv T m) (T i)
def dx(k:Int)(l:aM):Bool:=l.foldr (λi b=>k==i||b) false
def sq(T:Nat->aR):aM->Bool
 |a::b::r=>(T a.toNat).ak==2&&sq T r
 | [a]=>(T a.toNat).ak==2
 | []=>true
def F4(d:aR):Bool:=(bif (d.b.length:Int)==2 then cq .eql d.aT iI||cq .eql d.aT uL else false)||(bif (d.b.length:Int)==3 then cq .eql d.aT wm else false)
def df(T:Nat->aR)(d:aR):Bool:=
 bif dx d.ak [1,2,3,4,29,30,36] then (d.b.length:Int)==0
 else bif dx d.ak [5,23,34,37] then true
 else bif d.ak==6 then (bif sq T d.b then ((d.b.length:Int).tmod 2)==0 else false)
 else bif dx d.ak [7,35,10,33,21] then decide ((d.b.length:Int)>=1)
 else bif dx d.ak [8,11,12,20,31] then (d.b.length:Int)==1
 else bif dx d.ak [9,13,14,16,25,27] then (d.b.length:Int)==2
 else bif d.ak==15 then (d.b.length:Int)==3
 else bif d.ak==26 then (d.b.length:Int)==4
 else bif dx d.ak [22,28] then decide ((d.b.length:Int)<=1)
 else bif d.ak==24 then (d.b.length:Int)==2||(d.b.length:Int)==3
 else bif d.ak==32 then F4 d
 else false
def ti(T:Nat->aR)(n:Nat):Bool:=(((T (n-1)).ak==37)||jL (T (n-1)).ak)&&(List.range n).all λi=>df T (T i)
end
structure Xc where
 n:Nat
def I6(x:Nat):Bool:=decide (i64.wrap (x:Int)<0)
abbrev CU:aF where
 X:=Xc
 args x:=[float f64 x.n]
 val x _:=al (H (I6 x.n))
def aoc(x:Xc)(F:ag)(a:CU.cond x)(b:CU.aE x F):l CU x F (al (H (decide (bR (x.n:Int)<0)))) [(0,F)]:=by
 delta H bR al;exact iy
def abc:aG 74 CU:=fo 7 func74 (λ_ _=>[(1,2,F)]) [(1,1,F)] dV dV gj [] aoc
structure Pw where
 a:Nat
 b:Nat
def zp(a b:Nat):Bool:=bif (bif cq .neq a a then true else cq .neq b b) then (bif cq .neq a a then cq .neq b b else false) else (bif cq .eql a b then (I6 a==I6 b) else false)
abbrev vB:aF where
 X:=Pw
 args x:=[float f64 x.a,float f64 x.b]
 val x _:=al (H (zp x.a x.b))
def Tf(x:Pw)(F:ag):=qL (aL f42 2 2) [float f64 x.a,float f64 x.a] (λb=>Br (cq BinOp.neq b.fst b.snd) (qL (aL f42 2 6) [float f64 x.b,float f64 x.b] (λa=>l vB x F (al (H (cq BinOp.neq a.fst a.snd))) [(0,F)])) (l vB x F cm [(0,F)]))
def QR:=fv 74 CU
def akv(x:Pw)(F:ag)(m:vB.cond x)(n:vB.aE x F):qL (aL f42 1 2) [float f64 x.a,float f64 x.a] (λg=>Br (cq BinOp.neq g.fst g.snd) (Tf x F) (qL (aL f42 1 6) [float f64 x.b,float f64 x.b] (λf=>Br (cq BinOp.neq f.fst f.snd) (Tf x F) (ml (aL f42 3 2) [float f64 x.a,float f64 x.b] (λe=>Br (cq BinOp.eql e.fst e.snd) (QR [float f64 x.a] (λd c=>QR [float f64 x.b] (λb a=>l vB x F (al (H (I6 d.n==I6 b.n))) [(0,F)]))) (l vB x F cm [(0,F)])))))):=by
 delta oZ qL cM cm Tf ml QR fv H al;have ae:∀v,zp x.a x.b=v->l vB x F (returned (bool v)) [(0,F)]:=λv e=>⟨(),ai,by rw[<-e] <;> rfl,ao [0]⟩;refine⟨ia (.inr (.inr (.inr rfl))) rfl,(x.a,x.a),rfl,ai,ar (λi=>⟨ia (.inr (.inr (.inr rfl))) rfl,(x.a,x.a),rfl,ai,ar (λ_=>⟨ia (.inr (.inr (.inr rfl))) rfl,(x.b,x.b),rfl,ai,ae _ ?_⟩) (λh=>absurd (i.symm.trans h) (by decide))⟩) (λi=>⟨ia (.inr (.inr (.inr rfl))) rfl,(x.b,x.b),rfl,ai,ar (λj=>⟨ia (.inr (.inr (.inr rfl))) rfl,(x.a,x.a),rfl,ai,ar (λh=>absurd (h.symm.trans i) (by decide)) (λ_=>ae _ ?_)⟩) (λj=>⟨ia (.inl rfl) rfl,(x.a,x.b),rfl,ai,ar (λk=>kH abc ⟨x.a⟩ λ_ _=>kH abc ⟨x.b⟩ λ_ _=>ae _ ?_) (λk=>ae _ ?_)⟩)⟩)⟩;unfold zp;simp[*];unfold zp;simp[*];unfold zp;simp[*];unfold zp;simp[*]
def aku:aG 42 vB:=cY func42 [(1,2,.qo (iO .neq)),(1,6,.qo (iO .neq)),(2,2,.qo (iO .neq)),(2,6,.qo (iO .neq)),(3,2,.qo (iO .eql)),(3,5,aI CU),(3,7,aI CU)] akv
structure JB where
 ks:aM
 ms:aM
 a:bv
 ca:Nat
 b:bv
 A:Nat
abbrev w6:aF where
 X:=JB
 args x:=[Q x.a x.ks.length x.ca,Q x.b x.ms.length x.A]
 cond x:=e6 1 (a7 x.ks) x.a x.ks.length/\e6 1 (a7 x.ms) x.b x.ms.length/\x.ks.length<=1048576
 aE x F:=e8 F x.a (a7 x.ks)/\e8 F x.b (a7 x.ms)
 val x _:=al (H (x.ks==x.ms))
def agQ(x:JB)(F:ag):Nat->Option Inv:=fun
 |0=>some {X:=Nat,P:=λi=>i<=x.ks.length/\x.ks.length=x.ms.length/\∀j,j<i->x.ks[j]?=x.ms[j]?,mu:=λi=>x.ks.length-i,lv:=λi=>[(0,Q x.a x.ks.length x.ca),(1,Q x.b x.ms.length x.A),(12,Z x.ks.length),(13,Z i)],st:=λ_=>[F]}
 |_=>none
def Nl(b:Nat)(x:JB):=b<=x.ks.length/\x.ks.length=x.ms.length/\∀(a:Nat),a<b->x.ks[a]?=x.ms[a]?
def agS(x:JB)(F:ag)(B:w6.cond x)(G:w6.aE x F):Br ((x.ks.length:Int)!=(x.ms.length:Int)) (l w6 x F cm [(0,F)]) ((∃(b:Nat),Nl b x/\(Q x.a x.ks.length x.ca=Q x.a x.ks.length x.ca/\Q x.b x.ms.length x.A=Q x.b x.ms.length x.A/\Z ↑x.ks.length=Z ↑x.ks.length/\Z 0=Z ↑b/\True)/\ay [(0,F)] [(0,F)])/\aQ λ(h:Nat)_=>Nl h x->aK ((h:Int)<(x.ks.length:Int)) (true=true/\b9 (aL f43 6 2) [Q x.a x.ks.length x.ca,Z ↑h] (λf=>T1 F ⟨f.b,f.o+f.n.toNat*1,none⟩ (λe=>b9 (aL f43 6 6) [Q x.b x.ms.length x.A,Z ↑h] (λd=>T1 F ⟨d.b,d.o+d.n.toNat*1,none⟩ (λc=>Br (e !=c) (l w6 x F cm [(0,F)]) (aA ((h:Int)+(1:Int))/\∃(b:Nat),Nl b x/\(Q x.a x.ks.length x.ca=Q x.a x.ks.length x.ca/\Q x.b x.ms.length x.A=Q x.b x.ms.length x.A/\Z ↑x.ks.length=Z ↑x.ks.length/\Z ((h:Int)+(1:Int))=Z ↑b/\True)/\ay [(0,F)] [(0,F)]/\x.ks.length-b<x.ks.length-h)))))) (l w6 x F gc [(0,F)])):=by
 delta cM cm Nl b9 T1 gc aA Z H Q aK al aQ;obtain⟨g,n,a,ca,b,o⟩:=x;obtain⟨p,r,A⟩:=B;obtain⟨u,w⟩:=G;dsimp only at p r A u w⊢;have ae:∀v,(g==n)=v->l w6 ⟨g,n,a,ca,b,o⟩ F (returned (bool v)) [(0,F)]:=λv e=>⟨(),ai,by rw[<-e] <;> rfl,ao [0]⟩;have no:∀i:Nat,g[i]?≠n[i]?->(g==n)=false:=λi h=>fw.2 λe=>h (by rw[e]);refine ar (λh=>ae _ (fw.2 λe=>by grind)) (λh=>?_);have t:g.length=n.length:=by grind
 refine⟨⟨0,⟨b7 _,t,λj s=>absurd s (Nat.not_lt_zero _)⟩,aU,ay.refl _⟩, ?_⟩;rintro i M ⟨L,-,K⟩;refine bd (λD=>?_) (λC=>ae _ (beq_iff_eq.2 (List.ext_getElem? λj=>?_)));obtain⟨k,U⟩:∃k,g[i]?=some k:=⟨_,da O⟩;obtain⟨m,E⟩:∃m,n[i]?=some m:=⟨_,da O⟩;obtain⟨y,I,rfl⟩:=p.some O;obtain⟨z,J,rfl⟩:=r.some O;refine⟨rfl,bZ 1 rfl rfl rfl rfl,⟨y,I,g.length,ca,i⟩,rfl,⟨by simp[*],O⟩,k, ?_,bZ 1 rfl rfl rfl rfl,⟨z,J,n.length,o,i⟩,rfl,⟨by simp[*],by grind⟩,m, ?_,ar (λq=>ae _ (no i (by grind))) (λq=>⟨aC,i+1,⟨O,t,λj s=>?_⟩,aU,ay.refl _,O⟩)⟩;have:=u.look (p8 U);simp[*];have:=w.look (p8 E);simp[*];grind;grind
def agR:aG 43 w6:=mt func43 (λ_ _=>[(6,2,.qo (dy 1)),(6,3,cD),(6,6,.qo (dy 1)),(6,7,cD)]) agQ agS
def s_(d e:aR):Bool:=bif (bif (bif d.ak==e.ak then d.op.toList==e.op.toList else false) then zp d.aT e.aT else false) then d.b==e.b else false
structure PL where
 d:aR
 e:aR
 a:bv
 ca:Nat
 b:bv
 A:Nat
abbrev wd:aF where
 X:=PL
 args x:=[.agg #[.int .i64 x.d.ak,.string x.d.op,.float .f64 x.d.aT,.slice x.a x.d.b.length x.ca,.int .i64 x.d.au],.agg #[.int .i64 x.e.ak,.string x.e.op,.float .f64 x.e.aT,.slice x.b x.e.b.length x.A,.int .i64 x.e.au]]
 cond x:=e6 1 (a7 x.d.b) x.a x.d.b.length/\e6 1 (a7 x.e.b) x.b x.e.b.length/\x.d.b.length<=1048576
 aE x F:=e8 F x.a (a7 x.d.b)/\e8 F x.b (a7 x.e.b)
 val x _:=al (H (s_ x.d x.e))
abbrev Fc(F:ag)(f:Nat)(x:PL)(e:Nat):=[(0,F),(10,D f [Z x.d.ak,C x.d.op,float f64 x.d.aT,Q x.a x.d.b.length x.ca,Z x.d.au] 35),(20,D e [Z x.e.ak,C x.e.op,float f64 x.e.aT,Q x.b x.e.b.length x.A,Z x.e.au] 35)]
def anY(x:PL)(F:ag)(n:wd.cond x)(o:wd.aE x F):∀(f e:Nat),V f 0/\V e 0/\Br (x.d.ak==x.e.ak) (V f 1/\V e 1/\Br (x.d.op.toList==x.e.op.toList) (V f 2/\V e 2/\fv 42 vB [float f64 x.d.aT,float f64 x.e.aT] (λd c=>Br (zp d.a d.b) (V f 3/\V e 3/\bz 43 w6 (λb=>e6 1 (a7 b.ks) b.a b.ks.length/\e6 1 (a7 b.ms) b.b b.ms.length/\b.ks.length<=1048576) (λb i=>e8 i b.a (a7 b.ks)/\e8 i b.b (a7 b.ms)) [Q x.a x.d.b.length x.ca,Q x.b x.e.b.length x.A] (g (Fc F f x e) []) (λb a=>l wd x F (al (H (b.ks==b.ms))) (Fc F f x e))) (l wd x F cm (Fc F f x e)))) (l wd x F cm (Fc F f x e))) (l wd x F cm (Fc F f x e)):=by
 delta Fc cM cm g V fv bz Z C H Q D al;obtain⟨d,e,a,ca,b,h⟩:=x;obtain⟨j,k,m⟩:=n;obtain⟨r,s⟩:=o;intro p q;have ae:∀v,s_ d e=v->l wd ⟨d,e,a,ca,b,h⟩ F (returned (bool v)) [(0,F),(10,ag.cells p [int i64 d.ak,string d.op,float f64 d.aT,slice a d.b.length ca,int i64 d.au] 35),(20,ag.cells q [int i64 e.ak,string e.op,float f64 e.aT,slice b e.b.length h,int i64 e.au] 35)]:=λv e=>⟨(),ai,by rw[<-e] <;> rfl,ao [0]⟩;refine⟨Y,Y,ar (λq1=>⟨Y,Y,ar (λq2=>⟨Y,Y,aku,rfl,⟨d.aT,e.aT⟩,rfl,rfl,ai,ai,λ_ _=>ar (λq3=>⟨Y,Y,agR,rfl,⟨d.b,e.b,a,ca,b,h⟩,rfl,rfl,⟨j,k,m⟩,⟨r.sub (bB 0),s.sub (bB 0)⟩,λ_ _=>ae _ ?_⟩) (λq3=>ae _ ?_)⟩) (λq2=>ae _ ?_)⟩) (λq1=>ae _ ?_)⟩;unfold s_;simp[*];unfold s_;simp[*];unfold s_;simp[*];unfold s_;simp[*]
def anX:aG 41 wd:=cY func41 [(0,0,.n 10),(0,1,.n 20),(1,1,z 10),(1,3,z 20),(1,7,z 10),(1,9,z 20),(1,14,z 10),(1,16,z 20),(1,17,aI vB),(1,21,z 10),(1,23,z 20),(1,24,aI w6)] anY
def uF(a b:List aR):Bool:=a.length==b.length&&(List.range a.length).all λi=>s_ (S a i) (S b i)
structure Bg where
 ns:List aR
 ms:List aR
 a:bv
 ca:Nat
 b:bv
 A:Nat
abbrev w4:aF where
 X:=Bg
 args x:=[.slice x.a x.ns.length x.ca,.slice x.b x.ms.length x.A,.func (.func 41) #[] #[]]
 cond x:=x.ns.length<=1048576/\∀d∈x.ns,d.b.length<=1048576
 aE x F:=mj x.ns x.a F/\mj x.ms x.b F
 val x _:=al (H (uF x.ns x.ms))
def agI(x:Bg)(F:ag):Nat->Option Inv:=fun
 |0=>some {X:=Nat,P:=λi=>i<=x.ns.length/\x.ns.length=x.ms.length/\∀j,j<i->s_ (S x.ns j) (S x.ms j)=true,mu:=λi=>x.ns.length-i,lv:=λi=>[(0,.slice x.a x.ns.length x.ca),(1,.slice x.b x.ms.length x.A),(2,.func (.func 41) #[] #[]),(15,.slice x.a x.ns.length x.ca),(16,.int .i64 x.ns.length),(17,.int .i64 i)],st:=λ_=>[F]}
 |_=>none
def qR(j:Nat):List LH:=[.aS j,.aS j,.aS j,.aS j,.aS j]
def M3(b:Nat)(x:Bg):=b<=x.ns.length/\x.ns.length=x.ms.length/\∀(a:Nat),a<b->s_ (S x.ns a) (S x.ms a)=true
abbrev lY(u:Int)(t:ah)(s:Nat)(r:bv)(q p:Nat)(o:Int):aN:=[Z u,C t,float f64 s,Q r q p,Z o]
def agK(x:Bg)(F:ag)(hc:w4.cond x)(hr:w4.aE x F):Br ((x.ns.length:Int)!=(x.ms.length:Int)) (l w4 x F cm [(0,F)]) ((∃(b:Nat),M3 b x/\(Q x.a x.ns.length x.ca=Q x.a x.ns.length x.ca/\Q x.b x.ms.length x.A=Q x.b x.ms.length x.A/\func (Fn.func 41) ⟨[]⟩ ⟨[]⟩=func (Fn.func 41) ⟨[]⟩ ⟨[]⟩/\Q x.a x.ns.length x.ca=Q x.a x.ns.length x.ca/\Z ↑x.ns.length=Z ↑x.ns.length/\Z 0=Z ↑b/\True)/\ay [(0,F)] [(0,F)])/\aQ λ(y:Nat)_=>M3 y x->aK ((y:Int)<(x.ns.length:Int)) (fV (aL f40 5 1) [Q x.a x.ns.length x.ca,Z ↑y] (λv=>T1 F ⟨v.b,v.o+v.n.toNat*5,none⟩ (λu=>T2 F ⟨v.b,v.o+v.n.toNat*5+1,none⟩ (λt=>lO F ⟨v.b,v.o+v.n.toNat*5+2,none⟩ (λs=>dN F ⟨v.b,v.o+v.n.toNat*5+3,none⟩ (λr q p=>T1 F ⟨v.b,v.o+v.n.toNat*5+4,none⟩ (λo=>∀(n:Nat),bQ n (fV (aL f40 6 2) [Q x.b x.ms.length x.A,Z ↑y] (λm=>T1 F ⟨m.b,m.o+m.n.toNat*5,none⟩ (λw=>T2 F ⟨m.b,m.o+m.n.toNat*5+1,none⟩ (λk=>lO F ⟨m.b,m.o+m.n.toNat*5+2,none⟩ (λj=>dN F ⟨m.b,m.o+m.n.toNat*5+3,none⟩ (λi h z=>T1 F ⟨m.b,m.o+m.n.toNat*5+4,none⟩ (λf=>∀(e:Nat),bQ e (bQ n (bQ e (bz 41 wd (λd=>e6 1 (a7 d.d.b) d.a d.d.b.length/\e6 1 (a7 d.e.b) d.b d.e.b.length/\d.d.b.length<=1048576) (λd V=>e8 V d.a (a7 d.d.b)/\e8 V d.b (a7 d.e.b)) [agg ⟨lY u t s r q p o⟩,agg ⟨lY w k j i h z f⟩] (g [(0,F),(6030,D n (lY u t s r q p o) 35),(7040,D e (lY w k j i h z f) 35)] []) (λd c=>Br (!s_ d.d d.e) (l w4 x F cm [(0,F),(6030,D n (lY u t s r q p o) 35),(7040,D e (lY w k j i h z f) 35)]) (aA ((y:Int)+(1:Int))/\∃(b:Nat),M3 b x/\(Q x.a x.ns.length x.ca=Q x.a x.ns.length x.ca/\Q x.b x.ms.length x.A=Q x.b x.ms.length x.A/\func (Fn.func 41) ⟨[]⟩ ⟨[]⟩=func (Fn.func 41) ⟨[]⟩ ⟨[]⟩/\Q x.a x.ns.length x.ca=Q x.a x.ns.length x.ca/\Z ↑x.ns.length=Z ↑x.ns.length/\Z ((y:Int)+(1:Int))=Z ↑b/\True)/\ay [(0,F),(6030,D n (lY u t s r q p o) 35),(7040,D e (lY w k j i h z f) 35)] [(0,F)]/\x.ns.length-b<x.ns.length-y))))))))))))))))))) (l w4 x F gc [(0,F)])):=by
 delta cM cm M3 fV T1 T2 lO dN lY gc g aA bQ bz Z C H Q D aK al aQ;obtain⟨B,A,a,ca,b,J⟩:=x;obtain⟨h1,K⟩:=hc;obtain⟨T,U⟩:=hr;dsimp only at h1 K T U⊢;have val:∀v,uF B A=v->returned (bool v)=w4.val ⟨B,A,a,ca,b,J⟩ ():=λv e=>by rw[<-e] <;> rfl
 refine ar (λh=>⟨(),ai,val _ ?_,ao [0]⟩) (λh=>?_);unfold uF;grind;have N:B.length=A.length:=by grind
 refine⟨⟨0,⟨b7 _,N,λj M=>absurd M (Nat.not_lt_zero _)⟩,aU,ay.refl _⟩, ?_⟩;rintro i js ⟨hi,-,hE⟩;refine bd (λx1=>?_) (λx0=>⟨(),ai,val _ ?_,ao [0]⟩);obtain⟨d,E⟩:∃k,B[i]?=some k:=⟨_,da O⟩;obtain⟨e,L⟩:∃m,A[i]?=some m:=⟨_,da O⟩;obtain⟨W,P,G,e1,s1,t1,u0,u1,u2,u3,u4,-⟩:=T.h i d E;obtain⟨X,R,I,e2,s2,t2,v0,v1,v2,v3,v4,-⟩:=U.h i e L;have h6:=K d (iz E);have hs:s_ d e=s_ (S B i) (S A i):=by rw[mY E,mY L] <;> rfl
 refine⟨bZ 5 rfl rfl rfl rfl,⟨W,0,B.length,ca,i⟩,by rw[e1],⟨by simp[*],O⟩,d.ak,u0,d.op,u1,d.aT,u2,P,_,G,u3,d.au,u4,λp=>⟨Y,Y,Y,Y,Y,bZ 5 rfl rfl rfl rfl,⟨X,0,A.length,J,i⟩,by rw[e2],⟨by simp[*],by grind⟩,e.ak,v0,e.op,v1,e.aT,v2,R,_,I,v3,e.au,v4,λq=>⟨Y,Y,Y,Y,Y,Y,Y,Y,Y,Y,Y,Y,Y,Y,Y,anX,rfl,⟨d,e,P,G,R,I⟩,rfl,rfl,⟨s1,s2,h6⟩,⟨t1.sub (bB 0),t2.sub (bB 0)⟩,λ_ _=>ar (λz=>⟨(),ai,val _ ?_,ao [0]⟩) (λz=>⟨aC,i+1,⟨O,N,λj M=>?_⟩,aU,ao [0],O⟩)⟩⟩⟩;unfold uF;grind;grind;unfold uF;grind
def agJ:aG 40 w4:=mt func40 (λ_ _=>[(5,1,.qo (dy 5)),(5,2,.q (BB 0)),(5,3,.n 6030),(5,5,.w (qR 6030)),(6,2,.qo (dy 5)),(6,3,.q (BB 0)),(6,4,.n 7040),(6,5,.w (qR 7040)),(7,1,.q (qR 6030)),(7,2,.q (qR 7040)),(7,3,aI wd)]) agI agK
abbrev FX:aF where
 X:=Bg
 args x:=[.agg #[.slice x.a x.ns.length x.ca],.agg #[.slice x.b x.ms.length x.A]]
 cond x:=x.ns.length<=1048576/\∀d∈x.ns,d.b.length<=1048576
 aE x F:=mj x.ns x.a F/\mj x.ms x.b F
 val x _:=al (H (uF x.ns x.ms))
abbrev VS(F:ag)(d:Nat)(x:Bg)(c:Nat):=[(0,F),(10,D d [Q x.a x.ns.length x.ca] 25),(20,D c [Q x.b x.ms.length x.A] 25)]
def aou(x:Bg)(F:ag)(h:FX.cond x)(i:FX.aE x F):∀(d c:Nat),V d 0/\V c 0/\bz 40 w4 (λb=>(b.ns.length<=1048576/\∀(a:aR),a∈b.ns->a.b.length<=1048576)) (λb e=>mj b.ns b.a e/\mj b.ms b.b e) [Q x.a x.ns.length x.ca,Q x.b x.ms.length x.A,func (Fn.func 41) ⟨[]⟩ ⟨[]⟩] (g (VS F d x c) []) (λb a=>l FX x F (al (H (uF b.ns b.ms))) (VS F d x c)):=by
 delta VS g V bz H Q D al;obtain⟨k,j,a,ca,b,f⟩:=x;obtain⟨m,n⟩:=i;intro p q;exact⟨Y,Y,agJ,rfl,⟨k,j,a,ca,b,f⟩,rfl,rfl,h,⟨m.sub (bB 0),n.sub (bB 0)⟩,λ_ _=>iy⟩
def aot:aG 15 FX:=cY func15 [(0,0,.n 10),(0,1,.n 20),(1,1,z 10),(1,3,z 20),(1,4,aI w4)] aou
structure nH(ns:List aR):Prop where
 one:1<=ns.length
 He:ns.length<=4096
 rn:(ns.flatMap (·.b)++[((ns.length-1:Nat):Int)]).Perm (oL ns.length)
 b:∀(i:Nat)(d:aR),ns[i]?=some d->d.b.Pairwise (·<·)/\∀k∈d.b,k<(i:Int)
def nH.gK{b:List aR}(h:nH b){i:Nat}{d:aR}(a:b[i]?=some d):∀k∈d.b,0<=k/\k<(i:Int):=λk U=>
 ⟨(Sg (h.rn.mem_iff.1 (ra _ (List.mem_flatMap.2 ⟨d,iz a,U⟩)))).1,(h.b i d a).2 k U⟩
def nH.Yu{a:List aR}(h:nH a){j:Nat}(c:j+1<a.length):(a.flatMap (·.b)).count (j:Int)=1:=by
 have b:=h.rn.count_eq (j:Int);rw[List.count_append,aih,if_pos O,List.count_singleton,if_neg (by simp;omega)]at b;exact b
def nH.len{a:List aR}(h:nH a):(a.flatMap (·.b)).length+1=a.length:=by
 have:=h.rn.length_eq;unfold oL at this;grind
def nH.Hf{a:List aR}(h:nH a){d:aR}(b:d∈a):d.b.length<=4096:=by
 have c:=h.len;have e:=h.He;have:d.b.length<=(a.flatMap (·.b)).length:=by{exact(List.sublist_flatten_of_mem (List.mem_map.2 ⟨d,b,rfl⟩)).length_le};omega
def Jy(k:Int)(A:Bool->Prop):aM->Prop
 | []=>A false
 | [i]=>A (k==i)
 |i::j::r=>Br (k==i) (A (k==i)) (Jy k A (j::r))
def RC{k:Int}{A:Bool->Prop}:∀l:aM,A (dx k l)->Jy k A l
 | [],h=>h
 | [i],h=>by
  have e:dx k [i]=(k==i):=Bool.or_false _;rw[e]at h;exact h
 |i::j::r,h=>by
  have e:dx k (i::j::r)=((k==i)||dx k (j::r)):=rfl;rw[e]at h;show Br (k==i) (A (k==i)) (Jy k A (j::r));cases U:k==i with
  |true=>rw[U]at h;exact h
  |false=>rw[U]at h;exact RC (j::r) h
structure Pt where
 d:aR
 k:bv
 c:Nat
abbrev ww:aF where
 X:=Pt
 args x:=[.agg #[.int .i64 x.d.ak,.string x.d.op,.float .f64 x.d.aT,.slice x.k x.d.b.length x.c,.int .i64 x.d.au]]
 val x _:=al (H (jL x.d.ak))
abbrev UL(x:Pt):aN:=[Z x.d.ak,C x.d.op,float f64 x.d.aT,Q x.k x.d.b.length x.c,Z x.d.au]
def apY(x:Pt)(F:ag)(c:ww.cond x)(d:ww.aE x F):∀(a:Nat),V a 0/\aK (x.d.ak>=1) (V a 0/\l ww x F (al (H (decide (x.d.ak<=16)))) [(0,F),(10,D a (UL x) 35)]) (l ww x F cm [(0,F),(10,D a (UL x) 35)]):=by
 delta UL cM cm V Z C H Q D aK al;intro b;have ae:∀v,jL x.d.ak=v->l ww x F (returned (bool v)) [(0,F),(10,ag.cells b [int i64 x.d.ak,string x.d.op,float f64 x.d.aT,slice x.k x.d.b.length x.c,int i64 x.d.au] 35)]:=λv e=>⟨(),ai,by rw[<-e] <;> rfl,ao [0]⟩;exact⟨Y,ar (λh=>⟨Y,ae _ (by unfold jL;simp[*])⟩) (λh=>ae _ (by unfold jL;simp[*]))⟩
def WW:aG 14 ww:=cY func14 [(0,0,.n 10),(1,1,z 10),(1,5,z 10)] apY
structure mh where
 ns:List aR
 a:bv
 ca:Nat
 d:aR
 k:bv
 c:Nat
abbrev ke:aF where
 X:=mh
 args x:=[.agg #[.slice x.a x.ns.length x.ca],.agg #[.int .i64 x.d.ak,.string x.d.op,.float .f64 x.d.aT,.slice x.k x.d.b.length x.c,.int .i64 x.d.au]]
 cond x:=e6 1 (a7 x.d.b) x.k x.d.b.length/\x.d.b.length<=4096/\∀k∈x.d.b,0<=k/\k<x.ns.length
 aE x F:=mj x.ns x.a F/\e8 F x.k (a7 x.d.b)
 val x _:=al (H (df (S x.ns) x.d))
structure jp where
 i:Nat
 p:Nat
 q:Nat
abbrev sT(s:jp):bv:=some ⟨s.p,0,none⟩
abbrev sU(s:jp):bv:=some ⟨s.q,0,none⟩
abbrev M2(x:mh):aN:=[Z x.d.ak,C x.d.op,float f64 x.d.aT,Q x.k x.d.b.length x.c,Z x.d.au]
abbrev jS(s:jp):=W (sT s)
abbrev jT(s:jp):=W (sU s)
def aiM(x:mh)(F:ag):Nat->Option Inv:=fun
 |1=>some {X:=jp,P:=λs=>s.i<=x.d.b.length+1/\sq (S x.ns) x.d.b=sq (S x.ns) (x.d.b.drop s.i),mu:=λs=>x.d.b.length+1-s.i,lv:=λs=>[(2,jS s),(3,jT s),(5,Z x.d.b.length),(6,Z s.i)],st:=λs=>[F,D s.p [Q x.a x.ns.length x.ca] 25,D s.q (M2 x) 35]}
 |_=>none
def oN(k:Int):List (aM)->Prop
 | []=>True
 |l::r=>dx k l=false/\oN k r
def Ej(x:mh)(F:ag)(a:Nat)(l:aM)(ls:List (aM)):Option Inv:=some {X:=jp,P:=λ_=>oN x.d.ak ls,mu:=λ_=>0,lv:=λs=>[(2,.pointer (some ⟨s.p,0,none⟩)),(3,.pointer (some ⟨s.q,0,none⟩)),(5,.int .i64 x.d.b.length),(11,.int .i64 x.d.ak),(a,.bool (dx x.d.ak l))],st:=λs=>[F,.cells s.p [.slice x.a x.ns.length x.ca] 25,.cells s.q [.int .i64 x.d.ak,.string x.d.op,.float .f64 x.d.aT,.slice x.k x.d.b.length x.c,.int .i64 x.d.au] 35]}
def Ho(x:mh)(F:ag)(i j p q:Nat):St:=[(0,F),(i,ag.cells p [slice x.a x.ns.length x.ca] 25),(j,ag.cells q [int i64 x.d.ak,string x.d.op,float f64 x.d.aT,slice x.k x.d.b.length x.c,int i64 x.d.au] 35)]
def kdA(x:mh)(F:ag)(i j p q:Nat)(l:aM)(ls:List (aM))(b:Bool):Prop:=∃s:jp,oN x.d.ak ls/\(pointer (some ⟨p,0,none⟩)=pointer (some ⟨s.p,0,none⟩)/\pointer (some ⟨q,0,none⟩)=pointer (some ⟨s.q,0,none⟩)/\int .i64 x.d.b.length=int .i64 x.d.b.length/\int .i64 x.d.ak=int .i64 x.d.ak/\bool b=bool (dx x.d.ak l)/\True)/\ay (Ho x F i j p q) (Ho x F 1 2 s.p s.q)
def Ei(x:mh)(F:ag)(i j p q:Nat)(l:aM){ls:List (aM)}(a:oN x.d.ak ls)(b:ay (Ho x F i j p q) (Ho x F 1 2 p q)):Jy x.d.ak (kdA x F i j p q l ls) l:=RC l ⟨⟨0,p,q⟩,a,aU,b⟩
def aiL(x:mh)(F:ag):Nat->Option Inv:=fun
 |10=>Ej x F 12 [1,2,3,4,29,30,36] []
 |15=>Ej x F 22 [5,23,34,37] [[1,2,3,4,29,30,36]]
 |28=>Ej x F 48 [7,35,10,33,21] [[1,2,3,4,29,30,36],[5,23,34,37],[6]]
 |34=>Ej x F 56 [8,11,12,20,31] [[1,2,3,4,29,30,36],[5,23,34,37],[6],[7,35,10,33,21]]
 |41=>Ej x F 64 [9,13,14,16,25,27] [[1,2,3,4,29,30,36],[5,23,34,37],[6],[7,35,10,33,21],[8,11,12,20,31]]
 |48=>Ej x F 81 [22,28] [[1,2,3,4,29,30,36],[5,23,34,37],[6],[7,35,10,33,21],[8,11,12,20,31],[9,13,14,16,25,27],[15],[26]]
 |_=>none
abbrev q3(e1:ag)(z:jp)(a:mh):=[(0,e1),(1,D z.p [Q a.a a.ns.length a.ca] 25),(2,D z.q (M2 a) 35)]
def yN(a:mh)(e1:ag)(c d e:aD)(b:St):=∃(z:jp),oN a.d.ak []/\(c=W (sT z)/\d=W (sU z)/\Z ↑a.d.b.length=Z ↑a.d.b.length/\Z a.d.ak=Z a.d.ak/\e=H (dx a.d.ak [(1:Int),(2:Int),(3:Int),(4:Int),(29:Int),(30:Int),(36:Int)])/\True)/\ay b (q3 e1 z a)
abbrev zN(F:ag)(q:Nat)(x:mh)(p:Nat):=[(0,F),(10,D q [Q x.a x.ns.length x.ca] 25),(20,D p (M2 x) 35)]
def GG(a:mh)(e1:ag)(c d e:aD)(b:St):=∃(z:jp),oN a.d.ak [[(1:Int),(2:Int),(3:Int),(4:Int),(29:Int),(30:Int),(36:Int)]]/\(c=W (sT z)/\d=W (sU z)/\Z ↑a.d.b.length=Z ↑a.d.b.length/\Z a.d.ak=Z a.d.ak/\e=H (dx a.d.ak [(5:Int),(23:Int),(34:Int),(37:Int)])/\True)/\ay b (q3 e1 z a)
def Nb(a:jp)(x:mh):=a.i<=x.d.b.length+1/\sq (S x.ns) x.d.b=sq (S x.ns) (List.drop a.i x.d.b)
def DD(a:mh)(e1:ag)(c d e:aD)(b:St):=∃(z:jp),oN a.d.ak [[(1:Int),(2:Int),(3:Int),(4:Int),(29:Int),(30:Int),(36:Int)],[(5:Int),(23:Int),(34:Int),(37:Int)],[(6:Int)]]/\(c=W (sT z)/\d=W (sU z)/\Z ↑a.d.b.length=Z ↑a.d.b.length/\Z a.d.ak=Z a.d.ak/\e=H (dx a.d.ak [(7:Int),(35:Int),(10:Int),(33:Int),(21:Int)])/\True)/\ay b (q3 e1 z a)
def DE(a:mh)(e1:ag)(c d e:aD)(b:St):=∃(z:jp),oN a.d.ak [[(1:Int),(2:Int),(3:Int),(4:Int),(29:Int),(30:Int),(36:Int)],[(5:Int),(23:Int),(34:Int),(37:Int)],[(6:Int)],[(7:Int),(35:Int),(10:Int),(33:Int),(21:Int)]]/\(c=W (sT z)/\d=W (sU z)/\Z ↑a.d.b.length=Z ↑a.d.b.length/\Z a.d.ak=Z a.d.ak/\e=H (dx a.d.ak [(8:Int),(11:Int),(12:Int),(20:Int),(31:Int)])/\True)/\ay b (q3 e1 z a)
def Bb(a:mh)(e1:ag)(c d e:aD)(b:St):=∃(z:jp),oN a.d.ak [[(1:Int),(2:Int),(3:Int),(4:Int),(29:Int),(30:Int),(36:Int)],[(5:Int),(23:Int),(34:Int),(37:Int)],[(6:Int)],[(7:Int),(35:Int),(10:Int),(33:Int),(21:Int)],[(8:Int),(11:Int),(12:Int),(20:Int),(31:Int)]]/\(c=W (sT z)/\d=W (sU z)/\Z ↑a.d.b.length=Z ↑a.d.b.length/\Z a.d.ak=Z a.d.ak/\e=H (dx a.d.ak [(9:Int),(13:Int),(14:Int),(16:Int),(25:Int),(27:Int)])/\True)/\ay b (q3 e1 z a)
def QS(a:mh)(e1:ag)(c d e:aD)(b:St):=∃(z:jp),oN a.d.ak [[(1:Int),(2:Int),(3:Int),(4:Int),(29:Int),(30:Int),(36:Int)],[(5:Int),(23:Int),(34:Int),(37:Int)],[(6:Int)],[(7:Int),(35:Int),(10:Int),(33:Int),(21:Int)],[(8:Int),(11:Int),(12:Int),(20:Int),(31:Int)],[(9:Int),(13:Int),(14:Int),(16:Int),(25:Int),(27:Int)],[(15:Int)],[(26:Int)]]/\(c=W (sT z)/\d=W (sU z)/\Z ↑a.d.b.length=Z ↑a.d.b.length/\Z a.d.ak=Z a.d.ak/\e=H (dx a.d.ak [(22:Int),(28:Int)])/\True)/\ay b (q3 e1 z a)
def Tl(x:mh)(e:jp)(F:ag):=Br ((x.d.b.length:Int)==3) (V e.q 2/\ml (aL f28 52 18) [float f64 x.d.aT,float f64 4613937818241073152] (λa=>l ke x F (al (H (cq BinOp.eql a.fst a.snd))) (q3 F e x))) (l ke x F cm (q3 F e x))
def aiO(x:mh)(F:ag)(hc:ke.cond x)(hr:ke.aE x F):∀(q p:Nat),V p 3/\V p 0/\Br (x.d.ak==1) (yN x F (bL q) (bL p) (H (x.d.ak==1)) (zN F q x p)) (Br (x.d.ak==2) (yN x F (bL q) (bL p) (H (x.d.ak==2)) (zN F q x p)) (Br (x.d.ak==3) (yN x F (bL q) (bL p) (H (x.d.ak==3)) (zN F q x p)) (Br (x.d.ak==4) (yN x F (bL q) (bL p) (H (x.d.ak==4)) (zN F q x p)) (Br (x.d.ak==29) (yN x F (bL q) (bL p) (H (x.d.ak==29)) (zN F q x p)) (Br (x.d.ak==30) (yN x F (bL q) (bL p) (H (x.d.ak==30)) (zN F q x p)) (yN x F (bL q) (bL p) (H (x.d.ak==36)) (zN F q x p)))))))/\aQ λ(o:jp)_=>oN x.d.ak []->Br (dx x.d.ak [(1:Int),(2:Int),(3:Int),(4:Int),(29:Int),(30:Int),(36:Int)]) (l ke x F (al (H ((x.d.b.length:Int)==0))) (q3 F o x)) (Br (x.d.ak==5) (GG x F (jS o) (jT o) (H (x.d.ak==5)) (q3 F o x)) (Br (x.d.ak==23) (GG x F (jS o) (jT o) (H (x.d.ak==23)) (q3 F o x)) (Br (x.d.ak==34) (GG x F (jS o) (jT o) (H (x.d.ak==34)) (q3 F o x)) (GG x F (jS o) (jT o) (H (x.d.ak==37)) (q3 F o x))))/\aQ λ(m:jp)_=>oN x.d.ak [[(1:Int),(2:Int),(3:Int),(4:Int),(29:Int),(30:Int),(36:Int)]]->Br (dx x.d.ak [(5:Int),(23:Int),(34:Int),(37:Int)]) (l ke x F gc (q3 F m x)) (Br (x.d.ak==6) ((∃(a:jp),Nb a x/\(W (sT m)=W (sT a)/\W (sU m)=W (sU a)/\Z ↑x.d.b.length=Z ↑x.d.b.length/\Z 0=Z ↑a.i/\True)/\ay (q3 F m x) (q3 F a x))/\aQ λ(g:jp)_=>Nb g x->aK ((g.i:Int)<(x.d.b.length:Int)) (true=true/\V g.p 0/\V g.q 3/\b9 (aL f28 20 5) [Q x.k x.d.b.length x.c,Z ↑g.i] (λe=>T1 F ⟨e.b,e.o+e.n.toNat*1,none⟩ (λd=>fV (aL f28 20 7) [Q x.a x.ns.length x.ca,Z d] (λc=>T1 F ⟨c.b,c.o+c.n.toNat*5,none⟩ (λb=>Br (b !=2) (l ke x F cm (q3 F g x)) (aA ((g.i:Int)+2)/\∃(a:jp),Nb a x/\(W (sT g)=W (sT a)/\W (sU g)=W (sU a)/\Z ↑x.d.b.length=Z ↑x.d.b.length/\Z ((g.i:Int)+2)=Z ↑a.i/\True)/\ay (q3 F g x) (q3 F a x)/\x.d.b.length+1-a.i<x.d.b.length+1-g.i)))))) ((2:Int)≠0/\l ke x F (al (H ((x.d.b.length:Int).tmod (2:Int)==(0:Int)))) (q3 F g x))) (Br (x.d.ak==7) (DD x F (jS m) (jT m) (H (x.d.ak==7)) (q3 F m x)) (Br (x.d.ak==35) (DD x F (jS m) (jT m) (H (x.d.ak==35)) (q3 F m x)) (Br (x.d.ak==10) (DD x F (jS m) (jT m) (H (x.d.ak==10)) (q3 F m x)) (Br (x.d.ak==33) (DD x F (jS m) (jT m) (H (x.d.ak==33)) (q3 F m x)) (DD x F (jS m) (jT m) (H (x.d.ak==21)) (q3 F m x)))))/\aQ λ(k:jp)_=>oN x.d.ak [[(1:Int),(2:Int),(3:Int),(4:Int),(29:Int),(30:Int),(36:Int)],[(5:Int),(23:Int),(34:Int),(37:Int)],[(6:Int)]]->Br (dx x.d.ak [(7:Int),(35:Int),(10:Int),(33:Int),(21:Int)]) (l ke x F (al (H (decide ((x.d.b.length:Int)>=1)))) (q3 F k x)) (Br (x.d.ak==8) (DE x F (jS k) (jT k) (H (x.d.ak==8)) (q3 F k x)) (Br (x.d.ak==11) (DE x F (jS k) (jT k) (H (x.d.ak==11)) (q3 F k x)) (Br (x.d.ak==12) (DE x F (jS k) (jT k) (H (x.d.ak==12)) (q3 F k x)) (Br (x.d.ak==20) (DE x F (jS k) (jT k) (H (x.d.ak==20)) (q3 F k x)) (DE x F (jS k) (jT k) (H (x.d.ak==31)) (q3 F k x)))))/\aQ λ(i:jp)_=>oN x.d.ak [[(1:Int),(2:Int),(3:Int),(4:Int),(29:Int),(30:Int),(36:Int)],[(5:Int),(23:Int),(34:Int),(37:Int)],[(6:Int)],[(7:Int),(35:Int),(10:Int),(33:Int),(21:Int)]]->Br (dx x.d.ak [(8:Int),(11:Int),(12:Int),(20:Int),(31:Int)]) (l ke x F (al (H ((x.d.b.length:Int)==1))) (q3 F i x)) (Br (x.d.ak==9) (Bb x F (jS i) (jT i) (H (x.d.ak==9)) (q3 F i x)) (Br (x.d.ak==13) (Bb x F (jS i) (jT i) (H (x.d.ak==13)) (q3 F i x)) (Br (x.d.ak==14) (Bb x F (jS i) (jT i) (H (x.d.ak==14)) (q3 F i x)) (Br (x.d.ak==16) (Bb x F (jS i) (jT i) (H (x.d.ak==16)) (q3 F i x)) (Br (x.d.ak==25) (Bb x F (jS i) (jT i) (H (x.d.ak==25)) (q3 F i x)) (Bb x F (jS i) (jT i) (H (x.d.ak==27)) (q3 F i x))))))/\aQ λ(g:jp)_=>oN x.d.ak [[(1:Int),(2:Int),(3:Int),(4:Int),(29:Int),(30:Int),(36:Int)],[(5:Int),(23:Int),(34:Int),(37:Int)],[(6:Int)],[(7:Int),(35:Int),(10:Int),(33:Int),(21:Int)],[(8:Int),(11:Int),(12:Int),(20:Int),(31:Int)]]->Br (dx x.d.ak [(9:Int),(13:Int),(14:Int),(16:Int),(25:Int),(27:Int)]) (l ke x F (al (H ((x.d.b.length:Int)==2))) (q3 F g x)) (Br (x.d.ak==15) (l ke x F (al (H ((x.d.b.length:Int)==3))) (q3 F g x)) (Br (x.d.ak==26) (l ke x F (al (H ((x.d.b.length:Int)==4))) (q3 F g x)) (Br (x.d.ak==22) (QS x F (jS g) (jT g) (H (x.d.ak==22)) (q3 F g x)) (QS x F (jS g) (jT g) (H (x.d.ak==28)) (q3 F g x))/\aQ λ(e:jp)_=>oN x.d.ak [[(1:Int),(2:Int),(3:Int),(4:Int),(29:Int),(30:Int),(36:Int)],[(5:Int),(23:Int),(34:Int),(37:Int)],[(6:Int)],[(7:Int),(35:Int),(10:Int),(33:Int),(21:Int)],[(8:Int),(11:Int),(12:Int),(20:Int),(31:Int)],[(9:Int),(13:Int),(14:Int),(16:Int),(25:Int),(27:Int)],[(15:Int)],[(26:Int)]]->Br (dx x.d.ak [(22:Int),(28:Int)]) (l ke x F (al (H (decide ((x.d.b.length:Int)<=1)))) (q3 F e x)) (Br (x.d.ak==24) (Br ((x.d.b.length:Int)==2) (l ke x F gc (q3 F e x)) (l ke x F (al (H ((x.d.b.length:Int)==3))) (q3 F e x))) (Br (x.d.ak==32) (Br ((x.d.b.length:Int)==2) (V e.q 2/\ml (aL f28 52 5) [float f64 x.d.aT,float f64 4607182418800017408] (λc=>Br (cq BinOp.eql c.fst c.snd) (l ke x F gc (q3 F e x)) (V e.q 2/\ml (aL f28 52 9) [float f64 x.d.aT,float f64 4611686018427387904] (λb=>Br (cq BinOp.eql b.fst b.snd) (l ke x F gc (q3 F e x)) (Tl x e F))))) (Tl x e F)) (l ke x F cm (q3 F e x)))))))))))):=by
 delta sT sU M2 q3 yN bq bL zN GG jS jT gc Nb b9 T1 fV cM cm DD DE Bb QS oZ ml Tl V aA Z C H W Q D aK al aQ;obtain⟨f,a,ca,d,k,c⟩:=x;obtain⟨G,h2,I⟩:=hc;obtain⟨P,R⟩:=hr;dsimp only at G h2 I P R⊢;intro p q;have ae:∀{p q:Nat}(v:Bool),df (S f) d=v->l ke ⟨f,a,ca,d,k,c⟩ F (returned (bool v)) (Ho ⟨f,a,ca,d,k,c⟩ F 1 2 p q):=λv e=>⟨(),ai,by rw[<-e] <;> rfl,ao [0]⟩;have one:∀{i:Int}{b:Bool},(d.ak==i)=b->dx d.ak [i]=b:=λh=>by rw[<-h];exact Bool.or_false _
 refine⟨Y,Y,Ei ⟨f,a,ca,d,k,c⟩ F 10 20 p q [1,2,3,4,29,30,36] trivial (ao [0,10,20]), ?_⟩;rintro⟨_,p,q⟩ t-;refine ar (λq1=>ae _ (by unfold df;simp[*])) (λq1=>⟨Ei ⟨f,a,ca,d,k,c⟩ F 1 2 p q [5,23,34,37] ⟨q1,ai⟩ (ay.refl _), ?_⟩);rintro⟨_,p,q⟩ t-;refine ar (λq2=>ae _ (by unfold df;simp[*])) (λq2=>ar (λq3=>?_) (λq3=>⟨Ei ⟨f,a,ca,d,k,c⟩ F 1 2 p q [7,35,10,33,21] ⟨q1,q2,one q3,ai⟩ (ay.refl _), ?_⟩));refine⟨⟨⟨0,p,q⟩,⟨b7 _,rfl⟩,aU,ay.refl _⟩, ?_⟩;rintro⟨i,p,q⟩ t ⟨hi,J⟩;dsimp only at hi J⊢;have n:df (S f) d=(bif sq (S f) (d.b.drop i) then ((d.b.length:Int).tmod 2)==0 else false):=by unfold df;simp[*]
 refine bd (λx1=>?_) (λx0=>⟨by decide,ae _ (by rw[n,List.drop_of_length_le O] <;> rfl)⟩);obtain⟨m,A⟩:∃m,d.b[i]?=some m:=⟨_,da O⟩;obtain⟨T,o1,rfl⟩:=G.some O;have x2:=I m (iz A);obtain⟨e,K⟩:∃e,f[m.toNat]?=some e:=⟨_,da O⟩;obtain⟨U,k2,c2,X,s2,t2,v0,-⟩:=P.h m.toNat e K;have s:(S f m.toNat).ak=e.ak:=by rw[mY K]
 obtain⟨M,L⟩:=ic.1 A;rw[List.drop_eq_getElem_cons M,L]at n;have B:(e.ak !=2)=true->df (S f) d=false:=λg=>by
  rw[n];cases z:d.b.drop (i+1)with
  |nil=>rw[sq,s];simp at g;simp[g]
  |cons y r=>rw[sq,s];simp at g;simp[g]
 refine⟨rfl,Y,Y,bZ 1 rfl rfl rfl rfl,⟨T,o1,d.b.length,c,i⟩,rfl,⟨by simp[*],O⟩,m, ?_,bZ 5 rfl rfl rfl rfl,⟨U,0,f.length,ca,m⟩,by rw[X],⟨by simp[*],by simp[*]⟩,e.ak,v0,ar (λg=>ae _ (B g)) (λg=>⟨aC,⟨i+2,p,q⟩,⟨by grind, ?_⟩,aU,ay.refl _,by grind⟩)⟩;have:=R.look (p8 A);simp[*];have g:e.ak=2:=by grind
 dsimp only;rw[J,List.drop_eq_getElem_cons M,L];cases z:d.b.drop (i+1)with
 |nil=>
  rw[show d.b.drop (i+2)=[] by rw[<-List.drop_drop (i:=1) (j:=i+1),z];rfl,sq,s,g] <;> rfl
 |cons y r=>
  rw[show d.b.drop (i+2)=r by rw[<-List.drop_drop (i:=1) (j:=i+1),z];rfl,sq,s,g] <;> rfl
 rintro⟨_,p,q⟩ t-;refine ar (λq4=>ae _ (by unfold df;simp[*])) (λq4=>⟨Ei ⟨f,a,ca,d,k,c⟩ F 1 2 p q [8,11,12,20,31] ⟨q1,q2,one q3,q4,ai⟩ (ay.refl _), ?_⟩);rintro⟨_,p,q⟩ t-;refine ar (λq5=>ae _ (by unfold df;simp[*])) (λq5=>⟨Ei ⟨f,a,ca,d,k,c⟩ F 1 2 p q [9,13,14,16,25,27] ⟨q1,q2,one q3,q4,q5,ai⟩ (ay.refl _), ?_⟩);rintro⟨_,p,q⟩ t-;refine ar (λq6=>ae _ (by unfold df;simp[*])) (λq6=>ar (λq7=>ae _ (by unfold df;simp[*])) (λq7=>ar (λq8=>ae _ (by unfold df;simp[*])) (λq8=>⟨Ei ⟨f,a,ca,d,k,c⟩ F 1 2 p q [22,28] ⟨q1,q2,one q3,q4,q5,q6,one q7,one q8,ai⟩ (ay.refl _), ?_⟩)));rintro⟨_,p,q⟩ t-;obtain⟨w,hw⟩:∃w,df (S f) d=w:=⟨_,rfl⟩;have n:=hw;unfold df at n;rw[q1,q2,q3,q4,q5,q6,q7,q8]at n;refine ar (λq9=>ae _ (by grind)) (λq9=>ar (λE=>?_) (λE=>ar (λN=>?_) (λN=>ae _ (by grind))));rw[q9,E]at n;exact ar (λg=>ae _ (by grind)) (λg=>ae _ (by grind))
 ·rw[q9,E,N]at n;have n:F4 d=w:=n;unfold F4 at n;refine ar (λg=>⟨Y,ia (.inl rfl) rfl,(d.aT,iI),rfl,ai,ar (λo=>ae _ ?_) (λo=>⟨Y,ia (.inl rfl) rfl,(d.aT,uL),rfl,ai,ar (λo2=>ae _ ?_) (λo2=>ar (λu=>⟨Y,ia (.inl rfl) rfl,(d.aT,wm),rfl,ai,ae _ ?_⟩) (λu=>ae _ ?_))⟩)⟩) (λg=>ar (λu=>⟨Y,ia (.inl rfl) rfl,(d.aT,wm),rfl,ai,ae _ ?_⟩) (λu=>ae _ ?_))
  all_goals grind
def aiN:aG 28 ke:=rh func28 (λ_ _=>[(0,0,.n 10),(0,1,.n 20),(1,1,z 20),(2,1,z 20),(20,1,z 1),(20,3,z 2),(20,5,.qo (dy 1)),(20,6,cD),(20,7,.qo (dy 5)),(20,9,cD),(52,4,z 2),(52,5,.qo (iO .eql)),(52,8,z 2),(52,9,.qo (iO .eql)),(52,17,z 2),(52,18,.qo (iO .eql))]) aiM aiL aiO
structure Xe where
 k:Int
abbrev FN:aF where
 X:=Xe
 args x:=[Z x.k]
 val x _:=al (H (x.k !=1))
def anP(x:Xe)(F:ag)(a:FN.cond x)(b:FN.aE x F):l FN x F (al (H (x.k !=1))) [(0,F)]:=by
 delta H al;exact iy
def anO:aG 30 FN:=cY func30 [] anP
structure Du where
 b:Nat
 n:Nat
 aq:Nat
abbrev rj(v:aD):aF where
 X:=Du
 args x:=[.slice (some ⟨x.b,0,none⟩) x.n x.aq,.func (.func 30) #[] #[]]
 cond x:=x.n<=4096
 aE x F:=∀j,j<x.n->aH F ⟨x.b,j,none⟩ (.int .i64 1)
 val _ _:=al v
 eL _ _ _ b h:=λj a=>(h j a).sub b
def ail(x:Du)(F:ag):Nat->Option Inv:=fun
 |0=>some {X:=Nat,P:=λi=>i<=x.n,mu:=λi=>x.n-i,lv:=λi=>[(0,.slice (some ⟨x.b,0,none⟩) x.n x.aq),(1,.func (.func 30) #[] #[]),(7,.int .i64 x.n),(8,.int .i64 i)],st:=λ_=>[F]}
 |_=>none
abbrev z_(x:Du):bv:=some ⟨x.b,0,none⟩
def ain(x:Du)(F:ag)(f:aF.cond (rj (.int .i64 (-1))) x)(h:aF.aE (rj (.int .i64 (-1))) x F):(∃(a:Nat),a<=x.n/\(Q (z_ x) x.n x.aq=Q (z_ x) x.n x.aq/\func (Fn.func 30) ⟨[]⟩ ⟨[]⟩=func (Fn.func 30) ⟨[]⟩ ⟨[]⟩/\Z ↑x.n=Z ↑x.n/\Z 0=Z ↑a/\True)/\ay [(0,F)] [(0,F)])/\aQ λ(g:Nat)_=>g<=x.n->aK ((g:Int)<(x.n:Int)) (b9 (aL f55 4 3) [Q (z_ x) x.n x.aq,Z ↑g] (λe=>T1 F ⟨e.b,e.o+e.n.toNat*1,none⟩ (λd=>fv 30 FN [Z d] (λc b=>Br (c.k !=1) (l (rj mN) x F (al (Z ↑g)) [(0,F)]) (aA ((g:Int)+(1:Int))/\∃(a:Nat),a<=x.n/\(Q (z_ x) x.n x.aq=Q (z_ x) x.n x.aq/\func (Fn.func 30) ⟨[]⟩ ⟨[]⟩=func (Fn.func 30) ⟨[]⟩ ⟨[]⟩/\Z ↑x.n=Z ↑x.n/\Z ((g:Int)+(1:Int))=Z ↑a/\True)/\ay [(0,F)] [(0,F)]/\x.n-a<x.n-g))))) (l (rj mN) x F rA [(0,F)]):=by
 delta z_ b9 T1 mN rA aA fv Z Q aK al aQ;obtain⟨b,n,aq⟩:=x;replace f:n<=4096:=f;replace h:∀j,j<n->aH F ⟨b,j,none⟩ (.int .i64 1):=h;refine⟨⟨0,b7 _,aU,ay.refl _⟩, ?_⟩;rintro i p o;dsimp only;refine bd (λm=>⟨bZ 1 rfl rfl rfl rfl,⟨b,0,n,aq,i⟩,rfl,⟨by simp[*],O⟩,1, ?_,anO,rfl,⟨1⟩,rfl,rfl,ai,ai,λ_ _=>Bn (by decide) ⟨aC,i+1,O,aU,ay.refl _,O⟩⟩) (λk=>iy);grind
def aim:aG 55 (rj (.int .i64 (-1))):=mt func55 (λ_ _=>[(4,3,.qo (dy 1)),(4,4,cD),(4,5,aI FN)]) ail ain
abbrev N_:Du->ag->Prop:=λb c=>(∀(a:Nat),a<b.n->aH c ⟨b.b,a,none⟩ (Z 1))
def afW(x:Du)(F:ag)(c:aF.cond (rj (.bool false)) x)(e:aF.aE (rj (.bool false)) x F):bz 55 (rj mN) (λb=>b.n<=4096) N_ [Q (z_ x) x.n x.aq,func (Fn.func 30) ⟨[]⟩ ⟨[]⟩] (cO F) (λb a=>l (rj cM) x F (al (H (decide ((-1:Int)>=0)))) [(0,F)]):=by
 delta mN N_ z_ cO cM g bz Z H Q al;exact ba aim x c (λj d=>aH.rest (j:=0) X (e j d)) λ_ _=>iy
def afV:aG 29 (rj (.bool false)):=cY func29 [(1,2,aI (rj (.int .i64 (-1))))] afW
structure oA where
 ns:List aR
 a:bv
 ca:Nat
abbrev tj:aF where
 X:=oA
 args x:=[.agg #[.slice x.a x.ns.length x.ca]]
 cond x:=nH x.ns
 aE x F:=mj x.ns x.a F
 val x _:=al (H (ti (S x.ns) x.ns.length))
structure oz where
 p:Nat
 bs:Nat
 sn:aM
 i:Nat
 j:Nat
 d:aR
 k:bv
 c:Nat
 b6:Nat
abbrev qg(x:oA):aN:=[Q x.a x.ns.length x.ca]
abbrev vU(d:oz):bv:=some ⟨d.p,0,none⟩
abbrev uw(d:oz):bv:=some ⟨d.bs,0,none⟩
abbrev HY(d:oz):aN:=[Z d.d.ak,C d.d.op,float f64 d.d.aT,Q d.k d.d.b.length d.c,Z d.d.au]
abbrev IR(x:oA):=Z x.ns.length
def aoi(x:oA)(F:ag):Nat->Option Inv:=fun
 |0=>some {X:=oz,P:=λd=>d.i<=x.ns.length/\qJ x.ns.length ((x.ns.take d.i).flatMap (·.b)) d.sn/\(∀j,j<d.i->df (S x.ns) (S x.ns j)=true)/\(((S x.ns (x.ns.length-1)).ak==37)||jL (S x.ns (x.ns.length-1)).ak)=true,mu:=λd=>x.ns.length-d.i,lv:=λd=>[(1,W (vU d)),(3,IR x),(4,Q (uw d) x.ns.length x.ns.length),(41,Q x.a x.ns.length x.ca),(42,IR x),(43,Z d.i)],st:=λd=>[F,D d.p (qg x) 25,D d.bs (a7 d.sn) 3]}
 |2=>some {X:=oz,gh:=some ⟨Nat,λd=>d.i⟩,P:=λd=>x.ns[d.i]?=some d.d/\e6 1 (a7 d.d.b) d.k d.d.b.length/\e8 F d.k (a7 d.d.b)/\d.j<=d.d.b.length/\qJ x.ns.length ((x.ns.take d.i).flatMap (·.b)++d.d.b.take d.j) d.sn/\(∀j,j<d.i->df (S x.ns) (S x.ns j)=true)/\(((S x.ns (x.ns.length-1)).ak==37)||jL (S x.ns (x.ns.length-1)).ak)=true,mu:=λd=>d.d.b.length-d.j,lv:=λd=>[(1,W (vU d)),(3,IR x),(4,Q (uw d) x.ns.length x.ns.length),(5,Z d.i),(6,W (some ⟨d.b6,0,none⟩)),(41,Q x.a x.ns.length x.ca),(42,IR x),(43,Z d.i),(49,Q d.k d.d.b.length d.c),(50,Z d.d.b.length),(51,Z d.j)],st:=λd=>[F,D d.p (qg x) 25,D d.bs (a7 d.sn) 3,D d.b6 (HY d) 35]}
 |_=>none
def aoh(x:oA)(F:ag):Nat->Option Inv:=fun
 |4=>some {X:=Nat,P:=λ_=>(((S x.ns (x.ns.length-1)).ak==37)||jL (S x.ns (x.ns.length-1)).ak)=true,mu:=λ_=>0,lv:=λp=>[(1,bL p),(3,IR x)],st:=λp=>[F,D p (qg x) 25]}
 |_=>none
def N5(x:oA)(F:ag)(A:Nat):=l tj x F cm [(0,F),(10,D A (qg x) 25)]
abbrev V7(x:oA):aN:=[Q x.a x.ns.length x.ca,Z ((x.ns.length:Int)-1)]
def DF:=fv 14 ww
abbrev FH(a:oA):=(S a.ns (a.ns.length-1)).ak==37||jL (S a.ns (a.ns.length-1)).ak
def QT(a:oA)(e1:ag)(c:aD)(b:St):=∃(z:Nat),(FH a)=true/\(c=W (bq z)/\Z ↑a.ns.length=Z ↑a.ns.length/\True)/\ay b [(0,e1),(1,D z (qg a) 25)]
def Mq(b:oz)(x:oA):=b.i<=x.ns.length/\qJ x.ns.length (List.flatMap (λ(a:aR)=>a.b) (List.take b.i x.ns)) b.sn/\(∀(a:Nat),a<b.i->df (S x.ns) (S x.ns a)=true)/\(FH x)=true
abbrev Ii(F:ag)(b:oz)(x:oA):=[(0,F),(1,D b.p (qg x) 25),(2,D b.bs (a7 b.sn) 3)]
def Td(x:oA)(b:oz)(F:ag):=x.ns[b.i]?=some b.d/\e6 1 (a7 b.d.b) b.k b.d.b.length/\e8 F b.k (a7 b.d.b)/\b.j<=b.d.b.length/\qJ x.ns.length (List.flatMap (λ(a:aR)=>a.b) (List.take b.i x.ns)++List.take b.j b.d.b) b.sn/\(∀(a:Nat),a<b.i->df (S x.ns) (S x.ns a)=true)/\(FH x)=true
abbrev xI(e1:ag)(z:oz)(a:oA):=[(0,e1),(1,D z.p (qg a) 25),(2,D z.bs (a7 z.sn) 3),(3,D z.b6 (HY z) 35)]
def XH(a:oA)(e1:ag)(c:Nat)(e f g h i j k l:aD)(d:St)(mm:Nat):=∃(z:oz),((a.ns[z.i]?=some z.d/\e6 1 (a7 z.d.b) z.k z.d.b.length/\e8 e1 z.k (a7 z.d.b)/\z.j<=z.d.b.length/\qJ a.ns.length (List.flatMap (λ(b:aR)=>b.b) (List.take z.i a.ns)++List.take z.j z.d.b) z.sn/\(∀(b:Nat),b<z.i->df (S a.ns) (S a.ns b)=true)/\(FH a)=true)/\z.i=c)/\(e=W (vU z)/\Z ↑a.ns.length=Z ↑a.ns.length/\f=Q (uw z) a.ns.length a.ns.length/\g=Z ↑z.i/\h=W (some ⟨z.b6,0,none⟩)/\Q a.a a.ns.length a.ca=Q a.a a.ns.length a.ca/\Z ↑a.ns.length=Z ↑a.ns.length/\i=Z ↑z.i/\j=Q z.k z.d.b.length z.c/\k=Z ↑z.d.b.length/\l=Z ↑z.j/\True)/\ay d (xI e1 z a)/\z.d.b.length-z.j<mm
def V4(f:Int)(x:oA)(i:oz)(F:ag)(j:Nat):=(0<=f/\f<x.ns.length)/\T1 (D i.bs (a7 i.sn) 3) ⟨i.bs,0+f.toNat*1,none⟩ (λc=>aA (c+1)/\(0<=f/\f<x.ns.length)/\(d6 ⟨i.bs,0+f.toNat*1,none⟩ i.bs/\0+f.toNat*1<(a7 i.sn).length)/\aA ((i.j:Int)+1)/\XH x F j (W (vU i)) (Q (uw i) x.ns.length x.ns.length) (Z ↑i.i) (W (some ⟨i.b6,0,none⟩)) (Z ↑i.i) (Q i.k i.d.b.length i.c) (Z ↑i.d.b.length) (Z ((i.j:Int)+1)) [(0,F),(1,D i.p (qg x) 25),(2,D i.bs ((a7 i.sn).set (0+f.toNat*1) (Z (c+1))) 3),(3,D i.b6 (HY i) 35)] (i.d.b.length-i.j))
def aok(x:oA)(F:ag)(K:tj.cond x)(hr:tj.aE x F):∀(A:Nat),V A 0/\aK ((x.ns.length:Int)<1) (N5 x F A) (aK ((x.ns.length:Int)>4096) (N5 x F A) (V A 0/\aA ((x.ns.length:Int)-1)/\fV (aL f12 2 11) (V7 x) (λm=>T1 F ⟨m.b,m.o+m.n.toNat*5,none⟩ (λt=>Br (t !=37) (V A 0/\aA ((x.ns.length:Int)-1)/\fV (aL f12 2 20) (V7 x) (λk=>T1 F ⟨k.b,k.o+k.n.toNat*5,none⟩ (λj=>T2 F ⟨k.b,k.o+k.n.toNat*5+1,none⟩ (λi=>lO F ⟨k.b,k.o+k.n.toNat*5+2,none⟩ (λh=>dN F ⟨k.b,k.o+k.n.toNat*5+3,none⟩ (λy f e=>T1 F ⟨k.b,k.o+k.n.toNat*5+4,none⟩ (λd=>DF [agg ⟨lY j i h y f e d⟩] (λc b=>Br (!jL c.d.ak) (N5 x F A) (QT x F (bL A) [(0,F),(10,D A (qg x) 25)]))))))))) (QT x F (bL A) [(0,F),(10,D A (qg x) 25)])))))/\aQ λ(z:Nat)_=>(FH x)=true->Km (aL f12 4 1) [Z ↑x.ns.length,Z ↑x.ns.length] (λw v=>V z 0/\(∃(b:oz),Mq b x/\(W (bq z)=W (vU b)/\Z ↑x.ns.length=Z ↑x.ns.length/\Q (bq v) w.n.toNat w.c.toNat=Q (uw b) x.ns.length x.ns.length/\Q x.a x.ns.length x.ca=Q x.a x.ns.length x.ca/\Z ↑x.ns.length=Z ↑x.ns.length/\Z 0=Z ↑b.i/\True)/\ay [(0,F),(1,D z (qg x) 25),(5010,D v (ij [Z 0] w.c.toNat) 3)] (Ii F b x))/\aQ λ(u:oz)_=>Mq u x->aK ((u.i:Int)<(x.ns.length:Int)) (fV (aL f12 7 1) [Q x.a x.ns.length x.ca,Z ↑u.i] (λs=>T1 F ⟨s.b,s.o+s.n.toNat*5,none⟩ (λr=>T2 F ⟨s.b,s.o+s.n.toNat*5+1,none⟩ (λq=>lO F ⟨s.b,s.o+s.n.toNat*5+2,none⟩ (λp=>dN F ⟨s.b,s.o+s.n.toNat*5+3,none⟩ (λo n m=>T1 F ⟨s.b,s.o+s.n.toNat*5+4,none⟩ (λt=>∀(k:Nat),bQ k (V k 3/\∃(j:Nat),(∃(b:oz),(Td x b F/\b.i=j)/\(W (vU u)=W (vU b)/\Z ↑x.ns.length=Z ↑x.ns.length/\Q (uw u) x.ns.length x.ns.length=Q (uw b) x.ns.length x.ns.length/\Z ↑u.i=Z ↑b.i/\W (bq k)=W (some ⟨b.b6,0,none⟩)/\Q x.a x.ns.length x.ca=Q x.a x.ns.length x.ca/\Z ↑x.ns.length=Z ↑x.ns.length/\Z ↑u.i=Z ↑b.i/\Q o n m=Q b.k b.d.b.length b.c/\Z ↑n=Z ↑b.d.b.length/\Z 0=Z ↑b.j/\True)/\ay [(0,F),(1,D u.p (qg x) 25),(2,D u.bs (a7 u.sn) 3),(8030,D k (lY r q p o n m t) 35)] (xI F b x))/\aQ λ(i:oz)_=>(Td x i F/\i.i=j)->aK ((i.j:Int)<(i.d.b.length:Int)) (b9 (aL f12 10 1) [Q i.k i.d.b.length i.c,Z ↑i.j] (λy=>T1 F ⟨y.b,y.o+y.n.toNat*1,none⟩ (λf=>aK (f<0) (l tj x F cm (xI F i x)) (aK (f>=i.i) (l tj x F cm (xI F i x)) (aK ((i.j:Int)>0) (V i.b6 3/\aA ((i.j:Int)-1)/\b9 (aL f12 11 15) [Q i.k i.d.b.length i.c,Z ((i.j:Int)-1)] (λe=>T1 F ⟨e.b,e.o+e.n.toNat*1,none⟩ (λd=>aK (d>=f) (l tj x F cm (xI F i x)) (V4 f x i F j)))) (V4 f x i F j)))))) (V i.p 0/\bQ i.b6 (bz 28 ke (λd=>(e6 1 (a7 d.d.b) d.k d.d.b.length/\d.d.b.length<=4096/\∀(a:Int),a∈d.d.b->0<=a/\a<d.ns.length)) (λd rr=>mj d.ns d.a rr/\e8 rr d.k (a7 d.d.b)) [agg ⟨qg x⟩,agg ⟨HY i⟩] (g (xI F i x) []) (λd c=>Br (!df (S d.ns) d.d) (l tj x F cm (xI F i x)) (aA ((i.i:Int)+1)/\∃(b:oz),Mq b x/\(W (vU i)=W (vU b)/\Z ↑x.ns.length=Z ↑x.ns.length/\Q (uw i) x.ns.length x.ns.length=Q (uw b) x.ns.length x.ns.length/\Q x.a x.ns.length x.ca=Q x.a x.ns.length x.ca/\Z ↑x.ns.length=Z ↑x.ns.length/\Z ((i.i:Int)+1)=Z ↑b.i/\True)/\ay (xI F i x) (Ii F b x)/\x.ns.length-b.i<x.ns.length-u.i)))))))))))) (aA ((x.ns.length:Int)-1)/\DA (aL f12 18 3) [Q (uw u) x.ns.length x.ns.length,Z ((x.ns.length:Int)-1)] (λc=>bz 29 (rj cM) (λb=>b.n<=4096) N_ [Q c.a c.h.toNat c.aq,func (Fn.func 30) ⟨[]⟩ ⟨[]⟩] (g (Ii F u x) []) (λb a=>l tj x F (al (H !false)) (Ii F u x))))):=by
 delta cM cm qg N5 fV V7 T1 T2 lO dN DF lY FH bq QT bL Km Mq vU uw Ii Td HY xI b9 XH V4 DA N_ g V aA bQ fv bz zb Z C H W Q D aK al aQ;obtain⟨E,a,ca⟩:=x;replace K:nH E:=K;replace hr:mj E a F:=hr;have t1:=K.one;have t2:=K.He;dsimp only;intro b;have val:∀v,ti (S E) E.length=v->returned (bool v)=tj.val ⟨E,a,ca⟩ ():=λv e=>by rw[<-e] <;> rfl
 obtain⟨I,x0⟩:∃d,E[E.length-1]?=some d:=⟨_,da O⟩;obtain⟨br,kr,cr,er,sr,tr,u0,u1,u2,u3,u4,-⟩:=hr.h _ I x0;have y3:(S E (E.length-1)).ak=I.ak:=by rw[mY x0]
 refine⟨Y,Bn (bF O) (Bn (bF O) ⟨Y,aC,bZ 5 rfl rfl rfl rfl,⟨br,0,E.length,ca,((E.length:Int)-1)⟩,by rw[er],⟨by grind,by grind⟩,I.ak, ?_,ar (λy=>⟨Y,aC,bZ 5 rfl rfl rfl rfl,⟨br,0,E.length,ca,((E.length:Int)-1)⟩,by rw[er],⟨by grind,by grind⟩,I.ak, ?_,I.op, ?_,I.aT, ?_,kr,_,cr, ?_,I.au, ?_,WW,rfl,⟨I,kr,cr⟩,rfl,rfl,ai,ai,λ_ _=>ar (λg2=>⟨(),ai,val _ ?_,ao [0]⟩) (λg2=>⟨b, ?_,aU,ao [0,10]⟩)⟩) (λy=>⟨b, ?_,aU,ao [0,10]⟩)⟩), ?_⟩
 any_goals (dsimp only;rw[show((E.length:Int)-1).toNat=E.length-1 by omega];assumption)
 unfold ti;grind;grind;grind;clear u0 u1 u2 u3 u4 er sr tr b;intro b js B;refine bG (Eo (P:=prog) [.int .i64 0] 8 rfl rfl rfl rfl rfl rfl X rfl) ⟨E.length,E.length⟩ ⟨by simp[*],by simp[*],by grind,by grind⟩ λM _=>⟨Y,⟨⟨b,M,List.replicate E.length 0,0,0,I,none,0,0⟩,⟨b7 _,qJ.zero _,λj T=>absurd T (Nat.not_lt_zero _),B⟩,aU, ?_⟩, ?_⟩;rw[show ij [.int .i64 0] (E.length:Int).toNat=a7 (List.replicate E.length 0) by rw[cy,ab5]];exact ao [0,1,5010];rintro⟨b,M,sn,i,j0,d0,k0,c0,y0⟩ js ⟨hi,J,R,B⟩;dsimp only at hi J R B⊢;refine bd (λy4=>?_) (λy1=>⟨aC,WE rfl rfl rfl,⟨some ⟨M,0,none⟩,E.length,E.length,(E.length:Int)-1⟩,rfl,⟨by grind,by grind⟩,afV,rfl,⟨M,E.length-1,E.length⟩, ?_,rfl,by grind,λj T=>?_,λ_ _=>⟨(),ai,val _ ?_,ao [0]⟩⟩);obtain⟨d,G⟩:∃d,E[i]?=some d:=⟨_,da O⟩;obtain⟨rb,k,c,e,s1,N,v0,v1,v2,v3,v4,-⟩:=hr.h i d G;refine⟨bZ 5 rfl rfl rfl rfl,⟨rb,0,E.length,ca,i⟩,by rw[e],⟨by simp[*],O⟩,d.ak,v0,d.op,v1,d.aT,v2,k,_,c,v3,d.au,v4,λb6=>⟨Y,Y,Y,Y,Y,Y,i,⟨⟨b,M,sn,i,0,d,k,c,b6⟩,⟨⟨G,s1,N,b7 _,by simp[*],R,B⟩,rfl⟩,aU,ao [0,1,2,8030]⟩, ?_⟩⟩;clear J R s1 N v0 v1 v2 v3 v4 G b6 e hi B;rintro⟨b,M,sn,L,j,d,k,c,b6⟩ js ⟨⟨G,s1,N,T,J,R,B⟩,e⟩;dsimp only at G s1 N T J R B e⊢;subst e;have x2:=K.gK G;have x5:=K.Hf (iz G);have x4:(((E.take L).flatMap (·.b))++d.b).length+1<=E.length:=by{rw[<-WN G];have:=aoO E (L+1);have:=K.len;omega};rw[eH]at x4;refine bd (λx9=>?_) (λx7=>⟨Y,Y,Y,Y,Y,Y,aiN,rfl,⟨E,a,ca,d,k,c⟩,rfl,rfl,⟨s1,x5,λm U=>⟨(x2 m U).1,by grind⟩⟩,⟨hr.sub (bB 0),N.sub (bB 0)⟩,λ_ _=>ar (λy=>⟨(),ai,val _ ?_,ao [0]⟩) (λy=>⟨aC,⟨b,M,sn,L+1,0,d,none,0,0⟩,⟨by grind, ?_,λj' x1=>?_,B⟩,aU,ao [0,1,2],by grind⟩)⟩);obtain⟨m,U⟩:∃m,d.b[j]?=some m:=⟨_,da O⟩;obtain⟨b1,o1,rfl⟩:=s1.some O;have y5:=x2 m (iz U);have y7:=J.1;obtain⟨q,hq⟩:∃q,sn[m.toNat]?=some q:=⟨_,da O⟩;have y6:=J.gK hq;have lk:aH F ⟨b1,o1+j,none⟩ (.int .i64 m):=N.look (p8 U);refine⟨bZ 1 rfl rfl rfl rfl,⟨b1,o1,d.b.length,c,j⟩,rfl,⟨by simp[*],O⟩,m,by simp[*],Bn (bF O) (Bn (bF O) (lH (A:=True) (λkk=>bd (λy2=>?_) (λ_=>kk trivial)) (λ_=>⟨aC,q,aH.cells (by rw[gZ,Nat.mul_one];exact p8 hq),aC,aC,⟨Y,by unfold a7;grind⟩,aC,⟨b,M,sn.set m.toNat (q+1),L,j+1,d,some ⟨b1,o1,none⟩,c,b6⟩,⟨⟨G,s1,N,by grind, ?_,R,B⟩,rfl⟩,aU, ?_,by grind⟩)))⟩;obtain⟨m0,x3⟩:∃m0,d.b[j-1]?=some m0:=⟨_,da O⟩;have x6:aH F ⟨b1,o1+(j-1),none⟩ (.int .i64 m0):=N.look (p8 x3);have x8:m0<m:=by{obtain⟨g1,g2⟩:=ic.1 x3;obtain⟨g3,g4⟩:=ic.1 U;rw[<-g2,<-g4];exact List.pairwise_iff_getElem.1 (K.b L d G).1 (j-1) j g1 g3 O};exact⟨Y,aC,bZ 1 rfl rfl rfl rfl,⟨b1,o1,d.b.length,c,((j:Int)-1)⟩,rfl,⟨by grind,by grind⟩,m0,by dsimp only;rw[show((j:Int)-1).toNat*1=j-1 by omega];exact x6,Bn (bF O) (kk trivial)⟩;dsimp only;have:=J.step (k:=m) O O (by grind);rw[List.take_add_one,U];grind;dsimp only;rw[gZ,Nat.mul_one,Zh];exact ay.refl _;have y:(!df (S E) d)=true:=y;unfold ti;rw[Bool.and_eq_false_iff];refine .inr (List.all_eq_false.2 ⟨L,List.mem_range.2 O, ?_⟩);rw[mY G,show df (S E) ⟨d.ak,d.op,d.aT,d.b,0⟩=df (S E) d from rfl];grind;dsimp only;rw[WN G];grind;rcases Nat.lt_or_ge j' L with hl|hl;simp[*];have x1:j'<L+1:=x1;obtain rfl:j'=L:=O;have y:(!df (S E) d)=false:=y;rw[mY G,show df (S E) ⟨d.ak,d.op,d.aT,d.b,0⟩=df (S E) d from rfl];grind;simp[*];have T:j<E.length-1:=T;have e:i=E.length:=O;rw[e,List.take_length]at J;have h1:=J.2.2 j O;rw[K.Yu O]at h1;refine aH.rest (j:=2) X (aH.cells (p8 (k:=1) ?_));grind;unfold ti;grind
def aoj:aG 12 tj:=rh func12 (λ_ _=>[(0,0,.n 10),(1,1,z 10),(2,8,z 10),(2,11,.qo (dy 5)),(2,13,cD),(2,17,z 10),(2,20,.qo (dy 5)),(2,21,.q (BB 0)),(2,22,aI ww),(4,1,.o (vz 3 [.int .i64 0] 8) [] [5010]),(5,1,z 1),(7,1,.qo (dy 5)),(7,2,.q (BB 0)),(7,3,.n 8030),(7,5,.w (qR 8030)),(8,1,z 8030),(10,1,.qo (dy 1)),(10,2,cD),(11,12,z 3),(11,15,.qo (dy 1)),(11,16,cD),(13,3,.q [.ex 2 (.int .i64)]),(13,6,.w [.ex 2 .any]),(15,0,z 1),(15,1,.q (qR 3)),(15,2,aI ke),(18,3,.qo CW),(18,4,aI (rj (.bool false)))]) aoi aoh aok
end Go.Proofs.YthhiffpfleacaaaGreatDoor
