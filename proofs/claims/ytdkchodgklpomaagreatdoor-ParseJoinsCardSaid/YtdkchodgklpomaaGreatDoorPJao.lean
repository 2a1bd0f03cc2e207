/- Part of the proof that ParseJoins answers true at every input. -/
import Derived.Test.YtdkchodgklpomaaGreatDoorPJan
set_option linter.all false
namespace Go.Proofs.YtdkchodgklpomaaGreatDoor
set_option maxRecDepth 100000
open Go.Value (int slice string bool pointer agg tuple func float iface nilIface)
open Go.IntKind (i64 u8 u64 i32 u32 u16 i8 i16)
open Go.FloatKind (f64)
open Go.Ending (returned panicked)
section
open Go
def o4(x:bk Nat):Option Addr:=some ⟨x.x.b,0,none⟩
def ah7(x:bk Nat)(F:ah):Nat->Option Inv:=fun
 |0=>some {X:=oH,P:=fun d=>PG x.x d.t (x.os++[d.k])/\d.f<=x.n/\x.t<=9/\P x.x.L x.x.fin x.K.tv bx d.f (.fY x.t d.k) d.t=br x.K x.x (x.n+1) (.level x.t) x.s,mu:=fun d=>d.f,lv:=fun d=>[(0,ag (o4 x)),(1,ad x.t),(5,ad d.k)],st:=fun d=>[ak x.x d.t,F]}
 |_=>none
def ah9(x:bk Nat)(a:ah):List (Nat×Nat×OH):=[(2,1,bv (cz x.n 64)),(3,3,bv (cz x.n 37)),(4,1,aX iz),(4,2,.n 5020),(4,3,.w (eG 5020)),(5,1,aP 5020),(5,5,aP 5020),(5,11,.q [.ex 1 .slice]),(5,13,aP 5020),(5,14,aX yO),(7,3,dd),(7,7,d3 fL),(8,3,bv (cz x.n 37)),(12,3,aP 5020),(12,6,.n 13060),(12,9,bv td),(12,11,.c fK [0,13060] [0])]
def ah8:Nat->List Nat:=fun r=>if r=12 then [0,1,2,3,4,5,7,8,9,6,10,11,12] else []
theorem afJ(n:Nat):((pQ[n]?).getD []).length<=1000:=by
 rcases Nat.lt_or_ge n 10 with h|h
 ·have:n=0\/n=1\/n=2\/n=3\/n=4\/n=5\/n=6\/n=7\/n=8\/n=9:=by omega
  rcases this with rfl|rfl|rfl|rfl|rfl|rfl|rfl|rfl|rfl|rfl <;> decide
 ·rw[pN (show pQ.length<=n from h)];decide
def QZ(x:bk Nat):=(-9223372036854775808:Int)<=(x.t:Int)+1/\(x.t:Int)+1<=(9223372036854775807:Int)
def Ij(e0:bk Nat)(z:oH):=PG e0.x z.t (e0.os++[z.k])/\z.f<=e0.n/\e0.t<=9/\P e0.x.L e0.x.fin e0.K.tv bx z.f (aq.fY e0.t z.k) z.t=br e0.K e0.x (e0.n+1) (aq.level e0.t) e0.s
def Rl(x:bk Nat)(F:ah)(u:oH)(q:Nat)(s:cX):=ar (bn fun(a:Nat)=>aq.level a) x F (ay (ad u.k)) [(0,ak x.x u.t),(1,F),(5020,af q (q0 s) 53)]
def Th(e0:bk Nat)(e1:ah)(v0:Value)(a:St)(mm:Nat):=∃(z:oH),Ij e0 z/\(ag (o4 e0)=ag (o4 e0)/\ad ↑e0.t=ad ↑e0.t/\v0=ad z.k/\True)/\aE a [(0,ak e0.x z.t),(1,e1)]/\z.f<mm
def RK(x:bk Nat)(F:ah)(q:Nat)(s:cX)(u:oH):oF->Unit->Prop:=fun c b=>Th x F (j5 c) [(0,ak c.x (c.s.add c.n)),(1,F),(5020,af q (q0 s) 53),(13060,bc)] u.f
def O2(x:bk Nat)(F:ah)(q:Nat)(s:cX)(u:oH):=(0<=(x.t:Int)/\(x.t:Int)<(↑(10:Nat):Int))/\eA F ⟨3,0+(x.t:Int).toNat*1,none⟩ (fun p o n=>aw q 1/\Gn [au p o n,ai (co s.L s.fin s.i).text] (aH [(0,ak x.x u.t),(1,F),(5020,af q (q0 s) 53)] []) (fun m l=>Br (!cM m.row m.t) (Rl x F u q s) (T1 (ak x.x u.t) ⟨x.x.b,1,none⟩ (fun k=>dE k/\dS (a7 Tryz.f37 7 7) [ag (some ⟨x.x.b,1,none⟩),ad (k+1)] [ak x.x u.t] (fun j i=>QZ x/\cq x.n 37 [ag (o4 x),ad ((x.t:Int)+1)] [ak j.x j.t] (aH [(0,ak j.x j.t),(1,F),(5020,af q (q0 s) 53)] [0]) (fun h g=>aS ((x.t:Int)<2) (true=true/\aw q 1/\rV [ag (o4 x),ad u.k] [ak h.x g.snd] (fun f e=>∀(d:Nat),db [ag (o4 x),agg ⟨[ad 14,ai (co s.L s.fin s.i).text,float f64 0,au (bI d) 2 2,ad (dz f.s f.k)]⟩] [ak f.x f.s,af d [ad u.k,ad g.fst] 3] (RK x F q s u))) (true=true/\aw q 1/\rV [ag (o4 x),ad u.k] [ak h.x g.snd] (fun f e=>∀(d:Nat),db [ag (o4 x),agg ⟨[ad 13,ai (co s.L s.fin s.i).text,float f64 0,au (bI d) 2 2,ad (dz f.s f.k)]⟩] [ak f.x f.s,af d [ad u.k,ad g.fst] 3] (RK x F q s u)))) (fun h b=>ar (bn fun(a:Nat)=>aq.level a) x F (ci b) [(0,bc),(1,F),(5020,af q (q0 s) 53)]))))))
theorem aia(x:bk Nat)(F:ah)(hc:aR.cond (bn (fun(m:Nat)=>aq.level m)) x)(D:aR.aO (bn (fun(m:Nat)=>aq.level m)) x F):Br ((x.t:Int)==10) (cq x.n 64 [ag (o4 x)] [ak x.x x.s] (aH [(0,ak x.x x.s),(1,F)] [0]) (fun c b=>ar (bn fun(a:Nat)=>aq.level a) x F (jE b) (lM c b F)) (fun c b=>ar (bn fun(a:Nat)=>aq.level a) x F (ci b) (h9 F))) (QZ x/\cq x.n 37 [ag (o4 x),ad ((x.t:Int)+1)] [ak x.x x.s] (aH [(0,ak x.x x.s),(1,F)] [0]) (fun w v=>(∃(a:oH),Ij x a/\(ag (o4 x)=ag (o4 x)/\ad ↑x.t=ad ↑x.t/\ad v.fst=ad a.k/\True)/\aE (lM w v F) [(0,ak x.x a.t),(1,F)])/\aT fun(u:oH)_=>Ij x u->fd [ag (o4 x)] (aH [(0,ak x.x u.t),(1,F)] []) (fun s r=>∀(q:Nat),cx q (true=true/\aw q 0/\Br (xr s) (aw q 0/\Br ((co s.L s.fin s.i).kind !=2) (Rl x F u q s) (O2 x F q s u)) (O2 x F q s u)))) (fun w b=>ar (bn fun(a:Nat)=>aq.level a) x F (ci b) (h9 F))):=by
 delta cq o4 jE lM ci h9 QZ Ij im fd xr q0 Rl eA p6 Ca Gn T1 dE lN lO dS rV kz kC db bI Th j5 RK O2 dT aH ak aw cx ad ai aj ag au af bc aS ay aT;obtain⟨K,x,s,os,n,d⟩:=x;obtain⟨ih,hK,M,hp,p,Q,y⟩:=hc;replace D:cB K x F:=D;replace y:br K x (n+1) (.level d) s≠.out:=y;dsimp only at ih hK M hp p Q⊢;obtain⟨r,e0⟩:∃r,br K x (n+1) (.level d) s=r:=⟨_,rfl⟩;rw[e0]at y;have hk:=e0;unfold br at hk;rw[P]at hk;have hl:=hK.len;have p:d<=10:=p;refine aG (fun h=>?_) (fun h=>?_)
 ·have h:((d:Int)==10)=true:=h;rw[fS 10 h,aU]at hk;exact ca M (t8 hk y) (fun _ _ q _ _ _ _ _ _ _=>eH (e0.trans q.symm)) (cC:=ao) (ct:=ao) (cN:=ao)
 have h:((d:Int)==10)=false:=h;have C:d<=9:=by
  rcases Nat.lt_or_ge d 10 with h'|h'
  ·omega
  ·rw[show d=10 by omega]at h;cases h
 rw[fS 10 h,aN]at hk;refine⟨⟨by(try dsimp only);omega,by(try dsimp only);omega⟩,?_⟩;refine ca M (fy hk y) (fun k t1 hk g1 R V H T E Y=>?_) (cC:=ao) (ct:=(show d+1<=10 by omega)) (cN:=ao);dsimp only[aq.sl,ap.ax,ap.add]at R V H T E Y;refine⟨⟨⟨t1,k,n⟩,⟨g1,bZ _,C,hk.trans e0.symm⟩,aV,aA [0,1]⟩,?_⟩;clear hk g1;rintro⟨t,k,f⟩ js ⟨g,B,-,hk⟩;dsimp only at g B hk⊢;rw[e0]at hk;obtain _|f:=f
 ·exact absurd hk (fun e=>y (e.symm.trans (by rw[P];rfl)))
 replace B:f<=n:=Nat.le_of_succ_le B;rw[P,m6]at hk;have NS:=g.nd;refine bs kR (x.p t) hl (D.ls.df 0 1 aL aL rfl rfl) fun _ _ c=>?_
 repeat (refine⟨al,?_⟩)
 refine lj (A:=uX x t) (fun kx=>⟨rfl,al,aG (fun L=>⟨al,aG (fun o=>?_) (fun o=>kx (.inr (Bs o)))⟩) (fun L=>kx (.inl (Bs L)))⟩) (fun hx=>?_)
 ·rw[show((aC x.L x.fin t).kind !=5)=true from L,show((aC x.L x.fin t).kind !=2)=true from o,Bool.and_self,Bool.true_or,aU]at hk;exact eH (e0.trans hk.symm)
 have hb:((aC x.L x.fin t).kind !=5&&(aC x.L x.fin t).kind !=2)=false:=by rcases hx with h|h <;> rw[h] <;> rfl
 rw[hb,Bool.false_or]at hk;obtain⟨row,l⟩:∃row,pQ[d]?=some row:=⟨_,fg (show d<pQ.length from Nat.lt_succ_of_le C)⟩;obtain⟨rb,ro,X,N,O⟩:=D.gp.Vy d row l;have z:=afJ d;rw[l]at hk z;rw[Option.getD_some]at hk z;refine⟨⟨by(try dsimp only);omega,by(try dsimp only);omega⟩,_,_,_,?_,al,Ue,rfl,⟨rb,ro,X,row,(aC x.L x.fin t).text⟩,rfl,rfl,z,c_.rest (j:=1) aL O,fun _ _=>aG (fun o=>?_) (fun o=>?_)⟩
 ·have e2:0+(d:Int).toNat*1=d:=by omega
  rw[e2];exact N
 ·rw[show(!cM row (aC x.L x.fin t).text)=true from o,aU]at hk;exact eH (e0.trans hk.symm)
 rw[show(!cM row (aC x.L x.fin t).text)=false from o,aN,kG]at hk;have g2:=g.step hx.lt;refine⟨_,el fun _=>rfl,nq (i:=t.i) (hO g.i hl),gw rfl rfl rfl,rfl,⟨x,t,t.ax,1,_⟩,rfl,rfl,⟨fun _=>rfl,rfl,a_,rfl,rfl⟩,ao,fun _ _=>?_⟩;refine⟨⟨by(try dsimp only);omega,by(try dsimp only);omega⟩,?_⟩;refine ca g2 ((fy hk y).up B) (fun k2 t1 hk g3 S W I U G Z=>?_) (cC:=ao) (ct:=(show d+1<=10 by omega)) (cN:=ao);dsimp only[aq.sl,ap.ax,ap.add]at S W I U G Z;rw[Af,xP]at hk;have hn3:=g3.nd;have hi3:1<=t1.i:=ae;refine bo (fun h3=>?_) (fun h3=>?_)
 ·rw[bw (show d<2 by omega),aU]at hk;refine⟨rfl,al,?_⟩;refine bO wk ⟨x,t1,k⟩ (g3.k9 aL) fun _ _=>?_;intro lb;have J:=PG.node (n:=⟨14,(aC x.L x.fin t).text,0,[k,k2],dz t1 k⟩) (g3.cast (gW _ _ _)) (g3.pos aL) ae;refine bO fi ⟨x,t1,⟨14,(aC x.L x.fin t).text,0,[k,k2],dz t1 k⟩,kT lb [k,k2]⟩ ⟨by have:=g3.cap hl;dsimp only[ap.ax,ap.add]at*;omega,jw lb [k,k2]⟩ fun _ _=>?_;exact⟨⟨_,_,f⟩,⟨J,B,C,hk.trans e0.symm⟩,aV,aA [0,1],gZ _⟩
 ·rw[bF (show ¬d<2 by omega),aN]at hk;refine⟨rfl,al,?_⟩;refine bO wk ⟨x,t1,k⟩ (g3.k9 aL) fun _ _=>?_;intro lb;have J:=PG.node (n:=⟨13,(aC x.L x.fin t).text,0,[k,k2],dz t1 k⟩) (g3.cast (gW _ _ _)) (g3.pos aL) ae;refine bO fi ⟨x,t1,⟨13,(aC x.L x.fin t).text,0,[k,k2],dz t1 k⟩,kT lb [k,k2]⟩ ⟨by have:=g3.cap hl;dsimp only[ap.ax,ap.add]at*;omega,jw lb [k,k2]⟩ fun _ _=>?_;exact⟨⟨_,_,f⟩,⟨J,B,C,hk.trans e0.symm⟩,aV,aA [0,1],gZ _⟩
theorem ah_:aD 37 (bn (fun(m:Nat)=>aq.level m)):=fo 62 Tryz.func37 ah9 [] ah7 aY ah8 [] aia
end
section
open Go
structure lR where
 K:bR
 x:cj
 s:ap
 os:List Int
 n:Nat
 kc:Nat
 pc:Nat
 ks:List Int
 r:Row
def iE(x:lR):List Value:=[ag (some ⟨x.x.b,0,none⟩)]
def qS(x:lR):List Value:=[au x.r.a x.r.n x.r.cap]
def yE:aR where
 X:=lR
 Y:=(Int×ap×Row) ⊕ (Int×Int)
 args x:=[ag (some ⟨x.kc,0,none⟩),ag (some ⟨x.pc,0,none⟩)]
 pre x:=[ak x.x x.s,af x.kc (qS x) 33,af x.pc (iE x) 39,x.r.A]
 cond x:=(∀bJ,aD bJ (cz x.n bJ))/\gS x.K x.x/\PG x.x x.s (x.os++x.ks)/\bz 3 1 (bB x.ks) x.r/\br x.K x.x x.n .bf x.s≠.out
 aO x F:=cB x.K x.x F
 b_ x y:=match y with
  | .inl a=>br x.K x.x x.n .bf x.s= .ok [a.1] a.2.1/\bz 3 1 (bB (x.ks++[a.1])) a.2.2
  | .inr a=>∃t,br x.K x.x x.n .bf x.s= .stop a.1 a.2 t
 val x y:=match y with
  | .inl _=>.returned (.tuple #[])
  | .inr a=>.panicked [⟨iG a.1 a.2,false,false⟩]
 post x y:=match y with
  | .inl a=>[ak x.x a.2.1,.cells x.kc [.slice a.2.2.a a.2.2.n a.2.2.cap] 33,.cells x.pc [.pointer (some ⟨x.x.b,0,none⟩)] 39,a.2.2.A]
  | .inr _=>[]
 eT _ _ _ hs h:=cB.sub hs h
 sum:=some (ia (Int×ap×Row) (Int×Int))
def aap(x:lR)(a:ah):List (Nat×Nat×OH):=[(0,0,aP 1),(0,1,aP 2),(0,2,bv (cz x.n 14)),(0,3,.n 1030),(0,4,.o (dm 3 1 8) [3] [3]),(0,5,.w [.z00 1])]
def Jy(x:lR)(F:ah):=aH [(0,ak x.x x.s),(1,af x.kc (qS x) 33),(2,af x.pc (iE x) 39),(3,x.r.A),(4,F)] [0]
def JV(x:lR)(F:ah):=[(0,bc),(1,af x.kc (qS x) 33),(2,af x.pc (iE x) 39),(3,x.r.A),(4,F)]
theorem aar(x:lR)(F:ah)(o:yE.cond x)(i:yE.aO x F):true=true/\aw x.kc 0/\aw x.pc 0/\cq x.n 14 (iE x) [ak x.x x.s] (Jy x F) (fun e d=>∀(c:Nat),fG (a7 Tryz.f113 0 4) [au x.r.a x.r.n x.r.cap,au (bI c) 1 1] [x.r.A] (aH [(0,ak e.x d.snd),(1,af x.kc (qS x) 33),(2,af x.pc (iE x) 39),(3,x.r.A),(4,F),(1030,af c (bN d) 3)] [3]) (fun b a=>aw x.kc 0/\ar yE x F eM [(0,ak e.x d.snd),(1,af x.kc (vi a) 33),(2,af x.pc (iE x) 39),(3,a.A),(4,F),(1030,af c (bN d) 3)])) (fun e b=>∀(a:Tm),ar yE x F (ci b) (JV x F)):=by
 delta cq iE qS Jy k7 fG bI bN eM vi ci JV dT aH ak aw ad ag au af bc ay;obtain⟨K,x,s,os,n,kc,pc,ks,u⟩:=x;obtain⟨l,h,g,f,j⟩:=o;replace i:cB K x F:=i;dsimp only at l h g f j⊢;refine⟨rfl,al,al,l _,rfl,⟨K,x,s,os++ks,.bf⟩,rfl,rfl,⟨h,g,rfl,ao,ao,ao,j⟩,i.sub (bU 4),fun a q=>?_,fun a q=>fun _=>⟨.inr a,q,rfl,aA [4]⟩⟩;obtain⟨k,t⟩:=a;replace q:br K x n .bf s= .ok [k] t:=q;intro lb;have p:=py g h.len;refine lq (ks:=ks) (k:=k) 1030 f ae (fun r m=>?_);exact⟨al,.inl (k,t,r),⟨q,m⟩,rfl,aA [0,1,2,3,4]⟩
theorem aaq:aD 113 yE:=fo 7 Tryz.func113 aap [] aY aY bA [] aar
def hC(L:List bh)(fin:Int)(tv:Nat->ByteArray)(n:Nat):PM (List Int):=do
 let k <-d5 L fin tv bx
 cw L fin colon
 let e <-one (P L fin tv bx n .bf)
 ret [k,e]
def uE:aR where
 X:=lR
 Y:=(Int×Int×ap×Row) ⊕ (Int×Int)
 args x:=[ag (some ⟨x.kc,0,none⟩),ag (some ⟨x.pc,0,none⟩)]
 pre x:=[ak x.x x.s,af x.kc (qS x) 33,af x.pc (iE x) 39,x.r.A]
 cond x:=(∀bJ,aD bJ (cz x.n bJ))/\gS x.K x.x/\PG x.x x.s (x.os++x.ks)/\bz 3 1 (bB x.ks) x.r/\hC x.x.L x.x.fin x.K.tv x.n x.s≠.out
 aO x F:=cB x.K x.x F
 b_ x y:=match y with
  | .inl a=>hC x.x.L x.x.fin x.K.tv x.n x.s= .ok [a.1,a.2.1] a.2.2.1/\bz 3 1 (bB (x.ks++[a.1]++[a.2.1])) a.2.2.2/\PG x.x a.2.2.1 (x.os++x.ks++[a.1]++[a.2.1])
  | .inr a=>∃t,hC x.x.L x.x.fin x.K.tv x.n x.s= .stop a.1 a.2 t
 val x y:=match y with
  | .inl _=>.returned (.tuple #[])
  | .inr a=>.panicked [⟨iG a.1 a.2,false,false⟩]
 post x y:=match y with
  | .inl a=>[ak x.x a.2.2.1,.cells x.kc [.slice a.2.2.2.a a.2.2.2.n a.2.2.2.cap] 33,.cells x.pc [.pointer (some ⟨x.x.b,0,none⟩)] 39,a.2.2.2.A]
  | .inr _=>[]
 eT _ _ _ hs h:=cB.sub hs h
 sum:=some (ia (Int×Int×ap×Row) (Int×Int))
def aas(x:lR)(a:ah):List (Nat×Nat×OH):=[(0,0,aP 1),(0,1,aP 2),(0,2,bv y_),(0,3,.n 1030),(0,4,.o (dm 3 1 8) [3] [3]),(0,5,.w [.z00 1]),(1,0,aP 2),(1,1,bv ik),(2,0,aP 1),(2,1,aP 2),(2,2,bv (cz x.n 14)),(2,3,.n 3030),(2,4,.o (dm 3 1 8) [3] [3]),(2,5,.w [.z00 1])]
def BX(l:mD):List Value:=[ad ↑l.s.nodes.length]
def RP(e:nQ)(d:Int×ap)(x:lR)(h:Row)(F:ah)(j:Nat)(l:mD)(c:Nat):=[(0,ak e.x d.snd),(1,af x.kc (vi h) 33),(2,af x.pc (iE x) 39),(3,h.A),(4,F),(1030,af j (BX l) 3),(3030,af c (bN d) 3)]
def RA(x:lR)(h:Row)(F:ah)(j:Nat)(l:mD):=[(0,bc),(1,af x.kc (vi h) 33),(2,af x.pc (iE x) 39),(3,h.A),(4,F),(1030,af j (BX l) 3)]
theorem aay(x:lR)(F:ah)(N:uE.cond x)(C:uE.aO x F):true=true/\aw x.kc 0/\aw x.pc 0/\aD 115 y_/\true=true/\∃(l:mD),(iE x)=[ag (tW l)]/\[ak x.x x.s]=[ak l.x l.s]/\(PaK l.K l.x/\l.s.nodes.length<=4194304)/\cB l.K l.x (Jy x F)/\(∀(k:ap),d5 l.x.L l.x.fin l.K.tv bx l.s=PR.ok (l.s.nodes.length:Int) k->∀(j:Nat),fG (a7 Tryz.f114 0 4) [au x.r.a x.r.n x.r.cap,au (bI j) 1 1] [x.r.A] (aH [(0,ak l.x k),(1,af x.kc (qS x) 33),(2,af x.pc (iE x) 39),(3,x.r.A),(4,F),(1030,af j (BX l) 3)] [3]) (fun i h=>aw x.kc 0/\aw x.pc 0/\gi [ag (some ⟨x.x.b,0,none⟩),ai ⟨#[58]⟩] [ak l.x k] (aH [(0,ak l.x k),(1,af x.kc (vi h) 33),(2,af x.pc (iE x) 39),(3,h.A),(4,F),(1030,af j (BX l) 3)] [0]) (fun g f=>true=true/\aw x.kc 0/\aw x.pc 0/\cq x.n 14 (iE x) [ak g.x g.s.ax] (aH [(0,ak g.x g.s.ax),(1,af x.kc (vi h) 33),(2,af x.pc (iE x) 39),(3,h.A),(4,F),(1030,af j (BX l) 3)] [0]) (fun e d=>∀(c:Nat),fG (a7 Tryz.f114 2 4) (tR h c) [h.A] (aH (RP e d x h F j l c) [3]) (fun b a=>aw x.kc 0/\ar uE x F eM (RP e d x a F j l c))) (fun e b=>∀(a:Tm),ar uE x F (ci b) (RA x h F j l))) (fun g a=>ar uE x F (gr g) (RA x h F j l))))/\∀(b:Int),d5 l.x.L l.x.fin l.K.tv bx l.s=PR.stop b (60:Int) l.s->∀(a:Tm),ar uE x F (dT b 60) (JV x F):=by
 delta iE tW qS Jy k7 fG bI BX jh gi vi cq tR bN RP eM ci RA gr JV dT aH ak aw ad ai ag au af bc ay;obtain⟨K,x,s,os,n,kc,pc,ks,R⟩:=x;obtain⟨P,v,o,m,B⟩:=N;replace C:cB K x F:=C;dsimp only at P v o m B⊢;have hl:=v.len;obtain⟨r,e0⟩:∃r,hC x.L x.fin K.tv n s=r:=⟨_,rfl⟩;rw[e0]at B;have hk:=e0;rw[hC]at hk;refine⟨rfl,al,al,afs,rfl,⟨K,x,s⟩,rfl,rfl,⟨v.toPaK,by have:=o.cap hl;dsimp only;omega⟩,C.sub (bU 4),fun u q=>?_,fun p q=>fun _=>⟨.inr (p,60),⟨_,e0.trans (hk.symm.trans (Fv q))⟩,rfl,aA [4]⟩⟩;replace q:d5 x.L x.fin K.tv bx s= .ok (s.nodes.length:Int) u:=q;obtain⟨g1,i1,-⟩:=PG.key v o q;rw[rv q]at hk;clear q;intro lb;have O:=py o hl;refine lq (ks:=ks) (k:=(s.nodes.length:Int)) 1030 m ae (fun Q z=>?_);refine⟨al,al,?_⟩;refine ma g1 hk (fun hk M=>?_);refine⟨rfl,al,al,?_⟩;refine ca M (fy hk B) (fun e t hk g3 D H y G w I=>?_) (cC:=ao) (ct:=ao) (cN:=ao);dsimp only[aq.sl,ap.ax,ap.add]at D H y G w I;rw[Ag]at hk;intro E;have J:=py (os:=os) (ks:=ks++[(s.nodes.length:Int)]) (g1.cast (gW _ _ _)) hl;refine bs (jN 1 8 rfl rfl rfl rfl rfl rfl rfl (by decide)) ⟨Q,bB (ks++[(s.nodes.length:Int)]),some ⟨E,0,none⟩,1,1,bB [e]⟩ ⟨z,rfl,uV _,vz z ae,vA z ae,fun h=>nomatch h⟩ (vF 3030 rfl) fun L A=>?_;replace A:bz 3 1 (bB (ks++[(s.nodes.length:Int)]++[e])) L:=by rw[uU];exact A.1
 exact⟨al,.inl ((s.nodes.length:Int),e,t,L),⟨e0.trans hk.symm,A,g3⟩,rfl,aA [0,1,2,3,4]⟩
theorem aax:aD 114 uE:=fo 14 Tryz.func114 aas [] aY aY bA [] aay
section
variable{L:List bh}{fin:Int}{tv:Nat->ByteArray}{f:Nat}{s u:ap}{R:Int->Int->PM (List Int)}
theorem M3:(∃k e u,hC L fin tv f s= .ok [k,e] u/\∀R:Int->Int->PM (List Int),(d5 L fin tv bx>>=fun k=>cw L fin colon>>=fun _=>one (P L fin tv bx f .bf)>>=fun e=>R k e) s=R k e u)\/(∃p e u,hC L fin tv f s= .stop p e u/\∀R:Int->Int->PM (List Int),(d5 L fin tv bx>>=fun k=>cw L fin colon>>=fun _=>one (P L fin tv bx f .bf)>>=fun e=>R k e) s= .stop p e u)\/(hC L fin tv f s= .out/\∀R:Int->Int->PM (List Int),(d5 L fin tv bx>>=fun k=>cw L fin colon>>=fun _=>one (P L fin tv bx f .bf)>>=fun e=>R k e) s= .out):=by
 cases a:d5 L fin tv bx s with
 |stop p e u=>exact .inr (.inl ⟨p,e,u,by rw[hC,Fv a],fun R=>by rw[Fv a]⟩)
 |out=>exact .inr (.inr ⟨by rw[hC];show bS _ _ s=_;unfold bS;rw[a],fun R=>by show bS _ _ s=_;unfold bS;rw[a]⟩)
 |ok k u=>
  cases b:bg L u 0 colon with
  |false=>exact .inr (.inl ⟨_,_,_,by rw[hC,rv a,Fw b],fun R=>by rw[rv a,Fw b]⟩)
  |true=>
   cases c:one (P L fin tv bx f .bf) u.ax with
   |ok e v=>exact .inl ⟨k,e,v,by rw[hC,rv a,ue b,CD c,Ag],fun R=>by rw[rv a,ue b,CD c]⟩
   |stop p e v=>exact .inr (.inl ⟨p,e,v,by rw[hC,rv a,ue b,CE c],fun R=>by rw[rv a,ue b,CE c]⟩)
   |out=>exact .inr (.inr ⟨by rw[hC,rv a,ue b];show bS _ _ u.ax=_;unfold bS;rw[c],fun R=>by rw[rv a,ue b];show bS _ _ u.ax=_;unfold bS;rw[c]⟩)
theorem aat{k e:Int}(h:hC L fin tv f s= .ok [k,e] u):(d5 L fin tv bx>>=fun k=>cw L fin colon>>=fun _=>one (P L fin tv bx f .bf)>>=fun e=>R k e) s=R k e u:=by
 rcases M3 (L:=L) (fin:=fin) (tv:=tv) (f:=f) (s:=s)with⟨k',c,d,a,b⟩| ⟨p,c,d,a,b⟩| ⟨a,b⟩
 ·rw[h]at a;cases a;exact b R
 ·rw[h]at a;cases a
 ·rw[h]at a;cases a
theorem aav{p e:Int}(h:hC L fin tv f s= .stop p e u):(d5 L fin tv bx>>=fun k=>cw L fin colon>>=fun _=>one (P L fin tv bx f .bf)>>=fun e=>R k e) s= .stop p e u:=by
 rcases M3 (L:=L) (fin:=fin) (tv:=tv) (f:=f) (s:=s)with⟨k',c,d,a,b⟩| ⟨p',c,d,a,b⟩| ⟨a,b⟩
 ·rw[h]at a;cases a
 ·rw[h]at a;cases a;exact b R
 ·rw[h]at a;cases a
theorem aau(h:(d5 L fin tv bx>>=fun k=>cw L fin colon>>=fun _=>one (P L fin tv bx f .bf)>>=fun e=>R k e) s≠.out):hC L fin tv f s≠.out:=by
 rcases M3 (L:=L) (fin:=fin) (tv:=tv) (f:=f) (s:=s)with⟨k',c,d,a,b⟩| ⟨p',c,d,a,b⟩| ⟨a,b⟩
 ·rw[a];intro e;cases e
 ·rw[a];intro e;cases e
 ·exact absurd (b R) h
theorem aaw{n:Nat}(c:f<=n)(h:hC L fin tv f s≠.out):hC L fin tv n s=hC L fin tv f s:=by
 unfold hC at h⊢;cases a:d5 L fin tv bx s with
 |stop p e u=>rw[Fv a,Fv a]
 |out=>exact absurd (by show bS _ _ s=_;unfold bS;rw[a]) h
 |ok k u=>
  rw[rv a]at h;rw[rv a,rv a];cases b:bg L u 0 colon with
  |false=>rw[Fw b,Fw b]
  |true=>
   rw[ue b]at h;rw[ue b,ue b];have e1:P L fin tv bx n .bf u.ax=P L fin tv bx f .bf u.ax:=by
    rcases yp (L:=L) (fin:=fin) (aJ:=tv) (wide:=bx) c .bf u.ax with e|e
    ·exact absurd e (Ss h)
    ·exact e
   show bS (one _) _ _=bS (one _) _ _;unfold bS one bS;rw[e1]
end
structure kg where
 a:lR
 f:Nat
structure pw where
 t:ap
 ks:List Int
 r:Row
 f:Nat
def mh(x:kg):Option Addr:=some ⟨x.a.x.b,0,none⟩
def zU(x:kg):List Value:=[au x.a.r.a x.a.r.n x.a.r.cap]
def o7(x:kg):List Value:=[ag (mh x)]
def nt(bJ:FuncId)(b:ByteArray)(c:List Int->aq):aR where
 X:=kg
 Y:=(List Int×ap×Row) ⊕ (Int×Int)
 args x:=[.pointer (some ⟨x.a.x.b,0,none⟩),.string b,.func (.func bJ) #[] #[.pointer (some ⟨x.a.kc,0,none⟩),.pointer (some ⟨x.a.pc,0,none⟩)]]
 pre x:=[ak x.a.x x.a.s,af x.a.kc (zU x) 33,af x.a.pc (o7 x) 39,x.a.r.A]
 cond x:=(∀bJ,aD bJ (cz x.a.n bJ))/\gS x.a.K x.a.x/\PG x.a.x x.a.s (x.a.os++x.a.ks)/\bz 3 1 (bB x.a.ks) x.a.r/\x.f<=x.a.n/\br x.a.K x.a.x x.f (c x.a.ks) x.a.s≠.out
 aO x F:=cB x.a.K x.a.x F
 b_ x y:=match y with
  | .inl a=>br x.a.K x.a.x x.f (c x.a.ks) x.a.s= .ok a.1 a.2.1/\bz 3 1 (bB a.1) a.2.2/\PG x.a.x a.2.1 (x.a.os++a.1)
  | .inr a=>∃t,br x.a.K x.a.x x.f (c x.a.ks) x.a.s= .stop a.1 a.2 t
 val x y:=match y with
  | .inl _=>.returned (.tuple #[])
  | .inr a=>.panicked [⟨iG a.1 a.2,false,false⟩]
 post x y:=match y with
  | .inl a=>[ak x.a.x a.2.1,.cells x.a.kc [.slice a.2.2.a a.2.2.n a.2.2.cap] 33,.cells x.a.pc [.pointer (some ⟨x.a.x.b,0,none⟩)] 39,a.2.2.A]
  | .inr _=>[]
 eT _ _ _ hs h:=cB.sub hs h
 sum:=some (ia (List Int×ap×Row) (Int×Int))
def w4(d:pw):List Value:=[au d.r.a d.r.n d.r.cap]
def VC(bJ:FuncId)(a:ByteArray)(b:List Int->aq)(x:kg)(F:ah):Nat->Option Inv:=fun
 |0=>some {X:=pw,P:=fun d=>PG x.a.x d.t (x.a.os++d.ks)/\bz 3 1 (bB d.ks) d.r/\d.f<=x.a.n/\P x.a.x.L x.a.x.fin x.a.K.tv bx d.f (b d.ks) d.t=br x.a.K x.a.x x.f (b x.a.ks) x.a.s,mu:=fun d=>d.f,lv:=fun _=>[(0,.pointer (some ⟨x.a.x.b,0,none⟩)),(1,.string a),(2,.func (.func bJ) #[] #[.pointer (some ⟨x.a.kc,0,none⟩),.pointer (some ⟨x.a.pc,0,none⟩)])],st:=fun d=>[ak x.a.x d.t,af x.a.kc (w4 d) 33,af x.a.pc (o7 x) 39,d.r.A,F]}
 |_=>none
def O_(x:kg)(b:pw):=PG x.a.x b.t (x.a.os++b.ks)/\bz 3 1 (bB b.ks) b.r/\b.f<=x.a.n/\P x.a.x.L x.a.x.fin x.a.K.tv bx b.f ((fun(a:List Int)=>aq.cS a) b.ks) b.t=br x.a.K x.a.x x.f ((fun(a:List Int)=>aq.cS a) x.a.ks) x.a.s
def sJ(e0:kg):List Value:=[ag (some ⟨e0.a.kc,0,none⟩),ag (some ⟨e0.a.pc,0,none⟩)]
def Pw(e0:kg):=ag (mh e0)=ag (mh e0)/\ai rb=ai rb/\func (Fn.func 113) ⟨[]⟩ ⟨sJ e0⟩=func (Fn.func 113) ⟨[]⟩ ⟨sJ e0⟩/\True
def Jk(x:kg)(F:ah):=[(0,ak x.a.x x.a.s),(1,af x.a.kc (zU x) 33),(2,af x.a.pc (o7 x) 39),(3,x.a.r.A),(4,F)]
def xx(e0:kg)(z:pw)(e1:ah):=[(0,ak e0.a.x z.t),(1,af e0.a.kc (w4 z) 33),(2,af e0.a.pc (o7 e0) 39),(3,z.r.A),(4,e1)]
def Ke(j:iK)(x:kg)(l:pw)(F:ah):=[(0,ak j.x j.s.ax),(1,af x.a.kc (w4 l) 33),(2,af x.a.pc (o7 x) 39),(3,l.r.A),(4,F)]
def J7(h:lR):List Value:=[ag (some ⟨h.kc,0,none⟩),ag (some ⟨h.pc,0,none⟩)]
def JG(j:iK)(x:kg)(l:pw)(F:ah):=aH [(0,ak j.x j.s),(1,af x.a.kc (w4 l) 33),(2,af x.a.pc (o7 x) 39),(3,l.r.A),(4,F)] [0,1,2,3]
def JY(g:Int×ap×Row):List Value:=[au g.snd.snd.a g.snd.snd.n g.snd.snd.cap]
def Iq(h:lR)(g:Int×ap×Row)(F:ah):=[(0,ak h.x g.snd.fst),(1,af h.kc (JY g) 33),(2,af h.pc (iE h) 39),(3,g.snd.snd.A),(4,F)]
def Ml(e0:kg)(e1:ah)(a:St)(mm:Nat):=∃(z:pw),(PG e0.a.x z.t (e0.a.os++z.ks)/\bz 3 1 (bB z.ks) z.r/\z.f<=e0.a.n/\P e0.a.x.L e0.a.x.fin e0.a.K.tv bx z.f ((fun(w0:List Int)=>aq.cS w0) z.ks) z.t=br e0.a.K e0.a.x e0.f ((fun(w0:List Int)=>aq.cS w0) e0.a.ks) e0.a.s)/\Pw e0/\aE a (xx e0 z e1)/\z.f<mm
theorem afz(x:kg)(F:ah)(L:aR.cond (nt 113 rb (fun ks=>aq.cS ks)) x)(v:aR.aO (nt 113 rb (fun ks=>aq.cS ks)) x F):(∃(b:pw),O_ x b/\Pw x/\aE (Jk x F) (xx x b F))/\aT fun(l:pw)_=>O_ x l->fQ [ag (mh x),ai rb] [ak x.a.x l.t] (aH (xx x l F) [0]) (fun j b=>ar (nt (113:FuncId) rb fun(a:List Int)=>aq.cS a) x F eM (Ke j x l F)) (fun j i=>aD 113 yE/\true=true/\∃(h:lR),(sJ x)=(J7 h)/\[ak j.x j.s,af x.a.kc (w4 l) 33,af x.a.pc (o7 x) 39,l.r.A]=[ak h.x h.s,af h.kc (qS h) 33,af h.pc (iE h) 39,h.r.A]/\((∀(a:FuncId),aD a (cz h.n a))/\gS h.K h.x/\PG h.x h.s (h.os++h.ks)/\bz 3 1 (bB h.ks) h.r/\br h.K h.x h.n aq.bf h.s≠PR.out)/\cB h.K h.x (JG j x l F)/\(∀(g:Int×ap×Row),(br h.K h.x h.n aq.bf h.s=PR.ok [g.fst] g.snd.fst/\bz 3 1 (bB (h.ks++[g.fst])) g.snd.snd)->gA [ag (mh x),ad 0,ai rb] (aH (Iq h g F) []) (fun f e=>Br (!ii f.p.L (f.p.i+f.a) f.t) (gi [ag (mh x),ai ⟨#[44]⟩] [ak h.x g.snd.fst] (aH (Iq h g F) [0]) (fun d c=>Ml x F [(0,ak d.x d.s.ax),(1,af h.kc (JY g) 33),(2,af h.pc (iE h) 39),(3,g.snd.snd.A),(4,F)] l.f) (fun d b=>ar (nt (113:FuncId) rb fun(a:List Int)=>aq.cS a) x F (gr d) [(0,bc),(1,af h.kc (JY g) 33),(2,af h.pc (iE h) 39),(3,g.snd.snd.A),(4,F)])) (Ml x F (Iq h g F) l.f)))/\∀(b:Int×Int),(∃(a:ap),br h.K h.x h.n aq.bf h.s=PR.stop b.fst b.snd a)->ar (nt (113:FuncId) rb fun(a:List Int)=>aq.cS a) x F (ci b) [(0,bc),(1,bc),(2,bc),(3,bc),(4,F)]):=by
 delta O_ mh sJ Pw zU o7 Jk w4 xx jh fQ eM Ke J7 qS iE JG p7 p8 gA JY Iq gi Ml gr ci dT aH ak ad ai ag au af bc ay aT;obtain⟨⟨K,x,s,os,n,kc,pc,ks,M⟩,f⟩:=x;obtain⟨I,z,G,p,H,A⟩:=L;replace v:cB K x F:=v;dsimp only at I z G p H A⊢;have hl:=z.len;obtain⟨r,e0⟩:∃r,br K x f (.cS ks) s=r:=⟨_,rfl⟩;rw[e0]at A;refine⟨⟨⟨s,ks,M,f⟩,⟨G,p,H,rfl⟩,aV,aA [0,1,2,3,4]⟩,?_⟩;rintro⟨t,o,w,f2⟩ N ⟨g,k,m,hk⟩;dsimp only at g k m hk⊢;rw[e0]at hk;obtain _|f2:=f2
 ·exact absurd hk (fun e=>A (e.symm.trans (by rw[P];rfl)))
 replace m:f2<=n:=Nat.le_of_succ_le m;rw[P]at hk;refine bs jT ⟨x,t,rb⟩ ⟨hl,g.i⟩ (v.ls.sub (bU 4)) ⟨fun _ q=>?_,fun _ q=>?_⟩
 ·rw[lf q,aU,Ag]at hk;exact⟨.inl (o,t.ax,w),⟨e0.trans hk.symm,k,g.is q⟩,rfl,aA [0,1,2,3,4]⟩
 rw[lP q,aN]at hk;have J:br K x f2 .bf t≠.out:=Ss (by rw[hk];exact A);have B:br K x n .bf t=br K x f2 .bf t:=Wo m J;refine bs aaq ⟨K,x,t,os,n,kc,pc,o,w⟩ ⟨I,z,g,k,fun e=>J (B.symm.trans e)⟩ (v.sub (bU 4)) ⟨fun a D=>?_,fun a⟨u,D⟩=>⟨.inr a,⟨u,e0.trans (hk.symm.trans (Xg (B.symm.trans D)))⟩,rfl,aA [4]⟩⟩;obtain⟨e,t1,E⟩:=a;obtain⟨q1,y⟩:=D;replace q1:br K x f2 .bf t= .ok [e] t1:=B.symm.trans q1;replace y:bz 3 1 (bB (o++[e])) E:=y;obtain⟨C,-⟩:=PG.run (tag:=.bf) z g trivial trivial rfl rfl q1;rw[Xf q1,Fu]at hk;refine bs jW ⟨x.p t1,0,rb⟩ ⟨hl,by have:=C.i;show t1.i<=1048576;omega,a_⟩ (v.ls.df 0 4 aL aL rfl rfl) fun _ _=>aG (fun h=>?_) (fun h=>?_)
 ·rw[show(!bg x.L t1 0 rb)=true from h,aU]at hk;refine ma C hk (fun hk g3=>?_);exact⟨⟨t1.ax,o++[e],E,f2⟩,⟨g3.cast (gW _ _ _),y,m,hk.trans e0.symm⟩,aV,aA [0,1,2,3,4],gZ _⟩
 ·rw[show(!bg x.L t1 0 rb)=false from h,aN,ip]at hk;exact⟨⟨t1,o++[e],E,f2⟩,⟨C.cast (gW _ _ _),y,m,hk.trans e0.symm⟩,aV,aA [0,1,2,3,4],gZ _⟩
theorem afy:aD 112 (nt 113 rb (fun ks=>aq.cS ks)):=fo 18 Tryz.func112 (fun _ _=>[(0,2,bv ig),(1,1,.c yE [0,1,2,3] [0,1,2,3]),(2,2,aX gF),(3,1,bv ik)]) [] (VC 113 rb (fun ks=>aq.cS ks)) aY bA [] afz
def Pa(x:kg)(b:pw):=PG x.a.x b.t (x.a.os++b.ks)/\bz 3 1 (bB b.ks) b.r/\b.f<=x.a.n/\P x.a.x.L x.a.x.fin x.a.K.tv bx b.f ((fun(a:List Int)=>aq.cW a) b.ks) b.t=br x.a.K x.a.x x.f ((fun(a:List Int)=>aq.cW a) x.a.ks) x.a.s
def Px(e0:kg):=ag (mh e0)=ag (mh e0)/\ai rc=ai rc/\func (Fn.func 114) ⟨[]⟩ ⟨sJ e0⟩=func (Fn.func 114) ⟨[]⟩ ⟨sJ e0⟩/\True
def JF(g:Int×Int×ap×Row):List Value:=[au g.snd.snd.snd.a g.snd.snd.snd.n g.snd.snd.snd.cap]
def Ii(h:lR)(g:Int×Int×ap×Row)(F:ah):=[(0,ak h.x g.snd.snd.fst),(1,af h.kc (JF g) 33),(2,af h.pc (iE h) 39),(3,g.snd.snd.snd.A),(4,F)]
def Mm(e0:kg)(e1:ah)(a:St)(mm:Nat):=∃(z:pw),(PG e0.a.x z.t (e0.a.os++z.ks)/\bz 3 1 (bB z.ks) z.r/\z.f<=e0.a.n/\P e0.a.x.L e0.a.x.fin e0.a.K.tv bx z.f ((fun(w0:List Int)=>aq.cW w0) z.ks) z.t=br e0.a.K e0.a.x e0.f ((fun(w0:List Int)=>aq.cW w0) e0.a.ks) e0.a.s)/\Px e0/\aE a (xx e0 z e1)/\z.f<mm
theorem afC(x:kg)(F:ah)(N:aR.cond (nt 114 rc (fun ks=>aq.cW ks)) x)(y:aR.aO (nt 114 rc (fun ks=>aq.cW ks)) x F):(∃(b:pw),Pa x b/\Px x/\aE (Jk x F) (xx x b F))/\aT fun(l:pw)_=>Pa x l->fQ [ag (mh x),ai rc] [ak x.a.x l.t] (aH (xx x l F) [0]) (fun j b=>ar (nt (114:FuncId) rc fun(a:List Int)=>aq.cW a) x F eM (Ke j x l F)) (fun j i=>aD 114 uE/\true=true/\∃(h:lR),(sJ x)=(J7 h)/\[ak j.x j.s,af x.a.kc (w4 l) 33,af x.a.pc (o7 x) 39,l.r.A]=[ak h.x h.s,af h.kc (qS h) 33,af h.pc (iE h) 39,h.r.A]/\((∀(a:FuncId),aD a (cz h.n a))/\gS h.K h.x/\PG h.x h.s (h.os++h.ks)/\bz 3 1 (bB h.ks) h.r/\hC h.x.L h.x.fin h.K.tv h.n h.s≠PR.out)/\cB h.K h.x (JG j x l F)/\(∀(g:Int×Int×ap×Row),(hC h.x.L h.x.fin h.K.tv h.n h.s=PR.ok [g.fst,g.snd.fst] g.snd.snd.fst/\bz 3 1 (bB (h.ks++[g.fst]++[g.snd.fst])) g.snd.snd.snd/\PG h.x g.snd.snd.fst (h.os++h.ks++[g.fst]++[g.snd.fst]))->gA [ag (mh x),ad 0,ai rc] (aH (Ii h g F) []) (fun f e=>Br (!ii f.p.L (f.p.i+f.a) f.t) (gi [ag (mh x),ai ⟨#[44]⟩] [ak h.x g.snd.snd.fst] (aH (Ii h g F) [0]) (fun d c=>Mm x F [(0,ak d.x d.s.ax),(1,af h.kc (JF g) 33),(2,af h.pc (iE h) 39),(3,g.snd.snd.snd.A),(4,F)] l.f) (fun d b=>ar (nt (114:FuncId) rc fun(a:List Int)=>aq.cW a) x F (gr d) [(0,bc),(1,af h.kc (JF g) 33),(2,af h.pc (iE h) 39),(3,g.snd.snd.snd.A),(4,F)])) (Mm x F (Ii h g F) l.f)))/\∀(b:Int×Int),(∃(a:ap),hC h.x.L h.x.fin h.K.tv h.n h.s=PR.stop b.fst b.snd a)->ar (nt (114:FuncId) rc fun(a:List Int)=>aq.cW a) x F (ci b) [(0,bc),(1,bc),(2,bc),(3,bc),(4,F)]):=by
 delta Pa mh sJ Px zU o7 Jk w4 xx jh fQ eM Ke J7 qS iE JG p7 p8 gA JF Ii gi Mm gr ci dT aH ak ad ai ag au af bc ay aT;obtain⟨⟨K,x,s,os,n,kc,pc,ks,O⟩,f⟩:=x;obtain⟨L,E,I,v,J,C⟩:=N;replace y:cB K x F:=y;dsimp only at L E I v J C⊢;have hl:=E.len;obtain⟨r,e0⟩:∃r,br K x f (.cW ks) s=r:=⟨_,rfl⟩;rw[e0]at C;refine⟨⟨⟨s,ks,O,f⟩,⟨I,v,J,rfl⟩,aV,aA [0,1,2,3,4]⟩,?_⟩;rintro⟨t,o,z,f2⟩ Q ⟨g,m,p,hk⟩;dsimp only at g m p hk⊢;rw[e0]at hk;obtain _|f2:=f2
 ·exact absurd hk (fun e=>C (e.symm.trans (by rw[P];rfl)))
 replace p:f2<=n:=Nat.le_of_succ_le p;rw[P]at hk;refine bs jT ⟨x,t,rc⟩ ⟨hl,g.i⟩ (y.ls.sub (bU 4)) ⟨fun _ q=>?_,fun _ q=>?_⟩
 ·rw[lf q,aU,Ag]at hk;exact⟨.inl (o,t.ax,z),⟨e0.trans hk.symm,m,g.is q⟩,rfl,aA [0,1,2,3,4]⟩
 rw[lP q,aN]at hk;have M:hC x.L x.fin K.tv f2 t≠.out:=aau (by rw[hk];exact C);have D:hC x.L x.fin K.tv n t=hC x.L x.fin K.tv f2 t:=aaw p M;refine bs aax ⟨K,x,t,os,n,kc,pc,o,z⟩ ⟨L,E,g,m,fun e=>M (D.symm.trans e)⟩ (y.sub (bU 4)) ⟨fun a G=>?_,fun a⟨u,G⟩=>⟨.inr a,⟨u,e0.trans (hk.symm.trans (aav (D.symm.trans G)))⟩,rfl,aA [4]⟩⟩;obtain⟨k,e,t1,H⟩:=a;obtain⟨q1,B,A⟩:=G;replace q1:hC x.L x.fin K.tv f2 t= .ok [k,e] t1:=D.symm.trans q1;replace B:bz 3 1 (bB (o++[k]++[e])) H:=B;replace A:PG x t1 (os++o++[k]++[e]):=A;have w:PG x t1 (os++(o++[k]++[e])):=A.cast aL;rw[aat q1,Fu]at hk;refine bs jW ⟨x.p t1,0,rc⟩ ⟨hl,by have:=A.i;show t1.i<=1048576;omega,a_⟩ (y.ls.df 0 4 aL aL rfl rfl) fun _ _=>aG (fun h=>?_) (fun h=>?_)
 ·rw[show(!bg x.L t1 0 rc)=true from h,aU]at hk;refine ma w hk (fun hk g3=>?_);exact⟨⟨t1.ax,o++[k]++[e],H,f2⟩,⟨g3,B,p,hk.trans e0.symm⟩,aV,aA [0,1,2,3,4],gZ _⟩
 ·rw[show(!bg x.L t1 0 rc)=false from h,aN,ip]at hk;exact⟨⟨t1,o++[k]++[e],H,f2⟩,⟨w,B,p,hk.trans e0.symm⟩,aV,aA [0,1,2,3,4],gZ _⟩
theorem afB:aD 112 (nt 114 rc (fun ks=>aq.cW ks)):=fo 18 Tryz.func112 (fun _ _=>[(0,2,bv ig),(1,1,.c uE [0,1,2,3] [0,1,2,3]),(2,2,aX gF),(3,1,bv ik)]) [] (VC 114 rc (fun ks=>aq.cW ks)) aY bA [] afC
end
section
open Go
def ain(x:bk Unit)(a:ah):List (Nat×Nat×OH):=[(0,0,.n 1000),(1,0,aP 1000),(1,1,aX iz),(1,2,.n 2020),(1,3,.w (eG 2020)),(2,1,aP 2020),
 (4,0,aP 1000),(4,3,dd),(4,7,d3 fL),(5,0,aP 1000),(5,2,aP 2020),(5,4,aP 2020),(5,6,.c fK [0,999] [0]),
 (7,0,aP 1000),(7,3,dd),(7,7,d3 fL),(8,0,aP 1000),(8,2,aP 2020),(8,4,aP 2020),(8,6,.c fK [0,999] [0]),
 (10,0,aP 1000),(10,3,dd),(10,7,d3 fL),(11,0,aP 1000),(11,2,aP 2020),(11,4,aP 2020),(11,6,.c fK [0,999] [0]),
 (12,0,.n 13000),(13,0,aP 1000),(13,1,aX gF),(13,3,aP 1000),(13,4,aX gF),(13,7,aP 1000),(13,8,aX gF),
 (14,0,aP 1000),(14,3,dd),(14,7,d3 fL),(15,0,aP 1000),(15,2,aP 2020),(15,4,aP 2020),(15,6,.c fK [0,999] [0]),
 (16,0,aP 1000),(16,1,aX gF),(17,0,aP 1000),(17,1,bv (cz x.n 43)),(18,0,aP 1000),(18,1,bv ig),(19,0,aP 1000),(19,1,bv (cz x.n 14)),(20,0,aP 1000),(20,1,bv ik),
 (22,0,aP 1000),(22,1,bv ig),(23,0,aP 1000),(23,2,.c (nt 113 rb (fun ks=>aq.cS ks)) [0,13000,1000,999] [0,13000,1000,998]),(24,0,aP 1000),(24,1,aP 13000),(24,3,aP 2020),(24,5,.c fK [0,998] [0]),
 (25,0,aP 1000),(25,1,bv ig),(26,0,aP 1000),(26,2,.c (nt 114 rc (fun ks=>aq.cW ks)) [0,13000,1000,999] [0,13000,1000,998]),(27,0,aP 1000),(27,1,aP 13000),(27,3,aP 2020),(27,5,.c fK [0,998] [0]),(28,0,aP 1000),(28,1,aX ly)]
def Ig(x:bk Unit)(F:ah)(y u:Nat)(w:cX):oF->Unit->Prop:=fun c b=>ar (bn fun(a:Unit)=>aq.dv) x F (fx c) [(0,ak c.x (c.s.add c.n)),(1,F),(999,bc),(1000,af y (eo x) 39),(2020,af u (q0 w) 53)]
def eR:List Value:=[au none 0 0]
def z7(x:bk Unit)(F:ah)(y u:Nat)(w:cX)(t:Nat):=[(0,ak x.x x.s),(1,F),(1000,af y (eo x) 39),(2020,af u (q0 w) 53),(13000,af t eR 33)]
def IL(y:Nat)(x:bk Unit)(u:Nat)(w:cX)(F:ah)(t:Nat):=aw y 0/\T1 (ak x.x x.s) ⟨x.x.b,1,none⟩ (fun f=>dE f/\dS (a7 Tryz.f106 14 7) (nC x f) [ak x.x x.s] (fun e d=>aw y 0/\aw u 1/\aw u 3/\db [ag (cg x),agg ⟨[ad 4,ai (co w.L w.fin w.i).text,float f64 0,au none 0 0,ad (co w.L w.fin w.i).pos]⟩] [ak e.x e.t,bc] (fun c b=>ar (bn fun(a:Unit)=>aq.dv) x F (fx c) [(0,ak c.x (c.s.add c.n)),(1,F),(999,bc),(1000,af y (eo x) 39),(2020,af u (q0 w) 53),(13000,af t eR 33)])))
def I8(F:ah)(y:Nat)(x:bk Unit)(u:Nat)(w:cX)(t:Nat):=[(0,bc),(1,F),(1000,af y (eo x) 39),(2020,af u (q0 w) 53),(13000,af t eR 33)]
def El(k:iK)(F:ah)(y:Nat)(x:bk Unit)(u:Nat)(w:cX)(t:Nat):=[(0,ak k.x k.s.ax),(1,F),(1000,af y (eo x) 39),(2020,af u (q0 w) 53),(13000,af t eR 33)]
def Eo(k:iK)(F:ah)(y:Nat)(x:bk Unit)(u:Nat)(w:cX)(t:Nat):=[(0,ak k.x k.s),(1,F),(1000,af y (eo x) 39),(2020,af u (q0 w) 53),(13000,af t eR 33)]
def Pf(x:bk Unit)(F:ah)(e:kg)(u:Nat)(w:cX)(d:List Int×ap×Row):oF->Unit->Prop:=fun c b=>ar (bn fun(a:Unit)=>aq.dv) x F (fx c) [(0,ak c.x (c.s.add c.n)),(1,F),(998,bc),(999,bc),(1000,af e.a.pc (o7 e) 39),(2020,af u (q0 w) 53),(13000,af e.a.kc [au d.snd.snd.a d.snd.snd.n d.snd.snd.cap] 33)]
def Rz(F:ah)(u:Nat)(w:cX):=[(0,bc),(1,F),(999,bc),(1000,bc),(2020,af u (q0 w) 53),(13000,bc)]
theorem aip(x:bk Unit)(F:ah)(hc:aR.cond (bn (fun(_:Unit)=>aq.dv)) x)(B:aR.aO (bn (fun(_:Unit)=>aq.dv)) x F):∀(y:Nat),aw y 0/\fd (eo x) (aH [(0,ak x.x x.s),(1,F),(1000,af y (eo x) 39)] []) (fun w v=>∀(u:Nat),cx u (aw u 0/\Br ((co w.L w.fin w.i).kind==3) (aw y 0/\T1 (ak x.x x.s) ⟨x.x.b,1,none⟩ (fun f=>dE f/\dS (a7 Tryz.f106 4 7) (nC x f) [ak x.x x.s] (fun e d=>aw y 0/\aw u 2/\aw u 3/\db [ag (cg x),agg ⟨[ad 1,ai ⟨#[]⟩,float f64 (co w.L w.fin w.i).num,au none 0 0,ad (co w.L w.fin w.i).pos]⟩] [ak e.x e.t,bc] (Ig x F y u w)))) (Br ((co w.L w.fin w.i).kind==4) (aw y 0/\T1 (ak x.x x.s) ⟨x.x.b,1,none⟩ (fun f=>dE f/\dS (a7 Tryz.f106 7 7) (nC x f) [ak x.x x.s] (fun e d=>aw y 0/\aw u 1/\aw u 3/\db [ag (cg x),agg ⟨Ju w⟩] [ak e.x e.t,bc] (Ig x F y u w)))) (Br (E9 w) (aw y 0/\T1 (ak x.x x.s) ⟨x.x.b,1,none⟩ (fun f=>dE f/\dS (a7 Tryz.f106 10 7) (nC x f) [ak x.x x.s] (fun e d=>aw y 0/\aw u 1/\aw u 3/\db [ag (cg x),agg ⟨[ad 3,ai (co w.L w.fin w.i).text,float f64 0,au none 0 0,ad (co w.L w.fin w.i).pos]⟩] [ak e.x e.t,bc] (Ig x F y u w)))) (∀(t:Nat),aw y 0/\gA [ag (cg x),ad 0,ai ⟨#[116,114,117,101]⟩] (aH (z7 x F y u w t) []) (fun s r=>Br (ii s.p.L (s.p.i+s.a) s.t) (IL y x u w F t) (aw y 0/\gA [ag (cg x),ad 0,ai ⟨#[102,97,108,115,101]⟩] (aH (z7 x F y u w t) []) (fun q p=>Br (ii q.p.L (q.p.i+q.a) q.t) (IL y x u w F t) (aw y 0/\gA [ag (cg x),ad 0,ai ⟨#[110,117,108,108]⟩] (aH (z7 x F y u w t) []) (fun o n=>Br (ii o.p.L (o.p.i+o.a) o.t) (IL y x u w F t) (aw y 0/\gA [ag (cg x),ad 0,ai ⟨#[102,117,110,99,116,105,111,110]⟩] (aH (z7 x F y u w t) []) (fun m l=>Br (ii m.p.L (m.p.i+m.a) m.t) (aw y 0/\cq x.n 43 [ag (cg x),ad 7] [ak x.x x.s] (aH (z7 x F y u w t) [0]) (fun c b=>ar (bn fun(a:Unit)=>aq.dv) x F (jE b) [(0,ak c.x b.snd),(1,F),(1000,af y (eo x) 39),(2020,af u (q0 w) 53),(13000,af t eR 33)]) (fun c b=>ar (bn fun(a:Unit)=>aq.dv) x F (ci b) (I8 F y x u w t))) (aw y 0/\fQ [ag (cg x),ai ⟨#[40]⟩] [ak x.x x.s] (aH (z7 x F y u w t) [0]) (fun k f=>aw y 0/\cq x.n 14 (eo x) [ak k.x k.s.ax] (aH (El k F y x u w t) [0]) (fun e d=>aw y 0/\gi [ag (cg x),ai ⟨#[41]⟩] [ak e.x d.snd] (aH [(0,ak e.x d.snd),(1,F),(1000,af y (eo x) 39),(2020,af u (q0 w) 53),(13000,af t eR 33)] [0]) (fun c b=>ar (bn fun(a:Unit)=>aq.dv) x F (jE d) (El c F y x u w t)) (fun c b=>ar (bn fun(a:Unit)=>aq.dv) x F (gr c) (I8 F y x u w t))) (fun e b=>ar (bn fun(a:Unit)=>aq.dv) x F (ci b) (I8 F y x u w t))) (fun k j=>aw y 0/\fQ [ag (cg x),ai ⟨#[91]⟩] [ak k.x k.s] (aH (Eo k F y x u w t) [0]) (fun i f=>aw y 0/\aD 112 (nt (113:FuncId) rb fun(a:List Int)=>aq.cS a)/\true=true/\∃(e:kg),[ag (cg x),ai ⟨#[93]⟩,func (Fn.func 113) ⟨[]⟩ ⟨[ag (bI t),ag (bI y)]⟩]=[ag (mh e),ai rb,func (Fn.func 113) ⟨[]⟩ ⟨sJ e⟩]/\[ak i.x i.s.ax,af t eR 33,af y (eo x) 39,bc]=[ak e.a.x e.a.s,af e.a.kc (zU e) 33,af e.a.pc (o7 e) 39,e.a.r.A]/\((∀(a:FuncId),aD a (cz e.a.n a))/\gS e.a.K e.a.x/\PG e.a.x e.a.s (e.a.os++e.a.ks)/\bz 3 1 (bB e.a.ks) e.a.r/\e.f<=e.a.n/\br e.a.K e.a.x e.f ((fun(a:List Int)=>aq.cS a) e.a.ks) e.a.s≠PR.out)/\cB e.a.K e.a.x (aH (El i F y x u w t) [0,13000,1000,999])/\(∀(d:List Int×ap×Row),(br e.a.K e.a.x e.f ((fun(a:List Int)=>aq.cS a) e.a.ks) e.a.s=PR.ok d.fst d.snd.fst/\bz 3 1 (bB d.fst) d.snd.snd/\PG e.a.x d.snd.fst (e.a.os++d.fst))->ed ⟨y,0,none⟩ e.a.pc/\ed ⟨t,0,none⟩ e.a.kc/\aw u 3/\db [ag (mh e),agg ⟨[ad 5,ai ⟨#[]⟩,float f64 0,au d.snd.snd.a d.snd.snd.n d.snd.snd.cap,ad (co w.L w.fin w.i).pos]⟩] [ak e.a.x d.snd.fst,d.snd.snd.A] (Pf x F e u w d))/\∀(c:Int×Int),(∃(b:ap),br e.a.K e.a.x e.f ((fun(a:List Int)=>aq.cS a) e.a.ks) e.a.s=PR.stop c.fst c.snd b)->ar (bn fun(a:Unit)=>aq.dv) x F (ci c) (Rz F u w)) (fun i h=>aw y 0/\fQ [ag (cg x),ai ⟨#[123]⟩] [ak i.x i.s] (aH (Eo i F y x u w t) [0]) (fun g f=>aw y 0/\aD 112 (nt (114:FuncId) rc fun(a:List Int)=>aq.cW a)/\true=true/\∃(e:kg),[ag (cg x),ai ⟨#[125]⟩,func (Fn.func 114) ⟨[]⟩ ⟨[ag (bI t),ag (bI y)]⟩]=[ag (mh e),ai rc,func (Fn.func 114) ⟨[]⟩ ⟨sJ e⟩]/\[ak g.x g.s.ax,af t eR 33,af y (eo x) 39,bc]=[ak e.a.x e.a.s,af e.a.kc (zU e) 33,af e.a.pc (o7 e) 39,e.a.r.A]/\((∀(a:FuncId),aD a (cz e.a.n a))/\gS e.a.K e.a.x/\PG e.a.x e.a.s (e.a.os++e.a.ks)/\bz 3 1 (bB e.a.ks) e.a.r/\e.f<=e.a.n/\br e.a.K e.a.x e.f ((fun(a:List Int)=>aq.cW a) e.a.ks) e.a.s≠PR.out)/\cB e.a.K e.a.x (aH (El g F y x u w t) [0,13000,1000,999])/\(∀(d:List Int×ap×Row),(br e.a.K e.a.x e.f ((fun(a:List Int)=>aq.cW a) e.a.ks) e.a.s=PR.ok d.fst d.snd.fst/\bz 3 1 (bB d.fst) d.snd.snd/\PG e.a.x d.snd.fst (e.a.os++d.fst))->ed ⟨y,0,none⟩ e.a.pc/\ed ⟨t,0,none⟩ e.a.kc/\aw u 3/\db [ag (mh e),agg ⟨[ad 6,ai ⟨#[]⟩,float f64 0,au d.snd.snd.a d.snd.snd.n d.snd.snd.cap,ad (co w.L w.fin w.i).pos]⟩] [ak e.a.x d.snd.fst,d.snd.snd.A] (Pf x F e u w d))/\∀(c:Int×Int),(∃(b:ap),br e.a.K e.a.x e.f ((fun(a:List Int)=>aq.cW a) e.a.ks) e.a.s=PR.stop c.fst c.snd b)->ar (bn fun(a:Unit)=>aq.dv) x F (ci c) (Rz F u w)) (fun g d=>aw y 0/\kO (eo x) (aH (Eo g F y x u w t) []) (fun c b=>ar (bn fun(a:Unit)=>aq.dv) x F (jC c) (Eo g F y x u w t)))))))))))))))))):=by
 delta im fd cg eo T1 dE lN lO dS nC kz kC db j5 fx q0 Ig Ju E9 p7 p8 gA eR z7 IL cq jE ci I8 jh fQ El gi gr Eo bI mh sJ zU o7 Pf Rz kO jC dT aH ak aw cx ad ai aj ag au af bc ay;obtain⟨K,x,s,os,n,tp⟩:=x;obtain⟨Y,M,z,hp,W,V,I⟩:=hc;replace B:cB K x F:=B;replace I:br K x (n+1) .dv s≠.out:=I;dsimp only at Y M z hp W V⊢;obtain⟨r,e0⟩:∃r,br K x (n+1) .dv s=r:=⟨_,rfl⟩;rw[e0]at I;have hk:=e0;unfold br at hk;rw[P]at hk;have hl:=M.len;rw[m6]at hk;intro pc;refine⟨al,?_⟩;refine bs kR (x.p s) hl (B.ls.df 0 1 aL aL rfl rfl) fun _ _ c=>?_
 repeat (refine⟨al,?_⟩)
 refine aG (fun E=>?_) (fun E=>?_)
 ·replace E:((aC x.L x.fin s).kind==3)=true:=E;rw[E,aU,kG,h_]at hk;have g1:=z.step (wz E (by decide));refine⟨al,?_⟩;refine⟨_,el fun _=>rfl,nq (i:=s.i) (hO z.i hl),gw rfl rfl rfl,rfl,⟨x,s,s.ax,1,_⟩,rfl,rfl,⟨fun _=>rfl,rfl,a_,rfl,rfl⟩,ao,fun _ _=>?_⟩;refine⟨al,al,al,?_⟩;refine bO fi ⟨x,s.ax,⟨1,.empty,(aC x.L x.fin s).num,[],(aC x.L x.fin s).pos⟩,dL⟩ ⟨by have:=g1.cap hl;dsimp only[ap.ax,ap.add]at*;omega,.nil rfl⟩ fun _ _=>?_;exact eH (e0.trans hk.symm)
 replace E:((aC x.L x.fin s).kind==3)=false:=E;rw[E,aN]at hk;refine aG (fun G=>?_) (fun G=>?_)
 ·replace G:((aC x.L x.fin s).kind==4)=true:=G;rw[G,aU,kG,h_]at hk;have g1:=z.step (wz G (by decide));refine⟨al,?_⟩;refine⟨_,el fun _=>rfl,nq (i:=s.i) (hO z.i hl),gw rfl rfl rfl,rfl,⟨x,s,s.ax,1,_⟩,rfl,rfl,⟨fun _=>rfl,rfl,a_,rfl,rfl⟩,ao,fun _ _=>?_⟩;refine⟨al,al,al,?_⟩;refine bO fi ⟨x,s.ax,⟨2,(aC x.L x.fin s).text,0,[],(aC x.L x.fin s).pos⟩,dL⟩ ⟨by have:=g1.cap hl;dsimp only[ap.ax,ap.add]at*;omega,.nil rfl⟩ fun _ _=>?_;exact eH (e0.trans hk.symm)
 replace G:((aC x.L x.fin s).kind==4)=false:=G;rw[G,aN]at hk;refine aG (fun H=>?_) (fun H=>?_)
 ·replace H:((aC x.L x.fin s).kind==1)=true:=H;rw[H,aU,kG,h_]at hk;have g1:=z.step (wz H (by decide));refine⟨al,?_⟩;refine⟨_,el fun _=>rfl,nq (i:=s.i) (hO z.i hl),gw rfl rfl rfl,rfl,⟨x,s,s.ax,1,_⟩,rfl,rfl,⟨fun _=>rfl,rfl,a_,rfl,rfl⟩,ao,fun _ _=>?_⟩;refine⟨al,al,al,?_⟩;refine bO fi ⟨x,s.ax,⟨3,(aC x.L x.fin s).text,0,[],(aC x.L x.fin s).pos⟩,dL⟩ ⟨by have:=g1.cap hl;dsimp only[ap.ax,ap.add]at*;omega,.nil rfl⟩ fun _ _=>?_;exact eH (e0.trans hk.symm)
 replace H:((aC x.L x.fin s).kind==1)=false:=H;rw[H,aN,iF]at hk;intro kc;refine⟨al,?_⟩;have U:=z.i;have O:x.L.length<=1048576/\s.i<=1048576/\0<=1048576:=⟨hl,hO U hl,dq _⟩;refine lj (A:=(bg x.L s 0 Fz||(bg x.L s 0 Fx||bg x.L s 0 Fy))=true) (fun Z=>bs jW ⟨x.p s,0,Fz⟩ O (B.ls.df 0 1 aL aL rfl rfl) fun _ _=>aG (fun R=>Z ?_) (fun R=>⟨al,jW,rfl,⟨x.p s,0,Fx⟩,rfl,rfl,O,B.ls.df 0 1 aL aL rfl rfl,fun _ _=>aG (fun S=>Z ?_) (fun S=>⟨al,jW,rfl,⟨x.p s,0,Fy⟩,rfl,rfl,O,B.ls.df 0 1 aL aL rfl rfl,fun _ _=>aG (fun T=>Z ?_) (fun T=>?_)⟩)⟩)) (fun hx=>?_)
 rotate_right
 ·rw[hx,aU,kG,h_]at hk;have hi:s.i<x.L.length:=by
   rw[Bool.or_eq_true,Bool.or_eq_true]at hx;rcases hx with h|h|h <;> exact je h
  have g1:=z.step hi;refine⟨al,?_⟩;refine⟨_,el fun _=>rfl,nq (i:=s.i) (hO z.i hl),gw rfl rfl rfl,rfl,⟨x,s,s.ax,1,_⟩,rfl,rfl,⟨fun _=>rfl,rfl,a_,rfl,rfl⟩,ao,fun _ _=>?_⟩;refine⟨al,al,al,?_⟩;refine bO fi ⟨x,s.ax,⟨4,(aC x.L x.fin s).text,0,[],(aC x.L x.fin s).pos⟩,dL⟩ ⟨by have:=g1.cap hl;dsimp only[ap.ax,ap.add]at*;omega,.nil rfl⟩ fun _ _=>?_;exact eH (e0.trans hk.symm)
 ·rw[show bg x.L s 0 Fz=true from R];rfl
 ·rw[show bg x.L s 0 Fx=true from S,Bool.true_or,mJ]
 ·rw[show bg x.L s 0 Fy=true from T,mJ,mJ]
 rw[show bg x.L s 0 Fz=false from R,show bg x.L s 0 Fx=false from S,show bg x.L s 0 Fy=false from T,Bool.or_self,Bool.or_self,aN]at hk;refine⟨al,?_⟩;refine bs jW ⟨x.p s,0,rz⟩ ⟨hl,by have:=z.i;show s.i<=1048576;omega,a_⟩ (B.ls.df 0 1 aL aL rfl rfl) fun _ _=>?_;refine aG (fun L=>?_) (fun L=>?_)
 ·replace L:bg x.L s 0 rz=true:=L;rw[L,aU]at hk;refine⟨al,?_⟩;exact ca z (t8 hk I) (fun _ _ q _ _ _ _ _ _ _=>eH (e0.trans q.symm)) (cC:=ao) (ct:=je L) (cN:=ao)
 rw[show bg x.L s 0 rz=false from L,aN]at hk;refine⟨al,?_⟩;refine bs jT ⟨x,s,lp⟩ ⟨hl,z.i⟩ (B.ls.sub (bU 1)) ⟨fun _ q=>?_,fun _ q=>?_⟩
 ·rw[lf q,aU]at hk;have g1:=z.is q;refine⟨al,?_⟩;refine ca g1 (fy hk I) (fun k t1 hk D X x1 Q x0 N vg2=>?_) (cC:=ao) (ct:=ao) (cN:=ao);dsimp only[aq.sl,ap.ax,ap.add]at X x1 Q x0 N vg2;refine⟨al,?_⟩;refine ma D hk (fun hk g3=>?_);exact eH (e0.trans hk.symm)
 rw[lP q,aN]at hk;refine⟨al,?_⟩;refine bs jT ⟨x,s,lb⟩ ⟨hl,z.i⟩ (B.ls.sub (bU 1)) ⟨fun _ q=>?_,fun _ q=>?_⟩
 ·rw[lf q,aU]at hk;have g1:=z.is q;have oo:br K x n (.cS []) s.ax≠.out:=KF (by rw[hk];exact I);refine⟨al,afy,rfl,⟨⟨K,x,s.ax,os,n,kc,pc,[],dL⟩,n⟩,rfl,rfl,⟨Y,M,g1.cast (dn _).symm,.nil rfl,bZ _,oo⟩,B.sub (bU 1),fun a J=>?_,fun a⟨u,J⟩=>⟨.inr a,⟨u,e0.trans (hk.symm.trans (CE J))⟩,rfl,aA [1]⟩⟩;obtain⟨ks,t1,r'⟩:=a;obtain⟨q1,C,D⟩:=J;replace q1:br K x n (.cS []) s.ax= .ok ks t1:=q1;replace D:PG x t1 (os++ks):=D;rw[CD q1,h_]at hk;refine⟨al,al,al,?_⟩;refine bO fi ⟨x,t1,⟨5,.empty,0,ks,(aC x.L x.fin s).pos⟩,r'⟩ ⟨by have:=D.cap hl;dsimp only[ap.ax,ap.add]at*;omega,C⟩ fun _ _=>?_;exact eH (e0.trans hk.symm)
 rw[lP q,aN]at hk;refine⟨al,?_⟩;refine bs jT ⟨x,s,lc⟩ ⟨hl,z.i⟩ (B.ls.sub (bU 1)) ⟨fun _ q=>?_,fun _ q=>?_⟩
 ·rw[lf q,aU]at hk;have g1:=z.is q;have oo:br K x n (.cW []) s.ax≠.out:=KF (by rw[hk];exact I);refine⟨al,afB,rfl,⟨⟨K,x,s.ax,os,n,kc,pc,[],dL⟩,n⟩,rfl,rfl,⟨Y,M,g1.cast (dn _).symm,.nil rfl,bZ _,oo⟩,B.sub (bU 1),fun a J=>?_,fun a⟨u,J⟩=>⟨.inr a,⟨u,e0.trans (hk.symm.trans (CE J))⟩,rfl,aA [1]⟩⟩;obtain⟨ks,t1,r'⟩:=a;obtain⟨q1,C,D⟩:=J;replace q1:br K x n (.cW []) s.ax= .ok ks t1:=q1;replace D:PG x t1 (os++ks):=D;rw[CD q1,h_]at hk;refine⟨al,al,al,?_⟩;refine bO fi ⟨x,t1,⟨6,.empty,0,ks,(aC x.L x.fin s).pos⟩,r'⟩ ⟨by have:=D.cap hl;dsimp only[ap.ax,ap.add]at*;omega,C⟩ fun _ _=>?_;exact eH (e0.trans hk.symm)
 rw[lP q,aN]at hk;refine⟨al,?_⟩;exact bs pG (x.p s) hl (B.ls.df 0 1 aL aL rfl rfl) fun _ _=>⟨.inr (_,_),⟨_,e0.trans hk.symm⟩,rfl,aA [1]⟩
theorem aio:aD 106 (bn (fun(_:Unit)=>aq.dv)):=fo 122 Tryz.func106 ain [] aY aY bA [] aip
end
section
open Go
theorem zh:bz 3 1 (bB []) dL:=.nil rfl
def aiP(x:bk Int)(a:ah):List (Nat×Nat×OH):=[(1,2,.n 2020),(1,3,.w (eG 2020)),(2,1,aP 2020),(2,3,bv (cz x.n 30)),(2,4,.n 3040),(2,5,.o (dm 3 1 8) [999] [998]),(2,7,.w [.z00 2020]),(3,1,bv ig),(4,1,bv ik),(5,1,bv uk),(5,3,.w [.z00 2020]),(6,1,bv ik),(7,1,aP 2020),(7,4,.w [.z00 2020]),(8,1,aP 2020),(8,3,bv (cz x.n 30)),(8,4,.n 9040),(8,5,.o (dm 3 1 8) [998] [998]),(8,7,.w [.z00 2020]),
 (9,1,aP 2020),(9,5,aX gF),(10,1,aX ly),(11,1,bv ig),(12,1,aP 2020),(12,4,.w [.z00 2020]),(13,1,aP 2020),(13,3,bv (cz x.n 30)),(13,4,.n 14040),(13,5,.o (dm 3 1 8) [998] [998]),(13,7,.w [.z00 2020]),(14,1,.q (eG 2020)),(14,2,.c fK [0,998] [0])]
def zS(x:bk Int):List Value:=[ag (cu x),aj false]
def Jc(x:bk Int):List Value:=[ad 32,ai ⟨#[]⟩,float f64 0,au none 0 0,ad x.t]
def w9(A:Nat):List Value:=[au none 0 0,au (bI A) 1 1]
def vt(y:Row)(x:bk Int):List Value:=[ad 32,ai ⟨#[]⟩,float f64 0,au y.a y.n y.cap,ad x.t]
def RC(s:jK)(y:Row)(x:bk Int):List Value:=[ad 32,ai (aC s.x.L s.x.fin s.s).text,float f64 0,au y.a y.n y.cap,ad x.t]
def z6(s:jK)(y:Row)(x:bk Int):List Value:=[ad 32,ai (aC s.x.L s.x.fin s.s).text,float f64 4607182418800017408,au y.a y.n y.cap,ad x.t]
def BG(s:jK)(k:Row)(x:bk Int):List Value:=[ad 32,ai (aC s.x.L s.x.fin s.s).text,float f64 4613937818241073152,au k.a k.n k.cap,ad x.t]
def Er(w:iK)(F:ah)(y:Row)(D:Nat)(x:bk Int)(A:Nat)(B:Int×ap):=[(0,ak w.x w.s),(1,F),(998,y.A),(999,bc),(2020,af D (vt y x) 35),(3040,af A (bN B) 3)]
def BI(y:Row)(x:bk Int):List Value:=[ad 32,ai ⟨#[]⟩,float f64 4611686018427387904,au y.a y.n y.cap,ad x.t]
theorem aiR(x:bk Int)(F:ah)(hc:aR.cond (bn (fun(p:Int)=>aq.dF p)) x)(G:aR.aO (bn (fun(p:Int)=>aq.dF p)) x F):∀(D:Nat),cx D (true=true/\aw D 3/\cq x.n 30 (zS x) [ak x.x x.s] (aH [(0,ak x.x x.s),(1,F),(2020,af D (Jc x) 35)] [0]) (fun C B=>∀(A:Nat),fG (a7 Tryz.f47 2 5) (w9 A) [bc] (aH [(0,ak C.x B.snd),(1,F),(2020,af D (Jc x) 35),(3040,af A (bN B) 3)] [999]) (fun z y=>aw D 3/\fQ [ag (cu x),ai ⟨#[99,97,116,99,104]⟩] [ak C.x B.snd] (aH [(0,ak C.x B.snd),(1,F),(998,y.A),(999,bc),(2020,af D (vt y x) 35),(3040,af A (bN B) 3)] [0]) (fun w v=>gi [ag (cu x),ai ⟨#[40]⟩] [ak w.x w.s.ax] (aH [(0,ak w.x w.s.ax),(1,F),(998,y.A),(999,bc),(2020,af D (vt y x) 35),(3040,af A (bN B) 3)] [0]) (fun u t=>yz (jF x) [ak u.x u.s.ax] (aH [(0,ak u.x u.s.ax),(1,F),(998,y.A),(999,bc),(2020,af D (vt y x) 35),(3040,af A (bN B) 3)] [0]) (fun s r=>aw D 1/\gi (zT x) [ak s.x s.s.ax] (aH [(0,ak s.x s.s.ax),(1,F),(998,y.A),(999,bc),(2020,af D (RC s y x) 35),(3040,af A (bN B) 3)] [0]) (fun q p=>aw D 2/\aw D 2/\true=true/\aw D 3/\cq x.n 30 (zS x) [ak q.x q.s.ax] (aH [(0,ak q.x q.s.ax),(1,F),(998,y.A),(999,bc),(2020,af D (z6 s y x) 35),(3040,af A (bN B) 3)] [0]) (fun o n=>∀(m:Nat),fG (a7 Tryz.f47 8 5) (tR y m) [y.A] (aH [(0,ak o.x n.snd),(1,F),(998,y.A),(999,bc),(2020,af D (z6 s y x) 35),(3040,af A (bN B) 3),(9040,af m (bN n) 3)] [998]) (fun l k=>aw D 3/\aw D 2/\fQ [ag (cu x),ai ⟨#[102,105,110,97,108,108,121]⟩] [ak o.x n.snd] (aH [(0,ak o.x n.snd),(1,F),(998,k.A),(999,bc),(2020,af D (z6 s k x) 35),(3040,af A (bN B) 3),(9040,af m (bN n) 3)] [0]) (fun j i=>aw D 2/\aw D 2/\true=true/\aw D 3/\cq x.n 30 (zS x) [ak j.x j.s.ax] (aH [(0,ak j.x j.s.ax),(1,F),(998,k.A),(999,bc),(2020,af D (BG s k x) 35),(3040,af A (bN B) 3),(9040,af m (bN n) 3)] [0]) (fun h g=>∀(f:Nat),fG (a7 Tryz.f47 13 5) (tR k f) [k.A] (aH [(0,ak h.x g.snd),(1,F),(998,k.A),(999,bc),(2020,af D (BG s k x) 35),(3040,af A (bN B) 3),(9040,af m (bN n) 3),(14040,af f (bN g) 3)] [998]) (fun e d=>aw D 3/\cx D (db [ag (cu x),agg ⟨BG s d x⟩] [ak h.x g.snd,d.A] (fun c b=>ar (bn fun(a:Int)=>aq.dF a) x F (fx c) [(0,ak c.x (c.s.add c.n)),(1,F),(998,bc),(999,bc),(2020,af D (BG s d x) 35),(3040,af A (bN B) 3),(9040,af m (bN n) 3),(14040,af f (bN g) 3)])))) (fun h c=>∀(b:Tm),ar (bn fun(a:Int)=>aq.dF a) x F (ci c) [(0,bc),(1,F),(998,k.A),(999,bc),(2020,af D (BG s k x) 35),(3040,af A (bN B) 3),(9040,af m (bN n) 3)])) (fun j d=>cx D (db [ag (cu x),agg ⟨z6 s k x⟩] [ak j.x j.s,k.A] (fun c b=>ar (bn fun(a:Int)=>aq.dF a) x F (fx c) [(0,ak c.x (c.s.add c.n)),(1,F),(998,bc),(999,bc),(2020,af D (z6 s k x) 35),(3040,af A (bN B) 3),(9040,af m (bN n) 3)]))))) (fun o c=>∀(b:Tm),ar (bn fun(a:Int)=>aq.dF a) x F (ci c) [(0,bc),(1,F),(998,y.A),(999,bc),(2020,af D (z6 s y x) 35),(3040,af A (bN B) 3)])) (fun q b=>ar (bn fun(a:Int)=>aq.dF a) x F (gr q) [(0,bc),(1,F),(998,y.A),(999,bc),(2020,af D (RC s y x) 35),(3040,af A (bN B) 3)])) (fun s b=>ar (bn fun(a:Int)=>aq.dF a) x F (zO s) [(0,bc),(1,F),(998,y.A),(999,bc),(2020,af D (vt y x) 35),(3040,af A (bN B) 3)])) (fun u b=>ar (bn fun(a:Int)=>aq.dF a) x F (gr u) [(0,bc),(1,F),(998,y.A),(999,bc),(2020,af D (vt y x) 35),(3040,af A (bN B) 3)])) (fun w m=>aw D 2/\gA [ag (cu x),ad 0,ai ⟨#[102,105,110,97,108,108,121]⟩] (aH (Er w F y D x A B) []) (fun l k=>Br (!ii l.p.L (l.p.i+l.a) l.t) (kO (jF x) (aH (Er w F y D x A B) []) (fun c b=>ar (bn fun(a:Int)=>aq.dF a) x F (jC c) (Er w F y D x A B))) (fQ [ag (cu x),ai ⟨#[102,105,110,97,108,108,121]⟩] [ak w.x w.s] (aH (Er w F y D x A B) [0]) (fun j i=>aw D 2/\aw D 2/\true=true/\aw D 3/\cq x.n 30 (zS x) [ak j.x j.s.ax] (aH [(0,ak j.x j.s.ax),(1,F),(998,y.A),(999,bc),(2020,af D (BI y x) 35),(3040,af A (bN B) 3)] [0]) (fun h g=>∀(f:Nat),fG (a7 Tryz.f47 13 5) (tR y f) [y.A] (aH [(0,ak h.x g.snd),(1,F),(998,y.A),(999,bc),(2020,af D (BI y x) 35),(3040,af A (bN B) 3),(14040,af f (bN g) 3)] [998]) (fun e d=>aw D 3/\cx D (db [ag (cu x),agg ⟨BI d x⟩] [ak h.x g.snd,d.A] (fun c b=>ar (bn fun(a:Int)=>aq.dF a) x F (fx c) [(0,ak c.x (c.s.add c.n)),(1,F),(998,bc),(999,bc),(2020,af D (BI d x) 35),(3040,af A (bN B) 3),(14040,af f (bN g) 3)])))) (fun h c=>∀(b:Tm),ar (bn fun(a:Int)=>aq.dF a) x F (ci c) [(0,bc),(1,F),(998,y.A),(999,bc),(2020,af D (BI y x) 35),(3040,af A (bN B) 3)])) (fun j d=>cx D (db [ag (cu x),agg ⟨vt y x⟩] [ak j.x j.s,y.A] (fun c b=>ar (bn fun(a:Int)=>aq.dF a) x F (fx c) [(0,ak c.x (c.s.add c.n)),(1,F),(998,bc),(999,bc),(2020,af D (vt y x) 35),(3040,af A (bN B) 3)])))))))) (fun C c=>∀(b:Tm),ar (bn fun(a:Int)=>aq.dF a) x F (ci c) [(0,bc),(1,F),(2020,af D (Jc x) 35)])):=by
 delta cq cu zS Jc k7 fG bI w9 bN jh fQ vt gi mR mi yz jF zT RC z6 tR BG kz kC db j5 fx ci gr zO p7 p8 gA Er im kO jC BI dT aH ak aw cx ad ai aj ag au af bc ay;obtain⟨K,x,s,os,n,X⟩:=x;obtain⟨ih,hK,hG,hp,DM,y5,M⟩:=hc;replace G:cB K x F:=G;replace M:br K x (n+1) (.dF X) s≠.out:=M;dsimp only at ih hK hG hp DM y5⊢;obtain⟨r,e0⟩:∃r,br K x (n+1) (.dF X) s=r:=⟨_,rfl⟩;rw[e0]at M;have hk:=e0;unfold br at hk;rw[P]at hk;have hl:=hK.len;intro c
 repeat (refine⟨al,?_⟩)
 refine⟨rfl,al,?_⟩;refine ca hG (fy hk M) (fun b t1 hk g1 N0 Oj x1 Oa Z SB=>?_) (cC:=ao) (ct:=ao) (cN:=ao);dsimp only[aq.sl,ap.ax,ap.add]at N0 Oj x1 Oa Z SB;intro lb;refine lq (ks:=[]) (k:=b) 3040 zh (by simp only[dJ,qH,List.length_nil];omega) (fun Y V=>?_);refine⟨al,?_⟩;refine bs jT ⟨x,t1,Xk⟩ ⟨hl,g1.i⟩ (G.ls.sub (bU 1)) ⟨fun _ q=>?_,fun _ q=>?_⟩
 ·rw[lf q,aU,eV]at hk;have g2:=g1.is q;refine ma g2 hk (fun hk g3=>?_);rw[eV]at hk;refine bs KY ⟨x,t1.ax.ax⟩ hl (G.ls.sub (bU 1)) ⟨fun _ q=>?_,fun _ q=>⟨.inr (_,_),⟨_,e0.trans (hk.symm.trans (KI q))⟩,rfl,aA [1]⟩⟩;rw[KJ q,eV]at hk;have hi:t1.ax.ax.i<x.L.length:=uR (fin:=x.fin) (fun e=>by rw[e]at q;cases q);have g4:=g3.step hi;refine⟨al,?_⟩;refine ma g4 hk (fun hk g5=>?_);rw[eV]at hk;refine⟨al,al,rfl,al,?_⟩;refine ca g5 (fy hk M) (fun T t2 hk g6 ig6 ng6 x2 lg6 x0 vg6=>?_) (cC:=ao) (ct:=ao) (cN:=ao);dsimp only[aq.sl,ap.ax,ap.add]at ig6 ng6 x2 lg6 x0 vg6;rw[ip]at hk;dsimp only at hk;rw[iF]at hk;simp only[Bool.not_true,jp,aN]at hk;rw[ip]at hk;intro Hv;have E:bz 3 1 (bB [b]) Y:=V;refine bs (jN 1 8 rfl rfl rfl rfl rfl rfl rfl (by decide)) ⟨Y,bB [b],some ⟨Hv,0,none⟩,1,1,bB [T]⟩ ⟨E,rfl,uV _,vz E aL,vA E aL,fun h=>nomatch h⟩ (vF 9040 rfl) fun r3 U=>?_;replace U:bz 3 1 (bB ([b]++[T])) r3:=by rw[uU];exact U.1
  refine⟨al,al,?_⟩;refine bs jT ⟨x,t2,ph⟩ ⟨hl,g6.i⟩ (G.ls.sub (bU 1)) ⟨fun _ q=>?_,fun _ q=>?_⟩
  ·rw[lf q,aU]at hk;have g7:=g6.is q;refine⟨al,al,rfl,al,?_⟩;refine ca g7 (z_ hk M) (fun I t3 hk g8 N R J Q H S=>?_) (cC:=ao) (ct:=ao) (cN:=ao);dsimp only[aq.sl,ap.ax,ap.add]at N R J Q H S;rw[h_]at hk;intro O;refine bs (jN 1 8 rfl rfl rfl rfl rfl rfl rfl (by decide)) ⟨r3,bB ([b]++[T]),some ⟨O,0,none⟩,1,1,bB [I]⟩ ⟨U,rfl,uV _,vz U aL,vA U aL,fun h=>nomatch h⟩ (vF 14040 rfl) fun W L=>?_;replace L:bz 3 1 (bB ([b]++[T]++[I])) W:=by rw[uU];exact L.1
   repeat (refine⟨al,?_⟩)
   refine bO fi ⟨x,t3,⟨34-2,(aC x.L x.fin t1.ax.ax).text,vL,[b]++[T]++[I],X⟩,W⟩ ⟨by have:=g8.cap hl;dsimp only[ap.ax,ap.add]at*;omega,L⟩ fun _ _=>?_;exact eH (e0.trans hk.symm)
  ·rw[lP q,aN,ip,h_]at hk
   repeat (refine⟨al,?_⟩)
   refine bO fi ⟨x,t2,⟨34-2,(aC x.L x.fin t1.ax.ax).text,lG,[b]++[T]++[],X⟩,r3⟩ ⟨by have:=g6.cap hl;dsimp only[ap.ax,ap.add]at*;omega,U⟩ fun _ _=>?_;exact eH (e0.trans hk.symm)
 ·rw[lP q,aN,ip]at hk;dsimp only at hk;rw[iF]at hk;simp only[Bool.not_false,Bool.true_and,aN]at hk;refine⟨al,?_⟩;refine bs jW ⟨x.p t1,0,ph⟩ ⟨hl,by have:=g1.i;show t1.i<=1048576;omega,a_⟩ (G.ls.df 0 1 aL aL rfl rfl) fun _ _=>?_;refine aG (fun h=>?_) (fun h=>?_)
  ·rw[show(!bg x.L t1 0 ph)=true from h,aU,Fs]at hk;exact bs pG (x.p t1) hl (G.ls.df 0 1 aL aL rfl rfl) fun _ _=>⟨.inr (_,_),⟨_,e0.trans hk.symm⟩,rfl,aA [1]⟩
  rw[show(!bg x.L t1 0 ph)=false from h,aN,ip]at hk;refine bs jT ⟨x,t1,ph⟩ ⟨hl,g1.i⟩ (G.ls.sub (bU 1)) ⟨fun _ q=>?_,fun _ q=>?_⟩
  ·rw[lf q,aU]at hk;have g7:=g1.is q;refine⟨al,al,rfl,al,?_⟩;refine ca g7 (z_ hk M) (fun I t3 hk g8 N R J Q H S=>?_) (cC:=ao) (ct:=ao) (cN:=ao);dsimp only[aq.sl,ap.ax,ap.add]at N R J Q H S;rw[h_]at hk;intro O;have E:bz 3 1 (bB [b]) Y:=V;refine bs (jN 1 8 rfl rfl rfl rfl rfl rfl rfl (by decide)) ⟨Y,bB [b],some ⟨O,0,none⟩,1,1,bB [I]⟩ ⟨E,rfl,uV _,vz E aL,vA E aL,fun h=>nomatch h⟩ (vF 14040 rfl) fun W L=>?_;replace L:bz 3 1 (bB ([b]++[]++[I])) W:=by rw[dn,uU];exact L.1
   repeat (refine⟨al,?_⟩)
   refine bO fi ⟨x,t3,⟨34-2,.empty,vM,[b]++[]++[I],X⟩,W⟩ ⟨by have:=g8.cap hl;dsimp only[ap.ax,ap.add]at*;omega,L⟩ fun _ _=>?_;exact eH (e0.trans hk.symm)
  ·have q2:bg x.L t1 0 ph=false:=q;have V:(!bg x.L t1 0 ph)=false:=h;rw[q2]at V;cases V
theorem aiQ:aD 47 (bn (fun(p:Int)=>aq.dF p)):=fo 61 Tryz.func47 aiP [] aY aY bA [] aiR
end
section
open Go
def qe(L:List bh)(s:ap)(kind:Int)(aI:Bool):Bool:=kind==(31:Int)||(kind==(28:Int)&&(decide (s.i<L.length)&&(!aI&&(!bg L s 0 cU&& !bg L s 0 rc))))
def KC(L:List bh)(fin:Int)(kind pos:Int)(ks:List Int):PM (List Int):=do
 dQ L fin
 cm ⟨kind,.empty,0,ks,pos⟩
def vK(L:List bh)(fin:Int)(tv:Nat->ByteArray)(n:Nat)(kind pos:Int)(b:Bool):PM (List Int):=do
 let ks <-bif b then P L fin tv bx n .bf else ret []
 KC L fin kind pos ks
def KB(L:List bh)(fin:Int)(tv:Nat->ByteArray)(f:Nat)(kind pos:Int):PM (List Int):=do
 eF
 let n <-fv L fin
 let s <-eZ
 bif kind==(31:Int)&&n.aI then kj L fin else ret ()
 vK L fin tv f kind pos (qe L s kind n.aI)
structure iO where
 kind:Int
 t:ap
 ks:List Int
 r:Row
 b:Bool
 c:Nat
def gI(x:bk bh):Option Addr:=some ⟨x.x.b,0,none⟩
def oq(d:iO):Option Addr:=some ⟨d.c,0,none⟩
def qW(d:iO):=ag (oq d)
def aiH(x:bk bh)(F:ah):Nat->Option Inv:=fun
 |11=>some {X:=iO,P:=fun d=>KB x.x.L x.x.fin x.K.tv x.n d.kind x.t.pos x.s=br x.K x.x (x.n+1) (.simple x.t) x.s,mu:=fun _=>0,lv:=fun d=>[(0,ag (gI x)),(5,qW d)],st:=fun d=>[ak x.x x.s,F,(l_ d.c d.kind .empty 0 dL x.t.pos)]}
 |17=>some {X:=iO,P:=fun d=>vK x.x.L x.x.fin x.K.tv x.n d.kind x.t.pos d.b x.s.ax=br x.K x.x (x.n+1) (.simple x.t) x.s,mu:=fun _=>0,lv:=fun d=>[(0,ag (gI x)),(5,qW d),(72,aj d.b)],st:=fun d=>[ak x.x x.s.ax,F,(l_ d.c d.kind .empty 0 dL x.t.pos)]}
 |18=>some {X:=iO,P:=fun d=>PG x.x d.t (x.os++d.ks)/\bz 3 1 (bB d.ks) d.r/\KC x.x.L x.x.fin d.kind x.t.pos d.ks d.t=br x.K x.x (x.n+1) (.simple x.t) x.s,mu:=fun _=>0,lv:=fun d=>[(0,ag (gI x)),(5,qW d)],st:=fun d=>[ak x.x d.t,F,(l_ d.c d.kind .empty 0 d.r x.t.pos),d.r.A]}
 |_=>none
def aiI(x:bk bh)(a:ah):List (Nat×Nat×OH):=[(0,0,.n 1000),(1,1,aP 1000),(1,3,.n 2030),(1,4,.w (eG 2030)),(3,1,aP 1000),(3,7,dd),(4,1,.w [.z00 2030]),(5,1,aP 1000),(5,7,dd),(6,1,.w [.z00 2030]),(7,1,aP 1000),(7,7,dd),(8,1,.w [.z00 2030]),(9,1,aP 1000),(10,1,.w [.z00 2030]),(2,1,aX ly),
 (11,3,dd),(11,7,d3 fL),(12,1,aX iz),(12,2,.n 13020),(12,3,.w (eG 13020)),(13,1,aP 2),(13,5,aP 13020),(14,1,aX ly),(15,1,aP 2),(16,1,aP 2),(16,7,dd),(16,11,.q [.ex 0 .slice]),(16,17,aP 13020),(16,22,aX gF),(16,27,aX gF),
 (17,1,bv (cz x.n 14)),(17,2,.n 18020),(17,4,.w [.z00 2]),(18,1,bv rk),(19,1,.q (eG 2)),(19,2,.c fK [0,3] [0])]
def EX:ByteArray:=ByteArray.mk #[114,101,116,117,114,110]
def zP(q:iO)(x:bk bh):List Value:=[ad q.kind,ai ByteArray.empty,float f64 0,au none 0 0,ad x.t.pos]
def De(e0:bk bh)(e1:ah)(v0:Value)(a:St):=∃(z:iO),KB e0.x.L e0.x.fin e0.K.tv e0.n z.kind e0.t.pos e0.s=br e0.K e0.x (e0.n+1) (aq.simple e0.t) e0.s/\(ag (gI e0)=ag (gI e0)/\v0=ag (oq z)/\True)/\aE a [(0,ak e0.x e0.s),(1,e1),(2,af z.c (zP z e0) 35)]
def BF(x:bk bh):List Value:=[ad x.t.kind,ai x.t.text,float f64 x.t.num,ad x.t.pos,aj x.t.aI]
def E4:ByteArray:=ByteArray.mk #[98,114,101,97,107]
def ES:ByteArray:=ByteArray.mk #[99,111,110,116,105,110,117,101]
def Qk(x:bk bh)(F:ah)(s r:Nat):=[(0,ak x.x x.s),(1,F),(1000,af s (BF x) 53),(2030,af r [ad 0,ai ⟨#[]⟩,float f64 0,au none 0 0,ad x.t.pos] 35)]
def Qg(s:Nat)(x:bk bh)(r:Nat)(F:ah):=aw s 1/\Br (x.t.text.toList==(ByteArray.mk #[116,104,114,111,119]).toList) (aw r 0/\De x F (cr r) [(0,ak x.x x.s),(1,F),(1000,af s (BF x) 53),(2030,af r [ad 31,ai ⟨#[]⟩,float f64 0,au none 0 0,ad x.t.pos] 35)]) (kO [ag (gI x)] (aH (Qk x F s r) []) (fun c b=>ar (bn fun(a:bh)=>aq.simple a) x F (jC c) (Qk x F s r)))
def q4(s:Nat)(x:bk bh)(r:Nat)(F:ah):=aw s 1/\Br (x.t.text.toList==ES.toList) (T1 (ak x.x x.s) ⟨x.x.b,5,none⟩ (fun d=>aS (d>0) (aw r 0/\De x F (cr r) [(0,ak x.x x.s),(1,F),(1000,af s (BF x) 53),(2030,af r [ad 30,ai ⟨#[]⟩,float f64 0,au none 0 0,ad x.t.pos] 35)]) (Qg s x r F))) (Qg s x r F)
def OU(s:Nat)(x:bk bh)(r:Nat)(F:ah):=aw s 1/\Br (x.t.text.toList==E4.toList) (T1 (ak x.x x.s) ⟨x.x.b,6,none⟩ (fun e=>aS (e>0) (aw r 0/\De x F (cr r) [(0,ak x.x x.s),(1,F),(1000,af s (BF x) 53),(2030,af r [ad 29,ai ⟨#[]⟩,float f64 0,au none 0 0,ad x.t.pos] 35)]) (q4 s x r F))) (q4 s x r F)
def nB(n:sY)(F:ah)(q:iO)(x:bk bh)(j:Nat)(l:cX):=[(0,ak n.x n.t),(1,F),(2,af q.c (zP q x) 35),(13020,af j (q0 l) 53)]
def u_(x:bk bh)(F:ah)(a:iO):=[(0,ak x.x x.s.ax),(1,F),(2,af a.c (zP a x) 35)]
def EB(x:bk bh)(q:iO)(n:sY)(F:ah)(j:Nat)(l:cX):=∃(a:iO),vK x.x.L x.x.fin x.K.tv x.n a.kind x.t.pos a.b x.s.ax=br x.K x.x (x.n+1) (aq.simple x.t) x.s/\(ag (gI x)=ag (gI x)/\ag (oq q)=ag (oq a)/\aj false=aj a.b/\True)/\aE (nB n F q x j l) (u_ x F a)
def Eb(e0:bk bh)(z:iO):=PG e0.x z.t (e0.os++z.ks)/\bz 3 1 (bB z.ks) z.r/\KC e0.x.L e0.x.fin z.kind e0.t.pos z.ks z.t=br e0.K e0.x (e0.n+1) (aq.simple e0.t) e0.s
def QS(d:nQ)(c:Int×ap)(F:ah)(f:iO)(b:Nat)(x:bk bh):=[(0,ak d.x c.snd),(1,F),(2,af f.c [ad f.kind,ai ByteArray.empty,float f64 0,au (bI b) 1 1,ad x.t.pos] 35),(18020,af b (bN c) 3)]
def Fb(z:iO)(e0:bk bh):List Value:=[ad z.kind,ai ByteArray.empty,float f64 0,au z.r.a z.r.n z.r.cap,ad e0.t.pos]
def EJ(e0:bk bh)(z:iO)(e1:ah):=[(0,ak e0.x z.t),(1,e1),(2,af z.c (Fb z e0) 35),(3,z.r.A)]
def yA(e0:bk bh)(e1:ah)(v0 v1:Value)(a:St):=∃(z:iO),vK e0.x.L e0.x.fin e0.K.tv e0.n z.kind e0.t.pos z.b e0.s.ax=br e0.K e0.x (e0.n+1) (aq.simple e0.t) e0.s/\(ag (gI e0)=ag (gI e0)/\v0=ag (oq z)/\v1=aj z.b/\True)/\aE a (u_ e0 e1 z)
def Mn(e0:bk bh)(e1:ah)(v0:Value)(a:St):=∃(z:iO),Eb e0 z/\(ag (gI e0)=ag (gI e0)/\v0=ag (oq z)/\True)/\aE a (EJ e0 z e1)
def AI(aa:List Value)(pp:List ah)(rr:ah)(c:jK->ap->Prop)(k1:jK->Int->Prop):=aD 33 rk/\true=true/\∃(z:jK),aa=(mi z)/\pp=[ak z.x z.s]/\(z.x.L.length<=1048576/\z.s.i<=z.x.L.length)/\fP z.x rr/\(∀(a:ap),dQ z.x.L z.x.fin z.s=PR.ok () a->c z a)/\∀(b:Int),dQ z.x.L z.x.fin z.s=PR.stop b (60:Int) z.s->k1 z b
theorem aiK(x:bk bh)(F:ah)(hc:aR.cond (bn (fun(d:bh)=>aq.simple d)) x)(C:aR.aO (bn (fun(d:bh)=>aq.simple d)) x F):∀(s:Nat),aw s 3/\∀(r:Nat),cx r ((aw s 1/\Br (x.t.text.toList==EX.toList) (T1 (ak x.x x.s) ⟨x.x.b,4,none⟩ (fun f=>aS (f>0) (aw r 0/\De x F (cr r) [(0,ak x.x x.s),(1,F),(1000,af s (BF x) 53),(2030,af r [ad 28,ai ⟨#[]⟩,float f64 0,au none 0 0,ad x.t.pos] 35)]) (OU s x r F))) (OU s x r F))/\aT fun(q:iO)_=>KB x.x.L x.x.fin x.K.tv x.n q.kind x.t.pos x.s=br x.K x.x (x.n+1) (aq.simple x.t) x.s->T1 (ak x.x x.s) ⟨x.x.b,1,none⟩ (fun o=>dE o/\dS (a7 Tryz.f42 11 7) [ag (some ⟨x.x.b,1,none⟩),ad (o+1)] [ak x.x x.s] (fun n m=>fd [ag (gI x)] (aH [(0,ak n.x n.t),(1,F),(2,af q.c (zP q x) 35)] []) (fun l k=>∀(j:Nat),cx j ((aw q.c 0/\Br (q.kind==31) (aw j 4/\Br (co l.L l.fin l.i).aI (aD 15 ly/\true=true/\∃(c:cX),[ag (gI x)]=(im c)/\([]:List ah)=[]/\c.L.length<=1048576/\iM c (aH (nB n F q x j l) [])/\∀(b:Unit),True->ar (bn fun(a:bh)=>aq.simple a) x F (jC c) (nB n F q x j l)) ((ed ⟨q.c,0,none⟩ q.c/\Br (q.kind==31) (∃(a:iO),vK x.x.L x.x.fin x.K.tv x.n a.kind x.t.pos a.b x.s.ax=br x.K x.x (x.n+1) (aq.simple x.t) x.s/\(ag (gI x)=ag (gI x)/\ag (oq q)=ag (oq a)/\aj (q.kind==31)=aj a.b/\True)/\aE (nB n F q x j l) (u_ x F a)) (true=true/\ed ⟨q.c,0,none⟩ q.c/\Br (q.kind==28) (∃(i:Int),aQ (ak n.x n.t) ⟨x.x.b,1,none⟩ (ad i)/\∃(h:Option Addr),∃(g:Nat),∃(f:Nat),aQ (ak n.x n.t) ⟨x.x.b,0,none⟩ (au h g f)/\aS (i<g) (ed ⟨j,4,none⟩ j/\Br (!(co l.L l.fin l.i).aI) (aD 29 gF/\true=true/\∃(e:v6),[ag (gI x),ad 0,ai ⟨#[59]⟩]=(p7 e)/\([]:List ah)=[]/\p8 e/\iM e.p (aH (nB n F q x j l) [])/\∀(d:Unit),True->Br (!ii e.p.L (e.p.i+e.a) e.t) (aD 29 gF/\true=true/\∃(c:v6),[ag (gI x),ad 0,ai ⟨#[125]⟩]=(p7 c)/\([]:List ah)=[]/\p8 c/\iM c.p (aH (nB n F q x j l) [])/\∀(b:Unit),True->∃(a:iO),vK x.x.L x.x.fin x.K.tv x.n a.kind x.t.pos a.b x.s.ax=br x.K x.x (x.n+1) (aq.simple x.t) x.s/\(ag (gI x)=ag (gI x)/\ag (oq q)=ag (oq a)/\(aj !ii c.p.L (c.p.i+c.a) c.t)=aj a.b/\True)/\aE (nB n F q x j l) (u_ x F a)) (EB x q n F j l)) (EB x q n F j l)) (EB x q n F j l)) (EB x q n F j l)))/\aT fun(f:iO)_=>vK x.x.L x.x.fin x.K.tv x.n f.kind x.t.pos f.b x.s.ax=br x.K x.x (x.n+1) (aq.simple x.t) x.s->Br f.b (aD 14 (cz x.n (14:FuncId))/\true=true/\∃(d:nQ),[ag (gI x)]=ag (some ⟨d.x.b,0,none⟩)::d.tag.args/\[ak x.x x.s.ax]=[ak d.x d.s]/\(gS d.K d.x/\PG d.x d.s d.os/\d.tag.bJ=some 14/\aq.cC d.x.fin d.tag/\aq.ct d.x.L d.s d.tag/\aq.cN d.s d.tag/\br d.K d.x x.n d.tag d.s≠PR.out)/\cB d.K d.x (aH (u_ x F f) [0])/\(∀(c:Int×ap),br d.K d.x x.n d.tag d.s=PR.ok [c.fst] c.snd->∀(b:Nat),ed ⟨f.c,3,none⟩ f.c/\∃(a:iO),Eb x a/\(ag (gI x)=ag (gI x)/\ag (oq f)=ag (oq a)/\True)/\aE (QS d c F f b x) (EJ x a F))/\∀(b:Int×Int),(∃(a:ap),br d.K d.x x.n d.tag d.s=PR.stop b.fst b.snd a)->ar (bn fun(a:bh)=>aq.simple a) x F (ci b) [(0,bc),(1,F),(2,af f.c (zP f x) 35)]) (∃(a:iO),Eb x a/\(ag (gI x)=ag (gI x)/\ag (oq f)=ag (oq a)/\True)/\aE (u_ x F f) (EJ x a F)))) ((aw q.c 0/\Br (q.kind==31) (yA x F (qW q) (aj (q.kind==31)) (nB n F q x j l)) (true=true/\aw q.c 0/\Br (q.kind==28) (T1 (ak n.x n.t) ⟨x.x.b,1,none⟩ (fun i=>eA (ak n.x n.t) ⟨x.x.b,0,none⟩ (fun h g f=>aS (i<g) (aw j 4/\Br (!(co l.L l.fin l.i).aI) (gA [ag (gI x),ad 0,ai ⟨#[59]⟩] (aH (nB n F q x j l) []) (fun e d=>Br (!ii e.p.L (e.p.i+e.a) e.t) (gA [ag (gI x),ad 0,ai ⟨#[125]⟩] (aH (nB n F q x j l) []) (fun c b=>yA x F (qW q) (aj !ii c.p.L (c.p.i+c.a) c.t) (nB n F q x j l))) (yA x F (qW q) dk (nB n F q x j l)))) (yA x F (qW q) dk (nB n F q x j l))) (yA x F (qW q) dk (nB n F q x j l))))) (yA x F (qW q) dk (nB n F q x j l))))/\aT fun(f:iO)_=>vK x.x.L x.x.fin x.K.tv x.n f.kind x.t.pos f.b x.s.ax=br x.K x.x (x.n+1) (aq.simple x.t) x.s->Br f.b (cq x.n 14 [ag (gI x)] [ak x.x x.s.ax] (aH (u_ x F f) [0]) (fun d c=>∀(b:Nat),aw f.c 3/\Mn x F (qW f) (QS d c F f b x)) (fun d b=>ar (bn fun(a:bh)=>aq.simple a) x F (ci b) [(0,bc),(1,F),(2,af f.c (zP f x) 35)])) (Mn x F (qW f) (u_ x F f))))/\aT fun(g:iO)_=>Eb x g->AI [ag (gI x)] [ak x.x g.t] (aH (EJ x g F) [0]) (fun e d=>cx g.c (db [ag (gI x),agg ⟨Fb g x⟩] [ak e.x d,g.r.A] (fun c b=>ar (bn fun(a:bh)=>aq.simple a) x F (fx c) [(0,ak c.x (c.s.add c.n)),(1,F),(2,af g.c (Fb g x) 35),(3,bc)]))) (fun e b=>ar (bn fun(a:bh)=>aq.simple a) x F (dT b 60) [(0,bc),(1,F),(2,af g.c (Fb g x) 35),(3,g.r.A)])))))):=by
 delta EX T1 gI oq zP De bI cr BF E4 ES im kO Qk jC Qg q4 OU dE lN lO dS fd q0 nB u_ p7 p8 EB Eb bN QS Fb EJ ci yA qW eA gA dk cq Mn mR mi AI kz kC db j5 fx dT aH ak aw cx ad ai aj ag au af bc aS ay aT;obtain⟨K,x,s,os,n,v⟩:=x;obtain⟨ih,R,Q,hp,B,S,I⟩:=hc;replace C:cB K x F:=C;replace I:br K x (n+1) (.simple v) s≠.out:=I;dsimp only at ih R Q hp B S⊢;obtain⟨r,e0⟩:∃r,br K x (n+1) (.simple v) s=r:=⟨_,rfl⟩;rw[e0]at I;have hk:=e0;unfold br at hk;rw[P]at hk;have hl:=R.len;have B:s.i<x.L.length:=B;rw[iF]at hk;intro lc';refine⟨al,fun c=>?_⟩
 repeat (refine⟨al,?_⟩)
 refine⟨?_,?_⟩
 ·refine lj (A:=(bD v.text pi&&decide (s.bu>0))=false) (fun k1=>⟨al,aG (fun a=>⟨_,el fun _=>rfl,bo (fun b=>⟨al,⟨28,s,[],dL,false,c⟩,?_,aV,aA [0,1,2030]⟩) (fun b=>k1 ?_)⟩) (fun a=>k1 ?_)⟩) (fun w=>lj (A:=(bD v.text pe&&decide (s.bm>0))=false) (fun k2=>⟨al,aG (fun a=>⟨_,el fun _=>rfl,bo (fun b=>⟨al,⟨29,s,[],dL,false,c⟩,?_,aV,aA [0,1,2030]⟩) (fun b=>k2 ?_)⟩) (fun a=>k2 ?_)⟩) (fun z=>lj (A:=(bD v.text pg&&decide (s.loops>0))=false) (fun k3=>⟨al,aG (fun a=>⟨_,el fun _=>rfl,bo (fun b=>⟨al,⟨30,s,[],dL,false,c⟩,?_,aV,aA [0,1,2030]⟩) (fun b=>k3 ?_)⟩) (fun a=>k3 ?_)⟩) (fun E=>⟨al,aG (fun a=>⟨al,⟨31,s,[],dL,false,c⟩,?_,aV,aA [0,1,2030]⟩) (fun a=>?_)⟩)))
  ·rw[fZ]at a;rw[show bD v.text pi=true from a,bw (show s.bu>0 from b),Bool.and_self,aU,ip]at hk;exact hk.trans e0.symm
  ·rw[bF (show ¬s.bu>0 from b),lB]
  ·rw[fZ]at a;rw[show bD v.text pi=false from a,jp]
  ·rw[fZ]at a;rw[w,aN,show bD v.text pe=true from a,bw (show s.bm>0 from b),Bool.and_self,aU,ip]at hk;exact hk.trans e0.symm
  ·rw[bF (show ¬s.bm>0 from b),lB]
  ·rw[fZ]at a;rw[show bD v.text pe=false from a,jp]
  ·rw[fZ]at a;rw[w,aN,z,aN,show bD v.text pg=true from a,bw (show s.loops>0 from b),Bool.and_self,aU,ip]at hk;exact hk.trans e0.symm
  ·rw[bF (show ¬s.loops>0 from b),lB]
  ·rw[fZ]at a;rw[show bD v.text pg=false from a,jp]
  ·rw[fZ]at a;rw[w,aN,z,aN,E,aN,show bD v.text qf=true from a,aU,ip]at hk;exact hk.trans e0.symm
  ·rw[fZ]at a;rw[w,aN,z,aN,E,aN,show bD v.text qf=false from a,aN,Fs]at hk;exact bs pG (x.p s) hl (C.ls.df 0 1 aL aL rfl rfl) fun _ _=>⟨.inr (_,_),⟨_,e0.trans hk.symm⟩,rfl,aA [1]⟩
 clear hk;rintro⟨kind,t0,U,r0,H,c⟩ Z hk;dsimp only at hk⊢;rw[e0,KB,kG,m6,iF]at hk;have g1:=Q.step B;refine⟨_,el fun _=>rfl,nq (i:=s.i) (hO Q.i hl),gw rfl rfl rfl,rfl,⟨x,s,s.ax,1,_⟩,rfl,rfl,⟨fun _=>rfl,rfl,a_,rfl,rfl⟩,ao,fun _ _=>?_⟩;refine bs kR (x.p s.ax) hl (C.ls.df 0 1 aL aL rfl rfl) fun _ _ c2=>?_
 repeat (refine⟨al,?_⟩)
 refine⟨?_,?_⟩
 ·refine lj (A:=(kind==(31:Int)&&(aC x.L x.fin s.ax).aI)=false) (fun kx=>⟨al,aG (fun w=>⟨al,aG (fun z=>?_) (fun z=>kx ?_)⟩) (fun w=>kx ?_)⟩) (fun hx=>?_)
  ·rw[show(kind==(31:Int))=true from w,show(aC x.L x.fin s.ax).aI=true from z,Bool.and_self,aU,Fs]at hk;exact bs pG (x.p s.ax) hl (C.ls.df 0 1 aL aL rfl rfl) fun _ _=>⟨.inr (_,_),⟨_,e0.trans hk.symm⟩,rfl,aA [1]⟩
  ·rw[show(aC x.L x.fin s.ax).aI=false from z,lB]
  ·rw[show(kind==(31:Int))=false from w,jp]
  rw[hx,aN,ip]at hk;refine⟨⟨al,?_⟩,?_⟩
  ·have Y:x.L.length<=1048576/\s.ax.i<=1048576/\0<=1048576:=⟨hl,hO g1.i hl,dq _⟩;refine aG (fun w=>⟨⟨kind,s,[],dL,true,c⟩,?_,⟨rfl,rfl,?_,ao⟩,aA [0,1,2]⟩) (fun w=>⟨rfl,al,aG (fun z=>⟨_,el fun _=>rfl,_,_,_,el fun _=>rfl,bo (fun E=>⟨al,aG (fun N=>bs jW ⟨x.p s.ax,0,cU⟩ Y (C.ls.df 0 1 aL aL rfl rfl) fun _ _=>aG (fun O=>bs jW ⟨x.p s.ax,0,rc⟩ Y (C.ls.df 0 1 aL aL rfl rfl) fun _ _=>⟨⟨kind,s,[],dL,!bg x.L s.ax 0 rc,c⟩,?_,⟨rfl,rfl,?_,ao⟩,aA [0,1,2]⟩) (fun O=>⟨⟨kind,s,[],dL,false,c⟩,?_,aV,aA [0,1,2]⟩)) (fun N=>⟨⟨kind,s,[],dL,false,c⟩,?_,aV,aA [0,1,2]⟩)⟩) (fun E=>⟨⟨kind,s,[],dL,false,c⟩,?_,aV,aA [0,1,2]⟩)⟩) (fun z=>⟨⟨kind,s,[],dL,false,c⟩,?_,aV,aA [0,1,2]⟩)⟩)
   ·have y:qe x.L s.ax kind (aC x.L x.fin s.ax).aI=true:=by unfold qe;rw[show(kind==(31:Int))=true from w];rfl
    rw[y]at hk;exact hk.trans e0.symm
   ·show bool (kind==(31:Int))=bool true;rw[show(kind==(31:Int))=true from w]
   all_goals have G:(kind==(31:Int))=false:=w
   ·have y:qe x.L s.ax kind (aC x.L x.fin s.ax).aI= !bg x.L s.ax 0 rc:=by
     unfold qe;rw[G,show(kind==(28:Int))=true from z,bw (show s.ax.i<x.L.length from Int.ofNat_lt.1 E),show(!(aC x.L x.fin s.ax).aI)=true from N,show(!bg x.L s.ax 0 cU)=true from O];rfl
    rw[y]at hk;exact hk.trans e0.symm
   ·rfl
   ·have y:qe x.L s.ax kind (aC x.L x.fin s.ax).aI=false:=by
     unfold qe;rw[G,show(!bg x.L s.ax 0 cU)=false from O];simp
    rw[y]at hk;exact hk.trans e0.symm
   ·have y:qe x.L s.ax kind (aC x.L x.fin s.ax).aI=false:=by
     unfold qe;rw[G,show(!(aC x.L x.fin s.ax).aI)=false from N];simp
    rw[y]at hk;exact hk.trans e0.symm
   ·have y:qe x.L s.ax kind (aC x.L x.fin s.ax).aI=false:=by
     unfold qe;rw[G,bF (show ¬s.ax.i<x.L.length from fun h=>E (Int.ofNat_lt.2 h))];simp
    rw[y]at hk;exact hk.trans e0.symm
   ·have y:qe x.L s.ax kind (aC x.L x.fin s.ax).aI=false:=by
     unfold qe;rw[G,show(kind==(28:Int))=false from z];rfl
    rw[y]at hk;exact hk.trans e0.symm
  clear hk hx;rintro⟨kind,t0,U,r0,H,c⟩ Z hk;dsimp only at hk⊢;rw[e0,vK]at hk;refine aG (fun h=>?_) (fun h=>?_)
  ·have h:H=true:=h;rw[h,aU]at hk;refine ca g1 (z_ hk I) (fun k t1 hk M T W L V J X=>?_) (cC:=ao) (ct:=ao) (cN:=ao);dsimp only[aq.sl,ap.ax,ap.add]at T W L V J X;intro lb;exact⟨al,⟨kind,t1,[k],kT lb [k],false,c⟩,⟨M,jw lb [k],hk.trans e0.symm⟩,aV,aA [0,1,2,18020]⟩
  ·have h:H=false:=h;rw[h,aN,ip]at hk;exact⟨⟨kind,s.ax,[],dL,false,c⟩,⟨g1.cast (dn _).symm,zh,hk.trans e0.symm⟩,aV,aA [0,1,2,999]⟩
 clear hk;rintro⟨kind,t,ks,r',H,c⟩ Z ⟨g,D,hk⟩;dsimp only at g D hk⊢;rw[e0,KC]at hk;refine bs Sn ⟨x,t⟩ ⟨hl,g.i⟩ (C.ls.sub (bU 1)) ⟨fun u q=>?_,fun p q=>⟨.inr (p,60),⟨_,e0.trans (hk.symm.trans (Sv q))⟩,rfl,aA [1]⟩⟩;rw[Su q,h_]at hk;obtain⟨M,-⟩:=PG.qc R g q
 repeat (refine⟨al,?_⟩)
 refine bO fi ⟨x,u,⟨kind,.empty,0,ks,v.pos⟩,r'⟩ ⟨by have:=M.cap hl;dsimp only[ap.ax,ap.add]at*;omega,D⟩ fun _ _=>?_;exact eH (e0.trans hk.symm)
theorem aiJ:aD 42 (bn (fun(d:bh)=>aq.simple d)):=fo 115 Tryz.func42 aiI [] aY aiH bA [] aiK
end
end Go.Proofs.YtdkchodgklpomaaGreatDoor
