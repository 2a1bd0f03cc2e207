/- Part of the proof that ParseParens answers true at every input. -/
import Derived.Test.YtdkchodgklpomaaGreatDoorPPan
set_option linter.all false
namespace Go.Proofs.YtdkchodgklpomaaGreatDoor
set_option maxRecDepth 100000
open Go.Value (int slice string bool pointer agg tuple func float iface nilIface)
open Go.IntKind (i64 u8 u64 i32 u32 u16 i8 i16)
open Go.FloatKind (f64)
open Go.Ending (returned panicked)
section
open Go
structure n8 where
 t:al
 k:Int
 f:Nat
def Dv(L:List bh)(fin:Int)(tv:Nat->ByteArray)(f:Nat)(k:Int)(aJ:List Int):PM (List Int):=do
 let p <-dN k
 let m <-db ⟨10,.empty,0,aJ,p⟩
 P L fin tv bx f (.dO m)
def M4(L:List bh)(fin:Int)(tv:Nat->ByteArray)(f:Nat)(ks:List Int):PM (List Int):=do
 let e <-one (P L fin tv bx f .aZ)
 P L fin tv bx f (.dS (ks++[e]))
structure qT where
 t:al
 k:Int
 ks:List Int
 r:Row
 f:Nat
 f0:Nat
def qT.ok(d:qT)(x:cf)(s:al)(os:List Int)(n:Nat):Prop:=PG x d.t (os++d.ks)/\bz 3 1 (bB d.ks) d.r/\d.f<=n/\d.f0<=n/\d.k∈d.ks
def ah7(x:bk Unit)(F:ah):Nat->Option Inv:=fun
 |0=>some {X:=n8,P:=fun d=>PG x.x d.t (x.os++[d.k])/\d.f<=x.n/\P x.x.L x.x.fin x.K.tv bx d.f (.dO d.k) d.t=bs x.K x.x (x.n+1) .suffix x.s,mu:=fun d=>d.f,lv:=fun d=>[(0,ag (b_ x)),(3,ad d.k)],st:=fun d=>[ak x.x d.t,F]}
 |3=>some {X:=qT,gh:=some ⟨Nat,fun d=>d.f0⟩,P:=fun d=>d.ok x.x x.s x.os x.n/\(P x.x.L x.x.fin x.K.tv bx d.f (.dS d.ks)>>=Dv x.x.L x.x.fin x.K.tv d.f0 d.k) d.t=bs x.K x.x (x.n+1) .suffix x.s,mu:=fun d=>d.f,lv:=fun d=>[(0,ag (b_ x)),(3,ad d.k),(6,au d.r.a d.r.n d.r.cap)],st:=fun d=>[ak x.x d.t,F,d.r.A]}
 |_=>none
def ah6(x:bk Unit)(F:ah):Nat->Option Inv:=fun
 |18=>some {X:=qT,gh:=some ⟨Nat×Nat,fun d=>(d.f,d.f0)⟩,P:=fun d=>d.ok x.x x.s x.os x.n/\(M4 x.x.L x.x.fin x.K.tv d.f d.ks>>=Dv x.x.L x.x.fin x.K.tv d.f0 d.k) d.t=bs x.K x.x (x.n+1) .suffix x.s,mu:=fun _=>0,lv:=fun d=>[(0,.pointer (some ⟨x.x.b,0,none⟩)),(3,.int .i64 d.k),(6,.slice d.r.a d.r.n d.r.cap)],st:=fun d=>[ak x.x d.t,F,d.r.A]}
 |_=>none
def ah9(x:bk Unit)(a:ah):List (Nat×Nat×OH):=[(1,1,bu (cx x.n 106)),(3,1,bu hZ),(4,1,aW iq),(4,2,.n 5020),(4,3,.w (eJ 5020)),(5,1,aR 5020),(5,5,aR 5020),(6,1,aW kS),(7,3,c9),(7,7,dV fE),(8,2,aR 5020),(8,4,.n 9040),(8,7,bu sy),(8,9,.c fD [0,9040] [0]),
 (9,1,bu hZ),(10,1,bu (cx x.n 14)),(11,1,bu ia),(12,3,.n 13030),(12,6,bu sy),(12,8,.c fD [0,13030] [0]),
 (13,1,bu hZ),(14,1,.n 15010),(15,1,bu hZ),(17,1,bu ia),(18,2,bu (cx x.n 14)),(18,3,.n 19030),(18,4,.o (de 3 1 8) [2] [2]),(19,4,bu sy),(19,6,.c fD [0,2] [0])]
def ah8:Nat->List Nat:=fun r=>if r=8 then [0,1,2,3,5,6,7,4,8,9,10] else []
def Ii(e0:bk Unit)(z:n8):=PG e0.x z.t (e0.os++[z.k])/\z.f<=e0.n/\P e0.x.L e0.x.fin e0.K.tv bx z.f (ap.dO z.k) z.t=bs e0.K e0.x (e0.n+1) ap.suffix e0.s
def Gj(e0:bk Unit)(e1:ah)(v0:Value)(a:St)(mm:Nat):=∃(z:n8),Ii e0 z/\(ag (b_ e0)=ag (b_ e0)/\v0=ad z.k/\True)/\aE a [(0,ak e0.x z.t),(1,e1)]/\z.f<mm
def RE(u:iB)(x:bk Unit)(j:Nat)(w:n8)(l:cW)(F:ah):=T1 (ak u.x u.s.ay) ⟨x.x.b,1,none⟩ (fun i=>dx i/\dK (ba Tryz.f92 7 7) (mY x i) [ak u.x u.s.ay] (fun h g=>true=true/\aw j 1/\ri [ag (b_ x),ad w.k] [ak h.x h.t] (fun f e=>∀(d:Nat),c7 [ag (b_ x),agg ⟨[ad 8,ai (cn l.L l.fin l.i).text,float f64 0,au (bI d) 1 1,ad (du f.s f.k)]⟩] [ak f.x f.s,af d [ad w.k] 3] (fun c b=>Gj x F (jQ c) [(0,ak c.x (c.s.add c.n)),(1,F),(5020,af j (q0 l) 53),(9040,bd)] w.f))))
def H1(a:qT)(x:bk Unit)(n:Nat):=(a.ok x.x x.s x.os x.n/\(P x.x.L x.x.fin x.K.tv bx a.f (ap.dS a.ks)>>=Dv x.x.L x.x.fin x.K.tv a.f0 a.k) a.t=bs x.K x.x (x.n+1) ap.suffix x.s)/\a.f0=n
def PI(z:qT)(e0:bk Unit):=z.ok e0.x e0.s e0.os e0.n/\(M4 e0.x.L e0.x.fin e0.K.tv z.f z.ks>>=Dv e0.x.L e0.x.fin e0.K.tv z.f0 z.k) z.t=bs e0.K e0.x (e0.n+1) ap.suffix e0.s
def L6(e0:bk Unit)(e1:Nat×Nat)(a:ah)(v0 v1:Value)(b:St):=∃(z:qT),(PI z e0/\(z.f,z.f0)=e1)/\(ag (b_ e0)=ag (b_ e0)/\v0=ad z.k/\v1=au z.r.a z.r.n z.r.cap/\True)/\aE b [(0,ak e0.x z.t),(1,a),(2,z.r.A)]
theorem aia(x:bk Unit)(F:ah)(hc:aQ.cond (bm (fun(_:Unit)=>ap.suffix)) x)(H:aQ.aO (bm (fun(_:Unit)=>ap.suffix)) x F):cq x.n 106 (eg x) [ak x.x x.s] (tm x F) (fun z y=>(∃(a:n8),Ii x a/\(ag (b_ x)=ag (b_ x)/\ad y.fst=ad a.k/\True)/\aE (lf z y F) [(0,ak x.x a.t),(1,F)])/\aT fun(w:n8)_=>Ii x w->fJ [ag (b_ x),ai ⟨#[46]⟩] [ak x.x w.t] (aH [(0,ak x.x w.t),(1,F)] [0]) (fun u m=>e7 (eg x) (aH (mr u F) []) (fun l k=>∀(j:Nat),cz j (aw j 0/\Br ((cn l.L l.fin l.i).kind !=1) (aw j 0/\Br ((cn l.L l.fin l.i).kind !=2) (kv (eg x) (aH [(0,ak u.x u.s.ay),(1,F),(5020,af j (q0 l) 53)] []) (fun c b=>ar (bm fun(a:Unit)=>ap.suffix) x F (jt c) [(0,ak u.x u.s.ay),(1,F),(5020,af j (q0 l) 53)])) (RE u x j w l F)) (RE u x j w l F)))) (fun u t=>fJ [ag (b_ x),ai ⟨#[91]⟩] [ak u.x u.s] (aH (kf u F) [0]) (fun s k=>cq x.n 14 (eg x) [ak s.x s.s.ay] (aH (mr s F) [0]) (fun j i=>fZ [ag (b_ x),ai ⟨#[93]⟩] [ak j.x i.snd] (aH (lf j i F) [0]) (fun h g=>∀(f:Nat),ri [ag (b_ x),ad w.k] [ak h.x h.s.ay] (fun e d=>c7 [ag (b_ x),agg ⟨[ad 9,ai ⟨#[]⟩,float f64 0,au (bI f) 2 2,ad (du e.s e.k)]⟩] [ak e.x e.s,af f [ad w.k,ad i.fst] 3] (fun c b=>Gj x F (jQ c) [(0,ak c.x (c.s.add c.n)),(1,F),(13030,bd)] w.f))) (fun h b=>ar (bm fun(a:Unit)=>ap.suffix) x F (gg h) (hT F))) (fun j b=>ar (bm fun(a:Unit)=>ap.suffix) x F (cd b) (hT F))) (fun s r=>fJ [ag (b_ x),ai ⟨#[40]⟩] [ak s.x s.s] (aH (kf s F) [0]) (fun q p=>∀(o:Nat),∃(n:Nat),(∃(a:qT),H1 a x n/\(ag (b_ x)=ag (b_ x)/\ad w.k=ad a.k/\au (bI o) 1 1=au a.r.a a.r.n a.r.cap/\True)/\aE [(0,ak q.x q.s.ay),(1,F),(15010,af o [ad w.k] 3)] [(0,ak x.x a.t),(1,F),(2,a.r.A)])/\aT fun(m:qT)_=>H1 m x n->fJ [ag (b_ x),ai ⟨#[41]⟩] [ak x.x m.t] (aH [(0,ak x.x m.t),(1,F),(2,m.r.A)] [0]) (fun k f=>ri [ag (b_ x),ad m.k] [ak k.x k.s.ay] (fun e d=>c7 [ag (b_ x),agg ⟨[ad 10,ai ⟨#[]⟩,float f64 0,au m.r.a m.r.n m.r.cap,ad (du e.s e.k)]⟩] [ak e.x e.s,m.r.A] (fun c b=>Gj x F (jQ c) [(0,ak c.x (c.s.add c.n)),(1,F),(2,bd)] w.f))) (fun k j=>∃(i:Nat×Nat),aS ((m.r.n:Int)>1) (fZ [ag (b_ x),ai ⟨#[44]⟩] [ak k.x k.s] (aH [(0,ak k.x k.s),(1,F),(2,m.r.A)] [0]) (fun c b=>L6 x i F (ad m.k) (au m.r.a m.r.n m.r.cap) [(0,ak c.x c.s.ay),(1,F),(2,m.r.A)]) (fun c b=>ar (bm fun(a:Unit)=>ap.suffix) x F (gg c) [(0,bd),(1,F),(2,m.r.A)])) (L6 x i F (ad m.k) (au m.r.a m.r.n m.r.cap) [(0,ak k.x k.s),(1,F),(2,m.r.A)])/\aT fun(h:qT)_=>(PI h x/\(h.f,h.f0)=i)->cq x.n 14 (eg x) [ak x.x h.t] (aH [(0,ak x.x h.t),(1,F),(2,h.r.A)] [0]) (fun f e=>∀(d:Nat),fz (ba Tryz.f92 18 4) [au h.r.a h.r.n h.r.cap,au (bI d) 1 1] [h.r.A] (aH [(0,ak f.x e.snd),(1,F),(2,h.r.A),(19030,af d (bN e) 3)] [2]) (fun c b=>∃(a:qT),H1 a x n/\(ag (b_ x)=ag (b_ x)/\ad h.k=ad a.k/\au b.a b.n b.cap=au a.r.a a.r.n a.r.cap/\True)/\aE [(0,ak f.x e.snd),(1,F),(2,b.A),(19030,af d (bN e) 3)] [(0,ak x.x a.t),(1,F),(2,a.r.A)]/\a.f<m.f)) (fun f b=>ar (bm fun(a:Unit)=>ap.suffix) x F (cd b) [(0,bd),(1,F),(2,h.r.A)]))) (fun q b=>ar (bm fun(a:Unit)=>ap.suffix) x F (ax (ad w.k)) (kf q F))))) (fun z b=>ar (bm fun(a:Unit)=>ap.suffix) x F (cd b) (hT F)):=by
 delta cq b_ eg tm Ii lf ja fJ ib e7 mr kv q0 jt T1 dx lg lh dK mY ri kg kh c7 bI Gj jQ RE kf fZ gg hT cd H1 PI L6 kF fz bN dL aH ak aw cz ad ai aj ag au af bd aS ax aT;obtain⟨K,x,s,os,n,tp⟩:=x;obtain⟨ih,hK,hG,hp,X,W,G⟩:=hc;replace H:cA K x F:=H;replace G:bs K x (n+1) .suffix s≠.out:=G;dsimp only at ih hK hG hp X W⊢;obtain⟨r,e0⟩:∃r,bs K x (n+1) .suffix s=r:=⟨_,rfl⟩;rw[e0]at G;have hk:=e0;unfold bs at hk;rw[P]at hk;have hl:=hK.len;refine ca hG (ft hk G) (fun k t1 hk g1 Z x5 T x2 N x8=>?_) (cB:=ao) (ct:=ao) (cN:=ao);dsimp only[ap.sl,al.ay,al.add]at Z x5 T x2 N x8;refine⟨⟨⟨t1,k,n⟩,⟨g1,bT _,hk.trans e0.symm⟩,aV,az [0,1]⟩,?_⟩;clear hk g1;rintro⟨t,k,f⟩ js ⟨g,C,hk⟩;dsimp only at g C hk⊢;rw[e0]at hk;obtain _|f:=f
 ·exact absurd hk (fun e=>G (e.symm.trans (by rw[P];rfl)))
 replace C:f<=n:=Nat.le_of_succ_le C;rw[P]at hk;have I:=g.nd;refine br jI ⟨x,t,TQ⟩ ⟨hl,g.i⟩ (H.ls.sub (bP 1)) ⟨fun _ q=>?_,fun _ q=>?_⟩
 ·rw[kJ q,aU,m6]at hk;have E:=g.is q;refine br kz (x.p t.ay) hl (H.ls.da 0 1 aL aL rfl rfl) fun _ _ c=>?_
  repeat (refine⟨aq,?_⟩)
  refine kL (A:=((aB x.L x.fin t.ay).kind !=1&&(aB x.L x.fin t.ay).kind !=2)=false) (fun kx=>aG (fun J=>⟨aq,aG (fun L=>?_) (fun L=>kx ?_)⟩) (fun J=>kx ?_)) (fun hx=>?_)
  ·rw[show((aB x.L x.fin t.ay).kind !=1)=true from J,show((aB x.L x.fin t.ay).kind !=2)=true from L,Bool.and_self,aU]at hk;exact br pe (x.p t.ay) hl (H.ls.da 0 1 aL aL rfl rfl) fun _ _=>⟨.inr (_,_),⟨_,e0.trans hk.symm⟩,rfl,az [1]⟩
  ·rw[show((aB x.L x.fin t.ay).kind !=2)=false from L,j5]
  ·rw[show((aB x.L x.fin t.ay).kind !=1)=false from J,jk]
  rw[hx,aM,ie,kK,zL,xi]at hk;have hi:t.ay.i<x.L.length:=ui (fin:=x.fin) (fun e=>by rw[e]at hx;cases hx);have g3:=E.step hi;refine⟨_,ef fun _=>rfl,mP (i:=t.ay.i) (gR E.i hl),gk rfl rfl rfl,rfl,⟨x,t.ay,t.ay.ay,1,_⟩,rfl,rfl,⟨fun _=>rfl,rfl,by simp[*],rfl,rfl⟩,ao,fun _ _=>?_⟩;refine⟨rfl,aq,?_⟩;refine bO vP ⟨x,t.ay.ay,k⟩ (g3.jy aL) fun _ _=>?_;intro lb;have g4:=PG.node (n:=⟨8,(aB x.L x.fin t.ay).text,0,[k],du t.ay.ay k⟩) g3 (g3.pos aL) (by show t.nodes.length+1<=2*(t.i+1+1);omega);refine bO e_ ⟨x,t.ay.ay,⟨8,(aB x.L x.fin t.ay).text,0,[k],du t.ay.ay k⟩,kB lb [k]⟩ ⟨by have:=g3.cap hl;grind,jo lb [k]⟩ fun _ _=>?_;exact⟨⟨_,_,f⟩,⟨g4,C,hk.trans e0.symm⟩,aV,az [0,1],io _⟩
 rw[lj q,aM]at hk;refine br jI ⟨x,t,lb⟩ ⟨hl,g.i⟩ (H.ls.sub (bP 1)) ⟨fun _ q=>?_,fun _ q=>?_⟩
 ·rw[kJ q,aU]at hk;have E:=g.is q;refine ca E ((ft hk G).up C) (fun e t1 hk g3 x1 x7 V x4 Q y0=>?_) (cB:=ao) (ct:=ao) (cN:=ao);dsimp only[ap.sl,al.ay,al.add]at x1 x7 V x4 Q y0;refine ma g3 hk (fun hk g4=>?_);rw[zL,xi]at hk;intro lb;refine bO vP ⟨x,t1.ay,k⟩ (g4.jy aL) fun _ _=>?_;have g5:=PG.node (n:=⟨9,.empty,0,[k,e],du t1.ay k⟩) (g4.cast (jj _ _ _)) (g4.pos aL) (by show t1.nodes.length+1<=2*(t1.i+1);omega);refine bO e_ ⟨x,t1.ay,⟨9,.empty,0,[k,e],du t1.ay k⟩,kB lb [k,e]⟩ ⟨by have:=g4.cap hl;grind,jo lb [k,e]⟩ fun _ _=>?_;exact⟨⟨_,_,f⟩,⟨g5,C,hk.trans e0.symm⟩,aV,az [0,1],io _⟩
 rw[lj q,aM]at hk;refine br jI ⟨x,t,lp⟩ ⟨hl,g.i⟩ (H.ls.sub (bP 1)) ⟨fun _ q=>?_,fun _ q=>?_⟩;rotate_left
 ·rw[lj q,aM]at hk;exact ew (e0.trans hk.symm)
 rw[kJ q,aU]at hk;have E:=g.is q;intro lb;refine⟨f,⟨⟨t.ay,k,[k],kB lb [k],f,f⟩,⟨⟨⟨E,jo lb [k],C,C,List.mem_singleton.2 rfl⟩,hk.trans e0.symm⟩,rfl⟩,aV,az [0,1,15010]⟩,?_⟩;clear hk g E q I;rintro⟨t,k,ks,M,f2,f3⟩ js ⟨⟨⟨g,B,C,D,v⟩,hk⟩,e1⟩;have e1:f3=f:=e1;subst e1;dsimp only at g B C D v hk⊢;rw[e0]at hk;obtain _|f2:=f2
 ·exact absurd hk (fun e=>G (e.symm.trans (by rw[P];rfl)))
 replace C:f2<=n:=Nat.le_of_succ_le C;rw[P,eO]at hk;have Y:M.n=ks.length:=by have:=B.len;rw[A_]at this;omega
 have I:=g.nd;refine br jI ⟨x,t,rp⟩ ⟨hl,g.i⟩ (H.ls.sub (bP 1)) ⟨fun _ q=>?_,fun _ q=>?_⟩
 ·rw[kJ q,aU,ie,Dv,zL,xi]at hk;have E:=g.is q;refine bO vP ⟨x,t.ay,k⟩ (E.jy (by simp[v])) fun _ _=>?_;have g3:=PG.node (n:=⟨10,.empty,0,ks,du t.ay k⟩) E (E.pos (by simp[v])) (by show t.nodes.length+1<=2*(t.i+1);omega);refine bO e_ ⟨x,t.ay,⟨10,.empty,0,ks,du t.ay k⟩,M⟩ ⟨by have:=E.cap hl;grind,B⟩ fun _ _=>?_;exact⟨⟨_,_,_⟩,⟨g3,D,hk.trans e0.symm⟩,aV,az [0,1],io _⟩
 rw[lj q,aM]at hk;refine⟨(f2,f3),?_,?_⟩
 ·refine bo (fun J=>?_) (fun J=>?_)
  ·rw[bv (show ks.length>1 by omega),aU,eO]at hk;refine ma g hk (fun hk E=>?_);exact⟨⟨t.ay,k,ks,M,f2,f3⟩,⟨⟨⟨E,B,C,D,v⟩,hk.trans e0.symm⟩,rfl⟩,aV,az [0,1,2]⟩
  ·rw[bF (show ¬ks.length>1 by omega),aM,eO,ie]at hk;exact⟨⟨t,k,ks,M,f2,f3⟩,⟨⟨⟨g,B,C,D,v⟩,hk.trans e0.symm⟩,rfl⟩,aV,az [0,1,2]⟩
 clear hk g B C D v Y I q;rintro⟨t,k,ks,M,R,S⟩ js ⟨⟨⟨g,B,C,D,v⟩,hk⟩,e1⟩;have e1:(R,S)=(f2,f3):=e1;cases e1;dsimp only at g B C D v hk⊢;rw[e0,M4,eO]at hk;refine ca g ((ft hk G).up C) (fun e t1 hk E x0 x6 U x3 O x9=>?_) (cB:=ao) (ct:=ao) (cN:=ao);dsimp only[ap.sl,al.ay,al.add]at x0 x6 U x3 O x9;intro lb;have A6:=o4 g hl;refine kQ (ks:=ks) (k:=e) 19030 B ae (fun r2 L=>?_);exact⟨⟨t1,k,ks++[e],r2,f2,f3⟩,⟨⟨⟨E.cast (jj _ _ _),L,C,D,qd _ v⟩,hk.trans e0.symm⟩,rfl⟩,aV,az [0,1,2],io _⟩
theorem ah_:aC 92 (bm (fun(_:Unit)=>ap.suffix)):=fo 83 Tryz.func92 ah9 [] ah7 ah6 ah8 [] aia
end
section
open Go
def oE(x:bk Nat):Option Addr:=some ⟨x.x.b,0,none⟩
def ahL(x:bk Nat)(F:ah):Nat->Option Inv:=fun
 |0=>some {X:=n8,P:=fun d=>PG x.x d.t (x.os++[d.k])/\d.f<=x.n/\x.t<=9/\P x.x.L x.x.fin x.K.tv bx d.f (.fM x.t d.k) d.t=bs x.K x.x (x.n+1) (.level x.t) x.s,mu:=fun d=>d.f,lv:=fun d=>[(0,ag (oE x)),(1,ad x.t),(5,ad d.k)],st:=fun d=>[ak x.x d.t,F]}
 |_=>none
def ahN(x:bk Nat)(a:ah):List (Nat×Nat×OH):=[(2,1,bu (cx x.n 64)),(3,3,bu (cx x.n 37)),(4,1,aW iq),(4,2,.n 5020),(4,3,.w (eJ 5020)),(5,1,aR 5020),(5,5,aR 5020),(5,11,.q [.ex 1 .slice]),(5,13,aR 5020),(5,14,aW yi),(7,3,c9),(7,7,dV fE),(8,3,bu (cx x.n 37)),(12,3,aR 5020),(12,6,.n 13060),(12,9,bu sy),(12,11,.c fD [0,13060] [0])]
def ahM:Nat->List Nat:=fun r=>if r=12 then [0,1,2,3,4,5,7,8,9,6,10,11,12] else []
theorem afg(n:Nat):((nH[n]?).getD []).length<=1000:=by
 rcases Nat.lt_or_ge n 10 with h|h
 ·have:n=0\/n=1\/n=2\/n=3\/n=4\/n=5\/n=6\/n=7\/n=8\/n=9:=by omega
  rcases this with rfl|rfl|rfl|rfl|rfl|rfl|rfl|rfl|rfl|rfl <;> decide
 ·rw[ot (show nH.length<=n from h)];decide
def QD(x:bk Nat):=(-9223372036854775808:Int)<=(x.t:Int)+1/\(x.t:Int)+1<=(9223372036854775807:Int)
def H6(e0:bk Nat)(z:n8):=PG e0.x z.t (e0.os++[z.k])/\z.f<=e0.n/\e0.t<=9/\P e0.x.L e0.x.fin e0.K.tv bx z.f (ap.fM e0.t z.k) z.t=bs e0.K e0.x (e0.n+1) (ap.level e0.t) e0.s
def Q0(x:bk Nat)(F:ah)(u:n8)(q:Nat)(s:cW):=ar (bm fun(a:Nat)=>ap.level a) x F (ax (ad u.k)) [(0,ak x.x u.t),(1,F),(5020,af q (q0 s) 53)]
def SV(e0:bk Nat)(e1:ah)(v0:Value)(a:St)(mm:Nat):=∃(z:n8),H6 e0 z/\(ag (oE e0)=ag (oE e0)/\ad ↑e0.t=ad ↑e0.t/\v0=ad z.k/\True)/\aE a [(0,ak e0.x z.t),(1,e1)]/\z.f<mm
def Rm(x:bk Nat)(F:ah)(q:Nat)(s:cW)(u:n8):n6->Unit->Prop:=fun c b=>SV x F (jQ c) [(0,ak c.x (c.s.add c.n)),(1,F),(5020,af q (q0 s) 53),(13060,bd)] u.f
def OB(x:bk Nat)(F:ah)(q:Nat)(s:cW)(u:n8):=(0<=(x.t:Int)/\(x.t:Int)<(↑(10:Nat):Int))/\eI F ⟨3,0+(x.t:Int).toNat*1,none⟩ (fun p o n=>aw q 1/\Gh [au p o n,ai (cn s.L s.fin s.i).text] (aH [(0,ak x.x u.t),(1,F),(5020,af q (q0 s) 53)] []) (fun m l=>Br (!cI m.row m.t) (Q0 x F u q s) (T1 (ak x.x u.t) ⟨x.x.b,1,none⟩ (fun k=>dx k/\dK (ba Tryz.f37 7 7) [ag (some ⟨x.x.b,1,none⟩),ad (k+1)] [ak x.x u.t] (fun j i=>QD x/\cq x.n 37 [ag (oE x),ad ((x.t:Int)+1)] [ak j.x j.t] (aH [(0,ak j.x j.t),(1,F),(5020,af q (q0 s) 53)] [0]) (fun h g=>aS ((x.t:Int)<2) (true=true/\aw q 1/\ri [ag (oE x),ad u.k] [ak h.x g.snd] (fun f e=>∀(d:Nat),c7 [ag (oE x),agg ⟨[ad 14,ai (cn s.L s.fin s.i).text,float f64 0,au (bI d) 2 2,ad (du f.s f.k)]⟩] [ak f.x f.s,af d [ad u.k,ad g.fst] 3] (Rm x F q s u))) (true=true/\aw q 1/\ri [ag (oE x),ad u.k] [ak h.x g.snd] (fun f e=>∀(d:Nat),c7 [ag (oE x),agg ⟨[ad 13,ai (cn s.L s.fin s.i).text,float f64 0,au (bI d) 2 2,ad (du f.s f.k)]⟩] [ak f.x f.s,af d [ad u.k,ad g.fst] 3] (Rm x F q s u)))) (fun h b=>ar (bm fun(a:Nat)=>ap.level a) x F (cd b) [(0,bd),(1,F),(5020,af q (q0 s) 53)]))))))
theorem ahP(x:bk Nat)(F:ah)(hc:aQ.cond (bm (fun(m:Nat)=>ap.level m)) x)(E:aQ.aO (bm (fun(m:Nat)=>ap.level m)) x F):Br ((x.t:Int)==10) (cq x.n 64 [ag (oE x)] [ak x.x x.s] (aH [(0,ak x.x x.s),(1,F)] [0]) (fun c b=>ar (bm fun(a:Nat)=>ap.level a) x F (jv b) (lf c b F)) (fun c b=>ar (bm fun(a:Nat)=>ap.level a) x F (cd b) (hT F))) (QD x/\cq x.n 37 [ag (oE x),ad ((x.t:Int)+1)] [ak x.x x.s] (aH [(0,ak x.x x.s),(1,F)] [0]) (fun w v=>(∃(a:n8),H6 x a/\(ag (oE x)=ag (oE x)/\ad ↑x.t=ad ↑x.t/\ad v.fst=ad a.k/\True)/\aE (lf w v F) [(0,ak x.x a.t),(1,F)])/\aT fun(u:n8)_=>H6 x u->e7 [ag (oE x)] (aH [(0,ak x.x u.t),(1,F)] []) (fun s r=>∀(q:Nat),cz q (true=true/\aw q 0/\Br (wQ s) (aw q 0/\Br ((cn s.L s.fin s.i).kind !=2) (Q0 x F u q s) (OB x F q s u)) (OB x F q s u)))) (fun w b=>ar (bm fun(a:Nat)=>ap.level a) x F (cd b) (hT F))):=by
 delta cq oE jv lf cd hT QD H6 ib e7 wQ q0 Q0 eI pA B1 Gh T1 dx lg lh dK ri kg kh c7 bI SV jQ Rm OB dL aH ak aw cz ad ai aj ag au af bd aS ax aT;obtain⟨K,x,s,os,n,d⟩:=x;obtain⟨ih,hK,N,hp,y,R,z⟩:=hc;replace E:cA K x F:=E;replace z:bs K x (n+1) (.level d) s≠.out:=z;dsimp only at ih hK N hp y R⊢;obtain⟨r,e0⟩:∃r,bs K x (n+1) (.level d) s=r:=⟨_,rfl⟩;rw[e0]at z;have hk:=e0;unfold bs at hk;rw[P]at hk;have hl:=hK.len;have y:d<=10:=y;refine aG (fun h=>?_) (fun h=>?_)
 ·have h:((d:Int)==10)=true:=h;rw[fL 10 h,aU]at hk;exact ca N (ty hk z) (fun _ _ q _ _ _ _ _ _ _=>ew (e0.trans q.symm)) (cB:=ao) (ct:=ao) (cN:=ao)
 have h:((d:Int)==10)=false:=h;have D:d<=9:=by
  rcases Nat.lt_or_ge d 10 with h'|h'
  ·omega
  ·rw[show d=10 by omega]at h;cases h
 rw[fL 10 h,aM]at hk;refine⟨⟨by(try dsimp only);omega,by(try dsimp only);omega⟩,?_⟩;refine ca N (ft hk z) (fun k t1 hk g1 S W I U G Z=>?_) (cB:=ao) (ct:=(show d+1<=10 by omega)) (cN:=ao);dsimp only[ap.sl,al.ay,al.add]at S W I U G Z;refine⟨⟨⟨t1,k,n⟩,⟨g1,bT _,D,hk.trans e0.symm⟩,aV,az [0,1]⟩,?_⟩;clear hk g1;rintro⟨t,k,f⟩ js ⟨g,C,-,hk⟩;dsimp only at g C hk⊢;rw[e0]at hk;obtain _|f:=f
 ·exact absurd hk (fun e=>z (e.symm.trans (by rw[P];rfl)))
 replace C:f<=n:=Nat.le_of_succ_le C;rw[P,m6]at hk;have Ny:=g.nd;refine br kz (x.p t) hl (E.ls.da 0 1 aL aL rfl rfl) fun _ _ c=>?_
 repeat (refine⟨aq,?_⟩)
 refine kL (A:=ur x t) (fun kx=>⟨rfl,aq,aG (fun M=>⟨aq,aG (fun p=>?_) (fun p=>kx (.inr (Bj p)))⟩) (fun M=>kx (.inl (Bj M)))⟩) (fun hx=>?_)
 ·rw[show((aB x.L x.fin t).kind !=5)=true from M,show((aB x.L x.fin t).kind !=2)=true from p,Bool.and_self,Bool.true_or,aU]at hk;exact ew (e0.trans hk.symm)
 have hb:((aB x.L x.fin t).kind !=5&&(aB x.L x.fin t).kind !=2)=false:=by rcases hx with h|h <;> rw[h] <;> rfl
 rw[hb,Bool.false_or]at hk;obtain⟨row,l⟩:∃row,nH[d]?=some row:=⟨_,gy (show d<nH.length from Nat.lt_succ_of_le D)⟩;obtain⟨rb,ro,Y,O,Q⟩:=E.gp.U9 d row l;have B:=afg d;rw[l]at hk B;rw[Option.getD_some]at hk B;refine⟨⟨by(try dsimp only);omega,by(try dsimp only);omega⟩,_,_,_,?_,aq,TI,rfl,⟨rb,ro,Y,row,(aB x.L x.fin t).text⟩,rfl,rfl,B,c4.rest (j:=1) aL Q,fun _ _=>aG (fun p=>?_) (fun p=>?_)⟩
 ·have e2:0+(d:Int).toNat*1=d:=by omega
  rw[e2];exact O
 ·rw[show(!cI row (aB x.L x.fin t).text)=true from p,aU]at hk;exact ew (e0.trans hk.symm)
 rw[show(!cI row (aB x.L x.fin t).text)=false from p,aM,kK]at hk;have g2:=g.step hx.lt;refine⟨_,ef fun _=>rfl,mP (i:=t.i) (gR g.i hl),gk rfl rfl rfl,rfl,⟨x,t,t.ay,1,_⟩,rfl,rfl,⟨fun _=>rfl,rfl,bg,rfl,rfl⟩,ao,fun _ _=>?_⟩;refine⟨⟨by(try dsimp only);omega,by(try dsimp only);omega⟩,?_⟩;refine ca g2 ((ft hk z).up C) (fun o t1 hk g3 T X J V H x0=>?_) (cB:=ao) (ct:=(show d+1<=10 by omega)) (cN:=ao);dsimp only[ap.sl,al.ay,al.add]at T X J V H x0;rw[zL,xi]at hk;have hn3:=g3.nd;have hi3:1<=t1.i:=ae;refine bo (fun h3=>?_) (fun h3=>?_)
 ·rw[bv (show d<2 by omega),aU]at hk;refine⟨rfl,aq,?_⟩;refine bO vP ⟨x,t1,k⟩ (g3.jy aL) fun _ _=>?_;intro lb;have L:=PG.node (n:=⟨14,(aB x.L x.fin t).text,0,[k,o],du t1 k⟩) (g3.cast (jj _ _ _)) (g3.pos aL) ae;refine bO e_ ⟨x,t1,⟨14,(aB x.L x.fin t).text,0,[k,o],du t1 k⟩,kB lb [k,o]⟩ ⟨by have:=g3.cap hl;dsimp only[al.ay,al.add]at*;omega,jo lb [k,o]⟩ fun _ _=>?_;exact⟨⟨_,_,f⟩,⟨L,C,D,hk.trans e0.symm⟩,aV,az [0,1],io _⟩
 ·rw[bF (show ¬d<2 by omega),aM]at hk;refine⟨rfl,aq,?_⟩;refine bO vP ⟨x,t1,k⟩ (g3.jy aL) fun _ _=>?_;intro lb;have L:=PG.node (n:=⟨13,(aB x.L x.fin t).text,0,[k,o],du t1 k⟩) (g3.cast (jj _ _ _)) (g3.pos aL) ae;refine bO e_ ⟨x,t1,⟨13,(aB x.L x.fin t).text,0,[k,o],du t1 k⟩,kB lb [k,o]⟩ ⟨by have:=g3.cap hl;dsimp only[al.ay,al.add]at*;omega,jo lb [k,o]⟩ fun _ _=>?_;exact⟨⟨_,_,f⟩,⟨L,C,D,hk.trans e0.symm⟩,aV,az [0,1],io _⟩
theorem ahO:aC 37 (bm (fun(m:Nat)=>ap.level m)):=fo 62 Tryz.func37 ahN [] ahL aY ahM [] ahP
end
section
open Go
structure lm where
 K:bQ
 x:cf
 s:al
 os:List Int
 n:Nat
 kc:Nat
 pc:Nat
 ks:List Int
 r:Row
def iy(x:lm):List Value:=[ag (some ⟨x.x.b,0,none⟩)]
def qp(x:lm):List Value:=[au x.r.a x.r.n x.r.cap]
def xZ:aQ where
 X:=lm
 Y:=(Int×al×Row) ⊕ (Int×Int)
 args x:=[ag (some ⟨x.kc,0,none⟩),ag (some ⟨x.pc,0,none⟩)]
 pre x:=[ak x.x x.s,af x.kc (qp x) 33,af x.pc (iy x) 39,x.r.A]
 cond x:=(∀bJ,aC bJ (cx x.n bJ))/\gM x.K x.x/\PG x.x x.s (x.os++x.ks)/\bz 3 1 (bB x.ks) x.r/\bs x.K x.x x.n .aZ x.s≠.out
 aO x F:=cA x.K x.x F
 bZ x y:=match y with
  | .inl a=>bs x.K x.x x.n .aZ x.s= .ok [a.1] a.2.1/\bz 3 1 (bB (x.ks++[a.1])) a.2.2
  | .inr a=>∃t,bs x.K x.x x.n .aZ x.s= .stop a.1 a.2 t
 val x y:=match y with
  | .inl _=>.returned (.tuple #[])
  | .inr a=>.panicked [⟨iz a.1 a.2,false,false⟩]
 post x y:=match y with
  | .inl a=>[ak x.x a.2.1,.cells x.kc [.slice a.2.2.a a.2.2.n a.2.2.cap] 33,.cells x.pc [.pointer (some ⟨x.x.b,0,none⟩)] 39,a.2.2.A]
  | .inr _=>[]
 eM _ _ _ hs h:=cA.sub hs h
 sum:=some (hU (Int×al×Row) (Int×Int))
def aac(x:lm)(a:ah):List (Nat×Nat×OH):=[(0,0,aR 1),(0,1,aR 2),(0,2,bu (cx x.n 14)),(0,3,.n 1030),(0,4,.o (de 3 1 8) [3] [3]),(0,5,.w [.z00 1])]
def Jj(x:lm)(F:ah):=aH [(0,ak x.x x.s),(1,af x.kc (qp x) 33),(2,af x.pc (iy x) 39),(3,x.r.A),(4,F)] [0]
def JF(x:lm)(F:ah):=[(0,bd),(1,af x.kc (qp x) 33),(2,af x.pc (iy x) 39),(3,x.r.A),(4,F)]
theorem aae(x:lm)(F:ah)(o:xZ.cond x)(i:xZ.aO x F):true=true/\aw x.kc 0/\aw x.pc 0/\cq x.n 14 (iy x) [ak x.x x.s] (Jj x F) (fun e d=>∀(c:Nat),fz (ba Tryz.f113 0 4) [au x.r.a x.r.n x.r.cap,au (bI c) 1 1] [x.r.A] (aH [(0,ak e.x d.snd),(1,af x.kc (qp x) 33),(2,af x.pc (iy x) 39),(3,x.r.A),(4,F),(1030,af c (bN d) 3)] [3]) (fun b a=>aw x.kc 0/\ar xZ x F eC [(0,ak e.x d.snd),(1,af x.kc (uO a) 33),(2,af x.pc (iy x) 39),(3,a.A),(4,F),(1030,af c (bN d) 3)])) (fun e b=>∀(a:Tm),ar xZ x F (cd b) (JF x F)):=by
 delta cq iy qp Jj kF fz bI bN eC uO cd JF dL aH ak aw ad ag au af bd ax;obtain⟨K,x,s,os,n,kc,pc,ks,u⟩:=x;obtain⟨l,h,g,f,j⟩:=o;replace i:cA K x F:=i;dsimp only at l h g f j⊢;refine⟨rfl,aq,aq,l _,rfl,⟨K,x,s,os++ks,.aZ⟩,rfl,rfl,⟨h,g,rfl,ao,ao,ao,j⟩,i.sub (bP 4),fun a q=>?_,fun a q=>fun _=>⟨.inr a,q,rfl,az [4]⟩⟩;obtain⟨k,t⟩:=a;replace q:bs K x n .aZ s= .ok [k] t:=q;intro lb;have p:=o4 g h.len;refine kQ (ks:=ks) (k:=k) 1030 f ae (fun r m=>?_);exact⟨aq,.inl (k,t,r),⟨q,m⟩,rfl,az [0,1,2,3,4]⟩
theorem aad:aC 113 xZ:=fo 7 Tryz.func113 aac [] aY aY bA [] aae
def gZ(L:List bh)(fin:Int)(tv:Nat->ByteArray)(n:Nat):PM (List Int):=do
 let k <-dW L fin tv bx
 cr L fin colon
 let e <-one (P L fin tv bx n .aZ)
 ret [k,e]
def t7:aQ where
 X:=lm
 Y:=(Int×Int×al×Row) ⊕ (Int×Int)
 args x:=[ag (some ⟨x.kc,0,none⟩),ag (some ⟨x.pc,0,none⟩)]
 pre x:=[ak x.x x.s,af x.kc (qp x) 33,af x.pc (iy x) 39,x.r.A]
 cond x:=(∀bJ,aC bJ (cx x.n bJ))/\gM x.K x.x/\PG x.x x.s (x.os++x.ks)/\bz 3 1 (bB x.ks) x.r/\gZ x.x.L x.x.fin x.K.tv x.n x.s≠.out
 aO x F:=cA x.K x.x F
 bZ x y:=match y with
  | .inl a=>gZ x.x.L x.x.fin x.K.tv x.n x.s= .ok [a.1,a.2.1] a.2.2.1/\bz 3 1 (bB (x.ks++[a.1]++[a.2.1])) a.2.2.2/\PG x.x a.2.2.1 (x.os++x.ks++[a.1]++[a.2.1])
  | .inr a=>∃t,gZ x.x.L x.x.fin x.K.tv x.n x.s= .stop a.1 a.2 t
 val x y:=match y with
  | .inl _=>.returned (.tuple #[])
  | .inr a=>.panicked [⟨iz a.1 a.2,false,false⟩]
 post x y:=match y with
  | .inl a=>[ak x.x a.2.2.1,.cells x.kc [.slice a.2.2.2.a a.2.2.2.n a.2.2.2.cap] 33,.cells x.pc [.pointer (some ⟨x.x.b,0,none⟩)] 39,a.2.2.2.A]
  | .inr _=>[]
 eM _ _ _ hs h:=cA.sub hs h
 sum:=some (hU (Int×Int×al×Row) (Int×Int))
def aaf(x:lm)(a:ah):List (Nat×Nat×OH):=[(0,0,aR 1),(0,1,aR 2),(0,2,bu yC),(0,3,.n 1030),(0,4,.o (de 3 1 8) [3] [3]),(0,5,.w [.z00 1]),(1,0,aR 2),(1,1,bu ia),(2,0,aR 1),(2,1,aR 2),(2,2,bu (cx x.n 14)),(2,3,.n 3030),(2,4,.o (de 3 1 8) [3] [3]),(2,5,.w [.z00 1])]
def BQ(l:l5):List Value:=[ad ↑l.s.nodes.length]
def Rs(e:nj)(d:Int×al)(x:lm)(h:Row)(F:ah)(j:Nat)(l:l5)(c:Nat):=[(0,ak e.x d.snd),(1,af x.kc (uO h) 33),(2,af x.pc (iy x) 39),(3,h.A),(4,F),(1030,af j (BQ l) 3),(3030,af c (bN d) 3)]
def Re(x:lm)(h:Row)(F:ah)(j:Nat)(l:l5):=[(0,bd),(1,af x.kc (uO h) 33),(2,af x.pc (iy x) 39),(3,h.A),(4,F),(1030,af j (BQ l) 3)]
theorem aal(x:lm)(F:ah)(N:t7.cond x)(C:t7.aO x F):true=true/\aw x.kc 0/\aw x.pc 0/\aC 115 yC/\true=true/\∃(l:l5),(iy x)=[ag (tl l)]/\[ak x.x x.s]=[ak l.x l.s]/\(PaK l.K l.x/\l.s.nodes.length<=4194304)/\cA l.K l.x (Jj x F)/\(∀(k:al),dW l.x.L l.x.fin l.K.tv bx l.s=PR.ok (l.s.nodes.length:Int) k->∀(j:Nat),fz (ba Tryz.f114 0 4) [au x.r.a x.r.n x.r.cap,au (bI j) 1 1] [x.r.A] (aH [(0,ak l.x k),(1,af x.kc (qp x) 33),(2,af x.pc (iy x) 39),(3,x.r.A),(4,F),(1030,af j (BQ l) 3)] [3]) (fun i h=>aw x.kc 0/\aw x.pc 0/\fZ [ag (some ⟨x.x.b,0,none⟩),ai ⟨#[58]⟩] [ak l.x k] (aH [(0,ak l.x k),(1,af x.kc (uO h) 33),(2,af x.pc (iy x) 39),(3,h.A),(4,F),(1030,af j (BQ l) 3)] [0]) (fun g f=>true=true/\aw x.kc 0/\aw x.pc 0/\cq x.n 14 (iy x) [ak g.x g.s.ay] (aH [(0,ak g.x g.s.ay),(1,af x.kc (uO h) 33),(2,af x.pc (iy x) 39),(3,h.A),(4,F),(1030,af j (BQ l) 3)] [0]) (fun e d=>∀(c:Nat),fz (ba Tryz.f114 2 4) (tg h c) [h.A] (aH (Rs e d x h F j l c) [3]) (fun b a=>aw x.kc 0/\ar t7 x F eC (Rs e d x a F j l c))) (fun e b=>∀(a:Tm),ar t7 x F (cd b) (Re x h F j l))) (fun g a=>ar t7 x F (gg g) (Re x h F j l))))/\∀(b:Int),dW l.x.L l.x.fin l.K.tv bx l.s=PR.stop b (60:Int) l.s->∀(a:Tm),ar t7 x F (dL b 60) (JF x F):=by
 delta iy tl qp Jj kF fz bI BQ ja fZ uO cq tg bN Rs eC cd Re gg JF dL aH ak aw ad ai ag au af bd ax;obtain⟨K,x,s,os,n,kc,pc,ks,R⟩:=x;obtain⟨P,v,o,m,B⟩:=N;replace C:cA K x F:=C;dsimp only at P v o m B⊢;have hl:=v.len;obtain⟨r,e0⟩:∃r,gZ x.L x.fin K.tv n s=r:=⟨_,rfl⟩;rw[e0]at B;have hk:=e0;rw[gZ]at hk;refine⟨rfl,aq,aq,aeZ,rfl,⟨K,x,s⟩,rfl,rfl,⟨v.toPaK,by have:=o.cap hl;dsimp only;omega⟩,C.sub (bP 4),fun u q=>?_,fun p q=>fun _=>⟨.inr (p,60),⟨_,e0.trans (hk.symm.trans (Fo q))⟩,rfl,az [4]⟩⟩;replace q:dW x.L x.fin K.tv bx s= .ok (s.nodes.length:Int) u:=q;obtain⟨g1,i1,-⟩:=PG.key v o q;rw[qH q]at hk;clear q;intro lb;have O:=o4 o hl;refine kQ (ks:=ks) (k:=(s.nodes.length:Int)) 1030 m ae (fun Q z=>?_);refine⟨aq,aq,?_⟩;refine ma g1 hk (fun hk M=>?_);refine⟨rfl,aq,aq,?_⟩;refine ca M (ft hk B) (fun e t hk g3 D H y G w I=>?_) (cB:=ao) (ct:=ao) (cN:=ao);dsimp only[ap.sl,al.ay,al.add]at D H y G w I;rw[zM]at hk;intro E;have J:=o4 (os:=os) (ks:=ks++[(s.nodes.length:Int)]) (g1.cast (jj _ _ _)) hl;refine br (jE 1 8 rfl rfl rfl rfl rfl rfl rfl (by decide)) ⟨Q,bB (ks++[(s.nodes.length:Int)]),some ⟨E,0,none⟩,1,1,bB [e]⟩ ⟨z,rfl,uo _,u5 z ae,u6 z ae,fun h=>nomatch h⟩ (vb 3030 rfl) fun L A=>?_;replace A:bz 3 1 (bB (ks++[(s.nodes.length:Int)]++[e])) L:=by rw[um];exact A.1
 exact⟨aq,.inl ((s.nodes.length:Int),e,t,L),⟨e0.trans hk.symm,A,g3⟩,rfl,az [0,1,2,3,4]⟩
theorem aak:aC 114 t7:=fo 14 Tryz.func114 aaf [] aY aY bA [] aal
section
variable{L:List bh}{fin:Int}{tv:Nat->ByteArray}{f:Nat}{s u:al}{R:Int->Int->PM (List Int)}
theorem MM:(∃k e u,gZ L fin tv f s= .ok [k,e] u/\∀R:Int->Int->PM (List Int),(dW L fin tv bx>>=fun k=>cr L fin colon>>=fun _=>one (P L fin tv bx f .aZ)>>=fun e=>R k e) s=R k e u)\/(∃p e u,gZ L fin tv f s= .stop p e u/\∀R:Int->Int->PM (List Int),(dW L fin tv bx>>=fun k=>cr L fin colon>>=fun _=>one (P L fin tv bx f .aZ)>>=fun e=>R k e) s= .stop p e u)\/(gZ L fin tv f s= .out/\∀R:Int->Int->PM (List Int),(dW L fin tv bx>>=fun k=>cr L fin colon>>=fun _=>one (P L fin tv bx f .aZ)>>=fun e=>R k e) s= .out):=by
 cases a:dW L fin tv bx s with
 |stop p e u=>exact .inr (.inl ⟨p,e,u,by rw[gZ,Fo a],fun R=>by rw[Fo a]⟩)
 |out=>exact .inr (.inr ⟨by rw[gZ];show b0 _ _ s=_;unfold b0;rw[a],fun R=>by show b0 _ _ s=_;unfold b0;rw[a]⟩)
 |ok k u=>
  cases b:bc L u 0 colon with
  |false=>exact .inr (.inl ⟨_,_,_,by rw[gZ,qH a,Fp b],fun R=>by rw[qH a,Fp b]⟩)
  |true=>
   cases c:one (P L fin tv bx f .aZ) u.ay with
   |ok e v=>exact .inl ⟨k,e,v,by rw[gZ,qH a,tF b,Cv c,zM],fun R=>by rw[qH a,tF b,Cv c]⟩
   |stop p e v=>exact .inr (.inl ⟨p,e,v,by rw[gZ,qH a,tF b,Cw c],fun R=>by rw[qH a,tF b,Cw c]⟩)
   |out=>exact .inr (.inr ⟨by rw[gZ,qH a,tF b];show b0 _ _ u.ay=_;unfold b0;rw[c],fun R=>by rw[qH a,tF b];show b0 _ _ u.ay=_;unfold b0;rw[c]⟩)
theorem aag{k e:Int}(h:gZ L fin tv f s= .ok [k,e] u):(dW L fin tv bx>>=fun k=>cr L fin colon>>=fun _=>one (P L fin tv bx f .aZ)>>=fun e=>R k e) s=R k e u:=by
 rcases MM (L:=L) (fin:=fin) (tv:=tv) (f:=f) (s:=s)with⟨k',c,d,a,b⟩| ⟨p,c,d,a,b⟩| ⟨a,b⟩
 ·rw[h]at a;cases a;exact b R
 ·rw[h]at a;cases a
 ·rw[h]at a;cases a
theorem aai{p e:Int}(h:gZ L fin tv f s= .stop p e u):(dW L fin tv bx>>=fun k=>cr L fin colon>>=fun _=>one (P L fin tv bx f .aZ)>>=fun e=>R k e) s= .stop p e u:=by
 rcases MM (L:=L) (fin:=fin) (tv:=tv) (f:=f) (s:=s)with⟨k',c,d,a,b⟩| ⟨p',c,d,a,b⟩| ⟨a,b⟩
 ·rw[h]at a;cases a
 ·rw[h]at a;cases a;exact b R
 ·rw[h]at a;cases a
theorem aah(h:(dW L fin tv bx>>=fun k=>cr L fin colon>>=fun _=>one (P L fin tv bx f .aZ)>>=fun e=>R k e) s≠.out):gZ L fin tv f s≠.out:=by
 rcases MM (L:=L) (fin:=fin) (tv:=tv) (f:=f) (s:=s)with⟨k',c,d,a,b⟩| ⟨p',c,d,a,b⟩| ⟨a,b⟩
 ·rw[a];intro e;cases e
 ·rw[a];intro e;cases e
 ·exact absurd (b R) h
theorem aaj{n:Nat}(c:f<=n)(h:gZ L fin tv f s≠.out):gZ L fin tv n s=gZ L fin tv f s:=by
 unfold gZ at h⊢;cases a:dW L fin tv bx s with
 |stop p e u=>rw[Fo a,Fo a]
 |out=>exact absurd (by show b0 _ _ s=_;unfold b0;rw[a]) h
 |ok k u=>
  rw[qH a]at h;rw[qH a,qH a];cases b:bc L u 0 colon with
  |false=>rw[Fp b,Fp b]
  |true=>
   rw[tF b]at h;rw[tF b,tF b];have e1:P L fin tv bx n .aZ u.ay=P L fin tv bx f .aZ u.ay:=by
    rcases FP (L:=L) (fin:=fin) (aI:=tv) (wide:=bx) c .aZ u.ay with e|e
    ·exact absurd e (R6 h)
    ·exact e
   show b0 (one _) _ _=b0 (one _) _ _;unfold b0 one b0;rw[e1]
end
structure jX where
 a:lm
 f:Nat
structure o1 where
 t:al
 ks:List Int
 r:Row
 f:Nat
def lM(x:jX):Option Addr:=some ⟨x.a.x.b,0,none⟩
def zv(x:jX):List Value:=[au x.a.r.a x.a.r.n x.a.r.cap]
def oI(x:jX):List Value:=[ag (lM x)]
def mR(bJ:FuncId)(b:ByteArray)(c:List Int->ap):aQ where
 X:=jX
 Y:=(List Int×al×Row) ⊕ (Int×Int)
 args x:=[.pointer (some ⟨x.a.x.b,0,none⟩),.string b,.func (.func bJ) #[] #[.pointer (some ⟨x.a.kc,0,none⟩),.pointer (some ⟨x.a.pc,0,none⟩)]]
 pre x:=[ak x.a.x x.a.s,af x.a.kc (zv x) 33,af x.a.pc (oI x) 39,x.a.r.A]
 cond x:=(∀bJ,aC bJ (cx x.a.n bJ))/\gM x.a.K x.a.x/\PG x.a.x x.a.s (x.a.os++x.a.ks)/\bz 3 1 (bB x.a.ks) x.a.r/\x.f<=x.a.n/\bs x.a.K x.a.x x.f (c x.a.ks) x.a.s≠.out
 aO x F:=cA x.a.K x.a.x F
 bZ x y:=match y with
  | .inl a=>bs x.a.K x.a.x x.f (c x.a.ks) x.a.s= .ok a.1 a.2.1/\bz 3 1 (bB a.1) a.2.2/\PG x.a.x a.2.1 (x.a.os++a.1)
  | .inr a=>∃t,bs x.a.K x.a.x x.f (c x.a.ks) x.a.s= .stop a.1 a.2 t
 val x y:=match y with
  | .inl _=>.returned (.tuple #[])
  | .inr a=>.panicked [⟨iz a.1 a.2,false,false⟩]
 post x y:=match y with
  | .inl a=>[ak x.a.x a.2.1,.cells x.a.kc [.slice a.2.2.a a.2.2.n a.2.2.cap] 33,.cells x.a.pc [.pointer (some ⟨x.a.x.b,0,none⟩)] 39,a.2.2.A]
  | .inr _=>[]
 eM _ _ _ hs h:=cA.sub hs h
 sum:=some (hU (List Int×al×Row) (Int×Int))
def wD(d:o1):List Value:=[au d.r.a d.r.n d.r.cap]
def Vc(bJ:FuncId)(a:ByteArray)(b:List Int->ap)(x:jX)(F:ah):Nat->Option Inv:=fun
 |0=>some {X:=o1,P:=fun d=>PG x.a.x d.t (x.a.os++d.ks)/\bz 3 1 (bB d.ks) d.r/\d.f<=x.a.n/\P x.a.x.L x.a.x.fin x.a.K.tv bx d.f (b d.ks) d.t=bs x.a.K x.a.x x.f (b x.a.ks) x.a.s,mu:=fun d=>d.f,lv:=fun _=>[(0,.pointer (some ⟨x.a.x.b,0,none⟩)),(1,.string a),(2,.func (.func bJ) #[] #[.pointer (some ⟨x.a.kc,0,none⟩),.pointer (some ⟨x.a.pc,0,none⟩)])],st:=fun d=>[ak x.a.x d.t,af x.a.kc (wD d) 33,af x.a.pc (oI x) 39,d.r.A,F]}
 |_=>none
def OP(x:jX)(b:o1):=PG x.a.x b.t (x.a.os++b.ks)/\bz 3 1 (bB b.ks) b.r/\b.f<=x.a.n/\P x.a.x.L x.a.x.fin x.a.K.tv bx b.f ((fun(a:List Int)=>ap.cR a) b.ks) b.t=bs x.a.K x.a.x x.f ((fun(a:List Int)=>ap.cR a) x.a.ks) x.a.s
def rW(e0:jX):List Value:=[ag (some ⟨e0.a.kc,0,none⟩),ag (some ⟨e0.a.pc,0,none⟩)]
def Pa(e0:jX):=ag (lM e0)=ag (lM e0)/\ai rb=ai rb/\func (Fn.func 113) ⟨[]⟩ ⟨rW e0⟩=func (Fn.func 113) ⟨[]⟩ ⟨rW e0⟩/\True
def I7(x:jX)(F:ah):=[(0,ak x.a.x x.a.s),(1,af x.a.kc (zv x) 33),(2,af x.a.pc (oI x) 39),(3,x.a.r.A),(4,F)]
def wW(e0:jX)(z:o1)(e1:ah):=[(0,ak e0.a.x z.t),(1,af e0.a.kc (wD z) 33),(2,af e0.a.pc (oI e0) 39),(3,z.r.A),(4,e1)]
def JX(j:iB)(x:jX)(l:o1)(F:ah):=[(0,ak j.x j.s.ay),(1,af x.a.kc (wD l) 33),(2,af x.a.pc (oI x) 39),(3,l.r.A),(4,F)]
def JO(h:lm):List Value:=[ag (some ⟨h.kc,0,none⟩),ag (some ⟨h.pc,0,none⟩)]
def Jq(j:iB)(x:jX)(l:o1)(F:ah):=aH [(0,ak j.x j.s),(1,af x.a.kc (wD l) 33),(2,af x.a.pc (oI x) 39),(3,l.r.A),(4,F)] [0,1,2,3]
def JI(g:Int×al×Row):List Value:=[au g.snd.snd.a g.snd.snd.n g.snd.snd.cap]
def Ic(h:lm)(g:Int×al×Row)(F:ah):=[(0,ak h.x g.snd.fst),(1,af h.kc (JI g) 33),(2,af h.pc (iy h) 39),(3,g.snd.snd.A),(4,F)]
def L7(e0:jX)(e1:ah)(a:St)(mm:Nat):=∃(z:o1),(PG e0.a.x z.t (e0.a.os++z.ks)/\bz 3 1 (bB z.ks) z.r/\z.f<=e0.a.n/\P e0.a.x.L e0.a.x.fin e0.a.K.tv bx z.f ((fun(w0:List Int)=>ap.cR w0) z.ks) z.t=bs e0.a.K e0.a.x e0.f ((fun(w0:List Int)=>ap.cR w0) e0.a.ks) e0.a.s)/\Pa e0/\aE a (wW e0 z e1)/\z.f<mm
theorem ae6(x:jX)(F:ah)(L:aQ.cond (mR 113 rb (fun ks=>ap.cR ks)) x)(v:aQ.aO (mR 113 rb (fun ks=>ap.cR ks)) x F):(∃(b:o1),OP x b/\Pa x/\aE (I7 x F) (wW x b F))/\aT fun(l:o1)_=>OP x l->fJ [ag (lM x),ai rb] [ak x.a.x l.t] (aH (wW x l F) [0]) (fun j b=>ar (mR (113:FuncId) rb fun(a:List Int)=>ap.cR a) x F eC (JX j x l F)) (fun j i=>aC 113 xZ/\true=true/\∃(h:lm),(rW x)=(JO h)/\[ak j.x j.s,af x.a.kc (wD l) 33,af x.a.pc (oI x) 39,l.r.A]=[ak h.x h.s,af h.kc (qp h) 33,af h.pc (iy h) 39,h.r.A]/\((∀(a:FuncId),aC a (cx h.n a))/\gM h.K h.x/\PG h.x h.s (h.os++h.ks)/\bz 3 1 (bB h.ks) h.r/\bs h.K h.x h.n ap.aZ h.s≠PR.out)/\cA h.K h.x (Jq j x l F)/\(∀(g:Int×al×Row),(bs h.K h.x h.n ap.aZ h.s=PR.ok [g.fst] g.snd.fst/\bz 3 1 (bB (h.ks++[g.fst])) g.snd.snd)->gr [ag (lM x),ad 0,ai rb] (aH (Ic h g F) []) (fun f e=>Br (!h8 f.p.L (f.p.i+f.a) f.t) (fZ [ag (lM x),ai ⟨#[44]⟩] [ak h.x g.snd.fst] (aH (Ic h g F) [0]) (fun d c=>L7 x F [(0,ak d.x d.s.ay),(1,af h.kc (JI g) 33),(2,af h.pc (iy h) 39),(3,g.snd.snd.A),(4,F)] l.f) (fun d b=>ar (mR (113:FuncId) rb fun(a:List Int)=>ap.cR a) x F (gg d) [(0,bd),(1,af h.kc (JI g) 33),(2,af h.pc (iy h) 39),(3,g.snd.snd.A),(4,F)])) (L7 x F (Ic h g F) l.f)))/\∀(b:Int×Int),(∃(a:al),bs h.K h.x h.n ap.aZ h.s=PR.stop b.fst b.snd a)->ar (mR (113:FuncId) rb fun(a:List Int)=>ap.cR a) x F (cd b) [(0,bd),(1,bd),(2,bd),(3,bd),(4,F)]):=by
 delta OP lM rW Pa zv oI I7 wD wW ja fJ eC JX JO qp iy Jq pE pF gr JI Ic fZ L7 gg cd dL aH ak ad ai ag au af bd ax aT;obtain⟨⟨K,x,s,os,n,kc,pc,ks,M⟩,f⟩:=x;obtain⟨I,z,G,p,H,A⟩:=L;replace v:cA K x F:=v;dsimp only at I z G p H A⊢;have hl:=z.len;obtain⟨r,e0⟩:∃r,bs K x f (.cR ks) s=r:=⟨_,rfl⟩;rw[e0]at A;refine⟨⟨⟨s,ks,M,f⟩,⟨G,p,H,rfl⟩,aV,az [0,1,2,3,4]⟩,?_⟩;rintro⟨t,o,w,f2⟩ N ⟨g,k,m,hk⟩;dsimp only at g k m hk⊢;rw[e0]at hk;obtain _|f2:=f2
 ·exact absurd hk (fun e=>A (e.symm.trans (by rw[P];rfl)))
 replace m:f2<=n:=Nat.le_of_succ_le m;rw[P]at hk;refine br jI ⟨x,t,rb⟩ ⟨hl,g.i⟩ (v.ls.sub (bP 4)) ⟨fun _ q=>?_,fun _ q=>?_⟩
 ·rw[kJ q,aU,zM]at hk;exact⟨.inl (o,t.ay,w),⟨e0.trans hk.symm,k,g.is q⟩,rfl,az [0,1,2,3,4]⟩
 rw[lj q,aM]at hk;have J:bs K x f2 .aZ t≠.out:=R6 (by rw[hk];exact A);have B:bs K x n .aZ t=bs K x f2 .aZ t:=V4 m J;refine br aad ⟨K,x,t,os,n,kc,pc,o,w⟩ ⟨I,z,g,k,fun e=>J (B.symm.trans e)⟩ (v.sub (bP 4)) ⟨fun a D=>?_,fun a⟨u,D⟩=>⟨.inr a,⟨u,e0.trans (hk.symm.trans (WW (B.symm.trans D)))⟩,rfl,az [4]⟩⟩;obtain⟨e,t1,E⟩:=a;obtain⟨q1,y⟩:=D;replace q1:bs K x f2 .aZ t= .ok [e] t1:=B.symm.trans q1;replace y:bz 3 1 (bB (o++[e])) E:=y;obtain⟨C,-⟩:=PG.run (tag:=.aZ) z g trivial trivial rfl rfl q1;rw[WV q1,Fm]at hk;refine br jK ⟨x.p t1,0,rb⟩ ⟨hl,by have:=C.i;show t1.i<=1048576;omega,bg⟩ (v.ls.da 0 4 aL aL rfl rfl) fun _ _=>aG (fun h=>?_) (fun h=>?_)
 ·rw[show(!bc x.L t1 0 rb)=true from h,aU]at hk;refine ma C hk (fun hk g3=>?_);exact⟨⟨t1.ay,o++[e],E,f2⟩,⟨g3.cast (jj _ _ _),y,m,hk.trans e0.symm⟩,aV,az [0,1,2,3,4],io _⟩
 ·rw[show(!bc x.L t1 0 rb)=false from h,aM,ie]at hk;exact⟨⟨t1,o++[e],E,f2⟩,⟨C.cast (jj _ _ _),y,m,hk.trans e0.symm⟩,aV,az [0,1,2,3,4],io _⟩
theorem ae5:aC 112 (mR 113 rb (fun ks=>ap.cR ks)):=fo 18 Tryz.func112 (fun _ _=>[(0,2,bu hZ),(1,1,.c xZ [0,1,2,3] [0,1,2,3]),(2,2,aW gz),(3,1,bu ia)]) [] (Vc 113 rb (fun ks=>ap.cR ks)) aY bA [] ae6
def OQ(x:jX)(b:o1):=PG x.a.x b.t (x.a.os++b.ks)/\bz 3 1 (bB b.ks) b.r/\b.f<=x.a.n/\P x.a.x.L x.a.x.fin x.a.K.tv bx b.f ((fun(a:List Int)=>ap.cU a) b.ks) b.t=bs x.a.K x.a.x x.f ((fun(a:List Int)=>ap.cU a) x.a.ks) x.a.s
def Pb(e0:jX):=ag (lM e0)=ag (lM e0)/\ai rc=ai rc/\func (Fn.func 114) ⟨[]⟩ ⟨rW e0⟩=func (Fn.func 114) ⟨[]⟩ ⟨rW e0⟩/\True
def Jp(g:Int×Int×al×Row):List Value:=[au g.snd.snd.snd.a g.snd.snd.snd.n g.snd.snd.snd.cap]
def H5(h:lm)(g:Int×Int×al×Row)(F:ah):=[(0,ak h.x g.snd.snd.fst),(1,af h.kc (Jp g) 33),(2,af h.pc (iy h) 39),(3,g.snd.snd.snd.A),(4,F)]
def L8(e0:jX)(e1:ah)(a:St)(mm:Nat):=∃(z:o1),(PG e0.a.x z.t (e0.a.os++z.ks)/\bz 3 1 (bB z.ks) z.r/\z.f<=e0.a.n/\P e0.a.x.L e0.a.x.fin e0.a.K.tv bx z.f ((fun(w0:List Int)=>ap.cU w0) z.ks) z.t=bs e0.a.K e0.a.x e0.f ((fun(w0:List Int)=>ap.cU w0) e0.a.ks) e0.a.s)/\Pb e0/\aE a (wW e0 z e1)/\z.f<mm
theorem ae_(x:jX)(F:ah)(N:aQ.cond (mR 114 rc (fun ks=>ap.cU ks)) x)(y:aQ.aO (mR 114 rc (fun ks=>ap.cU ks)) x F):(∃(b:o1),OQ x b/\Pb x/\aE (I7 x F) (wW x b F))/\aT fun(l:o1)_=>OQ x l->fJ [ag (lM x),ai rc] [ak x.a.x l.t] (aH (wW x l F) [0]) (fun j b=>ar (mR (114:FuncId) rc fun(a:List Int)=>ap.cU a) x F eC (JX j x l F)) (fun j i=>aC 114 t7/\true=true/\∃(h:lm),(rW x)=(JO h)/\[ak j.x j.s,af x.a.kc (wD l) 33,af x.a.pc (oI x) 39,l.r.A]=[ak h.x h.s,af h.kc (qp h) 33,af h.pc (iy h) 39,h.r.A]/\((∀(a:FuncId),aC a (cx h.n a))/\gM h.K h.x/\PG h.x h.s (h.os++h.ks)/\bz 3 1 (bB h.ks) h.r/\gZ h.x.L h.x.fin h.K.tv h.n h.s≠PR.out)/\cA h.K h.x (Jq j x l F)/\(∀(g:Int×Int×al×Row),(gZ h.x.L h.x.fin h.K.tv h.n h.s=PR.ok [g.fst,g.snd.fst] g.snd.snd.fst/\bz 3 1 (bB (h.ks++[g.fst]++[g.snd.fst])) g.snd.snd.snd/\PG h.x g.snd.snd.fst (h.os++h.ks++[g.fst]++[g.snd.fst]))->gr [ag (lM x),ad 0,ai rc] (aH (H5 h g F) []) (fun f e=>Br (!h8 f.p.L (f.p.i+f.a) f.t) (fZ [ag (lM x),ai ⟨#[44]⟩] [ak h.x g.snd.snd.fst] (aH (H5 h g F) [0]) (fun d c=>L8 x F [(0,ak d.x d.s.ay),(1,af h.kc (Jp g) 33),(2,af h.pc (iy h) 39),(3,g.snd.snd.snd.A),(4,F)] l.f) (fun d b=>ar (mR (114:FuncId) rc fun(a:List Int)=>ap.cU a) x F (gg d) [(0,bd),(1,af h.kc (Jp g) 33),(2,af h.pc (iy h) 39),(3,g.snd.snd.snd.A),(4,F)])) (L8 x F (H5 h g F) l.f)))/\∀(b:Int×Int),(∃(a:al),gZ h.x.L h.x.fin h.K.tv h.n h.s=PR.stop b.fst b.snd a)->ar (mR (114:FuncId) rc fun(a:List Int)=>ap.cU a) x F (cd b) [(0,bd),(1,bd),(2,bd),(3,bd),(4,F)]):=by
 delta OQ lM rW Pb zv oI I7 wD wW ja fJ eC JX JO qp iy Jq pE pF gr Jp H5 fZ L8 gg cd dL aH ak ad ai ag au af bd ax aT;obtain⟨⟨K,x,s,os,n,kc,pc,ks,O⟩,f⟩:=x;obtain⟨L,E,I,v,J,C⟩:=N;replace y:cA K x F:=y;dsimp only at L E I v J C⊢;have hl:=E.len;obtain⟨r,e0⟩:∃r,bs K x f (.cU ks) s=r:=⟨_,rfl⟩;rw[e0]at C;refine⟨⟨⟨s,ks,O,f⟩,⟨I,v,J,rfl⟩,aV,az [0,1,2,3,4]⟩,?_⟩;rintro⟨t,o,z,f2⟩ Q ⟨g,m,p,hk⟩;dsimp only at g m p hk⊢;rw[e0]at hk;obtain _|f2:=f2
 ·exact absurd hk (fun e=>C (e.symm.trans (by rw[P];rfl)))
 replace p:f2<=n:=Nat.le_of_succ_le p;rw[P]at hk;refine br jI ⟨x,t,rc⟩ ⟨hl,g.i⟩ (y.ls.sub (bP 4)) ⟨fun _ q=>?_,fun _ q=>?_⟩
 ·rw[kJ q,aU,zM]at hk;exact⟨.inl (o,t.ay,z),⟨e0.trans hk.symm,m,g.is q⟩,rfl,az [0,1,2,3,4]⟩
 rw[lj q,aM]at hk;have M:gZ x.L x.fin K.tv f2 t≠.out:=aah (by rw[hk];exact C);have D:gZ x.L x.fin K.tv n t=gZ x.L x.fin K.tv f2 t:=aaj p M;refine br aak ⟨K,x,t,os,n,kc,pc,o,z⟩ ⟨L,E,g,m,fun e=>M (D.symm.trans e)⟩ (y.sub (bP 4)) ⟨fun a G=>?_,fun a⟨u,G⟩=>⟨.inr a,⟨u,e0.trans (hk.symm.trans (aai (D.symm.trans G)))⟩,rfl,az [4]⟩⟩;obtain⟨k,e,t1,H⟩:=a;obtain⟨q1,B,A⟩:=G;replace q1:gZ x.L x.fin K.tv f2 t= .ok [k,e] t1:=D.symm.trans q1;replace B:bz 3 1 (bB (o++[k]++[e])) H:=B;replace A:PG x t1 (os++o++[k]++[e]):=A;have w:PG x t1 (os++(o++[k]++[e])):=A.cast aL;rw[aag q1,Fm]at hk;refine br jK ⟨x.p t1,0,rc⟩ ⟨hl,by have:=A.i;show t1.i<=1048576;omega,bg⟩ (y.ls.da 0 4 aL aL rfl rfl) fun _ _=>aG (fun h=>?_) (fun h=>?_)
 ·rw[show(!bc x.L t1 0 rc)=true from h,aU]at hk;refine ma w hk (fun hk g3=>?_);exact⟨⟨t1.ay,o++[k]++[e],H,f2⟩,⟨g3,B,p,hk.trans e0.symm⟩,aV,az [0,1,2,3,4],io _⟩
 ·rw[show(!bc x.L t1 0 rc)=false from h,aM,ie]at hk;exact⟨⟨t1,o++[k]++[e],H,f2⟩,⟨w,B,p,hk.trans e0.symm⟩,aV,az [0,1,2,3,4],io _⟩
theorem ae9:aC 112 (mR 114 rc (fun ks=>ap.cU ks)):=fo 18 Tryz.func112 (fun _ _=>[(0,2,bu hZ),(1,1,.c t7 [0,1,2,3] [0,1,2,3]),(2,2,aW gz),(3,1,bu ia)]) [] (Vc 114 rc (fun ks=>ap.cU ks)) aY bA [] ae_
end
section
open Go
def ah3(x:bk Unit)(a:ah):List (Nat×Nat×OH):=[(0,0,.n 1000),(1,0,aR 1000),(1,1,aW iq),(1,2,.n 2020),(1,3,.w (eJ 2020)),(2,1,aR 2020),
 (4,0,aR 1000),(4,3,c9),(4,7,dV fE),(5,0,aR 1000),(5,2,aR 2020),(5,4,aR 2020),(5,6,.c fD [0,999] [0]),
 (7,0,aR 1000),(7,3,c9),(7,7,dV fE),(8,0,aR 1000),(8,2,aR 2020),(8,4,aR 2020),(8,6,.c fD [0,999] [0]),
 (10,0,aR 1000),(10,3,c9),(10,7,dV fE),(11,0,aR 1000),(11,2,aR 2020),(11,4,aR 2020),(11,6,.c fD [0,999] [0]),
 (12,0,.n 13000),(13,0,aR 1000),(13,1,aW gz),(13,3,aR 1000),(13,4,aW gz),(13,7,aR 1000),(13,8,aW gz),
 (14,0,aR 1000),(14,3,c9),(14,7,dV fE),(15,0,aR 1000),(15,2,aR 2020),(15,4,aR 2020),(15,6,.c fD [0,999] [0]),
 (16,0,aR 1000),(16,1,aW gz),(17,0,aR 1000),(17,1,bu (cx x.n 43)),(18,0,aR 1000),(18,1,bu hZ),(19,0,aR 1000),(19,1,bu (cx x.n 14)),(20,0,aR 1000),(20,1,bu ia),
 (22,0,aR 1000),(22,1,bu hZ),(23,0,aR 1000),(23,2,.c (mR 113 rb (fun ks=>ap.cR ks)) [0,13000,1000,999] [0,13000,1000,998]),(24,0,aR 1000),(24,1,aR 13000),(24,3,aR 2020),(24,5,.c fD [0,998] [0]),
 (25,0,aR 1000),(25,1,bu hZ),(26,0,aR 1000),(26,2,.c (mR 114 rc (fun ks=>ap.cU ks)) [0,13000,1000,999] [0,13000,1000,998]),(27,0,aR 1000),(27,1,aR 13000),(27,3,aR 2020),(27,5,.c fD [0,998] [0]),(28,0,aR 1000),(28,1,aW kS)]
def H3(x:bk Unit)(F:ah)(y u:Nat)(w:cW):n6->Unit->Prop:=fun c b=>ar (bm fun(a:Unit)=>ap.dk) x F (fq c) [(0,ak c.x (c.s.add c.n)),(1,F),(999,bd),(1000,af y (eg x) 39),(2020,af u (q0 w) 53)]
def eK:List Value:=[au none 0 0]
def zD(x:bk Unit)(F:ah)(y u:Nat)(w:cW)(t:Nat):=[(0,ak x.x x.s),(1,F),(1000,af y (eg x) 39),(2020,af u (q0 w) 53),(13000,af t eK 33)]
def Ix(y:Nat)(x:bk Unit)(u:Nat)(w:cW)(F:ah)(t:Nat):=aw y 0/\T1 (ak x.x x.s) ⟨x.x.b,1,none⟩ (fun f=>dx f/\dK (ba Tryz.f106 14 7) (mY x f) [ak x.x x.s] (fun e d=>aw y 0/\aw u 1/\aw u 3/\c7 [ag (b_ x),agg ⟨[ad 4,ai (cn w.L w.fin w.i).text,float f64 0,au none 0 0,ad (cn w.L w.fin w.i).pos]⟩] [ak e.x e.t,bd] (fun c b=>ar (bm fun(a:Unit)=>ap.dk) x F (fq c) [(0,ak c.x (c.s.add c.n)),(1,F),(999,bd),(1000,af y (eg x) 39),(2020,af u (q0 w) 53),(13000,af t eK 33)])))
def IT(F:ah)(y:Nat)(x:bk Unit)(u:Nat)(w:cW)(t:Nat):=[(0,bd),(1,F),(1000,af y (eg x) 39),(2020,af u (q0 w) 53),(13000,af t eK 33)]
def Eg(k:iB)(F:ah)(y:Nat)(x:bk Unit)(u:Nat)(w:cW)(t:Nat):=[(0,ak k.x k.s.ay),(1,F),(1000,af y (eg x) 39),(2020,af u (q0 w) 53),(13000,af t eK 33)]
def Ej(k:iB)(F:ah)(y:Nat)(x:bk Unit)(u:Nat)(w:cW)(t:Nat):=[(0,ak k.x k.s),(1,F),(1000,af y (eg x) 39),(2020,af u (q0 w) 53),(13000,af t eK 33)]
def OW(x:bk Unit)(F:ah)(e:jX)(u:Nat)(w:cW)(d:List Int×al×Row):n6->Unit->Prop:=fun c b=>ar (bm fun(a:Unit)=>ap.dk) x F (fq c) [(0,ak c.x (c.s.add c.n)),(1,F),(998,bd),(999,bd),(1000,af e.a.pc (oI e) 39),(2020,af u (q0 w) 53),(13000,af e.a.kc [au d.snd.snd.a d.snd.snd.n d.snd.snd.cap] 33)]
def Rd(F:ah)(u:Nat)(w:cW):=[(0,bd),(1,F),(999,bd),(1000,bd),(2020,af u (q0 w) 53),(13000,bd)]
theorem ah5(x:bk Unit)(F:ah)(hc:aQ.cond (bm (fun(_:Unit)=>ap.dk)) x)(B:aQ.aO (bm (fun(_:Unit)=>ap.dk)) x F):∀(y:Nat),aw y 0/\e7 (eg x) (aH [(0,ak x.x x.s),(1,F),(1000,af y (eg x) 39)] []) (fun w v=>∀(u:Nat),cz u (aw u 0/\Br ((cn w.L w.fin w.i).kind==3) (aw y 0/\T1 (ak x.x x.s) ⟨x.x.b,1,none⟩ (fun f=>dx f/\dK (ba Tryz.f106 4 7) (mY x f) [ak x.x x.s] (fun e d=>aw y 0/\aw u 2/\aw u 3/\c7 [ag (b_ x),agg ⟨[ad 1,ai ⟨#[]⟩,float f64 (cn w.L w.fin w.i).num,au none 0 0,ad (cn w.L w.fin w.i).pos]⟩] [ak e.x e.t,bd] (H3 x F y u w)))) (Br ((cn w.L w.fin w.i).kind==4) (aw y 0/\T1 (ak x.x x.s) ⟨x.x.b,1,none⟩ (fun f=>dx f/\dK (ba Tryz.f106 7 7) (mY x f) [ak x.x x.s] (fun e d=>aw y 0/\aw u 1/\aw u 3/\c7 [ag (b_ x),agg ⟨Jf w⟩] [ak e.x e.t,bd] (H3 x F y u w)))) (Br (E4 w) (aw y 0/\T1 (ak x.x x.s) ⟨x.x.b,1,none⟩ (fun f=>dx f/\dK (ba Tryz.f106 10 7) (mY x f) [ak x.x x.s] (fun e d=>aw y 0/\aw u 1/\aw u 3/\c7 [ag (b_ x),agg ⟨[ad 3,ai (cn w.L w.fin w.i).text,float f64 0,au none 0 0,ad (cn w.L w.fin w.i).pos]⟩] [ak e.x e.t,bd] (H3 x F y u w)))) (∀(t:Nat),aw y 0/\gr [ag (b_ x),ad 0,ai ⟨#[116,114,117,101]⟩] (aH (zD x F y u w t) []) (fun s r=>Br (h8 s.p.L (s.p.i+s.a) s.t) (Ix y x u w F t) (aw y 0/\gr [ag (b_ x),ad 0,ai ⟨#[102,97,108,115,101]⟩] (aH (zD x F y u w t) []) (fun q p=>Br (h8 q.p.L (q.p.i+q.a) q.t) (Ix y x u w F t) (aw y 0/\gr [ag (b_ x),ad 0,ai ⟨#[110,117,108,108]⟩] (aH (zD x F y u w t) []) (fun o n=>Br (h8 o.p.L (o.p.i+o.a) o.t) (Ix y x u w F t) (aw y 0/\gr [ag (b_ x),ad 0,ai ⟨#[102,117,110,99,116,105,111,110]⟩] (aH (zD x F y u w t) []) (fun m l=>Br (h8 m.p.L (m.p.i+m.a) m.t) (aw y 0/\cq x.n 43 [ag (b_ x),ad 7] [ak x.x x.s] (aH (zD x F y u w t) [0]) (fun c b=>ar (bm fun(a:Unit)=>ap.dk) x F (jv b) [(0,ak c.x b.snd),(1,F),(1000,af y (eg x) 39),(2020,af u (q0 w) 53),(13000,af t eK 33)]) (fun c b=>ar (bm fun(a:Unit)=>ap.dk) x F (cd b) (IT F y x u w t))) (aw y 0/\fJ [ag (b_ x),ai ⟨#[40]⟩] [ak x.x x.s] (aH (zD x F y u w t) [0]) (fun k f=>aw y 0/\cq x.n 14 (eg x) [ak k.x k.s.ay] (aH (Eg k F y x u w t) [0]) (fun e d=>aw y 0/\fZ [ag (b_ x),ai ⟨#[41]⟩] [ak e.x d.snd] (aH [(0,ak e.x d.snd),(1,F),(1000,af y (eg x) 39),(2020,af u (q0 w) 53),(13000,af t eK 33)] [0]) (fun c b=>ar (bm fun(a:Unit)=>ap.dk) x F (jv d) (Eg c F y x u w t)) (fun c b=>ar (bm fun(a:Unit)=>ap.dk) x F (gg c) (IT F y x u w t))) (fun e b=>ar (bm fun(a:Unit)=>ap.dk) x F (cd b) (IT F y x u w t))) (fun k j=>aw y 0/\fJ [ag (b_ x),ai ⟨#[91]⟩] [ak k.x k.s] (aH (Ej k F y x u w t) [0]) (fun i f=>aw y 0/\aC 112 (mR (113:FuncId) rb fun(a:List Int)=>ap.cR a)/\true=true/\∃(e:jX),[ag (b_ x),ai ⟨#[93]⟩,func (Fn.func 113) ⟨[]⟩ ⟨[ag (bI t),ag (bI y)]⟩]=[ag (lM e),ai rb,func (Fn.func 113) ⟨[]⟩ ⟨rW e⟩]/\[ak i.x i.s.ay,af t eK 33,af y (eg x) 39,bd]=[ak e.a.x e.a.s,af e.a.kc (zv e) 33,af e.a.pc (oI e) 39,e.a.r.A]/\((∀(a:FuncId),aC a (cx e.a.n a))/\gM e.a.K e.a.x/\PG e.a.x e.a.s (e.a.os++e.a.ks)/\bz 3 1 (bB e.a.ks) e.a.r/\e.f<=e.a.n/\bs e.a.K e.a.x e.f ((fun(a:List Int)=>ap.cR a) e.a.ks) e.a.s≠PR.out)/\cA e.a.K e.a.x (aH (Eg i F y x u w t) [0,13000,1000,999])/\(∀(d:List Int×al×Row),(bs e.a.K e.a.x e.f ((fun(a:List Int)=>ap.cR a) e.a.ks) e.a.s=PR.ok d.fst d.snd.fst/\bz 3 1 (bB d.fst) d.snd.snd/\PG e.a.x d.snd.fst (e.a.os++d.fst))->d9 ⟨y,0,none⟩ e.a.pc/\d9 ⟨t,0,none⟩ e.a.kc/\aw u 3/\c7 [ag (lM e),agg ⟨[ad 5,ai ⟨#[]⟩,float f64 0,au d.snd.snd.a d.snd.snd.n d.snd.snd.cap,ad (cn w.L w.fin w.i).pos]⟩] [ak e.a.x d.snd.fst,d.snd.snd.A] (OW x F e u w d))/\∀(c:Int×Int),(∃(b:al),bs e.a.K e.a.x e.f ((fun(a:List Int)=>ap.cR a) e.a.ks) e.a.s=PR.stop c.fst c.snd b)->ar (bm fun(a:Unit)=>ap.dk) x F (cd c) (Rd F u w)) (fun i h=>aw y 0/\fJ [ag (b_ x),ai ⟨#[123]⟩] [ak i.x i.s] (aH (Ej i F y x u w t) [0]) (fun g f=>aw y 0/\aC 112 (mR (114:FuncId) rc fun(a:List Int)=>ap.cU a)/\true=true/\∃(e:jX),[ag (b_ x),ai ⟨#[125]⟩,func (Fn.func 114) ⟨[]⟩ ⟨[ag (bI t),ag (bI y)]⟩]=[ag (lM e),ai rc,func (Fn.func 114) ⟨[]⟩ ⟨rW e⟩]/\[ak g.x g.s.ay,af t eK 33,af y (eg x) 39,bd]=[ak e.a.x e.a.s,af e.a.kc (zv e) 33,af e.a.pc (oI e) 39,e.a.r.A]/\((∀(a:FuncId),aC a (cx e.a.n a))/\gM e.a.K e.a.x/\PG e.a.x e.a.s (e.a.os++e.a.ks)/\bz 3 1 (bB e.a.ks) e.a.r/\e.f<=e.a.n/\bs e.a.K e.a.x e.f ((fun(a:List Int)=>ap.cU a) e.a.ks) e.a.s≠PR.out)/\cA e.a.K e.a.x (aH (Eg g F y x u w t) [0,13000,1000,999])/\(∀(d:List Int×al×Row),(bs e.a.K e.a.x e.f ((fun(a:List Int)=>ap.cU a) e.a.ks) e.a.s=PR.ok d.fst d.snd.fst/\bz 3 1 (bB d.fst) d.snd.snd/\PG e.a.x d.snd.fst (e.a.os++d.fst))->d9 ⟨y,0,none⟩ e.a.pc/\d9 ⟨t,0,none⟩ e.a.kc/\aw u 3/\c7 [ag (lM e),agg ⟨[ad 6,ai ⟨#[]⟩,float f64 0,au d.snd.snd.a d.snd.snd.n d.snd.snd.cap,ad (cn w.L w.fin w.i).pos]⟩] [ak e.a.x d.snd.fst,d.snd.snd.A] (OW x F e u w d))/\∀(c:Int×Int),(∃(b:al),bs e.a.K e.a.x e.f ((fun(a:List Int)=>ap.cU a) e.a.ks) e.a.s=PR.stop c.fst c.snd b)->ar (bm fun(a:Unit)=>ap.dk) x F (cd c) (Rd F u w)) (fun g d=>aw y 0/\kv (eg x) (aH (Ej g F y x u w t) []) (fun c b=>ar (bm fun(a:Unit)=>ap.dk) x F (jt c) (Ej g F y x u w t)))))))))))))))))):=by
 delta ib e7 b_ eg T1 dx lg lh dK mY kg kh c7 jQ fq q0 H3 Jf E4 pE pF gr eK zD Ix cq jv cd IT ja fJ Eg fZ gg Ej bI lM rW zv oI OW Rd kv jt dL aH ak aw cz ad ai aj ag au af bd ax;obtain⟨K,x,s,os,n,tp⟩:=x;obtain⟨Y,M,z,hp,W,V,I⟩:=hc;replace B:cA K x F:=B;replace I:bs K x (n+1) .dk s≠.out:=I;dsimp only at Y M z hp W V⊢;obtain⟨r,e0⟩:∃r,bs K x (n+1) .dk s=r:=⟨_,rfl⟩;rw[e0]at I;have hk:=e0;unfold bs at hk;rw[P]at hk;have hl:=M.len;rw[m6]at hk;intro pc;refine⟨aq,?_⟩;refine br kz (x.p s) hl (B.ls.da 0 1 aL aL rfl rfl) fun _ _ c=>?_
 repeat (refine⟨aq,?_⟩)
 refine aG (fun E=>?_) (fun E=>?_)
 ·replace E:((aB x.L x.fin s).kind==3)=true:=E;rw[E,aU,kK,iM]at hk;have g1:=z.step (v6 E (by decide));refine⟨aq,?_⟩;refine⟨_,ef fun _=>rfl,mP (i:=s.i) (gR z.i hl),gk rfl rfl rfl,rfl,⟨x,s,s.ay,1,_⟩,rfl,rfl,⟨fun _=>rfl,rfl,bg,rfl,rfl⟩,ao,fun _ _=>?_⟩;refine⟨aq,aq,aq,?_⟩;refine bO e_ ⟨x,s.ay,⟨1,.empty,(aB x.L x.fin s).num,[],(aB x.L x.fin s).pos⟩,dG⟩ ⟨by have:=g1.cap hl;dsimp only[al.ay,al.add]at*;omega,.nil rfl⟩ fun _ _=>?_;exact ew (e0.trans hk.symm)
 replace E:((aB x.L x.fin s).kind==3)=false:=E;rw[E,aM]at hk;refine aG (fun G=>?_) (fun G=>?_)
 ·replace G:((aB x.L x.fin s).kind==4)=true:=G;rw[G,aU,kK,iM]at hk;have g1:=z.step (v6 G (by decide));refine⟨aq,?_⟩;refine⟨_,ef fun _=>rfl,mP (i:=s.i) (gR z.i hl),gk rfl rfl rfl,rfl,⟨x,s,s.ay,1,_⟩,rfl,rfl,⟨fun _=>rfl,rfl,bg,rfl,rfl⟩,ao,fun _ _=>?_⟩;refine⟨aq,aq,aq,?_⟩;refine bO e_ ⟨x,s.ay,⟨2,(aB x.L x.fin s).text,0,[],(aB x.L x.fin s).pos⟩,dG⟩ ⟨by have:=g1.cap hl;dsimp only[al.ay,al.add]at*;omega,.nil rfl⟩ fun _ _=>?_;exact ew (e0.trans hk.symm)
 replace G:((aB x.L x.fin s).kind==4)=false:=G;rw[G,aM]at hk;refine aG (fun H=>?_) (fun H=>?_)
 ·replace H:((aB x.L x.fin s).kind==1)=true:=H;rw[H,aU,kK,iM]at hk;have g1:=z.step (v6 H (by decide));refine⟨aq,?_⟩;refine⟨_,ef fun _=>rfl,mP (i:=s.i) (gR z.i hl),gk rfl rfl rfl,rfl,⟨x,s,s.ay,1,_⟩,rfl,rfl,⟨fun _=>rfl,rfl,bg,rfl,rfl⟩,ao,fun _ _=>?_⟩;refine⟨aq,aq,aq,?_⟩;refine bO e_ ⟨x,s.ay,⟨3,(aB x.L x.fin s).text,0,[],(aB x.L x.fin s).pos⟩,dG⟩ ⟨by have:=g1.cap hl;dsimp only[al.ay,al.add]at*;omega,.nil rfl⟩ fun _ _=>?_;exact ew (e0.trans hk.symm)
 replace H:((aB x.L x.fin s).kind==1)=false:=H;rw[H,aM,lU]at hk;intro kc;refine⟨aq,?_⟩;have U:=z.i;have O:x.L.length<=1048576/\s.i<=1048576/\0<=1048576:=⟨hl,gR U hl,df _⟩;refine kL (A:=(bc x.L s 0 Ft||(bc x.L s 0 Fq||bc x.L s 0 Fs))=true) (fun Z=>br jK ⟨x.p s,0,Ft⟩ O (B.ls.da 0 1 aL aL rfl rfl) fun _ _=>aG (fun R=>Z ?_) (fun R=>⟨aq,jK,rfl,⟨x.p s,0,Fq⟩,rfl,rfl,O,B.ls.da 0 1 aL aL rfl rfl,fun _ _=>aG (fun S=>Z ?_) (fun S=>⟨aq,jK,rfl,⟨x.p s,0,Fs⟩,rfl,rfl,O,B.ls.da 0 1 aL aL rfl rfl,fun _ _=>aG (fun T=>Z ?_) (fun T=>?_)⟩)⟩)) (fun hx=>?_)
 rotate_right
 ·rw[hx,aU,kK,iM]at hk;have hi:s.i<x.L.length:=by
   rw[Bool.or_eq_true,Bool.or_eq_true]at hx;rcases hx with h|h|h <;> exact iZ h
  have g1:=z.step hi;refine⟨aq,?_⟩;refine⟨_,ef fun _=>rfl,mP (i:=s.i) (gR z.i hl),gk rfl rfl rfl,rfl,⟨x,s,s.ay,1,_⟩,rfl,rfl,⟨fun _=>rfl,rfl,bg,rfl,rfl⟩,ao,fun _ _=>?_⟩;refine⟨aq,aq,aq,?_⟩;refine bO e_ ⟨x,s.ay,⟨4,(aB x.L x.fin s).text,0,[],(aB x.L x.fin s).pos⟩,dG⟩ ⟨by have:=g1.cap hl;dsimp only[al.ay,al.add]at*;omega,.nil rfl⟩ fun _ _=>?_;exact ew (e0.trans hk.symm)
 ·rw[show bc x.L s 0 Ft=true from R];rfl
 ·rw[show bc x.L s 0 Fq=true from S,Bool.true_or,mc]
 ·rw[show bc x.L s 0 Fs=true from T,mc,mc]
 rw[show bc x.L s 0 Ft=false from R,show bc x.L s 0 Fq=false from S,show bc x.L s 0 Fs=false from T,Bool.or_self,Bool.or_self,aM]at hk;refine⟨aq,?_⟩;refine br jK ⟨x.p s,0,r7⟩ ⟨hl,by have:=z.i;show s.i<=1048576;omega,bg⟩ (B.ls.da 0 1 aL aL rfl rfl) fun _ _=>?_;refine aG (fun L=>?_) (fun L=>?_)
 ·replace L:bc x.L s 0 r7=true:=L;rw[L,aU]at hk;refine⟨aq,?_⟩;exact ca z (ty hk I) (fun _ _ q _ _ _ _ _ _ _=>ew (e0.trans q.symm)) (cB:=ao) (ct:=iZ L) (cN:=ao)
 rw[show bc x.L s 0 r7=false from L,aM]at hk;refine⟨aq,?_⟩;refine br jI ⟨x,s,lp⟩ ⟨hl,z.i⟩ (B.ls.sub (bP 1)) ⟨fun _ q=>?_,fun _ q=>?_⟩
 ·rw[kJ q,aU]at hk;have g1:=z.is q;refine⟨aq,?_⟩;refine ca g1 (ft hk I) (fun k t1 hk D X x1 Q x0 N vg2=>?_) (cB:=ao) (ct:=ao) (cN:=ao);dsimp only[ap.sl,al.ay,al.add]at X x1 Q x0 N vg2;refine⟨aq,?_⟩;refine ma D hk (fun hk g3=>?_);exact ew (e0.trans hk.symm)
 rw[lj q,aM]at hk;refine⟨aq,?_⟩;refine br jI ⟨x,s,lb⟩ ⟨hl,z.i⟩ (B.ls.sub (bP 1)) ⟨fun _ q=>?_,fun _ q=>?_⟩
 ·rw[kJ q,aU]at hk;have g1:=z.is q;have oo:bs K x n (.cR []) s.ay≠.out:=Kr (by rw[hk];exact I);refine⟨aq,ae5,rfl,⟨⟨K,x,s.ay,os,n,kc,pc,[],dG⟩,n⟩,rfl,rfl,⟨Y,M,g1.cast (dv _).symm,.nil rfl,bT _,oo⟩,B.sub (bP 1),fun a J=>?_,fun a⟨u,J⟩=>⟨.inr a,⟨u,e0.trans (hk.symm.trans (Cw J))⟩,rfl,az [1]⟩⟩;obtain⟨ks,t1,r'⟩:=a;obtain⟨q1,C,D⟩:=J;replace q1:bs K x n (.cR []) s.ay= .ok ks t1:=q1;replace D:PG x t1 (os++ks):=D;rw[Cv q1,iM]at hk;refine⟨aq,aq,aq,?_⟩;refine bO e_ ⟨x,t1,⟨5,.empty,0,ks,(aB x.L x.fin s).pos⟩,r'⟩ ⟨by have:=D.cap hl;dsimp only[al.ay,al.add]at*;omega,C⟩ fun _ _=>?_;exact ew (e0.trans hk.symm)
 rw[lj q,aM]at hk;refine⟨aq,?_⟩;refine br jI ⟨x,s,lc⟩ ⟨hl,z.i⟩ (B.ls.sub (bP 1)) ⟨fun _ q=>?_,fun _ q=>?_⟩
 ·rw[kJ q,aU]at hk;have g1:=z.is q;have oo:bs K x n (.cU []) s.ay≠.out:=Kr (by rw[hk];exact I);refine⟨aq,ae9,rfl,⟨⟨K,x,s.ay,os,n,kc,pc,[],dG⟩,n⟩,rfl,rfl,⟨Y,M,g1.cast (dv _).symm,.nil rfl,bT _,oo⟩,B.sub (bP 1),fun a J=>?_,fun a⟨u,J⟩=>⟨.inr a,⟨u,e0.trans (hk.symm.trans (Cw J))⟩,rfl,az [1]⟩⟩;obtain⟨ks,t1,r'⟩:=a;obtain⟨q1,C,D⟩:=J;replace q1:bs K x n (.cU []) s.ay= .ok ks t1:=q1;replace D:PG x t1 (os++ks):=D;rw[Cv q1,iM]at hk;refine⟨aq,aq,aq,?_⟩;refine bO e_ ⟨x,t1,⟨6,.empty,0,ks,(aB x.L x.fin s).pos⟩,r'⟩ ⟨by have:=D.cap hl;dsimp only[al.ay,al.add]at*;omega,C⟩ fun _ _=>?_;exact ew (e0.trans hk.symm)
 rw[lj q,aM]at hk;refine⟨aq,?_⟩;exact br pe (x.p s) hl (B.ls.da 0 1 aL aL rfl rfl) fun _ _=>⟨.inr (_,_),⟨_,e0.trans hk.symm⟩,rfl,az [1]⟩
theorem ah4:aC 106 (bm (fun(_:Unit)=>ap.dk)):=fo 122 Tryz.func106 ah3 [] aY aY bA [] ah5
end
section
open Go
theorem yK:bz 3 1 (bB []) dG:=.nil rfl
def aiv(x:bk Int)(a:ah):List (Nat×Nat×OH):=[(1,2,.n 2020),(1,3,.w (eJ 2020)),(2,1,aR 2020),(2,3,bu (cx x.n 30)),(2,4,.n 3040),(2,5,.o (de 3 1 8) [999] [998]),(2,7,.w [.z00 2020]),(3,1,bu hZ),(4,1,bu ia),(5,1,bu tL),(5,3,.w [.z00 2020]),(6,1,bu ia),(7,1,aR 2020),(7,4,.w [.z00 2020]),(8,1,aR 2020),(8,3,bu (cx x.n 30)),(8,4,.n 9040),(8,5,.o (de 3 1 8) [998] [998]),(8,7,.w [.z00 2020]),
 (9,1,aR 2020),(9,5,aW gz),(10,1,aW kS),(11,1,bu hZ),(12,1,aR 2020),(12,4,.w [.z00 2020]),(13,1,aR 2020),(13,3,bu (cx x.n 30)),(13,4,.n 14040),(13,5,.o (de 3 1 8) [998] [998]),(13,7,.w [.z00 2020]),(14,1,.q (eJ 2020)),(14,2,.c fD [0,998] [0])]
def zr(x:bk Int):List Value:=[ag (cu x),aj false]
def IY(x:bk Int):List Value:=[ad 32,ai ⟨#[]⟩,float f64 0,au none 0 0,ad x.t]
def wH(A:Nat):List Value:=[au none 0 0,au (bI A) 1 1]
def uX(y:Row)(x:bk Int):List Value:=[ad 32,ai ⟨#[]⟩,float f64 0,au y.a y.n y.cap,ad x.t]
def Rf(s:jC)(y:Row)(x:bk Int):List Value:=[ad 32,ai (aB s.x.L s.x.fin s.s).text,float f64 0,au y.a y.n y.cap,ad x.t]
def zB(s:jC)(y:Row)(x:bk Int):List Value:=[ad 32,ai (aB s.x.L s.x.fin s.s).text,float f64 4607182418800017408,au y.a y.n y.cap,ad x.t]
def Bz(s:jC)(k:Row)(x:bk Int):List Value:=[ad 32,ai (aB s.x.L s.x.fin s.s).text,float f64 4613937818241073152,au k.a k.n k.cap,ad x.t]
def El(w:iB)(F:ah)(y:Row)(D:Nat)(x:bk Int)(A:Nat)(B:Int×al):=[(0,ak w.x w.s),(1,F),(998,y.A),(999,bd),(2020,af D (uX y x) 35),(3040,af A (bN B) 3)]
def BB(y:Row)(x:bk Int):List Value:=[ad 32,ai ⟨#[]⟩,float f64 4611686018427387904,au y.a y.n y.cap,ad x.t]
theorem aix(x:bk Int)(F:ah)(hc:aQ.cond (bm (fun(p:Int)=>ap.dy p)) x)(G:aQ.aO (bm (fun(p:Int)=>ap.dy p)) x F):∀(D:Nat),cz D (true=true/\aw D 3/\cq x.n 30 (zr x) [ak x.x x.s] (aH [(0,ak x.x x.s),(1,F),(2020,af D (IY x) 35)] [0]) (fun C B=>∀(A:Nat),fz (ba Tryz.f47 2 5) (wH A) [bd] (aH [(0,ak C.x B.snd),(1,F),(2020,af D (IY x) 35),(3040,af A (bN B) 3)] [999]) (fun z y=>aw D 3/\fJ [ag (cu x),ai ⟨#[99,97,116,99,104]⟩] [ak C.x B.snd] (aH [(0,ak C.x B.snd),(1,F),(998,y.A),(999,bd),(2020,af D (uX y x) 35),(3040,af A (bN B) 3)] [0]) (fun w v=>fZ [ag (cu x),ai ⟨#[40]⟩] [ak w.x w.s.ay] (aH [(0,ak w.x w.s.ay),(1,F),(998,y.A),(999,bd),(2020,af D (uX y x) 35),(3040,af A (bN B) 3)] [0]) (fun u t=>xU (jw x) [ak u.x u.s.ay] (aH [(0,ak u.x u.s.ay),(1,F),(998,y.A),(999,bd),(2020,af D (uX y x) 35),(3040,af A (bN B) 3)] [0]) (fun s r=>aw D 1/\fZ (zu x) [ak s.x s.s.ay] (aH [(0,ak s.x s.s.ay),(1,F),(998,y.A),(999,bd),(2020,af D (Rf s y x) 35),(3040,af A (bN B) 3)] [0]) (fun q p=>aw D 2/\aw D 2/\true=true/\aw D 3/\cq x.n 30 (zr x) [ak q.x q.s.ay] (aH [(0,ak q.x q.s.ay),(1,F),(998,y.A),(999,bd),(2020,af D (zB s y x) 35),(3040,af A (bN B) 3)] [0]) (fun o n=>∀(m:Nat),fz (ba Tryz.f47 8 5) (tg y m) [y.A] (aH [(0,ak o.x n.snd),(1,F),(998,y.A),(999,bd),(2020,af D (zB s y x) 35),(3040,af A (bN B) 3),(9040,af m (bN n) 3)] [998]) (fun l k=>aw D 3/\aw D 2/\fJ [ag (cu x),ai ⟨#[102,105,110,97,108,108,121]⟩] [ak o.x n.snd] (aH [(0,ak o.x n.snd),(1,F),(998,k.A),(999,bd),(2020,af D (zB s k x) 35),(3040,af A (bN B) 3),(9040,af m (bN n) 3)] [0]) (fun j i=>aw D 2/\aw D 2/\true=true/\aw D 3/\cq x.n 30 (zr x) [ak j.x j.s.ay] (aH [(0,ak j.x j.s.ay),(1,F),(998,k.A),(999,bd),(2020,af D (Bz s k x) 35),(3040,af A (bN B) 3),(9040,af m (bN n) 3)] [0]) (fun h g=>∀(f:Nat),fz (ba Tryz.f47 13 5) (tg k f) [k.A] (aH [(0,ak h.x g.snd),(1,F),(998,k.A),(999,bd),(2020,af D (Bz s k x) 35),(3040,af A (bN B) 3),(9040,af m (bN n) 3),(14040,af f (bN g) 3)] [998]) (fun e d=>aw D 3/\cz D (c7 [ag (cu x),agg ⟨Bz s d x⟩] [ak h.x g.snd,d.A] (fun c b=>ar (bm fun(a:Int)=>ap.dy a) x F (fq c) [(0,ak c.x (c.s.add c.n)),(1,F),(998,bd),(999,bd),(2020,af D (Bz s d x) 35),(3040,af A (bN B) 3),(9040,af m (bN n) 3),(14040,af f (bN g) 3)])))) (fun h c=>∀(b:Tm),ar (bm fun(a:Int)=>ap.dy a) x F (cd c) [(0,bd),(1,F),(998,k.A),(999,bd),(2020,af D (Bz s k x) 35),(3040,af A (bN B) 3),(9040,af m (bN n) 3)])) (fun j d=>cz D (c7 [ag (cu x),agg ⟨zB s k x⟩] [ak j.x j.s,k.A] (fun c b=>ar (bm fun(a:Int)=>ap.dy a) x F (fq c) [(0,ak c.x (c.s.add c.n)),(1,F),(998,bd),(999,bd),(2020,af D (zB s k x) 35),(3040,af A (bN B) 3),(9040,af m (bN n) 3)]))))) (fun o c=>∀(b:Tm),ar (bm fun(a:Int)=>ap.dy a) x F (cd c) [(0,bd),(1,F),(998,y.A),(999,bd),(2020,af D (zB s y x) 35),(3040,af A (bN B) 3)])) (fun q b=>ar (bm fun(a:Int)=>ap.dy a) x F (gg q) [(0,bd),(1,F),(998,y.A),(999,bd),(2020,af D (Rf s y x) 35),(3040,af A (bN B) 3)])) (fun s b=>ar (bm fun(a:Int)=>ap.dy a) x F (zo s) [(0,bd),(1,F),(998,y.A),(999,bd),(2020,af D (uX y x) 35),(3040,af A (bN B) 3)])) (fun u b=>ar (bm fun(a:Int)=>ap.dy a) x F (gg u) [(0,bd),(1,F),(998,y.A),(999,bd),(2020,af D (uX y x) 35),(3040,af A (bN B) 3)])) (fun w m=>aw D 2/\gr [ag (cu x),ad 0,ai ⟨#[102,105,110,97,108,108,121]⟩] (aH (El w F y D x A B) []) (fun l k=>Br (!h8 l.p.L (l.p.i+l.a) l.t) (kv (jw x) (aH (El w F y D x A B) []) (fun c b=>ar (bm fun(a:Int)=>ap.dy a) x F (jt c) (El w F y D x A B))) (fJ [ag (cu x),ai ⟨#[102,105,110,97,108,108,121]⟩] [ak w.x w.s] (aH (El w F y D x A B) [0]) (fun j i=>aw D 2/\aw D 2/\true=true/\aw D 3/\cq x.n 30 (zr x) [ak j.x j.s.ay] (aH [(0,ak j.x j.s.ay),(1,F),(998,y.A),(999,bd),(2020,af D (BB y x) 35),(3040,af A (bN B) 3)] [0]) (fun h g=>∀(f:Nat),fz (ba Tryz.f47 13 5) (tg y f) [y.A] (aH [(0,ak h.x g.snd),(1,F),(998,y.A),(999,bd),(2020,af D (BB y x) 35),(3040,af A (bN B) 3),(14040,af f (bN g) 3)] [998]) (fun e d=>aw D 3/\cz D (c7 [ag (cu x),agg ⟨BB d x⟩] [ak h.x g.snd,d.A] (fun c b=>ar (bm fun(a:Int)=>ap.dy a) x F (fq c) [(0,ak c.x (c.s.add c.n)),(1,F),(998,bd),(999,bd),(2020,af D (BB d x) 35),(3040,af A (bN B) 3),(14040,af f (bN g) 3)])))) (fun h c=>∀(b:Tm),ar (bm fun(a:Int)=>ap.dy a) x F (cd c) [(0,bd),(1,F),(998,y.A),(999,bd),(2020,af D (BB y x) 35),(3040,af A (bN B) 3)])) (fun j d=>cz D (c7 [ag (cu x),agg ⟨uX y x⟩] [ak j.x j.s,y.A] (fun c b=>ar (bm fun(a:Int)=>ap.dy a) x F (fq c) [(0,ak c.x (c.s.add c.n)),(1,F),(998,bd),(999,bd),(2020,af D (uX y x) 35),(3040,af A (bN B) 3)])))))))) (fun C c=>∀(b:Tm),ar (bm fun(a:Int)=>ap.dy a) x F (cd c) [(0,bd),(1,F),(2020,af D (IY x) 35)])):=by
 delta cq cu zr IY kF fz bI wH bN ja fJ uX fZ mn lN xU jw zu Rf zB tg Bz kg kh c7 jQ fq cd gg zo pE pF gr El ib kv jt BB dL aH ak aw cz ad ai aj ag au af bd ax;obtain⟨K,x,s,os,n,X⟩:=x;obtain⟨ih,hK,hG,hp,DH,yx,M⟩:=hc;replace G:cA K x F:=G;replace M:bs K x (n+1) (.dy X) s≠.out:=M;dsimp only at ih hK hG hp DH yx⊢;obtain⟨r,e0⟩:∃r,bs K x (n+1) (.dy X) s=r:=⟨_,rfl⟩;rw[e0]at M;have hk:=e0;unfold bs at hk;rw[P]at hk;have hl:=hK.len;intro c
 repeat (refine⟨aq,?_⟩)
 refine⟨rfl,aq,?_⟩;refine ca hG (ft hk M) (fun b t1 hk g1 NE N1 x1 NS Z Se=>?_) (cB:=ao) (ct:=ao) (cN:=ao);dsimp only[ap.sl,al.ay,al.add]at NE N1 x1 NS Z Se;intro lb;refine kQ (ks:=[]) (k:=b) 3040 yK (by simp only[eS,sJ,List.length_nil];omega) (fun Y V=>?_);refine⟨aq,?_⟩;refine br jI ⟨x,t1,W0⟩ ⟨hl,g1.i⟩ (G.ls.sub (bP 1)) ⟨fun _ q=>?_,fun _ q=>?_⟩
 ·rw[kJ q,aU,eO]at hk;have g2:=g1.is q;refine ma g2 hk (fun hk g3=>?_);rw[eO]at hk;refine br KL ⟨x,t1.ay.ay⟩ hl (G.ls.sub (bP 1)) ⟨fun _ q=>?_,fun _ q=>⟨.inr (_,_),⟨_,e0.trans (hk.symm.trans (Kw q))⟩,rfl,az [1]⟩⟩;rw[Kx q,eO]at hk;have hi:t1.ay.ay.i<x.L.length:=ui (fin:=x.fin) (fun e=>by rw[e]at q;cases q);have g4:=g3.step hi;refine⟨aq,?_⟩;refine ma g4 hk (fun hk g5=>?_);rw[eO]at hk;refine⟨aq,aq,rfl,aq,?_⟩;refine ca g5 (ft hk M) (fun T t2 hk g6 ig6 ng6 x2 lg6 x0 vg6=>?_) (cB:=ao) (ct:=ao) (cN:=ao);dsimp only[ap.sl,al.ay,al.add]at ig6 ng6 x2 lg6 x0 vg6;rw[ie]at hk;dsimp only at hk;rw[lU]at hk;simp only[Bool.not_true,jk,aM]at hk;rw[ie]at hk;intro DO;have E:bz 3 1 (bB [b]) Y:=V;refine br (jE 1 8 rfl rfl rfl rfl rfl rfl rfl (by decide)) ⟨Y,bB [b],some ⟨DO,0,none⟩,1,1,bB [T]⟩ ⟨E,rfl,uo _,u5 E aL,u6 E aL,fun h=>nomatch h⟩ (vb 9040 rfl) fun r3 U=>?_;replace U:bz 3 1 (bB ([b]++[T])) r3:=by rw[um];exact U.1
  refine⟨aq,aq,?_⟩;refine br jI ⟨x,t2,oQ⟩ ⟨hl,g6.i⟩ (G.ls.sub (bP 1)) ⟨fun _ q=>?_,fun _ q=>?_⟩
  ·rw[kJ q,aU]at hk;have g7:=g6.is q;refine⟨aq,aq,rfl,aq,?_⟩;refine ca g7 (zF hk M) (fun I t3 hk g8 N R J Q H S=>?_) (cB:=ao) (ct:=ao) (cN:=ao);dsimp only[ap.sl,al.ay,al.add]at N R J Q H S;rw[iM]at hk;intro O;refine br (jE 1 8 rfl rfl rfl rfl rfl rfl rfl (by decide)) ⟨r3,bB ([b]++[T]),some ⟨O,0,none⟩,1,1,bB [I]⟩ ⟨U,rfl,uo _,u5 U aL,u6 U aL,fun h=>nomatch h⟩ (vb 14040 rfl) fun W L=>?_;replace L:bz 3 1 (bB ([b]++[T]++[I])) W:=by rw[um];exact L.1
   repeat (refine⟨aq,?_⟩)
   refine bO e_ ⟨x,t3,⟨34-2,(aB x.L x.fin t1.ay.ay).text,vh,[b]++[T]++[I],X⟩,W⟩ ⟨by have:=g8.cap hl;dsimp only[al.ay,al.add]at*;omega,L⟩ fun _ _=>?_;exact ew (e0.trans hk.symm)
  ·rw[lj q,aM,ie,iM]at hk
   repeat (refine⟨aq,?_⟩)
   refine bO e_ ⟨x,t2,⟨34-2,(aB x.L x.fin t1.ay.ay).text,kZ,[b]++[T]++[],X⟩,r3⟩ ⟨by have:=g6.cap hl;dsimp only[al.ay,al.add]at*;omega,U⟩ fun _ _=>?_;exact ew (e0.trans hk.symm)
 ·rw[lj q,aM,ie]at hk;dsimp only at hk;rw[lU]at hk;simp only[Bool.not_false,Bool.true_and,aM]at hk;refine⟨aq,?_⟩;refine br jK ⟨x.p t1,0,oQ⟩ ⟨hl,by have:=g1.i;show t1.i<=1048576;omega,bg⟩ (G.ls.da 0 1 aL aL rfl rfl) fun _ _=>?_;refine aG (fun h=>?_) (fun h=>?_)
  ·rw[show(!bc x.L t1 0 oQ)=true from h,aU,Fl]at hk;exact br pe (x.p t1) hl (G.ls.da 0 1 aL aL rfl rfl) fun _ _=>⟨.inr (_,_),⟨_,e0.trans hk.symm⟩,rfl,az [1]⟩
  rw[show(!bc x.L t1 0 oQ)=false from h,aM,ie]at hk;refine br jI ⟨x,t1,oQ⟩ ⟨hl,g1.i⟩ (G.ls.sub (bP 1)) ⟨fun _ q=>?_,fun _ q=>?_⟩
  ·rw[kJ q,aU]at hk;have g7:=g1.is q;refine⟨aq,aq,rfl,aq,?_⟩;refine ca g7 (zF hk M) (fun I t3 hk g8 N R J Q H S=>?_) (cB:=ao) (ct:=ao) (cN:=ao);dsimp only[ap.sl,al.ay,al.add]at N R J Q H S;rw[iM]at hk;intro O;have E:bz 3 1 (bB [b]) Y:=V;refine br (jE 1 8 rfl rfl rfl rfl rfl rfl rfl (by decide)) ⟨Y,bB [b],some ⟨O,0,none⟩,1,1,bB [I]⟩ ⟨E,rfl,uo _,u5 E aL,u6 E aL,fun h=>nomatch h⟩ (vb 14040 rfl) fun W L=>?_;replace L:bz 3 1 (bB ([b]++[]++[I])) W:=by rw[dv,um];exact L.1
   repeat (refine⟨aq,?_⟩)
   refine bO e_ ⟨x,t3,⟨34-2,.empty,vi,[b]++[]++[I],X⟩,W⟩ ⟨by have:=g8.cap hl;dsimp only[al.ay,al.add]at*;omega,L⟩ fun _ _=>?_;exact ew (e0.trans hk.symm)
  ·have q2:bc x.L t1 0 oQ=false:=q;have V:(!bc x.L t1 0 oQ)=false:=h;rw[q2]at V;cases V
theorem aiw:aC 47 (bm (fun(p:Int)=>ap.dy p)):=fo 61 Tryz.func47 aiv [] aY aY bA [] aix
end
section
open Go
def pM(L:List bh)(s:al)(kind:Int)(aD:Bool):Bool:=kind==(31:Int)||(kind==(28:Int)&&(decide (s.i<L.length)&&(!aD&&(!bc L s 0 dm&& !bc L s 0 rc))))
def Ko(L:List bh)(fin:Int)(kind pos:Int)(ks:List Int):PM (List Int):=do
 dP L fin
 cg ⟨kind,.empty,0,ks,pos⟩
def vg(L:List bh)(fin:Int)(tv:Nat->ByteArray)(n:Nat)(kind pos:Int)(b:Bool):PM (List Int):=do
 let ks <-bif b then P L fin tv bx n .aZ else ret []
 Ko L fin kind pos ks
def Kn(L:List bh)(fin:Int)(tv:Nat->ByteArray)(f:Nat)(kind pos:Int):PM (List Int):=do
 eE
 let n <-e9 L fin
 let s <-ez
 bif kind==(31:Int)&&n.aD then iU L fin else ret ()
 vg L fin tv f kind pos (pM L s kind n.aD)
structure iF where
 kind:Int
 t:al
 ks:List Int
 r:Row
 b:Bool
 c:Nat
def gC(x:bk bh):Option Addr:=some ⟨x.x.b,0,none⟩
def nP(d:iF):Option Addr:=some ⟨d.c,0,none⟩
def qt(d:iF):=ag (nP d)
def ain(x:bk bh)(F:ah):Nat->Option Inv:=fun
 |11=>some {X:=iF,P:=fun d=>Kn x.x.L x.x.fin x.K.tv x.n d.kind x.t.pos x.s=bs x.K x.x (x.n+1) (.simple x.t) x.s,mu:=fun _=>0,lv:=fun d=>[(0,ag (gC x)),(5,qt d)],st:=fun d=>[ak x.x x.s,F,(lH d.c d.kind .empty 0 dG x.t.pos)]}
 |17=>some {X:=iF,P:=fun d=>vg x.x.L x.x.fin x.K.tv x.n d.kind x.t.pos d.b x.s.ay=bs x.K x.x (x.n+1) (.simple x.t) x.s,mu:=fun _=>0,lv:=fun d=>[(0,ag (gC x)),(5,qt d),(72,aj d.b)],st:=fun d=>[ak x.x x.s.ay,F,(lH d.c d.kind .empty 0 dG x.t.pos)]}
 |18=>some {X:=iF,P:=fun d=>PG x.x d.t (x.os++d.ks)/\bz 3 1 (bB d.ks) d.r/\Ko x.x.L x.x.fin d.kind x.t.pos d.ks d.t=bs x.K x.x (x.n+1) (.simple x.t) x.s,mu:=fun _=>0,lv:=fun d=>[(0,ag (gC x)),(5,qt d)],st:=fun d=>[ak x.x d.t,F,(lH d.c d.kind .empty 0 d.r x.t.pos),d.r.A]}
 |_=>none
def aio(x:bk bh)(a:ah):List (Nat×Nat×OH):=[(0,0,.n 1000),(1,1,aR 1000),(1,3,.n 2030),(1,4,.w (eJ 2030)),(3,1,aR 1000),(3,7,c9),(4,1,.w [.z00 2030]),(5,1,aR 1000),(5,7,c9),(6,1,.w [.z00 2030]),(7,1,aR 1000),(7,7,c9),(8,1,.w [.z00 2030]),(9,1,aR 1000),(10,1,.w [.z00 2030]),(2,1,aW kS),
 (11,3,c9),(11,7,dV fE),(12,1,aW iq),(12,2,.n 13020),(12,3,.w (eJ 13020)),(13,1,aR 2),(13,5,aR 13020),(14,1,aW kS),(15,1,aR 2),(16,1,aR 2),(16,7,c9),(16,11,.q [.ex 0 .slice]),(16,17,aR 13020),(16,22,aW gz),(16,27,aW gz),
 (17,1,bu (cx x.n 14)),(17,2,.n 18020),(17,4,.w [.z00 2]),(18,1,bu qB),(19,1,.q (eJ 2)),(19,2,.c fD [0,3] [0])]
def ER:ByteArray:=ByteArray.mk #[114,101,116,117,114,110]
def zn(q:iF)(x:bk bh):List Value:=[ad q.kind,ai ByteArray.empty,float f64 0,au none 0 0,ad x.t.pos]
def C_(e0:bk bh)(e1:ah)(v0:Value)(a:St):=∃(z:iF),Kn e0.x.L e0.x.fin e0.K.tv e0.n z.kind e0.t.pos e0.s=bs e0.K e0.x (e0.n+1) (ap.simple e0.t) e0.s/\(ag (gC e0)=ag (gC e0)/\v0=ag (nP z)/\True)/\aE a [(0,ak e0.x e0.s),(1,e1),(2,af z.c (zn z e0) 35)]
def By(x:bk bh):List Value:=[ad x.t.kind,ai x.t.text,float f64 x.t.num,ad x.t.pos,aj x.t.aD]
def EY:ByteArray:=ByteArray.mk #[98,114,101,97,107]
def EM:ByteArray:=ByteArray.mk #[99,111,110,116,105,110,117,101]
def P0(x:bk bh)(F:ah)(s r:Nat):=[(0,ak x.x x.s),(1,F),(1000,af s (By x) 53),(2030,af r [ad 0,ai ⟨#[]⟩,float f64 0,au none 0 0,ad x.t.pos] 35)]
def PO(s:Nat)(x:bk bh)(r:Nat)(F:ah):=aw s 1/\Br (x.t.text.toList==(ByteArray.mk #[116,104,114,111,119]).toList) (aw r 0/\C_ x F (cE r) [(0,ak x.x x.s),(1,F),(1000,af s (By x) 53),(2030,af r [ad 31,ai ⟨#[]⟩,float f64 0,au none 0 0,ad x.t.pos] 35)]) (kv [ag (gC x)] (aH (P0 x F s r) []) (fun c b=>ar (bm fun(a:bh)=>ap.simple a) x F (jt c) (P0 x F s r)))
def q4(s:Nat)(x:bk bh)(r:Nat)(F:ah):=aw s 1/\Br (x.t.text.toList==EM.toList) (T1 (ak x.x x.s) ⟨x.x.b,5,none⟩ (fun d=>aS (d>0) (aw r 0/\C_ x F (cE r) [(0,ak x.x x.s),(1,F),(1000,af s (By x) 53),(2030,af r [ad 30,ai ⟨#[]⟩,float f64 0,au none 0 0,ad x.t.pos] 35)]) (PO s x r F))) (PO s x r F)
def Oy(s:Nat)(x:bk bh)(r:Nat)(F:ah):=aw s 1/\Br (x.t.text.toList==EY.toList) (T1 (ak x.x x.s) ⟨x.x.b,6,none⟩ (fun e=>aS (e>0) (aw r 0/\C_ x F (cE r) [(0,ak x.x x.s),(1,F),(1000,af s (By x) 53),(2030,af r [ad 29,ai ⟨#[]⟩,float f64 0,au none 0 0,ad x.t.pos] 35)]) (q4 s x r F))) (q4 s x r F)
def mW(n:sq)(F:ah)(q:iF)(x:bk bh)(j:Nat)(l:cW):=[(0,ak n.x n.t),(1,F),(2,af q.c (zn q x) 35),(13020,af j (q0 l) 53)]
def uF(x:bk bh)(F:ah)(a:iF):=[(0,ak x.x x.s.ay),(1,F),(2,af a.c (zn a x) 35)]
def Ew(x:bk bh)(q:iF)(n:sq)(F:ah)(j:Nat)(l:cW):=∃(a:iF),vg x.x.L x.x.fin x.K.tv x.n a.kind x.t.pos a.b x.s.ay=bs x.K x.x (x.n+1) (ap.simple x.t) x.s/\(ag (gC x)=ag (gC x)/\ag (nP q)=ag (nP a)/\aj false=aj a.b/\True)/\aE (mW n F q x j l) (uF x F a)
def D7(e0:bk bh)(z:iF):=PG e0.x z.t (e0.os++z.ks)/\bz 3 1 (bB z.ks) z.r/\Ko e0.x.L e0.x.fin z.kind e0.t.pos z.ks z.t=bs e0.K e0.x (e0.n+1) (ap.simple e0.t) e0.s
def Qx(d:nj)(c:Int×al)(F:ah)(f:iF)(b:Nat)(x:bk bh):=[(0,ak d.x c.snd),(1,F),(2,af f.c [ad f.kind,ai ByteArray.empty,float f64 0,au (bI b) 1 1,ad x.t.pos] 35),(18020,af b (bN c) 3)]
def E7(z:iF)(e0:bk bh):List Value:=[ad z.kind,ai ByteArray.empty,float f64 0,au z.r.a z.r.n z.r.cap,ad e0.t.pos]
def ED(e0:bk bh)(z:iF)(e1:ah):=[(0,ak e0.x z.t),(1,e1),(2,af z.c (E7 z e0) 35),(3,z.r.A)]
def xV(e0:bk bh)(e1:ah)(v0 v1:Value)(a:St):=∃(z:iF),vg e0.x.L e0.x.fin e0.K.tv e0.n z.kind e0.t.pos z.b e0.s.ay=bs e0.K e0.x (e0.n+1) (ap.simple e0.t) e0.s/\(ag (gC e0)=ag (gC e0)/\v0=ag (nP z)/\v1=aj z.b/\True)/\aE a (uF e0 e1 z)
def L9(e0:bk bh)(e1:ah)(v0:Value)(a:St):=∃(z:iF),D7 e0 z/\(ag (gC e0)=ag (gC e0)/\v0=ag (nP z)/\True)/\aE a (ED e0 z e1)
def Aq(aa:List Value)(pp:List ah)(rr:ah)(c:jC->al->Prop)(d:jC->Int->Prop):=aC 33 qB/\true=true/\∃(z:jC),aa=(lN z)/\pp=[ak z.x z.s]/\(z.x.L.length<=1048576/\z.s.i<=z.x.L.length)/\fI z.x rr/\(∀(a:al),dP z.x.L z.x.fin z.s=PR.ok () a->c z a)/\∀(b:Int),dP z.x.L z.x.fin z.s=PR.stop b (60:Int) z.s->d z b
theorem aiq(x:bk bh)(F:ah)(hc:aQ.cond (bm (fun(d:bh)=>ap.simple d)) x)(C:aQ.aO (bm (fun(d:bh)=>ap.simple d)) x F):∀(s:Nat),aw s 3/\∀(r:Nat),cz r ((aw s 1/\Br (x.t.text.toList==ER.toList) (T1 (ak x.x x.s) ⟨x.x.b,4,none⟩ (fun f=>aS (f>0) (aw r 0/\C_ x F (cE r) [(0,ak x.x x.s),(1,F),(1000,af s (By x) 53),(2030,af r [ad 28,ai ⟨#[]⟩,float f64 0,au none 0 0,ad x.t.pos] 35)]) (Oy s x r F))) (Oy s x r F))/\aT fun(q:iF)_=>Kn x.x.L x.x.fin x.K.tv x.n q.kind x.t.pos x.s=bs x.K x.x (x.n+1) (ap.simple x.t) x.s->T1 (ak x.x x.s) ⟨x.x.b,1,none⟩ (fun o=>dx o/\dK (ba Tryz.f42 11 7) [ag (some ⟨x.x.b,1,none⟩),ad (o+1)] [ak x.x x.s] (fun n m=>e7 [ag (gC x)] (aH [(0,ak n.x n.t),(1,F),(2,af q.c (zn q x) 35)] []) (fun l k=>∀(j:Nat),cz j ((aw q.c 0/\Br (q.kind==31) (aw j 4/\Br (cn l.L l.fin l.i).aD (aC 15 kS/\true=true/\∃(c:cW),[ag (gC x)]=(ib c)/\([]:List ah)=[]/\c.L.length<=1048576/\iD c (aH (mW n F q x j l) [])/\∀(b:Unit),True->ar (bm fun(a:bh)=>ap.simple a) x F (jt c) (mW n F q x j l)) ((d9 ⟨q.c,0,none⟩ q.c/\Br (q.kind==31) (∃(a:iF),vg x.x.L x.x.fin x.K.tv x.n a.kind x.t.pos a.b x.s.ay=bs x.K x.x (x.n+1) (ap.simple x.t) x.s/\(ag (gC x)=ag (gC x)/\ag (nP q)=ag (nP a)/\aj (q.kind==31)=aj a.b/\True)/\aE (mW n F q x j l) (uF x F a)) (true=true/\d9 ⟨q.c,0,none⟩ q.c/\Br (q.kind==28) (∃(i:Int),aP (ak n.x n.t) ⟨x.x.b,1,none⟩ (ad i)/\∃(h:Option Addr),∃(g:Nat),∃(f:Nat),aP (ak n.x n.t) ⟨x.x.b,0,none⟩ (au h g f)/\aS (i<g) (d9 ⟨j,4,none⟩ j/\Br (!(cn l.L l.fin l.i).aD) (aC 29 gz/\true=true/\∃(e:vz),[ag (gC x),ad 0,ai ⟨#[59]⟩]=(pE e)/\([]:List ah)=[]/\pF e/\iD e.p (aH (mW n F q x j l) [])/\∀(d:Unit),True->Br (!h8 e.p.L (e.p.i+e.a) e.t) (aC 29 gz/\true=true/\∃(c:vz),[ag (gC x),ad 0,ai ⟨#[125]⟩]=(pE c)/\([]:List ah)=[]/\pF c/\iD c.p (aH (mW n F q x j l) [])/\∀(b:Unit),True->∃(a:iF),vg x.x.L x.x.fin x.K.tv x.n a.kind x.t.pos a.b x.s.ay=bs x.K x.x (x.n+1) (ap.simple x.t) x.s/\(ag (gC x)=ag (gC x)/\ag (nP q)=ag (nP a)/\(aj !h8 c.p.L (c.p.i+c.a) c.t)=aj a.b/\True)/\aE (mW n F q x j l) (uF x F a)) (Ew x q n F j l)) (Ew x q n F j l)) (Ew x q n F j l)) (Ew x q n F j l)))/\aT fun(f:iF)_=>vg x.x.L x.x.fin x.K.tv x.n f.kind x.t.pos f.b x.s.ay=bs x.K x.x (x.n+1) (ap.simple x.t) x.s->Br f.b (aC 14 (cx x.n (14:FuncId))/\true=true/\∃(d:nj),[ag (gC x)]=ag (some ⟨d.x.b,0,none⟩)::d.tag.args/\[ak x.x x.s.ay]=[ak d.x d.s]/\(gM d.K d.x/\PG d.x d.s d.os/\d.tag.bJ=some 14/\ap.cB d.x.fin d.tag/\ap.ct d.x.L d.s d.tag/\ap.cN d.s d.tag/\bs d.K d.x x.n d.tag d.s≠PR.out)/\cA d.K d.x (aH (uF x F f) [0])/\(∀(c:Int×al),bs d.K d.x x.n d.tag d.s=PR.ok [c.fst] c.snd->∀(b:Nat),d9 ⟨f.c,3,none⟩ f.c/\∃(a:iF),D7 x a/\(ag (gC x)=ag (gC x)/\ag (nP f)=ag (nP a)/\True)/\aE (Qx d c F f b x) (ED x a F))/\∀(b:Int×Int),(∃(a:al),bs d.K d.x x.n d.tag d.s=PR.stop b.fst b.snd a)->ar (bm fun(a:bh)=>ap.simple a) x F (cd b) [(0,bd),(1,F),(2,af f.c (zn f x) 35)]) (∃(a:iF),D7 x a/\(ag (gC x)=ag (gC x)/\ag (nP f)=ag (nP a)/\True)/\aE (uF x F f) (ED x a F)))) ((aw q.c 0/\Br (q.kind==31) (xV x F (qt q) (aj (q.kind==31)) (mW n F q x j l)) (true=true/\aw q.c 0/\Br (q.kind==28) (T1 (ak n.x n.t) ⟨x.x.b,1,none⟩ (fun i=>eI (ak n.x n.t) ⟨x.x.b,0,none⟩ (fun h g f=>aS (i<g) (aw j 4/\Br (!(cn l.L l.fin l.i).aD) (gr [ag (gC x),ad 0,ai ⟨#[59]⟩] (aH (mW n F q x j l) []) (fun e d=>Br (!h8 e.p.L (e.p.i+e.a) e.t) (gr [ag (gC x),ad 0,ai ⟨#[125]⟩] (aH (mW n F q x j l) []) (fun c b=>xV x F (qt q) (aj !h8 c.p.L (c.p.i+c.a) c.t) (mW n F q x j l))) (xV x F (qt q) c6 (mW n F q x j l)))) (xV x F (qt q) c6 (mW n F q x j l))) (xV x F (qt q) c6 (mW n F q x j l))))) (xV x F (qt q) c6 (mW n F q x j l))))/\aT fun(f:iF)_=>vg x.x.L x.x.fin x.K.tv x.n f.kind x.t.pos f.b x.s.ay=bs x.K x.x (x.n+1) (ap.simple x.t) x.s->Br f.b (cq x.n 14 [ag (gC x)] [ak x.x x.s.ay] (aH (uF x F f) [0]) (fun d c=>∀(b:Nat),aw f.c 3/\L9 x F (qt f) (Qx d c F f b x)) (fun d b=>ar (bm fun(a:bh)=>ap.simple a) x F (cd b) [(0,bd),(1,F),(2,af f.c (zn f x) 35)])) (L9 x F (qt f) (uF x F f))))/\aT fun(g:iF)_=>D7 x g->Aq [ag (gC x)] [ak x.x g.t] (aH (ED x g F) [0]) (fun e d=>cz g.c (c7 [ag (gC x),agg ⟨E7 g x⟩] [ak e.x d,g.r.A] (fun c b=>ar (bm fun(a:bh)=>ap.simple a) x F (fq c) [(0,ak c.x (c.s.add c.n)),(1,F),(2,af g.c (E7 g x) 35),(3,bd)]))) (fun e b=>ar (bm fun(a:bh)=>ap.simple a) x F (dL b 60) [(0,bd),(1,F),(2,af g.c (E7 g x) 35),(3,g.r.A)])))))):=by
 delta ER T1 gC nP zn C_ bI cE By EY EM ib kv P0 jt PO q4 Oy dx lg lh dK e7 q0 mW uF pE pF Ew D7 bN Qx E7 ED cd xV qt eI gr c6 cq L9 mn lN Aq kg kh c7 jQ fq dL aH ak aw cz ad ai aj ag au af bd aS ax aT;obtain⟨K,x,s,os,n,v⟩:=x;obtain⟨ih,R,Q,hp,B,S,I⟩:=hc;replace C:cA K x F:=C;replace I:bs K x (n+1) (.simple v) s≠.out:=I;dsimp only at ih R Q hp B S⊢;obtain⟨r,e0⟩:∃r,bs K x (n+1) (.simple v) s=r:=⟨_,rfl⟩;rw[e0]at I;have hk:=e0;unfold bs at hk;rw[P]at hk;have hl:=R.len;have B:s.i<x.L.length:=B;rw[lU]at hk;intro lc';refine⟨aq,fun c=>?_⟩
 repeat (refine⟨aq,?_⟩)
 refine⟨?_,?_⟩
 ·refine kL (A:=(bC v.text pP&&decide (s.bw>0))=false) (fun k1=>⟨aq,aG (fun a=>⟨_,ef fun _=>rfl,bo (fun b=>⟨aq,⟨28,s,[],dG,false,c⟩,?_,aV,az [0,1,2030]⟩) (fun b=>k1 ?_)⟩) (fun a=>k1 ?_)⟩) (fun w=>kL (A:=(bC v.text pN&&decide (s.bn>0))=false) (fun k2=>⟨aq,aG (fun a=>⟨_,ef fun _=>rfl,bo (fun b=>⟨aq,⟨29,s,[],dG,false,c⟩,?_,aV,az [0,1,2030]⟩) (fun b=>k2 ?_)⟩) (fun a=>k2 ?_)⟩) (fun z=>kL (A:=(bC v.text pO&&decide (s.loops>0))=false) (fun k3=>⟨aq,aG (fun a=>⟨_,ef fun _=>rfl,bo (fun b=>⟨aq,⟨30,s,[],dG,false,c⟩,?_,aV,az [0,1,2030]⟩) (fun b=>k3 ?_)⟩) (fun a=>k3 ?_)⟩) (fun E=>⟨aq,aG (fun a=>⟨aq,⟨31,s,[],dG,false,c⟩,?_,aV,az [0,1,2030]⟩) (fun a=>?_)⟩)))
  ·rw[fS]at a;rw[show bC v.text pP=true from a,bv (show s.bw>0 from b),Bool.and_self,aU,ie]at hk;exact hk.trans e0.symm
  ·rw[bF (show ¬s.bw>0 from b),j5]
  ·rw[fS]at a;rw[show bC v.text pP=false from a,jk]
  ·rw[fS]at a;rw[w,aM,show bC v.text pN=true from a,bv (show s.bn>0 from b),Bool.and_self,aU,ie]at hk;exact hk.trans e0.symm
  ·rw[bF (show ¬s.bn>0 from b),j5]
  ·rw[fS]at a;rw[show bC v.text pN=false from a,jk]
  ·rw[fS]at a;rw[w,aM,z,aM,show bC v.text pO=true from a,bv (show s.loops>0 from b),Bool.and_self,aU,ie]at hk;exact hk.trans e0.symm
  ·rw[bF (show ¬s.loops>0 from b),j5]
  ·rw[fS]at a;rw[show bC v.text pO=false from a,jk]
  ·rw[fS]at a;rw[w,aM,z,aM,E,aM,show bC v.text qJ=true from a,aU,ie]at hk;exact hk.trans e0.symm
  ·rw[fS]at a;rw[w,aM,z,aM,E,aM,show bC v.text qJ=false from a,aM,Fl]at hk;exact br pe (x.p s) hl (C.ls.da 0 1 aL aL rfl rfl) fun _ _=>⟨.inr (_,_),⟨_,e0.trans hk.symm⟩,rfl,az [1]⟩
 clear hk;rintro⟨kind,t0,U,r0,H,c⟩ Z hk;dsimp only at hk⊢;rw[e0,Kn,kK,m6,lU]at hk;have g1:=Q.step B;refine⟨_,ef fun _=>rfl,mP (i:=s.i) (gR Q.i hl),gk rfl rfl rfl,rfl,⟨x,s,s.ay,1,_⟩,rfl,rfl,⟨fun _=>rfl,rfl,bg,rfl,rfl⟩,ao,fun _ _=>?_⟩;refine br kz (x.p s.ay) hl (C.ls.da 0 1 aL aL rfl rfl) fun _ _ c2=>?_
 repeat (refine⟨aq,?_⟩)
 refine⟨?_,?_⟩
 ·refine kL (A:=(kind==(31:Int)&&(aB x.L x.fin s.ay).aD)=false) (fun kx=>⟨aq,aG (fun w=>⟨aq,aG (fun z=>?_) (fun z=>kx ?_)⟩) (fun w=>kx ?_)⟩) (fun hx=>?_)
  ·rw[show(kind==(31:Int))=true from w,show(aB x.L x.fin s.ay).aD=true from z,Bool.and_self,aU,Fl]at hk;exact br pe (x.p s.ay) hl (C.ls.da 0 1 aL aL rfl rfl) fun _ _=>⟨.inr (_,_),⟨_,e0.trans hk.symm⟩,rfl,az [1]⟩
  ·rw[show(aB x.L x.fin s.ay).aD=false from z,j5]
  ·rw[show(kind==(31:Int))=false from w,jk]
  rw[hx,aM,ie]at hk;refine⟨⟨aq,?_⟩,?_⟩
  ·have Y:x.L.length<=1048576/\s.ay.i<=1048576/\0<=1048576:=⟨hl,gR g1.i hl,df _⟩;refine aG (fun w=>⟨⟨kind,s,[],dG,true,c⟩,?_,⟨rfl,rfl,?_,ao⟩,az [0,1,2]⟩) (fun w=>⟨rfl,aq,aG (fun z=>⟨_,ef fun _=>rfl,_,_,_,ef fun _=>rfl,bo (fun E=>⟨aq,aG (fun N=>br jK ⟨x.p s.ay,0,dm⟩ Y (C.ls.da 0 1 aL aL rfl rfl) fun _ _=>aG (fun O=>br jK ⟨x.p s.ay,0,rc⟩ Y (C.ls.da 0 1 aL aL rfl rfl) fun _ _=>⟨⟨kind,s,[],dG,!bc x.L s.ay 0 rc,c⟩,?_,⟨rfl,rfl,?_,ao⟩,az [0,1,2]⟩) (fun O=>⟨⟨kind,s,[],dG,false,c⟩,?_,aV,az [0,1,2]⟩)) (fun N=>⟨⟨kind,s,[],dG,false,c⟩,?_,aV,az [0,1,2]⟩)⟩) (fun E=>⟨⟨kind,s,[],dG,false,c⟩,?_,aV,az [0,1,2]⟩)⟩) (fun z=>⟨⟨kind,s,[],dG,false,c⟩,?_,aV,az [0,1,2]⟩)⟩)
   ·have y:pM x.L s.ay kind (aB x.L x.fin s.ay).aD=true:=by unfold pM;rw[show(kind==(31:Int))=true from w];rfl
    rw[y]at hk;exact hk.trans e0.symm
   ·show bool (kind==(31:Int))=bool true;rw[show(kind==(31:Int))=true from w]
   all_goals have G:(kind==(31:Int))=false:=w
   ·have y:pM x.L s.ay kind (aB x.L x.fin s.ay).aD= !bc x.L s.ay 0 rc:=by
     unfold pM;rw[G,show(kind==(28:Int))=true from z,bv (show s.ay.i<x.L.length from Int.ofNat_lt.1 E),show(!(aB x.L x.fin s.ay).aD)=true from N,show(!bc x.L s.ay 0 dm)=true from O];rfl
    rw[y]at hk;exact hk.trans e0.symm
   ·rfl
   ·have y:pM x.L s.ay kind (aB x.L x.fin s.ay).aD=false:=by
     unfold pM;rw[G,show(!bc x.L s.ay 0 dm)=false from O];simp
    rw[y]at hk;exact hk.trans e0.symm
   ·have y:pM x.L s.ay kind (aB x.L x.fin s.ay).aD=false:=by
     unfold pM;rw[G,show(!(aB x.L x.fin s.ay).aD)=false from N];simp
    rw[y]at hk;exact hk.trans e0.symm
   ·have y:pM x.L s.ay kind (aB x.L x.fin s.ay).aD=false:=by
     unfold pM;rw[G,bF (show ¬s.ay.i<x.L.length from fun h=>E (Int.ofNat_lt.2 h))];simp
    rw[y]at hk;exact hk.trans e0.symm
   ·have y:pM x.L s.ay kind (aB x.L x.fin s.ay).aD=false:=by
     unfold pM;rw[G,show(kind==(28:Int))=false from z];rfl
    rw[y]at hk;exact hk.trans e0.symm
  clear hk hx;rintro⟨kind,t0,U,r0,H,c⟩ Z hk;dsimp only at hk⊢;rw[e0,vg]at hk;refine aG (fun h=>?_) (fun h=>?_)
  ·have h:H=true:=h;rw[h,aU]at hk;refine ca g1 (zF hk I) (fun k t1 hk M T W L V J X=>?_) (cB:=ao) (ct:=ao) (cN:=ao);dsimp only[ap.sl,al.ay,al.add]at T W L V J X;intro lb;exact⟨aq,⟨kind,t1,[k],kB lb [k],false,c⟩,⟨M,jo lb [k],hk.trans e0.symm⟩,aV,az [0,1,2,18020]⟩
  ·have h:H=false:=h;rw[h,aM,ie]at hk;exact⟨⟨kind,s.ay,[],dG,false,c⟩,⟨g1.cast (dv _).symm,yK,hk.trans e0.symm⟩,aV,az [0,1,2,999]⟩
 clear hk;rintro⟨kind,t,ks,r',H,c⟩ Z ⟨g,D,hk⟩;dsimp only at g D hk⊢;rw[e0,Ko]at hk;refine br RY ⟨x,t⟩ ⟨hl,g.i⟩ (C.ls.sub (bP 1)) ⟨fun u q=>?_,fun p q=>⟨.inr (p,60),⟨_,e0.trans (hk.symm.trans (R8 q))⟩,rfl,az [1]⟩⟩;rw[R7 q,iM]at hk;obtain⟨M,-⟩:=PG.pK R g q
 repeat (refine⟨aq,?_⟩)
 refine bO e_ ⟨x,u,⟨kind,.empty,0,ks,v.pos⟩,r'⟩ ⟨by have:=M.cap hl;dsimp only[al.ay,al.add]at*;omega,D⟩ fun _ _=>?_;exact ew (e0.trans hk.symm)
theorem aip:aC 42 (bm (fun(d:bh)=>ap.simple d)):=fo 115 Tryz.func42 aio [] aY ain bA [] aiq
end
end Go.Proofs.YtdkchodgklpomaaGreatDoor
