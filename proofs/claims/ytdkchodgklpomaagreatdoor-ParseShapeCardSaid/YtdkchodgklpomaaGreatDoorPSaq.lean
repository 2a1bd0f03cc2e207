/- Part of the proof that ParseShape answers true at every input. -/
import Derived.Test.YtdkchodgklpomaaGreatDoorPSap
set_option linter.all false
namespace Go.Proofs.YtdkchodgklpomaaGreatDoor
set_option maxRecDepth 100000
open Go.Value (int slice string bool pointer agg tuple func float iface nilIface)
open Go.IntKind (i64 u8 u64 i32 u32 u16 i8 i16)
open Go.FloatKind (f64)
open Go.Ending (returned panicked)
section
open Go
structure oO(K:cj):Prop where
 num:aC 72 (pP K)
 On:aC 122 (Hg K)
 Ol:∀n,(K.tv n).size<=1048576
theorem adq{K:cj}{src:ByteArray}(hb:¬vA K src):src.size<=8192/\(dE K src).2= -1/\(∀x∈(dE K src).1,FQ src x)/\(dE K src).1.length<=src.size:=by
 have h1:¬src.size>8192:=fun e=>hb (.inl e);have h2:¬0<=(dE K src).2:=fun e=>hb (.inr e);exact⟨af,akK (by unfold dE at h2;omega)⟩
theorem oO.Lw{K:cj}(h:oO K){src:ByteArray}(hb:¬vA K src):iu K (m_ K src):=by
 obtain⟨h1,h2,h3,h4⟩:=adq hb;refine⟨⟨h.On,h.Ol,?_,fun i d e=>?_⟩,⟨Int.natCast_nonneg _,fun x hx=>⟨(h3 x hx).1,(h3 x hx).2.1⟩⟩⟩
 ·show(dE K src).1.length<=_;omega
 ·have:=(h3 d (oU e)).2.2;omega
def cO(K:cj)(src:ByteArray):Nat:=24*(dE K src).1.length+40
theorem S_{K:cj}{src:ByteArray}:cx K (m_ K src) (cO K src) fG≠.out:=by
 intro e;have h:=OW (L:=(dE K src).1) (fin:=src.size) (aL:=K.tv) (wide:=br) (cO K src) (.prog []) fG trivial (by unfold cO left fG ar.fc;dsimp only;omega);unfold TP at h;unfold cx at e;have e2:cq (P (dE K src).1 src.size K.tv br (cO K src) (.prog [])) (fun _=>ret ()) fG= .out:=e;unfold cq at e2;revert h e2;cases P (dE K src).1 src.size K.tv br (cO K src) (.prog []) fG with
 |ok a t=>intro _ e;cases e
 |stop p q t=>intro _ e;cases e
 |out=>intro h;exact h.elim
theorem ahd{K:cj}{src:ByteArray}:cT K (m_ K src) (cO K src) fG≠.out:=by
 intro e;have h:=OW (L:=(dE K src).1) (fin:=src.size) (aL:=K.tv) (wide:=br) (cO K src) .bx fG trivial (by unfold cO left fG ar.fc;dsimp only;omega);unfold TP at h;have e2:cq (P (dE K src).1 src.size K.tv br (cO K src) .bx) (fun _=>ie>>=fun s=>bif decide (s.i<(dE K src).1.length) then m9 (dE K src).1 src.size else ret ()) fG= .out:=e;unfold cq at e2;revert h e2;cases P (dE K src).1 src.size K.tv br (cO K src) .bx fG with
 |ok a t=>
  intro _ e;have e:(bif decide (t.i<(dE K src).1.length) then (m9 (dE K src).1 src.size:PM Unit) else ret ()) t= .out:=e;revert e;cases decide (t.i<(dE K src).1.length) <;> (intro e;cases e)
 |stop p q t=>intro _ e;cases e
 |out=>intro h;exact h.elim
structure my where
 K:cj
 src:ByteArray
def qO(M:cj->co->Nat->PM Unit):aR where
 X:=my
 Y:=fi
 args x:=[aj x.src]
 cond x:=oO x.K
 aQ x F:=eT x.K F/\jA F
 cd x y:=y.ok (cz M x.K x.src (cO x.K x.src)).1/\mZ (cz M x.K x.src (cO x.K x.src)).1 y.vs
 val x y:=.returned (.tuple #[.agg #[.slice y.r.a y.r.n y.r.cap],.int .i64 (cz M x.K x.src (cO x.K x.src)).2.1,.int .i64 (cz M x.K x.src (cO x.K x.src)).2.2])
 post x y:=[y.r.A,(gb (cz M x.K x.src (cO x.K x.src)).1 y.vs)]
def aca(bO:FuncId)(M:cj->co->Nat->PM Unit)(_x:my)(_F:ai):List (Nat×Nat×OH):=[(0,0,.n 1000),(1,1,.c (wk bO M) [] [1,2]),(1,5,.w [.z00 1000])]
def rh1:List LH:=[.z00 1000]
def EO(F:ai)(c:Nat):=aH [(0,F),(1000,ag c eW 25)] []
def pe(a:fi):List Value:=[au a.r.a a.r.n a.r.cap]
theorem apm(x:my)(F:ai)(hc:(qO cx).cond x)(hr:(qO cx).aQ x F):∀(c:Nat),aC 12 (wk (16:FuncId) cx)/\true=true/\∃(b:OY),[aj x.src,func (Fn.func 16) ⟨[]⟩ ⟨[]⟩]=[aj b.src,func (Fn.func 16) ⟨[]⟩ ⟨[]⟩]/\([]:List ai)=[]/\(aC 72 (pP b.K)/\aC 16 (oR cx)/\(¬vA b.K b.src->iu b.K (m_ b.K b.src)/\cx b.K (m_ b.K b.src) b.n fG≠PR.out))/\(eT b.K (EO F c)/\jA (EO F c))/\∀(a:fi),(a.ok (cz cx b.K b.src b.n).fst/\mZ (cz cx b.K b.src b.n).fst a.vs)->ax c 0/\ax c 0/\aq (qO cx) x F (az (tuple ⟨[agg ⟨pe a⟩,ae (cz cx b.K b.src b.n).snd.fst,ae (cz cx b.K b.src b.n).snd.snd]⟩)) [(0,F),(1,a.r.A),(2,eD (Kf.rest (cz cx b.K b.src b.n).fst a.vs)),(1000,ag c (pe a) 25)]:=by
 delta eW EO pe aH ax ae aj au ag eD az;obtain⟨K,src⟩:=x;replace hc:oO K:=hc;obtain⟨pM,kA⟩:=hr;intro b;exact bp (abl ano amk) ⟨K,src,cO K src⟩ ⟨hc.num,agk,fun hb=>⟨hc.Lw hb,S_⟩⟩ ⟨eT.sub pM (b_ 0),jA.sub kA (b_ 0)⟩ fun y hy=>⟨ap,ap,y,hy,rfl,aB [1,2,0]⟩
theorem ace:aC 10 (qO cx):=fo 10 Tryz.func10 (aca 16 cx) [] aY aY bz rh1 apm
theorem api(x:my)(F:ai)(hc:(qO cT).cond x)(hr:(qO cT).aQ x F):∀(c:Nat),aC 12 (wk (13:FuncId) cT)/\true=true/\∃(b:OY),[aj x.src,func (Fn.func 13) ⟨[]⟩ ⟨[]⟩]=[aj b.src,func (Fn.func 13) ⟨[]⟩ ⟨[]⟩]/\([]:List ai)=[]/\(aC 72 (pP b.K)/\aC 13 (oR cT)/\(¬vA b.K b.src->iu b.K (m_ b.K b.src)/\cT b.K (m_ b.K b.src) b.n fG≠PR.out))/\(eT b.K (EO F c)/\jA (EO F c))/\∀(a:fi),(a.ok (cz cT b.K b.src b.n).fst/\mZ (cz cT b.K b.src b.n).fst a.vs)->ax c 0/\ax c 0/\aq (qO cT) x F (az (tuple ⟨[agg ⟨pe a⟩,ae (cz cT b.K b.src b.n).snd.fst,ae (cz cT b.K b.src b.n).snd.snd]⟩)) [(0,F),(1,a.r.A),(2,eD (Kf.rest (cz cT b.K b.src b.n).fst a.vs)),(1000,ag c (pe a) 25)]:=by
 delta eW EO pe aH ax ae aj au ag eD az;obtain⟨K,src⟩:=x;replace hc:oO K:=hc;obtain⟨pM,kA⟩:=hr;intro b;exact bp (abl ahc amd) ⟨K,src,cO K src⟩ ⟨hc.num,age,fun hb=>⟨hc.Lw hb,ahd⟩⟩ ⟨eT.sub pM (b_ 0),jA.sub kA (b_ 0)⟩ fun y hy=>⟨ap,ap,y,hy,rfl,aB [1,2,0]⟩
theorem acb:aC 7 (qO cT):=fo 10 Tryz.func7 (aca 13 cT) [] aY aY bz rh1 api
end
section
open Go
theorem kOk:oO QW:=
 ⟨alV agb W1 (fun _ h=>h.1) (fun _ h=>h.2.1) rfl,apC ⟨W1,fun i _=>ab_ i⟩ rfl (fun _ h=>h.2.2),fun n=>i_ (apt ⟨W1,fun i _=>ab_ i⟩ n) (by decide)⟩
theorem ao6:ownKnob Tryz.prog.godebug=none:=bh
theorem ao3:laidOutB Tryz.prog=true:=bh
end
section
open Go
def uu:ByteArray:=⟨#[49,43,50,42,51]⟩
def xr:ByteArray:=⟨#[118,97,114,32,120,32,61,32,49,10,120,43,43]⟩
def Gk:ByteArray:=⟨#[97,43,49,32,61,32,50]⟩
section
set_option maxRecDepth 100000
theorem afv(K:cj):(cz cT K uu (cO K uu)).2=(0,0):=bh
theorem afu(K:cj):(cz cT K uu (cO K uu)).1.length=5:=bh
theorem afs(K:cj):((cz cT K uu (cO K uu)).1[3]?).map (·.op)=some ⟨#[42]⟩:=bh
theorem aft(K:cj):((cz cT K uu (cO K uu)).1[4]?).map (·.aF)=some [0,3]:=bh
theorem afy(K:cj):(cz cx K xr (cO K xr)).2=(0,0):=bh
theorem afx(K:cj):(cz cx K xr (cO K xr)).1.length=7:=bh
theorem afw(K:cj):((cz cx K xr (cO K xr)).1[6]?).map (·.kind)=some 37:=bh
theorem afz(K:cj):(cz cT K Gk (cO K Gk)).2=(0,61):=bh
end
theorem map_some{α β:Type}{f:α->β}{o:Option α}{b:β}(h:o.map f=some b):∃a,o=some a/\f a=b:=by
 cases o with
 |none=>cases h
 |some a=>exact⟨a,rfl,by simpa using h⟩
variable{t:Bool}{A B:Prop}
theorem vD(h:t=true)(a:A):Br t A B:=by subst h;exact a
theorem zn(h:t=false)(b:B):Br t A B:=by subst h;exact b
theorem aaL{y:fi}{ns:List cA}(hy:y.ok ns){rb i:Nat}{d:cA}(hk:mZ ns y.vs)(e:y.r.a=some ⟨rb,0,none⟩)(hd:ns[i]?=some d):∃a n cap,y.vs[i]?=some (.slice a n cap)/\mt 1 (bC d.aF) a n/\n=d.aF.length/\aO y.r.A ⟨rb,0+i*5+3,none⟩ (.slice a n cap):=by
 obtain⟨v,hv,a,n,cap,rfl,hs⟩:=JW hk i d hd;have hn:n=d.aF.length:=by
  have:=hs.len;unfold bC at this;rw[List.length_map]at this;omega
 refine⟨a,n,cap,hv,hs,hn,?_⟩;have h2:=hy.1.Fo;rw[e]at h2;have:=h2.look (Kj ns y.vs i 3 d _ _ hd hv rfl);rw[Nat.add_assoc];exact this
structure OD where
 K:cj
def qh:aR where
 X:=OD
 args _:=[]
 cond x:=oO x.K
 aQ x F:=eT x.K F/\jA F
 val _ _:=az (ak true)
def P8(aa:List Value)(rr:ai)(k0:my->fi->Prop):=aC 7 (qO cT)/\true=true/\∃(z:my),aa=[aj z.src]/\([]:List ai)=[]/\oO z.K/\(eT z.K rr/\jA rr)/\∀(u0:fi),u0.ok (cz cT z.K z.src (cO z.K z.src)).fst/\mZ (cz cT z.K z.src (cO z.K z.src)).fst u0.vs->k0 z u0
def JG(aa:List Value)(rr:ai)(k0:my->fi->Prop):=aC 10 (qO cx)/\true=true/\∃(z:my),aa=[aj z.src]/\([]:List ai)=[]/\oO z.K/\(eT z.K rr/\jA rr)/\∀(u0:fi),u0.ok (cz cx z.K z.src (cO z.K z.src)).fst/\mZ (cz cx z.K z.src (cO z.K z.src)).fst u0.vs->k0 z u0
def q7(F:ai)(r:fi)(s:my)(o:fi)(p:my)(l:fi)(m:my)(q n k:Nat):=[(0,F),(11,r.r.A),(12,eD (Kf.rest (cz cT s.K s.src (cO s.K s.src)).fst r.vs)),(21,o.r.A),(22,eD (Kf.rest (cz cx p.K p.src (cO p.K p.src)).fst o.vs)),(31,l.r.A),(32,eD (Kf.rest (cz cT m.K m.src (cO m.K m.src)).fst l.vs)),(2050,ag q (pe r) 25),(3050,ag n (pe o) 25),(4050,ag k (pe l) 25)]
theorem afB(x:OD)(F:ai)(hc:qh.cond x)(hr:qh.aQ x F):P8 [aj ⟨#[49,43,50,42,51]⟩] (cX F) (fun s r=>∀(q:Nat),ax q 0/\JG [aj ⟨#[118,97,114,32,120,32,61,32,49,10,120,43,43]⟩] (aH [(0,F),(11,r.r.A),(12,eD (Kf.rest (cz cT s.K s.src (cO s.K s.src)).fst r.vs)),(2050,ag q (pe r) 25)] []) (fun p o=>∀(n:Nat),ax n 0/\P8 [aj ⟨#[97,43,49,32,61,32,50]⟩] (aH [(0,F),(11,r.r.A),(12,eD (Kf.rest (cz cT s.K s.src (cO s.K s.src)).fst r.vs)),(21,o.r.A),(22,eD (Kf.rest (cz cx p.K p.src (cO p.K p.src)).fst o.vs)),(2050,ag q (pe r) 25),(3050,ag n (pe o) 25)] []) (fun m l=>∀(k:Nat),ax k 0/\Br ((cz cT s.K s.src (cO s.K s.src)).snd.snd==0) (Br ((cz cx p.K p.src (cO p.K p.src)).snd.snd==0) (Br ((cz cT m.K m.src (cO m.K m.src)).snd.snd==61) (Br ((cz cT m.K m.src (cO m.K m.src)).snd.fst==0) (ax q 0/\Br ((r.r.n:Int)==5) (ax q 0/\lF (a8 Tryz.f6 4 23) [au r.r.a r.r.n r.r.cap,ae 3] (fun j=>T2 r.r.A ⟨j.b,j.o+j.n.toNat*5+1,none⟩ (fun i=>Br (i.toList==(ByteArray.mk #[42]).toList) (ax q 0/\lF (a8 Tryz.f6 4 31) [au r.r.a r.r.n r.r.cap,ae 4] (fun h=>e8 r.r.A ⟨h.b,h.o+h.n.toNat*5+3,none⟩ (fun g f e=>kl (a8 Tryz.f6 4 34) [au g f e,ae 1] (fun d=>T1 (eD (Kf.rest (cz cT s.K s.src (cO s.K s.src)).fst r.vs)) ⟨d.b,d.o+d.n.toNat*1,none⟩ (fun c=>Br (c==3) (ax n 0/\Br ((o.r.n:Int)==7) (ax n 0/\lF (a8 Tryz.f6 4 47) [au o.r.a o.r.n o.r.cap,ae 6] (fun b=>T1 o.r.A ⟨b.b,b.o+b.n.toNat*5,none⟩ (fun a=>aq qh x F (az (ak (a==37))) (q7 F r s o p l m q n k)))) (aq qh x F c7 (q7 F r s o p l m q n k))) (aq qh x F c7 (q7 F r s o p l m q n k))))))) (aq qh x F c7 (q7 F r s o p l m q n k))))) (aq qh x F c7 (q7 F r s o p l m q n k))) (aq qh x F c7 (q7 F r s o p l m q n k))) (aq qh x F c7 (q7 F r s o p l m q n k))) (aq qh x F c7 (q7 F r s o p l m q n k))) (aq qh x F c7 (q7 F r s o p l m q n k))))):=by
 delta P8 cX JG pe lF T2 e8 kl T1 q7 dq c7 aH ax ae aj ak au ag eD az;obtain⟨K⟩:=x;replace hc:oO K:=hc;obtain⟨pM,kA⟩:=hr;have g1:=afv K;have g2:=afu K;have g3:=afs K;have g4:=aft K;have g5:=afy K;have g6:=afx K;have g7:=afw K;have g8:=afz K;refine bp acb ⟨K,uu⟩ hc ⟨eT.sub pM (b_ 0),jA.sub kA (b_ 0)⟩ fun y1 h1 b1=>⟨ap,ace,rfl,⟨K,xr⟩,rfl,rfl,hc,⟨eT.sub pM (b_ 0),jA.sub kA (b_ 0)⟩,fun y2 h2 b2=>⟨ap,acb,rfl,⟨K,Gk⟩,rfl,rfl,hc,⟨eT.sub pM (b_ 0),jA.sub kA (b_ 0)⟩,fun y3 _ b3=>⟨ap,?_⟩⟩⟩;dsimp only at h1 h2⊢;generalize cz cT K uu (cO K uu)=p1 at*;generalize cz cx K xr (cO K xr)=p2 at*;generalize cz cT K Gk (cO K Gk)=p3 at*;obtain⟨n1,v1⟩:=p1;obtain⟨n2,v2⟩:=p2;obtain⟨n3,v3⟩:=p3;dsimp only at g1 g2 g3 g4 g5 g6 g7 g8 h1 h2⊢;subst g1 g5 g8;obtain⟨xT,s_⟩:=h1;obtain⟨nk,_⟩:=h2;have l1:=xT.len;have l2:=nk.len;obtain⟨d3,e3,q3⟩:=map_some g3;obtain⟨d4,e4,q4⟩:=map_some g4;obtain⟨d6,e6,q6⟩:=map_some g7;obtain⟨rb1,KA⟩:=xT.1.Bg af;obtain⟨rb2,c5⟩:=nk.1.Bg af;obtain⟨a4,m4,c4,KY,KV,GP,lk4⟩:=aaL xT s_ KA e4;rw[q4]at KV GP;obtain⟨kb,ko,rfl⟩:=KV.some (by rw[GP];decide);have GP:m4=2:=GP;subst GP;refine vD rfl (vD rfl (vD rfl (vD rfl ⟨ap,vD ?_ ⟨ap,jp 5 rfl rfl rfl rfl,⟨rb1,0,y1.r.n,y1.r.cap,3⟩,by rw[KA],iP,d3.op,ya (j:=1) xT KA e3 (fun v=>rfl),vD ?_ ⟨ap,jp 5 rfl rfl rfl rfl,⟨rb1,0,y1.r.n,y1.r.cap,4⟩,by rw[KA],iP,_,_,_,lk4,jp 1 rfl rfl rfl rfl,⟨kb,ko,2,c4,1⟩,rfl,iP,3,Sw (j:=1) e4 KY (by rw[q4];rfl),vD rfl ⟨ap,vD ?_ ⟨ap,jp 5 rfl rfl rfl rfl,⟨rb2,0,y2.r.n,y2.r.cap,6⟩,by rw[c5],iP,d6.kind,ya (j:=0) nk c5 e6 (fun v=>rfl),(),ao,?_,aB [0]⟩⟩⟩⟩⟩)))
 ·rw[l1,g2];rfl
 ·rw[q3];exact beq_self_eq_true _
 ·rw[l2,g6];rfl
 ·rw[q6];rfl
theorem afA:aC 6 qh:=fo 77 Tryz.func6 (fun _ _=>[(1,0,.c (qO cT) [] [11,12]),(1,5,.n 2050),(1,6,.w [.z00 2050]),(2,0,.c (qO cx) [] [21,22]),(2,5,.n 3050),(2,6,.w [.z00 3050]),(3,0,.c (qO cT) [] [31,32]),(3,5,.n 4050),(3,6,.w [.z00 4050]),(4,16,aT 2050),(4,22,aT 2050),(4,23,.qo (h_ 5)),(4,25,.q [.ex 11 .str]),(4,30,aT 2050),(4,31,.qo (h_ 5)),(4,33,.q [.ex 11 .slice]),(4,34,.qo (h_ 1)),(4,35,.q [.ex 12 (.int .i64)]),(4,40,aT 3050),(4,46,aT 3050),(4,47,.qo (h_ 5)),(4,49,.q [.ex 21 (.int .i64)])]) [] aY aY bz [] afB
end
section
open Go
def NZ{α:Type}(m:PM α):Prop:=∀s p t,m s≠.stop p 0 t
section
variable{α β:Type}{L:List bA}{fin:Int}{aL:Nat->ByteArray}{wide:ByteArray->ByteArray}
theorem NZ.bind{m:PM α}{f:α->PM β}(h:NZ m)(hf:∀a,NZ (f a)):NZ (m>>=f):=by
 intro s p t e;have e:cq m f s= .stop p 0 t:=e;unfold cq at e;cases hm:m s with
 |ok a u=>rw[hm]at e;exact hf a u p t e
 |stop q r u=>rw[hm]at e;cases e;exact h _ _ _ hm
 |out=>rw[hm]at e;cases e
variable{b:Bool}{t:ByteArray}{x:cA}{k:Int}
theorem NZ.bif{m k:PM α}(h:NZ m)(hk:NZ k):NZ (bif b then m else k):=by cases b;exact hk;exact h
theorem NZ.ret{a:α}:NZ (ret a):=fun _ _ _ e=>by cases e
theorem NZ.out:NZ (aa8:PM α):=fun _ _ _ e=>by cases e
theorem NZ.fail{p e:Int}(h:e≠0):NZ (aht p e:PM α):=fun _ _ _ h'=>by cases h';exact h rfl
theorem NZ.get:NZ ie:=fun _ _ _ e=>by cases e
theorem NZ.set{s:aw}:NZ (lV s):=fun _ _ _ e=>by cases e
theorem NZ.step:NZ gA:=fun _ _ _ e=>by cases e
theorem NZ.node:NZ (eK x):=fun _ _ _ e=>by cases e
theorem NZ.fY:NZ (m9 L fin:PM α):=fun _ _ _ e=>by cases e
theorem NZ.cZ:NZ (eg L t):=by
 intro s p u e;unfold eg at e;grind
theorem NZ.cK:NZ (dn L fin t):=by
 intro s p u e;unfold dn at e;grind
theorem NZ.is{a:Nat}:NZ (th L a t):=fun _ _ _ e=>by cases e
theorem NZ.dj:NZ (ig L fin):=fun _ _ _ e=>by cases e
theorem NZ.pos:NZ (fJ k):=fun _ _ _ e=>by cases e
theorem NZ.o8:NZ (nt k b):=by
 intro s p u e;unfold nt at e;grind
theorem NZ.word:NZ (ly L fin):=by
 intro s p u e;unfold ly at e;grind
theorem NZ.yO:NZ (fy L fin):=by
 intro s p u e;unfold fy at e;grind
theorem NZ.key:NZ (eV L fin aL wide):=by
 intro s p u e;unfold eV at e;revert e;dsimp only;generalize ((aI L fin s).kind==1||(aI L fin s).kind==2)=a;generalize ((aI L fin s).kind==3)=b;generalize ((aI L fin s).kind==4)=c;cases a <;> cases b <;> cases c <;> (intro e;cases e)
theorem NZ.empty:NZ (nV L fin):=NZ.bind NZ.dj fun _=>NZ.node
theorem NZ.one{m:PM (List Int)}(h:NZ m):NZ (Go.Proofs.YtdkchodgklpomaaGreatDoor.one m):=NZ.bind h fun _=>NZ.ret
theorem NZ.bM:NZ (bM x):=NZ.bind NZ.node fun _=>NZ.ret
set_option maxHeartbeats 4000000 in
theorem aea:∀(f:Nat)(tag:ar),NZ (P L fin aL wide f tag):=by
 intro f
 induction f with
 |zero=>intro tag;rw[P];exact NZ.out
 |succ f ih=>
  intro tag;cases tag <;> rw[P]
  all_goals
   repeat (first
    |exact ih _
    |exact NZ.ret
    |exact NZ.get
    |exact NZ.set
    |exact NZ.step
    |exact NZ.node
    |exact NZ.fY
    |exact NZ.cZ
    |exact NZ.cK
    |exact NZ.is
    |exact NZ.dj
    |exact NZ.pos
    |exact NZ.o8
    |exact NZ.word
    |exact NZ.yO
    |exact NZ.key
    |exact NZ.empty
    |exact NZ.bM
    |exact NZ.fail (by decide)
    |apply NZ.one
    |apply NZ.bind
    |apply NZ.bif
    |intro _)
end
end
section
open Go
theorem afS(s:ByteArray):∀(f i:Nat)(aK:Bool),i<=s.size->(eG s f i aK).1<=s.size:=by
 intro f
 induction f with
 |zero=>intro i aK h;show(-1:Int)<=_;omega
 |succ f ih=>
  intro i aK h;rw[eG];cases hi:decide (i<s.size)with
  |false=>show(-1:Int)<=_;omega
  |true=>
   rw[bf];cases hn:eo s i with
   |none=>show(i:Int)<=_;omega
   |some cn=>
    obtain⟨c,n⟩:=cn;obtain⟨f1,f2,f3⟩:=pO hn;dsimp only;cases kX c with
    |true=>exact ih _ _ f1
    |false=>
     rw[aU];cases x6 c with
     |true=>exact ih _ _ f1
     |false=>
      rw[aU];cases ij s i [47,47]with
      |true=>
       rw[bf];have hl:=aap s (s.size+1) i h;grind
      |false=>
       rw[aU];cases ij s i [47,42]with
       |false=>show(-1:Int)<=_;omega
       |true=>
        rw[bf];cases hx:vV (s.extract (i+2) s.size) [42,47] (s.size+1) 0 with
        |none=>show(i:Int)<=_;omega
        |some k=>
         dsimp only;have h1:=Z2 _ _ _ _ _ hx;rw[jU]at h1;grind
theorem akH{num:Nat->Nat}{s:ByteArray}:∀(f i:Nat)(aK:Bool)(o:List bA),i<=s.size->(uM num s f i aK o).2<=s.size:=by
 intro f
 induction f with
 |zero=>intro i aK o h;show(0:Int)<=_;omega
 |succ f ih=>
  intro i aK o hi;rw[uM];have hb:=QM s (s.size+1) i aK hi;have ha:=afS s (s.size+1) i aK hi;rcases hB:eG s (s.size+1) i aK with⟨q,j,l⟩;rw[hB]at hb ha;dsimp only at hb ha⊢;cases hq:decide (q>=0)with
  |true=>exact ha
  |false=>
   rw[aU];cases hj:j==s.size with
   |true=>show(-1:Int)<=_;omega
   |false=>
    rw[aU];have hj:=ga.1 hj;rcases hO:il num s j l with⟨k,_|d⟩
    ·simp[*]
    ·have h2:=SR af hO;simp[*]
theorem ajY(n:Nat)(j:Nat):(uH n).count (j:Int)=if j<n then 1 else 0:=by
 unfold uH
 induction n with
 |zero=>rfl
 |succ n ih=>
  rw[List.range_succ,List.map_append,List.count_append,ih];grind
variable{src:ByteArray}{K:cj}{fin k:Int}{n:Nat}{s t:aw}{x:co}
theorem aob(h:bX fin t [k]):k=(t.nodes.length:Int)-1:=by
 have h1:=h.kf (List.mem_singleton.2 rfl);have h2:((t.nodes.length-1:Nat):Int)∈uH t.nodes.length:=by
  unfold uH;grind
 rcases List.mem_append.1 (h.wh.mem_iff.2 h2)with h3|h3
 ·obtain⟨d,hd,hk⟩:=List.mem_flatMap.1 h3;obtain⟨i,hi,rfl⟩:=List.getElem_of_mem hd;have:=(h.aF i _ (gv hi)).2 _ hk;omega
 grind
theorem aoa(h:bX fin t [k])(j:Nat)(hj:j<t.nodes.length):(t.nodes.flatMap (·.aF)).count (j:Int)=if j+1=t.nodes.length then 0 else 1:=by
 have h1:=h.wh.count_eq (j:Int);rw[List.count_append,ajY,if_pos hj,aob h,List.count_singleton]at h1;grind
theorem anq{L:List bA}{aL:Nat->ByteArray}{wide:ByteArray->ByteArray}:∀(f:Nat)(ks:List Int)(s:aw)(r:List Int)(t:aw),P L fin aL wide f (.prog ks) s= .ok r t->∃ms aF,t.nodes=ms++[⟨37,.empty,0,aF,0⟩]:=by
 intro f
 induction f with
 |zero=>intro ks s r t h;rw[P]at h;cases h
 |succ f ih=>
  intro ks s r t h;rw[P,mV]at h;cases hd:decide (s.i<L.length)with
  |true=>
   rw[hd,bf]at h;have h:cq (one (P L fin aL wide f (.cS true))) (fun k=>P L fin aL wide f (.prog (ks++[k]))) s= .ok r t:=h;unfold cq at h;grind
  |false=>
   rw[hd,aU,jx]at h;cases h;exact⟨_,_,rfl⟩
structure XY(fin:Int)(ns:List cA):Prop where
 one:1<=ns.length
 Rf:ns.length<=4096
 root:(ns[ns.length-1]?).map (·.kind)=some 37
 aF:∀(i:Nat)(d:cA),ns[i]?=some d->d.aF.Pairwise (·<·)/\(∀k∈d.aF,0<=k/\k<(i:Int))/\0<=d.pos/\d.pos<=fin
 tot:(ns.flatMap (·.aF)).length<=ns.length
 Yw:∀j,j<ns.length->(ns.flatMap (·.aF)).count (j:Int)=if j+1=ns.length then 0 else 1
theorem Yl(ns:List cA):qi ns=([],4)\/(qi ns=(ns,0)/\ns.length<=4096):=by
 unfold qi;grind
theorem anr(h:cx K x n s= .ok () t):∃ks,P x.L x.fin K.tv br n (.prog []) s= .ok ks t:=by
 have h:cq (P x.L x.fin K.tv br n (.prog [])) (fun _=>ret ()) s= .ok () t:=h;unfold cq at h;revert h;cases P x.L x.fin K.tv br n (.prog []) s with
 |ok a u=>intro h;cases h;exact⟨a,rfl⟩
 |stop p e u=>intro h;cases h
 |out=>intro h;cases h
theorem abk{p e:Int}(h:cx K x n s= .stop p e t):P x.L x.fin K.tv br n (.prog []) s= .stop p e t:=by
 have h:cq (P x.L x.fin K.tv br n (.prog [])) (fun _=>ret ()) s= .stop p e t:=h;unfold cq at h;revert h;cases P x.L x.fin K.tv br n (.prog []) s with
 |ok a u=>intro h;cases h
 |stop p e u=>intro h;cases h;rfl
 |out=>intro h;cases h
theorem anp(hK:oO K)(hs:src.size<=8192)(h:(cz cx K src (cO K src)).2.2≠0):(cz cx K src (cO K src)).1=[]/\0<=(cz cx K src (cO K src)).2.1/\(cz cx K src (cO K src)).2.1<=src.size:=by
 by_cases hb:vA K src
 ·rw[S5 hb];unfold j7;rw[bK (show ¬src.size>8192 by omega)];refine⟨rfl,?_,?_⟩
  ·rcases hb with hb|hb
   all_goals grind
  ·exact akH _ _ _ _ (dC _)
 ·rw[Lx hb]at h⊢;have hP:=hK.Lw hb;have hw:=abi (aL:=K.tv) (wide:=br) hP.dQ (cO K src);cases hr:cx K (m_ K src) (cO K src) fG with
  |out=>exact absurd hr S_
  |ok a t=>
   rw[hr]at h;dsimp only at h⊢;rcases Yl t.nodes with e| ⟨e,_⟩
   all_goals grind
  |stop p e t=>
   dsimp only;unfold WP at hw;rw[show P (m_ K src).L (m_ K src).fin K.tv br (cO K src) (.prog []) ⟨0,[],0,0,0⟩=_ from abk hr]at hw;exact⟨rfl,hw.1,hw.2⟩
theorem abj(hK:oO K)(h:(cz cx K src (cO K src)).2.2=0):XY src.size (cz cx K src (cO K src)).1:=by
 by_cases hb:vA K src
 ·rw[S5 hb]at h;exfalso;revert h;unfold j7;grind
 ·rw[Lx hb]at h⊢;have hP:=hK.Lw hb;have hw:=abi (aL:=K.tv) (wide:=br) hP.dQ (cO K src);cases hr:cx K (m_ K src) (cO K src) fG with
  |out=>exact absurd hr S_
  |stop p e t=>
   rw[hr]at h;have h:e=0:=h;subst h;exact absurd (abk hr) (aea _ _ _ _ _)
  |ok a t=>
   rw[hr]at h;dsimp only at h⊢;obtain⟨ks,xI⟩:=anr hr;unfold WP at hw;rw[show P (m_ K src).L (m_ K src).fin K.tv br (cO K src) (.prog []) ⟨0,[],0,0,0⟩=_ from xI]at hw;obtain⟨k,hF⟩:=hw;obtain⟨ms,aF,hm⟩:=anq _ _ _ _ _ xI;rcases Yl t.nodes with e| ⟨e,h4⟩
   ·grind
   rw[e];have hz:∀(i:Nat)(d:cA),t.nodes[i]?=some d->∀k∈d.aF,0<=k/\k<(i:Int):=fun i d hd k s9=>
    ⟨(Sn (hF.wh.mem_iff.1 (rC _ (List.mem_flatMap.2 ⟨d,oU hd,s9⟩)))).1,(hF.aF i d hd).2 k s9⟩
   refine⟨?_,h4,?_,fun i d hd=>⟨(hF.aF i d hd).1,hz i d hd,hF.pos d (oU hd)⟩,?_,aoa hF⟩
   ·simp[*]
   ·simp[*]
   ·have:=hF.wh.length_eq;rw[Z4,gi]at this;grind
end
section
open Go
def pi:aR where
 X:=my
 args x:=[aj x.src]
 cond x:=oO x.K
 aQ x F:=eT x.K F/\jA F
 val _ _:=az (ak true)
def rj(n:Nat)(pre:List Int)(sn:List Int):Prop:=sn.length=n/\pre.length<=n/\∀j,j<n->sn.getD j 0=(pre.count (j:Int):Int)
theorem rj.zero(n:Nat):rj n [] (List.replicate n 0):=by
 refine⟨List.length_replicate ..,dC _,fun j hj=>?_⟩;simp[*]
variable{pre:List Int}{n:Nat}
theorem rj.step{sn:List Int}{k:Int}(h:rj n pre sn)(h0:0<=k)(hk:k<n)(hl:pre.length+1<=n):rj n (pre++[k]) (sn.set k.toNat (sn.getD k.toNat 0+1)):=by
 obtain⟨h1,h2,h3⟩:=h;refine⟨by simp[*],by simp[*],fun j hj=>?_⟩;grind
theorem rj.kf{sn:List Int}(h:rj n pre sn){j:Nat}{m:Int}(hm:sn[j]?=some m):0<=m/\m<=n/\m=(pre.count (j:Int):Int):=by
 have hj:j<n:=by rw[<-h.1];grind
 have:=h.2.2 j hj;rw[fD,hm]at this;have this:m=(pre.count (j:Int):Int):=this;have h4:=List.count_le_length (a:=(j:Int)) (l:=pre);have:=h.2.1;omega
theorem ab9{ns:List cA}{i:Nat}{d:cA}(h:ns[i]?=some d):(ns.take (i+1)).flatMap (·.aF)=(ns.take i).flatMap (·.aF)++d.aF:=by
 rw[List.take_add_one,h,List.flatMap_append];simp
theorem apg(ns:List cA)(i:Nat):((ns.take i).flatMap (·.aF)).length<=(ns.flatMap (·.aF)).length:=by
 conv=>rhs;rw[<-List.take_append_drop i ns,List.flatMap_append,gi]
 omega
structure iK where
 ns:List cA
 y:fi
 b3:Nat
 bs:Nat
 sn:List Int
 i:Nat
 j:Nat
 d:cA
 a:Option Addr
 m:Nat
 cap:Nat
 x7:Int
 b9:Nat
structure vo(x:my)(d:iK):Prop where
 ns:d.ns=(cz cx x.K x.src (cO x.K x.src)).1
 e:(cz cx x.K x.src (cO x.K x.src)).2.2=0
 ok:d.y.ok d.ns
 kp:mZ d.ns d.y.vs
theorem vo.acg{x:my}{d:iK}(hK:oO x.K)(h:vo x d):XY x.src.size d.ns:=by rw[h.ns];exact abj hK h.e
structure Ja(d:iK):Prop where
 nd:d.ns[d.i]?=some d.d
 v:d.y.vs[d.i]?=some (.slice d.a d.m d.cap)
 src:mt 1 (bC d.d.aF) d.a d.m
 j:d.j<=d.m
 seen:rj d.ns.length ((d.ns.take d.i).flatMap (·.aF)++d.d.aF.take d.j) d.sn
 x7:∀k∈d.d.aF.drop d.j,d.x7<k
def wv(d:iK):Option Addr:=some ⟨d.b3,0,none⟩
def rP(d:iK):Option Addr:=some ⟨d.bs,0,none⟩
def zY(d:iK):List Value:=[au d.y.r.a d.y.r.n d.y.r.cap]
def MF(d:iK):List Value:=[ae d.d.kind,aj d.d.op,float f64 d.d.num,au d.a d.m d.cap,ae d.d.pos]
def Cm(d:iK):=ag d.bs (bC d.sn) 3
def Ii(d:iK):=ae d.ns.length
def VR(d:iK):=au (rP d) d.ns.length d.ns.length
def aoO(x:my)(F:ai):Nat->Option Inv:=fun
 |0=>some {X:=iK,P:=fun d=>vo x d/\d.i<=d.ns.length/\rj d.ns.length ((d.ns.take d.i).flatMap (·.aF)) d.sn,mu:=fun d=>d.ns.length-d.i,lv:=fun d=>[(0,aj x.src),(3,ah (wv d)),(6,Ii d),(7,VR d),(63,au d.y.r.a d.y.r.n d.y.r.cap),(64,Ii d),(65,ae d.i)],st:=fun d=>[F,d.y.r.A,gb d.ns d.y.vs,ag d.b3 (zY d) 25,Cm d]}
 |2=>some {X:=iK,gh:=some ⟨List cA×Nat,fun d=>(d.ns,d.i)⟩,P:=fun d=>vo x d/\Ja d,mu:=fun d=>d.m-d.j,lv:=fun d=>[(0,aj x.src),(3,ah (wv d)),(6,Ii d),(7,VR d),(63,au d.y.r.a d.y.r.n d.y.r.cap),(64,Ii d),(65,ae d.i),(8,ae d.i),(9,ah (some ⟨d.b9,0,none⟩)),(10,ae d.x7),(71,au d.a d.m d.cap),(72,ae d.m),(73,ae d.j)],st:=fun d=>[F,d.y.r.A,gb d.ns d.y.vs,ag d.b3 (zY d) 25,Cm d,ag d.b9 (MF d) 35]}
 |4=>some {X:=iK,P:=fun d=>vo x d/\rj d.ns.length (d.ns.flatMap (·.aF)) d.sn/\d.i+1<=d.ns.length,mu:=fun d=>d.ns.length-d.i,lv:=fun d=>[(6,Ii d),(7,VR d),(105,ae ((d.ns.length:Int)-1)),(106,ae d.i)],st:=fun d=>[F,d.y.r.A,gb d.ns d.y.vs,ag d.b3 (zY d) 25,Cm d]}
 |_=>none
def ex5(j:Nat):List LH:=[.ex j (.int .i64),.ex j .str,.ex j (.float .f64),.ex j .slice,.ex j (.int .i64)]
def CA(F:ai)(y:fi)(z:my)(w:Nat):=[(0,F),(11,y.r.A),(12,eD (Kf.rest (cz cx z.K z.src (cO z.K z.src)).fst y.vs)),(6060,ag w (pe y) 25)]
def Mg(x:my)(b:iK):=vo x b/\b.i<=b.ns.length/\rj b.ns.length (List.flatMap (fun(a:cA)=>a.aF) (List.take b.i b.ns)) b.sn
def yn(F:ai)(b:iK):=[(0,F),(1,b.y.r.A),(2,eD (Kf.rest b.ns b.y.vs)),(3,ag b.b3 (zY b) 25),(4,ag b.bs (bC b.sn) 3)]
def zU(F:ai)(a:iK):=[(0,F),(1,a.y.r.A),(2,eD (Kf.rest a.ns a.y.vs)),(3,ag a.b3 (zY a) 25),(4,ag a.bs (bC a.sn) 3),(5,ag a.b9 (MF a) 35)]
def Vh(f:iK):=(-9223372036854775808:Int)<=(f.i:Int)+1/\(f.i:Int)+1<=(9223372036854775807:Int)
def UM(r:iK):=(-9223372036854775808:Int)<=(r.ns.length:Int)-1/\(r.ns.length:Int)-1<=(9223372036854775807:Int)
def Ms(x:my)(b:iK):=vo x b/\rj b.ns.length (List.flatMap (fun(a:cA)=>a.aF) b.ns) b.sn/\b.i+1<=b.ns.length
theorem aoS(x:my)(F:ai)(hc:pi.cond x)(hr:pi.aQ x F):aC 6 qh/\true=true/\∃(B:OD),([]:List Value)=[]/\([]:List ai)=[]/\oO B.K/\(eT B.K (cX F)/\jA (cX F))/\∀(A:Unit),True->aP ((x.src.size:Int)>1500) (aq pi x F jv [(0,F)]) (JG [aj x.src] (cX F) (fun z y=>∀(w:Nat),ax w 0/\Br ((cz cx z.K z.src (cO z.K z.src)).snd.snd !=0) (ax w 0/\Br ((y.r.n:Int)==0) (aP ((cz cx z.K z.src (cO z.K z.src)).snd.fst>=0) (aq pi x F (az (ak (decide ((cz cx z.K z.src (cO z.K z.src)).snd.fst<=(x.src.size:Int))))) (CA F y z w)) (aq pi x F c7 (CA F y z w))) (aq pi x F c7 (CA F y z w))) (ax w 0/\aP ((y.r.n:Int)<1) (aq pi x F c7 (CA F y z w)) (aP ((y.r.n:Int)>4096) (aq pi x F c7 (CA F y z w)) (ax w 0/\((-9223372036854775808:Int)<=(y.r.n:Int)-1/\(y.r.n:Int)-1<=(9223372036854775807:Int))/\lF (a8 Tryz.f4 9 11) [au y.r.a y.r.n y.r.cap,ae ((y.r.n:Int)-1)] (fun v=>T1 y.r.A ⟨v.b,v.o+v.n.toNat*5,none⟩ (fun u=>Br (u !=37) (aq pi x F c7 (CA F y z w)) (JE (a8 Tryz.f4 11 1) [ae ↑y.r.n,ae ↑y.r.n] (fun t s=>ax w 0/\(∃(b:iK),Mg x b/\(aj x.src=aj x.src/\ah (bJ w)=ah (wv b)/\ae ↑y.r.n=ae ↑b.ns.length/\au (bJ s) t.n.toNat t.c.toNat=au (rP b) b.ns.length b.ns.length/\au y.r.a y.r.n y.r.cap=au b.y.r.a b.y.r.n b.y.r.cap/\ae ↑y.r.n=ae ↑b.ns.length/\ae 0=ae ↑b.i/\True)/\aD [(0,F),(11,y.r.A),(12,eD (Kf.rest (cz cx z.K z.src (cO z.K z.src)).fst y.vs)),(6060,ag w (pe y) 25),(12010,ag s (iI [ae 0] t.c.toNat) 3)] (yn F b))/\aS fun(r:iK)_=>Mg x r->aP ((r.i:Int)<(r.ns.length:Int)) (lF (a8 Tryz.f4 14 1) [au r.y.r.a r.y.r.n r.y.r.cap,ae ↑r.i] (fun p=>T1 r.y.r.A ⟨p.b,p.o+p.n.toNat*5,none⟩ (fun o=>T2 r.y.r.A ⟨p.b,p.o+p.n.toNat*5+1,none⟩ (fun n=>vt r.y.r.A ⟨p.b,p.o+p.n.toNat*5+2,none⟩ (fun m=>e8 r.y.r.A ⟨p.b,p.o+p.n.toNat*5+3,none⟩ (fun l k j=>T1 r.y.r.A ⟨p.b,p.o+p.n.toNat*5+4,none⟩ (fun i=>∀(h:Nat),cF h (ax h 3/\∃(g:List cA×Nat),(∃(a:iK),((vo x a/\Ja a)/\(a.ns,a.i)=g)/\(aj x.src=aj x.src/\ah (wv r)=ah (wv a)/\ae ↑r.ns.length=ae ↑a.ns.length/\au (rP r) r.ns.length r.ns.length=au (rP a) a.ns.length a.ns.length/\au r.y.r.a r.y.r.n r.y.r.cap=au a.y.r.a a.y.r.n a.y.r.cap/\ae ↑r.ns.length=ae ↑a.ns.length/\ae ↑r.i=ae ↑a.i/\ae ↑r.i=ae ↑a.i/\ah (bJ h)=ah (some ⟨a.b9,0,none⟩)/\ae (-1)=ae a.x7/\au l k j=au a.a a.m a.cap/\ae ↑k=ae ↑a.m/\ae 0=ae ↑a.j/\True)/\aD [(0,F),(1,r.y.r.A),(2,eD (Kf.rest r.ns r.y.vs)),(3,ag r.b3 (zY r) 25),(4,ag r.bs (bC r.sn) 3),(15030,ag h [ae o,aj n,float f64 m,au l k j,ae i] 35)] (zU F a))/\aS fun(f:iK)_=>((vo x f/\Ja f)/\(f.ns,f.i)=g)->aP ((f.j:Int)<(f.m:Int)) (kl (a8 Tryz.f4 18 0) [au f.a f.m f.cap,ae ↑f.j] (fun d=>T1 (eD (Kf.rest f.ns f.y.vs)) ⟨d.b,d.o+d.n.toNat*1,none⟩ (fun c=>aP (c<=f.x7) (aq pi x F c7 (zU F f)) (aP (c>=f.i) (aq pi x F c7 (zU F f)) ((0<=c/\c<f.ns.length)/\T1 (Cm f) ⟨f.bs,0+c.toNat*1,none⟩ (fun b=>dw b/\(0<=c/\c<f.ns.length)/\(dS ⟨f.bs,0+c.toNat*1,none⟩ f.bs/\0+c.toNat*1<(bC f.sn).length)/\((-9223372036854775808:Int)<=(f.j:Int)+1/\(f.j:Int)+1<=(9223372036854775807:Int))/\∃(a:iK),((vo x a/\Ja a)/\(a.ns,a.i)=g)/\(aj x.src=aj x.src/\ah (wv f)=ah (wv a)/\ae ↑f.ns.length=ae ↑a.ns.length/\au (rP f) f.ns.length f.ns.length=au (rP a) a.ns.length a.ns.length/\au f.y.r.a f.y.r.n f.y.r.cap=au a.y.r.a a.y.r.n a.y.r.cap/\ae ↑f.ns.length=ae ↑a.ns.length/\ae ↑f.i=ae ↑a.i/\ae ↑f.i=ae ↑a.i/\ah (some ⟨f.b9,0,none⟩)=ah (some ⟨a.b9,0,none⟩)/\ae c=ae a.x7/\au f.a f.m f.cap=au a.a a.m a.cap/\ae ↑f.m=ae ↑a.m/\ae ((f.j:Int)+1)=ae ↑a.j/\True)/\aD [(0,F),(1,f.y.r.A),(2,eD (Kf.rest f.ns f.y.vs)),(3,ag f.b3 (zY f) 25),(4,ag f.bs ((bC f.sn).set (0+c.toNat*1) (ae (b+1))) 3),(5,ag f.b9 (MF f) 35)] (zU F a)/\a.m-a.j<f.m-f.j)))))) (ax f.b9 4/\aP (f.d.pos<0) (aq pi x F c7 (zU F f)) (ax f.b9 4/\aP (f.d.pos>x.src.size) (aq pi x F c7 (zU F f)) (Vh f/\∃(b:iK),Mg x b/\(aj x.src=aj x.src/\ah (wv f)=ah (wv b)/\ae ↑f.ns.length=ae ↑b.ns.length/\au (rP f) f.ns.length f.ns.length=au (rP b) b.ns.length b.ns.length/\au f.y.r.a f.y.r.n f.y.r.cap=au b.y.r.a b.y.r.n b.y.r.cap/\ae ↑f.ns.length=ae ↑b.ns.length/\ae ((f.i:Int)+1)=ae ↑b.i/\True)/\aD (zU F f) (yn F b)/\b.ns.length-b.i<r.ns.length-r.i))))))))))) (UM r/\(∃(b:iK),Ms x b/\(ae ↑r.ns.length=ae ↑b.ns.length/\au (rP r) r.ns.length r.ns.length=au (rP b) b.ns.length b.ns.length/\ae ((r.ns.length:Int)-1)=ae ((b.ns.length:Int)-1)/\ae 0=ae ↑b.i/\True)/\aD (yn F r) (yn F b))/\aS fun(e:iK)_=>Ms x e->aP ((e.i:Int)<(e.ns.length:Int)-1) ((0<=(e.i:Int)/\(e.i:Int)<(e.ns.length:Int))/\T1 (Cm e) ⟨e.bs,0+(e.i:Int).toNat*1,none⟩ (fun c=>Br (c !=1) (aq pi x F c7 (yn F e)) (Vh e/\∃(b:iK),Ms x b/\(ae ↑e.ns.length=ae ↑b.ns.length/\au (rP e) e.ns.length e.ns.length=au (rP b) b.ns.length b.ns.length/\ae ((e.ns.length:Int)-1)=ae ((b.ns.length:Int)-1)/\ae ((e.i:Int)+1)=ae ↑b.i/\True)/\aD (yn F e) (yn F b)/\b.ns.length-b.i<e.ns.length-e.i))) (UM e/\(0<=(e.ns.length:Int)-1/\(e.ns.length:Int)-1<(e.ns.length:Int))/\T1 (Cm e) ⟨e.bs,0+((e.ns.length:Int)-1).toNat*1,none⟩ (fun a=>aq pi x F (az (ak (a==0))) (yn F e))))))))))))):=by
 delta cX jv JG pe CA dq c7 lF T1 JE Mg bJ wv rP zY yn T2 vt e8 MF zU kl Cm dw Vh UM Ms aH ax cF ae aj ak ah au ag eD aP az aS;obtain⟨K,src⟩:=x;replace hc:oO K:=hc;obtain⟨pM,kA⟩:=hr;have ZC:∀{S:St}{bF:List Nat},(0:Nat)∉bF->gt S 0=F->eT K (.dv (rest S bF))/\jA (.dv (rest S bF)):=fun h e=>⟨eT.sub pM (qN 0 h e),jA.sub kA (qN 0 h e)⟩;refine bp afA ⟨K⟩ hc (ZC aM rfl) fun _ _=>bl (fun h=>lJ) (fun jo=>?_);replace jo:¬(src.size:Int)>1500:=jo;refine bp ace ⟨K,src⟩ hc (ZC aM rfl) fun y hy b=>⟨ap,aG (fun he=>?_) (fun he=>?_)⟩
 ·dsimp only at hy he⊢;have BD:(cz cx K src (cO K src)).2.2≠0:=by grind
  obtain⟨e1,e2,e3⟩:=anp hc af BD;have hl:=hy.1.len;rw[e1]at hl;refine⟨ap,vD (by rw[hl];rfl) (vD (bG e2) ⟨(),ao,?_,aB [0]⟩)⟩;show returned (.bool (decide _))=returned (.bool true);simp[*]
 dsimp only at hy he⊢;have BD:(cz cx K src (cO K src)).2.2=0:=by grind
 have hT:=abj hc BD;obtain⟨hy,hk⟩:=hy;obtain⟨ns,R4⟩:∃ns,ns=(cz cx K src (cO K src)).1:=⟨_,rfl⟩;rw[<-R4]at hy hk hT⊢;have hl:=hy.len;have t1:=hT.one;have t2:=hT.Rf;obtain⟨rb,ha⟩:=hy.1.Bg af;obtain⟨dr,DU,KL⟩:=map_some hT.root;refine⟨ap,zn (bK af) (zn (bK af) ⟨ap,aJ,jp 5 rfl rfl rfl rfl,⟨rb,0,y.r.n,y.r.cap,(y.r.n:Int)-1⟩,by rw[ha],⟨by grind,by grind⟩,dr.kind,?_,zn (by simp[*]) (bV (Ed (P:=Tryz.prog) [.int .i64 0] 8 rfl rfl rfl rfl rfl rfl aM rfl) ⟨y.r.n,y.r.n⟩ ⟨by simp[*],by simp[*],by grind,by grind⟩ fun bs _=>⟨ap,⟨⟨ns,y,b,bs,List.replicate ns.length 0,0,0,dr,none,0,0,0,0⟩,⟨⟨R4,BD,hy,hk⟩,dC _,rj.zero _⟩,⟨rfl,rfl,?_,?_,rfl,?_,rfl,ao⟩,?_⟩,?_⟩)⟩)⟩
 ·rw[show((y.r.n:Int)-1).toNat=ns.length-1 by omega];exact ya (j:=0) hy ha DU fun v=>rfl
 ·simp[*]
 ·simp[*]
 ·simp[*]
 ·dsimp only;rw[show iI [.int .i64 0] (y.r.n:Int).toNat=bC (List.replicate ns.length 0) by rw[cB,acJ,hl]];exact aB [0,11,12,6060,12010]
 clear DU KL t1 t2 hl hT hy hk R4 ha he BD;rintro⟨ns,y,b,bs,sn,i,j0,d0,a0,m0,c0,l0,J4⟩ js ⟨hP,hi,hS⟩;have hT:=hP.acg hc;have hy:=hP.ok;have GO:=hP.kp;dsimp only at hT hy GO hi hS⊢;have hl:=hy.len;have t1:=hT.one;have t2:=hT.Rf;obtain⟨rb,ha⟩:=hy.1.Bg af;refine bl (fun bP=>?_) (fun jn=>⟨aJ,⟨⟨ns,y,b,bs,sn,0,j0,d0,a0,m0,c0,l0,J4⟩,⟨⟨hP.ns,hP.e,hy,GO⟩,?_,af⟩,aV,aB [0,1,2,3,4]⟩,?_⟩)
 ·obtain⟨d,hd⟩:∃d,ns[i]?=some d:=⟨_,gv af⟩;obtain⟨a,m,cap,hv,hs,hm,lk⟩:=aaL hy GO ha hd;have KK:=hT.aF i d hd;refine⟨jp 5 rfl rfl rfl rfl,⟨rb,0,y.r.n,y.r.cap,i⟩,by rw[ha],⟨by simp[*],by simp[*]⟩,d.kind,ya (j:=0) hy ha hd (fun v=>rfl),d.op,ya (j:=1) hy ha hd (fun v=>rfl),d.num,ya (j:=2) hy ha hd (fun v=>rfl),a,m,cap,lk,d.pos,ya (j:=4) hy ha hd (fun v=>rfl),fun b9=>⟨ap,ap,ap,ap,ap,ap,(ns,i),⟨⟨ns,y,b,bs,sn,i,0,d,a,m,cap,-1,b9⟩,⟨⟨⟨hP.ns,hP.e,hy,GO⟩,⟨hd,hv,hs,dC _,?_,?_⟩⟩,rfl⟩,aV,aB [0,1,2,3,4,15030]⟩,?_⟩⟩
  ·simp[*]
  ·grind
  clear hS hP lk hv hs hm KK hd;rintro⟨ns2,y2,b2,Yg,Oa,i2,j,d,a,m,cap,x7,b9⟩ js ⟨⟨hP,hq⟩,e2⟩;dsimp only at e2;cases e2;obtain⟨q1,q2,q3,q4,q5,q6⟩:=hq;have nk:=hP.ok;have RT:=hP.kp;dsimp only at q1 q2 q3 q4 q5 q6 nk RT⊢;have KK:=hT.aF i d q1;have n_:d.aF.length=m:=by
   have:=q3.len;unfold bC at this;grind
  have arK:((ns.take i).flatMap (·.aF)).length+d.aF.length<=ns.length:=by
   have h1:=apg ns (i+1);rw[ab9 q1,gi]at h1;have:=hT.tot;omega
  refine bl (fun ai3=>?_) (fun ZB=>⟨ap,zn (bK af) ⟨ap,zn (bK af) ⟨aJ,⟨ns,y2,b2,Yg,Oa,i+1,j0,d0,a0,m0,c0,l0,J4⟩,⟨⟨hP.ns,hP.e,nk,RT⟩,by grind,?_⟩,aV,aB [0,1,2,3,4],by grind⟩⟩⟩)
  ·obtain⟨b',o',rfl⟩:=q3.some af;obtain⟨k,xH⟩:∃k,d.aF[j]?=some k:=⟨_,gv af⟩;have KL:=KK.2.1 k (oU xH);have DU:d.aF.drop j=k::d.aF.drop (j+1):=by
    obtain⟨s_,rfl⟩:=mG.1 xH;simp[*]
   have KN:=q6 k (by simp[*]);obtain⟨v,hv⟩:∃v,Oa[k.toNat]?=some v:=⟨_,gv (by rw[q5.1];omega)⟩;have KZ:=q5.kf hv;have htk:d.aF.take (j+1)=d.aF.take j++[k]:=by grind
   have htl:(d.aF.take j).length=j:=by simp[*]
   have R8:∀k'∈d.aF.drop (j+1),k<k':=by
    have:=KK.1.drop (i:=j);rw[DU]at this;exact(List.pairwise_cons.1 this).1
   refine⟨jp 1 rfl rfl rfl rfl,⟨b',o',m,cap,j⟩,rfl,⟨by simp[*],af⟩,k,?_,zn (bK af) (zn (bK af) ⟨aJ,v,aO.cells (G7 (by simp[*])),aJ,aJ,⟨ap,?_⟩,aJ,⟨ns,y2,b2,Yg,Oa.set k.toNat (v+1),i,j+1,d,some ⟨b',o',none⟩,m,cap,k,b9⟩,⟨⟨⟨hP.ns,hP.e,nk,RT⟩,⟨q1,q2,q3,by grind,?_,R8⟩⟩,rfl⟩,aV,?_,by grind⟩)⟩
   ·rw[cB,Nat.mul_one];exact Sw q1 q2 xH
   ·unfold bC;grind
   ·dsimp only;rw[htk,<-lI];have hg:Oa.getD k.toNat 0=v:=by simp[*]
    have:=q5.step KL.1 af (by grind);grind
   ·dsimp only;rw[jk,Nat.mul_one,Z7];exact aB [0,1,2,3,4,5]
  ·dsimp only;rw[List.take_of_length_le (l:=d.aF) af]at q5;rw[ab9 q1];exact q5
 ·grind
 clear hS hP hi hy GO hT hl t1 t2 ha;rintro⟨ns,y,b,bs,sn,i,j0,d0,a0,m0,c0,l0,J4⟩ js ⟨hP,hS,hi⟩;have hT:=hP.acg hc;have t2:=hT.Rf;dsimp only at hT hS hi t2⊢;refine bl (fun bP=>?_) (fun jn=>?_)
 ·obtain⟨v,hv⟩:∃v,sn[i]?=some v:=⟨_,gv (by rw[hS.1];omega)⟩;have KZ:=(hS.kf hv).2.2;rw[hT.Yw i af,if_neg af]at KZ;exact⟨aJ,v,aO.cells (by rw[cB];exact G7 (by simp[*])),zn (by simp[*]) ⟨aJ,⟨ns,y,b,bs,sn,i+1,j0,d0,a0,m0,c0,l0,J4⟩,⟨⟨hP.ns,hP.e,hP.ok,hP.kp⟩,hS,by grind⟩,aV,aB [0,1,2,3,4],by grind⟩⟩
 ·obtain⟨v,hv⟩:∃v,sn[ns.length-1]?=some v:=⟨_,gv (by rw[hS.1];omega)⟩;have KZ:=(hS.kf hv).2.2;rw[hT.Yw (ns.length-1) af,if_pos af]at KZ;refine⟨aJ,aJ,v,aO.cells (G7 (by rw[jk,Nat.mul_one,show((ns.length:Int)-1).toNat=ns.length-1 by omega];exact hv)),(),ao,?_,aB [0]⟩;show returned (.bool (v==0))=returned (.bool true);simp[*]
theorem aoR:aC 4 pi:=fo 121 Tryz.func4 (fun _ _=>[(1,0,aX qh),(5,1,.c (qO cx) [] [11,12]),(5,6,.n 6060),(5,7,.w [.z00 6060]),(7,1,aT 6060),(8,1,aT 6060),(9,8,aT 6060),(9,11,.qo (h_ 5)),(9,13,.q [.ex 11 (.int .i64)]),(11,1,.o (wc 3 [.int .i64 0] 8) [] [12010]),(12,1,aT 6060),(14,1,.qo (h_ 5)),(14,2,.q (ex5 1)),(14,3,.n 15030),(14,5,.w (eF 15030)),(16,1,aT 15030),(18,0,.qo (h_ 1)),(18,1,.q [.ex 2 (.int .i64)]),(22,3,.q [.ex 4 (.int .i64)]),(22,6,.w [.ex 4 .any]),(24,1,aT 5),(24,5,aT 5),(30,3,.q [.ex 4 (.int .i64)]),(33,4,.q [.ex 4 (.int .i64)])]) [] aoO aY bz [] aoS
end
section
open Go Go.ChangeShapes Go.WideShapes Go.ChangeAt Go.RowKit Go.ChangeMaps
theorem aoT(os:Os)(II:os.Started)(H:Type)(g_:TypeId×Value->H):
  ReturnsInHanded {} Tryz.checked os 4 .any (fun w args=>(Rows.parseShapeSpec.pre g_ Tryz.prog Tryz.f4 [] false w args/\laidMetH Tryz.prog Rows.parseShapeRow.laid w)/\sizedMet g_ Tryz.prog Tryz.f4 (OpenSpec.ofChange Rows.parseShapeSpec) false w args)
   (Rows.parseShapeSpec.post g_ Tryz.prog Tryz.f4 false true false false):=by
 refine an1 (C:=Tryz.checked) (X:=fun w=>laidMetH Tryz.prog Rows.parseShapeRow.laid w) (fun _ _ hh h=>h.of_heap hh) ao6 II bh Tryz.func4
  (ChangeSpec.witness_shaped (enc:=g_) (C:=Tryz.checked) (os:=os) (X:=fun w _=>laidMetH Tryz.prog Rows.parseShapeRow.laid w) false (World.laidAll Tryz.prog os Rows.parseShapeRow.laid) #[.string .empty] 8 (World.laidAll_os _ _ _)
   (World.shaped_of_ZipB bh bh) bh bh bh
   (by rw[MakeChecks.laidMetH_plain _ _ _ bh];exact laidMet_laidAll _ bh bh)) ?_
 intro W uw args ds gs xu Sg hW hS hwt hL;have hW':=hW;obtain⟨p,q,hA,hV,rfl,_,_⟩:=hW;obtain⟨rfl,rfl⟩:=trodVars_none hV;have KR:Tryz.f4.params=#[9]:=bh;rw[MakeChecks.laidMetH_plain _ _ _ bh]at hL;have hR:=ah8 hL hS;have hA:DataW.TrodAll g_ Tryz.prog W 0 (fun _=>true) true [9] args.toList ds p:=by
  have:=hA;rw[KR]at this;exact this
 have hv:∀(j:Nat)t v,([9]:List TypeId)[j]?=some t->args[j]?=some v->Value.okWide Tryz.prog W .any uw t v:=fun j t v h=>Sg j t v (by rw[KR,<-Array.getElem?_toList];exact h);obtain⟨v0,d0,rfl,rfl,t0⟩:=trodAll_one hA;obtain⟨s,rfl,rfl,rfl,z⟩:=open_string bh (hv 0 _ _ rfl rfl) t0;refine(entry aoR ⟨QW,s⟩ W rfl kOk hR).mono ?_;rintro e w' ⟨⟨_,_,rfl⟩,hk⟩;exact⟨_,rfl,am2 ao3 hW' rfl rfl hk (tb:=4) bh bh bh⟩
theorem aoU:Rows.ParseShapeSaid:=
 OpenClaim.holds_of_wide 4 Tryz.f4 rfl rfl rfl rfl rfl rfl rfl ⟨rfl,rfl,rfl,rfl,rfl⟩ rfl rfl rfl rfl rfl bh Tryz.func4 bh
  (l7 bh) (by unfold Func.isWrapper;first| (rw[if_pos (by decide+kernel)];kernel_rfl)| (rw[if_neg (by decide+kernel)];exact⟨rfl,rfl⟩))
  (fun os II H g_ _=>aoT os II H g_)
theorem shape_holds:Rows.ParseShapeCardSaid:=
 Claim7.holds_tied_plain_at .later [] [.data,.data,.widerDeep,.widerDeep,.data,.data,.data,.data,.data,.data,.sentinel,.sentinel,.widerDeep,.widerDeep,.widerDeep,.pinned,.pinned,.pinned] true (true,"4f0dfc1f908ff48b448c1f523d82cbed67c888fdffb4e66fea6a868615751529") true
  aoU (fun _ h=>by cases h) bh (fun _ h=>by cases h) parseShape_row_tie rfl ⟨rfl,rfl⟩ bh rfl
  (fun f fn hf RO=>by
   obtain rfl:f=4:=Option.some.inj ((show Tryz.prog.funcNamed "pennant/pennantlaw06.ParseShape"=some 4 by kernel_rfl).symm.trans hf) |>.symm;obtain rfl:fn=Tryz.f4:=(Option.some.inj (Tryz.func4.symm.trans RO)).symm;have KR:Tryz.f4.params=#[9]:=by kernel_rfl
   exact⟨bh,fun j t ht=>by
    rw[KR]at ht;have hm:t∈[9]:=by simpa using Array.mem_of_getElem? ht
    have sW:([9].all fun u=> !Tryz.prog.wantsStandIn u)=true:=by kernel_rfl
    exact(show Tryz.prog.wantsStandIn t=false by simpa using List.all_eq_true.1 sW t hm)⟩)
  bh
end
end Go.Proofs.YtdkchodgklpomaaGreatDoor
#print axioms Go.Proofs.YtdkchodgklpomaaGreatDoor.shape_holds
