/- Part of the proof that ParseShape answers true at every input. -/
import Derived.Test.YtdkchodgklpomaaGreatDoorPSan
set_option linter.all false
namespace Go.Proofs.YtdkchodgklpomaaGreatDoor
set_option maxRecDepth 100000
open Go.Value (int slice string bool pointer agg tuple func float iface nilIface)
open Go.IntKind (i64 u8 u64 i32 u32 u16 i8 i16)
open Go.FloatKind (f64)
open Go.Ending (returned panicked)
section
open Go
theorem BX:bv 3 1 (bC []) dF:=.nil rfl
def anF(x:bg Int)(_F:ai):List (Nat×Nat×OH):=[(1,2,.n 2020),(1,3,.w (eF 2020)),(2,1,aT 2020),(2,3,bq (cG x.n 30)),(2,4,.n 3040),(2,5,.o (dt 3 1 8) [999] [998]),(2,7,.w [.z00 2020]),(3,1,bq ja),(4,1,bq jd),(5,1,bq wS),(5,3,.w [.z00 2020]),(6,1,bq jd),(7,1,aT 2020),(7,4,.w [.z00 2020]),(8,1,aT 2020),(8,3,bq (cG x.n 30)),(8,4,.n 9040),(8,5,.o (dt 3 1 8) [998] [998]),(8,7,.w [.z00 2020]),
 (9,1,aT 2020),(9,5,aX hZ),(10,1,aX mD),(11,1,bq ja),(12,1,aT 2020),(12,4,.w [.z00 2020]),(13,1,aT 2020),(13,3,bq (cG x.n 30)),(13,4,.n 14040),(13,5,.o (dt 3 1 8) [998] [998]),(13,7,.w [.z00 2020]),(14,1,.q (eF 2020)),(14,2,.c fR [0,998] [0])]
def Ct(x:bg Int):List Value:=[ah (cD x),ak false]
def MT(x:bg Int):List Value:=[ae 32,aj ⟨#[]⟩,float f64 0,au none 0 0,ae x.t]
def Aa(A:Nat):List Value:=[au none 0 0,au (bJ A) 1 1]
def yB(y:Row)(x:bg Int):List Value:=[ae 32,aj ⟨#[]⟩,float f64 0,au y.a y.n y.cap,ae x.t]
def V6(s:kN)(y:Row)(x:bg Int):List Value:=[ae 32,aj (aI s.x.L s.x.fin s.s).text,float f64 0,au y.a y.n y.cap,ae x.t]
def CC(s:kN)(y:Row)(x:bg Int):List Value:=[ae 32,aj (aI s.x.L s.x.fin s.s).text,float f64 4607182418800017408,au y.a y.n y.cap,ae x.t]
def Eu(s:kN)(k:Row)(x:bg Int):List Value:=[ae 32,aj (aI s.x.L s.x.fin s.s).text,float f64 4613937818241073152,au k.a k.n k.cap,ae x.t]
def HF(w:jB)(F:ai)(y:Row)(D:Nat)(x:bg Int)(A:Nat)(B:Int×aw):=[(0,al w.x w.s),(1,F),(998,y.A),(999,ba),(2020,ag D (yB y x) 35),(3040,ag A (bU B) 3)]
def Ew(y:Row)(x:bg Int):List Value:=[ae 32,aj ⟨#[]⟩,float f64 4611686018427387904,au y.a y.n y.cap,ae x.t]
theorem anH(x:bg Int)(F:ai)(hc:aR.cond (bk (fun(p:Int)=>ar.eQ p)) x)(hr:aR.aQ (bk (fun(p:Int)=>ar.eQ p)) x F):∀(D:Nat),cF D (true=true/\ax D 3/\cw x.n 30 (Ct x) [al x.x x.s] (aH [(0,al x.x x.s),(1,F),(2020,ag D (MT x) 35)] [0]) (fun C B=>∀(A:Nat),fQ (a8 Tryz.f47 2 5) (Aa A) [ba] (aH [(0,al C.x B.snd),(1,F),(2020,ag D (MT x) 35),(3040,ag A (bU B) 3)] [999]) (fun z y=>ax D 3/\fX [ah (cD x),aj ⟨#[99,97,116,99,104]⟩] [al C.x B.snd] (aH [(0,al C.x B.snd),(1,F),(998,y.A),(999,ba),(2020,ag D (yB y x) 35),(3040,ag A (bU B) 3)] [0]) (fun w v=>gD [ah (cD x),aj ⟨#[40]⟩] [al w.x w.s.ay] (aH [(0,al w.x w.s.ay),(1,F),(998,y.A),(999,ba),(2020,ag D (yB y x) 35),(3040,ag A (bU B) 3)] [0]) (fun u t=>A8 (kJ x) [al u.x u.s.ay] (aH [(0,al u.x u.s.ay),(1,F),(998,y.A),(999,ba),(2020,ag D (yB y x) 35),(3040,ag A (bU B) 3)] [0]) (fun s r=>ax D 1/\gD (Cu x) [al s.x s.s.ay] (aH [(0,al s.x s.s.ay),(1,F),(998,y.A),(999,ba),(2020,ag D (V6 s y x) 35),(3040,ag A (bU B) 3)] [0]) (fun q p=>ax D 2/\ax D 2/\true=true/\ax D 3/\cw x.n 30 (Ct x) [al q.x q.s.ay] (aH [(0,al q.x q.s.ay),(1,F),(998,y.A),(999,ba),(2020,ag D (CC s y x) 35),(3040,ag A (bU B) 3)] [0]) (fun o n=>∀(m:Nat),fQ (a8 Tryz.f47 8 5) (wu y m) [y.A] (aH [(0,al o.x n.snd),(1,F),(998,y.A),(999,ba),(2020,ag D (CC s y x) 35),(3040,ag A (bU B) 3),(9040,ag m (bU n) 3)] [998]) (fun l k=>ax D 3/\ax D 2/\fX [ah (cD x),aj ⟨#[102,105,110,97,108,108,121]⟩] [al o.x n.snd] (aH [(0,al o.x n.snd),(1,F),(998,k.A),(999,ba),(2020,ag D (CC s k x) 35),(3040,ag A (bU B) 3),(9040,ag m (bU n) 3)] [0]) (fun j i=>ax D 2/\ax D 2/\true=true/\ax D 3/\cw x.n 30 (Ct x) [al j.x j.s.ay] (aH [(0,al j.x j.s.ay),(1,F),(998,k.A),(999,ba),(2020,ag D (Eu s k x) 35),(3040,ag A (bU B) 3),(9040,ag m (bU n) 3)] [0]) (fun h g=>∀(f:Nat),fQ (a8 Tryz.f47 13 5) (wu k f) [k.A] (aH [(0,al h.x g.snd),(1,F),(998,k.A),(999,ba),(2020,ag D (Eu s k x) 35),(3040,ag A (bU B) 3),(9040,ag m (bU n) 3),(14040,ag f (bU g) 3)] [998]) (fun e d=>ax D 3/\cF D (dc [ah (cD x),agg ⟨Eu s d x⟩] [al h.x g.snd,d.A] (fun c b=>aq (bk fun(a:Int)=>ar.eQ a) x F (fK c) [(0,al c.x (c.s.add c.n)),(1,F),(998,ba),(999,ba),(2020,ag D (Eu s d x) 35),(3040,ag A (bU B) 3),(9040,ag m (bU n) 3),(14040,ag f (bU g) 3)])))) (fun h c=>∀(b:Tm),aq (bk fun(a:Int)=>ar.eQ a) x F (ci c) [(0,ba),(1,F),(998,k.A),(999,ba),(2020,ag D (Eu s k x) 35),(3040,ag A (bU B) 3),(9040,ag m (bU n) 3)])) (fun j d=>cF D (dc [ah (cD x),agg ⟨CC s k x⟩] [al j.x j.s,k.A] (fun c b=>aq (bk fun(a:Int)=>ar.eQ a) x F (fK c) [(0,al c.x (c.s.add c.n)),(1,F),(998,ba),(999,ba),(2020,ag D (CC s k x) 35),(3040,ag A (bU B) 3),(9040,ag m (bU n) 3)]))))) (fun o c=>∀(b:Tm),aq (bk fun(a:Int)=>ar.eQ a) x F (ci c) [(0,ba),(1,F),(998,y.A),(999,ba),(2020,ag D (CC s y x) 35),(3040,ag A (bU B) 3)])) (fun q b=>aq (bk fun(a:Int)=>ar.eQ a) x F (gO q) [(0,ba),(1,F),(998,y.A),(999,ba),(2020,ag D (V6 s y x) 35),(3040,ag A (bU B) 3)])) (fun s b=>aq (bk fun(a:Int)=>ar.eQ a) x F (Cq s) [(0,ba),(1,F),(998,y.A),(999,ba),(2020,ag D (yB y x) 35),(3040,ag A (bU B) 3)])) (fun u b=>aq (bk fun(a:Int)=>ar.eQ a) x F (gO u) [(0,ba),(1,F),(998,y.A),(999,ba),(2020,ag D (yB y x) 35),(3040,ag A (bU B) 3)])) (fun w m=>ax D 2/\gW [ah (cD x),ae 0,aj ⟨#[102,105,110,97,108,108,121]⟩] (aH (HF w F y D x A B) []) (fun l k=>Br (!jb l.p.L (l.p.i+l.a) l.t) (l6 (kJ x) (aH (HF w F y D x A B) []) (fun c b=>aq (bk fun(a:Int)=>ar.eQ a) x F (kG c) (HF w F y D x A B))) (fX [ah (cD x),aj ⟨#[102,105,110,97,108,108,121]⟩] [al w.x w.s] (aH (HF w F y D x A B) [0]) (fun j i=>ax D 2/\ax D 2/\true=true/\ax D 3/\cw x.n 30 (Ct x) [al j.x j.s.ay] (aH [(0,al j.x j.s.ay),(1,F),(998,y.A),(999,ba),(2020,ag D (Ew y x) 35),(3040,ag A (bU B) 3)] [0]) (fun h g=>∀(f:Nat),fQ (a8 Tryz.f47 13 5) (wu y f) [y.A] (aH [(0,al h.x g.snd),(1,F),(998,y.A),(999,ba),(2020,ag D (Ew y x) 35),(3040,ag A (bU B) 3),(14040,ag f (bU g) 3)] [998]) (fun e d=>ax D 3/\cF D (dc [ah (cD x),agg ⟨Ew d x⟩] [al h.x g.snd,d.A] (fun c b=>aq (bk fun(a:Int)=>ar.eQ a) x F (fK c) [(0,al c.x (c.s.add c.n)),(1,F),(998,ba),(999,ba),(2020,ag D (Ew d x) 35),(3040,ag A (bU B) 3),(14040,ag f (bU g) 3)])))) (fun h c=>∀(b:Tm),aq (bk fun(a:Int)=>ar.eQ a) x F (ci c) [(0,ba),(1,F),(998,y.A),(999,ba),(2020,ag D (Ew y x) 35),(3040,ag A (bU B) 3)])) (fun j d=>cF D (dc [ah (cD x),agg ⟨yB y x⟩] [al j.x j.s,y.A] (fun c b=>aq (bk fun(a:Int)=>ar.eQ a) x F (fK c) [(0,al c.x (c.s.add c.n)),(1,F),(998,ba),(999,ba),(2020,ag D (yB y x) 35),(3040,ag A (bU B) 3)])))))))) (fun C c=>∀(b:Tm),aq (bk fun(a:Int)=>ar.eQ a) x F (ci c) [(0,ba),(1,F),(2020,ag D (MT x) 35)])):=by
 delta cw cD Ct MT mg fQ bJ Aa bU j_ fX yB gD oA nC A8 kJ Cu V6 CC wu Eu lR lS dc lm fK ci gO Cq rT rU gW HF je l6 kG Ew dK aH al ax cF ae aj ak ah au ag ba az;obtain⟨K,x,s,os,n,tp⟩:=x;obtain⟨ih,hK,hG,hp,dP,cJ,ho⟩:=hc;replace hr:cI K x F:=hr;replace ho:bo K x (n+1) (.eQ tp) s≠.out:=ho;dsimp only at ih hK hG hp dP cJ⊢;obtain⟨r,e0⟩:∃r,bo K x (n+1) (.eQ tp) s=r:=⟨_,rfl⟩;rw[e0]at ho;have hk:=e0;unfold bo at hk;rw[P]at hk;have hl:=hK.len;intro c
 repeat (refine⟨ap,?_⟩)
 refine⟨rfl,ap,?_⟩;refine ca hG (fL hk ho) (fun b t1 hk g1 gJ gL gH gK gF gS=>?_) (cL:=ao) (cC:=ao) (cU:=ao);dsimp only[ar.sl,aw.ay,aw.add]at gJ gL gH gK gF gS;intro lb;refine mz (ks:=[]) (k:=b) 3040 BX (by simp only[gi,xA,List.length_nil];omega) (fun r2 h2=>?_);refine⟨ap,?_⟩;refine bp kV ⟨x,t1,ab7⟩ ⟨hl,g1.i⟩ (hr.ls.sub (b_ 1)) ⟨fun _ q=>?_,fun _ q=>?_⟩
 ·rw[ml q,bf,eZ]at hk;have g2:=g1.is q;refine ma g2 hk (fun hk g3=>?_);rw[eZ]at hk;refine bp Ox ⟨x,t1.ay.ay⟩ hl (hr.ls.sub (b_ 1)) ⟨fun _ q=>?_,fun _ q=>⟨.inr (_,_),⟨_,e0.trans (hk.symm.trans (Of q))⟩,rfl,aB [1]⟩⟩;rw[Og q,eZ]at hk;have hi:t1.ay.ay.i<x.L.length:=xG (fin:=x.fin) (fun e=>by rw[e]at q;cases q);have g4:=g3.step hi;refine⟨ap,?_⟩;refine ma g4 hk (fun hk g5=>?_);rw[eZ]at hk;refine⟨ap,ap,rfl,ap,?_⟩;refine ca g5 (fL hk ho) (fun c2 t2 hk g6 ig6 ng6 fg6 lg6 bg6 vg6=>?_) (cL:=ao) (cC:=ao) (cU:=ao);dsimp only[ar.sl,aw.ay,aw.add]at ig6 ng6 fg6 lg6 bg6 vg6;rw[jf]at hk;dsimp only at hk;rw[mV]at hk;simp only[Bool.not_true,nh,aU]at hk;rw[jf]at hk;intro uK;have jV:bv 3 1 (bC [b]) r2:=h2;refine bp (kP 1 8 rfl rfl rfl rfl rfl rfl rfl (by decide)) ⟨r2,bC [b],some ⟨uK,0,none⟩,1,1,bC [c2]⟩ ⟨jV,rfl,xZ _,yH jV aM,yI jV aM,fun h=>nomatch h⟩ (yN 9040 rfl) fun r3 h3=>?_;replace h3:bv 3 1 (bC ([b]++[c2])) r3:=by rw[xY];exact h3.1
  refine⟨ap,ap,?_⟩;refine bp kV ⟨x,t2,tU⟩ ⟨hl,g6.i⟩ (hr.ls.sub (b_ 1)) ⟨fun _ q=>?_,fun _ q=>?_⟩
  ·rw[ml q,bf]at hk;have g7:=g6.is q;refine⟨ap,ap,rfl,ap,?_⟩;refine ca g7 (CF hk ho) (fun c3 t3 hk g8 Sp SK Ri SC QK W7=>?_) (cL:=ao) (cC:=ao) (cU:=ao);dsimp only[ar.sl,aw.ay,aw.add]at Sp SK Ri SC QK W7;rw[jx]at hk;intro Ha;refine bp (kP 1 8 rfl rfl rfl rfl rfl rfl rfl (by decide)) ⟨r3,bC ([b]++[c2]),some ⟨Ha,0,none⟩,1,1,bC [c3]⟩ ⟨h3,rfl,xZ _,yH h3 aM,yI h3 aM,fun h=>nomatch h⟩ (yN 14040 rfl) fun r4 h4=>?_;replace h4:bv 3 1 (bC ([b]++[c2]++[c3])) r4:=by rw[xY];exact h4.1
   repeat (refine⟨ap,?_⟩)
   refine bV fv ⟨x,t3,⟨34-2,(aI x.L x.fin t1.ay.ay).text,CT,[b]++[c2]++[c3],tp⟩,r4⟩ ⟨by have:=g8.cap hl;dsimp only[aw.ay,aw.add]at*;omega,h4⟩ fun _ _=>?_;exact eH (e0.trans hk.symm)
  ·rw[mW q,aU,jf,jx]at hk
   repeat (refine⟨ap,?_⟩)
   refine bV fv ⟨x,t2,⟨34-2,(aI x.L x.fin t1.ay.ay).text,ox,[b]++[c2]++[],tp⟩,r3⟩ ⟨by have:=g6.cap hl;dsimp only[aw.ay,aw.add]at*;omega,h3⟩ fun _ _=>?_;exact eH (e0.trans hk.symm)
 ·rw[mW q,aU,jf]at hk;dsimp only at hk;rw[mV]at hk;simp only[Bool.not_false,Bool.true_and,aU]at hk;refine⟨ap,?_⟩;refine bp kY ⟨x.p t1,0,tU⟩ ⟨hl,by have:=g1.i;show t1.i<=1048576;omega,bd⟩ (hr.ls.di 0 1 aM aM rfl rfl) fun _ _=>?_;refine aG (fun h=>?_) (fun h=>?_)
  ·rw[show(!bE x.L t1 0 tU)=true from h,bf,IE]at hk;exact bp ru (x.p t1) hl (hr.ls.di 0 1 aM aM rfl rfl) fun _ _=>⟨.inr (_,_),⟨_,e0.trans hk.symm⟩,rfl,aB [1]⟩
  rw[show(!bE x.L t1 0 tU)=false from h,aU,jf]at hk;refine bp kV ⟨x,t1,tU⟩ ⟨hl,g1.i⟩ (hr.ls.sub (b_ 1)) ⟨fun _ q=>?_,fun _ q=>?_⟩
  ·rw[ml q,bf]at hk;have g7:=g1.is q;refine⟨ap,ap,rfl,ap,?_⟩;refine ca g7 (CF hk ho) (fun c3 t3 hk g8 Sp SK Ri SC QK W7=>?_) (cL:=ao) (cC:=ao) (cU:=ao);dsimp only[ar.sl,aw.ay,aw.add]at Sp SK Ri SC QK W7;rw[jx]at hk;intro Ha;have jV:bv 3 1 (bC [b]) r2:=h2;refine bp (kP 1 8 rfl rfl rfl rfl rfl rfl rfl (by decide)) ⟨r2,bC [b],some ⟨Ha,0,none⟩,1,1,bC [c3]⟩ ⟨jV,rfl,xZ _,yH jV aM,yI jV aM,fun h=>nomatch h⟩ (yN 14040 rfl) fun r4 h4=>?_;replace h4:bv 3 1 (bC ([b]++[]++[c3])) r4:=by rw[dJ,xY];exact h4.1
   repeat (refine⟨ap,?_⟩)
   refine bV fv ⟨x,t3,⟨34-2,.empty,CU,[b]++[]++[c3],tp⟩,r4⟩ ⟨by have:=g8.cap hl;dsimp only[aw.ay,aw.add]at*;omega,h4⟩ fun _ _=>?_;exact eH (e0.trans hk.symm)
  ·have q2:bE x.L t1 0 tU=false:=q;have h2:(!bE x.L t1 0 tU)=false:=h;rw[q2]at h2;cases h2
theorem anG:aC 47 (bk (fun(p:Int)=>ar.eQ p)):=fo 61 Tryz.func47 anF [] aY aY bz [] anH
end
section
open Go
def r8(L:List bA)(s:aw)(kind:Int)(aK:Bool):Bool:=kind==(31:Int)||(kind==(28:Int)&&(decide (s.i<L.length)&&(!aK&&(!bE L s 0 fM&& !bE L s 0 rc))))
def N_(L:List bA)(fin:Int)(kind pos:Int)(ks:List Int):PM (List Int):=do
 fy L fin
 bM ⟨kind,.empty,0,ks,pos⟩
def yT(L:List bA)(fin:Int)(tv:Nat->ByteArray)(n:Nat)(kind pos:Int)(b:Bool):PM (List Int):=do
 let ks <-bif b then P L fin tv br n .bx else ret []
 N_ L fin kind pos ks
def N9(L:List bA)(fin:Int)(tv:Nat->ByteArray)(f:Nat)(kind pos:Int):PM (List Int):=do
 gA
 let n <-ig L fin
 let s <-ie
 bif kind==(31:Int)&&n.aK then m9 L fin else ret ()
 yT L fin tv f kind pos (r8 L s kind n.aK)
structure jF where
 kind:Int
 t:aw
 ks:List Int
 r:Row
 b:Bool
 c:Nat
def ia(x:bg bA):Option Addr:=some ⟨x.x.b,0,none⟩
def pW(d:jF):Option Addr:=some ⟨d.c,0,none⟩
def tC(d:jF):=ah (pW d)
def anw(x:bg bA)(F:ai):Nat->Option Inv:=fun
 |11=>some {X:=jF,P:=fun d=>N9 x.x.L x.x.fin x.K.tv x.n d.kind x.t.pos x.s=bo x.K x.x (x.n+1) (.simple x.t) x.s,mu:=fun _=>0,lv:=fun d=>[(0,ah (ia x)),(5,tC d)],st:=fun d=>[al x.x x.s,F,(nq d.c d.kind .empty 0 dF x.t.pos)]}
 |17=>some {X:=jF,P:=fun d=>yT x.x.L x.x.fin x.K.tv x.n d.kind x.t.pos d.b x.s.ay=bo x.K x.x (x.n+1) (.simple x.t) x.s,mu:=fun _=>0,lv:=fun d=>[(0,ah (ia x)),(5,tC d),(72,ak d.b)],st:=fun d=>[al x.x x.s.ay,F,(nq d.c d.kind .empty 0 dF x.t.pos)]}
 |18=>some {X:=jF,P:=fun d=>PG x.x d.t (x.os++d.ks)/\bv 3 1 (bC d.ks) d.r/\N_ x.x.L x.x.fin d.kind x.t.pos d.ks d.t=bo x.K x.x (x.n+1) (.simple x.t) x.s,mu:=fun _=>0,lv:=fun d=>[(0,ah (ia x)),(5,tC d)],st:=fun d=>[al x.x d.t,F,(nq d.c d.kind .empty 0 d.r x.t.pos),d.r.A]}
 |_=>none
def anx(x:bg bA)(_F:ai):List (Nat×Nat×OH):=[(0,0,.n 1000),(1,1,aT 1000),(1,3,.n 2030),(1,4,.w (eF 2030)),(3,1,aT 1000),(3,7,dm),(4,1,.w [.z00 2030]),(5,1,aT 1000),(5,7,dm),(6,1,.w [.z00 2030]),(7,1,aT 1000),(7,7,dm),(8,1,.w [.z00 2030]),(9,1,aT 1000),(10,1,.w [.z00 2030]),(2,1,aX mD),
 (11,3,dm),(11,7,dO fS),(12,1,aX jm),(12,2,.n 13020),(12,3,.w (eF 13020)),(13,1,aT 2),(13,5,aT 13020),(14,1,aX mD),(15,1,aT 2),(16,1,aT 2),(16,7,dm),(16,11,.q [.ex 0 .slice]),(16,17,aT 13020),(16,22,aX hZ),(16,27,aX hZ),
 (17,1,bq (cG x.n 14)),(17,2,.n 18020),(17,4,.w [.z00 2]),(18,1,bq tM),(19,1,.q (eF 2)),(19,2,.c fR [0,3] [0])]
def H8:ByteArray:=ByteArray.mk #[114,101,116,117,114,110]
def Cp(q:jF)(x:bg bA):List Value:=[ae q.kind,aj ByteArray.empty,float f64 0,au none 0 0,ae x.t.pos]
def F5(e0:bg bA)(e1:ai)(v0:Value)(ss:St):=∃(z:jF),N9 e0.x.L e0.x.fin e0.K.tv e0.n z.kind e0.t.pos e0.s=bo e0.K e0.x (e0.n+1) (ar.simple e0.t) e0.s/\(ah (ia e0)=ah (ia e0)/\v0=ah (pW z)/\True)/\aD ss [(0,al e0.x e0.s),(1,e1),(2,ag z.c (Cp z e0) 35)]
def Fb(x:bg bA):List Value:=[ae x.t.kind,aj x.t.text,float f64 x.t.num,ae x.t.pos,ak x.t.aK]
def Ie:ByteArray:=ByteArray.mk #[98,114,101,97,107]
def H3:ByteArray:=ByteArray.mk #[99,111,110,116,105,110,117,101]
def UP(x:bg bA)(F:ai)(s r:Nat):=[(0,al x.x x.s),(1,F),(1000,ag s (Fb x) 53),(2030,ag r [ae 0,aj ⟨#[]⟩,float f64 0,au none 0 0,ae x.t.pos] 35)]
def Uz(s:Nat)(x:bg bA)(r:Nat)(F:ai):=ax s 1/\Br (x.t.text.toList==(ByteArray.mk #[116,104,114,111,119]).toList) (ax r 0/\F5 x F (cW r) [(0,al x.x x.s),(1,F),(1000,ag s (Fb x) 53),(2030,ag r [ae 31,aj ⟨#[]⟩,float f64 0,au none 0 0,ae x.t.pos] 35)]) (l6 [ah (ia x)] (aH (UP x F s r) []) (fun c b=>aq (bk fun(a:bA)=>ar.simple a) x F (kG c) (UP x F s r)))
def q4(s:Nat)(x:bg bA)(r:Nat)(F:ai):=ax s 1/\Br (x.t.text.toList==H3.toList) (T1 (al x.x x.s) ⟨x.x.b,5,none⟩ (fun d=>aP (d>0) (ax r 0/\F5 x F (cW r) [(0,al x.x x.s),(1,F),(1000,ag s (Fb x) 53),(2030,ag r [ae 30,aj ⟨#[]⟩,float f64 0,au none 0 0,ae x.t.pos] 35)]) (Uz s x r F))) (Uz s x r F)
def Ti(s:Nat)(x:bg bA)(r:Nat)(F:ai):=ax s 1/\Br (x.t.text.toList==Ie.toList) (T1 (al x.x x.s) ⟨x.x.b,6,none⟩ (fun e=>aP (e>0) (ax r 0/\F5 x F (cW r) [(0,al x.x x.s),(1,F),(1000,ag s (Fb x) 53),(2030,ag r [ae 29,aj ⟨#[]⟩,float f64 0,au none 0 0,ae x.t.pos] 35)]) (q4 s x r F))) (q4 s x r F)
def o_(n:vq)(F:ai)(q:jF)(x:bg bA)(j:Nat)(l:c8):=[(0,al n.x n.t),(1,F),(2,ag q.c (Cp q x) 35),(13020,ag j (q0 l) 53)]
def yi(x:bg bA)(F:ai)(a:jF):=[(0,al x.x x.s.ay),(1,F),(2,ag a.c (Cp a x) 35)]
def HP(x:bg bA)(q:jF)(n:vq)(F:ai)(j:Nat)(l:c8):=∃(a:jF),yT x.x.L x.x.fin x.K.tv x.n a.kind x.t.pos a.b x.s.ay=bo x.K x.x (x.n+1) (ar.simple x.t) x.s/\(ah (ia x)=ah (ia x)/\ah (pW q)=ah (pW a)/\ak false=ak a.b/\True)/\aD (o_ n F q x j l) (yi x F a)
def Hq(e0:bg bA)(z:jF):=PG e0.x z.t (e0.os++z.ks)/\bv 3 1 (bC z.ks) z.r/\N_ e0.x.L e0.x.fin z.kind e0.t.pos z.ks z.t=bo e0.K e0.x (e0.n+1) (ar.simple e0.t) e0.s
def Vm(d:pA)(c:Int×aw)(F:ai)(f:jF)(b:Nat)(x:bg bA):=[(0,al d.x c.snd),(1,F),(2,ag f.c [ae f.kind,aj ByteArray.empty,float f64 0,au (bJ b) 1 1,ae x.t.pos] 35),(18020,ag b (bU c) 3)]
def In(z:jF)(e0:bg bA):List Value:=[ae z.kind,aj ByteArray.empty,float f64 0,au z.r.a z.r.n z.r.cap,ae e0.t.pos]
def HU(e0:bg bA)(z:jF)(e1:ai):=[(0,al e0.x z.t),(1,e1),(2,ag z.c (In z e0) 35),(3,z.r.A)]
def A9(e0:bg bA)(e1:ai)(v0 v1:Value)(ss:St):=∃(z:jF),yT e0.x.L e0.x.fin e0.K.tv e0.n z.kind e0.t.pos z.b e0.s.ay=bo e0.K e0.x (e0.n+1) (ar.simple e0.t) e0.s/\(ah (ia e0)=ah (ia e0)/\v0=ah (pW z)/\v1=ak z.b/\True)/\aD ss (yi e0 e1 z)
def PX(e0:bg bA)(e1:ai)(v0:Value)(ss:St):=∃(z:jF),Hq e0 z/\(ah (ia e0)=ah (ia e0)/\v0=ah (pW z)/\True)/\aD ss (HU e0 z e1)
def Dg(aa:List Value)(pp:List ai)(rr:ai)(k0:kN->aw->Prop)(k1:kN->Int->Prop):=aC 33 tM/\true=true/\∃(z:kN),aa=(nC z)/\pp=[al z.x z.s]/\(z.x.L.length<=1048576/\z.s.i<=z.x.L.length)/\fW z.x rr/\(∀(u0:aw),fy z.x.L z.x.fin z.s=PR.ok () u0->k0 z u0)/\∀(u1:Int),fy z.x.L z.x.fin z.s=PR.stop u1 (60:Int) z.s->k1 z u1
theorem anA(x:bg bA)(F:ai)(hc:aR.cond (bk (fun(d:bA)=>ar.simple d)) x)(hr:aR.aQ (bk (fun(d:bA)=>ar.simple d)) x F):∀(s:Nat),ax s 3/\∀(r:Nat),cF r ((ax s 1/\Br (x.t.text.toList==H8.toList) (T1 (al x.x x.s) ⟨x.x.b,4,none⟩ (fun f=>aP (f>0) (ax r 0/\F5 x F (cW r) [(0,al x.x x.s),(1,F),(1000,ag s (Fb x) 53),(2030,ag r [ae 28,aj ⟨#[]⟩,float f64 0,au none 0 0,ae x.t.pos] 35)]) (Ti s x r F))) (Ti s x r F))/\aS fun(q:jF)_=>N9 x.x.L x.x.fin x.K.tv x.n q.kind x.t.pos x.s=bo x.K x.x (x.n+1) (ar.simple x.t) x.s->T1 (al x.x x.s) ⟨x.x.b,1,none⟩ (fun o=>dw o/\dI (a8 Tryz.f42 11 7) [ah (some ⟨x.x.b,1,none⟩),ae (o+1)] [al x.x x.s] (fun n m=>fm [ah (ia x)] (aH [(0,al n.x n.t),(1,F),(2,ag q.c (Cp q x) 35)] []) (fun l k=>∀(j:Nat),cF j ((ax q.c 0/\Br (q.kind==31) (ax j 4/\Br (cu l.L l.fin l.i).aK (aC 15 mD/\true=true/\∃(c:c8),[ah (ia x)]=(je c)/\([]:List ai)=[]/\c.L.length<=1048576/\jD c (aH (o_ n F q x j l) [])/\∀(b:Unit),True->aq (bk fun(a:bA)=>ar.simple a) x F (kG c) (o_ n F q x j l)) ((dS ⟨q.c,0,none⟩ q.c/\Br (q.kind==31) (∃(a:jF),yT x.x.L x.x.fin x.K.tv x.n a.kind x.t.pos a.b x.s.ay=bo x.K x.x (x.n+1) (ar.simple x.t) x.s/\(ah (ia x)=ah (ia x)/\ah (pW q)=ah (pW a)/\ak (q.kind==31)=ak a.b/\True)/\aD (o_ n F q x j l) (yi x F a)) (true=true/\dS ⟨q.c,0,none⟩ q.c/\Br (q.kind==28) (∃(i:Int),aO (al n.x n.t) ⟨x.x.b,1,none⟩ (ae i)/\∃(h:Option Addr),∃(g:Nat),∃(f:Nat),aO (al n.x n.t) ⟨x.x.b,0,none⟩ (au h g f)/\aP (i<g) (dS ⟨j,4,none⟩ j/\Br (!(cu l.L l.fin l.i).aK) (aC 29 hZ/\true=true/\∃(e:za),[ah (ia x),ae 0,aj ⟨#[59]⟩]=(rT e)/\([]:List ai)=[]/\rU e/\jD e.p (aH (o_ n F q x j l) [])/\∀(d:Unit),True->Br (!jb e.p.L (e.p.i+e.a) e.t) (aC 29 hZ/\true=true/\∃(c:za),[ah (ia x),ae 0,aj ⟨#[125]⟩]=(rT c)/\([]:List ai)=[]/\rU c/\jD c.p (aH (o_ n F q x j l) [])/\∀(b:Unit),True->∃(a:jF),yT x.x.L x.x.fin x.K.tv x.n a.kind x.t.pos a.b x.s.ay=bo x.K x.x (x.n+1) (ar.simple x.t) x.s/\(ah (ia x)=ah (ia x)/\ah (pW q)=ah (pW a)/\(ak !jb c.p.L (c.p.i+c.a) c.t)=ak a.b/\True)/\aD (o_ n F q x j l) (yi x F a)) (HP x q n F j l)) (HP x q n F j l)) (HP x q n F j l)) (HP x q n F j l)))/\aS fun(f:jF)_=>yT x.x.L x.x.fin x.K.tv x.n f.kind x.t.pos f.b x.s.ay=bo x.K x.x (x.n+1) (ar.simple x.t) x.s->Br f.b (aC 14 (cG x.n (14:FuncId))/\true=true/\∃(d:pA),[ah (ia x)]=ah (some ⟨d.x.b,0,none⟩)::d.tag.args/\[al x.x x.s.ay]=[al d.x d.s]/\(iu d.K d.x/\PG d.x d.s d.os/\d.tag.bO=some 14/\ar.cL d.x.fin d.tag/\ar.cC d.x.L d.s d.tag/\ar.cU d.s d.tag/\bo d.K d.x x.n d.tag d.s≠PR.out)/\cI d.K d.x (aH (yi x F f) [0])/\(∀(c:Int×aw),bo d.K d.x x.n d.tag d.s=PR.ok [c.fst] c.snd->∀(b:Nat),dS ⟨f.c,3,none⟩ f.c/\∃(a:jF),Hq x a/\(ah (ia x)=ah (ia x)/\ah (pW f)=ah (pW a)/\True)/\aD (Vm d c F f b x) (HU x a F))/\∀(b:Int×Int),(∃(a:aw),bo d.K d.x x.n d.tag d.s=PR.stop b.fst b.snd a)->aq (bk fun(a:bA)=>ar.simple a) x F (ci b) [(0,ba),(1,F),(2,ag f.c (Cp f x) 35)]) (∃(a:jF),Hq x a/\(ah (ia x)=ah (ia x)/\ah (pW f)=ah (pW a)/\True)/\aD (yi x F f) (HU x a F)))) ((ax q.c 0/\Br (q.kind==31) (A9 x F (tC q) (ak (q.kind==31)) (o_ n F q x j l)) (true=true/\ax q.c 0/\Br (q.kind==28) (T1 (al n.x n.t) ⟨x.x.b,1,none⟩ (fun i=>e8 (al n.x n.t) ⟨x.x.b,0,none⟩ (fun h g f=>aP (i<g) (ax j 4/\Br (!(cu l.L l.fin l.i).aK) (gW [ah (ia x),ae 0,aj ⟨#[59]⟩] (aH (o_ n F q x j l) []) (fun e d=>Br (!jb e.p.L (e.p.i+e.a) e.t) (gW [ah (ia x),ae 0,aj ⟨#[125]⟩] (aH (o_ n F q x j l) []) (fun c b=>A9 x F (tC q) (ak !jb c.p.L (c.p.i+c.a) c.t) (o_ n F q x j l))) (A9 x F (tC q) dq (o_ n F q x j l)))) (A9 x F (tC q) dq (o_ n F q x j l))) (A9 x F (tC q) dq (o_ n F q x j l))))) (A9 x F (tC q) dq (o_ n F q x j l))))/\aS fun(f:jF)_=>yT x.x.L x.x.fin x.K.tv x.n f.kind x.t.pos f.b x.s.ay=bo x.K x.x (x.n+1) (ar.simple x.t) x.s->Br f.b (cw x.n 14 [ah (ia x)] [al x.x x.s.ay] (aH (yi x F f) [0]) (fun d c=>∀(b:Nat),ax f.c 3/\PX x F (tC f) (Vm d c F f b x)) (fun d b=>aq (bk fun(a:bA)=>ar.simple a) x F (ci b) [(0,ba),(1,F),(2,ag f.c (Cp f x) 35)])) (PX x F (tC f) (yi x F f))))/\aS fun(g:jF)_=>Hq x g->Dg [ah (ia x)] [al x.x g.t] (aH (HU x g F) [0]) (fun e d=>cF g.c (dc [ah (ia x),agg ⟨In g x⟩] [al e.x d,g.r.A] (fun c b=>aq (bk fun(a:bA)=>ar.simple a) x F (fK c) [(0,al c.x (c.s.add c.n)),(1,F),(2,ag g.c (In g x) 35),(3,ba)]))) (fun e b=>aq (bk fun(a:bA)=>ar.simple a) x F (dK b 60) [(0,ba),(1,F),(2,ag g.c (In g x) 35),(3,g.r.A)])))))):=by
 delta H8 T1 ia pW Cp F5 bJ cW Fb Ie H3 je l6 UP kG Uz q4 Ti dw mT mU dI fm q0 o_ yi rT rU HP Hq bU Vm In HU ci A9 tC e8 gW dq cw PX oA nC Dg lR lS dc lm fK dK aH al ax cF ae aj ak ah au ag ba aP az aS;obtain⟨K,x,s,os,n,tp⟩:=x;obtain⟨ih,hK,hG,hp,dP,cJ,ho⟩:=hc;replace hr:cI K x F:=hr;replace ho:bo K x (n+1) (.simple tp) s≠.out:=ho;dsimp only at ih hK hG hp dP cJ⊢;obtain⟨r,e0⟩:∃r,bo K x (n+1) (.simple tp) s=r:=⟨_,rfl⟩;rw[e0]at ho;have hk:=e0;unfold bo at hk;rw[P]at hk;have hl:=hK.len;have dP:s.i<x.L.length:=dP;rw[mV]at hk;intro lc';refine⟨ap,fun c=>?_⟩
 repeat (refine⟨ap,?_⟩)
 refine⟨?_,?_⟩
 ·refine mo (A:=(bW tp.text sa&&decide (s.bQ>0))=false) (fun k1=>⟨ap,aG (fun a=>⟨_,d_ fun _=>rfl,bl (fun b=>⟨ap,⟨28,s,[],dF,false,c⟩,?_,aV,aB [0,1,2030]⟩) (fun b=>k1 ?_)⟩) (fun a=>k1 ?_)⟩) (fun h1=>mo (A:=(bW tp.text r9&&decide (s.bI>0))=false) (fun k2=>⟨ap,aG (fun a=>⟨_,d_ fun _=>rfl,bl (fun b=>⟨ap,⟨29,s,[],dF,false,c⟩,?_,aV,aB [0,1,2030]⟩) (fun b=>k2 ?_)⟩) (fun a=>k2 ?_)⟩) (fun h2=>mo (A:=(bW tp.text r_&&decide (s.loops>0))=false) (fun k3=>⟨ap,aG (fun a=>⟨_,d_ fun _=>rfl,bl (fun b=>⟨ap,⟨30,s,[],dF,false,c⟩,?_,aV,aB [0,1,2030]⟩) (fun b=>k3 ?_)⟩) (fun a=>k3 ?_)⟩) (fun h3=>⟨ap,aG (fun a=>⟨ap,⟨31,s,[],dF,false,c⟩,?_,aV,aB [0,1,2030]⟩) (fun a=>?_)⟩)))
  ·rw[gj]at a;rw[show bW tp.text sa=true from a,bG (show s.bQ>0 from b),Bool.and_self,bf,jf]at hk;exact hk.trans e0.symm
  ·rw[bK (show ¬s.bQ>0 from b),n6]
  ·rw[gj]at a;rw[show bW tp.text sa=false from a,nh]
  ·rw[gj]at a;rw[h1,aU,show bW tp.text r9=true from a,bG (show s.bI>0 from b),Bool.and_self,bf,jf]at hk;exact hk.trans e0.symm
  ·rw[bK (show ¬s.bI>0 from b),n6]
  ·rw[gj]at a;rw[show bW tp.text r9=false from a,nh]
  ·rw[gj]at a;rw[h1,aU,h2,aU,show bW tp.text r_=true from a,bG (show s.loops>0 from b),Bool.and_self,bf,jf]at hk;exact hk.trans e0.symm
  ·rw[bK (show ¬s.loops>0 from b),n6]
  ·rw[gj]at a;rw[show bW tp.text r_=false from a,nh]
  ·rw[gj]at a;rw[h1,aU,h2,aU,h3,aU,show bW tp.text tV=true from a,bf,jf]at hk;exact hk.trans e0.symm
  ·rw[gj]at a;rw[h1,aU,h2,aU,h3,aU,show bW tp.text tV=false from a,aU,IE]at hk;exact bp ru (x.p s) hl (hr.ls.di 0 1 aM aM rfl rfl) fun _ _=>⟨.inr (_,_),⟨_,e0.trans hk.symm⟩,rfl,aB [1]⟩
 clear hk;rintro⟨kind,t0,ks0,r0,b0,c⟩ js hk;dsimp only at hk⊢;rw[e0,N9,mn,pl,mV]at hk;have g1:=hG.step dP;refine⟨_,d_ fun _=>rfl,oZ (i:=s.i) (i_ hG.i hl),gQ rfl rfl rfl,rfl,⟨x,s,s.ay,1,_⟩,rfl,rfl,⟨fun _=>rfl,rfl,bd,rfl,rfl⟩,ao,fun _ _=>?_⟩;refine bp l9 (x.p s.ay) hl (hr.ls.di 0 1 aM aM rfl rfl) fun _ _ c2=>?_
 repeat (refine⟨ap,?_⟩)
 refine⟨?_,?_⟩
 ·refine mo (A:=(kind==(31:Int)&&(aI x.L x.fin s.ay).aK)=false) (fun kx=>⟨ap,aG (fun h1=>⟨ap,aG (fun h2=>?_) (fun h2=>kx ?_)⟩) (fun h1=>kx ?_)⟩) (fun hx=>?_)
  ·rw[show(kind==(31:Int))=true from h1,show(aI x.L x.fin s.ay).aK=true from h2,Bool.and_self,bf,IE]at hk;exact bp ru (x.p s.ay) hl (hr.ls.di 0 1 aM aM rfl rfl) fun _ _=>⟨.inr (_,_),⟨_,e0.trans hk.symm⟩,rfl,aB [1]⟩
  ·rw[show(aI x.L x.fin s.ay).aK=false from h2,n6]
  ·rw[show(kind==(31:Int))=false from h1,nh]
  rw[hx,aU,jf]at hk;refine⟨⟨ap,?_⟩,?_⟩
  ·have c0:x.L.length<=1048576/\s.ay.i<=1048576/\0<=1048576:=⟨hl,i_ g1.i hl,dC _⟩;refine aG (fun h1=>⟨⟨kind,s,[],dF,true,c⟩,?_,⟨rfl,rfl,?_,ao⟩,aB [0,1,2]⟩) (fun h1=>⟨rfl,ap,aG (fun h2=>⟨_,d_ fun _=>rfl,_,_,_,d_ fun _=>rfl,bl (fun h3=>⟨ap,aG (fun h4=>bp kY ⟨x.p s.ay,0,fM⟩ c0 (hr.ls.di 0 1 aM aM rfl rfl) fun _ _=>aG (fun h5=>bp kY ⟨x.p s.ay,0,rc⟩ c0 (hr.ls.di 0 1 aM aM rfl rfl) fun _ _=>⟨⟨kind,s,[],dF,!bE x.L s.ay 0 rc,c⟩,?_,⟨rfl,rfl,?_,ao⟩,aB [0,1,2]⟩) (fun h5=>⟨⟨kind,s,[],dF,false,c⟩,?_,aV,aB [0,1,2]⟩)) (fun h4=>⟨⟨kind,s,[],dF,false,c⟩,?_,aV,aB [0,1,2]⟩)⟩) (fun h3=>⟨⟨kind,s,[],dF,false,c⟩,?_,aV,aB [0,1,2]⟩)⟩) (fun h2=>⟨⟨kind,s,[],dF,false,c⟩,?_,aV,aB [0,1,2]⟩)⟩)
   ·have e2:r8 x.L s.ay kind (aI x.L x.fin s.ay).aK=true:=by unfold r8;rw[show(kind==(31:Int))=true from h1];rfl
    rw[e2]at hk;exact hk.trans e0.symm
   ·show bool (kind==(31:Int))=bool true;rw[show(kind==(31:Int))=true from h1]
   all_goals have n1:(kind==(31:Int))=false:=h1
   ·have e2:r8 x.L s.ay kind (aI x.L x.fin s.ay).aK= !bE x.L s.ay 0 rc:=by
     unfold r8;rw[n1,show(kind==(28:Int))=true from h2,bG (show s.ay.i<x.L.length from Int.ofNat_lt.1 h3),show(!(aI x.L x.fin s.ay).aK)=true from h4,show(!bE x.L s.ay 0 fM)=true from h5];rfl
    rw[e2]at hk;exact hk.trans e0.symm
   ·rfl
   ·have e2:r8 x.L s.ay kind (aI x.L x.fin s.ay).aK=false:=by
     unfold r8;rw[n1,show(!bE x.L s.ay 0 fM)=false from h5];simp
    rw[e2]at hk;exact hk.trans e0.symm
   ·have e2:r8 x.L s.ay kind (aI x.L x.fin s.ay).aK=false:=by
     unfold r8;rw[n1,show(!(aI x.L x.fin s.ay).aK)=false from h4];simp
    rw[e2]at hk;exact hk.trans e0.symm
   ·have e2:r8 x.L s.ay kind (aI x.L x.fin s.ay).aK=false:=by
     unfold r8;rw[n1,bK (show ¬s.ay.i<x.L.length from fun h=>h3 (Int.ofNat_lt.2 h))];simp
    rw[e2]at hk;exact hk.trans e0.symm
   ·have e2:r8 x.L s.ay kind (aI x.L x.fin s.ay).aK=false:=by
     unfold r8;rw[n1,show(kind==(28:Int))=false from h2];rfl
    rw[e2]at hk;exact hk.trans e0.symm
  clear hk hx;rintro⟨kind,t0,ks0,r0,b0,c⟩ js hk;dsimp only at hk⊢;rw[e0,yT]at hk;refine aG (fun h=>?_) (fun h=>?_)
  ·have h:b0=true:=h;rw[h,bf]at hk;refine ca g1 (CF hk ho) (fun k t1 hk g2 oi ow nZ oq nR oL=>?_) (cL:=ao) (cC:=ao) (cU:=ao);dsimp only[ar.sl,aw.ay,aw.add]at oi ow nZ oq nR oL;intro lb;exact⟨ap,⟨kind,t1,[k],mc lb [k],false,c⟩,⟨g2,kC lb [k],hk.trans e0.symm⟩,aV,aB [0,1,2,18020]⟩
  ·have h:b0=false:=h;rw[h,aU,jf]at hk;exact⟨⟨kind,s.ay,[],dF,false,c⟩,⟨g1.cast (dJ _).symm,BX,hk.trans e0.symm⟩,aV,aB [0,1,2,999]⟩
 clear hk;rintro⟨kind,t,ks,r',b0,c⟩ js ⟨g,bB,hk⟩;dsimp only at g bB hk⊢;rw[e0,N_]at hk;refine bp WO ⟨x,t⟩ ⟨hl,g.i⟩ (hr.ls.sub (b_ 1)) ⟨fun u q=>?_,fun p q=>⟨.inr (p,60),⟨_,e0.trans (hk.symm.trans (WX q))⟩,rfl,aB [1]⟩⟩;rw[WW q,jx]at hk;obtain⟨g2,-⟩:=PG.yO hK g q
 repeat (refine⟨ap,?_⟩)
 refine bV fv ⟨x,u,⟨kind,.empty,0,ks,tp.pos⟩,r'⟩ ⟨by have:=g2.cap hl;dsimp only[aw.ay,aw.add]at*;omega,bB⟩ fun _ _=>?_;exact eH (e0.trans hk.symm)
theorem anz:aC 42 (bk (fun(d:bA)=>ar.simple d)):=fo 115 Tryz.func42 anx [] aY anw bz [] anA
end
section
open Go
section
variable{P:Program}
structure OE where
 ts:List ByteArray
 n:Nat
def JY:mw where
 X:=OE
 args x:=[.agg ⟨x.ts.map string⟩,.int .i64 x.n]
 cond x:=x.ts.length=2/\x.n<2
 val x:=.string (x.ts.getD x.n .empty)
theorem Ya{o:Oper}{t e:TypeId}{x i:Operand}{cy:TypeInfo}(ho:o.op= .index t x i)(ht:P.underlying t=some (.array 2 e))(hi:P.info? e=some cy)(h1:P.cellsOf e=1)(hu:P.underlying e=some .string):dH P o JY:=by
 refine⟨fun q w ρ ha hc=>?_⟩;obtain⟨ts,n⟩:=q;obtain⟨hl,hn⟩:=hc;dsimp only at hl hn;obtain⟨vs,G1⟩:∃vs,vs=ts.map string:=⟨_,rfl⟩;simp only[ho,Op.operands,JY]at ha;have c5:ρ x= .agg ⟨vs⟩/\ρ i= .int .i64 n:=by rw[G1];simpa using ha
 have hb:(0:Int)<=n/\(n:Int)<(2:Nat):=af;have hag:(isAgg e).run P w= .ok false w:=by simp[isAgg,run_underlying hu]
 obtain⟨u,Z0⟩:∃u,ts[n]?=some u:=⟨_,gv af⟩;have hv:vs[n]?=some (.string u):=by rw[G1,gw,Z0];rfl
 have rE:(n:Int)<2:=af;have hg:ts.getD n .empty=u:=by rw[fD,Z0];rfl
 show(execOp ρ o).run P w= .ok (.value (.string (ts.getD n .empty))) w;rw[hg];simp[execOp,ho,c5.1,c5.2,Instr.index,asIntOf,run_underlying ht,rE,hn,run_sizeOf w hi,h1,part,hag,hv]
end
def Kq(L:List bA)(fin:Int)(tv:Nat->ByteArray)(n:Nat)(pos:Int)(ks:List Int):PM (List Int):=do
 dn L fin rp
 let b <-one (P L fin tv br n .loop)
 bM ⟨26,.empty,0,ks++[b],pos⟩
def Ko(L:List bA)(fin:Int)(tv:Nat->ByteArray)(n:Nat)(pos:Int)(ks:List Int):PM (List Int):=do
 dn L fin fM
 let h <-th L 0 rp
 let d <-bif h then nV L fin else one (P L fin tv br n .bx)
 Kq L fin tv n pos (ks++[d])
def DN(L:List bA)(fin:Int)(tv:Nat->ByteArray)(n:Nat)(pos:Int)(ks:List Int):PM (List Int):=do
 dn L fin fM
 let h <-th L 0 fM
 let c <-bif h then nV L fin else one (P L fin tv br n .bx)
 Ko L fin tv n pos (ks++[c])
def Y9(L:List bA)(fin:Int)(tv:Nat->ByteArray)(n:Nat)(pos:Int):Nat->List Int->PM (List Int)
 |0,ks=>DN L fin tv n pos ks
 |1,ks=>Ko L fin tv n pos ks
 |_,ks=>Kq L fin tv n pos ks
def Y8(L:List bA)(fin:Int)(tv:Nat->ByteArray)(n:Nat)(pos:Int)(v:Nat)(s:aw):PM (List Int):=do
 let a <-bif v==1 then one (P L fin tv br n .vars) else bif bE L s 0 fM then nV L fin else do
  let x <-ig L fin
  let e <-one (P L fin tv br n .bx)
  eK ⟨20,.empty,0,[e],x.pos⟩
 DN L fin tv n pos [a]
def Rk(L:List bA)(fin:Int)(tv:Nat->ByteArray)(n:Nat)(pos:Int)(v:Nat)(s:aw):PM (List Int):=
 bif uP L s v&&bE L s (v+1) CQ then do
  lV {s with i:=s.i+v+2}
  let e <-one (P L fin tv br n .bx)
  dn L fin rp
  let b <-one (P L fin tv br n .loop)
  bM ⟨27,((L[s.i+v]?).map (·.text)).getD .empty,bif v==1 then ox else 0,[e,b],pos⟩
 else Y8 L fin tv n pos v s
structure jN where
 v:Nat
 t:aw
 ks:List Int
 r:Row
 c:Nat
def jN.ok(d:jN)(x:co)(s:aw)(os:List Int):Prop:=PG x d.t (os++d.ks)/\bv 3 1 (bC d.ks) d.r/\s.i+1<=d.t.i/\d.t.loops=s.loops/\d.t.bI=s.bI
def EX:List Value:=[aj fM,aj rp]
def EN(d:jN):=ah (some ⟨d.c,0,none⟩)
def amu(x:bg Int)(F:ai):Nat->Option Inv:=fun
 |1=>some {X:=jN,P:=fun d=>d.ok x.x x.s x.os/\d.v<=2/\Y9 x.x.L x.x.fin x.K.tv x.n x.t d.v d.ks d.t=bo x.K x.x (x.n+1) (.ef x.t) x.s,mu:=fun d=>2-d.v,lv:=fun d=>[(0,ah (cD x)),(8,EN d),(102,agg ⟨EX⟩),(103,ae d.v)],st:=fun d=>[al x.x d.t,F,(nq d.c 26 .empty 0 d.r x.t),d.r.A]}
 |_=>none
def amt(x:bg Int)(F:ai):Nat->Option Inv:=fun
 |5=>some {X:=jN,P:=fun d=>d.v<=1/\(d.v=1->x.s.ay.i<x.x.L.length)/\PG x.x x.s.ay x.os/\Rk x.x.L x.x.fin x.K.tv x.n x.t d.v x.s.ay x.s.ay=bo x.K x.x (x.n+1) (.ef x.t) x.s,mu:=fun _=>0,lv:=fun d=>[(0,ah (cD x)),(1,ae x.t),(5,ae d.v)],st:=fun _=>[al x.x x.s.ay,F]}
 |20=>some {X:=jN,P:=fun d=>d.ok x.x x.s x.os/\DN x.x.L x.x.fin x.K.tv x.n x.t d.ks d.t=bo x.K x.x (x.n+1) (.ef x.t) x.s,mu:=fun _=>0,lv:=fun d=>[(0,ah (cD x)),(8,EN d)],st:=fun d=>[al x.x d.t,F,(nq d.c 26 .empty 0 d.r x.t),d.r.A]}
 |_=>none
theorem fW.look{x:co}{F:ai}(h:fW x F){b o i j:Nat}{d:bA}{u:Value}(e:x.la=some ⟨b,o,none⟩)(hd:x.L[i]?=some d)(hu:(mb d)[j]?=some u):aO F ⟨b,o+i*5+j,none⟩ u:=by
 have hs:=h.Fp;rw[e]at hs;have:=hs.look (Sy x.L i j d u hd hu);rw[Nat.add_assoc];exact this
theorem alD{v:Nat}(h:v<=1):f64.nearest (v:Int)=bif v==1 then ox else 0:=by
 have:v=0\/v=1:=af;rcases this with rfl|rfl <;> rfl
def amv(x:bg Int)(_F:ai):List (Nat×Nat×OH):=[(1,1,bq jd),(3,1,aX hZ),(5,2,aX zK),(5,7,aX hZ),(6,3,.q [.ex 0 .slice]),(6,7,dm),(6,10,.qo (h_ 5)),(6,12,.q [.ex 1 .str]),(6,17,.n 7170),(6,18,.w (eF 7170)),(7,3,dm),(7,9,dO fS),(8,1,bq (cG x.n 14)),(9,1,bq jd),(10,2,bq (cG x.n 45)),(10,3,.n 11030),(10,5,.w [.z00 7170]),(11,1,.q (eF 7170)),(11,2,.c fR [0,11030] [0]),
 (12,2,.n 13020),(12,3,.w (eF 13020)),(17,1,aT 13020),(17,3,bq (cG x.n 41)),(17,4,.n 18040),(17,5,.o (dt 3 1 8) [999] [998]),(17,7,.w [.z00 13020]),(18,1,aX hZ),(19,1,aT 13020),(19,3,bq zs),(19,4,.n 20040),(19,5,.o (dt 3 1 8) [999] [998]),(19,7,.w [.z00 13020]),
 (13,1,aX jm),(14,1,bq (cG x.n 14)),(15,1,aT 13020),(15,4,.n 16040),(15,7,.c fR [0,16040] [0]),(15,8,.n 16080),(15,9,.o (dt 3 1 8) [999] [998]),(15,11,.w [.z00 13020]),
 (22,0,.qo JY),(23,1,bq jd),(24,2,aX hZ),(25,1,aT 2),(25,3,bq zs),(25,4,.n 26040),(25,5,.o (dt 3 1 8) [3] [3]),(25,7,.w [.z00 2]),(26,1,aT 2),(26,3,bq (cG x.n 14)),(26,4,.n 27040),(26,5,.o (dt 3 1 8) [3] [3]),(26,7,.w [.z00 2]),
 (28,1,bq jd),(29,1,aT 2),(29,3,bq (cG x.n 45)),(29,4,.n 30040),(29,5,.o (dt 3 1 8) [3] [3]),(29,7,.w [.z00 2]),(30,1,.q (eF 2)),(30,2,.c fR [0,3] [0])]
def Ud(z:jN)(e0:bg Int):=z.v<=1/\(z.v=1->e0.s.i+1<e0.x.L.length)/\PG e0.x e0.s.ay e0.os/\Rk e0.x.L e0.x.fin e0.K.tv e0.n e0.t z.v e0.s.ay e0.s.ay=bo e0.K e0.x (e0.n+1) (ar.ef e0.t) e0.s
def PZ(e0:bg Int)(e1:ai)(v0:Value)(ss:St):=∃(z:jN),Ud z e0/\(ah (cD e0)=ah (cD e0)/\ae e0.t=ae e0.t/\v0=ae ↑z.v/\True)/\aD ss [(0,al e0.x e0.s.ay),(1,e1)]
def ME(m:jN):=(-9223372036854775808:Int)<=(m.v:Int)+1/\(m.v:Int)+1<=(9223372036854775807:Int)
def Ca(o:ByteArray)(A:jN)(x:bg Int):List Value:=[ae 27,aj o,float f64 (f64.nearest (A.v:Int)),au none 0 0,ae x.t]
def CB(x:bg Int):List Value:=[ae 26,aj ⟨#[]⟩,float f64 0,au none 0 0,ae x.t]
def EH(x:bg Int)(F:ai)(p:Nat):=[(0,al x.x x.s.ay),(1,F),(13020,ag p (CB x) 35)]
def Vc(o:jN)(x:bg Int):=o.ok x.x x.s x.os/\DN x.x.L x.x.fin x.K.tv x.n x.t o.ks o.t=bo x.K x.x (x.n+1) (ar.ef x.t) x.s
def Cg(o:jN)(x:bg Int):List Value:=[ae 26,aj ByteArray.empty,float f64 0,au o.r.a o.r.n o.r.cap,ae x.t]
def Cf(x:bg Int)(o:jN)(F:ai):=[(0,al x.x o.t),(1,F),(2,ag o.c (Cg o x) 35),(3,o.r.A)]
def JD(e0:bg Int)(e1:ai)(v0:Value)(ss:St):=∃(z:jN),Vc z e0/\(ah (cD e0)=ah (cD e0)/\v0=ah (some ⟨z.c,0,none⟩)/\True)/\aD ss (Cf e0 z e1)
def MZ(b:Row)(x:bg Int):List Value:=[ae 26,aj ⟨#[]⟩,float f64 0,au b.a b.n b.cap,ae x.t]
def F6(aa:List Value)(pp:List ai)(rr:ai)(k0:kN->Unit->Prop):=aC 31 zs/\true=true/\∃(z:kN),aa=(nC z)/\pp=[al z.x z.s]/\(z.x.L.length<=1048576/\z.s.nodes.length<=4194304)/\fW z.x rr/\∀(u0:Unit),True->k0 z u0
def If(f:kN):List Value:=[ae ↑f.s.nodes.length]
def Ma(m:jN)(x:bg Int):=m.ok x.x x.s x.os/\m.v<=2/\Y9 x.x.L x.x.fin x.K.tv x.n x.t m.v m.ks m.t=bo x.K x.x (x.n+1) (ar.ef x.t) x.s
def XK(e0:bg Int)(e1:ai)(v0 v1 v2:Value)(ss:St):=∃(z:jN),Ma z e0/\(ah (cD e0)=ah (cD e0)/\v0=ah (some ⟨z.c,0,none⟩)/\v1=agg ⟨EX⟩/\v2=ae ↑z.v/\True)/\aD ss (Cf e0 z e1)
def XL(oo:Oper)(aa:List Value)(k0:OE->Prop):=dH Tryz.prog oo JY/\∃(z:OE),aa=[agg ⟨List.map aj z.ts⟩,ae ↑z.n]/\(z.ts.length=2/\z.n<2)/\k0 z
def HS(j:jB)(F:ai)(m:jN)(x:bg Int):=[(0,al j.x j.s.ay),(1,F),(2,ag m.c (Cg m x) 35),(3,m.r.A)]
def NB(m:jN)(d:Nat):List Value:=[au m.r.a m.r.n m.r.cap,au (bJ d) 1 1]
def P2(e0:bg Int)(e1:ai)(v0 v1:Value)(ss:St)(mm:Nat):=∃(z:jN),Ma z e0/\(ah (cD e0)=ah (cD e0)/\v0=ah (some ⟨z.c,0,none⟩)/\agg ⟨EX⟩=agg ⟨EX⟩/\v1=ae ↑z.v/\True)/\aD ss (Cf e0 z e1)/\2-z.v<mm
def HI(b:Row)(x:bg Int):List Value:=[ae 26,aj ByteArray.empty,float f64 0,au b.a b.n b.cap,ae x.t]
def HX(F:ai)(m:jN)(x:bg Int):=[(0,ba),(1,F),(2,ag m.c (Cg m x) 35),(3,m.r.A)]
def q1(A:jN)(x:bg Int)(F:ai):=∀(p:Nat),cF p (Br ((A.v:Int)==1) (true=true/\ax p 3/\cw x.n 41 (kJ x) [al x.x x.s.ay] (aH (EH x F p) [0]) (fun f e=>∀(d:Nat),fQ (a8 Tryz.f46 17 5) (Aa d) [ba] (aH [(0,al f.x e.snd),(1,F),(13020,ag p (CB x) 35),(18040,ag d (bU e) 3)] [999]) (fun c b=>ax p 3/\JD x F (cW p) [(0,al f.x e.snd),(1,F),(998,b.A),(999,ba),(13020,ag p (MZ b x) 35),(18040,ag d (bU e) 3)])) (fun f c=>∀(b:Tm),aq (bk fun(a:Int)=>ar.ef a) x F (ci c) [(0,ba),(1,F),(13020,ag p (CB x) 35)])) (gW [ah (cD x),ae 0,aj ⟨#[59]⟩] (aH (EH x F p) []) (fun m l=>Br (jb m.p.L (m.p.i+m.a) m.t) (true=true/\ax p 3/\F6 (kJ x) [al x.x x.s.ay] (aH (EH x F p) [0]) (fun f e=>∀(d:Nat),fQ (a8 Tryz.f46 19 5) (Aa d) [ba] (aH [(0,al f.x (f.s.add ⟨(36:Int),ByteArray.empty,0,[],(aI f.x.L f.x.fin f.s).pos⟩)),(1,F),(13020,ag p (CB x) 35),(20040,ag d (If f) 3)] [999]) (fun c b=>ax p 3/\JD x F (cW p) [(0,al f.x (f.s.add ⟨(36:Int),ByteArray.empty,0,[],(aI f.x.L f.x.fin f.s).pos⟩)),(1,F),(998,b.A),(999,ba),(13020,ag p (MZ b x) 35),(20040,ag d (If f) 3)]))) (fm (kJ x) (aH (EH x F p) []) (fun k j=>cw x.n 14 (kJ x) [al x.x x.s.ay] (aH (EH x F p) [0]) (fun i h=>true=true/\ax p 3/\∀(g:Nat),dc [ah (cD x),agg ⟨[ae 20,aj ⟨#[]⟩,float f64 0,au (bJ g) 1 1,ae (cu k.L k.fin k.i).pos]⟩] [al i.x h.snd,ag g (bU h) 3] (fun f e=>∀(d:Nat),fQ (a8 Tryz.f46 15 9) (Aa d) [ba] (aH [(0,al f.x (f.s.add f.n)),(1,F),(13020,ag p (CB x) 35),(16040,ba),(16080,ag d (qF f) 3)] [999]) (fun c b=>ax p 3/\JD x F (cW p) [(0,al f.x (f.s.add f.n)),(1,F),(998,b.A),(999,ba),(13020,ag p (MZ b x) 35),(16040,ba),(16080,ag d (qF f) 3)]))) (fun i b=>aq (bk fun(a:Int)=>ar.ef a) x F (ci b) [(0,ba),(1,F),(13020,ag p (CB x) 35)])))))/\aS fun(o:jN)_=>Vc o x->XK x F (EN o) (agg ⟨[aj ⟨#[59]⟩,aj ⟨#[41]⟩]⟩) (ae 0) (Cf x o F)/\aS fun(m:jN)_=>Ma m x->aP ((m.v:Int)<2) (XL ⟨some 105,Op.index 87 (Operand.tmp 102) (Operand.tmp 103),9,"esparse.go:375",⟨[]⟩,none⟩ [agg ⟨EX⟩,ae ↑m.v] (fun k=>gD [ah (cD x),aj ⟨#[59]⟩] [al x.x m.t] (aH (Cf x m F) [0]) (fun j i=>gW [ah (cD x),ae 0,aj (k.ts.getD k.n ByteArray.empty)] (aH (HS j F m x) []) (fun h g=>Br (jb h.p.L (h.p.i+h.a) h.t) (true=true/\ax m.c 3/\F6 (kJ x) [al j.x j.s.ay] (aH (HS j F m x) [0]) (fun f e=>∀(d:Nat),fQ (a8 Tryz.f46 25 5) (NB m d) [m.r.A] (aH [(0,al f.x (f.s.add ⟨(36:Int),ByteArray.empty,0,[],(aI f.x.L f.x.fin f.s).pos⟩)),(1,F),(2,ag m.c (Cg m x) 35),(3,m.r.A),(26040,ag d (If f) 3)] [3]) (fun c b=>ax m.c 3/\ME m/\P2 x F (EN m) (ae ((m.v:Int)+1)) [(0,al f.x (f.s.add ⟨(36:Int),ByteArray.empty,0,[],(aI f.x.L f.x.fin f.s).pos⟩)),(1,F),(2,ag m.c (HI b x) 35),(3,b.A),(26040,ag d (If f) 3)] (2-m.v)))) (true=true/\ax m.c 3/\cw x.n 14 (kJ x) [al j.x j.s.ay] (aH (HS j F m x) [0]) (fun f e=>∀(d:Nat),fQ (a8 Tryz.f46 26 5) (NB m d) [m.r.A] (aH [(0,al f.x e.snd),(1,F),(2,ag m.c (Cg m x) 35),(3,m.r.A),(27040,ag d (bU e) 3)] [3]) (fun c b=>ax m.c 3/\ME m/\P2 x F (EN m) (ae ((m.v:Int)+1)) [(0,al f.x e.snd),(1,F),(2,ag m.c (HI b x) 35),(3,b.A),(27040,ag d (bU e) 3)] (2-m.v))) (fun f c=>∀(b:Tm),aq (bk fun(a:Int)=>ar.ef a) x F (ci c) (HX F m x))))) (fun j b=>aq (bk fun(a:Int)=>ar.ef a) x F (gO j) (HX F m x)))) (gD (Cu x) [al x.x m.t] (aH (Cf x m F) [0]) (fun j i=>true=true/\ax m.c 3/\cw x.n 45 (kJ x) [al j.x j.s.ay] (aH (HS j F m x) [0]) (fun h g=>∀(f:Nat),fQ (a8 Tryz.f46 29 5) (NB m f) [m.r.A] (aH [(0,al h.x g.snd),(1,F),(2,ag m.c (Cg m x) 35),(3,m.r.A),(30040,ag f (bU g) 3)] [3]) (fun e d=>ax m.c 3/\cF m.c (dc [ah (cD x),agg ⟨HI d x⟩] [al h.x g.snd,d.A] (fun c b=>aq (bk fun(a:Int)=>ar.ef a) x F (fK c) [(0,al c.x (c.s.add c.n)),(1,F),(2,ag m.c (HI d x) 35),(3,ba),(30040,ag f (bU g) 3)])))) (fun h c=>∀(b:Tm),aq (bk fun(a:Int)=>ar.ef a) x F (ci c) (HX F m x))) (fun j b=>aq (bk fun(a:Int)=>ar.ef a) x F (gO j) (HX F m x))))
theorem amx(x:bg Int)(F:ai)(hc:aR.cond (bk (fun(p:Int)=>ar.ef p)) x)(hr:aR.aQ (bk (fun(p:Int)=>ar.ef p)) x F):gD [ah (cD x),aj ⟨#[40]⟩] [al x.x x.s] (aH [(0,al x.x x.s),(1,F)] [0]) (fun C B=>gW [ah (cD x),ae 0,aj ⟨#[118,97,114]⟩] (aH (oD C F) []) (fun c b=>Br (jb c.p.L (c.p.i+c.a) c.t) (PZ x F (ae 1) (oD C F)) (PZ x F (ae 0) (oD C F)))/\aS fun(A:jN)_=>Ud A x->JB [ah (cD x),ae ↑A.v] (aH [(0,al x.x x.s.ay),(1,F)] []) (fun y w=>Br (Ef y.p.L (y.p.i+y.a)) (ME A/\gW [ah (cD x),ae ((A.v:Int)+1),aj ⟨#[105,110]⟩] (aH [(0,al x.x x.s.ay),(1,F)] []) (fun v u=>Br (jb v.p.L (v.p.i+v.a) v.t) (true=true/\e8 (al x.x x.s.ay) ⟨x.x.b,0,none⟩ (fun t s r=>T1 (al x.x x.s.ay) ⟨x.x.b,1,none⟩ (fun q=>bT (q+A.v)/\lF (a8 Tryz.f46 6 10) [au t s r,ae (q+A.v)] (fun p=>T2 F ⟨p.b,p.o+p.n.toNat*5+1,none⟩ (fun o=>∀(n:Nat),cF n (T1 (al x.x x.s.ay) ⟨x.x.b,1,none⟩ (fun m=>((-9223372036854775808:Int)<=(A.v:Int)+2/\(A.v:Int)+2<=(9223372036854775807:Int))/\bT (m+((A.v:Int)+2))/\dI (a8 Tryz.f46 7 9) [ah (some ⟨x.x.b,1,none⟩),ae (m+((A.v:Int)+2))] [al x.x x.s.ay] (fun l k=>cw x.n 14 (kJ x) [al l.x l.t] (aH [(0,al l.x l.t),(1,F),(7170,ag n (Ca o A x) 35)] [0]) (fun j i=>gD (Cu x) [al j.x i.snd] (aH [(0,al j.x i.snd),(1,F),(7170,ag n (Ca o A x) 35)] [0]) (fun h g=>cw x.n 45 (kJ x) [al h.x h.s.ay] (aH [(0,al h.x h.s.ay),(1,F),(7170,ag n (Ca o A x) 35)] [0]) (fun f e=>∀(d:Nat),ax n 3/\cF n (dc [ah (cD x),agg ⟨[ae 27,aj o,float f64 (f64.nearest (A.v:Int)),au (bJ d) 2 2,ae x.t]⟩] [al f.x e.snd,ag d [ae i.fst,ae e.fst] 3] (fun c b=>aq (bk fun(a:Int)=>ar.ef a) x F (fK c) [(0,al c.x (c.s.add c.n)),(1,F),(7170,ag n [ae 27,aj o,float f64 (f64.nearest (A.v:Int)),au (bJ d) 2 2,ae x.t] 35),(11030,ba)]))) (fun f b=>aq (bk fun(a:Int)=>ar.ef a) x F (ci b) [(0,ba),(1,F),(7170,ag n (Ca o A x) 35)])) (fun h b=>aq (bk fun(a:Int)=>ar.ef a) x F (gO h) [(0,ba),(1,F),(7170,ag n (Ca o A x) 35)])) (fun j b=>aq (bk fun(a:Int)=>ar.ef a) x F (ci b) [(0,ba),(1,F),(7170,ag n (Ca o A x) 35)]))))))))) (q1 A x F))) (q1 A x F))) (fun C b=>aq (bk fun(a:Int)=>ar.ef a) x F (gO C) (iV F)):=by
 delta j_ gD cD rT rU gW oD Ud PZ JB ME e8 T1 lF T2 mT mU dI cw kJ Ca Cu lR lS dc bJ lm fK ci gO CB EH mg fQ Aa bU Vc Cg Cf JD cW MZ oA nC F6 If je fm qF Ma EX XK EN XL HS NB P2 HI HX q1 iV dK aH al ax bT cF ae aj ah au ag ba aP az aS;obtain⟨K,x,s,os,n,tp⟩:=x;obtain⟨ih,hK,hG,hp,dP,cJ,ho⟩:=hc;replace hr:cI K x F:=hr;replace ho:bo K x (n+1) (.ef tp) s≠.out:=ho;dsimp only at ih hK hG hp dP cJ⊢;obtain⟨r,e0⟩:∃r,bo K x (n+1) (.ef tp) s=r:=⟨_,rfl⟩;rw[e0]at ho;have hk:=e0;unfold bo at hk;rw[P]at hk;have hl:=hK.len;refine ma hG hk (fun hk g1=>?_);rw[mV]at hk;have c0:x.L.length<=1048576/\s.ay.i<=1048576/\0<=1048576:=⟨hl,i_ g1.i hl,dC _⟩;have ZO:s.nodes.length<=2*s.i:=hG.nd;have ai0:=hG.l;have ai1:=hG.b;refine⟨?_,?_⟩
 ·refine bp kY ⟨x.p s.ay,0,nJ⟩ c0 (hr.ls.di 0 1 aM aM rfl rfl) fun _ _=>aG (fun h=>⟨⟨1,s.ay,[],dF,0⟩,⟨cr _,fun _=>j5 h,g1,?_⟩,aV,aB [0,1]⟩) (fun h=>⟨⟨0,s.ay,[],dF,0⟩,⟨dC _,(fun e=>nomatch e),g1,?_⟩,aV,aB [0,1]⟩)
  ·rw[show bE x.L s.ay 0 nJ=true from h]at hk;exact hk.trans e0.symm
  ·rw[show bE x.L s.ay 0 nJ=false from h]at hk;exact hk.trans e0.symm
 clear hk;rintro⟨v,t0,ks0,r0,cc⟩ js ⟨hv,GZ,-,hk⟩;replace hv:v<=1:=hv;replace GZ:v=1->s.ay.i<x.L.length:=GZ;dsimp only at hk⊢;rw[e0,Rk]at hk;have hgi:=g1.i;refine mo (A:=(uP x.L s.ay v&&bE x.L s.ay (v+1) CQ)=false) (fun kx=>bp aaG ⟨x.p s.ay,v⟩ ⟨hl,i_ g1.i hl,bd⟩ (hr.ls.di 0 1 aM aM rfl rfl) fun _ _=>aG (fun h1=>⟨aJ,kY,rfl,⟨x.p s.ay,v+1,CQ⟩,rfl,rfl,⟨hl,i_ g1.i hl,bd⟩,hr.ls.di 0 1 aM aM rfl rfl,fun _ _=>aG (fun h2=>?_) (fun h2=>kx ?_)⟩) (fun h1=>kx ?_)) (fun hx=>?_)
 ·have hx:(uP x.L s.ay v&&bE x.L s.ay (v+1) CQ)=true:=by rw[show uP x.L s.ay v=true from h1,show bE x.L s.ay (v+1) CQ=true from h2];rfl
  have ZE:=aaH hx;rw[hx,bf,CL]at hk;obtain⟨d,hd⟩:∃d,x.L[s.ay.i+v]?=some d:=⟨_,gv af⟩;obtain⟨lb,lo,mK⟩:=hr.ls.src.some af;have en:((s.ay.i:Int)+(v:Int)).toNat=s.ay.i+v:=af;rw[hd]at hk;refine⟨rfl,_,_,_,d_ fun _=>rfl,_,d_ fun _=>rfl,⟨by(try dsimp only);omega,by(try dsimp only);omega⟩,jp 5 rfl rfl rfl rfl,⟨lb,lo,x.L.length,x.lc,(s.ay.i:Int)+(v:Int)⟩,by rw[mK],⟨by(try dsimp only);omega,by(try dsimp only);omega⟩,d.text,by dsimp only;rw[en];exact hr.ls.look (j:=1) mK hd rfl,fun c=>?_⟩
  repeat (refine⟨ap,?_⟩)
  have g2:PG x ⟨s.ay.i+v+2,s.ay.nodes,s.ay.bQ,s.ay.loops,s.ay.bI⟩ os:=by
   obtain⟨a1,a2,a3,a4,a5,a6⟩:=g1;exact⟨bd,a2.same rfl,bd,bd,bd,bd⟩
  refine⟨_,d_ fun _=>rfl,⟨by(try dsimp only);omega,by(try dsimp only);omega⟩,⟨by(try dsimp only);omega,by(try dsimp only);omega⟩,gQ rfl rfl rfl,rfl,⟨x,s.ay,⟨s.ay.i+v+2,s.ay.nodes,s.ay.bQ,s.ay.loops,s.ay.bI⟩,1,_⟩,rfl,rfl,⟨fun _=>rfl,rfl,bd,rfl,rfl⟩,ao,fun _ _=>?_⟩;refine ca g2 (fL hk ho) (fun e t1 hk g3 lL lN lH lM lG lX=>?_) (cL:=ao) (cC:=ao) (cU:=ao);dsimp only[ar.sl,aw.ay,aw.add]at lL lN lH lM lG lX;refine ma g3 hk (fun hk g4=>?_);refine ca g4 (fL hk ho) (fun b t2 hk g5 So SJ Rh SB QJ W6=>?_) (cL:=ao) (cC:=ao) (cU:=(show t1.loops<((t1.i+1:Nat):Int)/\t1.bI<((t1.i+1:Nat):Int) by omega));dsimp only[ar.sl,aw.ay,aw.add]at So SJ Rh SB QJ W6;rw[jx]at hk;intro uK
  repeat (refine⟨ap,?_⟩)
  rw[alD hv];refine bV fv ⟨x,t2,⟨27,d.text,bif v==1 then ox else 0,[e,b],tp⟩,mc uK [e,b]⟩ ⟨by have:=g5.cap hl;dsimp only[aw.ay,aw.add]at*;omega,kC uK [e,b]⟩ fun _ _=>?_;exact eH (e0.trans hk.symm)
 ·rw[show bE x.L s.ay (v+1) CQ=false from h2,n6]
 ·rw[show uP x.L s.ay v=false from h1,nh]
 rw[hx,aU,Y8]at hk;intro c
 repeat (refine⟨ap,?_⟩)
 refine⟨?_,?_⟩
 ·refine aG (fun h=>?_) (fun h=>?_)
  ·have h:((v:Int)==1)=true:=h;have ev:v=1:=by
    simp at h;omega
   rw[f_ 1 h,bf]at hk;refine⟨rfl,ap,?_⟩;refine ca g1 (fL hk ho) (fun a t1 hk g2 oi ow nZ oq nR oL=>?_) (cL:=ao) (cC:=GZ ev) (cU:=ao);dsimp only[ar.sl,aw.ay,aw.add]at oi ow nZ oq nR oL;intro lb;refine mz (ks:=[]) (k:=a) 18040 BX (by simp only[gi,xA,List.length_nil];omega) (fun r2 h2=>?_);exact⟨ap,⟨v,t1,[a],r2,c⟩,⟨⟨g2,h2,af,af,af⟩,hk.trans e0.symm⟩,aV,aB [0,1,13020,998]⟩
  ·have h:((v:Int)==1)=false:=h;rw[f_ 1 h,aU]at hk;refine bp kY ⟨x.p s.ay,0,fM⟩ ⟨hl,by have:=g1.i;show s.ay.i<=1048576;omega,bd⟩ (hr.ls.di 0 1 aM aM rfl rfl) fun _ _=>?_;refine aG (fun h2=>?_) (fun h2=>?_)
   ·rw[show bE x.L s.ay 0 fM=true from h2,bf,Oc]at hk;refine⟨rfl,ap,Kh,rfl,⟨x,s.ay⟩,rfl,rfl,⟨hl,by have:=g1.cap hl;dsimp only;omega⟩,hr.ls.sub (b_ 1),fun _ _ lb=>?_⟩;refine mz (ks:=[]) (k:=(s.nodes.length:Int)) 20040 BX (by simp only[gi,xA,List.length_nil];omega) (fun r2 h2=>?_);have g2:=PG.node (n:=⟨36,.empty,0,[],(aI x.L x.fin s.ay).pos⟩) (g1.cast (dJ _).symm) (w9 hK s.ay) (by show s.nodes.length+1<=2*(s.i+1);omega);exact⟨ap,⟨v,_,[(s.nodes.length:Int)],r2,c⟩,⟨⟨g2,h2,cr _,rfl,rfl⟩,hk.trans e0.symm⟩,aV,aB [0,1,13020,998]⟩
   ·rw[show bE x.L s.ay 0 fM=false from h2,aU,eZ,pl,eZ]at hk;refine bp l9 (x.p s.ay) hl (hr.ls.di 0 1 aM aM rfl rfl) fun _ _=>?_;refine ca g1 (fL hk ho) (fun e t1 hk g2 oi ow nZ oq nR oL=>?_) (cL:=ao) (cC:=ao) (cU:=ao);dsimp only[ar.sl,aw.ay,aw.add]at oi ow nZ oq nR oL;rw[AG]at hk;have arH:=g2.nd;have g3:=PG.node (n:=⟨20,.empty,0,[e],(aI x.L x.fin s.ay).pos⟩) g2 (w9 hK s.ay) (by dsimp only[aw.ay]at*;omega);refine⟨rfl,ap,fun lb0=>?_⟩;refine bV fv ⟨x,t1,⟨20,.empty,0,[e],(aI x.L x.fin s.ay).pos⟩,mc lb0 [e]⟩ ⟨by have:=g2.cap hl;dsimp only[aw.ay,aw.add]at*;omega,kC lb0 [e]⟩ fun _ _=>?_;intro lb;refine mz (ks:=[]) (k:=(t1.nodes.length:Int)) 16080 BX (by simp only[gi,xA,List.length_nil];omega) (fun r2 h2=>?_);exact⟨ap,⟨v,_,[(t1.nodes.length:Int)],r2,c⟩,⟨⟨g3,h2,by show s.i+1<=t1.i;omega,by show t1.loops=s.loops;omega,by show t1.bI=s.bI;omega⟩,hk.trans e0.symm⟩,aV,aB [0,1,13020,998]⟩
 clear hk;rintro⟨v',t,ks,r',c⟩ js ⟨⟨g,bB,hi,f1,f2⟩,hk⟩;dsimp only at g bB hi f1 f2 hk⊢;refine⟨⟨⟨0,t,ks,r',c⟩,⟨⟨g,bB,hi,f1,f2⟩,dC _,hk⟩,aV,aB [0,1,2,3]⟩,?_⟩;clear hk g bB hi f1 f2;rintro⟨j,t,ks,r',c⟩ js ⟨⟨g,bB,hi,f1,f2⟩,hj,hk⟩;dsimp only at g bB hi f1 f2 hj hk⊢;rw[e0]at hk;have hY:=g.nd;have n_:=ra g hl;refine bl (fun h=>?_) (fun h=>?_)
 ·have s8:j=0\/j=1:=by omega
  clear hj h;rcases s8 with rfl|rfl
  ·replace hk:DN x.L x.fin K.tv n tp ks t=r:=hk;rw[DN]at hk;refine⟨Ya rfl rfl rfl rfl rfl,⟨[fM,rp],0⟩,rfl,⟨rfl,by decide⟩,?_⟩;refine ma g hk (fun hk g2=>?_);rw[IF]at hk;refine bp kY ⟨x.p t.ay,0,fM⟩ ⟨hl,by have:=g2.i;show t.ay.i<=1048576;omega,bd⟩ (hr.ls.di 0 1 aM aM rfl rfl) fun _ _=>?_;refine aG (fun h2=>?_) (fun h2=>?_)
   ·rw[show bE x.L t.ay 0 fM=true from h2,bf,Oc]at hk;refine⟨rfl,ap,Kh,rfl,⟨x,t.ay⟩,rfl,rfl,⟨hl,by have:=g2.cap hl;dsimp only;omega⟩,hr.ls.sub (b_ 1),fun _ _ lb=>?_⟩;refine mz (ks:=ks) (k:=(t.nodes.length:Int)) 26040 bB af (fun r2 h2=>?_);have g3:=PG.node (n:=⟨36,.empty,0,[],(aI x.L x.fin t.ay).pos⟩) (g2.cast (dJ _).symm) (w9 hK t.ay) (by show t.nodes.length+1<=2*(t.i+1);omega);exact⟨ap,⟨by(try dsimp only);omega,by(try dsimp only);omega⟩,⟨1,_,ks++[(t.nodes.length:Int)],r2,c⟩,⟨⟨g3.cast (lI _ _ _),h2,Nat.le_succ_of_le hi,f1,f2⟩,bd,hk.trans e0.symm⟩,aV,aB [0,1,2,3],bd⟩
   ·rw[show bE x.L t.ay 0 fM=false from h2,aU]at hk;refine⟨rfl,ap,?_⟩;refine ca g2 (fL hk ho) (fun e t1 hk g3 lL lN lH lM lG lX=>?_) (cL:=ao) (cC:=ao) (cU:=ao);dsimp only[ar.sl,aw.ay,aw.add]at lL lN lH lM lG lX;intro lb;refine mz (ks:=ks) (k:=e) 27040 bB af (fun r2 h2=>?_);exact⟨ap,⟨by(try dsimp only);omega,by(try dsimp only);omega⟩,⟨1,t1,ks++[e],r2,c⟩,⟨⟨g3.cast (lI _ _ _),h2,bd,bd,bd⟩,bd,hk.trans e0.symm⟩,aV,aB [0,1,2,3],bd⟩
  ·replace hk:Ko x.L x.fin K.tv n tp ks t=r:=hk;rw[Ko]at hk;refine⟨Ya rfl rfl rfl rfl rfl,⟨[fM,rp],1⟩,rfl,⟨rfl,by decide⟩,?_⟩;refine ma g hk (fun hk g2=>?_);rw[IF]at hk;refine bp kY ⟨x.p t.ay,0,rp⟩ ⟨hl,by have:=g2.i;show t.ay.i<=1048576;omega,bd⟩ (hr.ls.di 0 1 aM aM rfl rfl) fun _ _=>?_;refine aG (fun h2=>?_) (fun h2=>?_)
   ·rw[show bE x.L t.ay 0 rp=true from h2,bf,Oc]at hk;refine⟨rfl,ap,Kh,rfl,⟨x,t.ay⟩,rfl,rfl,⟨hl,by have:=g2.cap hl;dsimp only;omega⟩,hr.ls.sub (b_ 1),fun _ _ lb=>?_⟩;refine mz (ks:=ks) (k:=(t.nodes.length:Int)) 26040 bB af (fun r2 h2=>?_);have g3:=PG.node (n:=⟨36,.empty,0,[],(aI x.L x.fin t.ay).pos⟩) (g2.cast (dJ _).symm) (w9 hK t.ay) (by show t.nodes.length+1<=2*(t.i+1);omega);exact⟨ap,⟨by(try dsimp only);omega,by(try dsimp only);omega⟩,⟨2,_,ks++[(t.nodes.length:Int)],r2,c⟩,⟨⟨g3.cast (lI _ _ _),h2,Nat.le_succ_of_le hi,f1,f2⟩,bd,hk.trans e0.symm⟩,aV,aB [0,1,2,3],bd⟩
   ·rw[show bE x.L t.ay 0 rp=false from h2,aU]at hk;refine⟨rfl,ap,?_⟩;refine ca g2 (fL hk ho) (fun e t1 hk g3 lL lN lH lM lG lX=>?_) (cL:=ao) (cC:=ao) (cU:=ao);dsimp only[ar.sl,aw.ay,aw.add]at lL lN lH lM lG lX;intro lb;refine mz (ks:=ks) (k:=e) 27040 bB af (fun r2 h2=>?_);exact⟨ap,⟨by(try dsimp only);omega,by(try dsimp only);omega⟩,⟨2,t1,ks++[e],r2,c⟩,⟨⟨g3.cast (lI _ _ _),h2,bd,bd,bd⟩,bd,hk.trans e0.symm⟩,aV,aB [0,1,2,3],bd⟩
 ·have ej:j=2:=by omega
  subst ej;replace hk:Kq x.L x.fin K.tv n tp ks t=r:=hk;rw[Kq]at hk;refine ma g hk (fun hk g2=>?_);refine⟨rfl,ap,?_⟩;refine ca g2 (fL hk ho) (fun b t2 hk g3 lL lN lH lM lG lX=>?_) (cL:=ao) (cC:=ao) (cU:=(show t.loops<((t.i+1:Nat):Int)/\t.bI<((t.i+1:Nat):Int) by omega));dsimp only[ar.sl,aw.ay,aw.add]at lL lN lH lM lG lX;rw[jx]at hk;intro lb;refine mz (ks:=ks) (k:=b) 30040 bB af (fun r2 h2=>?_)
  repeat (refine⟨ap,?_⟩)
  refine bV fv ⟨x,t2,⟨26,.empty,0,ks++[b],tp⟩,r2⟩ ⟨by have:=g3.cap hl;dsimp only[aw.ay,aw.add]at*;omega,h2⟩ fun _ _=>?_;exact eH (e0.trans hk.symm)
theorem amw:aC 46 (bk (fun(p:Int)=>ar.ef p)):=fo 138 Tryz.func46 amv [] amu amt bz [] amx
end
section
open Go
def Bl(L:List bA)(pos:Int)(aF:List Int):PM (List Int):=do
 let t <-ie
 lV {t with bI:=t.bI-1}
 bM ⟨33,.empty,0,aF,pos⟩
def J8(L:List bA)(fin:Int)(tv:Nat->ByteArray)(f:Nat)(ks:List Int)(seen:Bool)(num:Nat)(p:Int)(all:List Int):PM (List Int):=do
 let k <-eK ⟨34,.empty,num,all,p⟩
 P L fin tv br f (.ip (ks++[k]) seen)
def QU(L:List bA)(fin:Int)(tv:Nat->ByteArray)(f:Nat)(ks:List Int)(seen:Bool)(num:Nat)(p:Int)(kc:List Int):PM (List Int):=do
 dn L fin colon
 let all <-P L fin tv br f (.iz kc)
 J8 L fin tv f ks seen num p all
structure uk where
 t:aw
 ks:List Int
 r:Row
 seen:Bool
 f:Nat
 c:Nat
structure nO where
 t:aw
 ks:List Int
 r:Row
 seen:Bool
 f:Nat
 c:Nat
 d:Nat
 kc:List Int
 rc:Row
 num:Nat
 p:Int
 f2:Nat
def nO.ok(d:nO)(x:co)(s:aw)(os:List Int)(n:Nat):Prop:=PG x d.t (os++d.ks++d.kc)/\bv 3 1 (bC d.ks) d.r/\bv 3 1 (bC d.kc) d.rc/\d.f<=n/\(0<=d.p/\d.p<=x.fin)
def H9(d:uk):=ah (some ⟨d.c,0,none⟩)
def amo(x:bg Int)(F:ai):Nat->Option Inv:=fun
 |0=>some {X:=uk,P:=fun d=>PG x.x d.t (x.os++d.ks)/\bv 3 1 (bC d.ks) d.r/\d.f<=x.n/\(P x.x.L x.x.fin x.K.tv br d.f (.ip d.ks d.seen)>>=Bl x.x.L x.t) d.t=bo x.K x.x (x.n+1) (.choose x.t) x.s,mu:=fun d=>d.f,lv:=fun d=>[(0,ah (cD x)),(5,H9 d),(6,ak d.seen)],st:=fun d=>[al x.x d.t,F,(nq d.c 33 .empty 0 d.r x.t),d.r.A]}
 |3=>some {X:=nO,gh:=some ⟨Nat,fun d=>d.f⟩,P:=fun d=>d.ok x.x x.s x.os x.n/\d.t.nodes.length+1<=2*d.t.i/\d.f2<=x.n/\((P x.x.L x.x.fin x.K.tv br d.f2 (.iz d.kc)>>=J8 x.x.L x.x.fin x.K.tv d.f d.ks d.seen d.num d.p)>>=Bl x.x.L x.t) d.t=bo x.K x.x (x.n+1) (.choose x.t) x.s,mu:=fun d=>d.f2,lv:=fun d=>[(0,ah (cD x)),(5,ah (some ⟨d.c,0,none⟩)),(6,ak d.seen),(7,ah (some ⟨d.d,0,none⟩))],st:=fun d=>[al x.x d.t,F,(nq d.c 33 .empty 0 d.r x.t),d.r.A,(nq d.d 34 .empty d.num d.rc d.p),d.rc.A]}
 |_=>none
def amn(x:bg Int)(F:ai):Nat->Option Inv:=fun
 |14=>some {X:=nO,gh:=some ⟨Nat,fun d=>d.f⟩,P:=fun d=>d.ok x.x x.s x.os x.n/\(QU x.x.L x.x.fin x.K.tv d.f d.ks d.seen d.num d.p d.kc>>=Bl x.x.L x.t) d.t=bo x.K x.x (x.n+1) (.choose x.t) x.s,mu:=fun _=>0,lv:=fun d=>[(0,.pointer (some ⟨x.x.b,0,none⟩)),(5,.pointer (some ⟨d.c,0,none⟩)),(6,.bool d.seen),(7,.pointer (some ⟨d.d,0,none⟩))],st:=fun d=>[al x.x d.t,F,nq d.c 33 .empty 0 d.r x.t,d.r.A,nq d.d 34 .empty d.num d.rc d.p,d.rc.A]}
 |_=>none
def amp(x:bg Int)(_F:ai):List (Nat×Nat×OH):=[(1,1,bq (cG x.n 44)),(1,2,.n 2020),(1,5,.n 2050),(1,6,.w (eF 2050)),(2,1,bq jd),(3,3,dm),(3,7,dO fS),(5,1,bq ja),(6,1,aX jm),(6,4,.n 7040),(6,5,.w (eF 7040)),(8,1,bq ja),(9,1,aT 7040),(9,3,bq (cG x.n 14)),(9,4,.n 10040),(9,5,.o (dt 3 1 8) [999] [998]),(9,7,.w [.z00 7040]),(10,1,aX hZ),(11,3,dm),(11,7,dO fS),(13,1,.w [.z00 7040]),(7,1,aX mD),(14,1,bq jd),
 (15,1,aX hZ),(15,5,aX hZ),(15,10,aX hZ),(16,1,aT 4),(16,3,bq (cG x.n 17)),(16,4,.n 17040),(16,5,.o (dt 3 1 8) [5] [5]),(16,7,.w [.z00 4]),(17,1,aT 2),(17,3,.q (eF 4)),(17,4,.c fR [0,5] [0]),(17,5,.n 18050),(17,6,.o (dt 3 1 8) [3] [3]),(17,8,.w [.z00 2]),(18,3,dm),(18,7,dO fS),(19,1,.q (eF 2)),(19,2,.c fR [0,3] [0])]
def M2(J:Nat)(x:bg Int):List Value:=[ae 33,aj ⟨#[]⟩,float f64 0,au (bJ J) 1 1,ae x.t]
def LM(e0:bg Int)(z:uk):=PG e0.x z.t (e0.os++z.ks)/\bv 3 1 (bC z.ks) z.r/\z.f<=e0.n/\(P e0.x.L e0.x.fin e0.K.tv br z.f (ar.ip z.ks z.seen)>>=Bl e0.x.L e0.t) z.t=bo e0.K e0.x (e0.n+1) (ar.choose e0.t) e0.s
def uY(z:uk)(e0:bg Int):List Value:=[ae 33,aj ByteArray.empty,float f64 0,au z.r.a z.r.n z.r.cap,ae e0.t]
def Nt(e0:bg Int)(z:uk)(e1:ai):=[(0,al e0.x z.t),(1,e1),(2,ag z.c (uY z e0) 35),(3,z.r.A)]
def Hy(w:c8):List Value:=[ae 34,aj ⟨#[]⟩,float f64 0,au none 0 0,ae (cu w.L w.fin w.i).pos]
def H_(z:jB)(F:ai)(B:uk)(x:bg Int)(u:Nat)(w:c8):=[(0,al z.x z.s),(1,F),(2,ag B.c (uY B x) 35),(3,B.r.A),(7040,ag u (Hy w) 35)]
def Un(z:nO)(e0:bg Int):=z.ok e0.x e0.s e0.os e0.n/\(QU e0.x.L e0.x.fin e0.K.tv z.f z.ks z.seen z.num z.p z.kc>>=Bl e0.x.L e0.t) z.t=bo e0.K e0.x (e0.n+1) (ar.choose e0.t) e0.s
def B8(z:nO)(e0:bg Int):List Value:=[ae 33,aj ByteArray.empty,float f64 0,au z.r.a z.r.n z.r.cap,ae e0.t]
def An(z:nO):List Value:=[ae 34,aj ByteArray.empty,float f64 z.num,au z.rc.a z.rc.n z.rc.cap,ae z.p]
def yj(e0:bg Int)(z:nO)(e2:ai):=[(0,al e0.x z.t),(1,e2),(2,ag z.c (B8 z e0) 35),(3,z.r.A),(4,ag z.d (An z) 35),(5,z.rc.A)]
def P3(e0:bg Int)(e1:Nat)(e2:ai)(v0 v1 v2:Value)(ss:St):=∃(z:nO),(Un z e0/\z.f=e1)/\(ah (cD e0)=ah (cD e0)/\v0=ah (some ⟨z.c,0,none⟩)/\v1=ak z.seen/\v2=ah (some ⟨z.d,0,none⟩)/\True)/\aD ss (yj e0 z e2)
def V7(x:bg Int):List Value:=[ah (cD x),ae 0,aj ⟨#[100,101,102,97,117,108,116]⟩]
def VD(x:bg Int)(h:jB)(F:ai)(B:uk)(u:Nat)(w:c8):=l6 (kJ x) (aH (H_ h F B x u w) []) (fun c b=>aq (bk fun(a:Int)=>ar.choose a) x F (kG c) (H_ h F B x u w))
def NW(a:nO)(x:bg Int)(o:Nat):=(a.ok x.x x.s x.os x.n/\a.t.nodes.length+1<=2*a.t.i/\a.f2<=x.n/\(P x.x.L x.x.fin x.K.tv br a.f2 (ar.iz a.kc)>>=J8 x.x.L x.x.fin x.K.tv a.f a.ks a.seen a.num a.p>>=Bl x.x.L x.t) a.t=bo x.K x.x (x.n+1) (ar.choose x.t) x.s)/\a.f=o
def TJ(x:bg Int)(s a:nO):=ah (cD x)=ah (cD x)/\ah (some ⟨s.c,0,none⟩)=ah (some ⟨a.c,0,none⟩)/\ak s.seen=ak a.seen/\ah (some ⟨s.d,0,none⟩)=ah (some ⟨a.d,0,none⟩)/\True
def VZ(F:ai)(n:nO)(x:bg Int):=[(0,ba),(1,F),(2,ag n.c (B8 n x) 35),(3,n.r.A),(4,ag n.d (An n) 35),(5,n.rc.A)]
def XM(e0:bg Int)(e1:ai)(v0 v1:Value)(ss:St)(mm:Nat):=∃(z:uk),LM e0 z/\(ah (cD e0)=ah (cD e0)/\v0=ah (some ⟨z.c,0,none⟩)/\v1=ak z.seen/\True)/\aD ss (Nt e0 z e1)/\z.f<mm
def LL(n:nO)(x:bg Int)(F:ai)(B:uk):=true=true/\ax n.c 3/\cF n.d (dc [ah (cD x),agg ⟨An n⟩] [al x.x n.t,n.rc.A] (fun f e=>∀(d:Nat),fQ (a8 Tryz.f48 17 6) [au n.r.a n.r.n n.r.cap,au (bJ d) 1 1] [n.r.A] (aH [(0,al f.x (f.s.add f.n)),(1,F),(2,ag n.c (B8 n x) 35),(3,n.r.A),(4,ag n.d (An n) 35),(5,ba),(18050,ag d (qF f) 3)] [3]) (fun c b=>ax n.c 3/\XM x F (ah (some ⟨n.c,0,none⟩)) (ak n.seen) [(0,al f.x (f.s.add f.n)),(1,F),(2,ag n.c [ae 33,aj ByteArray.empty,float f64 0,au b.a b.n b.cap,ae x.t] 35),(3,b.A),(4,ag n.d (An n) 35),(5,ba),(18050,ag d (qF f) 3)] B.f)))
theorem amr(x:bg Int)(F:ai)(hc:aR.cond (bk (fun(p:Int)=>ar.choose p)) x)(hr:aR.aQ (bk (fun(p:Int)=>ar.choose p)) x F):cw x.n 44 (kJ x) [al x.x x.s] (aH [(0,al x.x x.s),(1,F)] [0]) (fun L K=>∀(J I:Nat),cF I (gD [ah (cD x),aj ⟨#[123]⟩] [al L.x K.snd] (aH [(0,al L.x K.snd),(1,F),(2020,ag J (bU K) 3),(2050,ag I (M2 J x) 35)] [0]) (fun H G=>T1 (al H.x H.s.ay) ⟨x.x.b,6,none⟩ (fun E=>dw E/\dI (a8 Tryz.f48 3 7) [ah (some ⟨x.x.b,6,none⟩),ae (E+1)] [al H.x H.s.ay] (fun D C=>(∃(a:uk),LM x a/\(ah (cD x)=ah (cD x)/\ah (bJ I)=ah (some ⟨a.c,0,none⟩)/\ak false=ak a.seen/\True)/\aD [(0,al D.x D.t),(1,F),(2020,ag J (bU K) 3),(2050,ag I (M2 J x) 35)] (Nt x a F))/\aS fun(B:uk)_=>LM x B->fX [ah (cD x),aj ⟨#[125]⟩] [al x.x B.t] (aH (Nt x B F) [0]) (fun z g=>T1 (al z.x z.s.ay) ⟨x.x.b,6,none⟩ (fun f=>pY f/\dI (a8 Tryz.f48 18 7) [ah (some ⟨x.x.b,6,none⟩),ae (f-1)] [al z.x z.s.ay] (fun e d=>cF B.c (dc [ah (cD x),agg ⟨uY B x⟩] [al e.x e.t,B.r.A] (fun c b=>aq (bk fun(a:Int)=>ar.choose a) x F (fK c) [(0,al c.x (c.s.add c.n)),(1,F),(2,ag B.c (uY B x) 35),(3,ba)]))))) (fun z y=>fm (kJ x) (aH [(0,al z.x z.s),(1,F),(2,ag B.c (uY B x) 35),(3,B.r.A)] []) (fun w v=>∀(u:Nat),cF u (∃(t:Nat),fX [ah (cD x),aj ⟨#[99,97,115,101]⟩] [al z.x z.s] (aH (H_ z F B x u w) [0]) (fun h g=>true=true/\ax u 3/\cw x.n 14 (kJ x) [al h.x h.s.ay] (aH [(0,al h.x h.s.ay),(1,F),(2,ag B.c (uY B x) 35),(3,B.r.A),(7040,ag u (Hy w) 35)] [0]) (fun f e=>∀(d:Nat),fQ (a8 Tryz.f48 9 5) (Aa d) [ba] (aH [(0,al f.x e.snd),(1,F),(2,ag B.c (uY B x) 35),(3,B.r.A),(7040,ag u (Hy w) 35),(10040,ag d (bU e) 3)] [999]) (fun c b=>ax u 3/\P3 x t F (H9 B) (ak B.seen) (cW u) [(0,al f.x e.snd),(1,F),(2,ag B.c (uY B x) 35),(3,B.r.A),(998,b.A),(999,ba),(7040,ag u [ae 34,aj ⟨#[]⟩,float f64 0,au b.a b.n b.cap,ae (cu w.L w.fin w.i).pos] 35),(10040,ag d (bU e) 3)])) (fun f c=>∀(b:Tm),aq (bk fun(a:Int)=>ar.choose a) x F (ci c) [(0,ba),(1,F),(2,ag B.c (uY B x) 35),(3,B.r.A),(7040,ag u (Hy w) 35)])) (fun h g=>gW (V7 x) (aH (H_ h F B x u w) []) (fun f e=>Br (jb f.p.L (f.p.i+f.a) f.t) (Br (!B.seen) (T1 (al h.x h.s) ⟨x.x.b,1,none⟩ (fun d=>dw d/\dI (a8 Tryz.f48 11 7) [ah (some ⟨x.x.b,1,none⟩),ae (d+1)] [al h.x h.s] (fun c b=>ax u 2/\P3 x t F (H9 B) (ak true) (cW u) [(0,al c.x c.t),(1,F),(2,ag B.c (uY B x) 35),(3,B.r.A),(7040,ag u [ae 34,aj ⟨#[]⟩,float f64 4607182418800017408,au none 0 0,ae (cu w.L w.fin w.i).pos] 35)]))) (VD x h F B u w)) (VD x h F B u w)))/\aS fun(s:nO)_=>(Un s x/\s.f=t)->gD [ah (cD x),aj ⟨#[58]⟩] [al x.x s.t] (aH (yj x s F) [0]) (fun q p=>∃(o:Nat),(∃(a:nO),NW a x o/\TJ x s a/\aD [(0,al q.x q.s.ay),(1,F),(2,ag s.c (B8 s x) 35),(3,s.r.A),(4,ag s.d (An s) 35),(5,s.rc.A)] (yj x a F))/\aS fun(n:nO)_=>NW n x o->gW [ah (cD x),ae 0,aj ⟨#[99,97,115,101]⟩] (aH (yj x n F) []) (fun l k=>Br (!jb l.p.L (l.p.i+l.a) l.t) (gW (V7 x) (aH (yj x n F) []) (fun j i=>Br (!jb j.p.L (j.p.i+j.a) j.t) (gW [ah (cD x),ae 0,aj ⟨#[125]⟩] (aH (yj x n F) []) (fun h g=>Br (!jb h.p.L (h.p.i+h.a) h.t) (true=true/\ax n.d 3/\cw x.n 17 (Ct x) [al x.x n.t] (aH (yj x n F) [0]) (fun f e=>∀(d:Nat),fQ (a8 Tryz.f48 16 5) [au n.rc.a n.rc.n n.rc.cap,au (bJ d) 1 1] [n.rc.A] (aH [(0,al f.x e.snd),(1,F),(2,ag n.c (B8 n x) 35),(3,n.r.A),(4,ag n.d (An n) 35),(5,n.rc.A),(17040,ag d (bU e) 3)] [5]) (fun c b=>ax n.d 3/\∃(a:nO),NW a x o/\TJ x n a/\aD [(0,al f.x e.snd),(1,F),(2,ag n.c (B8 n x) 35),(3,n.r.A),(4,ag n.d [ae 34,aj ByteArray.empty,float f64 n.num,au b.a b.n b.cap,ae n.p] 35),(5,b.A),(17040,ag d (bU e) 3)] (yj x a F)/\a.f2<n.f2)) (fun f c=>∀(b:Tm),aq (bk fun(a:Int)=>ar.choose a) x F (ci c) (VZ F n x))) (LL n x F B))) (LL n x F B))) (LL n x F B))) (fun q b=>aq (bk fun(a:Int)=>ar.choose a) x F (gO q) (VZ F s x)))))))) (fun H b=>aq (bk fun(a:Int)=>ar.choose a) x F (gO H) [(0,ba),(1,F),(2020,ag J (bU K) 3),(2050,ag I (M2 J x) 35)]))) (fun L b=>aq (bk fun(a:Int)=>ar.choose a) x F (ci b) (iV F)):=by
 delta cw cD kJ j_ gD bU bJ M2 T1 dw mT mU dI LM uY Nt fX pY lR lS dc lm fK je fm Hy H_ mg fQ Aa Un B8 An yj P3 H9 cW ci rT rU gW V7 l6 kG VD NW TJ Ct VZ qF XM LL gO iV dK aH al ax cF ae aj ak ah au ag ba az aS;obtain⟨K,x,s,os,n,tp⟩:=x;obtain⟨ih,hK,hG,hp,dP,cJ,ho⟩:=hc;replace hr:cI K x F:=hr;replace ho:bo K x (n+1) (.choose tp) s≠.out:=ho;dsimp only at ih hK hG hp dP cJ⊢;obtain⟨r,e0⟩:∃r,bo K x (n+1) (.choose tp) s=r:=⟨_,rfl⟩;rw[e0]at ho;have hk:=e0;unfold bo at hk;rw[P]at hk;have hl:=hK.len;refine ca hG (fL hk ho) (fun c0 t1 hk g1 gJ gL gH gK gF gS=>?_) (cL:=ao) (cC:=ao) (cU:=ao);dsimp only[ar.sl,aw.ay,aw.add]at gJ gL gH gK gF gS;intro lb c
 repeat (refine⟨ap,?_⟩)
 refine ma g1 hk (fun hk g2=>?_);rw[mV,CL]at hk;have b2:=hG.b;have b3:=g2.i;refine⟨_,d_ fun _=>rfl,⟨by show-9223372036854775808<=t1.bI+1;omega,by show t1.bI+1<=9223372036854775807;have:=hG.i;omega⟩,gQ rfl rfl rfl,rfl,⟨x,t1.ay,⟨t1.ay.i,t1.ay.nodes,t1.ay.bQ,t1.ay.loops,t1.ay.bI+1⟩,6,_⟩,rfl,rfl,⟨fun _=>rfl,rfl,bd,rfl,rfl⟩,ao,fun _ _=>?_⟩;have g3:PG x ⟨t1.ay.i,t1.ay.nodes,t1.ay.bQ,t1.ay.loops,t1.ay.bI+1⟩ (os++[c0]):=g2.Rj (t:=⟨t1.ay.i,t1.ay.nodes,t1.ay.bQ,t1.ay.loops,t1.ay.bI+1⟩) rfl rfl g2.f g2.l ⟨by show 0<=t1.bI+1;omega,by show t1.bI+1<=((t1.i+1:Nat):Int);omega⟩;refine⟨⟨⟨_,[c0],mc lb [c0],false,n,c⟩,⟨g3,kC lb [c0],cr _,hk.trans e0.symm⟩,aV,aB [0,1,2050,2020]⟩,?_⟩;clear hk g3 g2 b3 g1 gJ gL gH gK gF gS;rintro⟨t,ks,r',seen,f,c⟩ js ⟨g,bB,hf,hk⟩;dsimp only at g bB hf hk⊢;rw[e0]at hk;obtain _|f:=f
 ·exact absurd hk (fun e=>ho (e.symm.trans (by rw[P];rfl)))
 replace hf:f<=n:=Nat.le_of_succ_le hf;rw[P,eZ]at hk;have n_:=ra g hl;have hY:=g.nd;refine bp kV ⟨x,t,rc⟩ ⟨hl,g.i⟩ (hr.ls.sub (b_ 1)) ⟨fun _ q=>?_,fun _ q=>?_⟩
 ·rw[ml q,bf,jf,Bl,mV,CL,jx]at hk;have g2:=g.is q;have b1:=g.b;have b4:=g.i;refine⟨_,d_ fun _=>rfl,⟨by show-9223372036854775808<=t.bI-1;omega,by show t.bI-1<=9223372036854775807;omega⟩,gQ rfl rfl rfl,rfl,⟨x,t.ay,⟨t.ay.i,t.ay.nodes,t.ay.bQ,t.ay.loops,t.ay.bI-1⟩,6,_⟩,rfl,rfl,⟨fun _=>rfl,rfl,bd,rfl,rfl⟩,ao,fun _ _=>?_⟩
  repeat (refine⟨ap,?_⟩)
  have cap:=g2.cap hl;refine bV fv ⟨x,⟨t.ay.i,t.ay.nodes,t.ay.bQ,t.ay.loops,t.ay.bI-1⟩,⟨33,.empty,0,ks,tp⟩,r'⟩ ⟨by show t.ay.nodes.length<=4194304;omega,bB⟩ fun _ _=>?_;exact eH (e0.trans hk.symm)
 rw[mW q,aU,eZ,pl,eZ]at hk;refine bp l9 (x.p t) hl (hr.ls.di 0 1 aM aM rfl rfl) fun _ _ d=>?_
 repeat (refine⟨ap,?_⟩)
 have iE:=w9 hK t;refine⟨f,?_,?_⟩
 ·skip
  refine bp kV ⟨x,t,CN⟩ ⟨hl,g.i⟩ (hr.ls.sub (b_ 1)) ⟨fun _ q=>?_,fun _ q=>?_⟩
  ·rw[ml q,bf,eZ]at hk;have g2:=g.is q;refine⟨rfl,ap,?_⟩;refine ca g2 ((CF hk ho).up hf) (fun k t1 hk g3 lL lN lH lM lG lX=>?_) (cL:=ao) (cC:=ao) (cU:=ao);dsimp only[ar.sl,aw.ay,aw.add]at lL lN lH lM lG lX;intro lb;refine mz (ks:=[]) (k:=k) 10040 BX (by simp only[gi,xA,List.length_nil];omega) (fun r2 h2=>?_);exact⟨ap,⟨t1,ks,r',seen,f,c,d,[k],r2,0,(aI x.L x.fin t).pos,0⟩,⟨⟨⟨g3,bB,h2,hf,iE⟩,hk.trans e0.symm⟩,rfl⟩,aV,aB [0,1,2,3,7040,998]⟩
  rw[mW q,aU,eZ,eZ,IF]at hk;refine bp kY ⟨x.p t,0,tT⟩ ⟨hl,by have:=g.i;show t.i<=1048576;omega,bd⟩ (hr.ls.di 0 1 aM aM rfl rfl) fun _ _=>?_;refine aG (fun h1=>?_) (fun h1=>?_)
  ·refine aG (fun h2=>?_) (fun h2=>?_)
   ·have hi:=j5 (show bE x.L t 0 tT=true from h1);rw[show bE x.L t 0 tT=true from h1,show(!seen)=true from h2,Bool.and_self,bf,eZ,mn,jf]at hk;have g2:=g.step hi;refine⟨_,d_ fun _=>rfl,oZ (i:=t.i) (i_ g.i hl),gQ rfl rfl rfl,rfl,⟨x,t,t.ay,1,_⟩,rfl,rfl,⟨fun _=>rfl,rfl,bd,rfl,rfl⟩,ao,fun _ _=>?_⟩;exact⟨ap,⟨t.ay,ks,r',true,f,c,d,[],dF,ox,(aI x.L x.fin t).pos,0⟩,⟨⟨⟨g2.cast (dJ _).symm,bB,BX,hf,iE⟩,hk.trans e0.symm⟩,rfl⟩,aV,aB [0,1,2,3,7040,999]⟩
   ·rw[show(!seen)=false from h2,n6,aU,IE]at hk;exact bp ru (x.p t) hl (hr.ls.di 0 1 aM aM rfl rfl) fun _ _=>⟨.inr (_,_),⟨_,e0.trans hk.symm⟩,rfl,aB [1]⟩
  ·rw[show bE x.L t 0 tT=false from h1,nh,aU,IE]at hk;exact bp ru (x.p t) hl (hr.ls.di 0 1 aM aM rfl rfl) fun _ _=>⟨.inr (_,_),⟨_,e0.trans hk.symm⟩,rfl,aB [1]⟩
 clear hk n_ hY q g bB hf iE;rintro⟨t,ks,r',seen,f',c,d,kc,Fd,num,p,f2⟩ js ⟨⟨⟨g,bB,xO,hf,iE⟩,hk⟩,e1⟩;have e1:f'=f:=e1;subst e1;dsimp only at g bB xO hf iE hk⊢;rw[e0,QU,eZ]at hk;have hY:=g.nd;refine ma g hk (fun hk g2=>?_);refine⟨f',⟨⟨t.ay,ks,r',seen,f',c,d,kc,Fd,num,p,f'⟩,⟨⟨⟨g2,bB,xO,hf,iE⟩,by show t.nodes.length+1<=2*(t.i+1);omega,hf,hk.trans e0.symm⟩,rfl⟩,aV,aB [0,1,2,3,4,5]⟩,?_⟩;clear hk;clear hk g bB xO iE g2 hY hf;rintro⟨t,ks,r',seen,f,c,d,kc,Fd,num,p,f2⟩ js ⟨⟨⟨g,bB,xO,hf,iE⟩,hY,mJ,hk⟩,e1⟩;have e1:f=f':=e1;subst e1;dsimp only at g bB xO hf iE hY mJ hk⊢;rw[e0]at hk;obtain _|f2:=f2
 ·exact absurd hk (fun e=>ho (e.symm.trans (by rw[P];rfl)))
 replace mJ:f2<=n:=Nat.le_of_succ_le mJ;rw[P,eZ,eZ,mV]at hk;have qr:=hf;have n_:=ra (os:=os) (ks:=ks++kc) (g.cast (lI _ _ _)) hl;rw[gi]at n_;have QS:x.L.length<=1048576/\t.i<=1048576/\0<=1048576:=⟨hl,i_ g.i hl,dC _⟩;refine mo (A:=(!bE x.L t 0 CN&&(!bE x.L t 0 tT&& !bE x.L t 0 rc))=false) (fun kx=>bp kY ⟨x.p t,0,CN⟩ QS (hr.ls.di 0 1 aM aM rfl rfl) fun _ _=>aG (fun h1=>bp kY ⟨x.p t,0,tT⟩ QS (hr.ls.di 0 1 aM aM rfl rfl) fun _ _=>aG (fun h2=>bp kY ⟨x.p t,0,rc⟩ QS (hr.ls.di 0 1 aM aM rfl rfl) fun _ _=>aG (fun h3=>?_) (fun h3=>kx ?_)) (fun h2=>kx ?_)) (fun h1=>kx ?_)) (fun hx=>?_)
 ·rw[show(!bE x.L t 0 CN)=true from h1,show(!bE x.L t 0 tT)=true from h2,show(!bE x.L t 0 rc)=true from h3,Bool.and_self,Bool.and_self,bf,eZ]at hk;refine⟨rfl,ap,?_⟩;replace hf:=mJ;refine ca g ((fL hk ho).up hf) (fun k t1 hk g1 gJ gL gH gK gF gS=>?_) (cL:=ao) (cC:=ao) (cU:=ao);dsimp only[ar.sl,aw.ay,aw.add]at gJ gL gH gK gF gS;intro lb;refine bp (kP 1 8 rfl rfl rfl rfl rfl rfl rfl (by decide)) ⟨Fd,bC kc,some ⟨lb,0,none⟩,1,1,bC [k]⟩ ⟨xO,rfl,xZ _,yH xO af,yI xO af,fun h=>nomatch h⟩ (yN 17040 rfl) fun r2 h2=>?_;replace h2:bv 3 1 (bC (kc++[k])) r2:=by rw[xY];exact h2.1
  exact⟨ap,⟨t1,ks,r',seen,f,c,d,kc++[k],r2,num,p,f2⟩,⟨⟨⟨g1.cast (lI _ _ _),bB,h2,qr,iE⟩,by(try dsimp only);omega,mJ,(eZ.trans hk).trans e0.symm⟩,rfl⟩,aV,aB [0,1,2,3,4,5],jj _⟩
 ·rw[show(!bE x.L t 0 rc)=false from h3,n6,n6]
 ·rw[show(!bE x.L t 0 tT)=false from h2,nh,n6]
 ·rw[show(!bE x.L t 0 CN)=false from h1,nh]
 rw[hx,aU,jf,J8,eZ,AG]at hk;refine⟨rfl,ap,?_⟩
 repeat (refine⟨ap,?_⟩)
 have g3:=PG.node (n:=⟨34,.empty,num,kc,p⟩) g iE hY;refine bV fv ⟨x,t,⟨34,.empty,num,kc,p⟩,Fd⟩ ⟨by have:=g.cap hl;dsimp only[aw.ay,aw.add]at*;omega,xO⟩ fun _ _=>?_;intro lb;refine mz (ks:=ks) (k:=(t.nodes.length:Int)) 18050 bB af (fun r2 h2=>?_);exact⟨ap,⟨_,_,r2,seen,f,c⟩,⟨g3.cast (lI _ _ _),h2,hf,hk.trans e0.symm⟩,aV,aB [0,1,2,3],jj _⟩
theorem amq:aC 48 (bk (fun(p:Int)=>ar.choose p)):=fo 96 Tryz.func48 amp [] amo amn bz [] amr
end
end Go.Proofs.YtdkchodgklpomaaGreatDoor
