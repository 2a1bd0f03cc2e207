/- Part of the proof that ParseShape answers true at every input. -/
import Derived.Test.YtdkchodgklpomaaGreatDoorPSao
set_option linter.all false
namespace Go.Proofs.YtdkchodgklpomaaGreatDoor
set_option maxRecDepth 100000
open Go.Value (int slice string bool pointer agg tuple func float iface nilIface)
open Go.IntKind (i64 u8 u64 i32 u32 u16 i8 i16)
open Go.FloatKind (f64)
open Go.Ending (returned panicked)
section
open Go
def iG(L:List bA)(fin:Int)(tv:Nat->ByteArray)(f:Nat)(x:bA)(body:Bool):Option (PM (List Int)):=
 bif bW x.text nJ then some (do
  let v <-one (P L fin tv br f .vars)
  fy L fin
  ret [v])
 else bif dy [sa,r9,r_,tV] x.text then some (P L fin tv br f (.simple x))
 else bif bW x.text vd then some (bif !body then m9 L fin else P L fin tv br f (.func 35))
 else bif bW x.text CP then some (do
  gA
  let c <-one (P L fin tv br f .paren)
  let a <-one (P L fin tv br f (.cS false))
  let g <-eg L WZ
  let ks <-bif g then P L fin tv br f (.cS false) else ret []
  bM ⟨24,.empty,0,[c,a]++ks,x.pos⟩)
 else bif bW x.text CS then some (do
  gA
  let c <-one (P L fin tv br f .paren)
  let b <-one (P L fin tv br f .loop)
  bM ⟨25,.empty,0,[c,b],x.pos⟩)
 else bif bW x.text CO then some (do
  gA
  P L fin tv br f (.ef x.pos))
 else bif bW x.text CR then some (do
  gA
  P L fin tv br f (.eQ x.pos))
 else bif bW x.text Ft then some (do
  gA
  P L fin tv br f (.choose x.pos))
 else none
def mX(L:List bA)(fin:Int)(tv:Nat->ByteArray)(f:Nat)(x:bA)(body:Bool)(s:aw):PR (List Int):=match iG L fin tv f x body with
 |some m=>m s
 |none=>.out
def AN:List ByteArray:=[sa,r9,r_,tV]
def yV:List ByteArray:=[CP,CS,CO,CR,Ft]
structure kO where
 K:cj
 x:co
 s:aw
 os:List Int
 n:Nat
 d:bA
 body:Bool
def mq:aR where
 X:=kO
 Y:=(Int×aw×Bool) ⊕ (Int×Int)
 args x:=[.pointer (some ⟨x.x.b,0,none⟩),.agg #[.int .i64 x.d.kind,.string x.d.text,.float .f64 x.d.num,.int .i64 x.d.pos,.bool x.d.aK],.bool x.body]
 pre x:=[al x.x x.s]
 cond x:=(∀bO,aC bO (cG x.n bO))/\iu x.K x.x/\PG x.x x.s x.os/\x.d=aI x.x.L x.x.fin x.s/\x.s.i<x.x.L.length/\(iG x.x.L x.x.fin x.K.tv x.n x.d x.body=none\/mX x.x.L x.x.fin x.K.tv x.n x.d x.body x.s≠.out)
 aQ x F:=cI x.K x.x F
 cd x y:=match y with
  | .inl a=>(a.2.2=true/\mX x.x.L x.x.fin x.K.tv x.n x.d x.body x.s= .ok [a.1] a.2.1)\/(a.2.2=false/\iG x.x.L x.x.fin x.K.tv x.n x.d x.body=none/\a.2.1=x.s)
  | .inr a=>∃t,mX x.x.L x.x.fin x.K.tv x.n x.d x.body x.s= .stop a.1 a.2 t
 val x y:=match y with
  | .inl a=>.returned (.tuple #[.int .i64 a.1,.bool a.2.2])
  | .inr a=>.panicked [⟨jy a.1 a.2,false,false⟩]
 post x y:=match y with
  | .inl a=>[al x.x a.2.1]
  | .inr _=>[]
 eX _ _ _ hs h:=cI.sub hs h
 sum:=some (iX (Int×aw×Bool) (Int×Int))
def ny(x:kO):Option Addr:=some ⟨x.x.b,0,none⟩
def aqd(x:kO)(F:ai):Nat->Option Inv:=fun
 |11=>some {X:=jC,P:=fun _=>bW x.d.text nJ=false,mu:=fun _=>0,lv:=fun d=>[(0,ah (ny x)),(2,ak x.body),(4,qD d),(12,aj x.d.text),(20,ak (dy AN x.d.text))],st:=fun d=>[al x.x x.s,F,Hc d.c x.d]}
 |21=>some {X:=jC,P:=fun _=>bW x.d.text nJ=false/\dy AN x.d.text=false/\bW x.d.text vd=false,mu:=fun _=>0,lv:=fun d=>[(0,ah (ny x)),(4,qD d),(36,ak (dy yV x.d.text))],st:=fun d=>[al x.x x.s,F,Hc d.c x.d]}
 |_=>none
def aqe(x:kO)(_F:ai):List (Nat×Nat×OH):=[(0,0,.n 1000),(1,1,aT 1000),(4,1,bq (cG x.n 41)),(5,1,bq tM),(11,1,.q (eF 2)),(11,2,bq (cG x.n 42)),(14,1,aX mD),(15,1,bq (cG x.n 43)),(21,3,dm),(21,7,dO fS),(22,1,aT 2),
 (24,1,bq (cG x.n 44)),(24,2,.n 25020),(25,2,bq (cG x.n 17)),(25,3,.n 26030),(25,4,.o (dt 3 1 8) [25020] [25020]),(26,1,bq ja),(27,2,bq (cG x.n 17)),(27,3,.n 28030),(27,4,.o (dt 3 1 8) [25020] [25020]),(28,3,aT 2),(28,5,.c fR [0,25020] [0]),
 (30,1,bq (cG x.n 44)),(30,2,.n 31020),(31,2,bq (cG x.n 45)),(31,3,.n 32030),(31,4,.o (dt 3 1 8) [31020] [31020]),(32,3,aT 2),(32,5,.c fR [0,31020] [0]),
 (34,2,aT 2),(34,3,bq (cG x.n 46)),(36,2,aT 2),(36,3,bq (cG x.n 47)),(37,2,aT 2),(37,3,bq (cG x.n 48))]
theorem KD(a:ByteArray)(l:List ByteArray)(t:ByteArray):dy (a::l) t=(bW t a||dy l t):=rfl
theorem KF(t:ByteArray):dy [] t=false:=rfl
def Cz(x:kO):List Value:=[ah (ny x)]
def q6(e0:kO):List Value:=[ae e0.d.kind,aj e0.d.text,float f64 e0.d.num,ae e0.d.pos,ak e0.d.aK]
def EK(x:kO)(F:ai)(z:Nat):=[(0,al x.x x.s),(1,F),(1000,ag z (q6 x) 53)]
def rN(e0:kO)(e1:ai)(z:jC):=[(0,al e0.x e0.s),(1,e1),(2,ag z.c (q6 e0) 53)]
def F7(e0:kO)(e1:ai)(v0 v1:Value)(ss:St):=∃(z:jC),bW e0.d.text nJ=false/\(ah (ny e0)=ah (ny e0)/\ak e0.body=ak e0.body/\v0=ah (yz z)/\aj e0.d.text=aj e0.d.text/\v1=ak (dy AN e0.d.text)/\True)/\aD ss (rN e0 e1 z)
def E_(x:kO)(F:ai)(y:jC):pA->Int×aw->Prop:=fun c a=>aq mq x F (az (tuple ⟨[ae a.fst,ak true]⟩)) [(0,al c.x a.snd),(1,F),(2,ag y.c (q6 x) 53)]
def Ex(x:kO)(F:ai)(y:jC):pA->Int×Int->Prop:=fun c b=>aq mq x F (ci b) [(0,ba),(1,F),(2,ag y.c (q6 x) 53)]
def Nc(x:kO):=x.d.text.toList==(ByteArray.mk #[105,102]).toList
def Vq(e0:kO):=bW e0.d.text nJ=false/\dy AN e0.d.text=false/\bW e0.d.text vd=false
def Dh(e0:kO)(e1:ai)(v0 v1:Value)(ss:St):=∃(z:jC),Vq e0/\(ah (ny e0)=ah (ny e0)/\v0=ah (yz z)/\v1=ak (dy yV e0.d.text)/\True)/\aD ss (rN e0 e1 z)
def MX(x:kO):=x.d.text.toList==(ByteArray.mk #[119,104,105,108,101]).toList
def M6(x:kO):=x.d.text.toList==(ByteArray.mk #[102,111,114]).toList
def M7(x:kO):=x.d.text.toList==(ByteArray.mk #[116,114,121]).toList
def EF(s:vq)(F:ai)(v:jC)(x:kO):=aH [(0,al s.x s.t),(1,F),(2,ag v.c (q6 x) 53)] [0]
def U0(x:kO)(c:Row):List Value:=[ah (ny x),agg ⟨[ae 24,aj ⟨#[]⟩,float f64 0,au c.a c.n c.cap,ae x.d.pos]⟩]
def MY(b:qc):=az (tuple ⟨[ae ↑b.s.nodes.length,ak true]⟩)
def NK(x:kO):List Value:=[ah (ny x),ae x.d.pos]
theorem aqg(x:kO)(F:ai)(hc:mq.cond x)(hr:mq.aQ x F):∀(z:Nat),ax z 1/\Br (x.d.text.toList==(ByteArray.mk #[118,97,114]).toList) (cw x.n 41 (Cz x) [al x.x x.s] (aH (EK x F z) [0]) (fun d c=>Dg (Cz x) [al d.x c.snd] (aH [(0,al d.x c.snd),(1,F),(1000,ag z (q6 x) 53)] [0]) (fun b a=>aq mq x F (az (tuple ⟨[ae c.fst,ak true]⟩)) [(0,al b.x a),(1,F),(1000,ag z (q6 x) 53)]) (fun b a=>aq mq x F (dK a 60) [(0,ba),(1,F),(1000,ag z (q6 x) 53)])) (fun d b=>aq mq x F (ci b) [(0,ba),(1,F),(1000,ag z (q6 x) 53)])) (Br (x.d.text.toList==H8.toList) (F7 x F (cW z) (ak (x.d.text.toList==H8.toList)) (EK x F z)) (Br (x.d.text.toList==Ie.toList) (F7 x F (cW z) (ak (x.d.text.toList==Ie.toList)) (EK x F z)) (Br (x.d.text.toList==H3.toList) (F7 x F (cW z) (ak (x.d.text.toList==H3.toList)) (EK x F z)) (F7 x F (cW z) (ak (x.d.text.toList==(ByteArray.mk #[116,104,114,111,119]).toList)) (EK x F z))))/\aS fun(y:jC)_=>bW x.d.text nJ=false->Br (dy AN x.d.text) (cF y.c (cw x.n 42 [ah (ny x),agg ⟨q6 x⟩] [al x.x x.s] (aH (rN x F y) [0]) (E_ x F y) (Ex x F y))) (Br (x.d.text.toList==(ByteArray.mk #[102,117,110,99,116,105,111,110]).toList) (Br (!x.body) (l6 (Cz x) (aH (rN x F y) []) (fun b a=>aq mq x F (kG b) (rN x F y))) (cw x.n 43 [ah (ny x),ae 35] [al x.x x.s] (aH (rN x F y) [0]) (E_ x F y) (Ex x F y))) (Br (Nc x) (Dh x F (qD y) (ak (Nc x)) (rN x F y)) (Br (MX x) (Dh x F (qD y) (ak (MX x)) (rN x F y)) (Br (M6 x) (Dh x F (qD y) (ak (M6 x)) (rN x F y)) (Br (M7 x) (Dh x F (qD y) (ak (M7 x)) (rN x F y)) (Dh x F (qD y) (ak (x.d.text.toList==(ByteArray.mk #[115,119,105,116,99,104]).toList)) (rN x F y)))))/\aS fun(v:jC)_=>Vq x->Br (dy yV x.d.text) (T1 (al x.x x.s) ⟨x.x.b,1,none⟩ (fun t=>dw t/\dI (a8 Tryz.f32 21 7) [ah (some ⟨x.x.b,1,none⟩),ae (t+1)] [al x.x x.s] (fun s r=>ax v.c 1/\Br (Nc x) (cw x.n 44 (Cz x) [al s.x s.t] (EF s F v x) (fun q p=>∀(o:Nat),cw x.n 17 [ah (ny x),ak false] [al q.x p.snd] (aH [(0,al q.x p.snd),(1,F),(2,ag v.c (q6 x) 53),(25020,ag o (bU p) 3)] [0]) (fun n m=>∀(l:Nat),fQ (a8 Tryz.f32 25 4) [au (bJ o) 1 1,au (bJ l) 1 1] [ag o (bU p) 3] (aH [(0,al n.x m.snd),(1,F),(2,ag v.c (q6 x) 53),(25020,ag o (bU p) 3),(26030,ag l (bU m) 3)] [25020]) (fun k j=>fX [ah (ny x),aj ⟨#[101,108,115,101]⟩] [al n.x m.snd] (aH [(0,al n.x m.snd),(1,F),(2,ag v.c (q6 x) 53),(25020,j.A),(26030,ag l (bU m) 3)] [0]) (fun i h=>cw x.n 17 [ah (ny x),ak false] [al i.x i.s.ay] (aH [(0,al i.x i.s.ay),(1,F),(2,ag v.c (q6 x) 53),(25020,j.A),(26030,ag l (bU m) 3)] [0]) (fun g f=>∀(e:Nat),fQ (a8 Tryz.f32 27 4) (wu j e) [j.A] (aH [(0,al g.x f.snd),(1,F),(2,ag v.c (q6 x) 53),(25020,j.A),(26030,ag l (bU m) 3),(28030,ag e (bU f) 3)] [25020]) (fun d c=>ax v.c 3/\dc (U0 x c) [al g.x f.snd,c.A] (fun b a=>aq mq x F (MY b) [(0,al b.x (b.s.add b.n)),(1,F),(2,ag v.c (q6 x) 53),(25020,ba),(26030,ag l (bU m) 3),(28030,ag e (bU f) 3)]))) (fun g b=>aq mq x F (ci b) [(0,ba),(1,F),(2,ag v.c (q6 x) 53),(25020,j.A),(26030,ag l (bU m) 3)])) (fun i c=>ax v.c 3/\dc (U0 x j) [al i.x i.s,j.A] (fun b a=>aq mq x F (MY b) [(0,al b.x (b.s.add b.n)),(1,F),(2,ag v.c (q6 x) 53),(25020,ba),(26030,ag l (bU m) 3)])))) (fun n b=>aq mq x F (ci b) [(0,ba),(1,F),(2,ag v.c (q6 x) 53),(25020,ag o (bU p) 3)])) (fun q b=>aq mq x F (ci b) [(0,ba),(1,F),(2,ag v.c (q6 x) 53)])) (Br (MX x) (cw x.n 44 (Cz x) [al s.x s.t] (EF s F v x) (fun j i=>∀(h:Nat),cw x.n 45 (Cz x) [al j.x i.snd] (aH [(0,al j.x i.snd),(1,F),(2,ag v.c (q6 x) 53),(31020,ag h (bU i) 3)] [0]) (fun g f=>∀(e:Nat),fQ (a8 Tryz.f32 31 4) [au (bJ h) 1 1,au (bJ e) 1 1] [ag h (bU i) 3] (aH [(0,al g.x f.snd),(1,F),(2,ag v.c (q6 x) 53),(31020,ag h (bU i) 3),(32030,ag e (bU f) 3)] [31020]) (fun d c=>ax v.c 3/\dc [ah (ny x),agg ⟨[ae 25,aj ⟨#[]⟩,float f64 0,au c.a c.n c.cap,ae x.d.pos]⟩] [al g.x f.snd,c.A] (fun b a=>aq mq x F (MY b) [(0,al b.x (b.s.add b.n)),(1,F),(2,ag v.c (q6 x) 53),(31020,ba),(32030,ag e (bU f) 3)]))) (fun g b=>aq mq x F (ci b) [(0,ba),(1,F),(2,ag v.c (q6 x) 53),(31020,ag h (bU i) 3)])) (fun j b=>aq mq x F (ci b) [(0,ba),(1,F),(2,ag v.c (q6 x) 53)])) (Br (M6 x) (ax v.c 3/\cw x.n 46 (NK x) [al s.x s.t] (EF s F v x) (E_ x F v) (Ex x F v)) (Br (M7 x) (ax v.c 3/\cw x.n 47 (NK x) [al s.x s.t] (EF s F v x) (E_ x F v) (Ex x F v)) (ax v.c 3/\cw x.n 48 (NK x) [al s.x s.t] (EF s F v x) (E_ x F v) (Ex x F v)))))))) (aq mq x F NM (rN x F v))))):=by
 delta cw ny Cz q6 EK oA nC Dg ci H8 yz rN F7 bJ cW Ie H3 E_ Ex je l6 kG Nc Vq Dh qD MX M6 M7 T1 dw mT mU dI EF bU mg fQ j_ fX wu lR lS dc U0 MY NK NM dK aH al ax cF ae aj ak ah au ag ba az aS;obtain⟨K,x,s,os,n,d,body⟩:=x;obtain⟨ih,hK,hG,hd,hi,xL⟩:=hc;replace hr:cI K x F:=hr;dsimp only at ih hK hG hd hi xL⊢;have hl:=hK.len;have hp:0<=d.pos/\d.pos<=x.fin:=by rw[hd];exact w9 hK s
 obtain⟨r,e0⟩:∃r,mX x.L x.fin K.tv n d body s=r:=⟨_,rfl⟩;clear hd;intro c
 repeat (refine⟨ap,?_⟩)
 refine aG (fun h1=>?_) (fun h1=>?_)
 ·rw[gj]at h1;replace h1:bW d.text nJ=true:=h1;have hk:=e0;simp only[mX,iG,h1,bf,aU]at hk;have ho:r≠.out:=by
   rcases xL with h|h
   ·exfalso;revert h;simp[iG,h1]
   ·rw[e0]at h;exact h
  refine ca hG (fL hk ho) (fun v t1 hk g1 gJ gL gH gK gF gS=>?_) (cL:=ao) (cC:=hi) (cU:=ao);dsimp only[ar.sl,aw.ay,aw.add]at gJ gL gH gK gF gS;refine bp WO ⟨x,t1⟩ ⟨hl,g1.i⟩ (hr.ls.sub (b_ 1)) ⟨fun u q=>?_,fun p q=>⟨.inr (p,60),⟨_,e0.trans (hk.symm.trans (WX q))⟩,rfl,aB [1]⟩⟩;rw[WW q,CK]at hk;exact Kc (e0.trans hk.symm)
 rw[gj]at h1;replace h1:bW d.text nJ=false:=h1;refine⟨?_,?_⟩
 ·refine aG (fun e1=>⟨⟨c⟩,h1,⟨rfl,rfl,rfl,rfl,?_,ao⟩,aB [0,1,1000]⟩) (fun e1=>aG (fun e2=>⟨⟨c⟩,h1,⟨rfl,rfl,rfl,rfl,?_,ao⟩,aB [0,1,1000]⟩) (fun e2=>aG (fun e3=>⟨⟨c⟩,h1,⟨rfl,rfl,rfl,rfl,?_,ao⟩,aB [0,1,1000]⟩) (fun e3=>⟨⟨c⟩,h1,⟨rfl,rfl,rfl,rfl,?_,ao⟩,aB [0,1,1000]⟩)))
  all_goals
   simp only[gj]at*;show bool (bW d.text _)=bool (dy AN d.text);congr 1;simp only[AN,KD,KF,sa,r9,r_,tV, *,Bool.true_or,Bool.false_or,Bool.or_false]
 rintro⟨c⟩ js-;refine aG (fun h2=>?_) (fun h2=>?_)
 ·have jV:dy [sa,r9,r_,tV] d.text=true:=h2;have hk:=e0;simp only[mX,iG,h1,jV,bf,aU]at hk;have ho:r≠.out:=by
   rcases xL with h|h
   ·exfalso;revert h;simp[iG,h1,jV]
   ·rw[e0]at h;exact h
  repeat (refine⟨ap,?_⟩)
  exact ca hG (wI hk ho) (fun _ _ q _ _ _ _ _ _ _=>⟨.inl (_,_,true),.inl ⟨rfl,e0.trans q.symm⟩,rfl,aB [0,1]⟩) (cL:=hp) (cC:=hi) (cU:=ao)
 replace h2:dy AN d.text=false:=h2;refine aG (fun h3=>?_) (fun h3=>?_)
 ·rw[gj]at h3;replace h3:bW d.text vd=true:=h3;have jV:dy [sa,r9,r_,tV] d.text=false:=h2;have hk:=e0;simp only[mX,iG,h1,jV,h3,bf,aU]at hk;have ho:r≠.out:=by
   rcases xL with h|h
   ·exfalso;revert h;simp[iG,h1,jV,h3]
   ·rw[e0]at h;exact h
  refine aG (fun hb=>?_) (fun hb=>?_)
  ·rw[hb,bf]at hk;exact bp ru (x.p s) hl (hr.ls.di 0 1 aM aM rfl rfl) fun _ _=>⟨.inr (_,_),⟨_,e0.trans hk.symm⟩,rfl,aB [1]⟩
  ·rw[hb,aU]at hk;exact ca hG (wI hk ho) (fun _ _ q _ _ _ _ _ _ _=>⟨.inl (_,_,true),.inl ⟨rfl,e0.trans q.symm⟩,rfl,aB [0,1]⟩) (cL:=ao) (cC:=hi) (cU:=ao)
 rw[gj]at h3;replace h3:bW d.text vd=false:=h3;refine⟨?_,?_⟩
 ·refine aG (fun e1=>⟨⟨c⟩,⟨h1,h2,h3⟩,⟨rfl,rfl,?_,ao⟩,aB [0,1,2]⟩) (fun e1=>aG (fun e2=>⟨⟨c⟩,⟨h1,h2,h3⟩,⟨rfl,rfl,?_,ao⟩,aB [0,1,2]⟩) (fun e2=>aG (fun e3=>⟨⟨c⟩,⟨h1,h2,h3⟩,⟨rfl,rfl,?_,ao⟩,aB [0,1,2]⟩) (fun e3=>aG (fun e4=>⟨⟨c⟩,⟨h1,h2,h3⟩,⟨rfl,rfl,?_,ao⟩,aB [0,1,2]⟩) (fun e4=>⟨⟨c⟩,⟨h1,h2,h3⟩,⟨rfl,rfl,?_,ao⟩,aB [0,1,2]⟩))))
  all_goals
   simp only[gj]at*;show bool (bW d.text _)=bool (dy yV d.text);congr 1;simp only[yV,KD,KF,CP,CS,CO,CR,Ft, *,Bool.true_or,Bool.false_or,Bool.or_false]
 rintro⟨c⟩ js-;refine aG (fun h4=>?_) (fun h4=>?_);rotate_left
 ·have h4:dy yV d.text=false:=h4;simp only[yV,KD,KF,Bool.or_false,Bool.or_eq_false_iff]at h4;obtain⟨a1,a2,a3,a4,a5⟩:=h4;have hm:iG x.L x.fin K.tv n d body=none:=by unfold iG;rw[h1,show dy [sa,r9,r_,tV] d.text=false from h2,h3,a1,a2,a3,a4,a5];rfl
  exact⟨.inl (0,s,false),.inr ⟨rfl,hm,rfl⟩,rfl,aB [0,1]⟩
 have g1:=hG.step hi;have ai0:=hG.l;have ai1:=hG.b;refine⟨_,d_ fun _=>rfl,oZ (i:=s.i) (i_ hG.i hl),gQ rfl rfl rfl,rfl,⟨x,s,s.ay,1,_⟩,rfl,rfl,⟨fun _=>rfl,rfl,bd,rfl,rfl⟩,ao,fun _ _=>?_⟩;refine⟨ap,?_⟩;have jV:dy [sa,r9,r_,tV] d.text=false:=h2;refine aG (fun a1=>?_) (fun a1=>?_)
 ·rw[gj]at a1;replace a1:bW d.text CP=true:=a1;have hk:=e0;simp only[mX,iG,h1,jV,h3,a1,bf,aU]at hk;have ho:r≠.out:=by
   rcases xL with h|h
   ·exfalso;revert h;simp[iG,h1,jV,h3,a1]
   ·rw[e0]at h;exact h
  rw[mn]at hk;refine ca g1 (fL hk ho) (fun c0 t1 hk g2 oi ow nZ oq nR oL=>?_) (cL:=ao) (cC:=ao) (cU:=ao);dsimp only[ar.sl,aw.ay,aw.add]at oi ow nZ oq nR oL;intro lb;refine ca g2 (fL hk ho) (fun a t2 hk g3 lL lN lH lM lG lX=>?_) (cL:=ao) (cC:=ao) (cU:=ao);dsimp only[ar.sl,aw.ay,aw.add]at lL lN lH lM lG lX;intro uK;refine bp (kP 1 8 rfl rfl rfl rfl rfl rfl rfl (by decide)) ⟨mc lb [c0],bC [c0],some ⟨uK,0,none⟩,1,1,bC [a]⟩ ⟨kC lb [c0],rfl,xZ _,yH (kC lb [c0]) aM,yI (kC lb [c0]) aM,fun h=>nomatch h⟩ (yN 26030 rfl) fun r2 h2=>?_;replace h2:bv 3 1 (bC ([c0]++[a])) r2:=by rw[xY];exact h2.1
  refine bp kV ⟨x,t2,WZ⟩ ⟨hl,g3.i⟩ (hr.ls.sub (b_ 1)) ⟨fun _ q=>?_,fun _ q=>?_⟩
  ·rw[ml q,bf]at hk;have g4:=g3.is q;refine ca g4 (CF hk ho) (fun b t3 hk g5 So SJ Rh SB QJ W6=>?_) (cL:=ao) (cC:=ao) (cU:=ao);dsimp only[ar.sl,aw.ay,aw.add]at So SJ Rh SB QJ W6;rw[jx]at hk;intro Ha;refine bp (kP 1 8 rfl rfl rfl rfl rfl rfl rfl (by decide)) ⟨r2,bC ([c0]++[a]),some ⟨Ha,0,none⟩,1,1,bC [b]⟩ ⟨h2,rfl,xZ _,yH h2 aM,yI h2 aM,fun h=>nomatch h⟩ (yN 28030 rfl) fun r3 h3=>?_;replace h3:bv 3 1 (bC ([c0,a]++[b])) r3:=by rw[show[c0,a]++[b]=[c0]++[a]++[b]from rfl,xY];exact h3.1
   refine⟨ap,?_⟩;refine bV fv ⟨x,t3,⟨24,.empty,0,[c0,a]++[b],d.pos⟩,r3⟩ ⟨by have:=g5.cap hl;dsimp only[aw.ay,aw.add]at*;omega,h3⟩ fun _ _=>?_;exact Kc (e0.trans hk.symm)
  ·rw[mW q,aU,jf,jx]at hk;refine⟨ap,?_⟩;refine bV fv ⟨x,t2,⟨24,.empty,0,[c0,a]++[],d.pos⟩,r2⟩ ⟨by have:=g3.cap hl;dsimp only[aw.ay,aw.add]at*;omega,h2⟩ fun _ _=>?_;exact Kc (e0.trans hk.symm)
 rw[gj]at a1;replace a1:bW d.text CP=false:=a1;refine aG (fun a2=>?_) (fun a2=>?_)
 ·rw[gj]at a2;replace a2:bW d.text CS=true:=a2;have hk:=e0;simp only[mX,iG,h1,jV,h3,a1,a2,bf,aU]at hk;have ho:r≠.out:=by
   rcases xL with h|h
   ·exfalso;revert h;simp[iG,h1,jV,h3,a1,a2]
   ·rw[e0]at h;exact h
  rw[mn]at hk;refine ca g1 (fL hk ho) (fun c0 t1 hk g2 oi ow nZ oq nR oL=>?_) (cL:=ao) (cC:=ao) (cU:=ao);dsimp only[ar.sl,aw.ay,aw.add]at oi ow nZ oq nR oL;intro lb;refine ca g2 (fL hk ho) (fun a t2 hk g3 lL lN lH lM lG lX=>?_) (cL:=ao) (cC:=ao) (cU:=(show t1.loops<(t1.i:Int)/\t1.bI<(t1.i:Int) by omega));dsimp only[ar.sl,aw.ay,aw.add]at lL lN lH lM lG lX;rw[jx]at hk;intro uK;refine bp (kP 1 8 rfl rfl rfl rfl rfl rfl rfl (by decide)) ⟨mc lb [c0],bC [c0],some ⟨uK,0,none⟩,1,1,bC [a]⟩ ⟨kC lb [c0],rfl,xZ _,yH (kC lb [c0]) aM,yI (kC lb [c0]) aM,fun h=>nomatch h⟩ (yN 32030 rfl) fun r2 h2=>?_;replace h2:bv 3 1 (bC ([c0]++[a])) r2:=by rw[xY];exact h2.1
  refine⟨ap,?_⟩;refine bV fv ⟨x,t2,⟨25,.empty,0,[c0,a],d.pos⟩,r2⟩ ⟨by have:=g3.cap hl;dsimp only[aw.ay,aw.add]at*;omega,h2⟩ fun _ _=>?_;exact Kc (e0.trans hk.symm)
 rw[gj]at a2;replace a2:bW d.text CS=false:=a2;refine aG (fun a3=>?_) (fun a3=>?_)
 ·rw[gj]at a3;replace a3:bW d.text CO=true:=a3;have hk:=e0;simp only[mX,iG,h1,jV,h3,a1,a2,a3,bf,aU]at hk;have ho:r≠.out:=by
   rcases xL with h|h
   ·exfalso;revert h;simp[iG,h1,jV,h3,a1,a2,a3]
   ·rw[e0]at h;exact h
  rw[mn]at hk;refine⟨ap,?_⟩;exact ca g1 (wI hk ho) (fun _ _ q _ _ _ _ _ _ _=>⟨.inl (_,_,true),.inl ⟨rfl,e0.trans q.symm⟩,rfl,aB [0,1]⟩) (cL:=hp) (cC:=ao) (cU:=ao)
 rw[gj]at a3;replace a3:bW d.text CO=false:=a3;refine aG (fun a4=>?_) (fun a4=>?_)
 ·rw[gj]at a4;replace a4:bW d.text CR=true:=a4;have hk:=e0;simp only[mX,iG,h1,jV,h3,a1,a2,a3,a4,bf,aU]at hk;have ho:r≠.out:=by
   rcases xL with h|h
   ·exfalso;revert h;simp[iG,h1,jV,h3,a1,a2,a3,a4]
   ·rw[e0]at h;exact h
  rw[mn]at hk;refine⟨ap,?_⟩;exact ca g1 (wI hk ho) (fun _ _ q _ _ _ _ _ _ _=>⟨.inl (_,_,true),.inl ⟨rfl,e0.trans q.symm⟩,rfl,aB [0,1]⟩) (cL:=hp) (cC:=ao) (cU:=ao)
 rw[gj]at a4;replace a4:bW d.text CR=false:=a4;have a5:bW d.text Ft=true:=by
  have h4:dy yV d.text=true:=h4;simpa only[yV,KD,KF,a1,a2,a3,a4,Bool.false_or,Bool.or_false]using h4
 have hk:=e0;simp only[mX,iG,h1,jV,h3,a1,a2,a3,a4,a5,bf,aU]at hk;have ho:r≠.out:=by
  rcases xL with h|h
  ·exfalso;revert h;simp[iG,h1,jV,h3,a1,a2,a3,a4,a5]
  ·rw[e0]at h;exact h
 rw[mn]at hk;refine⟨ap,?_⟩;exact ca g1 (wI hk ho) (fun _ _ q _ _ _ _ _ _ _=>⟨.inl (_,_,true),.inl ⟨rfl,e0.trans q.symm⟩,rfl,aB [0,1]⟩) (cL:=hp) (cC:=ao) (cU:=ao)
theorem aqf:aC 32 mq:=fo 106 Tryz.func32 aqe [] aY aqd bz [] aqg
def ID(L:List bA)(fin:Int)(tv:Nat->ByteArray)(f:Nat)(pos:Int):PM (List Int):=do
 let e <-one (P L fin tv br f .bx)
 fy L fin
 bM ⟨20,.empty,0,[e],pos⟩
theorem ape{L:List bA}{fin:Int}{tv:Nat->ByteArray}{f:Nat}{body:Bool}{s:aw}(h1:bE L s 0 lc=false)(h2:bE L s 0 fM=false)(h3:((aI L fin s).kind==2)=true):P L fin tv br (f+1) (.cS body) s=(match iG L fin tv f (aI L fin s) body with|some m=>m s|none=>ID L fin tv f (aI L fin s).pos s):=by
 rw[P,pl,mV,h1,aU,h2,aU,h3,bf];unfold iG;cases bW (aI L fin s).text nJ with
 |true=>rfl
 |false=>
  rw[aU,aU];cases dy [sa,r9,r_,tV] (aI L fin s).text with
  |true=>rfl
  |false=>
   rw[aU,aU];cases bW (aI L fin s).text vd with
   |true=>rfl
   |false=>
    rw[aU,aU];cases bW (aI L fin s).text CP with
    |true=>rfl
    |false=>
     rw[aU,aU];cases bW (aI L fin s).text CS with
     |true=>rfl
     |false=>
      rw[aU,aU];cases bW (aI L fin s).text CO with
      |true=>rfl
      |false=>
       rw[aU,aU];cases bW (aI L fin s).text CR with
       |true=>rfl
       |false=>
        rw[aU,aU];cases bW (aI L fin s).text Ft with
        |true=>rfl
        |false=>rfl
def anB(x:bg Bool)(F:ai):Nat->Option Inv:=fun
 |12=>some {X:=jC,P:=fun _=>ID x.x.L x.x.fin x.K.tv x.n (aI x.x.L x.x.fin x.s).pos x.s=bo x.K x.x (x.n+1) (.cS x.t) x.s,mu:=fun _=>0,lv:=fun d=>[(0,ah (j9 x)),(5,qD d)],st:=fun d=>[al x.x x.s,F,Hc d.c (aI x.x.L x.x.fin x.s)]}
 |_=>none
def anC(x:bg Bool)(_F:ai):List (Nat×Nat×OH):=[(1,1,aX jm),(1,2,.n 2020),(1,3,.w (eF 2020)),(2,1,aX hZ),(3,1,bq (cG x.n 30)),(4,1,aX hZ),(5,1,bq zs),(6,3,dm),(6,7,dO fS),(8,1,aT 2020),(9,1,.q (eF 2020)),(9,3,bq mq),(12,1,bq (cG x.n 14)),(13,1,bq tM),(14,2,.n 15020),(14,4,aT 2),(14,6,.c fR [0,15020] [0])]
def Ch(x:bg Bool)(F:ai)(o:Nat)(q:c8):=[(0,al x.x x.s),(1,F),(2020,ag o (q0 q) 53)]
def Cj(e0:bg Bool):List Value:=[ae (aI e0.x.L e0.x.fin e0.s).kind,aj (aI e0.x.L e0.x.fin e0.s).text,float f64 (aI e0.x.L e0.x.fin e0.s).num,ae (aI e0.x.L e0.x.fin e0.s).pos,ak (aI e0.x.L e0.x.fin e0.s).aK]
def P6(e0:bg Bool)(e1:ai)(v0:Value)(ss:St):=∃(z:jC),ID e0.x.L e0.x.fin e0.K.tv e0.n (aI e0.x.L e0.x.fin e0.s).pos e0.s=bo e0.K e0.x (e0.n+1) (ar.cS e0.t) e0.s/\(ah (j9 e0)=ah (j9 e0)/\v0=ah (yz z)/\True)/\aD ss [(0,al e0.x e0.s),(1,e1),(2,ag z.c (Cj e0) 53)]
theorem anE(x:bg Bool)(F:ai)(hc:aR.cond (bk (fun(b:Bool)=>ar.cS b)) x)(hr:aR.aQ (bk (fun(b:Bool)=>ar.cS b)) x F):fm [ah (j9 x)] (aH [(0,al x.x x.s),(1,F)] []) (fun q p=>∀(o:Nat),cF o (gW [ah (j9 x),ae 0,aj ⟨#[123]⟩] (aH (Ch x F o q) []) (fun n m=>Br (jb n.p.L (n.p.i+n.a) n.t) (cw x.n 30 [ah (j9 x),ak false] [al x.x x.s] (aH (Ch x F o q) [0]) (fun c b=>aq (bk fun(a:Bool)=>ar.cS a) x F (kI b) [(0,al c.x b.snd),(1,F),(2020,ag o (q0 q) 53)]) (fun c b=>aq (bk fun(a:Bool)=>ar.cS a) x F (ci b) [(0,ba),(1,F),(2020,ag o (q0 q) 53)])) (gW [ah (j9 x),ae 0,aj ⟨#[59]⟩] (aH (Ch x F o q) []) (fun l k=>Br (jb l.p.L (l.p.i+l.a) l.t) (F6 [ah (j9 x)] [al x.x x.s] (aH (Ch x F o q) [0]) (fun f e=>T1 (al f.x (f.s.add ⟨(36:Int),ByteArray.empty,0,[],(aI f.x.L f.x.fin f.s).pos⟩)) ⟨x.x.b,1,none⟩ (fun d=>dw d/\dI (a8 Tryz.f17 6 7) [ah (some ⟨x.x.b,1,none⟩),ae (d+1)] [al f.x (f.s.add ⟨(36:Int),ByteArray.empty,0,[],(aI f.x.L f.x.fin f.s).pos⟩)] (fun c b=>aq (bk fun(a:Bool)=>ar.cS a) x F (az (ae ↑f.s.nodes.length)) [(0,al c.x c.t),(1,F),(2020,ag o (q0 q) 53)])))) ((ax o 0/\Br ((cu q.L q.fin q.i).kind==2) (cF o (aC 32 mq/\true=true/\∃(c:kO),[ah (j9 x),agg ⟨q0 q⟩,ak x.t]=[ah (ny c),agg ⟨q6 c⟩,ak c.body]/\[al x.x x.s]=[al c.x c.s]/\((∀(a:FuncId),aC a (cG c.n a))/\iu c.K c.x/\PG c.x c.s c.os/\c.d=aI c.x.L c.x.fin c.s/\c.s.i<c.x.L.length/\(iG c.x.L c.x.fin c.K.tv c.n c.d c.body=none\/mX c.x.L c.x.fin c.K.tv c.n c.d c.body c.s≠PR.out))/\cI c.K c.x (aH (Ch x F o q) [0])/\(∀(b:Int×aw×Bool),(b.snd.snd=true/\mX c.x.L c.x.fin c.K.tv c.n c.d c.body c.s=PR.ok [b.fst] b.snd.fst\/b.snd.snd=false/\iG c.x.L c.x.fin c.K.tv c.n c.d c.body=none/\b.snd.fst=c.s)->Br b.snd.snd (aq (bk fun(a:Bool)=>ar.cS a) x F (az (ae b.fst)) [(0,al c.x b.snd.fst),(1,F),(2020,ag o (q0 q) 53)]) (P6 x F (cW o) [(0,al c.x b.snd.fst),(1,F),(2020,ag o (q0 q) 53)]))/\∀(b:Int×Int),(∃(a:aw),mX c.x.L c.x.fin c.K.tv c.n c.d c.body c.s=PR.stop b.fst b.snd a)->aq (bk fun(a:Bool)=>ar.cS a) x F (ci b) [(0,ba),(1,F),(2020,ag o (q0 q) 53)])) (P6 x F (cW o) (Ch x F o q)))/\aS fun(j:jC)_=>ID x.x.L x.x.fin x.K.tv x.n (aI x.x.L x.x.fin x.s).pos x.s=bo x.K x.x (x.n+1) (ar.cS x.t) x.s->cw x.n 14 [ah (j9 x)] [al x.x x.s] (aH [(0,al x.x x.s),(1,F),(2,ag j.c (Cj x) 53)] [0]) (fun h g=>Dg [ah (j9 x)] [al h.x g.snd] (aH [(0,al h.x g.snd),(1,F),(2,ag j.c (Cj x) 53)] [0]) (fun f e=>∀(d:Nat),ax j.c 3/\dc [ah (j9 x),agg ⟨[ae 20,aj ⟨#[]⟩,float f64 0,au (bJ d) 1 1,ae (aI x.x.L x.x.fin x.s).pos]⟩] [al f.x e,ag d (bU g) 3] (fun c b=>aq (bk fun(a:Bool)=>ar.cS a) x F (fK c) [(0,al c.x (c.s.add c.n)),(1,F),(2,ag j.c (Cj x) 53),(15020,ba)])) (fun f b=>aq (bk fun(a:Bool)=>ar.cS a) x F (dK b 60) [(0,ba),(1,F),(2,ag j.c (Cj x) 53)])) (fun h b=>aq (bk fun(a:Bool)=>ar.cS a) x F (ci b) [(0,ba),(1,F),(2,ag j.c (Cj x) 53)]))))))):=by
 delta je fm j9 rT rU gW q0 Ch cw kI ci oA nC F6 T1 dw mT mU dI ny q6 yz Cj P6 bJ cW Dg lR lS dc bU lm fK dK aH al ax cF ae aj ak ah au ag ba az aS;obtain⟨K,x,s,os,n,tp⟩:=x;obtain⟨ih,hK,hG,hp,dP,cJ,ho⟩:=hc;replace hr:cI K x F:=hr;replace ho:bo K x (n+1) (.cS tp) s≠.out:=ho;dsimp only at ih hK hG hp dP cJ⊢;obtain⟨r,e0⟩:∃r,bo K x (n+1) (.cS tp) s=r:=⟨_,rfl⟩;rw[e0]at ho;have hk:=e0;unfold bo at hk;rw[P]at hk;have hl:=hK.len;rw[pl,mV]at hk;refine bp l9 (x.p s) hl (hr.ls.di 0 1 aM aM rfl rfl) fun _ _ c=>?_
 repeat (refine⟨ap,?_⟩)
 refine bp kY ⟨x.p s,0,lc⟩ ⟨hl,by have:=hG.i;show s.i<=1048576;omega,bd⟩ (hr.ls.di 0 1 aM aM rfl rfl) fun _ _=>?_;refine aG (fun h1=>?_) (fun h1=>?_)
 ·rw[show bE x.L s 0 lc=true from h1,bf]at hk;exact ca hG (wI hk ho) (fun _ _ q _ _ _ _ _ _ _=>eH (e0.trans q.symm)) (cL:=ao) (cC:=ao) (cU:=ao)
 replace h1:bE x.L s 0 lc=false:=h1;rw[h1,aU]at hk;refine bp kY ⟨x.p s,0,fM⟩ ⟨hl,by have:=hG.i;show s.i<=1048576;omega,bd⟩ (hr.ls.di 0 1 aM aM rfl rfl) fun _ _=>?_;refine aG (fun h2=>?_) (fun h2=>?_)
 ·replace h2:bE x.L s 0 fM=true:=h2;rw[h2,bf,Oc,mn,CK]at hk;have hi:=j5 h2;have hY:=hG.cap hl;have jY:=hG.i;refine bp Kh ⟨x,s⟩ ⟨hl,bd⟩ (hr.ls.sub (b_ 1)) fun _ _=>?_;refine⟨_,d_ fun _=>rfl,oZ (i:=s.i) (i_ jY hl),gQ rfl rfl rfl,rfl,⟨x,s.add ⟨36,.empty,0,[],(aI x.L x.fin s).pos⟩,(s.add ⟨36,.empty,0,[],(aI x.L x.fin s).pos⟩).ay,1,_⟩,rfl,rfl,⟨fun _=>rfl,rfl,bd,rfl,rfl⟩,ao,fun _ _=>?_⟩;exact eH (e0.trans hk.symm)
 replace h2:bE x.L s 0 fM=false:=h2;rw[h2,aU]at hk;refine⟨⟨ap,aG (fun h3=>?_) (fun h3=>?_)⟩,?_⟩
 ·replace h3:((aI x.L x.fin s).kind==2)=true:=h3;have hi:s.i<x.L.length:=zD h3 (by decide);have e1:=ape (L:=x.L) (fin:=x.fin) (tv:=K.tv) (f:=n) (body:=tp) h1 h2 h3;have hw:iG x.L x.fin K.tv n (aI x.L x.fin s) tp=none\/mX x.L x.fin K.tv n (aI x.L x.fin s) tp s≠.out:=by
   cases hm:iG x.L x.fin K.tv n (aI x.L x.fin s) tp with
   |none=>exact .inl rfl
   |some m=>
    rw[hm]at e1;refine .inr fun e=>ho ?_;rw[mX,hm]at e;rw[<-e0,bo,e1];exact e
  have eR:∀{y:PR (List Int)},mX x.L x.fin K.tv n (aI x.L x.fin s) tp s=y->y≠.out->bo K x (n+1) (.cS tp) s=y:=fun{y}e hy=>by
   unfold bo;rw[e1];unfold mX at e;cases hm:iG x.L x.fin K.tv n (aI x.L x.fin s) tp with
   |none=>rw[hm]at e;exact absurd e.symm hy
   |some m=>rw[hm]at e;exact e
  repeat (refine⟨ap,?_⟩)
  refine bp aqf ⟨K,x,s,os,n,aI x.L x.fin s,tp⟩ ⟨ih,hK,hG,rfl,hi,hw⟩ (hr.sub (b_ 1)) ⟨fun a q=>aG (fun hb=>?_) (fun hb=>?_),fun a⟨u,q⟩=>⟨.inr a,⟨u,eR q (fun e=>nomatch e)⟩,rfl,aB [1]⟩⟩
  ·rcases q with⟨_,q⟩| ⟨q,_⟩
   ·exact⟨.inl (a.1,a.2.1),eR q (fun e=>nomatch e),rfl,aB [0,1]⟩
   ·rw[hb]at q;cases q
  ·rcases q with⟨q,_⟩| ⟨_,q,e⟩
   ·rw[hb]at q;cases q
   ·obtain⟨k,u,b⟩:=a;have e:u=s:=e;subst e;refine⟨⟨c⟩,?_,aV,aB [0,1,2020]⟩;have q:iG x.L x.fin K.tv n (aI x.L x.fin u) tp=none:=q;rw[q]at e1;exact e1.symm
 ·replace h3:((aI x.L x.fin s).kind==2)=false:=h3;rw[h3,aU]at hk;exact⟨⟨c⟩,hk.trans e0.symm,aV,aB [0,1,2020]⟩
 clear hk;rintro⟨c⟩ js hk;rw[e0,ID]at hk;refine ca hG (fL hk ho) (fun e t1 hk g1 gJ gL gH gK gF gS=>?_) (cL:=ao) (cC:=ao) (cU:=ao);dsimp only[ar.sl,aw.ay,aw.add]at gJ gL gH gK gF gS;refine bp WO ⟨x,t1⟩ ⟨hl,g1.i⟩ (hr.ls.sub (b_ 1)) ⟨fun u q=>?_,fun p q=>⟨.inr (p,60),⟨_,e0.trans (hk.symm.trans (WX q))⟩,rfl,aB [1]⟩⟩;rw[WW q,jx]at hk;obtain⟨g2,-⟩:=PG.yO hK g1 q;intro lb;refine⟨ap,?_⟩;refine bV fv ⟨x,u,⟨20,.empty,0,[e],(aI x.L x.fin s).pos⟩,mc lb [e]⟩ ⟨by have:=g2.cap hl;dsimp only[aw.ay,aw.add]at*;omega,kC lb [e]⟩ fun _ _=>?_;exact eH (e0.trans hk.symm)
theorem anD:aC 17 (bk (fun(b:Bool)=>ar.cS b)):=fo 53 Tryz.func17 anC [] aY anB bz [] anE
theorem S4:∀(n:Nat)(bO:FuncId),aC bO (cG n bO)
 |0,bO=>⟨fun q F I w hc hr hs=>absurd rfl hc.2.2.2.2.2.2⟩
 |n+1,bO=>⟨fun q F I w hc hr hs=>by
  have ih:=S4 n;obtain⟨K,x,s,os,tag⟩:=q;have hf:tag.bO=some bO:=hc.2.2.1;cases tag with
  |bx=>cases hf;exact(oy ag_ (fun tag h=>by cases tag <;> first|exact⟨(),rfl⟩|cases h) ih).h _ F I w hc hr hs
  |cond=>cases hf;exact(oy af6 (fun tag h=>by cases tag <;> first|exact⟨(),rfl⟩|cases h) ih).h _ F I w hc hr hs
  |level m=>cases hf;exact(oy amY (fun tag h=>by cases tag <;> first|exact⟨_,rfl⟩|cases h) ih).h _ F I w hc hr hs
  |unary=>cases hf;exact(oy apF (fun tag h=>by cases tag <;> first|exact⟨(),rfl⟩|cases h) ih).h _ F I w hc hr hs
  |gf=>cases hf;exact(oy afL (fun tag h=>by cases tag <;> first|exact⟨(),rfl⟩|cases h) ih).h _ F I w hc hr hs
  |suffix=>cases hf;exact(oy anj (fun tag h=>by cases tag <;> first|exact⟨(),rfl⟩|cases h) ih).h _ F I w hc hr hs
  |fx=>cases hf;exact(oy anc (fun tag h=>by cases tag <;> first|exact⟨(),rfl⟩|cases h) ih).h _ F I w hc hr hs
  |func k=>cases hf;exact(oy amC (fun tag h=>by cases tag <;> first|exact⟨_,rfl⟩|cases h) ih).h _ F I w hc hr hs
  |block b=>cases hf;exact(oy ami (fun tag h=>by cases tag <;> first|exact⟨_,rfl⟩|cases h) ih).h _ F I w hc hr hs
  |paren=>cases hf;exact(oy anm (fun tag h=>by cases tag <;> first|exact⟨(),rfl⟩|cases h) ih).h _ F I w hc hr hs
  |vars=>cases hf;exact(oy anN (fun tag h=>by cases tag <;> first|exact⟨(),rfl⟩|cases h) ih).h _ F I w hc hr hs
  |loop=>cases hf;exact(oy akZ (fun tag h=>by cases tag <;> first|exact⟨(),rfl⟩|cases h) ih).h _ F I w hc hr hs
  |ef p=>cases hf;exact(oy amw (fun tag h=>by cases tag <;> first|exact⟨_,rfl⟩|cases h) ih).h _ F I w hc hr hs
  |eQ p=>cases hf;exact(oy anG (fun tag h=>by cases tag <;> first|exact⟨_,rfl⟩|cases h) ih).h _ F I w hc hr hs
  |choose p=>cases hf;exact(oy amq (fun tag h=>by cases tag <;> first|exact⟨_,rfl⟩|cases h) ih).h _ F I w hc hr hs
  |simple d=>cases hf;exact(oy anz (fun tag h=>by cases tag <;> first|exact⟨_,rfl⟩|cases h) ih).h _ F I w hc hr hs
  |cS b=>cases hf;exact(oy anD (fun tag h=>by cases tag <;> first|exact⟨_,rfl⟩|cases h) ih).h _ F I w hc hr hs
  |_=>cases hf⟩
end
section
open Go
def WR(ab:List Int)(ks:List Int)(v:Int):List Int:=ks.foldl (fun a k=>a.set k.toNat v) ab
def zq(ns:List cA):Nat->List Int->Bool
 |0,_=>false
 |i+1,ab=>bif decide (ab.getD i 0>=48) then true else zq ns i (WR ab (((ns[i]?).map (·.aF)).getD []) (ab.getD i 0+1))
def sI(ns:List cA):Bool:=zq ns ns.length (List.replicate ns.length 0)
def mZ(ns:List cA)(vs:List Value):Prop:=sq (fun x v=>∃a n cap,v= .slice a n cap/\mt 1 (bC x.aF) a n) ns vs
variable{k:Int}{ns:List cA}{vs:List Value}
theorem A0.pure{I:a7}(h:A0 I ns vs):mZ ns vs:=sq.mono (fun _ _⟨a,n,cap,e,hs,_⟩=>⟨a,n,cap,e,hs⟩) h
theorem JW{α β:Type}{R:α->β->Prop}:∀{l:List α}{m:List β},sq R l m->∀(i:Nat)(a:α),l[i]?=some a->∃b,m[i]?=some b/\R a b
 |a::l,b::m,h,0,a',e=>by
  have e:a=a':=by simpa using e
  subst e;exact⟨b,rfl,h.1⟩
 |a::l,b::m,h,i+1,a',e=>by
  obtain⟨b',h1,h2⟩:=JW h.2 i a' (by simpa using e);exact⟨b',by simpa using h1,h2⟩
 | [],_,_,i,a',e=>by simp at e
 |_::_,[],h,_,_,_=>h.elim
theorem Sw{i j:Nat}{d:cA}{b o n cap:Nat}(hd:ns[i]?=some d)(hv:vs[i]?=some (.slice (some ⟨b,o,none⟩) n cap))(hk:d.aF[j]?=some k):aO (gb ns vs) ⟨b,o+j,none⟩ (.int .i64 k):=⟨fun I h o' hc hA=>by
 obtain⟨v,h1,a',n',are,e1,h2,h4⟩:=JW (show A0 I ns vs from hA) i d hd;rw[hv]at h1;cases h1;cases e1;have mI:a7.le I h:=hc;have:=Yq mI (h4 ⟨b,o,none⟩ rfl j (.int .i64 k) (by unfold bC;rw[gw,hk];rfl));rw[sD]at this;exact this⟩
structure qa where
 x:co
 s:aw
 y:fi
 os:List Int
def pX(x:qa):Option Addr:=some ⟨x.x.b,0,none⟩
def NS(x:qa):=ag x.x.b [au x.x.la x.x.L.length x.x.lc,ae x.s.i,ae x.x.fin,au x.y.r.a x.y.r.n x.y.r.cap,ae x.s.bQ,ae x.s.loops,ae x.s.bI] 43
def Bt:aR where
 X:=qa
 args x:=[ah (pX x)]
 pre x:=[NS x,x.y.r.A,gb x.s.nodes x.y.vs]
 cond x:=x.y.ok x.s.nodes/\mZ x.s.nodes x.y.vs/\bX x.x.fin x.s x.os/\x.s.nodes.length<=4194304
 val x _:=az (ak (sI x.s.nodes))
 post x _:=[NS x,x.y.r.A,gb x.s.nodes x.y.vs]
structure qY where
 i:Nat
 ab:List Int
 b:Nat
 j:Nat
 a:Option Addr
 n:Nat
 cap:Nat
 d:cA
def wx(d:qY):Option Addr:=some ⟨d.b,0,none⟩
def Id(d:qY):=ag d.b (bC d.ab) 3
def agR(x:qa)(F:ai):Nat->Option Inv:=fun
 |0=>some {X:=qY,P:=fun d=>d.i<=x.s.nodes.length/\d.ab.length=x.s.nodes.length/\(∀k∈d.ab,0<=k/\k<=48)/\zq x.s.nodes d.i d.ab=sI x.s.nodes,mu:=fun d=>d.i,lv:=fun d=>[(0,ah (pX x)),(3,au (wx d) x.s.nodes.length x.s.nodes.length),(4,ae ((d.i:Int)-1))],st:=fun d=>[NS x,x.y.r.A,gb x.s.nodes x.y.vs,F,Id d]}
 |2=>some {X:=qY,gh:=some ⟨Nat,fun d=>d.i⟩,P:=fun d=>x.s.nodes[d.i]?=some d.d/\x.y.vs[d.i]?=some (.slice d.a d.n d.cap)/\mt 1 (bC d.d.aF) d.a d.n/\d.j<=d.n/\d.ab.length=x.s.nodes.length/\(∀k∈d.ab,0<=k/\k<=48)/\d.ab.getD d.i 0<48/\zq x.s.nodes d.i (WR d.ab (d.d.aF.drop d.j) (d.ab.getD d.i 0+1))=sI x.s.nodes,mu:=fun d=>d.n-d.j,lv:=fun d=>[(0,ah (pX x)),(3,au (wx d) x.s.nodes.length x.s.nodes.length),(4,ae d.i),(35,au d.a d.n d.cap),(36,ae d.n),(37,ae d.j)],st:=fun d=>[NS x,x.y.r.A,gb x.s.nodes x.y.vs,F,Id d]}
 |_=>none
theorem G7{l:List Int}{i:Nat}(h:l[i]?=some k):(bC l)[i]?=some (.int .i64 k):=by unfold bC;rw[gw,h];rfl
theorem Z7(l:List Int)(i:Nat)(k:Int):(bC l).set i (.int .i64 k)=bC (l.set i k):=by unfold bC;rw[List.map_set]
theorem acJ(n:Nat):iI [.int .i64 0] n=bC (List.replicate n 0):=by rw[acK];unfold bC;simp
def JE(oo:Oper)(aa:List Value)(k0:FR->Nat->Prop):=fj Tryz.prog oo (wc (3:TypeId) [ae 0] 8)/\true=true/\∃(z:FR),aa=[ae z.n,ae z.c]/\([]:List ai)=[]/\(0<=z.n/\z.n<=z.c/\z.c*(↑(8:Nat):Int)<=281474976710656/\z.c<=9223372036854775807)/\True/\∀(u0:Nat),True->k0 z u0
def L1(b:qY)(x:qa):=b.i<=x.s.nodes.length/\b.ab.length=x.s.nodes.length/\(∀(a:Int),a∈b.ab->0<=a/\a<=48)/\zq x.s.nodes b.i b.ab=sI x.s.nodes
def yg(x:qa):List Value:=[au x.x.la x.x.L.length x.x.lc,ae ↑x.s.i,ae x.x.fin,au x.y.r.a x.y.r.n x.y.r.cap,ae x.s.bQ,ae x.s.loops,ae x.s.bI]
def yy(x:qa)(F:ai)(b:qY):=[(0,ag x.x.b (yg x) 43),(1,x.y.r.A),(2,eD (Kf.rest x.s.nodes x.y.vs)),(3,F),(4,ag b.b (bC b.ab) 3)]
def NQ(x:qa)(b:qY)(h:Nat):=(x.s.nodes[b.i]?=some b.d/\x.y.vs[b.i]?=some (au b.a b.n b.cap)/\mt 1 (bC b.d.aF) b.a b.n/\b.j<=b.n/\b.ab.length=x.s.nodes.length/\(∀(a:Int),a∈b.ab->0<=a/\a<=48)/\b.ab.getD b.i (0:Int)<(48:Int)/\zq x.s.nodes b.i (WR b.ab (List.drop b.j b.d.aF) (b.ab.getD b.i (0:Int)+(1:Int)))=sI x.s.nodes)/\b.i=h
theorem agS(x:qa)(F:ai)(hc:Bt.cond x)(hr:Bt.aQ x F):ax x.x.b 3/\JE (a8 Tryz.f22 1 5) [ae ↑x.y.r.n,ae ↑x.y.r.n] (fun q p=>ax x.x.b 3/\((-9223372036854775808:Int)<=(x.y.r.n:Int)-1/\(x.y.r.n:Int)-1<=(9223372036854775807:Int))/\(∃(b:qY),L1 b x/\(ah (pX x)=ah (pX x)/\au (bJ p) q.n.toNat q.c.toNat=au (wx b) x.s.nodes.length x.s.nodes.length/\ae ((x.y.r.n:Int)-1)=ae ((b.i:Int)-1)/\True)/\aD [(0,ag x.x.b (yg x) 43),(1,x.y.r.A),(2,eD (Kf.rest x.s.nodes x.y.vs)),(3,F),(2050,ag p (iI [ae 0] q.c.toNat) 3)] (yy x F b))/\aS fun(o:qY)_=>L1 o x->aP ((o.i:Int)-1>=(0:Int)) ((0<=(o.i:Int)-1/\(o.i:Int)-1<(x.s.nodes.length:Int))/\T1 (Id o) ⟨o.b,0+((o.i:Int)-1).toNat*1,none⟩ (fun m=>aP (m>=48) (aq Bt x F jv (yy x F o)) (ax x.x.b 3/\lF (a8 Tryz.f22 7 5) [au x.y.r.a x.y.r.n x.y.r.cap,ae ((o.i:Int)-1)] (fun l=>e8 x.y.r.A ⟨l.b,l.o+l.n.toNat*5+3,none⟩ (fun k j i=>∃(h:Nat),(∃(b:qY),NQ x b h/\(ah (pX x)=ah (pX x)/\au (wx o) x.s.nodes.length x.s.nodes.length=au (wx b) x.s.nodes.length x.s.nodes.length/\ae ((o.i:Int)-1)=ae ↑b.i/\au k j i=au b.a b.n b.cap/\ae ↑j=ae ↑b.n/\ae 0=ae ↑b.j/\True)/\aD (yy x F o) (yy x F b))/\aS fun(g:qY)_=>NQ x g h->aP ((g.j:Int)<(g.n:Int)) (kl (a8 Tryz.f22 9 0) [au g.a g.n g.cap,ae ↑g.j] (fun e=>T1 (eD (Kf.rest x.s.nodes x.y.vs)) ⟨e.b,e.o+e.n.toNat*1,none⟩ (fun d=>(0<=(g.i:Int)/\(g.i:Int)<(x.s.nodes.length:Int))/\T1 (Id g) ⟨g.b,0+(g.i:Int).toNat*1,none⟩ (fun c=>dw c/\(0<=d/\d<x.s.nodes.length)/\(dS ⟨g.b,0+d.toNat*1,none⟩ g.b/\0+d.toNat*1<(bC g.ab).length)/\((-9223372036854775808:Int)<=(g.j:Int)+1/\(g.j:Int)+1<=(9223372036854775807:Int))/\∃(b:qY),NQ x b h/\(ah (pX x)=ah (pX x)/\au (wx g) x.s.nodes.length x.s.nodes.length=au (wx b) x.s.nodes.length x.s.nodes.length/\ae ↑g.i=ae ↑b.i/\au g.a g.n g.cap=au b.a b.n b.cap/\ae ↑g.n=ae ↑b.n/\ae ((g.j:Int)+1)=ae ↑b.j/\True)/\aD [(0,ag x.x.b (yg x) 43),(1,x.y.r.A),(2,eD (Kf.rest x.s.nodes x.y.vs)),(3,F),(4,ag g.b ((bC g.ab).set (0+d.toNat*1) (ae (c+1))) 3)] (yy x F b)/\b.n-b.j<g.n-g.j)))) (((-9223372036854775808:Int)<=(g.i:Int)-1/\(g.i:Int)-1<=(9223372036854775807:Int))/\∃(b:qY),L1 b x/\(ah (pX x)=ah (pX x)/\au (wx g) x.s.nodes.length x.s.nodes.length=au (wx b) x.s.nodes.length x.s.nodes.length/\ae ((g.i:Int)-1)=ae ((b.i:Int)-1)/\True)/\aD (yy x F g) (yy x F b)/\b.i<o.i)))))) (aq Bt x F c7 (yy x F o))):=by
 delta JE L1 pX bJ wx yg yy T1 Id jv lF e8 NQ kl dw dq c7 ax ae ak ah au ag eD aP az aS;obtain⟨⟨b,la,lc,L,fin⟩,s,y,os⟩:=x;obtain⟨hy,hk,hF,hn⟩:=hc;dsimp only at hy hk hF hn⊢;have hl:=hy.len;have hz:∀(i:Nat)(d:cA),s.nodes[i]?=some d->∀k∈d.aF,0<=k/\k<(i:Int):=fun i d hd k s9=>
  ⟨(Sn (hF.wh.mem_iff.1 (rC _ (List.mem_flatMap.2 ⟨d,oU hd,s9⟩)))).1,(hF.aF i d hd).2 k s9⟩
 refine⟨ap,Ed (P:=Tryz.prog) [.int .i64 0] 8 rfl rfl rfl rfl rfl rfl aM rfl,rfl,⟨y.r.n,y.r.n⟩,rfl,rfl,⟨bd,bd,bd,bd⟩,ao,fun bu _=>⟨ap,aJ,⟨⟨s.nodes.length,List.replicate s.nodes.length 0,bu,0,none,0,0,⟨0,⟨#[]⟩,0,[],0⟩⟩,⟨cr _,List.length_replicate ..,fun k s9=>by rw[List.eq_of_mem_replicate s9];decide,rfl⟩,⟨rfl,?_,?_,ao⟩,?_⟩,?_⟩⟩
 ·dsimp only;rw[hl];rfl
 ·dsimp only;rw[hl]
 ·dsimp only;rw[show iI [.int .i64 0] (y.r.n:Int).toNat=bC (List.replicate s.nodes.length 0) by rw[cB,acJ,hl]];exact aB [0,1,2,3,2050]
 have gx:∀(i:Nat)(d:cA),s.nodes[i]?=some d->d.aF.length<=s.nodes.length:=by
  intro i d hd;have h1:=hF.wh.length_eq;have h2:d.aF.length<=(s.nodes.flatMap (·.aF)).length:=by
   rw[List.flatMap_def];exact(List.sublist_flatten_of_mem (List.mem_map.2 ⟨d,oU hd,rfl⟩)).length_le
  unfold uH at h1;rw[gi,List.length_map,List.length_range]at h1;omega
 rintro⟨i,ab,bu,_,_,_,_,_⟩ js ⟨h1,h2,h3,h4⟩;dsimp only at h1 h2 h3 h4⊢;refine bl (fun bP=>?_) (fun jn=>⟨(),ao,?_,aB [0,1,2,3]⟩)
 ·obtain⟨n,rfl⟩:∃n,i=n+1:=⟨i-1,af⟩;rw[show((n+1:Nat):Int)-1=(n:Int) by omega];obtain⟨d,hd⟩:∃d,s.nodes[n]?=some d:=⟨_,gv af⟩;obtain⟨v,hv,ka,kn,kc,rfl,xI⟩:=JW hk n d hd;obtain⟨m,hm⟩:∃m,ab[n]?=some m:=⟨_,gv af⟩;have hg:ab.getD n 0=m:=by rw[fD,hm];rfl
  rw[zq,hg,hd]at h4;obtain⟨rb,ha⟩:=hy.1.Bg (by rw[hy.len];omega);have hY:aO y.r.A ⟨rb,0+n*5+3,none⟩ (.slice ka kn kc):=by
   have hs:=hy.1.Fo;rw[ha]at hs;have:=hs.look (Kj s.nodes y.vs n 3 d _ _ hd hv rfl);rw[Nat.add_assoc];exact this
  refine⟨aJ,m,aO.cells (by rw[cB];exact G7 (by rw[jk,Nat.mul_one];exact hm)),bl (fun jn=>⟨(),ao,?_,aB [0,1,2,3]⟩) (fun ai4=>⟨ap,jp 5 rfl rfl rfl rfl,⟨rb,0,y.r.n,y.r.cap,n⟩,by rw[ha],iP,ka,kn,kc,?_,n,⟨⟨n,ab,bu,0,ka,kn,kc,d⟩,⟨⟨hd,hv,xI,dC _,h2,h3,by rw[hg];omega,?_⟩,rfl⟩,aV,aB [0,1,2,3,4]⟩,?_⟩)⟩
  ·rw[show decide (m>=48)=true from bG jn,bf]at h4;show returned (.bool true)=returned (.bool (sI s.nodes));rw[<-h4]
  ·rw[cB];exact hY
  ·rw[show decide (m>=48)=false from bK ai4,aU]at h4;dsimp only;rw[hg];exact h4
  clear hm hg h4 hd hv xI hY h1 h2 h3;rintro⟨i,ab,bu,j,a,q,c,d⟩ js ⟨⟨g1,g2,g3,g4,g5,g6,g7,g8⟩,rfl⟩;dsimp only at g1 g2 g3 g4 g5 g6 g7 g8⊢;have n_:d.aF.length=q:=by
   have:=g3.len;unfold bC at this;rw[List.length_map]at this;omega
  have hi:i<s.nodes.length:=(mG.1 g1).1;have hkn:=gx i d g1;obtain⟨m,hm⟩:∃m,ab[i]?=some m:=⟨_,gv af⟩;have hg:ab.getD i 0=m:=by rw[fD,hm];rfl
  have arD:=g6 m (oU hm);rw[hg]at g7 g8;refine bl (fun bP=>?_) (fun jn=>⟨aJ,⟨i,ab,bu,0,a,q,c,d⟩,⟨bd,g5,g6,?_⟩,aV,aB [0,1,2,3,4],bd⟩)
  ·obtain⟨b',o',rfl⟩:=g3.some af;obtain⟨k,xH⟩:∃k,d.aF[j]?=some k:=⟨_,gv af⟩;have KL:=hz i d g1 k (oU xH);refine⟨jp 1 rfl rfl rfl rfl,⟨b',o',q,c,j⟩,rfl,iP,k,?_,aJ,m,aO.cells (by rw[cB];exact G7 (by rw[jk,Nat.mul_one];exact hm)),aJ,aJ,⟨ap,?_⟩,aJ,⟨i,ab.set k.toNat (m+1),bu,j+1,some ⟨b',o',none⟩,q,c,d⟩,⟨⟨g1,g2,g3,bd,?_,?_,?_,?_⟩,rfl⟩,aV,?_,bd⟩
   ·rw[cB,Nat.mul_one];exact Sw g1 g2 xH
   ·unfold bC;rw[List.length_map];omega
   ·dsimp only;rw[List.length_set];exact g5
   ·intro k' s9;rcases List.mem_or_eq_of_mem_set s9 with h|h
    ·exact g6 k' h
    ·omega
   ·dsimp only;rw[fD,List.getElem?_set_ne af,<-fD,hg];exact g7
   ·dsimp only;rw[fD,List.getElem?_set_ne af,<-fD,hg];have DU:d.aF.drop j=k::d.aF.drop (j+1):=by
     obtain⟨s_,rfl⟩:=mG.1 xH;exact List.drop_eq_getElem_cons s_
    rw[DU]at g8;exact g8
   ·dsimp only;rw[jk,Nat.mul_one,Z7];exact aB [0,1,2,3,4]
  ·dsimp only;rw[List.drop_eq_nil_of_le af]at g8;exact g8
 ·have:i=0:=by omega
  subst this;rw[zq]at h4;show returned (.bool false)=returned (.bool (sI s.nodes));rw[<-h4]
theorem YI:aC 22 Bt:=fo 50 Tryz.func22 (fun _ _=>[(1,3,aT 0),(1,5,.o (wc 3 [.int .i64 0] 8) [] [2050]),(2,3,aT 0),(5,3,.q [.ex 4 (.int .i64)]),(7,3,aT 0),(7,5,.qo (h_ 5)),(7,7,.q [.ex 1 .slice]),(9,0,.qo (h_ 1)),(9,1,.q [.ex 2 (.int .i64)]),(10,5,.q [.ex 4 (.int .i64)]),(10,8,.w [.ex 4 .any])]) [] agR aY bz [] agS
end
section
open Go
def YS(L:List bA)(fin:Int)(aL:Nat->ByteArray)(wide:ByteArray->ByteArray)(f:Nat):PM Unit:=
 P L fin aL wide f .bx>>=fun _=>ie>>=fun s=>bif decide (s.i<L.length) then m9 L fin else ret ()
section
variable{L W:List bA}{k:Nat}{fin gu:Int}{aL:Nat->ByteArray}{wide:ByteArray->ByteArray}
end
end
section
open Go
def cx(K:cj)(x:co)(n:Nat):PM Unit:=P x.L x.fin K.tv br n (.prog [])>>=fun _=>ret ()
def cT(K:cj)(x:co)(n:Nat):PM Unit:=YS x.L x.fin K.tv br n
structure p8 where
 K:cj
 x:co
 s:aw
 n:Nat
def oB(x:p8):Option Addr:=some ⟨x.x.b,0,none⟩
def oR(M:cj->co->Nat->PM Unit):aR where
 X:=p8
 Y:=aw ⊕ (Int×Int)
 args x:=[ah (oB x)]
 pre x:=[al x.x x.s]
 cond x:=iu x.K x.x/\PG x.x x.s []/\M x.K x.x x.n x.s≠.out
 aQ x F:=cI x.K x.x F
 cd x y:=match y with
  | .inl t=>M x.K x.x x.n x.s= .ok () t/\(∃os,bX x.x.fin t os)/\t.nodes.length<=4194304
  | .inr a=>∃t,M x.K x.x x.n x.s= .stop a.1 a.2 t
 val x y:=match y with
  | .inl _=>.returned (.tuple #[])
  | .inr a=>.panicked [⟨jy a.1 a.2,false,false⟩]
 post x y:=match y with
  | .inl t=>[al x.x t]
  | .inr _=>[]
 eX _ _ _ hs h:=cI.sub hs h
 sum:=some (iX aw (Int×Int))
def agd(x:p8)(_F:ai):List (Nat×Nat×OH):=[(0,1,bq (cG x.n 14)),(1,3,dm),(1,7,.q [.ex 0 .slice]),(2,1,aX mD)]
theorem agf(x:p8)(F:ai)(hc:(oR cT).cond x)(hr:(oR cT).aQ x F):cw x.n 14 [ah (oB x)] [al x.x x.s] (aH [(0,al x.x x.s),(1,F)] [0]) (fun h g=>true=true/\T1 (al h.x g.snd) ⟨x.x.b,1,none⟩ (fun f=>e8 (al h.x g.snd) ⟨x.x.b,0,none⟩ (fun e d c=>aP (f<d) (l6 [ah (oB x)] (aH (mS h g F) []) (fun b a=>aq (oR cT) x F (kG b) (mS h g F))) (aq (oR cT) x F eM (mS h g F))))) (fun h b=>aq (oR cT) x F (ci b) (iV F)):=by
 delta cw oB T1 e8 je l6 mS kG eM ci iV dK aH al ae ah au ba aP az;obtain⟨K,x,s,n⟩:=x;obtain⟨hK,hG,ho⟩:=hc;replace hr:cI K x F:=hr;dsimp only at hK hG ho⊢;have ih:=S4 n;obtain⟨r,e0⟩:∃r,cT K x n s=r:=⟨_,rfl⟩;rw[e0]at ho;have hk:=e0;unfold cT YS at hk;have hl:=hK.len;refine ca hG (CF hk ho) (fun k t1 hk g1 gJ gL gH gK gF gS=>?_) (cL:=ao) (cC:=ao) (cU:=ao);dsimp only[ar.sl,aw.ay,aw.add]at gJ gL gH gK gF gS;rw[mV]at hk;refine⟨rfl,_,d_ fun _=>rfl,_,_,_,d_ fun _=>rfl,bl (fun h=>?_) (fun h=>?_)⟩
 ·replace h:(t1.i:Int)<(x.L.length:Int):=h;rw[bG (show t1.i<x.L.length by omega),bf,show m9 x.L x.fin t1= .stop (aI x.L x.fin t1).pos 60 t1 from rfl]at hk;exact bp ru (x.p t1) hl (hr.ls.di 0 1 aM aM rfl rfl) fun _ _=>⟨.inr (_,_),⟨_,e0.trans hk.symm⟩,rfl,aB [1]⟩
 ·replace h:¬(t1.i:Int)<(x.L.length:Int):=h;rw[bK (show ¬t1.i<x.L.length by omega),aU,CK]at hk;have cap:=g1.cap hl;exact⟨.inl t1,⟨e0.trans hk.symm,⟨_,g1.fo⟩,af⟩,rfl,aB [0,1]⟩
theorem age:aC 13 (oR cT):=fo 16 Tryz.func13 agd [] aY aY bz [] agf
structure A1 where
 t:aw
 ks:List Int
 r:Row
 f:Nat
 c:Nat
def agi(x:p8)(F:ai):Nat->Option Inv:=fun
 |0=>some {X:=A1,P:=fun d=>PG x.x d.t d.ks/\bv 3 1 (bC d.ks) d.r/\d.f<=x.n/\(P x.x.L x.x.fin x.K.tv br d.f (.prog d.ks)>>=fun _=>ret ()) d.t=cx x.K x.x x.n x.s,mu:=fun d=>d.f,lv:=fun d=>[(0,ah (oB x)),(2,ah (some ⟨d.c,0,none⟩))],st:=fun d=>[al x.x d.t,F,(nq d.c 37 .empty 0 d.r 0),d.r.A]}
 |_=>none
def agj(x:p8)(_F:ai):List (Nat×Nat×OH):=[(0,1,.n 1010),(0,2,.w (eF 1010)),(1,3,dm),(1,7,.q [.ex 0 .slice]),(2,1,aT 2),(2,3,bq (cG x.n 17)),(2,4,.n 3040),(2,5,.o (dt 3 1 8) [3] [3]),(2,7,.w [.z00 2]),(3,1,.q (eF 2)),(3,2,.c fR [0,3] [0])]
def LQ(x:p8)(b:A1):=PG x.x b.t b.ks/\bv 3 1 (bC b.ks) b.r/\b.f<=x.n/\(P x.x.L x.x.fin x.K.tv br b.f (ar.prog b.ks)>>=fun(a:List Int)=>ret ()) b.t=cx x.K x.x x.n x.s
def Fa(b:A1):List Value:=[ae 37,aj ByteArray.empty,float f64 0,au b.r.a b.r.n b.r.cap,ae 0]
def No(x:p8)(b:A1)(F:ai):=[(0,al x.x b.t),(1,F),(2,ag b.c (Fa b) 35),(3,b.r.A)]
theorem agl(x:p8)(F:ai)(hc:(oR cx).cond x)(hr:(oR cx).aQ x F):∀(n:Nat),cF n ((∃(b:A1),LQ x b/\(ah (oB x)=ah (oB x)/\ah (bJ n)=ah (some ⟨b.c,0,none⟩)/\True)/\aD [(0,al x.x x.s),(1,F),(1010,ag n [ae 37,aj ⟨#[]⟩,float f64 0,au none 0 0,ae 0] 35)] (No x b F))/\aS fun(m:A1)_=>LQ x m->true=true/\T1 (al x.x m.t) ⟨x.x.b,1,none⟩ (fun k=>e8 (al x.x m.t) ⟨x.x.b,0,none⟩ (fun j i h=>aP (k<i) (true=true/\ax m.c 3/\cw x.n 17 [ah (oB x),ak true] [al x.x m.t] (aH (No x m F) [0]) (fun g f=>∀(e:Nat),fQ (a8 Tryz.f16 2 5) [au m.r.a m.r.n m.r.cap,au (bJ e) 1 1] [m.r.A] (aH [(0,al g.x f.snd),(1,F),(2,ag m.c (Fa m) 35),(3,m.r.A),(3040,ag e (bU f) 3)] [3]) (fun d c=>ax m.c 3/\∃(b:A1),LQ x b/\(ah (oB x)=ah (oB x)/\ah (some ⟨m.c,0,none⟩)=ah (some ⟨b.c,0,none⟩)/\True)/\aD [(0,al g.x f.snd),(1,F),(2,ag m.c [ae 37,aj ByteArray.empty,float f64 0,au c.a c.n c.cap,ae 0] 35),(3,c.A),(3040,ag e (bU f) 3)] (No x b F)/\b.f<m.f)) (fun g b=>∀(a:Tm),aq (oR cx) x F (ci b) [(0,ba),(1,F),(2,ag m.c (Fa m) 35),(3,m.r.A)])) (cF m.c (dc [ah (oB x),agg ⟨Fa m⟩] [al x.x m.t,m.r.A] (fun b a=>aq (oR cx) x F eM [(0,al b.x (b.s.add b.n)),(1,F),(2,ag m.c (Fa m) 35),(3,ba)])))))):=by
 delta LQ oB bJ Fa No T1 e8 cw mg fQ bU ci lR lS dc eM dK aH al ax cF ae aj ak ah au ag ba aP az aS;obtain⟨K,x,s,n⟩:=x;obtain⟨hK,hG,ho⟩:=hc;replace hr:cI K x F:=hr;dsimp only at hK hG ho⊢;have ih:=S4 n;obtain⟨r,e0⟩:∃r,cx K x n s=r:=⟨_,rfl⟩;rw[e0]at ho;have hk:=e0;unfold cx at hk;have hl:=hK.len;intro c
 repeat (refine⟨ap,?_⟩)
 refine⟨⟨⟨s,[],dF,n,c⟩,⟨hG,.nil rfl,cr _,rfl⟩,aV,aB [0,1,1010,999]⟩,?_⟩;clear hk;rintro⟨t,ks,r',f,c⟩ js ⟨g,bB,hf,hk⟩;dsimp only at g bB hf hk⊢;rw[e0]at hk;obtain _|f:=f
 ·exact absurd hk (fun e=>ho (e.symm.trans (by rw[P];rfl)))
 replace hf:f<=n:=Nat.le_of_succ_le hf;rw[P,eZ]at hk;rw[mV]at hk;have n_:=ra (os:=[]) g hl;refine⟨rfl,_,d_ fun _=>rfl,_,_,_,d_ fun _=>rfl,bl (fun h=>?_) (fun h=>?_)⟩
 ·have hi:t.i<x.L.length:=by omega
  rw[bG hi,bf,eZ]at hk;refine⟨rfl,ap,?_⟩;refine ca g ((fL hk ho).up hf) (fun k t1 hk g1 gJ gL gH gK gF gS=>?_) (cL:=ao) (cC:=ao) (cU:=ao);dsimp only[ar.sl,aw.ay,aw.add]at gJ gL gH gK gF gS;intro lb;refine mz (ks:=ks) (k:=k) 3040 bB af (fun r2 h2=>?_);exact⟨ap,⟨t1,ks++[k],r2,f,c⟩,⟨g1,h2,hf,hk.trans e0.symm⟩,aV,aB [0,1,2,3],jj _⟩
 ·rw[bK (show ¬t.i<x.L.length by omega),aU,show(bM ⟨37,.empty,0,ks,0⟩>>=fun _=>(ret ():PM Unit)) t= .ok () (t.add ⟨37,.empty,0,ks,0⟩)from rfl]at hk;have cap:=g.cap hl
  repeat (refine⟨ap,?_⟩)
  refine bV fv ⟨x,t,⟨37,.empty,0,ks,0⟩,r'⟩ ⟨by have:=g.cap hl;dsimp only[aw.ay,aw.add]at*;omega,bB⟩ fun _ _=>?_;refine⟨.inl (t.add ⟨37,.empty,0,ks,0⟩),⟨e0.trans hk.symm,⟨_,bX.node (os:=[]) g.fo ⟨cN 0,hK.dQ.f0⟩⟩,?_⟩,rfl,aB [0,1]⟩;show(t.nodes++[_]).length<=_;rw[gi,DQ];omega
theorem agk:aC 16 (oR cx):=fo 24 Tryz.func16 agj [] agi aY bz [] agl
end
section
open Go
def pD:Code->Code
 | .seq a _=>a
 |c=>c
def jS:Nat->Code->Code
 |0,c=>c
 |n+1,.seq _ b=>jS n b
 |_+1,c=>c
noncomputable def mP:Code:=iN Tryz.f12
noncomputable def Hn:Func:={Tryz.f12 with body:=some (.seq (pD mP) (.seq (pD (jS 1 mP)) (.seq (pD (jS 2 mP)) (.seq (pD (jS 3 mP)) (.region 5 #[] false)))))}
noncomputable def wj:Func:={Tryz.f12 with body:=some (.seq .skip (jS 5 mP))}
noncomputable def S9:Func:={Tryz.f21 with body:=some (.seq .skip (jS 1 (iN Tryz.f21)))}
def J9(M:cj->co->Nat->PM Unit):aR where
 X:=p8
 Y:=(aw×fi) ⊕ (Int×Int)
 args x:=[ah (oB x)]
 pre x:=[al x.x x.s]
 cond x:=iu x.K x.x/\PG x.x x.s []/\M x.K x.x x.n x.s≠.out
 aQ x F:=cI x.K x.x F
 cd x y:=match y with
  | .inl a=>(M x.K x.x x.n x.s= .ok () a.1/\(∃os,bX x.x.fin a.1 os)/\a.1.nodes.length<=4194304)/\a.2.ok a.1.nodes/\mZ a.1.nodes a.2.vs
  | .inr a=>∃t,M x.K x.x x.n x.s= .stop a.1 a.2 t
 val x y:=match y with
  | .inl _=>.returned (.tuple #[])
  | .inr a=>.panicked [⟨jy a.1 a.2,false,false⟩]
 post x y:=match y with
  | .inl a=>[.cells x.x.b [.slice x.x.la x.x.L.length x.x.lc,.int .i64 a.1.i,.int .i64 x.x.fin,.slice a.2.r.a a.2.r.n a.2.r.cap,.int .i64 a.1.bQ,.int .i64 a.1.loops,.int .i64 a.1.bI] 43,a.2.r.A,gb a.1.nodes a.2.vs]
  | .inr _=>[]
 eX _ _ _ hs h:=cI.sub hs h
 sum:=some (iX (aw×fi) (Int×Int))
theorem Yu{M:cj->co->Nat->PM Unit}{bO:FuncId}(h:aC bO (oR M)):aC bO (J9 M):=⟨fun x F I w hc hr hs=>(h.h x F I w hc hr hs).mono fun e w'⟨y,J,bw,he,bS,el,ft⟩=>by
 match y with
 | .inl t=>
  obtain⟨v,hv,dD⟩:=LC (F:=F) el;obtain⟨_,hk,_⟩:=dD.SY (Y:=Unit) (R:=fun _=>mZ t.nodes v.vs) (B:=fun _=>gb t.nodes v.vs) 2 fun _ _ h=>⟨(),A0.pure h,h⟩;exact⟨.inl (t,v),J,⟨bw,hv,hk⟩,he,bS,dD,ft⟩
 | .inr a=>exact⟨.inr a,J,bw,he,bS,el,ft⟩⟩
def fG:aw:=⟨0,[],0,0,0⟩
structure rf where
 K:cj
 src:ByteArray
 bO:FuncId
def rf.jl(x:rf)(r:Row):Prop:=x.src.size<=8192/\(dE x.K x.src).2= -1/\bv 53 5 (iS (dE x.K x.src).1) r/\(dE x.K x.src).1.length<=x.src.size
def rf.fY(x:rf):Prop:=x.src.size>8192\/0<=(dE x.K x.src).2
def rL:aR where
 X:=rf
 args x:=[.string x.src,.func (.func x.bO) #[] #[]]
 cond x:=aC 72 (pP x.K)
 aQ x F:=eT x.K F
 cd x _:=x.fY
 val x _:=.returned (.tuple #[.agg #[.slice none 0 0],.int .i64 (j7 x.K x.src).1,.int .i64 (j7 x.K x.src).2])
structure FW where
 b4:Nat
 b5:Nat
 b6:Nat
 p:Int
 e:Int
 r:Row
structure Dc where
 b4:Nat
 b5:Nat
 b6:Nat
 b8:Nat
 r:Row
def Dc.x(d:Dc)(x:rf):co:=⟨d.b8,d.r.a,d.r.cap,(dE x.K x.src).1,x.src.size⟩
def S6(x:rf)(F:ai):Nat->Option Inv:=fun
 |2=>some {X:=FW,P:=fun d=>(d.e=0/\d.p=0/\x.jl d.r)\/(x.fY/\d.p=(j7 x.K x.src).1/\d.e=(j7 x.K x.src).2/\d.e≠0),mu:=fun _=>0,lv:=fun d=>[(0,.string x.src),(1,.func (.func x.bO) #[] #[]),(4,.pointer (some ⟨d.b4,0,none⟩)),(5,.pointer (some ⟨d.b5,0,none⟩)),(6,.pointer (some ⟨d.b6,0,none⟩)),(7,.slice d.r.a d.r.n d.r.cap)],st:=fun d=>[F,ag d.b4 eW 25,ag d.b5 [ae d.p] 3,ag d.b6 [ae d.e] 26,d.r.A]}
 |5=>some {X:=Dc,P:=fun d=>x.jl d.r,mu:=fun _=>0,lv:=fun d=>[(1,.func (.func x.bO) #[] #[]),(4,.pointer (some ⟨d.b4,0,none⟩)),(5,.pointer (some ⟨d.b5,0,none⟩)),(6,.pointer (some ⟨d.b6,0,none⟩)),(8,.pointer (some ⟨d.b8,0,none⟩))],st:=fun d=>[F,ag d.b4 eW 25,ag d.b5 [ae 0] 3,ag d.b6 [ae 0] 26,al (d.x x) fG,d.r.A]}
 |_=>none
def am3(_x:rf)(_F:ai):List (Nat×Nat×OH):=[(0,0,.n 1000),(0,1,.n 1010),(0,2,.n 1020),(1,1,.c wb [] [997]),(1,7,.w [.z00 1010]),(1,8,.w [.z00 1020]),(2,0,aT 3),(3,1,aT 2),(3,2,aT 3),(3,3,.w [.z00 1]),(3,4,.w [.z00 2]),(3,5,.w [.z00 3]),(4,4,.n 5040)]
def yD:List LH:=[.z00 1,.z00 2,.z00 3]
def S7(_:rf):List (Nat×Value):=[]
noncomputable def abg(x:aR.X rL)(F:ai):kj where
 op:=hk ((am3 x F)++[])
 BO:=(fun _ _ _=>none) x F
 cut:=S6 x F
 B1:=(fun _=>[])
def U8(z:FW)(e0:rf):=z.e=0/\z.p=0/\e0.jl z.r\/e0.fY/\z.p=(j7 e0.K e0.src).fst/\z.e=(j7 e0.K e0.src).snd/\z.e≠(0:Int)
def U2(e1:ai)(z:FW):=[(0,e1),(1,ag z.b4 eW 25),(2,ag z.b5 [ae z.p] 3),(3,ag z.b6 [ae z.e] 26),(4,z.r.A)]
def P7(e0:rf)(e1:ai)(v0 v1 v2 v3:Value)(ss:St):=∃(z:FW),U8 z e0/\(aj e0.src=aj e0.src/\func (Fn.func e0.bO) ⟨[]⟩ ⟨[]⟩=func (Fn.func e0.bO) ⟨[]⟩ ⟨[]⟩/\v0=ah (some ⟨z.b4,0,none⟩)/\v1=ah (some ⟨z.b5,0,none⟩)/\v2=ah (some ⟨z.b6,0,none⟩)/\v3=au z.r.a z.r.n z.r.cap/\True)/\aD ss (U2 e1 z)
theorem am5(x:rf)(F:ai)(hc:rL.cond x)(hr:rL.aQ x F):∀(g f e:Nat),(aC 20 wb/\true=true/\∃(c:w7),[aj x.src]=[aj c.src]/\([]:List ai)=[]/\aC 72 (pP c.K)/\eT c.K (aH [(0,F),(1000,ag g eW 25),(1010,ag f [ae 0] 3),(1020,ag e [ae 0] 26)] [])/\(∀(b:Row),(c.src.size<=8192/\(dE c.K c.src).snd=(-1:Int)/\bv 53 5 (iS (dE c.K c.src).fst) b/\(dE c.K c.src).fst.length<=c.src.size)->ax f 0/\ax e 0/\P7 x F (cW g) (cW f) (cW e) (mf b) [(0,F),(997,b.A),(1000,ag g eW 25),(1010,ag f [ae 0] 3),(1020,ag e [ae 0] 26)])/\∀(b:Unit),(c.src.size>8192\/0<=(dE c.K c.src).snd)->ax f 0/\ax e 0/\P7 x F (cW g) (cW f) (cW e) (au none 0 0) [(0,F),(997,ba),(1000,ag g eW 25),(1010,ag f [ae (j7 c.K c.src).fst] 3),(1020,ag e [ae (j7 c.K c.src).snd] 26)])/\aS fun(d:FW)_=>U8 d x->ax d.b6 0/\Br (d.e !=0) (true=true/\ax d.b5 0/\ax d.b6 0/\ax d.b4 0/\ax d.b5 0/\ax d.b6 0/\ax d.b4 0/\ax d.b5 0/\ax d.b6 0/\aq rL x F (az (tuple ⟨[agg ⟨eW⟩,ae d.p,ae d.e]⟩)) (U2 F d)) ((∀(b:Nat),∃(a:Dc),x.jl a.r/\(func (Fn.func x.bO) ⟨[]⟩ ⟨[]⟩=func (Fn.func x.bO) ⟨[]⟩ ⟨[]⟩/\ah (some ⟨d.b4,0,none⟩)=ah (some ⟨a.b4,0,none⟩)/\ah (some ⟨d.b5,0,none⟩)=ah (some ⟨a.b5,0,none⟩)/\ah (some ⟨d.b6,0,none⟩)=ah (some ⟨a.b6,0,none⟩)/\ah (bJ b)=ah (some ⟨a.b8,0,none⟩)/\True)/\aD [(0,F),(1,ag d.b4 eW 25),(2,ag d.b5 [ae d.p] 3),(3,ag d.b6 [ae d.e] 26),(4,d.r.A),(5040,ag b [au d.r.a d.r.n d.r.cap,ae 0,ae ↑x.src.size,au none 0 0,ae 0,ae 0,ae 0] 43)] [(0,F),(1,ag a.b4 eW 25),(2,ag a.b5 [ae 0] 3),(3,ag a.b6 [ae 0] 26),(4,al (a.x x) fG),(5,a.r.A)])/\aS fun(b:Dc)_=>x.jl b.r->True):=by
 delta eW U8 U2 P7 bJ cW mf aH al ax ae aj ah au ag ba az aS;intro b4 b5 b6;refine⟨bp ak9 ⟨x.K,x.src⟩ hc (eT.sub hr (b_ 0)) ⟨fun r h=>⟨ap,ap,⟨b4,b5,b6,0,0,r⟩,.inl ⟨rfl,rfl,h⟩,aV,aB [0,1000,1010,1020,997]⟩,fun _ h=>⟨ap,ap,⟨b4,b5,b6,_,_,dF⟩,.inr ⟨h,rfl,rfl,?_⟩,aV,aB [0,1000,1010,1020,997]⟩⟩,?_⟩
 ·show(j7 x.K x.src).2≠0;unfold j7;cases decide (x.src.size>8192)
  ·exact(show(50:Int)≠0 by decide)
  ·exact(show(2:Int)≠0 by decide)
 rintro⟨b4,b5,b6,p,e,r⟩ js h;dsimp only at h⊢;refine⟨ap,aG (fun he=>?_) (fun he=>⟨?_,?_⟩)⟩
 ·rcases h with⟨rfl,_⟩| ⟨h,rfl,rfl,_⟩
  ·cases he
  ·exact⟨rfl,ap,ap,ap,ap,ap,ap,ap,ap,(),h,rfl,aB [0]⟩
 ·rcases h with⟨rfl,rfl,h⟩| ⟨_,_,_,h⟩;rotate_left
  ·exact absurd (by simpa using he) h
  intro b8;refine⟨⟨b4,b5,b6,b8,r⟩,h,aV,⟨fun I w hs=>?_⟩⟩;obtain⟨h1,h2,h3,h4⟩:=h;have hn:r.n=(dE x.K x.src).1.length:=by
   have:=h3.len;rw[K_]at this;omega
  have s1:Sat I (bD ([F,.cells b4 [.slice none 0 0] 25,.cells b5 [.int .i64 0] 3,.cells b6 [.int .i64 0] 26,r.A]++[.cells b8 [.slice r.a (dE x.K x.src).1.length r.cap,.int .i64 0,.int .i64 x.src.size,.slice none 0 0,.int .i64 0,.int .i64 0,.int .i64 0] 43,.dT,.dT])) w:=by
   rw[<-hn];exact hs.pick [0,1,2,3,4,5040,999,998] rfl rfl
  have s2:=s1.Fj (B:=gb [] []) 7 fun _ _ _=>ao;have s3:Sat I (bD ([F,.cells b4 [.slice none 0 0] 25,.cells b5 [.int .i64 0] 3,.cells b6 [.int .i64 0] 26,r.A]++[.cells b8 [.slice r.a (dE x.K x.src).1.length r.cap,.int .i64 0,.int .i64 x.src.size,.slice none 0 0,.int .i64 0,.int .i64 0,.int .i64 0] 43,dF.A,gb [] []])) w:=s2.pick [0,1,2,3,4,5,6,7] rfl rfl;have s4:=s3.Yb.Fj (B:=al ((⟨b4,b5,b6,b8,r⟩:Dc).x x) fG) 5 fun _ _ q=>⟨⟨dF,[]⟩,⟨.nil rfl,rfl⟩,q⟩;exact⟨I,a7.le_refl I,s4.pick [0,1,2,3,5,4] rfl rfl⟩
 ·exact fun _ _ _=>ao
theorem am4(x:aR.X rL)(F:ai)(hc:rL.cond x)(hr:rL.aQ x F):su Tryz.prog 45 Hn (abg x F) yD (iN Hn) (oS (aR.args rL x)) (bD (aR.pre rL x++[F])) (S7 x) (aq rL x F):=
 Eq.mpr bh (am5 x F hc hr)
structure FU where
 b4:Nat
 b5:Nat
 b6:Nat
 p:Int
 e:Int
def pS:aR where
 X:=FU
 args x:=[ah (some ⟨x.b4,0,none⟩),ah (some ⟨x.b5,0,none⟩),ah (some ⟨x.b6,0,none⟩),jy x.p x.e]
 pre x:=[ag x.b4 eW 25,ag x.b5 [ae 0] 3,ag x.b6 [ae 0] 26]
 val _ _:=.returned (.tuple #[])
 post x _:=[ag x.b4 eW 25,ag x.b5 [ae x.p] 3,ag x.b6 [ae x.e] 26]
def am7(x:FU):List (Nat×Value):=[(0,.pointer (some ⟨x.b4,0,none⟩))]
def am6(x:FU)(F:ai):Nat->Option Inv:=fun
 |1=>some {X:=Unit,P:=fun _=>True,mu:=fun _=>0,lv:=fun _=>[(0,ah (some ⟨x.b4,0,none⟩)),(1,ah (some ⟨x.b5,0,none⟩)),(2,ah (some ⟨x.b6,0,none⟩)),(3,jy x.p x.e)],st:=fun _=>[F,ag x.b4 eW 25,ag x.b5 [ae 0] 3,ag x.b6 [ae 0] 26]}
 |_=>none
def am8(_x:FU)(_F:ai):List (Nat×Nat×OH):=[(2,2,.n 3020),(2,3,.w [.z00 3020,.z00 3020]),(3,2,aT 3020),(3,4,aT 3020),(3,5,.w [.z00 1]),(3,6,.w [.z00 2]),(3,7,.w [.z00 3])]
noncomputable def am9(x:aR.X pS)(F:ai):kj where
 op:=hk ((am8 x F)++[])
 BO:=(fun _ _ _=>none) x F
 cut:=am6 x F
 B1:=(fun _=>[])
theorem ana(x:FU)(F:ai)(hc:pS.cond x)(hr:pS.aQ x F):(∃(a:Unit),True/\(ah (some ⟨x.b4,0,none⟩)=ah (some ⟨x.b4,0,none⟩)/\ah (some ⟨x.b5,0,none⟩)=ah (some ⟨x.b5,0,none⟩)/\ah (some ⟨x.b6,0,none⟩)=ah (some ⟨x.b6,0,none⟩)/\fE 51 (agg ⟨[ae x.p,ae x.e]⟩)=fE 51 (agg ⟨[ae x.p,ae x.e]⟩)/\True)/\aD [(0,ag x.b4 eW 25),(1,ag x.b5 [ae 0] 3),(2,ag x.b6 [ae 0] 26),(3,F)] [(0,F),(1,ag x.b4 eW 25),(2,ag x.b5 [ae 0] 3),(3,ag x.b6 [ae 0] 26)])/\aS fun(c:Unit)_=>True->∀(a:Nat),ax a 0/\ax a 1/\true=true/\ax a 0/\ax a 1/\ax x.b4 0/\ax x.b5 0/\ax x.b6 0/\aq pS x F eM [(0,F),(1,ag x.b4 eW 25),(2,ag x.b5 [ae x.p] 3),(3,ag x.b6 [ae x.e] 26),(3020,ag a [ae x.p,ae x.e] 51)]:=by
 delta eW eM ax ae ah au fE ag az aS;refine⟨⟨(),ao,aV,aB [3,0,1,2]⟩,fun _ js _ b=>?_⟩;exact⟨ap,ap,rfl,ap,ap,ap,ap,ap,(),ao,rfl,aB [1,2,3,0]⟩
theorem am_(x:aR.X pS)(F:ai)(hc:pS.cond x)(hr:pS.aQ x F):su Tryz.prog 15 S9 (am9 x F) [] (iN S9) (oS (aR.args pS x)) (bD (aR.pre pS x++[F])) (am7 x) (aq pS x F):=
 Eq.mpr bh (ana x F hc hr)
end
section
open Go
structure l5 where
 K:cj
 x:co
 n:Nat
 b4:Nat
 b5:Nat
 b6:Nat
 r:Row
structure Xk where
 nodes:List cA
 e:Int
 y:fi
def qi(ns:List cA):List cA×Int:=bif decide (ns.length>4096)||sI ns then ([],4) else (ns,0)
def fb(bO:FuncId)(M:cj->co->Nat->PM Unit):aR where
 X:=l5
 Y:=Xk ⊕ (Int×Int)
 args x:=[undef,.func (.func bO) #[] #[],undef,undef,.pointer (some ⟨x.b4,0,none⟩),.pointer (some ⟨x.b5,0,none⟩),.pointer (some ⟨x.b6,0,none⟩),undef,.pointer (some ⟨x.x.b,0,none⟩)]
 pre x:=[ag x.b4 eW 25,ag x.b5 [ae 0] 3,ag x.b6 [ae 0] 26,al x.x fG,x.r.A]
 cond x:=aC bO (oR M)/\iu x.K x.x/\M x.K x.x x.n fG≠.out/\bv 53 5 (iS x.x.L) x.r/\x.x.la=x.r.a
 aQ x F:=eT x.K F/\jA F
 cd x y:=match y with
  | .inl a=>(∃t,M x.K x.x x.n fG= .ok () t/\qi t.nodes=(a.nodes,a.e))/\a.y.ok a.nodes/\mZ a.nodes a.y.vs
  | .inr a=>∃t,M x.K x.x x.n fG= .stop a.1 a.2 t
 val x y:=match y with
  | .inl a=>.returned (.tuple #[.agg #[.slice a.y.r.a a.y.r.n a.y.r.cap],.int .i64 0,.int .i64 a.e])
  | .inr a=>.panicked [⟨jy a.1 a.2,false,false⟩]
 post x y:=match y with
  | .inl a=>[a.y.r.A,gb a.nodes a.y.vs]
  | .inr _=>[.cells x.b4 [.slice none 0 0] 25,.cells x.b5 [.int .i64 0] 3,.cells x.b6 [.int .i64 0] 26]
 sum:=some (iX Xk (Int×Int))
def LB(bO:FuncId)(x:l5)(F:ai):Nat->Option Inv:=fun
 |6=>some {X:=Unit,P:=fun _=>True,mu:=fun _=>0,lv:=fun _=>[(1,.func (.func bO) #[] #[]),(4,.pointer (some ⟨x.b4,0,none⟩)),(5,.pointer (some ⟨x.b5,0,none⟩)),(6,.pointer (some ⟨x.b6,0,none⟩)),(8,.pointer (some ⟨x.x.b,0,none⟩))],st:=fun _=>[F,ag x.b4 eW 25,ag x.b5 [ae 0] 3,ag x.b6 [ae 0] 26,al x.x fG,x.r.A]}
 |_=>none
def abh(M:cj->co->Nat->PM Unit)(_x:l5)(_F:ai):List (Nat×Nat×OH):=[(6,2,.c (J9 M) [4] [4,6,7]),(7,3,.q [.z00 4]),(7,8,.c Bt [4,6,7] [4,6,7]),(8,1,.w [.z00 1]),(8,2,.w [.z00 2]),(8,3,.w [.z00 3]),(9,3,.q [.z00 4]),(9,5,.w [.z00 1]),(9,6,.w [.z00 2]),(9,7,.w [.z00 3])]
def Eo(x:l5):List (Nat×Value):=[(4,.pointer (some ⟨x.b4,0,none⟩)),(5,.pointer (some ⟨x.b5,0,none⟩)),(6,.pointer (some ⟨x.b6,0,none⟩))]
theorem Gv{F:ai}:aD (bD [.dT,.dT,F]) (bD [dF.A,gb [] [],F]):=⟨fun I _ h=>⟨I,a7.le_refl I,(h.Fj (B:=gb [] []) 1 fun _ _ _=>ao).pick [0,1,2] rfl rfl⟩⟩
variable{ns:List cA}
theorem Ym(h:ns.length>4096):qi ns=([],4):=by unfold qi;rw[bG h];rfl
theorem Yk(h:sI ns=true):qi ns=([],4):=by unfold qi;rw[h,n7];rfl
theorem Yn(h:¬ns.length>4096)(h2:sI ns=false):qi ns=(ns,0):=by unfold qi;rw[bK h,h2];rfl
noncomputable def abe(x:aR.X (fb 16 cx))(F:ai):kj where
 op:=hk (((abh cx) x F)++[])
 BO:=(fun _ _ _=>none) x F
 cut:=(LB 16) x F
 B1:=(fun _=>[])
def Ac(x:l5):Option Addr:=some ⟨x.b4,0,none⟩
def Ad(x:l5):Option Addr:=some ⟨x.b5,0,none⟩
def Ae(x:l5):Option Addr:=some ⟨x.b6,0,none⟩
def ww(x:l5):Option Addr:=some ⟨x.x.b,0,none⟩
def M9(x:l5)(F:ai):=[(0,ag x.b4 eW 25),(1,ag x.b5 [ae 0] 3),(2,ag x.b6 [ae 0] 26),(3,al x.x fG),(4,x.r.A),(5,F)]
def Ev(F:ai)(x:l5):=[(0,F),(1,ag x.b4 eW 25),(2,ag x.b5 [ae 0] 3),(3,ag x.b6 [ae 0] 26),(4,al x.x fG),(5,x.r.A)]
def EG:=az (tuple ⟨[agg ⟨eW⟩,ae 0,ae 4]⟩)
def Io(d:p8)(c:aw×fi):List Value:=[au d.x.la d.x.L.length d.x.lc,ae ↑c.fst.i,ae d.x.fin,au c.snd.r.a c.snd.r.n c.snd.r.cap,ae c.fst.bQ,ae c.fst.loops,ae c.fst.bI]
def MI(F:ai)(x:l5)(d:p8)(c:aw×fi):=[(0,F),(1,ag x.b4 eW 25),(2,ag x.b5 [ae 0] 3),(3,ag x.b6 [ae 4] 26),(4,ag d.x.b (Io d c) 43),(5,x.r.A),(6,c.snd.r.A),(7,eD (Kf.rest c.fst.nodes c.snd.vs))]
def JF(aa:List Value)(pp:List ai)(k0:qa->Unit->Prop):=aC 22 Bt/\true=true/\∃(z:qa),aa=[ah (pX z)]/\pp=[ag z.x.b (yg z) 43,z.y.r.A,eD (Kf.rest z.s.nodes z.y.vs)]/\(z.y.ok z.s.nodes/\mZ z.s.nodes z.y.vs/\bX z.x.fin z.s z.os/\z.s.nodes.length<=4194304)/\True/\∀(u0:Unit),True->k0 z u0
def MD(F:ai)(x:l5)(b:qa):=[(0,F),(1,ag x.b4 eW 25),(2,ag x.b5 [ae 0] 3),(3,ag x.b6 [ae 4] 26),(4,ag b.x.b (yg b) 43),(5,x.r.A),(6,b.y.r.A),(7,eD (Kf.rest b.s.nodes b.y.vs))]
def Ni(b:qa):=az (tuple ⟨[agg ⟨[au b.y.r.a b.y.r.n b.y.r.cap]⟩,ae 0,ae 0]⟩)
def Mo(F:ai)(x:l5)(b:qa):=[(0,F),(1,ag x.b4 [au b.y.r.a b.y.r.n b.y.r.cap] 25),(2,ag x.b5 [ae 0] 3),(3,ag x.b6 [ae 0] 26),(4,ag b.x.b (yg b) 43),(5,x.r.A),(6,b.y.r.A),(7,eD (Kf.rest b.s.nodes b.y.vs))]
def Me(x:l5):=ah (Ac x)=ah (Ac x)/\ah (Ad x)=ah (Ad x)/\ah (Ae x)=ah (Ae x)/\True
def Na(F:ai)(x:l5):=[(0,F),(1,ag x.b4 eW 25),(2,ag x.b5 [ae 0] 3),(3,ag x.b6 [ae 0] 26),(4,ba),(5,x.r.A)]
theorem amm(x:l5)(F:ai)(hc:(fb 16 cx).cond x)(hr:(fb 16 cx).aQ x F):(∃(a:Unit),True/\(func (Fn.func 16) ⟨[]⟩ ⟨[]⟩=func (Fn.func 16) ⟨[]⟩ ⟨[]⟩/\ah (Ac x)=ah (Ac x)/\ah (Ad x)=ah (Ad x)/\ah (Ae x)=ah (Ae x)/\ah (ww x)=ah (ww x)/\True)/\aD (M9 x F) (Ev F x))/\aS fun(f:Unit)_=>True->aC 16 (J9 cx)/\true=true/\∃(d:p8),[ah (ww x)]=[ah (oB d)]/\[al x.x fG]=[al d.x d.s]/\(iu d.K d.x/\PG d.x d.s []/\cx d.K d.x d.n d.s≠PR.out)/\cI d.K d.x (aH (Ev F x) [4])/\(∀(c:aw×fi),((cx d.K d.x d.n d.s=PR.ok () c.fst/\(∃(a:List Int),bX d.x.fin c.fst a)/\c.fst.nodes.length<=4194304)/\c.snd.ok c.fst.nodes/\mZ c.fst.nodes c.snd.vs)->dS ⟨x.x.b,3,none⟩ d.x.b/\aP ((c.snd.r.n:Int)>4096) (ax x.b4 0/\ax x.b5 0/\ax x.b6 0/\ax x.b4 0/\ax x.b5 0/\ax x.b6 0/\aq (fb (16:FuncId) cx) x F EG (MI F x d c)) (JF [ah (ww x)] [ag d.x.b (Io d c) 43,c.snd.r.A,eD (Kf.rest c.fst.nodes c.snd.vs)] (fun b a=>Br (sI b.s.nodes) (ax x.b4 0/\ax x.b5 0/\ax x.b6 0/\ax x.b4 0/\ax x.b5 0/\ax x.b6 0/\aq (fb (16:FuncId) cx) x F EG (MD F x b)) (dS ⟨x.x.b,3,none⟩ b.x.b/\ax x.b4 0/\ax x.b5 0/\ax x.b6 0/\ax x.b4 0/\ax x.b5 0/\ax x.b6 0/\aq (fb (16:FuncId) cx) x F (Ni b) (Mo F x b)))))/\∀(b:Int×Int),(∃(a:aw),cx d.K d.x d.n d.s=PR.stop b.fst b.snd a)->Me x/\aq (fb (16:FuncId) cx) x F (ci b) (Na F x):=by
 delta Ac Ad Ae ww eW M9 Ev oB EG Io MI pX yg JF MD Ni Mo Me ci Na dK aH al ax ae ah au ag eD ba aP az aS;obtain⟨K,x,n,b4,b5,b6,r⟩:=x;obtain⟨hf,hK,ho,bB,mK⟩:=hc;obtain⟨pM,kA⟩:=hr;dsimp only at hf hK ho bB mK pM kA⊢;refine⟨⟨(),ao,aV,aB [5,0,1,2,3,4]⟩,fun _ js _=>?_⟩;have hn:r.n=x.L.length:=by
  have:=bB.len;rw[K_]at this;omega
 have g0:PG x fG []:=⟨dC _,⟨List.Perm.refl _,List.Pairwise.nil,fun i x h=>by simp[fG]at h,fun x h=>by simp[fG]at h⟩,cr _,⟨cN 0,cN 0⟩,⟨cN 0,cN 0⟩,⟨cN 0,cN 0⟩⟩;refine bp (Yu hf) ⟨K,x,fG,n⟩ ⟨hK,g0,ho⟩ ⟨⟨?_,?_⟩,eT.sub pM (b_ 0),jA.sub kA (b_ 0)⟩ ⟨?_,?_⟩
 ·rw[mK,<-hn];exact bB.src
 ·rw[mK];exact bB.Fo.sub (b_ 5)
 ·rintro⟨t,y⟩ ⟨⟨h1,⟨os,h2⟩,h3⟩,hy,hk⟩;dsimp only at h1 h2 h3 hy hk⊢;have hl:=hy.len;refine⟨ap,bl (fun hb=>?_) (fun hb=>?_)⟩
  ·exact⟨ap,ap,ap,ap,ap,ap,.inl ⟨[],4,⟨dF,[]⟩⟩,⟨⟨t,h1,Ym af⟩,⟨.nil rfl,rfl⟩,ao⟩,rfl,aD.trans (aB [999,998,0]) Gv⟩
  ·refine bV YI ⟨x,t,y,os⟩ ⟨hy,hk,h2,h3⟩ fun _ _=>aG (fun hd=>?_) (fun hd=>?_)
   ·exact⟨ap,ap,ap,ap,ap,ap,.inl ⟨[],4,⟨dF,[]⟩⟩,⟨⟨t,h1,Yk hd⟩,⟨.nil rfl,rfl⟩,ao⟩,rfl,aD.trans (aB [999,998,0]) Gv⟩
   ·exact⟨ap,ap,ap,ap,ap,ap,ap,.inl ⟨t.nodes,0,y⟩,⟨⟨t,h1,Yn af hd⟩,hy,hk⟩,rfl,aB [6,7,0]⟩
 ·rintro⟨p,e⟩ h;exact⟨aV,.inr (p,e),h,rfl,aB [1,2,3,0]⟩
theorem aml(x:aR.X (fb 16 cx))(F:ai)(hc:(fb 16 cx).cond x)(hr:(fb 16 cx).aQ x F):su Tryz.prog 45 wj (abe x F) yD (iN wj) (oS (aR.args (fb 16 cx) x)) (bD (aR.pre (fb 16 cx) x++[F])) (Eo x) (aq (fb 16 cx) x F):=
 Eq.mpr bh (amm x F hc hr)
noncomputable def abd(x:aR.X (fb 13 cT))(F:ai):kj where
 op:=hk (((abh cT) x F)++[])
 BO:=(fun _ _ _=>none) x F
 cut:=(LB 13) x F
 B1:=(fun _=>[])
theorem amf(x:l5)(F:ai)(hc:(fb 13 cT).cond x)(hr:(fb 13 cT).aQ x F):(∃(a:Unit),True/\(func (Fn.func 13) ⟨[]⟩ ⟨[]⟩=func (Fn.func 13) ⟨[]⟩ ⟨[]⟩/\ah (Ac x)=ah (Ac x)/\ah (Ad x)=ah (Ad x)/\ah (Ae x)=ah (Ae x)/\ah (ww x)=ah (ww x)/\True)/\aD (M9 x F) (Ev F x))/\aS fun(f:Unit)_=>True->aC 13 (J9 cT)/\true=true/\∃(d:p8),[ah (ww x)]=[ah (oB d)]/\[al x.x fG]=[al d.x d.s]/\(iu d.K d.x/\PG d.x d.s []/\cT d.K d.x d.n d.s≠PR.out)/\cI d.K d.x (aH (Ev F x) [4])/\(∀(c:aw×fi),((cT d.K d.x d.n d.s=PR.ok () c.fst/\(∃(a:List Int),bX d.x.fin c.fst a)/\c.fst.nodes.length<=4194304)/\c.snd.ok c.fst.nodes/\mZ c.fst.nodes c.snd.vs)->dS ⟨x.x.b,3,none⟩ d.x.b/\aP ((c.snd.r.n:Int)>4096) (ax x.b4 0/\ax x.b5 0/\ax x.b6 0/\ax x.b4 0/\ax x.b5 0/\ax x.b6 0/\aq (fb (13:FuncId) cT) x F EG (MI F x d c)) (JF [ah (ww x)] [ag d.x.b (Io d c) 43,c.snd.r.A,eD (Kf.rest c.fst.nodes c.snd.vs)] (fun b a=>Br (sI b.s.nodes) (ax x.b4 0/\ax x.b5 0/\ax x.b6 0/\ax x.b4 0/\ax x.b5 0/\ax x.b6 0/\aq (fb (13:FuncId) cT) x F EG (MD F x b)) (dS ⟨x.x.b,3,none⟩ b.x.b/\ax x.b4 0/\ax x.b5 0/\ax x.b6 0/\ax x.b4 0/\ax x.b5 0/\ax x.b6 0/\aq (fb (13:FuncId) cT) x F (Ni b) (Mo F x b)))))/\∀(b:Int×Int),(∃(a:aw),cT d.K d.x d.n d.s=PR.stop b.fst b.snd a)->Me x/\aq (fb (13:FuncId) cT) x F (ci b) (Na F x):=by
 delta Ac Ad Ae ww eW M9 Ev oB EG Io MI pX yg JF MD Ni Mo Me ci Na dK aH al ax ae ah au ag eD ba aP az aS;obtain⟨K,x,n,b4,b5,b6,r⟩:=x;obtain⟨hf,hK,ho,bB,mK⟩:=hc;obtain⟨pM,kA⟩:=hr;dsimp only at hf hK ho bB mK pM kA⊢;refine⟨⟨(),ao,aV,aB [5,0,1,2,3,4]⟩,fun _ js _=>?_⟩;have hn:r.n=x.L.length:=by
  have:=bB.len;rw[K_]at this;omega
 have g0:PG x fG []:=⟨dC _,⟨List.Perm.refl _,List.Pairwise.nil,fun i x h=>by simp[fG]at h,fun x h=>by simp[fG]at h⟩,cr _,⟨cN 0,cN 0⟩,⟨cN 0,cN 0⟩,⟨cN 0,cN 0⟩⟩;refine bp (Yu hf) ⟨K,x,fG,n⟩ ⟨hK,g0,ho⟩ ⟨⟨?_,?_⟩,eT.sub pM (b_ 0),jA.sub kA (b_ 0)⟩ ⟨?_,?_⟩
 ·rw[mK,<-hn];exact bB.src
 ·rw[mK];exact bB.Fo.sub (b_ 5)
 ·rintro⟨t,y⟩ ⟨⟨h1,⟨os,h2⟩,h3⟩,hy,hk⟩;dsimp only at h1 h2 h3 hy hk⊢;have hl:=hy.len;refine⟨ap,bl (fun hb=>?_) (fun hb=>?_)⟩
  ·exact⟨ap,ap,ap,ap,ap,ap,.inl ⟨[],4,⟨dF,[]⟩⟩,⟨⟨t,h1,Ym af⟩,⟨.nil rfl,rfl⟩,ao⟩,rfl,aD.trans (aB [999,998,0]) Gv⟩
  ·refine bV YI ⟨x,t,y,os⟩ ⟨hy,hk,h2,h3⟩ fun _ _=>aG (fun hd=>?_) (fun hd=>?_)
   ·exact⟨ap,ap,ap,ap,ap,ap,.inl ⟨[],4,⟨dF,[]⟩⟩,⟨⟨t,h1,Yk hd⟩,⟨.nil rfl,rfl⟩,ao⟩,rfl,aD.trans (aB [999,998,0]) Gv⟩
   ·exact⟨ap,ap,ap,ap,ap,ap,ap,.inl ⟨t.nodes,0,y⟩,⟨⟨t,h1,Yn af hd⟩,hy,hk⟩,rfl,aB [6,7,0]⟩
 ·rintro⟨p,e⟩ h;exact⟨aV,.inr (p,e),h,rfl,aB [1,2,3,0]⟩
theorem ame(x:aR.X (fb 13 cT))(F:ai)(hc:(fb 13 cT).cond x)(hr:(fb 13 cT).aQ x F):su Tryz.prog 45 wj (abd x F) yD (iN wj) (oS (aR.args (fb 13 cT) x)) (bD (aR.pre (fb 13 cT) x++[F])) (Eo x) (aq (fb 13 cT) x F):=
 Eq.mpr bh (amf x F hc hr)
end
section
open Go
section
variable{P:Program}{N:Nat}
theorem acF(hm:P.follows .mixedOrders=true){H:kj}{x y z:Code}{key:Nat}{T:Tm}{S:St}{K:Exit->Tm->St->Prop}{a:Act}{I:a7}{w:World}{ds:List Deferred}{Q:Exit->Act->World->Prop}
  (GD:(sP y).bind H.cut=none) (h:E P N H (.seq x y) key T S K) (bw:dM N T a) (hd:a.defers=ds) (hs:Sat I S w)
  (hQ:∀e a' w',e≠.normal->fh N I w ds (K e) a' w'->Q e a' w')
  (hz:∀T' S' J a' w',E P N H y key T' S' K->dM N T' a'->a'.defers=ds->a7.le I J->Sat J S' w'->cE w w'->z.wp P Q a' w'):(Code.seq x z).wp P Q a w:=by
 simp only[E]at h;rw[GD]at h;refine wp_seq (FG hm H x h bw hd hs fun e a' w' bN=>?_);cases e with
 |normal=>
  obtain⟨T',S',J,h1,h2,h3,h4,h5,h6⟩:=bN;exact hz T' S' J a' w' h6 h1 h2 h3 h4 h5
 |_=>exact hQ _ _ _ (fun e=>nomatch e) bN
theorem wp_cut(hm:P.follows .mixedOrders=true){H:kj}{x y z:Code}{key:Nat}{T:Tm}{S:St}{K:Exit->Tm->St->Prop}{a:Act}{I:a7}{w:World}{ds:List Deferred}{Q:Exit->Act->World->Prop}{V:Inv}
  (GD:(sP y).bind H.cut=some V) (RQ:V.gh=none) (h:E P N H (.seq x y) key T S K) (bw:dM N T a) (hd:a.defers=ds) (hs:Sat I S w)
  (hQ:∀e a' w',e≠.normal->fh N I w ds (K e) a' w'->Q e a' w')
  (hz:∀d js J a' w',V.P d->E P N H y key (kE js (V.lv d)) (bD (V.st d)) K->dM N (kE js (V.lv d)) a'->a'.defers=ds->a7.le I J->Sat J (bD (V.st d)) w'->cE w w'->z.wp P Q a' w'):(Code.seq x z).wp P Q a w:=by
 simp only[E]at h;rw[GD]at h;have h:(E P N H x key T S fun e T S=>match e with| .normal=>∃x,V.P x/\ki T (V.lv x)/\aD S (bD (V.st x))|e=>K e T S)/\∀x js,V.P x->E P N H y key (kE js (V.lv x)) (bD (V.st x)) K:=by
  dsimp only at h;split at h
  ·exact h
  ·rename_i g hg
   rw[RQ]at hg;cases hg
 refine wp_seq (FG hm H x h.1 bw hd hs fun e a' w' bN=>?_);cases e with
 |normal=>
  obtain⟨T',S',J,h1,h2,h3,h4,h5,d,hp,he,jW⟩:=bN;obtain⟨J',bS,el⟩:=jW.h J w' h4;exact hz d T'.z00 J' a' w' hp (h.2 d T'.z00 hp) (qB h1 he) h2 (a7.le_trans h3 bS) el h5
 |_=>exact hQ _ _ _ (fun e=>nomatch e) bN
end
theorem Xn{P:Program}{N:Nat}{H:kj}{x y:Code}{key:Nat}{T:Tm}{S:St}{K:Exit->Tm->St->Prop}{V:Inv}(GD:(sP y).bind H.cut=some V)(RQ:V.gh=none)(h:E P N H (.seq x y) key T S K):∀d js,V.P d->E P N H y key (kE js (V.lv d)) (bD (V.st d)) K:=by
 simp only[E]at h;rw[GD]at h;dsimp only at h;split at h
 ·exact h.2
 ·rename_i g hg
  rw[RQ]at hg;cases hg
theorem wpOps_cons{P:Program}{aN:Array Oper}{Q:Exit->Act->World->Prop}{a:Act}{w:World}{i:Nat}{rest:List Nat}{o:Oper}(ho:aN[i]?=some o)(hg:o.guard=none)(h:o.wp P a w (wpOps P aN Q rest) Q):wpOps P aN Q (i::rest) a w:=by
 simp only[wpOps,ho];have:Region.wanted o (yielded aN a.tmps)=true:=by unfold Region.wanted;rw[hg]
 rw[if_pos this];exact .inl h
theorem acE{P:Program}{aN:Array Oper}{Q:Exit->Act->List Frame->World->Prop}{a:Act}{cs pF:List Frame}{w w':World}{i:Nat}{rest:List Nat}{o:Oper}{v:Value}(ho:aN[i]?=some o)(hg:o.guard=none)
  (hr:((execOp a.eval o).run P w= .ok .recover w'/\(recoverD cs=some (v,pF)\/(recoverD cs=none/\v= .nilIface/\pF=cs)))\/((execOp a.eval o).run P w= .ok (.value v) w'/\pF=cs))
  (h:wpOpsS P aN Q rest (a.put o.dst v) pF w'):wpOpsS P aN Q (i::rest) a cs w:=by
 simp only[wpOpsS,ho];have:Region.wanted o (yielded aN a.tmps)=true:=by unfold Region.wanted;rw[hg]
 rw[if_pos this];rcases hr with⟨hr,h1| ⟨h1,rfl,rfl⟩⟩| ⟨hr,rfl⟩
 ·rw[hr];simp only[h1];exact h
 ·rw[hr];simp only[h1];exact h
 ·rw[hr];exact h
def pV(b:Nat):Value:=.pointer (some ⟨b,0,none⟩)
def Yj(b4 b5 b6:Nat):Deferred:={target:=.fn (.func 21) #[pV b4,pV b5,pV b6],args:=#[]}
theorem aqj{Q:Exit->Act->World->Prop}{T:Tm}{a:Act}{w:World}{b4 b5 b6:Nat}(bw:dM 45 T a)(h4:T.z00 4=pV b4)(h5:T.z00 5=pV b5)(h6:T.z00 6=pV b6)
  (h:∀T' a',a'.defers=Yj b4 b5 b6::a.defers->dM 45 T' a'->(∀i,i≠25->T'.z00 i=T.z00 i)->Q .normal a' w):(pD (jS 4 mP)).wp Tryz.prog Q a w:=by
 have e:pD (jS 4 mP)= .region 5 #[a8 Tryz.f12 5 0,a8 Tryz.f12 5 1] false:=bh;rw[e];refine wp_region ?_;show wpOps _ _ _ [0,1] a w;have r1:(execOp (ev T) (a8 Tryz.f12 5 0)).run Tryz.prog w= .ok (.value (.func (.func 21) #[] #[T.z00 4,T.z00 5,T.z00 6])) w:=bh;refine wpOps_cons (o:=a8 Tryz.f12 5 0) rfl rfl ?_;unfold Oper.wp;rw[bw.eval,r1,Oper.upon_value];have vT:=bw.put (a8 Tryz.f12 5 0).dst (.func (.func 21) #[] #[T.z00 4,T.z00 5,T.z00 6]);refine wpOps_cons (o:=a8 Tryz.f12 5 1) rfl rfl ?_;unfold Oper.wp;have r2:(execOp (ev (dz 45 (a8 Tryz.f12 5 0).dst (.func (.func 21) #[] #[T.z00 4,T.z00 5,T.z00 6]) T)) (a8 Tryz.f12 5 1)).run Tryz.prog w= .ok (.defer {target:=.fn (.func 21) #[T.z00 4,T.z00 5,T.z00 6],args:=#[]}) w:=bh;rw[vT.eval,r2,Oper.upon_defer];refine h _ _ ?_ ((vT.defers _).put (a8 Tryz.f12 5 1).dst undef) ?_
 ·rw[Et,h4,h5,h6];show _::(a.put _ _).defers=_;rw[Et];rfl
 ·intro i hi;show(dz 45 none undef (dz 45 (some 25) _ T)).z00 i=_;show(dz 45 (some 25) _ T).z00 i=_;rw[Es];rw[if_neg (fun h=>hi h.2)]
theorem agp:iN Tryz.f21= .seq (.region 0 #[a8 Tryz.f21 0 0,a8 Tryz.f21 0 1] false) (jS 1 (iN Tryz.f21)):=bh
theorem agq:∃A,jS 1 (iN Tryz.f21)= .seq (.region 1 #[a8 Tryz.f21 1 0,a8 Tryz.f21 1 1] false) (.cond (.tmp 7) A .skip):=⟨match jS 2 (iN Tryz.f21)with| .cond _ a _=>a|c=>c,bh⟩
theorem Yo{Q:Exit->Act->List Frame->World->Prop}{b4 b5 b6:Nat}{v:Value}{cs pF:List Frame}{w:World}(hr:recoverD cs=some (v,pF)\/(recoverD cs=none/\v= .nilIface/\pF=cs))
  (h:∀T a,dM 15 T a->a.defers=[]->T.z00 0=pV b4->T.z00 1=pV b5->T.z00 2=pV b6->T.z00 3=v->(jS 1 (iN Tryz.f21)).wpS Tryz.prog Q a pF w):
  (iN Tryz.f21).wpS Tryz.prog Q {tmps:=#[pV b4,pV b5,pV b6]++Array.replicate (15-3) undef,defers:=[]} cs w:=by
 rw[agp];refine wpS_seq (wpS_region ?_);have bw:=Is (N:=15) [pV b4,pV b5,pV b6] (Nat.le_of_ble_eq_true rfl);show wpOpsS _ _ _ [0,1] {tmps:=⟨[pV b4,pV b5,pV b6]⟩++Array.replicate (15-3) undef,defers:=[]} cs w;refine acE (v:=v) (pF:=pF) (w':=w) (o:=a8 Tryz.f21 0 0) rfl rfl (.inl ⟨?_,hr⟩) ?_
 ·rw[show(execOp _ (a8 Tryz.f21 0 0)).run Tryz.prog w= .ok .recover w from rfl]
 have vT:=bw.put (a8 Tryz.f21 0 0).dst v;refine acE (v:=v) (pF:=pF) (w':=w) (o:=a8 Tryz.f21 0 1) rfl rfl (.inr ⟨?_,rfl⟩) ?_
 ·have:(execOp (ev (dz 15 (a8 Tryz.f21 0 0).dst v (oS [pV b4,pV b5,pV b6]))) (a8 Tryz.f21 0 1)).run Tryz.prog w= .ok (.value v) w:=by kernel_rfl
  rw[<-vT.eval]at this;exact this
 have GV:=vT.put (a8 Tryz.f21 0 1).dst v;exact h _ _ GV (by rw[Et,Et]) bh bh bh bh
theorem af1(b4 b5 b6:Nat)(w:World):CallsD Tryz.prog 21 #[pV b4,pV b5,pV b6] .returning w fun e u' w'=>e= .returned (.tuple #[])/\u'= .returning/\w'=w:=by
 refine callsD_of_wpS (c:=iN Tryz.f21) Tryz.func21 bh fun c₀ cs hu=>?_;refine Yo (v:=.nilIface) (pF:=c₀::cs) (.inr ⟨by simp[recoverD,hu],rfl,rfl⟩) fun T a bw hd _ _ _ h3=>?_;obtain⟨A,hA⟩:=agq;rw[hA];refine wpS_of_wp (wp_seq (wp_region ?_));show wpOps _ _ _ [0,1] a w;have oY:dM 15 (kE T.z00 [(3,.nilIface)]) a:=qB bw ⟨h3,ao⟩;refine wpOps_cons (o:=a8 Tryz.f21 1 0) rfl rfl ?_;unfold Oper.wp;rw[oY.eval,show(execOp (ev (kE T.z00 [(3,.nilIface)])) (a8 Tryz.f21 1 0)).run Tryz.prog w= .ok (.value .nilIface) w by kernel_rfl,Oper.upon_value];have vT:=oY.put (a8 Tryz.f21 1 0).dst .nilIface;refine wpOps_cons (o:=a8 Tryz.f21 1 1) rfl rfl ?_;unfold Oper.wp;rw[vT.eval,show(execOp (ev (dz 15 (a8 Tryz.f21 1 0).dst .nilIface (kE T.z00 [(3,.nilIface)]))) (a8 Tryz.f21 1 1)).run Tryz.prog w= .ok (.value (.bool false)) w by kernel_rfl,Oper.upon_value];have GV:=vT.put (a8 Tryz.f21 1 1).dst (.bool false);show Code.wp _ _ _ _ _;refine wp_cond (t:=false) ?_ (wp_skip ?_)
 ·rw[GV.eval];kernel_rfl
 ·refine⟨by rw[Et,Et];exact hd,.returning,?_,.tuple #[],bh,rfl,rfl,rfl⟩;rw[<-hu]
theorem af2{b4 b5 b6:Nat}{p e:Int}{F:ai}{I:a7}{w:World}(hs:Sat I (bD (pS.pre ⟨b4,b5,b6,p,e⟩++[F])) w):CallsD Tryz.prog 21 #[pV b4,pV b5,pV b6] (.panicking [⟨jy p e,false,false⟩]) w fun e' u' w'=>e'= .returned (.tuple #[])/\u'= .panicking [⟨jy p e,true,false⟩]/\∃J,a7.le I J/\Sat J (bD (pS.post ⟨b4,b5,b6,p,e⟩ ()++[F])) w'/\cE w w':=by
 refine callsD_of_wpS (c:=iN Tryz.f21) Tryz.func21 bh fun c₀ cs hu=>?_;refine Yo (v:=jy p e) (pF:={c₀ with mode:=.panicking [⟨jy p e,true,false⟩]}::cs) (.inl (by simp[recoverD,hu])) fun T a bw hd h0 h1 h2 h3=>?_;have hb:=am_ ⟨b4,b5,b6,p,e⟩ F trivial trivial;unfold su at hb;have hE:=Xn (V:={X:=Unit,P:=fun _=>True,mu:=fun _=>0,lv:=fun _=>[(0,.pointer (some ⟨b4,0,none⟩)),(1,.pointer (some ⟨b5,0,none⟩)),(2,.pointer (some ⟨b6,0,none⟩)),(3,jy p e)],st:=fun _=>[F,.cells b4 [.slice none 0 0] 25,.cells b5 [.int .i64 0] 3,.cells b6 [.int .i64 0] 26]}) bh rfl (show E _ _ _ (.seq .skip (jS 1 (iN Tryz.f21))) _ _ _ _ from hb) () T.z00 trivial;refine wpS_of_wp (FG bh _ _ hE (qB bw ⟨h0,h1,h2,h3,ao⟩) hd (hs.pick [3,0,1,2] rfl rfl) fun x a' w' bN=>?_);obtain⟨T',S',J,g1,g2,g3,g4,g5,g6⟩:=bN;have fin:rd Tryz.prog S' (kK S9 T') [] (fun v=>aq pS ⟨b4,b5,b6,p,e⟩ F (.returned v) S')->bodyPostS Tryz.prog Tryz.f21 c₀ cs (fun e' u' w'=>e'= .returned (.tuple #[])/\u'= .panicking [⟨jy p e,true,false⟩]/\∃J,a7.le I J/\Sat J (bD (pS.post ⟨b4,b5,b6,p,e⟩ ()++[F])) w'/\cE w w') .normal a' ({c₀ with mode:=.panicking [⟨jy p e,true,false⟩]}::cs) w':=by
  intro g6;obtain⟨v,cm,⟨⟨_,_,hv,jW⟩⟩⟩:=yC g4 _ _ _ g6;obtain⟨J',bS,dD⟩:=jW.h J w' g4;exact⟨g2,_,rfl,.tuple #[],bh,rfl,rfl,J',a7.le_trans g3 bS,dD,g5⟩
 cases x with
 |normal=>exact fin g6
 |ret=>exact fin g6
 |panic ch=>
  obtain⟨_,⟨⟨_,_,hv,_⟩⟩⟩:=g6;cases hv
 |_=>exact g6.elim
structure OY where
 K:cj
 src:ByteArray
 n:Nat
def m_(K:cj)(src:ByteArray):co:=⟨0,none,0,(dE K src).1,src.size⟩
def vA(K:cj)(src:ByteArray):Prop:=src.size>8192\/0<=(dE K src).2
def cz(M:cj->co->Nat->PM Unit)(K:cj)(src:ByteArray)(n:Nat):List cA×Int×Int:=
 bif decide (src.size>8192)||decide (0<=(dE K src).2) then ([],(j7 K src).1,(j7 K src).2)
 else match M K (m_ K src) n fG with
  | .ok _ t=>((qi t.nodes).1,0,(qi t.nodes).2)
  | .stop p e _=>([],p,e)
  | .out=>([],0,0)
def wk(bO:FuncId)(M:cj->co->Nat->PM Unit):aR where
 X:=OY
 Y:=fi
 args x:=[.string x.src,.func (.func bO) #[] #[]]
 cond x:=aC 72 (pP x.K)/\aC bO (oR M)/\(¬vA x.K x.src->iu x.K (m_ x.K x.src)/\M x.K (m_ x.K x.src) x.n fG≠.out)
 aQ x F:=eT x.K F/\jA F
 cd x y:=y.ok (cz M x.K x.src x.n).1/\mZ (cz M x.K x.src x.n).1 y.vs
 val x y:=.returned (.tuple #[.agg #[.slice y.r.a y.r.n y.r.cap],.int .i64 (cz M x.K x.src x.n).2.1,.int .i64 (cz M x.K x.src x.n).2.2])
 post x y:=[y.r.A,(gb (cz M x.K x.src x.n).1 y.vs)]
theorem S5{M:cj->co->Nat->PM Unit}{K:cj}{src:ByteArray}{n:Nat}(h:vA K src):cz M K src n=([],(j7 K src).1,(j7 K src).2):=by
 unfold cz;have:(decide (src.size>8192)||decide (0<=(dE K src).2))=true:=by
  rcases h with h|h <;> simp[h]
 rw[this];rfl
theorem Lx{M:cj->co->Nat->PM Unit}{K:cj}{src:ByteArray}{n:Nat}(h:¬vA K src):cz M K src n=match M K (m_ K src) n fG with
  | .ok _ t=>((qi t.nodes).1,0,(qi t.nodes).2)
  | .stop p e _=>([],p,e)
  | .out=>([],0,0):=by
 unfold cz;have:(decide (src.size>8192)||decide (0<=(dE K src).2))=false:=by
  rw[Bool.or_eq_false_iff,decide_eq_false_iff_not,decide_eq_false_iff_not];exact⟨fun e=>h (.inl e),fun e=>h (.inr e)⟩
 rw[this];rfl
def OJ(M:cj->co->Nat->PM Unit):Prop:=∀(K:cj)(b b':Nat)(la la':Option Addr)(lc lc':Nat)(L:List bA)(fin:Int)(n:Nat),M K ⟨b,la,lc,L,fin⟩ n=M K ⟨b',la',lc',L,fin⟩ n
theorem ano:OJ cx:=fun _ _ _ _ _ _ _ _ _ _=>rfl
theorem ahc:OJ cT:=fun _ _ _ _ _ _ _ _ _ _=>rfl
def S8(bO:FuncId)(M:cj->co->Nat->PM Unit):Prop:=∃H:l5->ai->kj,(∀x F,(sP (jS 5 mP)).bind (H x F).cut=LB bO x F 6)/\∀(x:l5)(F:ai),(fb bO M).cond x->(fb bO M).aQ x F->su Tryz.prog 45 wj (H x F) yD (iN wj) (oS ((fb bO M).args x)) (bD ((fb bO M).pre x++[F])) (Eo x) (aq (fb bO M) x F)
theorem amk:S8 16 cx:=⟨abe,fun _ _=>bh,aml⟩
theorem amd:S8 13 cT:=⟨abd,fun _ _=>bh,ame⟩
theorem ago:Tryz.f12.body=some (.seq (pD mP) (.seq (pD (jS 1 mP)) (.seq (pD (jS 2 mP)) (.seq (pD (jS 3 mP)) (.seq (pD (jS 4 mP)) (jS 5 mP)))))):=bh
theorem ans{bO:FuncId}{M:cj->co->Nat->PM Unit}{x:l5}{F:ai}{I:a7}{w:World}{R:Ending->World->Prop}
  (ajw:∀a w' J,(fb bO M).cd x (.inl a)->a7.le I J->Sat J (bD ((fb bO M).post x (.inl a)++[F])) w'->cE w w'->R ((fb bO M).val x (.inl a)) w')
  (ajk:∀p e w' J,(fb bO M).cd x (.inr (p,e))->a7.le I J->Sat J (bD [F]) w'->cE w w'->R (.returned (.tuple #[.agg #[.slice none 0 0],.int .i64 p,.int .i64 e])) w'):
  ∀e a' w',fh 45 I w [Yj x.b4 x.b5 x.b6] ((fun e T S=>match e with
  | .normal=>match Eo x with| []=>True|_::_=>rd Tryz.prog S (kK wj T) yD fun v=>aq (fb bO M) x F (.returned v) S
  | .ret=>rd Tryz.prog S (kK wj T) yD fun v=>aq (fb bO M) x F (.returned v) S
  | .panic ch=>ki T (Eo x)/\aq (fb bO M) x F (.panicked ch) S
  |_=>False:Exit->Tm->St->Prop) e) a' w'->bodyPostD Tryz.prog Tryz.f12 R e a' w':=by
 intro e a' w' bN;obtain⟨T',S',J,g1,g2,g3,g4,g5,g6⟩:=bN;have fin:rd Tryz.prog S' (kK wj T') yD (fun v=>aq (fb bO M) x F (.returned v) S')->Leaves Tryz.prog Tryz.f12 a'.tmps R a'.defers .returning w':=by
  intro g6;obtain⟨v,cm,⟨⟨y,hy,hv,jW⟩⟩⟩:=yC g4 _ _ _ g6;obtain⟨J',bS,dD⟩:=jW.h J w' g4;rw[g2];refine leaves_cons aM (f:=21) (args:=#[pV x.b4,pV x.b5,pV x.b6]) bh ((af1 _ _ _ _).mono ?_);rintro _ _ w2 ⟨rfl,rfl,e2⟩;replace e2:=e2.symm;subst e2;have td:(results Tryz.f12 a'.tmps).run Tryz.prog w'= .ok v w':=by
   rw[show results Tryz.f12 a'.tmps=results wj a'.tmps from rfl,Fe g1];exact cm
  match y,hy,hv,dD with
  | .inl a,hy,hv,dD=>exact⟨v,td,hv▸ajw a w' J' hy (a7.le_trans g3 bS) dD g5⟩
  | .inr a,hy,hv,dD=>cases hv
 cases e with
 |normal=>exact fin g6
 |ret=>exact fin g6
 |panic ch=>
  obtain⟨hq,⟨⟨y,hy,hv,jW⟩⟩⟩:=g6
  match y,hy,hv,jW with
  | .inl a,hy,hv,jW=>cases hv
  | .inr (p,e),hy,hv,jW=>
   obtain⟨J',bS,dD⟩:=jW.h J w' g4;cases hv;show Leaves Tryz.prog Tryz.f12 a'.tmps R a'.defers _ w';rw[g2];refine leaves_cons aM (f:=21) (args:=#[pV x.b4,pV x.b5,pV x.b6]) bh ((af2 (F:=F) (p:=p) (e:=e) dD).mono ?_);rintro _ _ w2 ⟨rfl,rfl,J2,og,vU,he3⟩;have oX:rd Tryz.prog (bD (pS.post ⟨x.b4,x.b5,x.b6,p,e⟩ ()++[F])) (kK Tryz.f12 (kE T'.z00 (Eo x))) [.z00 0,.z00 1,.z00 2] (fun v=>v= .tuple #[.agg #[.slice none 0 0],.int .i64 p,.int .i64 e]):=by
    exact Eq.mpr (show _=(dS ⟨x.b4,0,none⟩ x.b4/\dS ⟨x.b5,0,none⟩ x.b5/\dS ⟨x.b6,0,none⟩ x.b6/\(tuple #[.agg #[.slice none 0 0],.int .i64 p,.int .i64 e]= .tuple #[.agg #[.slice none 0 0],.int .i64 p,.int .i64 e])) by kernel_rfl) ⟨ap,ap,ap,rfl⟩
   obtain⟨v,cm,rfl⟩:=yC vU _ _ _ oX;have td:(results Tryz.f12 a'.tmps).run Tryz.prog w2= .ok (.tuple #[.agg #[.slice none 0 0],.int .i64 p,.int .i64 e]) w2:=by
    rw[Fe (qB g1 hq)];exact cm
   exact⟨_,td,ajk p e w2 J2 hy (a7.le_trans g3 (a7.le_trans bS og)) (vU.pick [3] rfl rfl) (g5.trans he3)⟩
 |_=>exact g6.elim
theorem Ta{bO:FuncId}{M:cj->co->Nat->PM Unit}{K:cj}{src:ByteArray}{n:Nat}{F:ai}{I J:a7}{w w':World}{ns:List cA}{p e:Int}{y:fi}(hv:cz M K src n=(ns,p,e))(hy:y.ok ns)(hk:mZ ns y.vs)(bS:a7.le I J)(hs:Sat J (bD [y.r.A,gb ns y.vs,F]) w')(he:cE w w'):
  ∃z J,(wk bO M).cd ⟨K,src,n⟩ z/\returned (.tuple #[.agg #[.slice y.r.a y.r.n y.r.cap],.int .i64 p,.int .i64 e])=(wk bO M).val ⟨K,src,n⟩ z/\a7.le I J/\Sat J (bD ((wk bO M).post ⟨K,src,n⟩ z++[F])) w'/\cE w w':=by
 refine⟨y,J,?_,?_,bS,?_,he⟩
 ·show y.ok (cz M K src n).1/\mZ (cz M K src n).1 y.vs;rw[hv];exact⟨hy,hk⟩
 ·show _=returned (.tuple #[.agg #[.slice y.r.a y.r.n y.r.cap],.int .i64 (cz M K src n).2.1,.int .i64 (cz M K src n).2.2]);rw[hv]
 ·show Sat J (bD [y.r.A,gb (cz M K src n).1 y.vs,F]) w';rw[hv];exact hs
theorem aaQ{J:a7}{F:ai}{w:World}(h:Sat J (bD [F]) w):∃J',a7.le J J'/\Sat J' (bD [dF.A,gb [] [],F]) w:=
 Gv.h J w (h.pick [999,998,0] rfl rfl)
theorem abl{bO:FuncId}{M:cj->co->Nat->PM Unit}(hM:OJ M)(hB:S8 bO M):aC 12 (wk bO M):=⟨fun x F I w hc hr hs=>by
 obtain⟨K,src,n⟩:=x;obtain⟨vN,RD,KG⟩:=hc;dsimp only at vN RD KG;refine calls_of_wp_defers Tryz.func12 ago ?_;have hm:Tryz.prog.follows .mixedOrders=true:=by kernel_rfl
 have bw:=Is (N:=45) [.string src,.func (.func bO) #[] #[]] (Nat.le_of_ble_eq_true rfl);have hA:=am4 ⟨K,src,bO⟩ F vN hr.1;unfold su at hA;have hQ:∀(I':a7)(w0:World),a7.le I I'->cE w w0->∀e a' w',e≠Exit.normal->fh 45 I' w0 [] ((fun e T S=>match e with
  | .normal=>match S7 ⟨K,src,bO⟩with| []=>True|_::_=>rd Tryz.prog S (kK Hn T) yD fun v=>aq rL ⟨K,src,bO⟩ F (.returned v) S
  | .ret=>rd Tryz.prog S (kK Hn T) yD fun v=>aq rL ⟨K,src,bO⟩ F (.returned v) S
  | .panic ch=>ki T (S7 ⟨K,src,bO⟩)/\aq rL ⟨K,src,bO⟩ F (.panicked ch) S
  |_=>False:Exit->Tm->St->Prop) e) a' w'->bodyPostD Tryz.prog Tryz.f12 (fun e w'=>∃y J,(wk bO M).cd ⟨K,src,n⟩ y/\e=(wk bO M).val ⟨K,src,n⟩ y/\a7.le I J/\Sat J (bD ((wk bO M).post ⟨K,src,n⟩ y++[F])) w'/\cE w w') e a' w':=by
  intro I' w0 BG aiE e a' w' jI bN;obtain⟨T',S',J,g1,g2,g3,g4,g5,g6⟩:=bN;cases e with
  |normal=>exact absurd rfl jI
  |ret=>
   obtain⟨v,cm,⟨⟨_,aim,hv,jW⟩⟩⟩:=yC g4 _ _ _ g6;obtain⟨J',bS,dD⟩:=jW.h J w' g4;obtain⟨J2,og,vU⟩:=aaQ dD;show Leaves Tryz.prog Tryz.f12 a'.tmps _ a'.defers .returning w';rw[g2];refine⟨v,by rw[show results Tryz.f12 a'.tmps=results Hn a'.tmps from rfl,Fe g1];exact cm,?_⟩;have:=Ta (bO:=bO) (M:=M) (K:=K) (src:=src) (n:=n) (y:=⟨dF,[]⟩) (S5 aim) ⟨.nil rfl,rfl⟩ trivial (a7.le_trans BG (a7.le_trans g3 (a7.le_trans bS og))) vU (aiE.trans g5);rw[hv];exact this
  |panic ch=>
   obtain⟨_,⟨⟨_,_,hv,_⟩⟩⟩:=g6;cases hv
  |_=>exact g6.elim
 refine acF hm (H:=abg ⟨K,src,bO⟩ F) (y:=.seq (pD (jS 1 mP)) (.seq (pD (jS 2 mP)) (.seq (pD (jS 3 mP)) (.region 5 #[] false)))) bh hA bw rfl hs (hQ I w (a7.le_refl I) (cE.refl w)) ?_;intro T1 S1 J1 a1 w1 Ky ajt zA ZH qv Zv;refine wp_cut hm (V:=(S6 ⟨K,src,bO⟩ F 2).get rfl) bh rfl Ky ajt zA qv (hQ J1 w1 ZH Zv) ?_;rintro d2 js2 J2 a2 w2 iE hE2 vT RI og dD aiF;have ZI:=a7.le_trans ZH og;have Zw:=Zv.trans aiF;refine acF hm (y:=.seq (pD (jS 3 mP)) (.region 5 #[] false)) bh hE2 vT RI dD (hQ J2 w2 ZI Zw) ?_;intro T3 S3 J3 a3 w3 hE3 GV hd3 aiY vU aiG;have RV:=a7.le_trans ZI aiY;have RL:=Zw.trans aiG;refine wp_cut hm (V:=(S6 ⟨K,src,bO⟩ F 5).get rfl) bh rfl hE3 GV hd3 vU (hQ J3 w3 RV RL) ?_;rintro⟨b4,b5,b6,b8,r⟩ js5 J5 a5 w5 RR-aju hd5 ZJ R9 Zx;replace RR:rf.jl ⟨K,src,bO⟩ r:=RR;obtain⟨q1,q2,q3,q4⟩:=RR;dsimp only at q1 q2 q3 q4;have R0:¬vA K src:=by
  rintro(h|h) <;> omega
 obtain⟨hP,ho⟩:=KG R0;refine wp_seq (aqj aju (b4:=b4) (b5:=b5) (b6:=b6) rfl rfl rfl fun T6 a6 hd6 ajv GB=>?_);obtain⟨H,aip,ain⟩:=hB;have hP':iu K ⟨b8,r.a,r.cap,(dE K src).1,src.size⟩:=⟨⟨hP.num,hP.Ol,hP.len,hP.On⟩,hP.dQ⟩;have Ry:M K ⟨b8,r.a,r.cap,(dE K src).1,src.size⟩ n=M K (m_ K src) n:=hM K _ _ _ _ _ _ _ _ _;have hb:=ain ⟨K,⟨b8,r.a,r.cap,(dE K src).1,src.size⟩,n,b4,b5,b6,r⟩ F ⟨RD,hP',by dsimp only;rw[Ry];exact ho,q3,rfl⟩ hr;unfold su at hb;have hE:=Xn (V:=(LB bO ⟨K,⟨b8,r.a,r.cap,(dE K src).1,src.size⟩,n,b4,b5,b6,r⟩ F 6).get rfl) (aip _ _) rfl (show E _ _ _ (.seq .skip (jS 5 mP)) _ _ _ _ from hb) () T6.z00 trivial;refine FG hm _ _ hE (qB ajv ⟨(GB 1 (by decide)).trans rfl,(GB 4 (by decide)).trans rfl,(GB 5 (by decide)).trans rfl,(GB 6 (by decide)).trans rfl,(GB 8 (by decide)).trans rfl,ao⟩) (hd6.trans (by rw[hd5])) (R9.pick [0,1,2,3,4,5] rfl rfl) (ans ?_ ?_)
 ·rintro⟨ns,e,y⟩ w' J ⟨⟨t,h1,h2⟩,hy,hk⟩ bS el ft;dsimp only at h1 h2 hy hk;have hv:cz M K src n=(ns,0,e):=by
   rw[Lx R0,<-Ry,h1];dsimp only;rw[h2]
  exact Ta hv hy hk (a7.le_trans RV (a7.le_trans ZJ bS)) el ((RL.trans Zx).trans ft)
 ·intro p e w' J ⟨t,h1⟩ bS el ft;dsimp only at h1;have hv:cz M K src n=([],p,e):=by
   rw[Lx R0,<-Ry,h1]
  obtain⟨J2,og,vU⟩:=aaQ el;exact Ta (y:=⟨dF,[]⟩) hv ⟨.nil rfl,rfl⟩ trivial (a7.le_trans RV (a7.le_trans ZJ (a7.le_trans bS og))) vU ((RL.trans Zx).trans ft)⟩
end
section
open Go
theorem ap8(c:Nat):(jz c).length<=4:=by
 unfold jz;cases decide (c>65535) <;> (dsimp only[bf,aU];simp)
theorem apj(s:ByteArray)(mark:Nat):∀(f i:Nat)(o:List Nat)(j:Nat)(u:List Nat),i<=s.size->pm s mark f i o=(j,some u)->u.length+4*i<=o.length+4*j:=by
 intro f
 induction f with
 |zero=>intro i o j u _ h;cases h
 |succ f ih=>
  intro i o j u hi h;rw[pm]at h;cases hn:eo s i with
  |none=>rw[hn]at h;cases h
  |some cn=>
   obtain⟨c,n⟩:=cn;obtain⟨f1,f2,f3⟩:=pO hn;rw[hn]at h;dsimp only at h;cases h1:(c==10||c==13)with
   |true=>rw[h1]at h;cases h
   |false=>
    rw[h1,aU]at h;cases h2:c==mark with
    |true=>
     grind
    |false=>
     rw[h2,aU]at h;cases h3:c==92 with
     |true=>
      rw[h3,bf]at h;rcases hE:iB s (i+n)with⟨k,_|v⟩
      ·grind
      ·rw[hE]at h;obtain⟨q1,q2,q3⟩:=Ki hE f1;grind
     |false=>
      rw[h3,aU]at h;have:=ih (i+n) (o++jz c) j u f1 h;have h4:=ap8 c;grind
def FQ(s:ByteArray)(x:bA):Prop:=0<=x.pos/\x.pos<=s.size/\x.text.size<=4*s.size+3
variable{s:ByteArray}{num:Nat->Nat}
theorem akJ{i k:Nat}{aK:Bool}{d:bA}(hi:i<s.size)(h:il num s i aK=(k,some d)):FQ s d:=by
 cases hl:jq (bt s i)with
 |true=>
  rw[SS hl]at h;cases h;refine⟨Int.natCast_nonneg _,by grind,?_⟩;dsimp only;rw[jU];omega
 |false=>
  cases hn:oj s i with
  |true=>
   rw[SU hl hn]at h;cases ho:(fw s i).2 with
   |false=>rw[ho]at h;cases h
   |true=>
    rw[ho]at h;cases h;exact⟨Int.natCast_nonneg _,by grind,dC _⟩
  |false=>
   cases ht:(bt s i==34||bt s i==39)with
   |true=>
    rw[SV hl hn ht]at h;have h1:=acc s (bt s i) (s.size+1) (i+1) [] hi;unfold oK at h;rcases hT:pm s (bt s i) (s.size+1) (i+1) []with⟨j,_|u⟩
    ·grind
    ·have h2:=apj s (bt s i) (s.size+1) (i+1) [] j u hi hT;rw[hT]at h h1;cases h;refine⟨Int.natCast_nonneg _,by grind,?_⟩;dsimp only at h1⊢;rw[uy];grind
   |false=>
    rw[ST hl hn ht]at h;cases hf:jK.find? (fun m=>ij s i (nr m))with
    |none=>rw[hf]at h;cases h
    |some m=>
     rw[hf]at h;cases h;have h3:∀m∈jK,m.size<=3:=by decide+kernel
     have:=h3 m (List.mem_of_find?_eq_some hf);exact⟨Int.natCast_nonneg _,by grind,by grind⟩
theorem akI:∀(f i:Nat)(aK:Bool)(o r:List bA)(p:Int),i<=s.size->(∀x∈o,FQ s x)->uM num s f i aK o=(r,p)->p<0->p= -1/\(∀x∈r,FQ s x)/\r.length+i<=o.length+s.size:=by
 intro f
 induction f with
 |zero=>
  intro i aK o r p _ _ h hp;cases h;omega
 |succ f ih=>
  intro i aK o r p hi ho h hp;rw[uM]at h;have hb:=QM s (s.size+1) i aK hi;rcases hB:eG s (s.size+1) i aK with⟨q,j,l⟩;rw[hB]at h hb;dsimp only at h hb;cases hq:decide (q>=0)with
  |true=>
   grind
  |false=>
   rw[hq,aU]at h;cases hj:j==s.size with
   |true=>
    grind
   |false=>
    rw[hj,aU]at h;have hj:=ga.1 hj;rcases hO:il num s j l with⟨k,_|d⟩
    ·grind
    ·rw[hO]at h;dsimp only at h;have h1:=akJ af hO;have h2:=SR af hO;have h3:=ih k false (o++[d]) r p h2.2 (fun x hx=>?_) h hp
     all_goals grind
theorem akK(h:(Ea num s).2<0):(Ea num s).2= -1/\(∀x∈(Ea num s).1,FQ s x)/\(Ea num s).1.length<=s.size:=by
 unfold Ea at h⊢;rcases hL:uM num s (s.size+1) 0 false []with⟨r,p⟩;rw[hL]at h;have:=akI _ _ _ _ _ _ (dC _) (fun x hx=>by simp at hx) hL h;grind
end
end Go.Proofs.YtdkchodgklpomaaGreatDoor
