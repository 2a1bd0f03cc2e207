/- A part of the proof that pennantlaw07.PrintSpread answers true at every input. -/
import Derived.Test.YthhiffpfleacaaaGreatDoorPPae
set_option linter.all false
namespace Go.Proofs.YthhiffpfleacaaaGreatDoor
set_option maxRecDepth 100000
open Go.Value (int slice string bool pointer agg tuple func float iface nilIface)
open Go.IntKind (i64 u8 u64 i32 u32 u16 i8 i16)
open Go.FloatKind (f64)
open Go.Ending (returned panicked)
open Go.Proofs.Tryz
def r8.of(z:r9):r8:=⟨z.m.toNat,z.e,z.n,z.t,z.h,z.i.toNat,z.o⟩
def nr(n:Bool):Nat:=bif n then 9223372036854775808 else 0
def Rv(n:Bool)(k:Int):Nat:=(u64.wrap ((BitVec.ofInt u64.bits (u64.wrap ((bif n then 1 else 0)*2^min (Int.toNat 63) u64.bits))|||BitVec.ofInt u64.bits k).toNat:Int)).toNat
def Bj(lc:Nat->Nat×ah)(s:ah)(r:r8):uR:=
 match eM (s.extract 0 r.i)with
 |none=>⟨0,r.i,2⟩
 |some v=>⟨(dT lc v).1.toNat,r.i,bif (dT lc v).2 then 1 else 0⟩
def wR(tb:Nat->Nat)(lc:Nat->Nat×ah)(s:ah)(r:r8):uR:=
 bif !r.t then ⟨(gT ⟨r.m,r.e,nr r.n,tb⟩).1,r.i,(gT ⟨r.m,r.e,nr r.n,tb⟩).2⟩
 else bif cq .eql (gT ⟨r.m,r.e,nr r.n,tb⟩).1 (gT ⟨(u64.wrap ((r.m:Int)+1)).toNat,r.e,nr r.n,tb⟩).1 then ⟨(gT ⟨r.m,r.e,nr r.n,tb⟩).1,r.i,(gT ⟨r.m,r.e,nr r.n,tb⟩).2⟩
 else Bj lc s r
def tP(tb:Nat->Nat)(lc:Nat->Nat×ah)(s:ah)(r:r8):uR:=
 bif !r.o then ⟨0,r.i,2⟩
 else bif r.h then ⟨(du ⟨s.extract 0 r.i,r.m,r.e,r.n,r.t,tb,lc⟩).1,r.i,bif (du ⟨s.extract 0 r.i,r.m,r.e,r.n,r.t,tb,lc⟩).2==0 then 0 else 1⟩
 else bif (r.m:Int)==0 then ⟨Rv r.n 0,r.i,0⟩
 else bif decide (r.e>310) then ⟨Rv r.n 9218868437227405312,r.i,1⟩
 else bif decide (r.e< -345) then ⟨Rv r.n 0,r.i,0⟩
 else bif !r.t then (bif (mU ⟨r.m,r.e,r.n,tb,lc⟩).2 then ⟨(mU ⟨r.m,r.e,r.n,tb,lc⟩).1,r.i,0⟩ else wR tb lc s r)
 else wR tb lc s r
def yQ(tb:Nat->Nat)(lc:Nat->Nat×ah)(s:ah):uR:=
 bif (el s).2.2 then ⟨(el s).1,(el s).2.1.toNat,0⟩ else tP tb lc s (r8.of (fC s))
structure qz where
 s:ah
 tb:Nat->Nat
 lc:Nat->Nat×ah
 A:ah->uR
abbrev mV:aF where
 X:=qz
 Y:=ax ⊕ ax
 args x:=[C x.s]
 cond x:=(x.s.size<=8388610/\rU x.lc/\∀i,x.tb i<18446744073709551616)/\x.A=yQ x.tb x.lc
 aE x F:=io x.tb x.lc F
 bS x y:=match y with
  | .inl _=>(x.A x.s).e=0
  | .inr _=>(x.A x.s).e≠0/\(x.A x.s).e<=2
 val x y:=match y with
  | .inl _=>.returned (.tuple #[.float .f64 (x.A x.s).v,.int .i64 (x.A x.s).n,.nilIface])
  | .inr _=>.returned (.tuple #[.float .f64 (x.A x.s).v,.int .i64 (x.A x.s).n,.iface 135 (.int .i64 (x.A x.s).e)])
 sum:=some (iL ax ax)
structure tG where
 r:r8
def X0(x:qz)(r:r8):List (Nat×aD):=[(0,.string x.s),(3,.int .i64 r.i),(4,.nilIface),(2,.float .f64 0)]
def GZ(x:qz)(r:r8):Prop:=r.m<18446744073709551616/\r.i<=x.s.size
def aeU(x:qz)(F:ag):Nat->Option Inv:=fun
 |22=>some {X:=tG,P:=λd=>GZ x d.r/\ -345<=d.r.e/\d.r.e<=310/\x.A x.s=wR x.tb x.lc x.s d.r,mu:=λ_=>0,lv:=λd=>X0 x d.r++[(8,.int .u64 d.r.m),(9,.int .i64 d.r.e),(11,.bool d.r.t),(16,.int .u64 (bif d.r.n then 9223372036854775808 else 0))],st:=λ_=>[F]}
 |28=>some {X:=tG,P:=λd=>GZ x d.r/\x.A x.s=Bj x.lc x.s d.r,mu:=λ_=>0,lv:=λd=>X0 x d.r,st:=λ_=>[F]}
 |_=>none
def Tg(x:qz)(F:ag)(j:Dj)(k:r8):=l mV x F (al (tuple ⟨[float f64 (aZ (↑(bU (aZ ((bif j.b then (1:Int) else (0:Int))*2^min (Int.toNat (63:Int)) u64.bits))|||bU (0:Int)).toNat:Int)).toNat,Z ↑k.i,nilIface]⟩)) [(0,F)]
def VN(a:qz)(z:tG):=GZ a z.r/\(-345:Int)<=z.r.e/\z.r.e<=310/\a.A a.s=wR a.tb a.lc a.s z.r
def Xy(a:qz)(e1:ag)(c d e f g:aD)(b:St):=∃(z:tG),VN a z/\(C a.s=C a.s/\c=Z ↑z.r.i/\nilIface=nilIface/\float f64 0=float f64 0/\d=T ↑z.r.m/\e=Z z.r.e/\f=H z.r.t/\g=T (bif z.r.n then (9223372036854775808:Int) else (0:Int))/\True)/\ay b [(0,e1)]
def TG(x:qz)(F:ag)(k:r8)(j:Dj):=Xy x F (Z ↑k.i) (T ↑k.m) (Z k.e) (H k.t) (T (aZ ((bif j.b then (1:Int) else (0:Int))*2^min (Int.toNat (63:Int)) u64.bits))) [(0,F)]
def JZ(d:aN)(g:ag)(e:lf->Nat->Prop)(f:lf->Nat->Prop):=aG 230 K9/\true=true/\∃(z:lf),d=[T ↑z.m,Z z.e,T ↑z.g]/\([]:List ag)=[]/\(z.m<18446744073709551616/\(-348:Int)<=z.e/\z.e<348/\z.g<18446744073709551616/\∀(a:Nat),z.tb a<18446744073709551616)/\(∀(a:Nat),a<1392->aH g ⟨11,a,none⟩ (T (↑(z.tb a):Int)))/\(∀(b:Nat),gT z=(b,0)->e z b)/\∀(c:Nat),gT z=(c,1)->f z c
abbrev Un(h:tG):aN:=[T (aZ ((h.r.m:Int)+1)),Z h.r.e,T (bif h.r.n then (9223372036854775808:Int) else (0:Int))]
def ml(c:Oper)(a:aN)(b:Nat×Nat->Prop):=cN prog c (iO BinOp.eql)/\∃(z:Nat×Nat),a=(oZ z)/\True/\b z
def Qe(a:qz)(e1:ag)(c:aD)(b:St):=∃(z:tG),(GZ a z.r/\a.A a.s=Bj a.lc a.s z.r)/\(C a.s=C a.s/\c=Z ↑z.r.i/\nilIface=nilIface/\float f64 0=float f64 0/\True)/\ay b [(0,e1)]
abbrev Tu(e:Nat)(x:qz)(F:ag)(h:tG):lf->Nat->Prop:=λd c=>ml (aL f215 26 2) [float f64 e,float f64 c] (λb=>Br (cq BinOp.eql b.fst b.snd) (l mV x F (al (tuple ⟨[float f64 e,Z ↑h.r.i,nilIface]⟩)) [(0,F)]) (Qe x F (Z ↑h.r.i) [(0,F)]))
def VL(x:qz)(F:ag)(e:Nat)(h:tG):=l mV x F (al (tuple ⟨[float f64 e,Z ↑h.r.i,ce 135 (Z 1)]⟩)) [(0,F)]
abbrev Tn(e:Nat)(x:qz)(F:ag)(h:tG):lf->Nat->Prop:=λd c=>ml (aL f215 26 2) [float f64 e,float f64 c] (λb=>Br (cq BinOp.eql b.fst b.snd) (VL x F e h) (Qe x F (Z ↑h.r.i) [(0,F)]))
def aeT(x:qz)(F:ag)(L:mV.cond x)(X:mV.aE x F):vm 219 W2 (λn=>n.s.size<=1000000000) (λn m=>el n.s=(m.v,(m.n:Int),m.b)) [C x.s] (λn m=>Br m.b (l mV x F (al (tuple ⟨[float f64 m.v,Z ↑m.n,nilIface]⟩)) [(0,F)]) (vm 220 W1 (λo=>o.s.size<=1000000000) (λo k=>fC o.s=⟨(k.m:Int),k.e,k.n,k.t,k.h,(k.i:Int),k.o⟩/\k.m<18446744073709551616/\(-10000000000:Int)<=k.e/\k.e<=10000000000/\k.i<=o.s.size) [C x.s] (λo k=>Br (!k.o) (l mV x F (al (tuple ⟨[float f64 0,Z ↑k.i,ce 135 (Z 2)]⟩)) [(0,F)]) (Br k.h (((0:Int)<=0/\0<=(k.i:Int)/\(k.i:Int)<=(x.s.size:Int))/\aG 221 WY/\true=true/\∃(b:hY),[C (x.s.extract (Int.toNat (0:Int)) (k.i:Int).toNat),W eg,T ↑k.m,Z k.e,H k.n,H k.t]=[C b.s,W eg,T b.m,Z b.e,H b.ng,H b.tr]/\([]:List ag)=[]/\(0<=b.m/\b.m<=18446744073709551615/\(-10000000000:Int)<=b.e/\b.e<=10000000000)/\io b.tb b.lc (cO F)/\(∀(a:Nat),((du b).fst=a/\((du b).snd==0)=true)->l mV x F (al (tuple ⟨[float f64 a,Z ↑k.i,nilIface]⟩)) [(0,F)])/\∀(a:Nat),((du b).fst=a/\((du b).snd==0)=false)->l mV x F (al (tuple ⟨[float f64 a,Z ↑k.i,ce 135 (Z 1)]⟩)) [(0,F)]) ((aH F ⟨5,0,none⟩ (H true)/\GP [H k.n] (λj i=>Br ((k.m:Int)==0) (Tg x F j k) (aK (k.e>310) (l mV x F (al (tuple ⟨[float f64 (aZ (↑(bU (aZ ((bif j.b then (1:Int) else (0:Int))*2^min (Int.toNat (63:Int)) u64.bits))|||bU (9218868437227405312:Int)).toNat:Int)).toNat,Z ↑k.i,ce 135 (Z 1)]⟩)) [(0,F)]) (aK (k.e<(-345:Int)) (Tg x F j k) (Br (!k.t) (dP 229 Rp (λc=>(-100000:Int)<=c.e/\c.e<=100000) (λc P=>io c.tb c.lc P) (λc b=>mU c=(b.v,b.b)) [T ↑k.m,Z k.e,H k.n] ([]:List ag) (cO F) (λc b=>Br b.b (l mV x F (al (tuple ⟨[float f64 b.v,Z ↑k.i,nilIface]⟩)) [(0,F)]) (TG x F k j))) (TG x F k j)/\aQ λ(h:tG)_=>VN x h->JZ [T ↑h.r.m,Z h.r.e,T (bif h.r.n then (9223372036854775808:Int) else (0:Int))] (cO F) (λf e=>Br (!h.r.t) (l mV x F (al (tuple ⟨[float f64 e,Z ↑h.r.i,nilIface]⟩)) [(0,F)]) (JZ (Un h) (cO F) (Tu e x F h) (Tu e x F h))) (λf e=>Br (!h.r.t) (VL x F e h) (JZ (Un h) (cO F) (Tn e x F h) (Tn e x F h))))))))/\aQ λ(p:tG)_=>(GZ x p.r/\x.A x.s=Bj x.lc x.s p.r)->∀(e:Nat),((0:Int)<=0/\0<=(p.r.i:Int)/\(p.r.i:Int)<=(x.s.size:Int))/\za 226 Wy (λd=>d.s.size<=1000000000/\d.d=dZ) (λd c=>c.d.ds.length=800/\c.ok=(eM d.s).isSome/\∀(a:bn),eM d.s=some a->c.d=a/\a.je/\(-3000000000:Int)<=a.dp/\a.dp<=3000000000) [W (bq e),C (x.s.extract (Int.toNat (0:Int)) (p.r.i:Int).toNat)] [D e (List.replicate 800 (u 0)++[Z 0,Z 0,H false,H false]) 171] (λd c=>Br (!c.ok) (l mV x F (al (tuple ⟨[float f64 0,Z ↑p.r.i,ce 135 (Z 2)]⟩)) [(0,F),(5000,D d.b (A c.d) 171)]) (dP 227 RV (λb=>(b.d.ds.length=800/\(b.d.nd=0\/b.d.norm))/\rU b.lc/\(-3000000000:Int)<=b.d.dp/\b.d.dp<=3000000000) (λb P=>io b.tb b.lc P) (λb a=>dT b.lc b.d=(a.v,a.o)) [W (bq e),W eg] [D d.b (A c.d) 171] (g [(0,F),(5000,D d.b (A c.d) 171)] [5000]) (λb a=>Br a.o (l mV x F (al (tuple ⟨[float f64 a.v.toNat,Z ↑p.r.i,ce 135 (Z 1)]⟩)) [(0,F),(5000,D b.b (A a.d) 171)]) (l mV x F (al (tuple ⟨[float f64 a.v.toNat,Z ↑p.r.i,nilIface]⟩)) [(0,F),(5000,D b.b (A a.d) 171)]))))))))):=by
 delta eg cO GP Tg VN Xy TG JZ Un oZ ml Qe Tu VL Tn bq g fv dP vm za Z u T C H W ce D bU aZ aK al aQ;obtain⟨s,I,lc,G⟩:=x;obtain⟨⟨h1,h2,Y⟩,V⟩:=L;replace X:io I lc F:=X;dsimp only at h1 h2 Y V⊢;have E:ay [(0,F)] [(0,F)]:=ao [0];have P:io I lc (.cJ (rest [(0,F)] [])):=X.sub (bB 0);have w:∀(v n:Nat)(S:St),G s=⟨v,n,0⟩->ay S [(0,F)]->l mV ⟨s,I,lc,G⟩ F (returned (tuple #[.float .f64 v,.int .i64 n,.nilIface])) S:=λv n S e h=>
  ⟨.inl (),by show(G s).e=0;rw[e],by show _=returned (.tuple #[.float .f64 (G s).v,.int .i64 (G s).n,.nilIface]);rw[e],h⟩
 have B:∀(v n k:Nat)(S:St),k=1\/k=2->G s=⟨v,n,k⟩->ay S [(0,F)]->l mV ⟨s,I,lc,G⟩ F (returned (tuple #[.float .f64 v,.int .i64 n,.iface 135 (.int .i64 (k:Nat))])) S:=λv n k S U e h=>
  ⟨.inr (),by show(G s).e≠0/\(G s).e<=2;grind,by show _=returned (.tuple #[.float .f64 (G s).v,.int .i64 (G s).n,.iface 135 (.int .i64 (G s).e)]);rw[e],h⟩
 refine bG aqr ⟨s⟩ (by grind) λy hy=>ar (λq=>w _ _ _ ?_ E) (λq=>?_);rw[V];unfold yQ;simp[*];refine bG aqh ⟨s⟩ (by grind) λr⟨hz,M,e0,e1,N⟩=>?_;have J:G s=tP I lc s r:=by{rw[V];unfold yQ;rw[hy];dsimp only;rw[q,hz] <;> rfl};refine ar (λq1=>B 0 r.i 2 _ (.inr rfl) (by rw[J];unfold tP;simp[*]) E) (λq1=>ar (λq2=>?_) (λq2=>⟨?_, ?_⟩));refine⟨⟨cH _,O,by simp[*]⟩,ap6,rfl,⟨s.extract 0 r.i,r.m,r.e,r.n,r.t,I,lc⟩,rfl,rfl,⟨by simp[*],by grind,e0,e1⟩,P,λa K=>w _ _ _ ?_ E,λa K=>B _ _ 1 _ (.inl rfl) ?_ E⟩;rw[J];unfold tP;simp[*];rw[J];unfold tP;simp[*];have sg:∀n:Bool,int .u64 (u64.wrap ((bif n then 1 else 0)*2^min (Int.toNat 63) u64.bits))=int .u64 (bif n then 9223372036854775808 else 0):=λn=>by cases n <;> exact congrArg _ (by decide)
 refine⟨X.opt,Rt,rfl,⟨r.n⟩,rfl,rfl,ai,ai,λ_ _=>ar (λq3=>w _ _ _ ?_ E) (λq3=>bd (λq4=>B _ _ 1 _ (.inl rfl) ?_ E) (λq4=>bd (λq5=>w _ _ _ ?_ E) (λq5=>⟨ar (λq6=>ba aeN ⟨r.m,r.e,r.n,I,lc⟩ ⟨by grind,by grind⟩ P λz hz=>ar (λq7=>w _ _ _ ?_ E) (λq7=>⟨⟨r⟩,⟨⟨M,N⟩,by grind,by grind, ?_⟩,⟨rfl,rfl,rfl,rfl,rfl,rfl,rfl,sg _,ai⟩,E⟩)) (λq6=>⟨⟨r⟩,⟨⟨M,N⟩,by grind,by grind, ?_⟩,⟨rfl,rfl,rfl,rfl,rfl,rfl,rfl,sg _,ai⟩,E⟩), ?_⟩)))⟩;rw[J];unfold tP;rw[show(!r.o)=false from q1,q2,q3] <;> rfl;rw[J];unfold tP;rw[show(!r.o)=false from q1,q2,q3,bp q4] <;> rfl;rw[J];unfold tP;rw[show(!r.o)=false from q1,q2,q3,bF q4,bp q5] <;> rfl;rw[J];unfold tP;simp[*];show G s=wR I lc s r;rw[J];unfold tP;simp[*];show G s=wR I lc s r;rw[J];unfold tP;simp[*];rintro⟨r⟩ js ⟨⟨M,N⟩,e0,e1,J⟩;dsimp only at M N e0 e1 J⊢;have sN:(bif r.n then (9223372036854775808:Int) else 0)=((nr r.n:Nat):Int):=by unfold nr;cases r.n <;> rfl
 have sL:nr r.n<18446744073709551616:=by unfold nr;cases r.n <;> decide
 have u1:=gA ((r.m:Int)+1);have uN:u64.wrap ((r.m:Int)+1)=(((u64.wrap ((r.m:Int)+1)).toNat:Nat):Int):=O;have tl:∀a k:Nat,k<=1->gT ⟨r.m,r.e,nr r.n,I⟩=(a,k)->(!r.t)=true->G s=⟨a,r.i,k⟩:=λa k _ h ht=>by{rw[J];unfold wR;grind};have Q:∀a k c j:Nat,gT ⟨r.m,r.e,nr r.n,I⟩=(a,k)->gT ⟨(u64.wrap ((r.m:Int)+1)).toNat,r.e,nr r.n,I⟩=(c,j)->(!r.t)=false->cq .eql a c=true->G s=⟨a,r.i,k⟩:=λa k c j h h' ht hq=>by{rw[J];unfold wR;grind};have R:∀a k c j:Nat,gT ⟨r.m,r.e,nr r.n,I⟩=(a,k)->gT ⟨(u64.wrap ((r.m:Int)+1)).toNat,r.e,nr r.n,I⟩=(c,j)->(!r.t)=false->cq .eql a c=false->G s=Bj lc s r:=λa k c j h h' ht hq=>by{rw[J];unfold wR;grind};refine⟨RS,rfl,⟨r.m,r.e,nr r.n,I⟩,by rw[sN],rfl,⟨M,by grind,by grind,sL,Y⟩,P.pow,λa K=>ar (λq=>w _ _ _ (tl a 0 O K q) E) (λq=>⟨RS,rfl,⟨(u64.wrap ((r.m:Int)+1)).toNat,r.e,nr r.n,I⟩,by grind,rfl,⟨by grind,by grind,by grind,sL,Y⟩,P.pow,λc L=>⟨ia (.inl rfl) rfl,(a,c),rfl,ai,ar (λq2=>w _ _ _ (Q a 0 c 0 K L q q2) E) (λq2=>⟨⟨r⟩,⟨⟨M,N⟩,R a 0 c 0 K L q q2⟩,aU,E⟩)⟩,λc L=>⟨ia (.inl rfl) rfl,(a,c),rfl,ai,ar (λq2=>w _ _ _ (Q a 0 c 1 K L q q2) E) (λq2=>⟨⟨r⟩,⟨⟨M,N⟩,R a 0 c 1 K L q q2⟩,aU,E⟩)⟩⟩),
  λa K=>ar (λq=>B _ _ 1 _ (.inl rfl) (tl a 1 O K q) E) (λq=>⟨RS,rfl,⟨(u64.wrap ((r.m:Int)+1)).toNat,r.e,nr r.n,I⟩,by grind,rfl,⟨by grind,by grind,by grind,sL,Y⟩,P.pow,λc L=>⟨ia (.inl rfl) rfl,(a,c),rfl,ai,ar (λq2=>B _ _ 1 _ (.inl rfl) (Q a 1 c 0 K L q q2) E) (λq2=>⟨⟨r⟩,⟨⟨M,N⟩,R a 1 c 0 K L q q2⟩,aU,E⟩)⟩,λc L=>⟨ia (.inl rfl) rfl,(a,c),rfl,ai,ar (λq2=>B _ _ 1 _ (.inl rfl) (Q a 1 c 1 K L q q2) E) (λq2=>⟨⟨r⟩,⟨⟨M,N⟩,R a 1 c 1 K L q q2⟩,aU,E⟩)⟩⟩)⟩
 rintro⟨r⟩ js ⟨⟨M,N⟩,J⟩ b;dsimp only at M N J⊢;have gm:(s.extract 0 r.i).size<=1000000000:=by rw[iA];omega
 refine⟨⟨cH _,O,O⟩,an1,rfl,⟨b,s.extract 0 r.i,dZ⟩,rfl,bg,⟨gm,rfl⟩,ai,λy⟨y1,y2,y3⟩=>?_⟩;dsimp only at y1 y2 y3⊢;have x0:∀t:bn,io I lc (.cJ (rest [(0,F),(5000,.cells b (A t) 171)] [5000])):=λt=>X.sub (bB 0);have P5:∀t:bn,ay [(0,F),(5000,.cells b (A t) 171)] [(0,F)]:=λt=>ao [0];cases hv:eM (s.extract 0 r.i)with
 |none=>
  refine ar (λ_=>B 0 r.i 2 _ (.inr rfl) (by rw[J];unfold Bj;rw[hv]) (P5 _)) (λh=>?_);grind
 |some v=>
  obtain⟨d1,d2,d3,d4⟩:=y3 v hv;refine ar (λh=>?_) (λ_=>ba ahk ⟨b,y.d,I,lc⟩ ⟨⟨y1,by rw[d1];exact d2.or⟩,h2,by simp[*],by simp[*]⟩ (x0 _) λz hz=>?_);grind;have hz:dT lc v=(z.v,z.o):=by grind
  have x1:G s=⟨z.v.toNat,r.i,bif z.o then 1 else 0⟩:=by rw[J];unfold Bj;simp[*]
  exact ar (λq=>B _ _ 1 _ (.inl rfl) (by grind) (P5 _)) (λq=>w _ _ _ (by grind) (P5 _))
def aeS:aG 215 mV:=oI func215 (λ_ _=>[(1,1,aI W2),(4,1,aI W1),(8,7,aI WY),(10,0,.q [.ex 0 (.is (.bool true))]),(11,1,aI wU),(11,2,F),(13,1,F),(13,2,F),(15,1,F),(15,2,F),(17,1,F),(17,2,F),(19,3,aI Rp),(22,3,aI K9),(25,1,F),(25,4,aI K9),(26,2,.qo (iO .eql)),(28,0,.n 5000),(29,3,.c Wy [5000] [5000]),(31,0,.c RV [5000] [5000]),(32,1,F)]) aeU aeT
def aeM{tb:Nat->Nat}{lc:Nat->Nat×ah}(a:rU lc)(b:∀i,tb i<18446744073709551616){K:bD}(c:∀F,K.rd F->io tb lc F):aG 215 (yP (yQ tb lc) K):=
 aeS.view (λx=>⟨x.s,tb,lc,yQ tb lc⟩) (λ_=>rfl) (λ_=>rfl) (λ_ h=>⟨⟨h,a,b⟩,rfl⟩) (λ_ F _ h=>c F h) (λ_ y _ h=>by
  cases y with
  |inl u=>exact⟨.inl u,h,rfl,rfl⟩
  |inr u=>exact⟨.inr u,h,rfl,rfl⟩)
def akw{tb:Nat->Nat}{lc:Nat->Nat×ah}(a:rU lc)(b:∀i,tb i<18446744073709551616){K:bD}(d:∀F,K.rd F->io tb lc F)(c:∀F,K.rd F->uS F)(e:K.nv=lW (L6 (yQ tb lc))):aG 117 (pE K):=
 akj.view (λx=>⟨K,L6 (yQ tb lc),x.s⟩) (λ_=>rfl) (λ_=>rfl) (λ_ h=>⟨h,alc (aeM a b d) aoP c⟩) (λ_ _ _ h=>h) (λx _ _ _=>⟨(),ai,by show _=returned (.float .f64 (K.nv x.s));rw[e] <;> rfl,rfl⟩)
def qs(i:Int):Int:=(i*631305-261663).fdiv (2^min (Int.toNat 21) i64.bits)
def p_(i:Int):Int:=(i*78913).fdiv (2^min (Int.toNat 18) i64.bits)
abbrev FV:aF where
 X:=wH
 args x:=[Z x.i]
 cond x:= -100000<=x.i/\x.i<=100000
 val x _:=al (Z (qs x.i))
abbrev BM:aF where
 X:=wH
 args x:=[Z x.i]
 cond x:= -100000<=x.i/\x.i<=100000
 val x _:=al (Z (p_ x.i))
def aop(x:wH)(F:ag)(a:FV.cond x)(c:FV.aE x F):aA (x.i*631305)/\aA (x.i*631305-(261663:Int))/\l FV x F (al (Z ((x.i*631305-(261663:Int)).fdiv ((2:Int)^min (Int.toNat (21:Int)) i64.bits)))) [(0,F)]:=by
 delta aA Z al;have b: -100000<=x.i/\x.i<=100000:=a;exact⟨aC,aC,(),ai,rfl,ao [0]⟩
def aoo:aG 183 FV:=cY func183 [] aop
def aiX(x:wH)(F:ag)(a:BM.cond x)(c:BM.aE x F):aA (x.i*78913)/\l BM x F (al (Z ((x.i*78913).fdiv ((2:Int)^min (Int.toNat (18:Int)) i64.bits)))) [(0,F)]:=by
 delta aA Z al;have b: -100000<=x.i/\x.i<=100000:=a;exact⟨aC,(),ai,rfl,ao [0]⟩
def LA:aG 159 BM:=cY func159 [] aiX
structure PD where
 u:Int
 d:Int
def vA(x:PD):Int:=u64.wrap (x.u+u64.wrap x.d)
abbrev BR:aF where
 X:=PD
 args x:=[T x.u,Z x.d]
 val x _:=al (T (vA x))
def aj9(x:PD)(F:ag)(a:BR.cond x)(b:BR.aE x F):l BR x F (al (T (aZ (x.u+aZ x.d)))) [(0,F)]:=by
 delta T aZ al;exact iy
def ZT:aG 187 BR:=cY func187 [(1,2,F),(1,3,F)] aj9
def p4(u:Int):Int:=(u64.wrap (u+3)).fdiv (2^min (Int.toNat 2) u64.bits)
def vl(u:Int):Int:=(u64.wrap (u+0)).fdiv (2^min (Int.toNat 2) u64.bits)
def Yp(b:Bh)(a:ag):List (Nat×Nat×OH):=[(1,1,F),(1,2,F)]
def afS(x:Bh)(F:ag)(a:(jz p4).cond x)(b:(jz p4).aE x F):l (jz p4) x F (al (T ((aZ (x.u+3)).fdiv ((2:Int)^min (Int.toNat (2:Int)) u64.bits)))) [(0,F)]:=by
 delta T aZ al;exact iy
def afR:aG 188 (jz p4):=iB func188 Yp afS
def ahF(x:Bh)(F:ag)(a:(jz vl).cond x)(b:(jz vl).aE x F):l (jz vl) x F (al (T ((aZ (x.u+0)).fdiv ((2:Int)^min (Int.toNat (2:Int)) u64.bits)))) [(0,F)]:=by
 delta T aZ al;exact iy
def ahE:aG 189 (jz vl):=iB func189 Yp ahF
def okS(k:Int):Bool:=decide (-k<=dR (0-p_ k))&&decide (dR (0-p_ k)<= -k+4)&&decide (-k<=dR (0-qs k))&&decide (dR (0-qs k)<= -k+5)&&decide (-347<0-p_ k)&&decide (0-p_ k<347)&&decide (-347<0-qs k)&&decide (0-qs k<347)
def akz:(List.range 2100).all (λn=>okS ((n:Int)-1100))=true:=by decide+kernel
def zs{k:Int}(a: -1100<=k)(b:k<1000):(-k<=dR (0-p_ k)/\dR (0-p_ k)<= -k+4)/\(-k<=dR (0-qs k)/\dR (0-qs k)<= -k+5)/\(-347<0-p_ k/\0-p_ k<347)/\ -347<0-qs k/\0-qs k<347:=by
 have h:=List.all_eq_true.1 akz (k+1100).toNat (List.mem_range.2 O);rw[show(((k+1100).toNat:Nat):Int)-1100=k by omega]at h;simp only[okS,iP,decide_eq_true_eq]at h;omega
structure uZ where
 m:Nat
 e:Int
 tb:Nat->Nat
structure qK where
 lo:Nat
 hi:Nat
 od:Int
 p:Int
 b:Nat
def qr(k:Int):Int:=u64.wrap (1*2^min k.toNat u64.bits)
def yn(m:Nat)(z:Int):Int:=i64.wrap ((BitVec.ofInt i64.bits (i64.wrap ((m:Int).fdiv (2^min z.toNat u64.bits)))&&& BitVec.ofInt i64.bits 1).toNat:Int)
def fI(e:Int):Int:=bif decide (e>= -1085) then 63-52 else 63-52+(-1085-e)
def nq(m:Nat)(e:Int):Bool:=bif (m:Int)==9223372036854775808 then decide (e> -1085) else false
def gz(m:Nat)(e:Int):qK:=
 bif nq m e then ⟨(u64.wrap ((m:Int)-qr (63-52-2))).toNat,(u64.wrap ((m:Int)+qr (63-52-1))).toNat,yn m (63-52),0-qs (e+(63-52)),0⟩
 else ⟨(u64.wrap ((m:Int)-qr (fI e-1))).toNat,(u64.wrap ((m:Int)+qr (fI e-1))).toNat,yn m (fI e),0-p_ (e+fI e),0⟩
def og(tb:Nat->Nat)(e:Int)(u:Nat)(p:Int):qN:=⟨u,0,tb ((p+348).toNat*2),tb ((p+348).toNat*2+1),(-(e+dR p+3)).toNat⟩
def td(tb:Nat->Nat)(e:Int)(d:qK):Int:=p4 (vA ⟨iY (og tb e d.lo d.p),d.od⟩)
def rH(tb:Nat->Nat)(e:Int)(d:qK):Int:=vl (vA ⟨iY (og tb e d.hi d.p),i64.wrap (0-d.od)⟩)
def yo(tb:Nat->Nat)(m:Nat)(e:Int)(d:qK):Int×Int:=
 bif decide (u64.wrap (u64.wrap ((rH tb e d).tdiv 10)*10)>=td tb e d) then (u64.wrap ((rH tb e d).tdiv 10),i64.wrap (0-(d.p-1)))
 else bif decide (td tb e d<rH tb e d) then (pN (iY (og tb e m d.p)),i64.wrap (0-d.p)) else (td tb e d,i64.wrap (0-d.p))
def tf(tb:Nat->Nat)(m:Nat)(e:Int):Int×Int:=yo tb m e (gz m e)
structure SfY where
 d:Int
 p:Int
abbrev ym:aF where
 X:=uZ
 Y:=SfY
 args x:=[T x.m,Z x.e]
 cond x:=(9223372036854775808<=x.m/\x.m<18446744073709551616)/\(-1137<=x.e/\x.e<=960)/\(∀i,x.tb i<18446744073709551616)
 aE x F:=∀i,i<1392->aH F ⟨11,i,none⟩ (.int .u64 (x.tb i))
 bS x y:=tf x.tb x.m x.e=(y.d,y.p)
 val _ y:=.returned (.tuple #[.int .u64 y.d,.int .i64 y.p])
 eL _ _ _ b h:=λi a=>(h i a).sub b
def CT(x:uZ)(d:qK):Prop:=d.lo<18446744073709551616/\d.hi<18446744073709551616/\(-347<d.p/\d.p<347)/\(0<= -(x.e+dR d.p+3)/\ -(x.e+dR d.p+3)<64)/\tf x.tb x.m x.e=yo x.tb x.m x.e d
abbrev Fv(d:qK):bv:=some ⟨d.b,0,none⟩
def an7(x:uZ)(F:ag):Nat->Option Inv:=fun
 |27=>some {X:=qK,P:=λd=>CT x d,mu:=λ_=>0,lv:=λd=>[(0,T x.m),(1,Z x.e),(5,Z d.p),(8,T d.lo),(9,T d.hi),(10,Z d.od)],st:=λ_=>[F]}
 |29=>some {X:=qK,P:=λd=>CT x d,mu:=λ_=>0,lv:=λd=>[(0,T x.m),(1,Z x.e),(5,Z d.p),(8,T d.lo),(9,T d.hi),(10,Z d.od),(12,W (Fv d))],st:=λd=>[F,D d.b [T (x.tb ((d.p+348).toNat*2)),T (x.tb ((d.p+348).toNat*2+1)),Z (-(x.e+dR d.p+3))] 194]}
 |_=>none
abbrev NV:aN:=[T 1,Z ((63:Int)-52-1)]
def Qf(a:uZ)(e1:ag)(c d e f:aD)(b:St):=∃(z:qK),CT a z/\(T ↑a.m=T ↑a.m/\Z a.e=Z a.e/\c=Z z.p/\d=T ↑z.lo/\e=T ↑z.hi/\f=Z z.od/\True)/\ay b [(0,e1)]
abbrev U_(x:uZ)(d:Int×Int):=T (aZ (x.m-aZ (d.fst*2^min d.snd.toNat u64.bits)))
abbrev U9(x:uZ)(c:Int×Int):=T (aZ (x.m+aZ (c.fst*2^min c.snd.toNat u64.bits)))
abbrev Tw(b:Int×Int):=Z (bR (↑(ib (bR (b.fst.fdiv ((2:Int)^min b.snd.toNat u64.bits)))&&& ib (1:Int)).toNat:Int))
def Qg:=cG 159 BM (λa=>(-100000:Int)<=a.i/\a.i<=100000)
abbrev S0(x:uZ)(F:ag)(f:wH)(d c:Int×Int):Int×Int->Prop:=λb=>Qf x F (Z (bR ((0:Int)-p_ f.i))) (U_ x d) (U9 x c) (Tw b) [(0,F)]
def Ta(x:uZ)(F:ag):=aK (x.e>=(-1085:Int)) (aA (x.e+((63:Int)-52))/\Qg [Z (x.e+((63:Int)-52))] (λf e=>aA ((63:Int)-52-1)/\qM (aL f164 19 3) NV (λd=>aA ((63:Int)-52-1)/\qM (aL f164 20 3) NV (λc=>wO (aL f164 21 2) [T ↑x.m,Z ((63:Int)-52)] (S0 x F f d c))))) (aA ((-1085:Int)-x.e)/\aA ((63:Int)-52+((-1085:Int)-x.e))/\aA (x.e+((63:Int)-52+((-1085:Int)-x.e)))/\Qg [Z (x.e+((63:Int)-52+((-1085:Int)-x.e)))] (λf e=>aA ((63:Int)-52+((-1085:Int)-x.e)-1)/\qM (aL f164 24 3) [T 1,Z ((63:Int)-52+((-1085:Int)-x.e)-1)] (λd=>aA ((63:Int)-52+((-1085:Int)-x.e)-1)/\qM (aL f164 25 3) [T 1,Z ((63:Int)-52+((-1085:Int)-x.e)-1)] (λc=>wO (aL f164 26 2) [T ↑x.m,Z ((63:Int)-52+((-1085:Int)-x.e))] (S0 x F f d c)))))
abbrev Aa(F:ag)(a:qK)(x:uZ):=[(0,F),(1,D a.b [T (↑(x.tb ((a.p+348).toNat*2)):Int),T (↑(x.tb ((a.p+348).toNat*2+1)):Int),Z (-(x.e+dR a.p+3))] 194)]
def Qh:=fv 187 BR
def aob(x:uZ)(F:ag)(hc:ym.cond x)(hr:ym.aE x F):aA ((63:Int)-52)/\Br ((x.m:Int)==9223372036854775808) (aK (x.e>(-1085:Int)) (aA (x.e+((63:Int)-52))/\cG 183 FV (λf=>(-100000:Int)<=f.i/\f.i<=100000) [Z (x.e+((63:Int)-52))] (λf e=>aA ((63:Int)-52-2)/\qM (aL f164 14 3) [T 1,Z ((63:Int)-52-2)] (λd=>aA ((63:Int)-52-1)/\qM (aL f164 15 3) NV (λc=>wO (aL f164 16 2) [T ↑x.m,Z ((63:Int)-52)] (λb=>Qf x F (Z (bR ((0:Int)-qs f.i))) (U_ x d) (U9 x c) (Tw b) [(0,F)]))))) (Ta x F)) (Ta x F)/\aQ λ(u:qK)_=>CT x u->∀(s:Nat),Ky [Z u.p] (λe d=>Kz [W (bq s),Z x.e,Z u.p,Z ((e.i*108853).fdiv ((2:Int)^min (Int.toNat (15:Int)) i64.bits))] [D s Fe 194] (g [(0,F),(5000,D s Fe 194)] [5000]) (λc b=>∃(a:qK),CT x a/\(T ↑x.m=T ↑x.m/\Z x.e=Z x.e/\Z u.p=Z a.p/\T ↑u.lo=T ↑a.lo/\T ↑u.hi=T ↑a.hi/\Z u.od=Z a.od/\W (bq s)=W (Fv a)/\True)/\ay (HX F c) (Aa F a x)))/\aQ λ(r:qK)_=>CT x r->DN [T ↑r.lo,W (Fv r)] (g (Aa F r x) []) (λp o=>Qh [T (iY p),Z r.od] (λn m=>cG 188 (jz p4) (λt=>Ff t) [T (vA n)] (λt k=>DN [T ↑r.hi,W (Fv r)] (g (Aa F r x) []) (λj i=>Qh [T (iY j),Z (bR ((0:Int)-r.od))] (λh y=>cG 189 (jz vl) (λf=>Ff f) [T (vA h)] (λf e=>aK (aZ (aZ ((vl f.u).tdiv (10:Int))*10)>=p4 t.u) (aA (r.p-1)/\l ym x F (al (tuple ⟨[T (aZ ((vl f.u).tdiv (10:Int))),Z (bR ((0:Int)-(r.p-1)))]⟩)) (Aa F r x)) (aK (p4 t.u<vl f.u) (DN [T ↑x.m,W (Fv r)] (g (Aa F r x) []) (λd c=>KA [T (iY d)] (λb a=>l ym x F (al (tuple ⟨[T (pN b.u),Z (bR ((0:Int)-r.p))]⟩)) (Aa F r x)))) (l ym x F (al (tuple ⟨[T (p4 t.u),Z (bR ((0:Int)-r.p))]⟩)) (Aa F r x))))))))):=by
 delta qM NV wO Qf U_ U9 Tw Qg S0 Ta Ky Kz bq Fe Fv HX Aa DN Qh Ff KA g aA fv cG bz dP Z T W D ib aZ bR aK al aQ;obtain⟨m,e,A⟩:=x;obtain⟨⟨h1,h2⟩,⟨h3,h4⟩,M⟩:=hc;replace hr:∀i,i<1392->aH F ⟨11,i,none⟩ (.int .u64 (A i)):=hr;dsimp only at h1 h2 h3 h4 M⊢;have U:ay [(0,F)] [(0,F)]:=ao [0];have uN:∀z:Int,u64.wrap z=(((u64.wrap z).toNat:Nat):Int)/\(u64.wrap z).toNat<18446744073709551616:=λz=>by{have:=gA z;omega};have x2:nq m e=false->gz m e=⟨(u64.wrap ((m:Int)-qr (fI e-1))).toNat,(u64.wrap ((m:Int)+qr (fI e-1))).toNat,yn m (fI e),0-p_ (e+fI e),0⟩:=λB=>by{unfold gz;grind};have x3:nq m e=true->gz m e=⟨(u64.wrap ((m:Int)-qr (63-52-2))).toNat,(u64.wrap ((m:Int)+qr (63-52-1))).toNat,yn m (63-52),0-qs (e+(63-52)),0⟩:=λB=>by{unfold gz;grind};have x1:nq m e=true->e> -1085:=λB=>by{unfold nq at B;grind};have hz:11<=fI e/\fI e<=63/\ -1085<=e+fI e/\e+fI e<=971:=by{unfold fI;by_cases q:e>= -1085;all_goals grind};have hG:CT ⟨m,e,A⟩ (gz m e):=by
  cases B:nq m e with
  |true=>
   have he:e> -1085:=by{simp[*]};obtain⟨-,⟨a1,a2⟩,-,b1,b2⟩:=zs (k:=e+(63-52)) O O;refine⟨?_, ?_, ?_, ?_,rfl⟩
   all_goals grind
  |false=>
   obtain⟨⟨a1,a2⟩,-,⟨b1,b2⟩,-⟩:=zs (k:=e+fI e) O O;refine⟨?_, ?_, ?_, ?_,rfl⟩
   all_goals grind
 have oe:∀z,fI e=z->nq m e=false->int .i64 (i64.wrap (0-p_ (e+z)))= .int .i64 (gz m e).p/\int .u64 (u64.wrap ((m:Int)-u64.wrap (1*2^min (z-1).toNat u64.bits)))= .int .u64 ((gz m e).lo:Nat)/\int .u64 (u64.wrap ((m:Int)+u64.wrap (1*2^min (z-1).toNat u64.bits)))= .int .u64 ((gz m e).hi:Nat)/\int .i64 (yn m z)= .int .i64 (gz m e).od:=by{rintro z rfl B;obtain⟨-,-,⟨b1,b2⟩,-⟩:=zs (k:=e+fI e) O O;rw[x2 B];dsimp only;rw[<-(uN _).1,<-(uN _).1];exact⟨congrArg _ (dw (i:=.i64) (n:=0-p_ (e+fI e)) aC),rfl,rfl,rfl⟩};have te:nq m e=true->int .i64 (i64.wrap (0-qs (e+(63-52))))= .int .i64 (gz m e).p/\int .u64 (u64.wrap ((m:Int)-u64.wrap (1*2^min (63-52-2:Int).toNat u64.bits)))= .int .u64 ((gz m e).lo:Nat)/\int .u64 (u64.wrap ((m:Int)+u64.wrap (1*2^min (63-52-1:Int).toNat u64.bits)))= .int .u64 ((gz m e).hi:Nat)/\int .i64 (yn m (63-52))= .int .i64 (gz m e).od:=by{intro B;have:=x1 B;obtain⟨-,-,-,b1,b2⟩:=zs (k:=e+(63-52)) O O;rw[x3 B];dsimp only;rw[<-(uN _).1,<-(uN _).1];exact⟨congrArg _ (dw (i:=.i64) (n:=0-qs (e+(63-52))) aC),rfl,rfl,rfl⟩};refine⟨⟨by decide,by decide⟩,ar (λq=>bd (λq1=>?_) (λq1=>bd (λq2=>?_) (λq2=>?_))) (λq=>bd (λq2=>?_) (λq2=>?_)), ?_⟩;obtain⟨e1,H,I,J⟩:=te (by unfold nq;simp[*]);exact⟨aC,aoo,rfl,⟨e+(63-52)⟩,rfl,rfl,⟨by grind,by grind⟩,ai,λ_ _=>⟨⟨by decide,by decide⟩,o6 rfl,(1,63-52-2),rfl,by decide,⟨by decide,by decide⟩,o6 rfl,(1,63-52-1),rfl,by decide,yp rfl,(m,63-52),rfl,(show(0:Int)<=63-52 by decide),gz m e,hG,⟨rfl,rfl,e1,H,I,J,ai⟩,U⟩⟩;have B:nq m e=false:=by grind
 have C:fI e=63-52:=by unfold fI;simp[*]
 obtain⟨e1,H,I,J⟩:=oe _ C B;exact⟨aC,LA,rfl,⟨e+(63-52)⟩,rfl,rfl,⟨by grind,by grind⟩,ai,λ_ _=>⟨⟨by decide,by decide⟩,o6 rfl,(1,63-52-1),rfl,by decide,⟨by decide,by decide⟩,o6 rfl,(1,63-52-1),rfl,by decide,yp rfl,(m,63-52),rfl,(show(0:Int)<=63-52 by decide),gz m e,hG,⟨rfl,rfl,e1,H,I,J,ai⟩,U⟩⟩;have B:nq m e=false:=by grind
 have C:fI e=63-52+(-1085-e):=by unfold fI;simp[*]
 obtain⟨e1,H,I,J⟩:=oe _ C B;exact⟨aC,aC,aC,LA,rfl,⟨e+(63-52+(-1085-e))⟩,rfl,rfl,⟨by grind,by grind⟩,ai,λ_ _=>⟨aC,o6 rfl,(1,63-52+(-1085-e)-1),rfl,O,aC,o6 rfl,(1,63-52+(-1085-e)-1),rfl,O,yp rfl,(m,63-52+(-1085-e)),rfl,O,gz m e,hG,⟨rfl,rfl,e1,H,I,J,ai⟩,U⟩⟩;have B:nq m e=false:=by unfold nq;simp[*]
 have C:fI e=63-52:=by unfold fI;simp[*]
 obtain⟨e1,H,I,J⟩:=oe _ C B;exact⟨aC,LA,rfl,⟨e+(63-52)⟩,rfl,rfl,⟨by grind,by grind⟩,ai,λ_ _=>⟨⟨by decide,by decide⟩,o6 rfl,(1,63-52-1),rfl,by decide,⟨by decide,by decide⟩,o6 rfl,(1,63-52-1),rfl,by decide,yp rfl,(m,63-52),rfl,(show(0:Int)<=63-52 by decide),gz m e,hG,⟨rfl,rfl,e1,H,I,J,ai⟩,U⟩⟩;have B:nq m e=false:=by grind
 have C:fI e=63-52+(-1085-e):=by unfold fI;simp[*]
 obtain⟨e1,H,I,J⟩:=oe _ C B;exact⟨aC,aC,aC,LA,rfl,⟨e+(63-52+(-1085-e))⟩,rfl,rfl,⟨by grind,by grind⟩,ai,λ_ _=>⟨aC,o6 rfl,(1,63-52+(-1085-e)-1),rfl,O,aC,o6 rfl,(1,63-52+(-1085-e)-1),rfl,O,yp rfl,(m,63-52+(-1085-e)),rfl,O,gz m e,hG,⟨rfl,rfl,e1,H,I,J,ai⟩,U⟩⟩;rintro⟨K,G,L,p,b0⟩ js ⟨N,P,⟨V,Y⟩,⟨g5,g6⟩,Q⟩ b;dsimp only at N P V Y g5 g6 Q⊢;have lw:∀{S:St}{E:a_},(0:Nat)∉E->gt S 0=F->∀i,i<1392->aH (.cJ (rest S E)) ⟨11,i,none⟩ (.int .u64 (A i)):=λhj e i G=>aH.rest (j:=0) hj (by simp[*]);have x0:∀c,tf A m e=yo A m e ⟨K,G,L,p,c⟩:=λc=>Q;refine⟨bG Zr ⟨p⟩ ⟨by grind,by grind⟩ λ_ _=>⟨aaD,rfl,⟨b,_,_,_,e,p,dR p,A⟩,rfl,rfl,⟨by grind,by grind,by grind,by grind,by grind,by grind⟩,lw X rfl,λ_ _=>⟨⟨K,G,L,p,b⟩,⟨N,P,⟨V,Y⟩,⟨g5,g6⟩,x0 b⟩,aU,ao [0,5000]⟩⟩, ?_⟩;clear x0 Q N P V Y g5 g6 K G L p b0 b;rintro⟨K,G,L,p,b⟩ js ⟨N,P,⟨V,Y⟩,⟨g5,g6⟩,Q⟩;dsimp only at N P V Y g5 g6 Q⊢;have hs: -(e+dR p+3)=(((-(e+dR p+3)).toNat:Nat):Int):=O;have R:aH (.cJ (rest [(0,F),(1,.cells b [.int .u64 (A ((p+348).toNat*2)),.int .u64 (A ((p+348).toNat*2+1)),.int .i64 (-(e+dR p+3))] 194)] [])) ⟨b,0,none⟩ (.int .u64 (A ((p+348).toNat*2):Nat))/\aH (.cJ (rest [(0,F),(1,.cells b [.int .u64 (A ((p+348).toNat*2)),.int .u64 (A ((p+348).toNat*2+1)),.int .i64 (-(e+dR p+3))] 194)] [])) ⟨b,1,none⟩ (.int .u64 (A ((p+348).toNat*2+1):Nat))/\aH (.cJ (rest [(0,F),(1,.cells b [.int .u64 (A ((p+348).toNat*2)),.int .u64 (A ((p+348).toNat*2+1)),.int .i64 (-(e+dR p+3))] 194)] [])) ⟨b,2,none⟩ (.int .i64 ((-(e+dR p+3)).toNat:Nat)):=by{rw[<-hs];exact⟨aH.rest (j:=1) X (aH.cells rfl),aH.rest (j:=1) X (aH.cells rfl),aH.rest (j:=1) X (aH.cells rfl)⟩};have eU:∀u,iY ⟨u,b,A ((p+348).toNat*2),A ((p+348).toNat*2+1),(-(e+dR p+3)).toNat⟩=iY (og A e u p):=λ_=>rfl;have ae:∀v w:Int,yo A m e ⟨K,G,L,p,b⟩=(v,w)->l ym ⟨m,e,A⟩ F (returned (tuple #[.int .u64 v,.int .i64 w])) [(0,F),(1,.cells b [.int .u64 (A ((p+348).toNat*2)),.int .u64 (A ((p+348).toNat*2+1)),.int .i64 (-(e+dR p+3))] 194)]:=λv w h=>
  ⟨⟨v,w⟩,(show tf A m e=(v,w) by rw[Q,h]),rfl,ao [0]⟩
 have sc:(-(e+dR p+3)).toNat<64:=O;refine ba Ph ⟨K,b,A ((p+348).toNat*2),A ((p+348).toNat*2+1),(-(e+dR p+3)).toNat⟩ ⟨N,M _,M _,sc⟩ R λ_ _=>⟨ZT,rfl,⟨iY (og A e K p),L⟩,by rw[<-eU K],rfl,ai,ai,λ_ _=>bG afR ⟨vA ⟨iY (og A e K p),L⟩⟩ (gA _) λ_ _=>ba Ph ⟨G,b,A ((p+348).toNat*2),A ((p+348).toNat*2+1),(-(e+dR p+3)).toNat⟩ ⟨P,M _,M _,sc⟩ R λ_ _=>⟨ZT,rfl,⟨iY (og A e G p),i64.wrap (0-L)⟩,by rw[<-eU G],rfl,ai,ai,λ_ _=>bG ahE ⟨vA ⟨iY (og A e G p),i64.wrap (0-L)⟩⟩ (gA _) λ_ _=>?_⟩⟩;dsimp only;refine bd (λq=>⟨aC,ae _ _ ?_⟩) (λq=>bd (λq2=>ba Ph ⟨m,b,A ((p+348).toNat*2),A ((p+348).toNat*2+1),(-(e+dR p+3)).toNat⟩ ⟨h2,M _,M _,sc⟩ R λ_ _=>⟨aaQ,rfl,⟨iY (og A e m p)⟩,by rw[<-eU m],rfl,abP _,ai,λ_ _=>ae _ _ ?_⟩) (λq2=>ae _ _ ?_));unfold yo td rH;grind;unfold yo td rH;grind;unfold yo td rH;grind
def an_:aG 164 ym:=oI func164 (λ_ _=>[(13,3,aI FV),(14,3,.qo (oh .u64 .i64)),(14,4,F),(15,3,.qo (oh .u64 .i64)),(15,4,F),(16,2,.qo (wg .u64 .i64)),(16,3,F),(16,4,F),(18,3,aI BM),(20,3,.qo (oh .u64 .i64)),(19,3,.qo (oh .u64 .i64)),(19,4,F),(20,4,F),(21,2,.qo (wg .u64 .i64)),(21,3,F),(21,4,F),(23,3,aI BM),(24,3,.qo (oh .u64 .i64)),(24,4,F),(25,3,.qo (oh .u64 .i64)),(25,4,F),(26,2,.qo (wg .u64 .i64)),(26,3,F),(26,4,F),(27,0,.n 5000),(28,3,aI BN),(28,4,.c B8 [5000] [5000]),(29,1,aI uM),(29,3,aI BR),(29,4,aI (jz p4)),(30,1,aI uM),(30,4,aI BR),(30,5,aI (jz vl)),(31,1,F),(32,1,F),(36,1,aI uM),(36,2,aI (jz pN))]) an7 aob
section
def aai{n:Nat}(h:n<2305843009213693952)(w:Nat)(d:w<=1):(n:Int)<=u64.wrap ((BitVec.ofInt u64.bits (n:Int)|||BitVec.ofInt u64.bits (w:Int)).toNat:Int)/\u64.wrap ((BitVec.ofInt u64.bits (n:Int)|||BitVec.ofInt u64.bits (w:Int)).toNat:Int)<2305843009213693952:=by
 have e1:(2:Nat)^61=2305843009213693952:=by decide
 have a:u64.bits=64:=rfl;rw[BitVec.ofInt_natCast,BitVec.ofInt_natCast,BitVec.toNat_or,BitVec.toNat_ofNat,BitVec.toNat_ofNat,a,Nat.mod_eq_of_lt (show n<2^64 by omega),Nat.mod_eq_of_lt (show w<2^64 by omega)];have b:n<=n|||w:=Nat.left_le_or;have c:n|||w<2^61:=Nat.or_lt_two_pow O O;rw[k7 O];omega
def X1(z:Int):0<=((BitVec.ofInt u64.bits z&&& BitVec.ofInt u64.bits 1).toNat:Int)/\((BitVec.ofInt u64.bits z&&& BitVec.ofInt u64.bits 1).toNat:Int)<=1:=by
 have:(BitVec.ofInt u64.bits 1).toNat=1:=by decide
 grind
def abb(m:Nat)(z:Int):0<=yn m z/\yn m z<=1:=by
 unfold yn;have h:=X1 (i64.wrap ((m:Int).fdiv (2^min z.toNat u64.bits)));have h:0<=((BitVec.ofInt i64.bits (i64.wrap ((m:Int).fdiv (2^min z.toNat u64.bits)))&&& BitVec.ofInt i64.bits 1).toNat:Int)/\((BitVec.ofInt i64.bits (i64.wrap ((m:Int).fdiv (2^min z.toNat u64.bits)))&&& BitVec.ofInt i64.bits 1).toNat:Int)<=1:=h;generalize ((BitVec.ofInt i64.bits (i64.wrap ((m:Int).fdiv (2^min z.toNat u64.bits)))&&& BitVec.ofInt i64.bits 1).toNat:Int)=w at h⊢;rw[dw (i:=.i64) (n:=w) aC];exact h
def abO{x:qN}(m:x.u<18446744073709551616)(l:x.hi<18446744073709551616)(g:3<=x.s)(hs:x.s<=60){q:Nat}(r:q*2^x.s+1<=x.u*x.hi/18446744073709551616):(q:Int)<=iY x/\iY x<2305843009213693952:=by
 have j:x.u*x.hi/18446744073709551616<18446744073709551616:=by{rw[Nat.div_lt_iff_lt_mul (by decide)];exact Nat.mul_lt_mul'' m l};have hp:0<2^x.s:=Nat.pow_pos (by decide);have i:8<=2^x.s:=by{have:2^3<=2^x.s:=pw (by decide) g;omega};have d:min ((x.s:Int)).toNat u64.bits=x.s:=by{rw[cy];exact Nat.min_eq_left (by show x.s<=64;omega)};have h:∀k:Nat,(k:Int).fdiv (2^x.s)=((k/2^x.s:Nat):Int):=λk=>by{grind};have a:∀k:Nat,k<18446744073709551616->k/2^x.s<2305843009213693952:=λk U=>by{rw[Nat.div_lt_iff_lt_mul hp];omega};have e:∀k:Nat,q*2^x.s<=k->q<=k/2^x.s:=λk U=>(Nat.le_div_iff_mul_le hp).2 U;have f:Jq x=((x.u*x.hi/18446744073709551616:Nat):Int):=rfl;generalize x.u*x.hi/18446744073709551616=H at*;unfold iY;cases Jr x with
 |true=>
  rw[aW];unfold abM;rw[d,f,h];have:=aai (a H j) 1 (bK 1);have b:=e H O;exact⟨Int.le_trans O this.1,this.2⟩
 |false=>
  rw[y];unfold abN;rw[d,f];have key:∀c w:Nat,c<=1->w<=1->(q:Int)<=u64.wrap ((BitVec.ofInt u64.bits ((u64.wrap ((H:Int)-(c:Int))).fdiv (2^x.s))|||BitVec.ofInt u64.bits (w:Int)).toNat:Int)/\u64.wrap ((BitVec.ofInt u64.bits ((u64.wrap ((H:Int)-(c:Int))).fdiv (2^x.s))|||BitVec.ofInt u64.bits (w:Int)).toNat:Int)<2305843009213693952:=λc w p o=>by{rw[show(H:Int)-(c:Int)=((H-c:Nat):Int) by omega,k7 (n:=H-c) O,h];have:=aai (a (H-c) O) w o;have b:=e (H-c) O;exact⟨Int.le_trans O this.1,this.2⟩};cases decide (Pf x<Pg x) <;> cases decide (u64.wrap (Pf x-Pg x)>1);exact key 0 0 (by decide) (by decide);exact key 0 1 (by decide) (by decide);exact key 1 0 (by decide) (by decide);exact key 1 1 (by decide) (by decide)
variable{x:Int}
theorem afT{a:Int}(b:1<=x)(c:x<2305843009213693952)(d:0<=a)(e:a<=1):1<=p4 (vA ⟨x,a⟩):=by
 unfold p4 vA;rw[dw (i:=.u64) (n:=a) aC,dw (i:=.u64) (n:=x+a) aC,dw (i:=.u64) (n:=x+a+3) aC];rw[show min (Int.toNat 2) u64.bits=2 from rfl,RW];omega
theorem anx(a:3<=x)(b:x<2305843009213693952):1<=pN x:=by
 unfold pN;have h:=X1 (x.fdiv (2^min (Int.toNat 2) u64.bits));generalize ((BitVec.ofInt u64.bits (x.fdiv (2^min (Int.toNat 2) u64.bits))&&& BitVec.ofInt u64.bits 1).toNat:Int)=w at h⊢;rw[dw (i:=.u64) (n:=w) aC,dw (i:=.u64) (n:=x+1) aC,dw (i:=.u64) (n:=x+1+w) aC];rw[show min (Int.toNat 2) u64.bits=2 from rfl,RW];omega
theorem an9{tb:Nat->Nat}{m:Nat}{e:Int}(D:9223372036854775808<=m)(E:m<18446744073709551616)(M: -1137<=e)(N:e<=960)(u:∀i,tb i<18446744073709551616)(hp:∀i,i<696->9223372036854775808<=tb (i*2)):1<=(tf tb m e).1:=by
 have Q:11<=fI e/\fI e<=63/\ -1085<=e+fI e/\e+fI e<=971:=by{unfold fI;by_cases q:e>= -1085;all_goals grind};have F:∀k:Int,0<=k->k<=62->0<=qr k/\qr k<=4611686018427387904:=λk a b=>by{obtain⟨n,rfl⟩:∃n:Nat,k=(n:Int):=⟨k.toNat,O⟩;have e1:2^n<=2^62:=pw (by decide) O;unfold qr;rw[cy,show min n u64.bits=n from Nat.min_eq_left (by show n<=64;omega),show 1*(2:Int)^n=((2^n:Nat):Int) by simp[*],k7 O];grind};have g:∀k:Int,0<=k->k<=62->4611686018427387904<=(u64.wrap ((m:Int)-qr k)).toNat/\(u64.wrap ((m:Int)-qr k)).toNat<18446744073709551616:=λk a b=>by{have:=F k a b;rw[dw (i:=.u64) (n:=(m:Int)-qr k) aC];omega};have r:(4611686018427387904<=(gz m e).lo/\(gz m e).lo<18446744073709551616)/\(0<=(gz m e).od/\(gz m e).od<=1)/\(-347<(gz m e).p/\(gz m e).p<347)/\3<= -(e+dR (gz m e).p+3)/\ -(e+dR (gz m e).p+3)<=60:=by
  unfold gz;cases G:nq m e with
  |true=>
   have P:e> -1085:=by{unfold nq at G;grind};obtain⟨-,⟨z,A⟩,-,o,p⟩:=zs (k:=e+(63-52)) O O;refine⟨g _ (by decide) (by decide),abb _ _,⟨o,p⟩, ?_⟩;grind
  |false=>
   obtain⟨⟨z,A⟩,-,⟨o,p⟩,-⟩:=zs (k:=e+fI e) O O;refine⟨g _ O O,abb _ _,⟨o,p⟩, ?_⟩;grind
 unfold tf;generalize gz m e=d at r⊢;obtain⟨⟨I,J⟩,⟨K,L⟩,⟨R,S⟩,s1,T⟩:=r;have t:(og tb e d.lo d.p).s=(-(e+dR d.p+3)).toNat:=rfl;have j:∀s:Nat,s<=60->2^s<=1152921504606846976:=λs t=>by{have:2^s<=2^60:=pw (by decide) t;omega};have f:9223372036854775808<=tb ((d.p+348).toNat*2):=hp _ O;have l:=abO (x:=og tb e d.lo d.p) J (u _) O O (q:=1) (by
  have a:=j (og tb e d.lo d.p).s O;have b:4611686018427387904*9223372036854775808<=d.lo*tb ((d.p+348).toNat*2):=Nat.mul_le_mul I f;have c:2305843009213693952<=d.lo*tb ((d.p+348).toNat*2)/18446744073709551616:=(Nat.le_div_iff_mul_le (by decide)).2 (gi (by decide) b);show 1*2^(og tb e d.lo d.p).s+1<=d.lo*tb ((d.p+348).toNat*2)/18446744073709551616;omega)
 have w:=abO (x:=og tb e m d.p) E (u _) (by show 3<=(-(e+dR d.p+3)).toNat;omega) (by show(-(e+dR d.p+3)).toNat<=60;omega) (q:=3) (by
  have a:=j (og tb e m d.p).s (by show(-(e+dR d.p+3)).toNat<=60;omega);have b:9223372036854775808*9223372036854775808<=m*tb ((d.p+348).toNat*2):=Nat.mul_le_mul D f;have c:4611686018427387904<=m*tb ((d.p+348).toNat*2)/18446744073709551616:=(Nat.le_div_iff_mul_le (by decide)).2 (gi (by decide) b);show 3*2^(og tb e m d.p).s+1<=m*tb ((d.p+348).toNat*2)/18446744073709551616;omega)
 have B:1<=td tb e d:=afT l.1 l.2 K L;unfold yo;by_cases q:u64.wrap (u64.wrap ((rH tb e d).tdiv 10)*10)>=td tb e d;rw[bp q,aW];have H:=gA ((rH tb e d).tdiv 10);generalize u64.wrap ((rH tb e d).tdiv 10)=v at q H⊢;rcases Int.lt_or_le 0 v with h|h;omega;have C:v=0:=O;rw[C,show u64.wrap (0*10)=0 by decide]at q;omega;rw[bF q,y];by_cases q2:td tb e d<rH tb e d;rw[bp q2,aW];exact anx w.1 w.2;simp[*]
end
def kf(k:Nat):Nat×ah:=((Pinned.cheatRows.getD k (0,[])).1,⟨(Pinned.cheatRows.getD k (0,[])).2.toArray⟩)
def wj(i:Nat):Nat:=bif i%2==0 then (Pinned.pow10Rows.getD (i/2) (9223372036854775808,0)).1 else (Pinned.pow10Rows.getD (i/2) (9223372036854775808,0)).2
def Yq(k:Nat):Bool:=(List.range (kf k).2.size).all (λi=>decide (48<=B (kf k).2 i)&&decide (B (kf k).2 i<=57))&&decide (1<=(kf k).2.size)&&decide (B (kf k).2 (((kf k).2.size-1:Nat):Int)≠48)&&decide (vg (kf k).2=5^k)&&decide ((kf k).1+(kf k).2.size=k+1)&&decide (10^((kf k).2.size-1)<=5^k)&&decide (1<=(kf k).1)
def afX:((List.range 61).all λk=>k==0||Yq k)=true:=by decide+kernel
def afY:rU kf:=λk i j=>by
 have h:=List.all_eq_true.1 afX k (List.mem_range.2 O);rw[show(k==0)=false by rw[fw];omega,Bool.false_or]at h;simp only[Yq,iP,decide_eq_true_eq,List.all_eq_true,List.mem_range]at h;obtain⟨⟨⟨⟨⟨⟨a,b⟩,c⟩,d⟩,e⟩,f⟩,g⟩:=h;exact⟨⟨a,b,c⟩,d,e,f,g⟩
def anA:(Pinned.pow10Rows.all λx=>decide (9223372036854775808<=x.1)&&decide (x.1<18446744073709551616)&&decide (x.2<18446744073709551616))=true:=by decide+kernel
def aaR(i:Nat):(9223372036854775808<=(Pinned.pow10Rows.getD i (9223372036854775808,0)).1/\(Pinned.pow10Rows.getD i (9223372036854775808,0)).1<18446744073709551616)/\(Pinned.pow10Rows.getD i (9223372036854775808,0)).2<18446744073709551616:=by
 rw[eG];cases h:Pinned.pow10Rows[i]? with
 |none=>exact⟨⟨bK _,by decide⟩,by decide⟩
 |some x=>
  have:=List.all_eq_true.1 anA x (iz h);simp only[iP,decide_eq_true_eq]at this;exact this
def O_(i:Nat):wj i<18446744073709551616:=by
 unfold wj;have h:=aaR (i/2);cases i%2==0;exact h.2;exact h.1.2
def WO(i:Nat):9223372036854775808<=wj (i*2):=by
 unfold wj;rw[show(i*2%2==0)=true by rw[beq_iff_eq];omega];exact(aaR (i*2/2)).1.1
structure Pz where
 f:Nat
def t7(f:Nat):Bool:=cq .gtr f 9218868437227405311
abbrev Lv:aF where
 X:=Pz
 args x:=[float f64 x.f,Z 1]
 val x _:=al (H (t7 x.f))
def air(x:Pz)(F:ag)(b:Lv.cond x)(c:Lv.aE x F):KB (aL f61 5 1) [float f64 x.f,float f64 9218868437227405311] (λa=>l Lv x F (al (H (cq BinOp.gtr a.fst a.snd))) [(0,F)]):=by
 delta oZ KB H al;exact⟨ia (.inr (.inr (.inl rfl))) rfl,(x.f,9218868437227405311),rfl,ai,(),ai,rfl,ao [0]⟩
def aiq:aG 61 Lv:=cY func61 [(5,1,.qo (iO .gtr))] air
def acZ{b o:Nat}{vs:aN}{t:TypeId}{a:Nat×Nat}{v:aD}(h:vs[o]?=some v):aH (.iG b (.cells ⟨vs⟩ t a)) ⟨b,o,none⟩ v:=⟨λI d e _ c=>by
 rw[RF c.2];exact h⟩
structure SbY where
 b:Nat
 c:Nat
def l9(s:ah)(c:Nat):Array aD:=bytesRow s c
abbrev OT(e:TypeId):aF where
 X:=e9
 Y:=SbY
 args x:=[C x.s]
 bS x y:=x.s.size<=y.c
 val x y:=al (Q (some ⟨y.b,0,none⟩) x.s.size y.c)
 post x y:=[.iG y.b (.cells (l9 x.s y.c) e ((l9 x.s y.c).size,(l9 x.s y.c).size+1))]
def anQ{P:Program}{o:Oper}{af a e:TypeId}{x:Operand}(g:o.op= .convert af a x)(hs:P.underlying af=some .string)(i:P.underlying a=some (.slice e))(j:P.underlying e=some (.int .u8)):gY P o (OT e):=by
 refine⟨λy F I w ρ f l m d=>?_⟩;obtain⟨s⟩:=y;simp only[g,Op.operands,OT]at f;have c:ρ x= .string s:=by simpa using f
 have b:=run_bytes_of_string w af a e s hs i j;refine⟨⟨w.heap.size,grownCap w s.size 0 e⟩,I,w.drew.alloc (.cells (bytesRow s (grownCap w s.size 0 e)) e ((bytesRow s (grownCap w s.size 0 e)).size,(bytesRow s (grownCap w s.size 0 e)).size+1)),.slice (some ⟨w.heap.size,0,none⟩) s.size (grownCap w s.size 0 e),grownCap_ge w s.size 0 e,.inl ?_,rfl,aX.le_refl I, ?_, ?_⟩;simp only[execOp,g,c];rw[Sem.run_bind,b];rfl;have h:Sat I (bu [F]) w:=d;have:=(h.heap (w':=w.drew) rfl).new 1 (.cells (bytesRow s (grownCap w s.size 0 e)) e ((bytesRow s (grownCap w s.size 0 e)).size,(bytesRow s (grownCap w s.size 0 e)).size+1));have k:mkAtom w.drew.heap.size (.cells (bytesRow s (grownCap w s.size 0 e)) e ((bytesRow s (grownCap w s.size 0 e)).size,(bytesRow s (grownCap w s.size 0 e)).size+1))= .iG w.heap.size (.cells (bytesRow s (grownCap w s.size 0 e)) e ((bytesRow s (grownCap w s.size 0 e)).size,(bytesRow s (grownCap w s.size 0 e)).size+1)):=by{generalize (bytesRow s (grownCap w s.size 0 e)).size=n;cases n <;> rfl};rw[k]at this;exact Sat.pick [1,0] rfl rfl this;exact Y
def mW(t:ah):Nat->Int
 |0=>0
 |i+1=>mW t i*10+(B t i-48)
structure wF(s:ah):Prop where
 lo:2<=s.size
 hi:s.size<=9
 sg:B s 0=43\/B s 0=45
 h8:∀i:Nat,i<(s.extract 1 s.size).size->48<=B (s.extract 1 s.size) i/\B (s.extract 1 s.size) i<=57
def mX(s:ah):Int:=bif B s 0==45 then 0-mW (s.extract 1 s.size) (s.size-1) else mW (s.extract 1 s.size) (s.size-1)
abbrev qP:aF where
 X:=bN
 args x:=[C x.s]
 cond x:=wF x.s
 val x _:=.returned (.tuple #[.int .i64 (mX x.s),.nilIface])
structure yC where
 i:Nat
 b:Nat
 c:Nat
def ae9(x:bN)(F:ag)(d:yC):List ag:=[F,.iG d.b (.cells (l9 (x.s.extract 1 x.s.size) d.c) 5 ((l9 (x.s.extract 1 x.s.size) d.c).size,(l9 (x.s.extract 1 x.s.size) d.c).size+1))]
abbrev Fs(d:yC):bv:=some ⟨d.b,0,none⟩
def aeX(x:bN)(F:ag):Nat->Option Inv:=fun
 |0=>some {X:=yC,P:=λd=>d.i<=(x.s.extract 1 x.s.size).size/\(x.s.extract 1 x.s.size).size<=d.c,mu:=λd=>10-d.i,lv:=λd=>[(5,C x.s),(6,Z (mW (x.s.extract 1 x.s.size) d.i)),(47,(Q (Fs d) (x.s.extract 1 x.s.size).size d.c)),(48,(Z (x.s.extract 1 x.s.size).size)),(49,Z d.i)],st:=λd=>ae9 x F d}
 |_=>none
def aeW(x:bN)(F:ag):Nat->Option Inv:=fun
 |8=>some {X:=ax,P:=λ_=>True,mu:=λ_=>0,lv:=λ_=>[(0,C (x.s.extract 1 x.s.size)),(5,C x.s)],st:=λ_=>[F]}
 |_=>none
def anT{s:ah}{c i:Nat}(h:i<s.size):(l9 s c).toList[i]?=some (.int .u8 (B s i)):=by
 have e1:(l9 s c).toList[i]?=(l9 s c)[i]?:=Array.getElem?_toList;have a:i<s.data.size:=h;rw[e1];unfold l9 bytesRow;rw[Array.getElem?_append_left (by simp[*]),Array.getElem?_map,Array.getElem?_eq_getElem a];unfold B;simp[*]
abbrev Vq:=al (tuple ⟨[Z 0,ce 135 (Z 2)]⟩)
def Qi(a:ag)(e1:bN)(c:aD)(b:St):=∃(z:ax),True/\(c=C (e1.s.extract 1 e1.s.size)/\C e1.s=C e1.s/\True)/\ay b [(0,a)]
def S6(x:bN)(F:ag):=zA x/\aK ((↑(x.s.extract (Int.toNat (1:Int)) (x.s.size:Int).toNat).size:Int)<1) (l qP x F Vq [(0,F)]) (Qi F x (zD x) [(0,F)])
def Np(a:yC)(x:bN):=a.i<=(x.s.extract 1 x.s.size).size/\(x.s.extract 1 x.s.size).size<=a.c
abbrev CF(F:ag)(a:yC)(x:bN):=[(0,F),(1,sx a.b (Obj.cells (l9 (x.s.extract 1 x.s.size) a.c) 5 ((l9 (x.s.extract 1 x.s.size) a.c).size,(l9 (x.s.extract 1 x.s.size) a.c).size+1)))]
def aeZ(x:bN)(F:ag)(w:qP.cond x)(I:qP.aE x F):aK (0<(x.s.size:Int)) (aK ((x.s.size:Int)<19) ((sP x/\Br (vV x) (S6 x F) (sP x/\Br (xS x) (S6 x F) (Qi F x (C x.s) [(0,F)])))/\aQ λ(i:ax)_=>True->Lg (aL f102 9 1) (OT (5:TypeId)) (λ_=>True) (λg f=>g.s.size<=f.c) [C (x.s.extract 1 x.s.size)] (λg f=>(∃(a:yC),Np a x/\(C x.s=C x.s/\Z 0=Z (mW (x.s.extract 1 x.s.size) a.i)/\Q (some ⟨f.b,0,none⟩) g.s.size f.c=Q (Fs a) (x.s.extract 1 x.s.size).size a.c/\Z ↑g.s.size=Z (↑(x.s.extract 1 x.s.size).size:Int)/\Z 0=Z ↑a.i/\True)/\ay [(0,F),(5000,sx f.b (Obj.cells (l9 g.s f.c) 5 ((l9 g.s f.c).size,(l9 g.s f.c).size+1)))] (CF F a x))/\aQ λ(e:yC)_=>Np e x->aK ((e.i:Int)<(↑(x.s.extract 1 x.s.size).size:Int)) (b9 (aL f102 11 0) [Q (Fs e) (x.s.extract 1 x.s.size).size e.c,Z ↑e.i] (λc=>jD (sx e.b (Obj.cells (l9 (x.s.extract 1 x.s.size) e.c) 5 ((l9 (x.s.extract 1 x.s.size) e.c).size,(l9 (x.s.extract 1 x.s.size) e.c).size+1))) ⟨c.b,c.o+c.n.toNat*1,none⟩ (λb=>aK (u8.wrap (b-48)>9) (l qP x F Vq (CF F e x)) (aA (mW (x.s.extract 1 x.s.size) e.i*10)/\aA (u8.wrap (b-48))/\aA (mW (x.s.extract 1 x.s.size) e.i*10+u8.wrap (b-48))/\aA ((e.i:Int)+1)/\∃(a:yC),Np a x/\(C x.s=C x.s/\Z (mW (x.s.extract 1 x.s.size) e.i*10+u8.wrap (b-48))=Z (mW (x.s.extract 1 x.s.size) a.i)/\Q (Fs e) (x.s.extract 1 x.s.size).size e.c=Q (Fs a) (x.s.extract 1 x.s.size).size a.c/\Z (↑(x.s.extract 1 x.s.size).size:Int)=Z (↑(x.s.extract 1 x.s.size).size:Int)/\Z ((e.i:Int)+1)=Z ↑a.i/\True)/\ay (CF F e x) (CF F a x)/\10-a.i<10-e.i)))) (sP x/\Br (vV x) (l qP x F (al (tuple ⟨[Z (bR ((0:Int)-mW (x.s.extract 1 x.s.size) e.i)),nilIface]⟩)) (CF F e x)) (l qP x F (al (tuple ⟨[Z (mW (x.s.extract 1 x.s.size) e.i),nilIface]⟩)) (CF F e x))))) False) False:=by
 delta sP vV zA Vq Qi zD S6 xS Np Fs CF b9 jD aA Lg Z u C Q ce sx bR aK al aQ;obtain⟨s⟩:=x;obtain⟨p,r,v,k⟩:=(w:wF s);dsimp only;generalize o:s.extract 1 s.size=t at*;have z:t.size=s.size-1:=by rw[<-o,iA];omega
 have d:ay [(0,F)] [(0,F)]:=ao [0];have A:s.extract (Int.toNat 1) ((s.size:Nat):Int).toNat=t:=by simp[*]
 rw[A];have gK:∀i,i<=t.size->0<=mW t i/\mW t i<10^i:=by
  intro i
  induction i with
  |zero=>intro _;exact⟨cH 0,by show(0:Int)<10^0;decide⟩
  |succ i E=>
   intro m;obtain⟨a,b⟩:=E O;have:=k i O;rw[mW,Int.pow_succ];omega
 dsimp only at p r v;refine bd (λ_=>bd (λ_=>⟨⟨⟨cH _,O⟩,ar (λq=>⟨⟨by decide,O,cH _⟩,bd (λq1=>absurd q1 O) (λ_=>⟨(),ai,aU,d⟩)⟩) (λq=>⟨⟨cH _,O⟩,ar (λq2=>⟨⟨by decide,O,cH _⟩,bd (λq1=>absurd q1 O) (λ_=>⟨(),ai,aU,d⟩)⟩) (λq2=>?_)⟩)⟩, ?_⟩) (λq=>(q O).elim)) (λq=>(q O).elim);grind;rintro _ G-;refine kH (anQ rfl rfl rfl rfl) ⟨t⟩ λy D=>⟨⟨⟨0,y.b,y.c⟩,⟨b7 _,D⟩,aU,ao [0,5000]⟩, ?_⟩;rintro⟨i,b,c⟩ G ⟨h,j⟩;dsimp only at h j⊢;obtain⟨J,K⟩:=gK i h;have L:(10:Int)^i<=100000000:=by{grind};refine bd (λq=>⟨bZ 1 rfl rfl rfl rfl,⟨b,0,t.size,c,i⟩,rfl,⟨by simp[*],O⟩,B t i, ?_, ?_⟩) (λq=>?_);rw[show 0+((i:Nat):Int).toNat*1=i by omega];exact acZ (vs:=(l9 t c).toList) (anT O);have H:=k i O;rw[dw (i:=.u8) (n:=B t i-48) aC];refine bd (λq2=>absurd q2 O) (λ_=>⟨aC,aC,aC,aC,⟨i+1,b,c⟩,⟨by grind,j⟩,⟨rfl,rfl,rfl,rfl, ?_,ai⟩,ao [0,1],by grind⟩);rfl;have m:i=s.size-1:=by omega
 subst m;refine⟨⟨cH _,O⟩,ar (λq=>?_) (λq=>?_)⟩;refine⟨(),ai, ?_,ao [0]⟩;show _=returned (.tuple #[.int .i64 (mX s),.nilIface]);unfold mX;rw[o,q,aW,dw (i:=.i64) (n:=0-mW t (s.size-1)) aC];refine⟨(),ai, ?_,ao [0]⟩;show _=returned (.tuple #[.int .i64 (mX s),.nilIface]);unfold mX;simp[*]
def aeY:aG 102 qP:=fo 77 func102 (λ_ _=>[(9,1,.o (OT 5) [] [5000]),(11,0,.qo (dy 1)),(11,1,.q [.ex 1 (.int .u8)]),(12,1,F),(13,1,F)]) [(20,1,F)] aeX aeW gj [] aeZ
def ae5(x:bN)(F:ag)(c:qP.cond x)(d:qP.aE x F):cG 102 qP (λb=>wF b.s) [C x.s] (λb a=>l qP x F (al (tuple ⟨[Z (mX b.s),nilIface]⟩)) [(0,F)]):=by
 delta cG Z C al;exact bG aeY ⟨x.s⟩ c λ_ _=>iy
def ae4:aG 64 qP:=cY func64 [(1,1,aI qP)] ae5
end Go.Proofs.YthhiffpfleacaaaGreatDoor
namespace Go.Proofs
section
open Tryz
open Go.Shelf
def aev:Go.Shelf.Ren:=⟨λ|284=>158|129=>155|317=>159|318=>192|n=>n,λ|53=>127|3=>3|212=>202|0=>0|4=>4|46=>100|5=>5|9=>9|n=>n,λ|17=>10|n=>n⟩
def aeu:Go.Proofs.LaysM.n284 prog aev:={
 mixed:=by kernel_rfl
 f129:=bV func155
 f284:=bV func158
 f317:=bV func159
 f318:=bV func192
 t0:=underlying0
 a0:=isAgg0
 z0:=sizeOf0
 v0:=zeroValue0
 t3:=underlying3
 a3:=isAgg3
 z3:=sizeOf3
 v3:=zeroValue3
 t4:=underlying4
 a4:=isAgg4
 z4:=sizeOf4
 v4:=zeroValue4
 t5:=underlying5
 a5:=isAgg5
 z5:=sizeOf5
 v5:=zeroValue5
 t9:=underlying9
 a9:=isAgg9
 z9:=sizeOf9
 v9:=zeroValue9
 t46:=underlying100
 a46:=isAgg100
 z46:=sizeOf100
 v46:=zeroValue100
 t53:=underlying127
 a53:=isAgg127
 z53:=sizeOf127
 v53:=zeroValue127
 t212:=underlying202
 a212:=isAgg202
 z212:=sizeOf202
 v212:=zeroValue202
 g17:=by kernel_rfl
 i0:=by kernel_rfl
 i3:=by kernel_rfl
 i4:=by kernel_rfl
 i5:=by kernel_rfl
 i9:=by kernel_rfl
 i46:=by kernel_rfl
 i53:=by kernel_rfl
 i212:=by kernel_rfl
 m17:=by kernel_rfl}
open Go.Lib in
def Tryz.internal_strconv_numDigits(u:Nat)(h1:1<=u)(h2:u<18446744073709551616)(w:World)(Sb:Lib.TabIs prog w "internal/strconv.uint64pow10" .u64 Lib.pow10Tab):
  Calls prog 158 #[.int .u64 u] w λe w'=>e= .returned (.int .i64 (Lib.nDigits u))/\w'=w:=Any.internal_strconv_numDigits aeu u h1 h2 w Sb
def aer:Go.Shelf.Ren:=⟨λ|285=>191|n=>n,λ|37=>97|53=>127|3=>3|4=>4|51=>155|9=>9|5=>5|0=>0|n=>n,λ|n=>n⟩
def aeq:Go.Proofs.Lays.n285 prog aer:={
 mixed:=by kernel_rfl
 f285:=bV func191
 t0:=underlying0
 a0:=isAgg0
 z0:=sizeOf0
 v0:=zeroValue0
 t3:=underlying3
 a3:=isAgg3
 z3:=sizeOf3
 v3:=zeroValue3
 t4:=underlying4
 a4:=isAgg4
 z4:=sizeOf4
 v4:=zeroValue4
 t5:=underlying5
 a5:=isAgg5
 z5:=sizeOf5
 v5:=zeroValue5
 t9:=underlying9
 a9:=isAgg9
 z9:=sizeOf9
 v9:=zeroValue9
 t37:=underlying97
 a37:=isAgg97
 z37:=sizeOf97
 v37:=zeroValue97
 t51:=underlying155
 a51:=isAgg155
 z51:=sizeOf155
 v51:=zeroValue155
 t53:=underlying127
 a53:=isAgg127
 z53:=sizeOf127
 v53:=zeroValue127}
open Go.RowKit Go.Sort Go.Lib in
def Tryz.internal_strconv_formatBase10(ft off aq:Nat)(u:Nat)(d:Array UInt8)(w:World)(hH:Holds (λ(b:UInt8)=>Value.int .u8 (b.toNat:Int)) w ft off d)(hu:u<10^d.size)(aib:u<18446744073709551616)(hsz:d.size<4611686018427387904):
  Calls prog 191 #[.slice (some ⟨ft,off,none⟩) d.size aq,.int .u64 u] w λe w'=>
   e= .returned (.tuple #[])/\∃(n v':Nat)(dk:Array UInt8),w'=(putRow (λ(b:UInt8)=>Value.int .u8 (b.toNat:Int)) w ft off dk).drewN n/\FmtInv d.size u 0 v' dk:=Any.internal_strconv_formatBase10 aeq ft off aq u d w hH hu aib hsz
def aet:Go.Shelf.Ren:=⟨λ|171=>105|243=>131|246=>170|283=>202|284=>158|285=>191|286=>203|129=>155|317=>159|318=>192|319=>212|320=>213|337=>217|338=>218|n=>n,λ|3=>3|9=>9|2=>2|4=>4|171=>166|0=>0|53=>127|37=>97|5=>5|173=>210|212=>202|51=>155|20=>20|213=>224|46=>100|232=>160|233=>248|n=>n,λ|17=>10|18=>15|19=>16|n=>n⟩
def aes:Go.Proofs.LaysM.n171 prog aet:={
 mixed:=by kernel_rfl
 f129:=bV func155
 f171:=bV func105
 f243:=bV func131
 f246:=bV func170
 f283:=bV func202
 f284:=bV func158
 f285:=bV func191
 f286:=bV func203
 f317:=bV func159
 f318:=bV func192
 f319:=bV func212
 f320:=bV func213
 f337:=bV func217
 f338:=bV func218
 t0:=underlying0
 a0:=isAgg0
 z0:=sizeOf0
 v0:=zeroValue0
 t2:=underlying2
 a2:=isAgg2
 z2:=sizeOf2
 v2:=zeroValue2
 t3:=underlying3
 a3:=isAgg3
 z3:=sizeOf3
 v3:=zeroValue3
 t4:=underlying4
 a4:=isAgg4
 z4:=sizeOf4
 v4:=zeroValue4
 t5:=underlying5
 a5:=isAgg5
 z5:=sizeOf5
 v5:=zeroValue5
 t9:=underlying9
 a9:=isAgg9
 z9:=sizeOf9
 v9:=zeroValue9
 t20:=underlying20
 a20:=isAgg20
 z20:=sizeOf20
 v20:=zeroValue20
 t37:=underlying97
 a37:=isAgg97
 z37:=sizeOf97
 v37:=zeroValue97
 t46:=underlying100
 a46:=isAgg100
 z46:=sizeOf100
 v46:=zeroValue100
 t51:=underlying155
 a51:=isAgg155
 z51:=sizeOf155
 v51:=zeroValue155
 t53:=underlying127
 a53:=isAgg127
 z53:=sizeOf127
 v53:=zeroValue127
 t171:=underlying166
 a171:=isAgg166
 z171:=sizeOf166
 v171:=zeroValue166
 t173:=underlying210
 a173:=isAgg210
 z173:=sizeOf210
 v173:=zeroValue210
 t212:=underlying202
 a212:=isAgg202
 z212:=sizeOf202
 v212:=zeroValue202
 t213:=underlying224
 a213:=isAgg224
 z213:=sizeOf224
 t232:=underlying160
 a232:=isAgg160
 z232:=sizeOf160
 v232:=zeroValue160
 t233:=underlying248
 a233:=isAgg248
 z233:=sizeOf248
 v233:=zeroValue248
 g17:=by kernel_rfl
 g18:=by kernel_rfl
 g19:=by kernel_rfl
 i0:=by kernel_rfl
 i2:=by kernel_rfl
 i3:=by kernel_rfl
 i4:=by kernel_rfl
 i5:=by kernel_rfl
 i9:=by kernel_rfl
 i20:=by kernel_rfl
 i37:=by kernel_rfl
 i46:=by kernel_rfl
 i51:=by kernel_rfl
 i53:=by kernel_rfl
 i171:=by kernel_rfl
 i173:=by kernel_rfl
 i212:=by kernel_rfl
 i232:=by kernel_rfl
 i233:=by kernel_rfl
 m17:=by kernel_rfl
 m18:=by kernel_rfl
 m19:=by kernel_rfl}
open Go.RowKit Go.Sort Go.Lib in
def Tryz.strconv_Itoa(n:Int)(h0: -9223372036854775808<=n)(h1:n<=9223372036854775807)(w:World)(Sb:Lib.TabIs prog w "internal/strconv.uint64pow10" .u64 Lib.pow10Tab):
  Calls prog 105 #[.int .i64 n] w λe w'=>e= .returned (.string ⟨(Lib.itoa n).toArray⟩)/\∃k os,w'=grow (w.drewN k) os:=Any.strconv_Itoa aes n h0 h1 w Sb
def aei:Go.Shelf.Ren:=⟨λ|145=>62|220=>100|219=>114|217=>137|225=>138|224=>139|267=>140|266=>171|314=>172|n=>n,λ|9=>9|4=>4|59=>88|3=>3|5=>5|46=>100|146=>178|51=>155|n=>n,λ|1=>4|n=>n⟩
def aeh:Go.Proofs.Lays.n145 prog aei:={
 mixed:=by kernel_rfl
 f145:=bV func62
 f217:=bV func137
 f219:=bV func114
 f220:=bV func100
 f224:=bV func139
 f225:=bV func138
 f266:=bV func171
 f267:=bV func140
 f314:=bV func172
 t3:=underlying3
 a3:=isAgg3
 z3:=sizeOf3
 v3:=zeroValue3
 t4:=underlying4
 a4:=isAgg4
 z4:=sizeOf4
 v4:=zeroValue4
 t5:=underlying5
 a5:=isAgg5
 z5:=sizeOf5
 v5:=zeroValue5
 t9:=underlying9
 a9:=isAgg9
 z9:=sizeOf9
 v9:=zeroValue9
 t46:=underlying100
 a46:=isAgg100
 z46:=sizeOf100
 v46:=zeroValue100
 t51:=underlying155
 a51:=isAgg155
 z51:=sizeOf155
 v51:=zeroValue155
 t59:=underlying88
 a59:=isAgg88
 z59:=sizeOf88
 v59:=zeroValue88
 t146:=underlying178
 a146:=isAgg178
 z146:=sizeOf178
 v146:=zeroValue178
 g1:=by kernel_rfl}
open Go.RowKit Go.Lib in
def Tryz.strings_Cut(s kA:ByteArray)(m:Int)(w:World)(hs:s.size<4294967281)(hm:w.cell? ⟨4,0,none⟩=some (.int .i64 m)):
  Calls prog 62 #[.string s,.string kA] w λe w'=>e= .returned (.tuple #[.string ⟨(Lib.cut s.data.toList kA.data.toList).1.toArray⟩,.string ⟨(Lib.cut s.data.toList kA.data.toList).2.1.toArray⟩,.bool (Lib.cut s.data.toList kA.data.toList).2.2])/\∃n,w'=w.drewN n:=Any.strings_Cut aeh s kA m w hs hm
def XW:Go.Shelf.Ren:=⟨λ|154=>66|138=>106|165=>70|143=>85|166=>71|197=>107|169=>72|195=>132|218=>133|240=>108|241=>109|219=>114|260=>134|276=>135|277=>136|217=>137|225=>138|224=>139|267=>140|266=>171|314=>172|n=>n,λ|9=>9|3=>3|4=>4|72=>104|0=>0|76=>93|105=>124|21=>21|5=>5|70=>102|20=>20|37=>97|75=>92|127=>126|164=>144|46=>100|119=>183|139=>186|138=>185|146=>178|51=>155|80=>106|n=>n,λ|1=>4|3=>8|4=>9|n=>n⟩
def aej:Go.Proofs.Lays.n154 prog XW:={
 mixed:=by kernel_rfl
 f138:=bV func106
 f143:=bV func85
 f154:=bV func66
 f165:=bV func70
 f166:=bV func71
 f169:=bV func72
 f195:=bV func132
 f197:=bV func107
 f217:=bV func137
 f218:=bV func133
 f219:=bV func114
 f224:=bV func139
 f225:=bV func138
 f240:=bV func108
 f241:=bV func109
 f260:=bV func134
 f266:=bV func171
 f267:=bV func140
 f276:=bV func135
 f277:=bV func136
 f314:=bV func172
 t0:=underlying0
 a0:=isAgg0
 z0:=sizeOf0
 v0:=zeroValue0
 t3:=underlying3
 a3:=isAgg3
 z3:=sizeOf3
 v3:=zeroValue3
 t4:=underlying4
 a4:=isAgg4
 z4:=sizeOf4
 v4:=zeroValue4
 t5:=underlying5
 a5:=isAgg5
 z5:=sizeOf5
 v5:=zeroValue5
 t9:=underlying9
 a9:=isAgg9
 z9:=sizeOf9
 v9:=zeroValue9
 t20:=underlying20
 a20:=isAgg20
 z20:=sizeOf20
 v20:=zeroValue20
 t21:=underlying21
 a21:=isAgg21
 z21:=sizeOf21
 v21:=zeroValue21
 t37:=underlying97
 a37:=isAgg97
 z37:=sizeOf97
 v37:=zeroValue97
 t46:=underlying100
 a46:=isAgg100
 z46:=sizeOf100
 v46:=zeroValue100
 t51:=underlying155
 a51:=isAgg155
 z51:=sizeOf155
 v51:=zeroValue155
 t70:=underlying102
 a70:=isAgg102
 z70:=sizeOf102
 v70:=zeroValue102
 t72:=underlying104
 a72:=isAgg104
 z72:=sizeOf104
 v72:=zeroValue104
 t75:=underlying92
 a75:=isAgg92
 z75:=sizeOf92
 v75:=zeroValue92
 t76:=underlying93
 a76:=isAgg93
 z76:=sizeOf93
 v76:=zeroValue93
 t105:=underlying124
 a105:=isAgg124
 z105:=sizeOf124
 v105:=zeroValue124
 t119:=underlying183
 a119:=isAgg183
 z119:=sizeOf183
 t127:=underlying126
 a127:=isAgg126
 z127:=sizeOf126
 v127:=zeroValue126
 t138:=underlying185
 a138:=isAgg185
 z138:=sizeOf185
 v138:=zeroValue185
 t139:=underlying186
 a139:=isAgg186
 z139:=sizeOf186
 v139:=zeroValue186
 t146:=underlying178
 a146:=isAgg178
 z146:=sizeOf178
 v146:=zeroValue178
 t164:=underlying144
 a164:=isAgg144
 z164:=sizeOf144
 v164:=zeroValue144
 g1:=by kernel_rfl
 g3:=by kernel_rfl
 g4:=by kernel_rfl}
def ad7:Builder.Extra prog XW:={
 sizeBuilder:=by kernel_rfl
 liesBuilder:=by kernel_rfl
 t5:=underlying5
 a5:=isAgg5
 z5:=sizeOf5
 v5:=zeroValue5
 infoByte:=by kernel_rfl
 cellsByte:=by kernel_rfl
 sizeByte:=by kernel_rfl
 neB5:=by decide}
open Go.RowKit Go.Lib in
def Tryz.strings_Replace(s Hy new:ByteArray)(n:Int)(m:Int)(w:World)(hs:s.size<4294967281)(hm:w.cell? ⟨4,0,none⟩=some (.int .i64 m))(h1:1<=Hy.size)(R9:s.size+Lib.countB s Hy*new.size<=140737488355328):
  Calls prog 66 #[.string s,.string Hy,.string new,.int .i64 n] w λe w'=>
   e= .returned (.string ⟨(Lib.replace s.data.toList Hy.data.toList new.data.toList n).toArray⟩)/\Below w.heap.size w w':=Any.strings_Replace aej ad7 s Hy new n m w hs hm h1 R9
end
end Go.Proofs
namespace Go.Proofs.YthhiffpfleacaaaGreatDoor
set_option maxRecDepth 100000
open Go.Value (int slice string bool pointer agg tuple func float iface nilIface)
open Go.IntKind (i64 u8 u64 i32 u32 u16 i8 i16)
open Go.FloatKind (f64)
open Go.Ending (returned panicked)
open Go.Proofs.Tryz
section
structure Be(F:ag)(b:Nat)(vs:aN):Prop where
 h:∀I h o,Gc I h->F.holds I h o->∃t fr,h b=some (.cells ⟨vs⟩ t fr)
variable{A B F:ag}{I:aX}{vs:aN}{w:World}
theorem Be.sub{b:Nat}(h:Be A b vs)(hs:Sub A B):Be B b vs:=⟨λI g o d c=>let ⟨e,a⟩:=hs I g o c;h.h I g e d a⟩
theorem Be.I3{b:Nat}(h:Be F b vs)(hs:Sat I (bu [F]) w):∃t a,w.heap[b]?=some (.cells ⟨vs⟩ t a):=by
 obtain⟨f,c,-,-⟩:=hs.nW;exact h.h I (hp w) (f 0) hs.oM (c 0)
def SK:aN:=Lib.pow10Tab.map λz=>int .u64 z
structure jF(F:ag):Prop where
 p10:Be F 10 SK
 mx:∃m,aH F ⟨4,0,none⟩ (.int .i64 m)
theorem jF.sub(h:jF A)(hs:Sub A B):jF B:=⟨h.p10.sub hs,let ⟨m,q⟩:=h.mx;⟨m,q.sub hs⟩⟩
theorem jF.Jk(h:jF F)(hs:Sat I (bu [F]) w):Lib.TabIs prog w "internal/strconv.uint64pow10" .u64 Lib.pow10Tab:=by
 obtain⟨t,b,e⟩:=h.p10.I3 hs;unfold Lib.TabIs World.var?;show(match w.heap[10]? with|some (.cells a _ _)=>some a|_=>none)=_;rw[e];rfl
structure UdX where
 u:Nat
abbrev LL:aF where
 X:=UdX
 args x:=[T x.u]
 cond x:=1<=x.u/\x.u<18446744073709551616
 aE _ F:=jF F
 val x _:=al (Z (Lib.nDigits x.u))
theorem aj8:aG 158 LL:=qC LL (λ_=>rfl) (λ_ _=>()) (λ_ _=>ai) (λ_ _=>rfl) λx _ _ w a b c=>
 (Go.Proofs.Tryz.internal_strconv_numDigits x.u a.1 a.2 w (jF.Jk b c)).mono λe d h=>⟨h.1,h.2▸RowKit.Below.refl _ _⟩
abbrev Hl:aF where
 X:=wH
 args x:=[Z x.i]
 cond x:= -9223372036854775808<=x.i/\x.i<=9223372036854775807
 aE _ F:=jF F
 val x _:=al (C ⟨(Lib.itoa x.i).toArray⟩)
theorem afm(w:World)(k:Nat):RowKit.Below w.heap.size w (w.drewN k):=⟨rfl,rfl,rfl,bK _,λ_ _=>rfl⟩
theorem afn(w:World)(k:Nat)(os:Array Obj):RowKit.Below w.heap.size w (Sort.grow (w.drewN k) os):=by
 refine⟨rfl,rfl,rfl, ?_,λj a=>?_⟩;simp[*];show(w.heap++os)[j]?=_;grind
theorem Zl:aG 105 Hl:=qC Hl (λ_=>rfl) (λ_ _=>()) (λ_ _=>ai) (λ_ _=>rfl) λx _ _ w a b c=>
 (Go.Proofs.Tryz.strconv_Itoa x.i a.1 a.2 w (jF.Jk b c)).mono λe f h=>⟨h.1,let ⟨k,d,e⟩:=h.2;e▸afn w k d⟩
structure W_ where
 s:ah
 t:ah
def tU(s t:ah):List UInt8×List UInt8×Bool:=Lib.cut s.data.toList t.data.toList
abbrev Yy:aF where
 X:=W_
 args x:=[C x.s,C x.t]
 cond x:=x.s.size<4294967281
 aE _ F:=jF F
 val x _:=.returned (.tuple #[.string ⟨(tU x.s x.t).1.toArray⟩,.string ⟨(tU x.s x.t).2.1.toArray⟩,.bool (tU x.s x.t).2.2])
theorem age:aG 62 Yy:=qC Yy (λ_=>rfl) (λ_ _=>()) (λ_ _=>ai) (λ_ _=>rfl) λx F _ w a c d=>
 let ⟨m,b⟩:=jF.mx c
 (Go.Proofs.Tryz.strings_Cut x.s x.t m w a (d.xr b)).mono λe f h=>⟨h.1,let ⟨k,e⟩:=h.2;e▸afm w k⟩
structure PI where
 s:ah
 t:ah
 u:ah
 n:Int
def IZ(x:PI):List UInt8:=Lib.replace x.s.data.toList x.t.data.toList x.u.data.toList x.n
abbrev rpC:aF where
 X:=PI
 args x:=[C x.s,C x.t,C x.u,Z x.n]
 cond x:=x.s.size<4294967281/\1<=x.t.size/\x.s.size+Lib.countB x.s x.t*x.u.size<=140737488355328
 aE _ F:=jF F
 val x _:=al (C ⟨(IZ x).toArray⟩)
theorem anB:aG 66 rpC:=qC rpC (λ_=>rfl) (λ_ _=>()) (λ_ _=>ai) (λ_ _=>rfl) λx F _ w a c d=>
 let ⟨m,b⟩:=jF.mx c
 (Go.Proofs.Tryz.strings_Replace x.s x.t x.u x.n m w a.1 (d.xr b) a.2.1 a.2.2).mono λe f h=>⟨h.1,h.2⟩
def tV(u n:Nat):a_:=(List.range n).map λt=>48+u/10^(n-1-t)%10
def kE(u n z:Nat):a_:=tV u n++List.replicate (z-n) 0
structure acp where
 b:Nat
 z:Nat
 n:Nat
 aq:Nat
 u:Nat
 t:TypeId
abbrev RR:aF where
 X:=acp
 args x:=[Q (some ⟨x.b,0,none⟩) x.n x.aq,T x.u]
 pre x:=[D x.b (bJ (List.replicate x.z 0)) x.t]
 cond x:=x.n<=x.z/\x.u<10^x.n/\x.u<18446744073709551616/\x.n<4611686018427387904
 val _ _:=.returned (.tuple #[])
 post x _:=[D x.b (bJ (kE x.u x.n x.z)) x.t]
abbrev RM:UInt8->aD:=λb=>int .u8 (b.toNat:Int)
theorem agA(u j:Nat):(Lib.dg u j).toNat=48+u/10^j%10:=by
 unfold Lib.dg;rw[UInt8.toNat_ofNat'];omega
theorem ag8:aG 191 RR:=by
 refine⟨λx F I w G _ v=>?_⟩;obtain⟨b,z,n,aq,u,t⟩:=x;obtain⟨B,C,q,D⟩:=(G:n<=z/\u<10^n/\u<18446744073709551616/\n<4611686018427387904);dsimp only at B C q D;have r:w.heap[b]?=some (.cells ⟨bJ (List.replicate z 0)⟩ t (0,0)):=v.cells (j:=0) rfl;have A:(Array.replicate n (0:UInt8)).size=n:=Array.size_replicate;have E:Sort.Holds RM w b 0 (Array.replicate n (0:UInt8)):=by
  intro j i;rw[A]at i;constructor;unfold World.cell?;rw[r];have:(Array.replicate n (0:UInt8))[j]! =0:=by rw[getElem!_pos _ j O,Array.getElem_replicate]
  rw[this];show(⟨bJ (List.replicate z 0)⟩:Array aD)[0+j]?=_;rw[gZ,<-Array.getElem?_toList];show(bJ (List.replicate z 0))[j]?=_;unfold bJ;grind;unfold World.frozen?;simp[*]
 have key:=Go.Proofs.Tryz.internal_strconv_formatBase10 b 0 aq u (Array.replicate n (0:UInt8)) w E (by simp[*]) q O;rw[A]at key;refine key.mono ?_;rintro e g ⟨K,k,M,f,y,s⟩;have J:f.size=n:=s.size;have H:∀j,j<n->f[j]! =Lib.dg u (n-1-j):=λj i=>s.done j (b7 _) i;have h:Sort.putCells RM 0 f ⟨bJ (List.replicate z 0)⟩=⟨bJ (kE u n z)⟩:=by{apply Array.ext_getElem?;intro j;unfold Sort.putCells;rw[Array.getElem?_mapIdx,<-Array.getElem?_toList,<-Array.getElem?_toList];show Option.map _ (bJ (List.replicate z 0))[j]?=(bJ (kE u n z))[j]?;unfold bJ kE tV;rw[fZ,fZ,List.getElem?_replicate];by_cases d:j<n;rw[if_pos O,m5 (by simp[*]),fZ,List.getElem?_range d];simp only[Option.map_some];rw[if_pos ⟨b7 _,O⟩,Nat.sub_zero,H j d];show some (int .u8 (((Lib.dg u (n-1-j)).toNat:Nat):Int))=_;rw[agA];grind};have L:∀c,g.heap[c]?=if c=b then some (.cells ⟨bJ (kE u n z)⟩ t (0,0)) else w.heap[c]?:=by{intro c;rw[y];show(w.heap.modify b _)[c]?=_;rw[Array.getElem?_modify];by_cases a:c=b;subst a;rw[if_pos rfl,if_pos rfl,r];show some (Obj.cells (Sort.putCells RM 0 f ⟨bJ (List.replicate z 0)⟩) t (0,0))=_;simp[*];grind};have p:g.heap.size=w.heap.size:=by{simp[*]};have m:=v.write (w':=g) (j:=0) (b:=b) (A':=.cells b (bJ (kE u n z)) t) (λo l=>l.1) (λc a=>by grind) p (λo l=>⟨l.1,by show g.heap[b]?=_;grind⟩);refine⟨(),I,ai,K,aX.le_refl I,m, ?_⟩;rw[y];exact Y
end
section
def kZ(u n:Nat):Nat->Nat
 |0=>0
 |k+1=>bif (tV u n).getD k 0==48 then kZ u n k else k+1
def abA(u n:Nat):∀k,kZ u n k<=k
 |0=>bK _
 |k+1=>by
  rw[kZ];cases (tV u n).getD k 0==48 with
  |true=>exact Nat.le_succ_of_le (abA u n k)
  |false=>exact bK _
def K1(u n:Nat):(tV u n).length=n:=by simp[tV]
variable{z:Nat}{S:St}
theorem YG{u n:Nat}(h:n<=z):(kE u n z).length=z:=by
 unfold kE;rw[eH,K1,List.length_replicate];omega
theorem agH{u n k:Nat}(h:k<n):(bJ (kE u n z))[k]?=some (.int .u8 ((tV u n).getD k 0:Nat)):=by
 unfold kE;rw[AE,m5 (by rw[AF,K1];exact h)];unfold bJ;rw[fZ,da (by rw[K1];exact h),eG,da (by rw[K1];exact h)];rfl
structure GY(vs:aN):Prop where
 h:vs=bJ (List.replicate 32 0)
structure yJ where
 t:TypeId
 vs:aN
 b:Nat
 u:Nat
 p:Int
 n:Nat
abbrev xP(x:yJ):bv:=some ⟨x.b,0,none⟩
abbrev Ob(x:yJ):=D x.b (bJ (kE x.u x.n 32)) x.t
abbrev CR:aF where
 X:=yJ
 args x:=[Q (xP x) 32 32,T x.u,Z x.p,Z x.n]
 pre x:=[D x.b x.vs x.t]
 cond x:=GY x.vs/\x.n<=20/\x.u<10^x.n/\x.u<18446744073709551616/\ -100000<=x.p/\x.p<=100000
 val x _:=.returned (.tuple #[.int .i64 (x.n+x.p),.int .i64 (kZ x.u x.n x.n:Nat)])
 post x _:=[Ob x]
def anU(x:yJ)(F:ag):Nat->Option Inv:=fun
 |0=>some {X:=Nat,P:=λk=>k<=x.n/\kZ x.u x.n x.n=kZ x.u x.n k,mu:=λk=>k,lv:=λk=>[(0,Q (xP x) 32 32),(3,Z k),(8,Z (x.n+x.p))],st:=λ_=>[Ob x,F]}
 |_=>none
def DA(c:Oper)(a:aN)(b:PN->Prop):=cN prog c CW/\∃(z:PN),a=[Q z.a z.n z.aq,Z z.h]/\(0<=z.h/\z.h<=z.aq)/\b z
def Ou(a:Nat)(x:yJ):=a<=x.n/\kZ x.u x.n x.n=kZ x.u x.n a
abbrev Ih(x:yJ)(F:ag):=[(0,D x.b (bJ (kE x.u x.n 32)) x.t),(1,F)]
def VO(x:yJ)(F:ag)(e:Nat):=l CR x F (al (tuple ⟨[Z (x.n+x.p),Z ↑e]⟩)) (Ih x F)
theorem anW(x:yJ)(F:ag)(w:CR.cond x)(A:CR.aE x F):aK ((x.n:Int)<=(↑(32:Nat):Int)) (DA (aL f157 2 2) [Q (xP x) 32 32,Z ↑x.n] (λh=>dK 191 RR (λg=>g.n<=g.z/\g.u<Nat.pow 10 g.n/\g.u<18446744073709551616/\g.n<4611686018427387904) [Q h.a h.h.toNat h.aq,T ↑x.u] [D x.b x.vs x.t] (λg f=>aA (x.n+x.p)/\(∃(a:Nat),Ou a x/\(Q (xP x) 32 32=Q (xP x) 32 32/\Z ↑x.n=Z ↑a/\Z (x.n+x.p)=Z (x.n+x.p)/\True)/\ay [(0,D g.b (bJ (kE g.u g.n g.z)) g.t),(1,F)] (Ih x F))/\aQ λ(e:Nat)_=>Ou e x->aK ((e:Int)>(0:Int)) (aA ((e:Int)-(1:Int))/\b9 (aL f157 4 6) [Q (xP x) 32 32,Z ((e:Int)-(1:Int))] (λc=>jD (Ob x) ⟨c.b,c.o+c.n.toNat*1,none⟩ (λb=>Br (b==48) (aA ((e:Int)-(1:Int))/\∃(a:Nat),Ou a x/\(Q (xP x) 32 32=Q (xP x) 32 32/\Z ((e:Int)-(1:Int))=Z ↑a/\Z (x.n+x.p)=Z (x.n+x.p)/\True)/\ay (Ih x F) (Ih x F)/\a<e) (VO x F e)))) (VO x F e)))) (l CR x F (al (tuple ⟨[Z 0,Z ↑x.n]⟩)) [(0,D x.b x.vs x.t),(1,F)]):=by
 delta DA xP Ou Ih b9 jD Ob VO aA dK Z u T Q D aK al aQ;obtain⟨t,C,b,d,p,n⟩:=x;obtain⟨⟨j⟩,r,m,o,s,v⟩:=w;dsimp only at j r m o s v⊢;refine bd (λ_=>⟨WE rfl rfl rfl,⟨some ⟨b,0,none⟩,32,32,n⟩,rfl,⟨by simp[*],O⟩,ag8,rfl,⟨b,32,n,32,d,t⟩,rfl,by rw[j],⟨by grind,m,o,by grind⟩,ai,λ_ _=>⟨aC,⟨n,⟨bK _,rfl⟩,aU,ao [0,1]⟩, ?_⟩⟩) (λq=>(q O).elim);rintro k B ⟨z,i⟩;cases k with
 |zero=>exact bd (λq=>absurd q O) (λ_=>⟨(),ai,by show _=returned (.tuple #[.int .i64 (n+p),.int .i64 (kZ d n n:Nat)]);rw[i] <;> rfl,ao [0,1]⟩)
 |succ k=>
  have e1:(((k+1:Nat):Int)-1)=((k:Nat):Int):=O;rw[e1];rw[kZ]at i;refine bd (λ_=>⟨aC,bZ 1 rfl rfl rfl rfl,⟨b,0,32,32,k⟩,rfl,⟨by simp[*],by grind⟩,(((tV d n).getD k 0:Nat):Int), ?_, ?_⟩) (λq=>absurd O q);refine aH.cells ?_;rw[show 0+((k:Nat):Int).toNat*1=k by omega];exact agH O;rw[show((((tV d n).getD k 0:Nat):Int)==48)=((tV d n).getD k 0==48) by grind];refine ar (λq=>?_) (λq=>?_);rw[q,aW]at i;exact⟨aC,k,⟨O,i⟩,aU,ao [0,1],jd _⟩;rw[q,y]at i;exact⟨(),ai,by show _=returned (.tuple #[.int .i64 (n+p),.int .i64 (kZ d n n:Nat)]);rw[i],ao [0,1]⟩
theorem anV:aG 157 CR:=mt func157 (λ_ _=>[(2,2,.qo CW),(2,4,q RR),(4,6,.qo (dy 1)),(4,7,.q [.ex 0 (.int .u8)])]) anU anW
def eF(neg:Bool):a_:=bif neg then [45] else []
def ey(ds:a_)(nd:Nat):Nat:=bif nd==0 then 48 else ds.getD 0 0
def gF(ds:a_)(nd:Nat):a_:=bif decide (nd>1) then 46::(ds.take nd).drop 1 else []
def eb(dp:Int)(nd:Nat):Int:=bif nd==0 then 0 else dp-1
def nL(e:Int):Nat:=bif decide (e<0) then 45 else 43
def nM(n:Nat):a_:=bif decide (n<10) then [48,n+48] else bif decide (n<100) then [n/10+48,n%10+48] else [n/100+48,n/10%10+48,n%10+48]
def sv(neg:Bool)(ds:a_)(dp:Int)(nd:Nat):a_:=eF neg++[ey ds nd]++gF ds nd++[101]++[nL (eb dp nd)]++nM (eb dp nd).natAbs
structure nC where
 r:Row
 neg:Bool
 b:Nat
 ds:a_
 dp:Int
 nd:Nat
abbrev pM(x:nC):bv:=some ⟨x.b,0,none⟩
abbrev BG:aF where
 X:=nC
 Y:=Row
 args x:=[Q x.r.a x.r.n x.r.aq,H x.neg,Q (pM x) 32 32,Z x.dp,Z x.nd,Z (x.nd-1:Nat),u 101,H true]
 pre x:=[x.r.A]
 cond x:=bl 5 1 [] x.r/\x.ds.length=32/\x.nd<=20/\ -900<=x.dp/\x.dp<=900
 aE x F:=cR F ⟨x.b,0,none⟩ (bJ x.ds)
 bS x y:=bl 5 1 (bJ (sv x.neg x.ds x.dp x.nd)) y
 val _ y:=al (Q y.a y.n y.aq)
 post _ y:=[y.A]
structure gg where
 r:Row
 c:Nat
 e:Int
def jI(l:a_)(d:gg):Prop:=bl 5 1 (bJ l) d.r
def yZ(x:nC)(F:ag)(P:gg->Prop)(lv:gg->List (Nat×aD)):Option Inv:=some {X:=gg,P:=P,mu:=λ_=>0,lv:=λd=>[(0,.slice d.r.a d.r.n d.r.aq),(2,.slice (some ⟨x.b,0,none⟩) 32 32),(3,.int .i64 x.dp),(4,.int .i64 x.nd),(5,.int .i64 (x.nd-1:Nat)),(6,.int .u8 101)]++lv d,st:=λd=>[d.r.A,F]}
def ahs(x:nC)(F:ag):Nat->Option Inv:=fun
 |22=>yZ x F (λd=>jI (eF x.neg) d) (λ_=>[])
 |25=>yZ x F (λd=>jI (eF x.neg) d/\d.c=ey x.ds x.nd) (λd=>[(19,.int .u8 d.c)])
 |37=>yZ x F (λd=>jI (eF x.neg++[ey x.ds x.nd]++gF x.ds x.nd) d) (λ_=>[])
 |41=>yZ x F (λd=>jI (eF x.neg++[ey x.ds x.nd]++gF x.ds x.nd++[101]) d/\d.e=eb x.dp x.nd) (λd=>[(22,.int .i64 d.e)])
 |45=>yZ x F (λd=>jI (eF x.neg++[ey x.ds x.nd]++gF x.ds x.nd++[101]) d/\d.e=(eb x.dp x.nd).natAbs/\d.c=nL (eb x.dp x.nd)) (λd=>[(19,.int .u8 d.c),(22,.int .i64 d.e)])
 |47=>yZ x F (λd=>jI (eF x.neg++[ey x.ds x.nd]++gF x.ds x.nd++[101]++[nL (eb x.dp x.nd)]) d/\d.e=(eb x.dp x.nd).natAbs) (λd=>[(22,.int .i64 d.e)])
 |51=>yZ x F (λd=>jI (sv x.neg x.ds x.dp x.nd) d) (λ_=>[])
 |_=>none
def ahu(x:nC)(F:ag):Nat->Option Inv:=fun
 |1=>yZ x F (λd=>jI (eF x.neg++[ey x.ds x.nd]++gF x.ds x.nd) d) (λ_=>[(113,.int .i64 0),(114,.int .i64 0)])
 |_=>none
theorem Bl{o:Oper}{r:Row}{l m:a_}{a:Addr}{c:Nat}{K:rS->Row->Prop}(f:gY prog o (cS 5 1 1))(b:bl 5 1 (bJ l) r)(i:l.length<=1000)(j:m.length<=1000)(hs:cR (.cJ (rest S [0])) a (bJ m))(U:∀y,bl 5 1 (bJ (l++m)) y->K ⟨r,bJ l,some a,m.length,c,bJ m⟩ y):
  gY prog o (cS 5 1 1)/\true=true/\∃x:rS,[slice r.a r.n r.aq,slice (some a) m.length c]=[slice x.r.a x.r.n x.r.aq,slice x.a x.m x.c]/\[r.A]=[x.r.A]/\
  (bl 5 1 x.cs x.r/\x.ys.length=x.m*1/\(∀u∈x.ys,u.oneCell'=true)/\(x.r.n+x.m)*1<=140737488355328/\x.r.n+x.m<=9223372036854775807/\(x.a=none->x.m=0/\x.c=0))/\
  (∀a,x.a=some a->cR (.cJ (rest S [0])) a x.ys)/\∀y:Row,(bl 5 1 (x.cs++x.ys) y/\y.n=x.r.n+x.m/\(x.m=0->y=x.r))->K x y:=by
 have d:=b.len;rw[AF]at d;refine ba f ⟨r,bJ l,some a,m.length,c,bJ m⟩ ⟨b,by dsimp only;rw[AF];omega,λu g=>F5 g,by grind,by grind,λe=>by cases e⟩ (λh e=>by cases e;exact hs) λy k=>U y ?_;rw[AE];simp[*]
theorem Au{b j:Nat}{vs a:aN}{t:TypeId}(c:gt S j= .cells b vs t)(e:a=vs)(hn:j∉[0]):cR (.cJ (rest S [0])) ⟨b,0,none⟩ a:=by
 subst e;exact cR.rest (j:=j) hn (by rw[c];exact cR.cells (λi u d=>by simp[*]))
theorem Y1(neg:Bool)(ds:a_)(nd:Nat)(h:ds.length=32):(eF neg).length<=1/\(gF ds nd).length<=32:=by
 constructor;cases neg <;> decide;unfold gF;cases decide (nd>1)with
 |false=>exact b7 _
 |true=>
  rw[aW,kI,List.length_drop,List.length_take];omega
theorem ahw{n:Nat}(h:n<=999):∀b∈nM n,48<=b/\b<=57:=by
 unfold nM;intro b a;by_cases c:n<10;grind;rw[bF c,y]at a;by_cases d:n<100;grind;rw[bF d,y]at a;simp only[List.mem_cons,List.not_mem_nil,or_false]at a;omega
def Mf(b:aD)(z:gg)(a:nC):=b=Q z.r.a z.r.n z.r.aq/\Q (pM a) 32 32=Q (pM a) 32 32/\Z a.dp=Z a.dp/\Z ↑a.nd=Z ↑a.nd/\Z (↑(a.nd-1):Int)=Z (↑(a.nd-1):Int)/\u 101=u 101/\True
abbrev o3(z:gg)(e1:ag):=[(0,z.r.A),(1,e1)]
def Qj(a:nC)(e1:ag)(c:aD)(b:St):=∃(z:gg),jI (eF a.neg) z/\Mf c z a/\ay b (o3 z e1)
def Qk(a:nC)(e1:ag)(c d:aD)(b:St):=∃(z:gg),(jI (eF a.neg) z/\z.c=ey a.ds a.nd)/\(c=Q z.r.a z.r.n z.r.aq/\Q (pM a) 32 32=Q (pM a) 32 32/\Z a.dp=Z a.dp/\Z ↑a.nd=Z ↑a.nd/\Z (↑(a.nd-1):Int)=Z (↑(a.nd-1):Int)/\u 101=u 101/\d=u ↑z.c/\True)/\ay b (o3 z e1)
abbrev zM(v:gg):=Q v.r.a v.r.n v.r.aq
abbrev Om(t:gg)(r:Nat):aN:=[Q t.r.a t.r.n t.r.aq,Q (bq r) 1 1]
abbrev vP(p:Row)(h:Nat):aN:=[Q p.a p.n p.aq,Q (bq h) 1 1]
abbrev Ig(p:Row)(F:ag)(r:Nat)(t:gg)(h:Nat):=[(0,p.A),(1,F),(9020,D r [u ↑t.c] 5),(9030,D h [u 46] 5)]
def Ql(a:nC)(e1:ag)(c d:aD)(b:St):=∃(z:gg),jI (eF a.neg++[ey a.ds a.nd]++gF a.ds a.nd) z/\(c=Q z.r.a z.r.n z.r.aq/\Q (pM a) 32 32=Q (pM a) 32 32/\Z a.dp=Z a.dp/\Z ↑a.nd=Z ↑a.nd/\Z (↑(a.nd-1):Int)=Z (↑(a.nd-1):Int)/\u 101=u 101/\d=Z 0/\Z 0=Z 0/\True)/\ay b (o3 z e1)
def J4(a:nC)(e1:ag)(c:aD)(b:St):=∃(z:gg),jI (eF a.neg++[ey a.ds a.nd]++gF a.ds a.nd) z/\Mf c z a/\ay b (o3 z e1)
def VE(a:nC)(z:gg):=jI (eF a.neg++[ey a.ds a.nd]++gF a.ds a.nd++[101]) z/\z.e=eb a.dp a.nd
def Qm(a:nC)(e1:ag)(c d:aD)(b:St):=∃(z:gg),VE a z/\(c=Q z.r.a z.r.n z.r.aq/\Q (pM a) 32 32=Q (pM a) 32 32/\Z a.dp=Z a.dp/\Z ↑a.nd=Z ↑a.nd/\Z (↑(a.nd-1):Int)=Z (↑(a.nd-1):Int)/\u 101=u 101/\d=Z z.e/\True)/\ay b (o3 z e1)
def Ux(a:nC)(z:gg):=jI (eF a.neg++[ey a.ds a.nd]++gF a.ds a.nd++[101]) z/\z.e=(↑(eb a.dp a.nd).natAbs:Int)/\z.c=nL (eb a.dp a.nd)
def Qn(a:nC)(e1:ag)(c d e:aD)(b:St):=∃(z:gg),Ux a z/\(c=Q z.r.a z.r.n z.r.aq/\Q (pM a) 32 32=Q (pM a) 32 32/\Z a.dp=Z a.dp/\Z ↑a.nd=Z ↑a.nd/\Z (↑(a.nd-1):Int)=Z (↑(a.nd-1):Int)/\u 101=u 101/\d=u ↑z.c/\e=Z z.e/\True)/\ay b (o3 z e1)
def Ut(x:nC)(a:gg):=jI (eF x.neg++[ey x.ds x.nd]++gF x.ds x.nd++[101]++[nL (eb x.dp x.nd)]) a/\a.e=(↑(eb x.dp x.nd).natAbs:Int)
def J6(a:nC)(e1:ag)(c:aD)(b:St):=∃(z:gg),jI (sv a.neg a.ds a.dp a.nd) z/\Mf c z a/\ay b (o3 z e1)
def V1(f:gg):=0<=f.e.tdiv (10:Int)/\f.e.tdiv (10:Int)<=(255:Int)
def V2(f:gg):=0<=f.e.tmod (10:Int)/\f.e.tmod (10:Int)<=(255:Int)
def Va(f:gg):=0<=f.e.tmod (10:Int)+(48:Int)/\f.e.tmod (10:Int)+(48:Int)<=255
abbrev Vi(f:gg):aN:=[u (f.e.tdiv (10:Int)+(48:Int)),u (f.e.tmod (10:Int)+(48:Int))]
abbrev Uh(f:gg):aN:=[u (f.e.tdiv (100:Int)+(48:Int)),u ((f.e.tdiv (10:Int)).tmod (10:Int)+(48:Int)),u (f.e.tmod (10:Int)+(48:Int))]
theorem ahy(x:nC)(F:ag)(hc:BG.cond x)(R:BG.aE x F):Br x.neg (∀(d:Nat),oB (aL f154 21 2) [Q x.r.a x.r.n x.r.aq,Q (bq d) 1 1] [x.r.A] (g [(0,x.r.A),(1,F),(9010,D d [u 45] 5)] [0]) (λc b=>Qj x F (kq b) [(0,b.A),(1,F),(9010,D d [u 45] 5)])) (Qj x F (Q x.r.a x.r.n x.r.aq) [(0,x.r.A),(1,F)])/\aQ λ(v:gg)_=>jI (eF x.neg) v->Br ((x.nd:Int)!=0) (b9 (aL f154 24 1) [Q (pM x) 32 32,Z 0] (λc=>jD F ⟨c.b,c.o+c.n.toNat*1,none⟩ (λb=>Qk x F (zM v) (u b) (o3 v F)))) (Qk x F (zM v) (u 48) (o3 v F))/\aQ λ(t:gg)_=>(jI (eF x.neg) t/\t.c=ey x.ds x.nd)->∀(r:Nat),oB (aL f154 25 3) (Om t r) [t.r.A] (g [(0,t.r.A),(1,F),(9020,D r [u ↑t.c] 5)] [0]) (λq p=>aK ((↑(x.nd-1):Int)>0) (∀(h:Nat),oB (aL f154 27 2) (vP p h) [p.A] (g (Ig p F r t h) [0]) (λs f=>aA ((↑(x.nd-1):Int)+1)/\aK (1<if (↑(x.nd-1):Int)+1<(x.nd:Int) then (↑(x.nd-1):Int)+1 else (x.nd:Int)) (((0:Int)<=1/\(1<=if (↑(x.nd-1):Int)+1<(x.nd:Int) then (↑(x.nd-1):Int)+1 else (x.nd:Int))/\(if (↑(x.nd-1):Int)+1<(x.nd:Int) then (↑(x.nd-1):Int)+1 else (x.nd:Int))<=(↑(32:Nat):Int)/\1<(↑(32:Nat):Int))/\oB (aL f154 31 5) [Q f.a f.n f.aq,Q (some ⟨x.b,1,none⟩) ((if (↑(x.nd-1):Int)+1<(x.nd:Int) then (↑(x.nd-1):Int)+1 else (x.nd:Int)).toNat-1) 31] [f.A] (g (Ig f F r t h) [0]) (λe d=>aA ((↑(x.nd-1):Int)+1)/\(((-9223372036854775808:Int)<=(↑(x.nd-1):Int)+1-if (↑(x.nd-1):Int)+1<(x.nd:Int) then (↑(x.nd-1):Int)+1 else (x.nd:Int))/\((↑(x.nd-1):Int)+1-if (↑(x.nd-1):Int)+1<(x.nd:Int) then (↑(x.nd-1):Int)+1 else (x.nd:Int))<=9223372036854775807)/\Ql x F (kq d) (Z ((↑(x.nd-1):Int)+1-if (↑(x.nd-1):Int)+1<(x.nd:Int) then (↑(x.nd-1):Int)+1 else (x.nd:Int))) (Ig d F r t h)/\aQ λ(c:gg)_=>jI (eF x.neg++[ey x.ds x.nd]++gF x.ds x.nd) c->J4 x F (zM c) (o3 c F))) (aA ((↑(x.nd-1):Int)+1)/\aA ((↑(x.nd-1):Int)+1-(1:Int))/\Ql x F (kq f) (Z ((↑(x.nd-1):Int)+1-(1:Int))) (Ig f F r t h)/\aQ λ(c:gg)_=>jI (eF x.neg++[ey x.ds x.nd]++gF x.ds x.nd) c->J4 x F (zM c) (o3 c F)))) (J4 x F (kq p) [(0,p.A),(1,F),(9020,D r [u ↑t.c] 5)])/\aQ λ(o:gg)_=>jI (eF x.neg++[ey x.ds x.nd]++gF x.ds x.nd) o->∀(m:Nat),oB (aL f154 37 3) (Om o m) [o.r.A] (g [(0,o.r.A),(1,F),(9050,D m [u 101] 5)] [0]) (λw k=>aA (x.dp-1)/\Br ((x.nd:Int)==0) (Qm x F (kq k) (Z 0) [(0,k.A),(1,F),(9050,D m [u 101] 5)]) (Qm x F (kq k) (Z (x.dp-1)) [(0,k.A),(1,F),(9050,D m [u 101] 5)])/\aQ λ(j:gg)_=>VE x j->aK (j.e<0) (Qn x F (zM j) (u 45) (Z (bR ((0:Int)-j.e))) (o3 j F)) (Qn x F (zM j) (u 43) (Z j.e) (o3 j F))/\aQ λ(h:gg)_=>Ux x h->(∀(d:Nat),oB (aL f154 45 3) (Om h d) [h.r.A] (g [(0,h.r.A),(1,F),(9060,D d [u ↑h.c] 5)] [0]) (λc b=>∃(a:gg),Ut x a/\(Q b.a b.n b.aq=Q a.r.a a.r.n a.r.aq/\Q (pM x) 32 32=Q (pM x) 32 32/\Z x.dp=Z x.dp/\Z ↑x.nd=Z ↑x.nd/\Z (↑(x.nd-1):Int)=Z (↑(x.nd-1):Int)/\u 101=u 101/\Z h.e=Z a.e/\True)/\ay [(0,b.A),(1,F),(9060,D d [u ↑h.c] 5)] (o3 a F)))/\aQ λ(f:gg)_=>Ut x f->aK (f.e<10) ((0<=f.e/\f.e<=255)/\(0<=f.e+48/\f.e+48<=(255:Int))/\∀(d:Nat),oB (aL f154 48 5) [Q f.r.a f.r.n f.r.aq,Q (bq d) 2 2] [f.r.A] (g [(0,f.r.A),(1,F),(9070,D d [u 48,u (f.e+48)] 5)] [0]) (λc b=>J6 x F (kq b) [(0,b.A),(1,F),(9070,D d [u 48,u (f.e+48)] 5)])) (aK (f.e<100) ((10:Int)≠0/\aA (f.e.tdiv (10:Int))/\V1 f/\(0<=f.e.tdiv (10:Int)+(48:Int)/\f.e.tdiv (10:Int)+(48:Int)<=255)/\(10:Int)≠0/\V2 f/\Va f/\∀(d:Nat),oB (aL f154 50 10) [Q f.r.a f.r.n f.r.aq,Q (bq d) 2 2] [f.r.A] (g [(0,f.r.A),(1,F),(9080,D d (Vi f) 5)] [0]) (λc b=>J6 x F (kq b) [(0,b.A),(1,F),(9080,D d (Vi f) 5)])) ((100:Int)≠0/\aA (f.e.tdiv (100:Int))/\(0<=f.e.tdiv (100:Int)/\f.e.tdiv (100:Int)<=(255:Int))/\(0<=f.e.tdiv (100:Int)+(48:Int)/\f.e.tdiv (100:Int)+(48:Int)<=255)/\(10:Int)≠0/\aA (f.e.tdiv (10:Int))/\V1 f/\(10:Int)≠0/\(0<=(f.e.tdiv (10:Int)).tmod (10:Int)+(48:Int)/\(f.e.tdiv (10:Int)).tmod (10:Int)+(48:Int)<=255)/\(10:Int)≠0/\V2 f/\Va f/\∀(d:Nat),oB (aL f154 46 15) [Q f.r.a f.r.n f.r.aq,Q (bq d) 3 3] [f.r.A] (g [(0,f.r.A),(1,F),(9090,D d (Uh f) 5)] [0]) (λc b=>J6 x F (kq b) [(0,b.A),(1,F),(9090,D d (Uh f) 5)])))/\aQ λ(b:gg)_=>jI (sv x.neg x.ds x.dp x.nd) b->l BG x F (al (zM b)) (o3 b F))):=by
 delta mM jx l6 oB bq pM Mf o3 Qj kq b9 jD Qk zM Om vP Ig Ql J4 VE Qm Ux Qn Ut J6 V1 V2 Va Vi Uh g aA jc Z u Q D bR aK al aQ;obtain⟨r0,C,b,B,G,A⟩:=x;obtain⟨N,Y,h2,h3,h4⟩:=hc;replace R:cR F ⟨b,0,none⟩ (bJ B):=R;dsimp only at N Y h2 h3 h4⊢;obtain⟨l1,l3⟩:=Y1 C B A Y;have hE:(eb G A).natAbs<=999:=by{unfold eb;grind};have T:∀k,k<32->(bJ B)[k]?=some (.int .u8 (B.getD k 0:Nat)):=λk U=>by{unfold bJ;simp[*]};refine⟨ar (λq=>λlb=>Bl (l:=[]) (m:=[45]) (iN 1 1 rfl rfl rfl rfl rfl rfl rfl (by decide)) N (by decide) (by decide) (Au (j:=9010) rfl rfl (by decide)) λy H=>⟨⟨y,0,0⟩,by rw[q];exact H,aU,ao [0,1]⟩) (λq=>⟨⟨r0,0,0⟩,by rw[q];exact N,aU,ao [0,1]⟩), ?_⟩;clear N;rintro⟨r,-,-⟩ J (E:bl 5 1 (bJ (eF C)) r);refine⟨ar (λq=>⟨bZ 1 rfl rfl rfl rfl,⟨b,0,32,32,0⟩,rfl,⟨cH _,by simp[*]⟩,((B.getD 0 0:Nat):Int),R 0 _ (T 0 (by decide)),⟨r,B.getD 0 0,0⟩,⟨E, ?_⟩,aU,ao [0,1]⟩) (λq=>⟨⟨r,48,0⟩,⟨E, ?_⟩,aU,ao [0,1]⟩), ?_⟩;show B.getD 0 0=ey B A;unfold ey;grind;show 48=ey B A;unfold ey;grind;clear E r;rintro⟨r,c,e0⟩ J ⟨E,I⟩;replace E:bl 5 1 (bJ (eF C)) r:=E;dsimp only at I;subst I;dsimp only;intro lb;refine Bl (l:=eF C) (m:=[ey B A]) (iN 1 1 rfl rfl rfl rfl rfl rfl rfl (by decide)) E O (by simp[*]) (Au (j:=9020) rfl rfl (by decide)) λy H=>?_;refine⟨bd (λq=>λx4=>?_) (λq=>⟨⟨y,0,0⟩, ?_,aU,ao [0,1]⟩), ?_⟩;have x3:A>1:=by omega
 have e1:(((A-1:Nat):Int)+1)=(A:Int):=O;rw[e1];refine Bl (l:=eF C++[ey B A]) (m:=[46]) (iN 1 1 rfl rfl rfl rfl rfl rfl rfl (by decide)) H (by grind) (by decide) (Au (j:=9030) rfl rfl (by decide)) λy2 V=>?_;rw[if_neg (Int.lt_irrefl _)];have ez:((A:Int)-(A:Int))=0:=O;have M:((B.take A).drop 1).length=A-1:=by grind
 have key:∀L,bl 5 1 (bJ (eF C++[ey B A]++[46]++(B.take A).drop 1)) L->bl 5 1 (bJ (eF C++[ey B A]++gF B A)) L:=λL h=>by{unfold gF;grind};refine⟨aC,bd (λ_=>⟨⟨by decide,O,O,by decide⟩, ?_⟩) (λq=>(q O).elim)⟩;have em:((A:Int).toNat-1)=((B.take A).drop 1).length:=O;rw[em];refine Bl (l:=eF C++[ey B A]++[46]) (m:=(B.take A).drop 1) (iN 1 1 rfl rfl rfl rfl rfl rfl rfl (by decide)) V (by grind) O ?_ λL W=>?_;refine cR.rest (j:=1) (by decide) ?_;intro j z hj;have x1:j<A-1:=by{have:=(ic.1 hj).1;rw[AF,M]at this;omega};have:(bJ B)[1+j]?=some z:=by{rw[<-hj];unfold bJ;grind};have e:(⟨b,1,none⟩:Addr).add j=(⟨b,0,none⟩:Addr).add (1+j):=by simp[Addr.add]
 rw[e];exact R (1+j) z this;rw[ez];exact⟨aC,⟨by decide,by decide⟩,⟨⟨L,0,0⟩,key L W,aU,ao [0,1]⟩,λd J hd=>⟨d,hd,aU,ao [0,1]⟩⟩;show bl 5 1 (bJ (eF C++[ey B A]++gF B A)) y;unfold gF;grind;clear E r;rintro⟨r,-,-⟩ J (E:bl 5 1 (bJ (eF C++[ey B A]++gF B A)) r);intro lb;refine Bl (l:=eF C++[ey B A]++gF B A) (m:=[101]) (iN 1 1 rfl rfl rfl rfl rfl rfl rfl (by decide)) E (by grind) (by decide) (Au (j:=9050) rfl rfl (by decide)) λy H=>?_;refine⟨aC,ar (λq=>⟨⟨y,0,0⟩,⟨H, ?_⟩,aU,ao [0,1]⟩) (λq=>⟨⟨y,0,G-1⟩,⟨H, ?_⟩,aU,ao [0,1]⟩), ?_⟩;show 0=eb G A;unfold eb;grind;show G-1=eb G A;unfold eb;grind;clear H E r y;rintro⟨r,c0,e⟩ J ⟨E,I⟩;replace E:bl 5 1 (bJ (eF C++[ey B A]++gF B A++[101])) r:=E;dsimp only at I⊢;subst I;refine⟨bd (λq=>⟨⟨r,45,((eb G A).natAbs:Nat)⟩,⟨E,rfl, ?_⟩,⟨rfl,rfl,rfl,rfl,rfl,rfl,rfl, ?_,ai⟩,ao [0,1]⟩) (λq=>⟨⟨r,43,((eb G A).natAbs:Nat)⟩,⟨E,rfl, ?_⟩,⟨rfl,rfl,rfl,rfl,rfl,rfl,rfl, ?_,ai⟩,ao [0,1]⟩), ?_⟩;show 45=nL (eb G A);unfold nL;simp[*];rw[dw (i:=.i64) (n:=0-eb G A) aC];grind;show 43=nL (eb G A);unfold nL;simp[*];grind;clear E r;rintro⟨r,c,e⟩ J ⟨E,I,h7⟩;replace E:bl 5 1 (bJ (eF C++[ey B A]++gF B A++[101])) r:=E;dsimp only at I h7⊢;subst I h7;refine⟨λlb=>?_, ?_⟩;refine Bl (l:=eF C++[ey B A]++gF B A++[101]) (m:=[nL (eb G A)]) (iN 1 1 rfl rfl rfl rfl rfl rfl rfl (by decide)) E (by grind) (by simp[*]) (Au (j:=9060) rfl rfl (by decide)) λy H=>?_;exact⟨⟨y,0,((eb G A).natAbs:Nat)⟩,⟨H,rfl⟩,aU,ao [0,1]⟩;clear E r;rintro⟨r,c0,e⟩ J ⟨E,I⟩;replace E:bl 5 1 (bJ (eF C++[ey B A]++gF B A++[101]++[nL (eb G A)])) r:=E;dsimp only at I⊢;subst I;have ae:∀y,bl 5 1 (bJ (eF C++[ey B A]++gF B A++[101]++[nL (eb G A)]++nM (eb G A).natAbs)) y->jI (sv C B G A) ⟨y,0,0⟩:=λy h=>h;generalize x0:(eb G A).natAbs=n at*;have t1:((n:Nat):Int).tdiv 10=((n/10:Nat):Int):=(Int.ofNat_tdiv n 10).symm;have t2:((n:Nat):Int).tmod 10=((n%10:Nat):Int):=(Int.ofNat_tmod n 10).symm;have t3:((n:Nat):Int).tdiv 100=((n/100:Nat):Int):=(Int.ofNat_tdiv n 100).symm;have t4:((n/10:Nat):Int).tmod 10=((n/10%10:Nat):Int):=(Int.ofNat_tmod (n/10) 10).symm;rw[t1,t2,t3,t4];have P:∀m:a_,nM n=m->m.length<=3->∀{o:Oper}{a:Addr}{c:Nat}{S:St}{K:rS->Row->Prop},gY prog o (cS 5 1 1)->cR (.cJ (rest S [0])) a (bJ m)->(∀y,jI (sv C B G A) ⟨y,0,0⟩->K ⟨r,bJ (eF C++[ey B A]++gF B A++[101]++[nL (eb G A)]),some a,m.length,c,bJ m⟩ y)->_:=λm hm x2 o a c S K ho hs U=>Bl (l:=eF C++[ey B A]++gF B A++[101]++[nL (eb G A)]) (m:=m) (a:=a) (c:=c) (S:=S) (K:=K) ho E (by simp only[eH,zc];omega) O hs λy H=>U y (ae y (by grind));refine⟨bd (λq=>⟨aC,aC,λlb=>?_⟩) (λq=>bd (λq2=>⟨by decide,aC,aC,aC,by decide,aC,aC,λlb=>?_⟩) (λq2=>⟨by decide,aC,aC,aC,by decide,aC,aC,by decide,aC,by decide,aC,aC,λlb=>?_⟩)), ?_⟩;refine P [48,n+48] (by unfold nM;rw[bp (show n<10 by omega),aW]) X (iN 1 1 rfl rfl rfl rfl rfl rfl rfl (by decide)) (Au (j:=9070) rfl rfl (by decide)) λy H=>⟨⟨y,0,0⟩,H,aU,ao [0,1]⟩;refine P [n/10+48,n%10+48] (by unfold nM;rw[bF (show ¬n<10 by omega),bp (show n<100 by omega)] <;> rfl) X (iN 1 1 rfl rfl rfl rfl rfl rfl rfl (by decide)) (Au (j:=9080) rfl rfl (by decide)) λy H=>⟨⟨y,0,0⟩,H,aU,ao [0,1]⟩
 refine P [n/100+48,n/10%10+48,n%10+48] (by unfold nM;rw[bF (show ¬n<10 by omega),bF (show ¬n<100 by omega)] <;> rfl) X (iN 1 1 rfl rfl rfl rfl rfl rfl rfl (by decide)) (Au (j:=9090) rfl rfl (by decide)) λy H=>⟨⟨y,0,0⟩,H,aU,ao [0,1]⟩;clear E ae P r;rintro⟨r,-,-⟩ J (E:bl 5 1 (bJ (sv C B G A)) r);exact⟨r,E,rfl,ao [0,1]⟩
theorem ahx:aG 154 BG:=rh func154 (λ_ _=>[(24,1,.qo (dy 1)),(24,2,.q [.ex 1 (.int .u8)]),(21,1,.n 9010),(21,2,dU (cS 5 1 1)),(25,2,.n 9020),(25,3,dU (cS 5 1 1)),(27,1,.n 9030),(27,2,dU (cS 5 1 1)),(31,5,dU (cS 5 1 1)),(35,1,.n 9040),(35,2,dU (cS 5 1 1)),(37,2,.n 9050),(37,3,dU (cS 5 1 1)),(45,2,.n 9060),(45,3,dU (cS 5 1 1)),(48,3,.ck),(48,4,.n 9070),(48,5,dU (cS 5 1 1)),(50,4,.ck),(50,8,.ck),(50,9,.n 9080),(50,10,dU (cS 5 1 1)),(46,4,.ck),(46,9,.ck),(46,8,.ck),(46,13,.ck),(46,14,.n 9090),(46,15,dU (cS 5 1 1))]) ahu ahs ahy
end
section
def YY{z k:Int}(a:0<=z)(b:z<18446744073709551616)(U:1<=k):0<=z.fdiv k/\z.fdiv k<18446744073709551616:=by
 rw[Int.fdiv_eq_ediv_of_nonneg _ O];exact⟨Int.ediv_nonneg a O,Int.lt_of_le_of_lt (Int.ediv_le_self k a) b⟩
variable{e:Int}{a m n:Nat}{tb:Nat->Nat}
theorem an8(b: -1137<=e)(c:e<=960): -347<(gz m e).p/\(gz m e).p<347:=by
 have f:11<=fI e/\fI e<=63/\ -1085<=e+fI e/\e+fI e<=971:=by{unfold fI;by_cases q:e>= -1085;all_goals grind};unfold gz;cases a:nq m e with
 |true=>
  have d:e> -1085:=by{unfold nq at a;grind};exact(zs (k:=e+(63-52)) O O).2.2.2
 |false=>
  exact(zs (k:=e+fI e) O O).2.2.1
theorem aoa(a: -1137<=e)(b:e<=960):(tf tb m e).1<18446744073709551616/\ -400<=(tf tb m e).2/\(tf tb m e).2<=400:=by
 obtain⟨f,g⟩:=an8 (m:=m) a b;unfold tf yo;generalize gz m e=d at f g⊢;have h:i64.wrap (0-(d.p-1))=0-(d.p-1):=dw (i:=.i64) aC;have j:i64.wrap (0-d.p)=0-d.p:=dw (i:=.i64) aC;have c:∀u,p4 u<18446744073709551616:=λu=>by{unfold p4;have:=gA (u+3);exact(YY this.1 O (by decide)).2};have r:∀u,pN u<18446744073709551616:=λu=>by{unfold pN;have:=gA (u64.wrap (u+1)+u64.wrap (↑(BitVec.ofInt u64.bits (u.fdiv (2^min (Int.toNat 2) u64.bits))&&& BitVec.ofInt u64.bits 1).toNat:Int));exact(YY this.1 O (by decide)).2};by_cases q:u64.wrap (u64.wrap ((rH tb e d).tdiv 10)*10)>=td tb e d;rw[bp q,aW];have:=gA ((rH tb e d).tdiv 10);omega;rw[bF q,y];by_cases q2:td tb e d<rH tb e d;grind;rw[bF q2,y];dsimp only;have:=c (vA ⟨iY (og tb e d.lo d.p),d.od⟩);unfold td;omega
theorem afw:∀(k x:Nat),x<18446744073709551616->Lib.bitLen x=k+1->2^k<=x/\x<2^(k+1):=by
 intro k
 induction k with
 |zero=>
  intro x b h;have a:x≠0:=by intro e;subst e;exact absurd h (by decide)
  rw[Lib.bitLen_half x a b]at h;by_cases c:x/2=0;omega;have:=Lib.bitLen_half (x/2) c O;omega
 |succ k d=>
  intro x b h;have a:x≠0:=by
   intro e;subst e;have:Lib.bitLen 0=0:=by rfl
   omega
  rw[Lib.bitLen_half x a b]at h;grind
theorem Ye{x:Nat}(e:x≠0)(c:x<18446744073709551616):1<=Lib.bitLen x/\Lib.bitLen x<=64/\9223372036854775808<=x*2^(64-Lib.bitLen x)/\x*2^(64-Lib.bitLen x)<18446744073709551616:=by
 have f:Lib.bitLen x<=64:=Lib.bitLen_le x 64 O O;have g:=Lib.bitLen_half x e c;obtain⟨k,U⟩:∃k,Lib.bitLen x=k+1:=⟨Lib.bitLen (x/2),O⟩;obtain⟨a,b⟩:=afw k x c U;rw[U];have e1:2^k*2^(64-(k+1))=9223372036854775808:=by{rw[<-Nat.pow_add,show k+(64-(k+1))=63 by omega]};have d:2^(k+1)*2^(64-(k+1))=18446744073709551616:=by{grind};have p:0<2^(64-(k+1)):=Nat.pow_pos (by decide);refine⟨O,O, ?_, ?_⟩;rw[<-e1];exact Nat.mul_le_mul_right _ a;rw[<-d];exact Nat.mul_lt_mul_of_pos_right b p
def nR(n:Nat):Nat:=n/4503599627370496%2048
def px(n:Nat):Nat:=n%4503599627370496
def oJ(n:Nat):Int:=(bif nR n==0 then 1 else (nR n:Int))+ -1023
def fc(n:Nat):Nat:=bif nR n==0 then px n else px n+4503599627370496
def j_(n:Nat):Bool:=(n:Int).fdiv (2^min (Int.toNat (11+52)) u64.bits)!=0
structure pW(n:Nat):Prop where
 lo:0<n%9223372036854775808
 hi:n%9223372036854775808<9218868437227405312
theorem pW.aas(h:pW n):nR n<2047/\fc n≠0/\fc n<9007199254740992/\ -1022<=oJ n/\oJ n<=1023/\px n<4503599627370496:=by
 obtain⟨b,c⟩:=h;have e:nR n=n%9223372036854775808/4503599627370496:=by unfold nR;omega
 have d:px n=n%9223372036854775808%4503599627370496:=by unfold px;omega
 have a:px n<4503599627370496:=O;unfold fc oJ;grind
theorem X2(x:Int)(k:Nat)(U:k<=63):((BitVec.ofInt 64 x&&& BitVec.ofInt 64 ((2^k-1:Nat):Int)).toNat)=(x%18446744073709551616).toNat%2^k:=by
 have hp:2^k<=2^63:=pw (by decide) U;rw[BitVec.toNat_and,BitVec.toNat_ofInt,BitVec.toNat_ofInt,show((2^64:Nat):Int)=18446744073709551616 by decide];rw[show(((2^k-1:Nat):Int)%18446744073709551616).toNat=2^k-1 by omega,Nat.and_two_pow_sub_one_eq_mod]
theorem akG(h:a<4503599627370496):((BitVec.ofInt 64 (a:Int)|||BitVec.ofInt 64 4503599627370496).toNat)=a+4503599627370496:=by
 rw[BitVec.toNat_or,BitVec.toNat_ofInt,BitVec.toNat_ofInt,show((2^64:Nat):Int)=18446744073709551616 by decide];rw[show((a:Int)%18446744073709551616).toNat=a by omega,show((4503599627370496:Int)%18446744073709551616).toNat=2^52*1 by decide,Nat.or_comm,<-Nat.two_pow_add_eq_or_of_lt (i:=52) O];omega
theorem ahQ(z:Int):i64.wrap (↑(BitVec.ofInt i64.bits z&&& BitVec.ofInt i64.bits (i64.wrap (i64.wrap (1*2^min (Int.toNat 11) i64.bits)-1))).toNat:Int)=(((z%18446744073709551616).toNat%2048:Nat):Int):=by
 have e1:i64.wrap (i64.wrap (1*2^min (Int.toNat 11) i64.bits)-1)=((2^11-1:Nat):Int):=by decide
 have a:=X2 z 11 (by decide);rw[e1];have b:(BitVec.ofInt i64.bits z&&& BitVec.ofInt i64.bits ((2^11-1:Nat):Int)).toNat=(z%18446744073709551616).toNat%2048:=a;rw[b];exact dw (i:=.i64) aC
theorem ahR(m:Nat):((i64.wrap (m:Int))%18446744073709551616).toNat%2048=m%2048:=by
 rw[IntKind.wrap_i64];omega
theorem ahO(n:Nat):(n:Int).fdiv (2^min (Int.toNat 52) u64.bits)=((n/4503599627370496:Nat):Int):=by
 rw[show min (Int.toNat 52) u64.bits=52 from rfl,Int.fdiv_eq_ediv_of_nonneg _ (by decide),show(2:Int)^52=4503599627370496 by decide];omega
theorem ahP(n:Nat):i64.wrap (↑(BitVec.ofInt i64.bits (i64.wrap ((n:Int).fdiv (2^min (Int.toNat 52) u64.bits)))&&& BitVec.ofInt i64.bits (i64.wrap (i64.wrap (1*2^min (Int.toNat 11) i64.bits)-1))).toNat:Int)=(nR n:Int):=by
 rw[ahQ,ahO,ahR];rfl
theorem ahS(n:Nat):u64.wrap (↑(BitVec.ofInt u64.bits (n:Int)&&& BitVec.ofInt u64.bits (u64.wrap (u64.wrap (1*2^min (Int.toNat 52) u64.bits)-1))).toNat:Int)=(px n:Int):=by
 have e1:u64.wrap (u64.wrap (1*2^min (Int.toNat 52) u64.bits)-1)=((2^52-1:Nat):Int):=by decide
 have a:=X2 (n:Int) 52 (by decide);rw[e1];have b:(BitVec.ofInt u64.bits (n:Int)&&& BitVec.ofInt u64.bits ((2^52-1:Nat):Int)).toNat=px n:=by{refine Eq.trans a ?_;unfold px;omega};rw[b];exact dw (i:=.u64) ⟨O,by unfold px;omega⟩
theorem ahU(h:a<4503599627370496):u64.wrap (↑(BitVec.ofInt u64.bits (a:Int)|||BitVec.ofInt u64.bits (u64.wrap (1*2^min (Int.toNat 52) u64.bits))).toNat:Int)=((a+4503599627370496:Nat):Int):=by
 rw[show u64.wrap (1*2^min (Int.toNat 52) u64.bits)=4503599627370496 by decide];have:(BitVec.ofInt u64.bits (a:Int)|||BitVec.ofInt u64.bits 4503599627370496).toNat=a+4503599627370496:=akG h;rw[this];exact dw (i:=.u64) aC
def sB(tb:Nat->Nat)(n:Nat):Int×Int:=tf tb (fc n*2^(64-Lib.bitLen (fc n))) (oJ n-(64-Lib.bitLen (fc n):Int)-52)
def vo(tb:Nat->Nat)(n:Nat):a_:=
 let q:=sB tb n
 sv (j_ n) (kE q.1.toNat (Lib.nDigits q.1.toNat) 32) (Lib.nDigits q.1.toNat+q.2) (kZ q.1.toNat (Lib.nDigits q.1.toNat) (Lib.nDigits q.1.toNat))
theorem Y_(f:∀i,tb i<18446744073709551616)(hp:∀i,i<696->9223372036854775808<=tb (i*2))(h:pW n):1<=(sB tb n).1/\(sB tb n).1<18446744073709551616/\ -400<=(sB tb n).2/\(sB tb n).2<=400:=by
 obtain⟨g,c,j,k,l,o⟩:=h.aas;obtain⟨p,q,d,e⟩:=Ye c O;have s:Lib.bitLen (fc n)<=53:=Lib.bitLen_le _ 53 O O;have a: -1137<=oJ n-(64-Lib.bitLen (fc n):Int)-52:=O;have b:oJ n-(64-Lib.bitLen (fc n):Int)-52<=960:=O;have r:=aoa (tb:=tb) (m:=fc n*2^(64-Lib.bitLen (fc n))) a b;exact⟨an9 d e a b f hp,r.1,r.2.1,r.2.2⟩
end
structure Dm where
 tb:Nat->Nat
 r:Row
 n:Nat
structure ow(tb:Nat->Nat)(F:ag):Prop where
 tx:jF F
 Jk:∀i,i<1392->aH F ⟨11,i,none⟩ (.int .u64 (tb i))
def ow.sub{tb:Nat->Nat}{A B:ag}(h:ow tb A)(hs:Sub A B):ow tb B:=⟨h.tx.sub hs,λi a=>(h.Jk i a).sub hs⟩
structure pl(tb:Nat->Nat):Prop where
 lt:∀i,tb i<18446744073709551616
 ge:∀i,i<696->9223372036854775808<=tb (i*2)
abbrev zd:aF where
 X:=Dm
 Y:=Row
 args x:=[Q x.r.a x.r.n x.r.aq,float f64 x.n,u 101,mN]
 pre x:=[x.r.A]
 cond x:=pl x.tb/\pW x.n/\bl 5 1 [] x.r
 aE x F:=ow x.tb F
 bS x y:=bl 5 1 (bJ (vo x.tb x.n)) y
 val _ y:=al (Q y.a y.n y.aq)
 post _ y:=[y.A]
def LM:∀(k u:Nat),u<10^(k+1)->Lib.nDigits u<=k+1
 |0,u,h=>by rw[Lib.nDigits_small (by simpa using h)];exact bK _
 |k+1,u,h=>by
  by_cases q:u<10;rw[Lib.nDigits_small q];omega;have:=LM k (u/10) (by rw[Nat.pow_succ]at h;omega);rw[Lib.nDigits_big q];omega
structure uU where
 neg:Bool
 e:Int
 m:Nat
 b:Nat
 vs:aN
 t:TypeId
def R7(x:Dm)(F:ag)(P:uU->Prop)(lv:uU->List (Nat×aD))(st:uU->List ag):Option Inv:=some {X:=uU,P:=P,mu:=λ_=>0,lv:=λd=>[(0,.slice x.r.a x.r.n x.r.aq),(2,.int .u8 101),(3,.int .i64 (-1)),(11,.int .i64 52),(12,.int .i64 (-1023)),(13,.bool d.neg),(14,.int .i64 d.e),(15,.int .u64 d.m)]++lv d,st:=st}
def ahN(x:Dm)(F:ag):Nat->Option Inv:=fun
 |22=>R7 x F (λd=>d.neg=j_ x.n/\d.e=(nR x.n:Nat)/\d.m=px x.n) (λ_=>[]) (λ_=>[x.r.A,F])
 |25=>R7 x F (λd=>d.neg=j_ x.n/\d.e+ -1023=oJ x.n/\d.m=fc x.n) (λ_=>[]) (λ_=>[x.r.A,F])
 |34=>R7 x F (λd=>d.neg=j_ x.n/\d.e=oJ x.n/\d.m=fc x.n/\GY d.vs) (λd=>[(16,.pointer (some ⟨d.b,0,none⟩))]) (λd=>[x.r.A,F,.cells d.b d.vs d.t])
 |_=>none
def Qp(c:Oper)(a:aN)(b:Int×Int->Prop):=cN prog c (oh i64 i64)/\∃(z:Int×Int),a=[Z z.fst,Z z.snd]/\0<=z.snd/\b z
abbrev NH(x:Dm)(F:ag):W6->Row->Prop:=λb a=>l zd x F (al (kq a)) [(0,a.A),(1,F)]
abbrev V0(w:Int×Int):=w.fst.fdiv ((2:Int)^min w.snd.toNat u64.bits)!=0
def Qq(a:Dm)(e1:ag)(c d e:aD)(b:St):=∃(z:uU),(z.neg=j_ a.n/\z.e+(-1023:Int)=oJ a.n/\z.m=fc a.n)/\(Q a.r.a a.r.n a.r.aq=Q a.r.a a.r.n a.r.aq/\u 101=u 101/\Z (-1)=Z (-1)/\Z 52=Z 52/\Z (-1023)=Z (-1023)/\c=H z.neg/\d=Z z.e/\e=T ↑z.m/\True)/\ay b [(0,a.r.A),(1,e1)]
def Qr:=dP 154 BG (λa=>bl 5 1 [] a.r/\a.ds.length=32/\a.nd<=20/\(-900:Int)<=a.dp/\a.dp<=900) (λa b=>cR b ⟨a.b,0,none⟩ (bJ a.ds)) (λa c=>bl 5 1 (bJ (sv a.neg a.ds a.dp a.nd)) c)
def Qs(c:Oper)(a:aN)(b:yB->Prop):=cN prog c (vc 32)/\∃(z:yB),a=[W (some z.a)]/\(z.a.off=0/\z.a.spot=none)/\b z
def ahV(x:Dm)(F:ag)(hc:zd.cond x)(N:zd.aE x F):aA ((11:Int)+52)/\wO (aL f123 13 4) [T ↑x.n,Z ((11:Int)+52)] (λw=>true=true/\wO (aL f123 14 2) [T ↑x.n,Z 52] (λv=>Qp (aL f123 14 5) [Z 1,Z 11] (λz=>qM (aL f123 15 2) [T 1,Z 52] (λt=>Qp (aL f123 16 2) [Z 1,Z 11] (λc=>Br (bR (↑(ib (bR (v.fst.fdiv ((2:Int)^min v.snd.toNat u64.bits)))&&& ib (bR (bR (z.fst*2^min z.snd.toNat i64.bits)-1))).toNat:Int)==bR (bR (c.fst*2^min c.snd.toNat i64.bits)-1)) (Br (aZ (↑(bU (x.n:Int)&&& bU (aZ (aZ (t.fst*2^min t.snd.toNat u64.bits)-1))).toNat:Int)!=0) (DH (aL f123 18 1) [Q x.r.a x.r.n x.r.aq,C ⟨#[78,97,78]⟩] [x.r.A] (NH x F)) (Br (V0 w) (DH (aL f123 20 1) [Q x.r.a x.r.n x.r.aq,C ⟨#[45,73,110,102]⟩] [x.r.A] (NH x F)) (DH (aL f123 21 1) [Q x.r.a x.r.n x.r.aq,C ⟨#[43,73,110,102]⟩] [x.r.A] (NH x F)))) (∃(a:uU),(a.neg=j_ x.n/\a.e=(↑(nR x.n):Int)/\a.m=px x.n)/\(Q x.r.a x.r.n x.r.aq=Q x.r.a x.r.n x.r.aq/\u 101=u 101/\Z (-1)=Z (-1)/\Z 52=Z 52/\Z (-1023)=Z (-1023)/\H (V0 w)=H a.neg/\Z (bR (↑(ib (bR (v.fst.fdiv ((2:Int)^min v.snd.toNat u64.bits)))&&& ib (bR (bR (z.fst*2^min z.snd.toNat i64.bits)-1))).toNat:Int))=Z a.e/\T (aZ (↑(bU (x.n:Int)&&& bU (aZ (aZ (t.fst*2^min t.snd.toNat u64.bits)-1))).toNat:Int))=T ↑a.m/\True)/\ay [(0,x.r.A),(1,F)] [(0,x.r.A),(1,F)]))/\aQ λ(s:uU)_=>(s.neg=j_ x.n/\s.e=(↑(nR x.n):Int)/\s.m=px x.n)->Br (s.e==0) (aA (s.e+1)/\Qq x F (H s.neg) (Z (s.e+1)) (T ↑s.m) [(0,x.r.A),(1,F)]) (qM (aL f123 24 2) [T 1,Z 52] (λb=>Qq x F (H s.neg) (Z s.e) (T (aZ (↑(bU (s.m:Int)|||bU (aZ (b.fst*2^min b.snd.toNat u64.bits))).toNat:Int))) [(0,x.r.A),(1,F)]))/\aQ λ(q:uU)_=>(q.neg=j_ x.n/\q.e+(-1023:Int)=oJ x.n/\q.m=fc x.n)->aA (q.e+(-1023:Int))/\Br ((q.m:Int)==0) (Qr [Q x.r.a x.r.n x.r.aq,H q.neg,Q none 0 0,Z 0,Z 0,Z (-1),u 101,H (decide ((-1:Int)<0))] [x.r.A] (g [(0,x.r.A),(1,F)] [0]) (λb a=>l zd x F (al (kq a)) [(0,a.A),(1,F)])) ((∀(b:Nat),∃(a:uU),(a.neg=j_ x.n/\a.e=oJ x.n/\a.m=fc x.n/\GY a.vs)/\(Q x.r.a x.r.n x.r.aq=Q x.r.a x.r.n x.r.aq/\u 101=u 101/\Z (-1)=Z (-1)/\Z 52=Z 52/\Z (-1023)=Z (-1023)/\H q.neg=H a.neg/\Z (q.e+(-1023:Int))=Z a.e/\T ↑q.m=T ↑a.m/\W (bq b)=W (some ⟨a.b,0,none⟩)/\True)/\ay [(0,x.r.A),(1,F),(5000,D b (List.replicate 31 (u 0)++[u 0]) 160)] [(0,x.r.A),(1,F),(2,D a.b a.vs a.t)])/\aQ λ(o:uU)_=>(o.neg=j_ x.n/\o.e=oJ x.n/\o.m=fc x.n/\GY o.vs)->Kx [T ↑o.m] (λm B=>aA ((64:Int)-(↑(Lib.bitLen m.u):Int))/\qM (aL f123 35 2) [T ↑o.m,Z ((64:Int)-(↑(Lib.bitLen m.u):Int))] (λk=>aA (o.e-((64:Int)-(↑(Lib.bitLen m.u):Int)))/\aA (o.e-((64:Int)-(↑(Lib.bitLen m.u):Int))-52)/\dP 164 ym (λj=>((9223372036854775808<=j.m/\j.m<18446744073709551616)/\((-1137:Int)<=j.e/\j.e<=960)/\∀(a:Nat),j.tb a<18446744073709551616)) (λj rr=>(∀(a:Nat),a<1392->aH rr ⟨11,a,none⟩ (T (↑(j.tb a):Int)))) (λj i=>tf j.tb j.m j.e=(i.d,i.p)) [T (aZ (k.fst*2^min k.snd.toNat u64.bits)),Z (o.e-((64:Int)-(↑(Lib.bitLen m.u):Int))-52)] ([]:List ag) (g [(0,x.r.A),(1,F),(2,D o.b o.vs o.t)] []) (λj i=>true=true/\Qs (aL f123 38 0) [W (some ⟨o.b,0,none⟩)] (λh=>bz 158 LL (λE=>1<=E.u/\E.u<18446744073709551616) (λ_=>jF) [T i.d] (g [(0,x.r.A),(1,F),(2,D o.b o.vs o.t)] []) (λE f=>dK 157 CR (λe=>GY e.vs/\e.n<=20/\e.u<Nat.pow 10 e.n/\e.u<18446744073709551616/\(-100000:Int)<=e.p/\e.p<=100000) [Q (some h.a) 32 32,T i.d,Z i.p,Z (↑(Lib.nDigits E.u):Int)] [D o.b o.vs o.t] (λe d=>aA ((↑(kZ e.u e.n e.n):Int)-1)/\Qs (aL f123 48 2) [W (some ⟨o.b,0,none⟩)] (λc=>Qr [Q x.r.a x.r.n x.r.aq,H o.neg,Q (some c.a) 32 32,Z (e.n+e.p),Z (↑(kZ e.u e.n e.n):Int),Z (if 0>(↑(kZ e.u e.n e.n):Int)-1 then (0:Int) else (↑(kZ e.u e.n e.n):Int)-1),u 101,H true] [x.r.A] (g [(0,x.r.A),(1,F),(2,D e.b (bJ (kE e.u e.n 32)) e.t)] [0]) (λb a=>l zd x F (al (kq a)) [(0,a.A),(1,F),(2,D e.b (bJ (kE e.u e.n 32)) e.t)]))))))))))))):=by
 delta wO Qp qM DH kq NH V0 Qq Qr bq Kx Qs g aA cG bz dK dP R4 Z u T C H W Q D bU ib aZ bR al aQ;obtain⟨P,r,n⟩:=x;obtain⟨M,R,X⟩:=hc;replace N:ow P F:=N;dsimp only at M R X⊢;obtain⟨a1,a2,a3,a4,a5,a6⟩:=R.aas;refine⟨⟨by decide,by decide⟩,yp rfl,((n:Int),11+52),rfl,(by decide:(0:Int)<=11+52),rfl,yp rfl,((n:Int),52),rfl,(by decide:(0:Int)<=52),o6 rfl,(1,11),rfl,(by decide:(0:Int)<=11),o6 rfl,(1,52),rfl,(by decide:(0:Int)<=52),⟨o6 rfl,(1,11),rfl,(by decide:(0:Int)<=11), ?_⟩, ?_⟩;dsimp only;rw[ahP,ahS];refine ar (λq=>?_) (λ_=>⟨⟨j_ n,(nR n:Nat),px n,0,[],0⟩,⟨rfl,rfl,rfl⟩,aU,ao [0,1]⟩);exfalso;rw[show i64.wrap (i64.wrap (1*2^min (Int.toNat 11) i64.bits)-1)=2047 by decide]at q;have:=eq_of_beq q;omega;rintro⟨L,e,m,b0,U,t0⟩ js ⟨J,I,K⟩;dsimp only at J I K;subst J I K;dsimp only;refine⟨ar (λq=>⟨aC,⟨j_ n,(nR n:Int)+1,px n,0,[],0⟩,⟨rfl, ?_, ?_⟩,aU,ao [0,1]⟩) (λq=>⟨o6 rfl,(1,52),rfl,(by decide:(0:Int)<=52),⟨j_ n,(nR n:Int),fc n,0,[],0⟩,⟨rfl, ?_,rfl⟩,⟨rfl,rfl,rfl,rfl,rfl,rfl,rfl, ?_,ai⟩,ao [0,1]⟩), ?_⟩;dsimp only;have:=eq_of_beq q;unfold oJ;rw[show(nR n==0)=true by rw[beq_iff_eq];omega,aW];omega;dsimp only;have:=eq_of_beq q;unfold fc;rw[show(nR n==0)=true by rw[beq_iff_eq];omega,aW];dsimp only;have:=fw.1 q;unfold oJ;rw[show(nR n==0)=false by rw[fw];omega,y];dsimp only;rw[ahU a6];have:=fw.1 q;unfold fc;rw[show(nR n==0)=false by rw[fw];omega,y];rintro⟨L,e,m,b0,U,t0⟩ js ⟨J,I,K⟩;dsimp only at J I K;subst J K;dsimp only;rw[I];refine⟨aC,ar (λq=>?_) (λ_=>⟨λb=>⟨⟨j_ n,oJ n,fc n,b,_,160⟩,⟨rfl,rfl,rfl,⟨rfl⟩⟩,aU,ao [0,1,5000]⟩, ?_⟩)⟩;exact absurd (eq_of_beq q) O;clear I e;rintro⟨L,e,m,b,vs,t⟩ js ⟨J,I,K,V⟩;dsimp only at J I K V;subst J I K;dsimp only;obtain⟨b1,b2,b3,b4⟩:=Ye a2 O;have b5:Lib.bitLen (fc n)<=53:=Lib.bitLen_le _ 53 O O;obtain⟨q1,q2,q3,q4⟩:=Y_ M.lt M.ge R;have em:u64.wrap ((fc n:Int)*2^min (64-(Lib.bitLen (fc n):Int)).toNat u64.bits)=((fc n*2^(64-Lib.bitLen (fc n)):Nat):Int):=by
  rw[show min (64-(Lib.bitLen (fc n):Int)).toNat u64.bits=64-Lib.bitLen (fc n) by
   show min (64-(Lib.bitLen (fc n):Int)).toNat 64=_;omega]
  have:((fc n:Int)*2^(64-Lib.bitLen (fc n)))=((fc n*2^(64-Lib.bitLen (fc n)):Nat):Int):=by{rw[Int.natCast_mul,Int.natCast_pow] <;> rfl};rw[this];exact dw (i:=.u64) aC
 refine bG Zs ⟨fc n⟩ bX λ_ _=>⟨rf,o6 rfl,((fc n:Int),64-(Lib.bitLen (fc n):Int)),rfl,bX,rf,rf,an_,rfl,⟨fc n*2^(64-Lib.bitLen (fc n)),oJ n-(64-(Lib.bitLen (fc n):Int))-52,P⟩,by dsimp only;rw[em],rfl,⟨⟨b3,b4⟩,rf,M.lt⟩,λi hi=>by exact aH.sub (A:=F) (jk 1 (by decide) rfl) (N.Jk i hi), ?_⟩;rintro⟨d,p⟩ (hy:sB P n=(d,p));rw[hy]at q1 q2 q3 q4;dsimp only at q1 q2 q3 q4⊢;obtain⟨z,rfl⟩:∃z:Nat,d=z:=⟨d.toNat,O⟩;have n1:=Lib.nDigits_pos z;have n2:=LM 19 z O;have n3:=Lib.lt_pow_nDigits z;have n4:=abA z (Lib.nDigits z) (Lib.nDigits z);refine⟨rfl,KL rfl rfl rfl rfl rfl,⟨⟨b,0,none⟩⟩,rfl,Y,aj8,rfl,⟨z⟩,rfl,rfl,rf,N.tx.sub (jk 1 (by decide) rfl),λ_ _=>bG anV ⟨t,vs,b,z,p,Lib.nDigits z⟩ ⟨V,n2,n3,bX,bX,bX⟩ λ_ _=>⟨rf,KL rfl rfl rfl rfl rfl,⟨⟨b,0,none⟩⟩,rfl,Y,ahx,rfl,⟨r,j_ n,b,kE z (Lib.nDigits z) 32,Lib.nDigits z+p,kZ z (Lib.nDigits z) (Lib.nDigits z)⟩, ?_,rfl,⟨X,YG O,bX,bX,bX⟩, ?_,λG S=>⟨G, ?_,rfl,ao [0,1]⟩⟩⟩;dsimp only;have:(if 0>((kZ z (Lib.nDigits z) (Lib.nDigits z):Nat):Int)-1 then (0:Int) else ((kZ z (Lib.nDigits z) (Lib.nDigits z):Nat):Int)-1)=((kZ z (Lib.nDigits z) (Lib.nDigits z)-1:Nat):Int):=by{split <;> omega};rw[this];exact cR.rest (j:=2) (by decide) (cR.cells λi w hw=>by rw[gZ];exact hw);show bl 5 1 (bJ (vo P n)) G;unfold vo;rw[hy];exact S
def ahT:aG 123 zd:=oI func123 (λ_ _=>[(9,1,F),(18,1,dU (tQ 5)),(20,1,dU (tQ 5)),(21,1,dU (tQ 5)),(31,6,q BG),(13,4,.qo (wg .u64 .i64)),(14,2,.qo (wg .u64 .i64)),(14,3,F),(14,5,.qo (oh .i64 .i64)),(14,6,F),(14,7,F),(15,2,.qo (oh .u64 .i64)),(15,3,F),(15,4,F),(16,2,.qo (oh .i64 .i64)),(16,3,F),(24,2,.qo (oh .u64 .i64)),(24,3,F),(33,0,.n 5000),(34,1,aI Hr),(35,2,.qo (oh .u64 .i64)),(37,4,aI ym),(38,0,.qo (vc 32)),(38,4,aI LL),(38,5,.c CR [2] [2]),(48,2,.qo (vc 32)),(48,7,q BG)]) ahN ahV
structure JC where
 tb:Nat->Nat
 n:Nat
abbrev vk:aF where
 X:=JC
 args x:=[float f64 x.n,u 101,mN,Z 64]
 cond x:=pl x.tb/\pW x.n
 aE x F:=ow x.tb F
 val x _:=al (C (cF (vo x.tb x.n)))
abbrev uA(c:Row):aN:=[Q c.a c.n c.aq]
def ahA(x:JC)(F:ag)(m:vk.cond x)(o:vk.aE x F):aA ((-1:Int)+4)/\T3 (aL f101 4 3) [Z 0,Z (if (24:Int)>(-1:Int)+4 then (24:Int) else (-1:Int)+(4:Int))] (λf e=>dP 123 zd (λd=>pl d.tb/\pW d.n/\bl 5 1 [] d.r) (λd p=>ow d.tb p) (λd c=>bl 5 1 (bJ (vo d.tb d.n)) c) [Q (bq e) f.n.toNat f.c.toNat,float f64 x.n,u 101,Z (-1)] [D e (ij [u 0] f.c.toNat) 5] (g [(0,F),(5000,D e (ij [u 0] f.c.toNat) 5)] [5000]) (λd c=>T7 (aL f101 4 8) (uA c) (g [(0,F),(5000,c.A)] []) (λb a=>l vk x F (al (C (cF b.l))) [(0,F),(5000,c.A)]))):=by
 delta T3 bq T7 uA g aA dP zb vn Z u C Q D al;obtain⟨k,n⟩:=x;obtain⟨h,i⟩:=m;dsimp only at h i⊢;refine⟨⟨by decide,by decide⟩,Eo (P:=prog) [.int .u8 0] 1 rfl rfl rfl rfl rfl rfl X rfl,rfl,⟨0,24⟩,rfl,rfl,⟨cH _,by decide,by decide,by decide⟩,ai,λb _=>ba ahT ⟨k,⟨some ⟨b,0,none⟩,0,24,.cells b (ij [.int .u8 0] 24) 5⟩,n⟩ ⟨h,i,.ft b 0 24 (ij [.int .u8 0] 24) rfl rfl (by decide)⟩ (by exact o.sub (jk 0 (by decide) rfl)) λy j=>ba (G1 rfl rfl rfl rfl) ⟨y.a,y.n,y.aq,vo k n⟩ j.af (CP 5000 (by decide) rfl j) λ_ _=>iy⟩
def ahz:aG 101 vk:=cY func101 [(4,3,.o (vz 5 [.int .u8 0] 1) [] [5000]),(4,7,.c zd [5000] [5000]),(4,8,.o yS [] [])] ahA
def ahC(x:JC)(F:ag)(c:vk.cond x)(d:vk.aE x F):bz 101 vk (λb=>pl b.tb/\pW b.n) (λb e=>ow b.tb e) [float f64 x.n,u 101,Z (-1),Z 64] (cO F) (λb a=>l vk x F (al (C (cF (vo b.tb b.n)))) [(0,F)]):=by
 delta cO g bz Z u C al;exact ba ahz ⟨x.tb,x.n⟩ c (by exact ow.sub d (jk 0 (by decide) rfl)) λ_ _=>iy
def ahB:aG 63 vk:=cY func63 [(1,4,aI vk)] ahC
section
structure Xj where
 l:aN
abbrev BX:aF where
 X:=Xj
 args x:=x.l
 cond _:=False
 bS _ _:=False
 val _ _:=panicked []
abbrev Ep:aF where
 X:=yG
 args x:=[T x.u,T x.v]
 cond x:=x.u<18446744073709551616/\x.v<18446744073709551616
 val x _:=.returned (.tuple #[.int .u64 (x.u*x.v/18446744073709551616:Nat),.int .u64 (x.u*x.v%18446744073709551616:Nat)])
def ajU(x:yG)(F:ag)(c:Ep.cond x)(d:Ep.aE x F):GO [T ↑x.u,T ↑x.v] (λb a=>l Ep x F (al (tuple ⟨[T (↑(b.u*b.v/18446744073709551616):Int),T (↑(b.u*b.v%18446744073709551616):Int)]⟩)) [(0,F)]):=by
 delta GO cG T al;exact bG Ss ⟨x.u,x.v⟩ c λ_ _=>iy
def ajT:aG 129 Ep:=cY func129 [(3,2,aI Em)] ajU
def Am(c:UInt8):List UInt8:=[c,c,c,c,c,c,c,c,c,c,c,c,c,c,c,c,c,c,c,c,c,c,c,c,c,c,c,c,c,c,c,c,c,c,c,c,c,c,c,c,c,c,c,c,c,c,c,c,c,c,c,c,c,c,c,c,c,c,c,c,c,c,c,c]
def aqq:ah:=⟨#[48,48,48,48,48,48,48,48,48,48,48,48,48,48,48,48,48,48,48,48,48,48,48,48,48,48,48,48,48,48,48,48,48,48,48,48,48,48,48,48,48,48,48,48,48,48,48,48,48,48,48,48,48,48,48,48,48,48,48,48,48,48,48,48]⟩
def qp(n:Nat):ah:=bif n==0 then ⟨#[]⟩ else bif n==1 then ⟨#[48]⟩ else aqq.extract 0 n
def I2(n:Nat)(h:n<=21):(qp n).size<=21:=by
 unfold qp;cases n==0 with
 |true=>exact b7 21
 |false=>
  rw[y];cases n==1 with
  |true=>show(ByteArray.mk #[48]).size<=21;decide
  |false=>
   rw[y,iA];omega
structure HnX where
 a:ah
abbrev Eb(b:Bool):aF where
 X:=HnX
 args x:=[.string x.a,.string ⟨#[48]⟩]
 cond x:=iR x.a ⟨#[48]⟩=b
 val _ _:=al (H b)
def R_(b:Bool):aG 56 (Eb b):=BH.view (λx=>⟨x.a,⟨#[48]⟩⟩) (λ_=>rfl) (λ_=>rfl) (λ_ _=>ai) (λ_ _ _ _=>ai) (λx _ a _=>⟨(),ai,by show returned (.bool (iR x.a ⟨#[48]⟩))=_;rw[show iR x.a ⟨#[48]⟩=b from a] <;> rfl,rfl⟩)
structure Dx where
 n:Nat
abbrev wa:aF where
 X:=Dx
 args x:=[.string ⟨#[48]⟩,.int .i64 x.n]
 cond x:=x.n<=21
 val x _:=al (C (qp x.n))
abbrev Fw:=al (C ⟨#[48]⟩)
abbrev uy:ah:=ByteArray.mk #[48]
abbrev Ik(h:yG):=decide ((↑(h.u*h.v%18446744073709551616):Int)<=128)
def Qt:=cG 56 (Eb false) (λa=>iR a.a uy=false)
abbrev Ic(h:yG):=decide ((↑(h.u*h.v%18446744073709551616):Int)<=64)
def Xz:=cG 56 (Eb true) (λa=>iR a.a uy=true)
abbrev Oi:ah:=ByteArray.mk (Am 48).toArray
def Nn(h:yG)(x:Dx)(F:ag):=Xz [C Oi,C ⟨#[48]⟩] (λb a=>((0:Int)<=0/\0<=(↑(h.u*h.v%18446744073709551616):Int)/\(↑(h.u*h.v%18446744073709551616):Int)<=(↑Oi.size:Int))/\l wa x F (al (C (Oi.extract (Int.toNat (0:Int)) (↑(h.u*h.v%18446744073709551616):Int).toNat))) [(0,F)])
def Qu:=vm 56 BX (λ_=>False) (λ_ _=>False)
abbrev Is(x:Dx)(F:ag):Xj->ax->Prop:=λb a=>l wa x F (panicked []) [(0,F)]
def Qv(a:Oper):=Lg a BX (λ_=>False) (λ_ _=>False)
def Mh(h:yG)(x:Dx)(F:ag):=Br (Ik h) (Qu [C (ByteArray.mk ((Am 61).append (Am 61)).toArray),C ⟨#[48]⟩] (Is x F)) (Br (Ic h) (Qu [C (ByteArray.mk (Am 9).toArray),C ⟨#[48]⟩] (Is x F)) (aK ((↑(h.u*h.v%18446744073709551616):Int)>8192) ((↑uy.size:Int)≠(0:Int)/\aA (Int.tdiv (8192:Int) (↑uy.size:Int))/\aA (Int.tdiv (8192:Int) (↑uy.size:Int)*(↑uy.size:Int))/\Qv ⟨some 9,Op.alloc 104,0,"strings.go:657",⟨[]⟩,none⟩ [] (Is x F)) (Qv ⟨some 9,Op.alloc 104,0,"strings.go:657",⟨[]⟩,none⟩ [] (Is x F))))
def Um(h:yG)(x:Dx)(F:ag):=Qt [C (ByteArray.mk ((Am 45).append (Am 45)).toArray),C ⟨#[48]⟩] (λd c=>Br (Ic h) (Nn h x F) (Mh h x F))
def anH(x:Dx)(F:ag)(c:wa.cond x)(k:wa.aE x F):Br ((x.n:Int)==0) (l wa x F zY [(0,F)]) (Br ((x.n:Int)==1) (l wa x F Fw [(0,F)]) ((0<=(↑uy.size:Int)/\(↑uy.size:Int)<=18446744073709551615)/\(0<=(x.n:Int)/\(x.n:Int)<=18446744073709551615)/\cG 129 Ep (λh=>h.u<18446744073709551616/\h.v<18446744073709551616) [T (↑uy.size:Int),T ↑x.n] (λh g=>aK ((↑(h.u*h.v/18446744073709551616):Int)>0) False (aK ((↑(h.u*h.v%18446744073709551616):Int)>9223372036854775807) False (aA (↑(h.u*h.v%18446744073709551616):Int)/\((0:Int)<=0/\0<(↑uy.size:Int))/\Br (Ik h) (Qt [C (ByteArray.mk ((Am 32).append (Am 32)).toArray),C ⟨#[48]⟩] (λf e=>Br (Ik h) (Um h x F) (Br (Ic h) (Nn h x F) (Mh h x F)))) (Br (Ik h) (Um h x F) (Br (Ic h) (Nn h x F) (Mh h x F)))))))):=by
 delta zY Fw uy Ik Qt Ic Xz Oi Nn Qu Is Qv Mh Um aA cG vm Lg T C aK al;obtain⟨n⟩:=x;have j:n<=21:=c;dsimp only;refine ar (λq=>⟨(),ai, ?_,ao [0]⟩) (λq=>ar (λq2=>⟨(),ai, ?_,ao [0]⟩) (λq2=>⟨⟨by decide,by decide⟩,aC,ajT,rfl,⟨1,n⟩,rfl,rfl,⟨(by grind),bX⟩,ai,λ_ _=>?_⟩));have:n=0:=by have:=eq_of_beq q;omega
 subst this;rfl;have:n=1:=by have:=eq_of_beq q2;omega
 subst this;rfl;have d:n≠0:=by have:=fw.1 q;omega
 have i:n≠1:=by have:=fw.1 q2;omega
 dsimp only;have e1:1*n/18446744073709551616=0:=O;have a:1*n%18446744073709551616=n:=O;rw[e1,a];refine bd (λq=>absurd q (by decide)) (λ_=>bd (λq=>absurd q O) (λ_=>⟨aC,⟨by decide,by decide⟩,bd (λ_=>⟨R_ false,rfl,⟨_⟩,rfl,rfl,by decide+kernel,ai,λ_ _=>bd (λ_=>⟨R_ false,rfl,⟨_⟩,rfl,rfl,by decide+kernel,ai,λ_ _=>bd (λ_=>⟨R_ true,rfl,⟨_⟩,rfl,rfl,by decide+kernel,ai,λ_ _=>⟨⟨by decide,O, ?_⟩,(),ai, ?_,ao [0]⟩⟩) (λq=>absurd O q)⟩) (λq=>absurd O q)⟩) (λq=>absurd O q)⟩));exact Int.le_trans (b:=64) O (by decide);show _=returned (.string (qp n));unfold qp;rw[fw.2 d,fw.2 i];rfl
def aa0:aG 104 wa:=cY func104 [(8,2,.ck),(8,4,.ck),(8,5,aI Ep),(11,1,.ck),(20,4,aI (Eb false)),(22,4,aI (Eb false)),(24,4,aI (Eb true)),(26,4,aI BX),(28,4,aI BX),(35,0,.o BX [] []),(25,1,.sl)] anH
def xq(ds:ah):ah:=ds.extract 0 1++(bif decide ((ds.size:Int)>1) then ⟨#[46]⟩++ds.extract 1 ds.size else ⟨#[]⟩)
def uf(ds:ah)(n:Int):ah:=bif decide (n-1<0) then xq ds++⟨#[101,45]⟩++⟨(Lib.itoa (1-n)).toArray⟩ else xq ds++⟨#[101,43]⟩++⟨(Lib.itoa (n-1)).toArray⟩
def kP(ds:ah)(n:Int):ah:=
 bif decide ((ds.size:Int)<=n)&&decide (n<=21) then ds++qp (n-ds.size).toNat
 else bif decide (0<n)&&decide (n<=21) then ds.extract 0 n.toNat++⟨#[46]⟩++ds.extract n.toNat ds.size
 else bif decide (-6<n)&&decide (n<=0) then ⟨#[48,46]⟩++qp (-n).toNat++ds
 else uf ds n
structure yE where
 ds:ah
 n:Int
abbrev zj:aF where
 X:=yE
 args x:=[C x.ds,Z x.n]
 cond x:=1<=x.ds.size/\x.ds.size<=1000/\ -1000<=x.n/\x.n<=1000
 aE _ F:=jF F
 val x _:=al (C (kP x.ds x.n))
variable{p q:Prop}
theorem RA[Decidable p][Decidable q]{A B:Prop}(d:p->q->A)(c:¬(p/\q)->B):Br (decide p) (Br (decide q) A B) B:=bd (λa=>bd (λb=>d a b) (λb=>c (λe=>b e.2))) (λa=>c (λe=>a e.1))
theorem Rr[Decidable p][Decidable q](h:¬(p/\q)):(decide p&&decide q)=false:=by
 grind
theorem Lx{n:Int}(a: -2000<=n)(b:n<=2000):(ByteArray.mk (Lib.itoa n).toArray).size<=5:=by
 show(Lib.itoa n).toArray.size<=5;rw[List.size_toArray];have key:∀u:Nat,u<=2000->(Lib.decDigits u).length<=4:=λu c=>by{rw[Lib.decDigits_eq,List.length_map,List.length_range];exact LM 3 u O};unfold Lib.itoa;grind
theorem ZB(ds:ah):(xq ds).size<=2*ds.size+1:=by
 unfold xq;have a:(ds.extract 0 1).size<=ds.size:=by rw[iA];omega
 cases decide ((ds.size:Int)>1)with
 |true=>
  rw[aW,ie,ie,@ByteArray.size_extract ds 1 ds.size];show _+(1+_)<=_;omega
 |false=>
  rw[y,ie];show _+0<=_;omega
theorem ajj{ds:ah}{n:Int}(d:ds.size<=1000)(e: -1000<=n)(f:n<=1000):(kP ds n).size<=4000:=by
 have g:=ZB ds;unfold kP;by_cases a:(ds.size:Int)<=n/\n<=21;rw[bp a.1,bp a.2];show(ds++qp (n-ds.size).toNat).size<=4000;have:=I2 (n-ds.size).toNat O;grind;rw[Rr a,y];by_cases b:0<n/\n<=21;rw[bp b.1,bp b.2];show(ds.extract 0 n.toNat++⟨#[46]⟩++ds.extract n.toNat ds.size).size<=4000;rw[ie,ie,iA,iA];show _+1+_<=_;omega;rw[Rr b,y];by_cases c: -6<n/\n<=0;rw[bp c.1,bp c.2];show(⟨#[48,46]⟩++qp (-n).toNat++ds).size<=4000;have:=I2 (-n).toNat O;rw[ie,ie];show 2+_+_<=_;omega;rw[Rr c,y];unfold uf;cases decide (n-1<0)with
 |true=>
  rw[aW,ie,ie];have:=Lx (n:=1-n) O O;show _+2+_<=_;omega
 |false=>
  rw[y,ie,ie];have:=Lx (n:=n-1) O O;show _+2+_<=_;omega
def aji(x:yE)(F:ag):Nat->Option Inv:=fun
 |8=>some {X:=ax,P:=λ_=>kP x.ds x.n=uf x.ds x.n,mu:=λ_=>0,lv:=λ_=>[(0,C x.ds),(1,Z x.n),(5,Z (x.ds.size:Nat))],st:=λ_=>[F]}
 |11=>some {X:=ah,P:=λd=>kP x.ds x.n=uf x.ds x.n/\d=xq x.ds,mu:=λ_=>0,lv:=λd=>[(1,Z x.n),(6,C d)],st:=λ_=>[F]}
 |_=>none
def Qw:=cG 104 wa (λa=>a.n<=21)
abbrev zZ:ah:=ByteArray.mk #[46]
def Qx(a:yE)(e1:ag)(b:St):=∃(z:ax),kP a.ds a.n=uf a.ds a.n/\(C a.ds=C a.ds/\Z a.n=Z a.n/\Z ↑a.ds.size=Z ↑a.ds.size/\True)/\ay b [(0,e1)]
def S4(x:yE)(F:ag):=aK ((-6:Int)<x.n) (aK (x.n<=0) (Qw [C ⟨#[48]⟩,Z (bR ((0:Int)-x.n))] (λb a=>2+(qp b.n).size<=9223372036854775807/\((ByteArray.mk #[48,46])++qp b.n).size+x.ds.size<=9223372036854775807/\l zj x F (al (C ((ByteArray.mk #[48,46])++qp b.n++x.ds))) [(0,F)])) (Qx x F [(0,F)])) (Qx x F [(0,F)])
def TA(x:yE)(F:ag):=aK (0<x.n) (aK (x.n<=21) (true=true/\((0:Int)<=0/\0<=x.n/\x.n<=x.ds.size)/\(x.ds.extract (Int.toNat (0:Int)) x.n.toNat).size+1<=9223372036854775807/\(0<=x.n/\x.n<=x.ds.size/\(x.ds.size:Int)<=(x.ds.size:Int))/\(x.ds.extract (Int.toNat (0:Int)) x.n.toNat++zZ).size+(x.ds.extract x.n.toNat (x.ds.size:Int).toNat).size<=9223372036854775807/\l zj x F (al (C (x.ds.extract (Int.toNat (0:Int)) x.n.toNat++zZ++x.ds.extract x.n.toNat (x.ds.size:Int).toNat))) [(0,F)]) (S4 x F)) (S4 x F)
def Qy(a:yE)(e1:ag)(c:aD)(b:St):=∃(z:ah),(kP a.ds a.n=uf a.ds a.n/\z=xq a.ds)/\(Z a.n=Z a.n/\c=C z/\True)/\ay b [(0,e1)]
def Qz:=bz 105 Hl (λa=>(-9223372036854775808:Int)<=a.i/\a.i<=9223372036854775807) (λ_=>jF)
abbrev Iy(b:wH):ah:=ByteArray.mk (Lib.itoa b.i).toArray
theorem ajl(x:yE)(F:ag)(s:zj.cond x)(h:zj.aE x F):aK (x.ds.size<=x.n) (aK (x.n<=21) (aA (x.n-x.ds.size)/\Qw [C ⟨#[48]⟩,Z (x.n-x.ds.size)] (λb a=>x.ds.size+(qp b.n).size<=9223372036854775807/\l zj x F (al (C (x.ds++qp b.n))) [(0,F)])) (TA x F)) (TA x F)/\aQ λ(f:ax)_=>kP x.ds x.n=uf x.ds x.n->((0:Int)<=0/\(0:Int)<=1/\1<=(x.ds.size:Int))/\aK ((x.ds.size:Int)>1) (((0:Int)<=1/\1<=(x.ds.size:Int)/\(x.ds.size:Int)<=(x.ds.size:Int))/\1+(x.ds.extract (Int.toNat (1:Int)) (x.ds.size:Int).toNat).size<=9223372036854775807/\(x.ds.extract (Int.toNat (0:Int)) (Int.toNat (1:Int))).size+(zZ++x.ds.extract (Int.toNat (1:Int)) (x.ds.size:Int).toNat).size<=9223372036854775807/\Qy x F (C (x.ds.extract (Int.toNat (0:Int)) (Int.toNat (1:Int))++(zZ++x.ds.extract (Int.toNat (1:Int)) (x.ds.size:Int).toNat))) [(0,F)]) (Qy x F (C (x.ds.extract (Int.toNat (0:Int)) (Int.toNat (1:Int)))) [(0,F)])/\aQ λ(d:ah)_=>(kP x.ds x.n=uf x.ds x.n/\d=xq x.ds)->aA (x.n-1)/\aK (x.n-1<(0:Int)) (d.size+2<=9223372036854775807/\aA ((1:Int)-x.n)/\Qz [Z ((1:Int)-x.n)] (cO F) (λb a=>(d++(ByteArray.mk #[101,45])).size+(Iy b).size<=9223372036854775807/\l zj x F (al (C (d++(ByteArray.mk #[101,45])++(Iy b)))) [(0,F)])) (d.size+2<=9223372036854775807/\aA (x.n-1)/\Qz [Z (x.n-1)] (cO F) (λb a=>(d++(ByteArray.mk #[101,43])).size+(Iy b).size<=9223372036854775807/\l zj x F (al (C (d++(ByteArray.mk #[101,43])++(Iy b)))) [(0,F)])):=by
 delta Qw zZ Qx S4 TA Qy Qz cO Iy g aA cG bz Z C bR aK al aQ;obtain⟨c,n⟩:=x;obtain⟨m,o,p,r⟩:=s;replace h:jF F:=h;dsimp only at m o p r⊢;have z:=ZB c;have j:∀a b:Nat,(c.extract a b).size<=1000:=λa b=>by rw[iA];omega
 have k:((c.size:Nat):Int).toNat=c.size:=cy _;rw[k];refine⟨RA (λa b=>⟨aC,aa0,rfl,⟨(n-c.size).toNat⟩, ?_,rfl,by grind,ai,λ_ _=>⟨?_,(),ai, ?_,ao [0]⟩⟩) (λu=>RA (λa b=>⟨rfl,⟨by decide,O,O⟩, ?_,⟨O,O,O⟩, ?_,(),ai, ?_,ao [0]⟩) (λv=>RA (λa b=>⟨aa0,rfl,⟨(-n).toNat⟩, ?_,rfl,by grind,ai,λ_ _=>⟨?_, ?_,(),ai, ?_,ao [0]⟩⟩) (λw=>⟨(), ?_,aU,ao [0]⟩))), ?_⟩;grind;have:=I2 (n-c.size).toNat O;grind;show _=returned (.string (kP c n));unfold kP;simp[*];grind;have q1:=j (Int.toNat 0) n.toNat;have q2:=j n.toNat c.size;rw[ie];show _+1+_<=_;omega;show _=returned (.string (kP c n));unfold kP;grind;rw[dw (i:=.i64) (n:=0-n) aC,show 0-n=(((-n).toNat:Nat):Int) by omega];have:=I2 (-n).toNat O;grind;have:=I2 (-n).toNat O;dsimp only;rw[ie];show 2+_+_<=_;omega;show _=returned (.string (kP c n));unfold kP;grind;show kP c n=uf c n;unfold kP;grind;rintro _ t e;refine⟨⟨by decide,by decide,O⟩,⟨bd (λq=>⟨⟨by decide,O,O⟩, ?_, ?_,_,⟨e, ?_⟩,aU,ao [0]⟩) (λq=>⟨_,⟨e, ?_⟩,aU,ao [0]⟩), ?_⟩⟩;grind;have q1:=j (Int.toNat 0) (Int.toNat 1);have q2:=j (Int.toNat 1) c.size;rw[ie];show _+(1+_)<=_;omega;unfold xq;simp[*];unfold xq;rw[bF q,y];exact(ByteArray.append_empty (b:=c.extract 0 1)).symm;rintro d t ⟨-,rfl⟩;refine⟨aC,bd (λq=>⟨O,aC,Zl,rfl,⟨1-n⟩,rfl,rfl,⟨by grind,by grind⟩,by exact h.sub (jk 0 (by decide) rfl),λ_ _=>⟨?_,(),ai, ?_,ao [0]⟩⟩) (λq=>⟨O,aC,Zl,rfl,⟨n-1⟩,rfl,rfl,⟨by grind,by grind⟩,by exact h.sub (jk 0 (by decide) rfl),λ_ _=>⟨?_,(),ai, ?_,ao [0]⟩⟩)⟩;have:=Lx (n:=1-n) O O;rw[ie];show _+2+(ByteArray.mk (Lib.itoa (1-n)).toArray).size<=_;omega;show _=returned (.string (kP c n));rw[e];unfold uf;simp[*];have:=Lx (n:=n-1) O O;rw[ie];show _+2+(ByteArray.mk (Lib.itoa (n-1)).toArray).size<=_;omega;show _=returned (.string (kP c n));rw[e];unfold uf;simp[*]
theorem ajk:aG 65 zj:=oI func65 (λ_ _=>[(3,4,aI wa),(7,2,aI wa),(7,1,F),(12,4,aI Hl),(13,4,aI Hl)]) aji ajl
end
section
def Ze(c:UInt8)(b:List UInt8):∀a:List UInt8,c∉a->Lib.index (a++c::b) [c]=a.length
 | [],_=>by
  show Lib.index (c::b) [c]=0;unfold Lib.index;rw[if_pos (by simp[List.isPrefixOf])]
 |x::a,h=>by
  have d:c≠x:=λe=>h (e▸kJ);have f:=Ze c b a (λe=>h (nP _ e));show Lib.index (x::(a++c::b)) [c]=_;unfold Lib.index;rw[if_neg (by simp[List.isPrefixOf,d]),f];have:((a.length:Int)== -1)=false:=by rw[fw];omega
  rw[this];simp
def agf(c:UInt8)(a b:List UInt8)(h:c∉a):Lib.cut (a++c::b) [c]=(a,b,true):=by
 unfold Lib.cut;rw[Ze c b a h,if_pos (Int.natCast_nonneg _),cy,List.take_left' rfl];simp[*]
def ank(c:UInt8)(l:List UInt8):(Lib.replace l [c] [] 1).length<=l.length/\(l≠[]->l≠[c]->1<=(Lib.replace l [c] [] 1).length):=by
 unfold Lib.replace;rw[if_neg X];have U:Lib.replaceNum l [c] 1=0\/Lib.replaceNum l [c] 1=1:=by{unfold Lib.replaceNum;grind};rcases U with U|U;rw[U];show l.length<=l.length/\(l≠[]->l≠[c]->1<=l.length);exact⟨bK _,λh _=>by cases l with|nil=>exact absurd rfl h|cons x l=>simp⟩;rw[U,Lib.replaceK];by_cases a:(Lib.index l [c]== -1)=true;rw[if_pos a];exact⟨bK _,λh _=>by cases l with|nil=>exact absurd rfl h|cons x l=>simp⟩;rw[if_neg a];have g:=Lib.index_ge l [c];have b:Lib.index l [c]≠-1:=λe=>a (by rw[e] <;> rfl);have d:=Lib.index_room l [c] O;have e1:[c].length=1:=rfl;rw[e1]at d⊢;show(l.take (Lib.index l [c]).toNat++[]++l.drop ((Lib.index l [c]).toNat+1)).length<=_/\_;rw[dQ,eH,List.length_take,List.length_drop];refine⟨O,λh f=>?_⟩;cases l with
 |nil=>exact absurd rfl h
 |cons x l=>
  cases l with
  |nil=>
   exfalso;by_cases i:x=c;grind;apply b;unfold Lib.index;rw[if_neg (by grind)];rfl
  |cons y l=>
   rw[Lib.replaceK];grind
def nV(neg:Bool)(ds:a_)(nd:Nat):a_:=eF neg++[ey ds nd]++gF ds nd
def oF(dp:Int)(nd:Nat):a_:=nL (eb dp nd)::nM (eb dp nd).natAbs
def gB(l:a_):List UInt8:=l.map λn=>UInt8.ofNat n
def ahv(neg:Bool)(ds:a_)(dp:Int)(nd:Nat):(cF (sv neg ds dp nd)).data.toList=gB (nV neg ds nd)++101::gB (oF dp nd):=by
 unfold cF gB sv nV oF;simp
def Gd(ds:a_):Prop:=∀b∈ds,b=0\/(48<=b/\b<=57)
def agG(u n z:Nat):Gd (kE u n z):=by
 unfold kE tV;intro b a;grind
variable{neg:Bool}{dp:Int}{ds:a_}{n nd:Nat}{tb:Nat->Nat}
theorem YZ(h:Gd ds)(nd:Nat):ey ds nd=0\/(48<=ey ds nd/\ey ds nd<=57):=by
 unfold ey;cases nd==0 with
 |true=>exact .inr ⟨(by simp[*]),(by decide:48<=57)⟩
 |false=>
  rw[y];cases ds with
  |nil=>exact .inl rfl
  |cons x l=>exact h x kJ
theorem ajP(h:Gd ds)(nd:Nat):∀b∈nV neg ds nd,b≠101/\b<256:=by
 unfold nV;intro b a;rcases List.mem_append.1 a with a|a;rcases List.mem_append.1 a with a|a;unfold eF at a;grind;rw[List.mem_singleton]at a;have:=YZ h nd;omega;unfold gF at a;cases c:decide (nd>1)with
 |false=>rw[c]at a;cases a
 |true=>
  rw[c,aW]at a;rcases List.mem_cons.1 a with a|a;omega;have:=h b (List.mem_of_mem_take (List.mem_of_mem_drop a));omega
theorem ajO(h:Gd ds)(nd:Nat):(101:UInt8)∉gB (nV neg ds nd):=by
 intro d;obtain⟨b,c,e⟩:=List.mem_map.1 d;have f:=ajP h nd b c;have a:=congrArg UInt8.toNat e;rw[UInt8.toNat_ofNat']at a;grind
theorem ajR(c:ds.length=32):1<=(gB (nV neg ds nd)).length/\(gB (nV neg ds nd)).length<=34:=by
 obtain⟨a,b⟩:=Y1 neg ds nd c;unfold gB nV;grind
theorem ajQ(h:Gd ds):gB (nV neg ds nd)≠[46]:=by
 intro e;have a:=congrArg List.length e;unfold gB nV at a;rw[List.length_map,eH,eH,zc]at a;have d:([46]:List UInt8).length=1:=rfl;rw[d]at a;have e1:eF neg=[]:=List.eq_nil_of_length_eq_zero O;have c:gF ds nd=[]:=List.eq_nil_of_length_eq_zero O;unfold gB nV at e;rw[e1,c]at e;have e:[UInt8.ofNat (ey ds nd)]=[46]:=e;have b:=congrArg UInt8.toNat (List.cons.inj e).1;rw[UInt8.toNat_ofNat']at b;have:(46:UInt8).toNat=46:=rfl;rw[this]at b;have:=YZ h nd;omega
theorem Y0(n:Nat):2<=(nM n).length/\(nM n).length<=3:=by
 unfold nM;cases decide (n<10)with
 |true=>exact⟨(by simp[*]),(by decide:2<=3)⟩
 |false=>
  rw[y];cases decide (n<100)with
  |true=>exact⟨(by decide:2<=2),(by decide:2<=3)⟩
  |false=>exact⟨(by decide:2<=3),(by decide:3<=3)⟩
theorem aht(a: -900<=dp)(b:dp<=900):(eb dp nd).natAbs<=999:=by
 unfold eb;grind
theorem afJ(l:List UInt8)(i:Nat):B ⟨⟨l⟩⟩ (i:Nat)=((l.getD i 0).toNat:Int):=by
 rfl
theorem ag4(b: -900<=dp)(c:dp<=900):wF ⟨⟨gB (oF dp nd)⟩⟩:=by
 have d:=aht (nd:=nd) b c;obtain⟨x1,x2⟩:=Y0 (eb dp nd).natAbs;have e:=ahw d;have g:(ByteArray.mk ⟨gB (oF dp nd)⟩).size=(nM (eb dp nd).natAbs).length+1:=by{show(gB (oF dp nd)).length=_;unfold gB oF;simp[*]};have f:((ByteArray.mk ⟨gB (oF dp nd)⟩).extract 1 (ByteArray.mk ⟨gB (oF dp nd)⟩).size)=⟨⟨gB (nM (eb dp nd).natAbs)⟩⟩:=by{apply ByteArray.ext;apply Array.ext';rw[Hb];rfl};refine⟨O,O, ?_,λi a=>?_⟩;have:B ⟨⟨gB (oF dp nd)⟩⟩ 0=((UInt8.ofNat (nL (eb dp nd))).toNat:Int):=rfl;rw[this];unfold nL;cases decide (eb dp nd<0)with
 |true=>right;decide
 |false=>left;decide
 rw[f]at a⊢;have a:i<(gB (nM (eb dp nd).natAbs)).length:=a;rw[afJ];unfold gB at a⊢;rw[List.length_map]at a;rw[eG,fZ,da a];have:=e _ (List.getElem_mem a);show 48<=((UInt8.ofNat (nM (eb dp nd).natAbs)[i]).toNat:Int)/\((UInt8.ofNat (nM (eb dp nd).natAbs)[i]).toNat:Int)<=57;rw[UInt8.toNat_ofNat'];omega
theorem ae8(t:ah)(h:∀i:Nat,i<t.size->48<=B t i/\B t i<=57):∀i,i<=t.size->0<=mW t i/\mW t i<10^i:=by
 intro i
 induction i with
 |zero=>intro _;exact⟨cH 0,by show(0:Int)<10^0;decide⟩
 |succ i c=>
  intro d;obtain⟨a,b⟩:=c O;have:=h i O;rw[mW,Int.pow_succ];omega
theorem ae_{s:ah}(h:wF s)(hs:s.size<=4): -999<=mX s/\mX s<=999:=by
 have e:(s.extract 1 s.size).size=s.size-1:=by simp[*]
 have d:=h.lo;obtain⟨a,b⟩:=ae8 _ h.h8 (s.size-1) O;have c:(10:Int)^(s.size-1)<=1000:=by{have a:10^(s.size-1)<=10^3:=pw (by decide) O;grind};unfold mX;grind
def sy(tb:Nat->Nat)(n:Nat):ah:=cF (vo tb n)
def ao4:ah:=⟨#[101]⟩
def Pd(tb:Nat->Nat)(n:Nat):List UInt8×List UInt8×Bool:=tU (sy tb n) ao4
def wq(tb:Nat->Nat)(n:Nat):ah:=⟨(Pd tb n).1.toArray⟩
def o9(tb:Nat->Nat)(n:Nat):ah:=⟨(Pd tb n).2.1.toArray⟩
def yr(tb:Nat->Nat)(n:Nat):ah:=⟨(IZ ⟨wq tb n,⟨#[46]⟩,⟨#[]⟩,1⟩).toArray⟩
def Jo(tb:Nat->Nat)(n:Nat):ah:=kP (yr tb n) (mX (o9 tb n)+1)
def qt(tb:Nat->Nat)(n:Nat):ah:=bif cq .neq n n then ⟨#[78,97,78]⟩ else bif cq .eql n 0 then ⟨#[48]⟩ else bif t7 n then ⟨#[73,110,102,105,110,105,116,121]⟩ else Jo tb n
def o8(tb:Nat->Nat)(n:Nat):ah:=bif cq .neq n n then ⟨#[78,97,78]⟩ else bif cq .eql n 0 then ⟨#[48]⟩ else bif cq .lss n 0 then ⟨#[45]⟩++qt tb (Op.negFloat .f64 n) else bif t7 n then ⟨#[73,110,102,105,110,105,116,121]⟩ else Jo tb n
structure aew(tb:Nat->Nat)(n:Nat):Prop where
 fs:(sy tb n).size<=100
 ms:(wq tb n).size<=100
 xo:wF (o9 tb n)
 xl: -999<=mX (o9 tb n)/\mX (o9 tb n)<=999
 dl:1<=(yr tb n).size
 dh:(yr tb n).size<=1000
theorem WM(o:pl tb)(h:pW n):aew tb n:=by
 obtain⟨q1,q2,q3,q4⟩:=Y_ o.lt o.ge h;obtain⟨u,s⟩:∃u:Nat,(sB tb n).1=u:=⟨(sB tb n).1.toNat,O⟩;have v:=Lib.nDigits_pos u;have w:=LM 19 u O;have g:vo tb n=sv (j_ n) (kE u (Lib.nDigits u) 32) (Lib.nDigits u+(sB tb n).2) (kZ u (Lib.nDigits u) (Lib.nDigits u)):=by{unfold vo;simp[*]};have a: -900<=((Lib.nDigits u:Nat):Int)+(sB tb n).2:=O;have b:((Lib.nDigits u:Nat):Int)+(sB tb n).2<=900:=O;have d:=agG u (Lib.nDigits u) 32;have c:(kE u (Lib.nDigits u) 32).length=32:=YG O;generalize kE u (Lib.nDigits u) 32=ds at g d c;generalize ((Lib.nDigits u:Nat):Int)+(sB tb n).2=dp at g a b;generalize kZ u (Lib.nDigits u) (Lib.nDigits u)=nd at g;have e1:(sy tb n).data.toList=gB (nV (j_ n) ds nd)++101::gB (oF dp nd):=by{unfold sy;rw[g];exact ahv _ _ _ _};have k:Pd tb n=(gB (nV (j_ n) ds nd),gB (oF dp nd),true):=by{unfold Pd tU;rw[e1];exact agf _ _ _ (ajO d nd)};obtain⟨p,t⟩:=ajR (neg:=j_ n) (nd:=nd) c;obtain⟨x1,x2⟩:=Y0 (eb dp nd).natAbs;have m:o9 tb n=⟨⟨gB (oF dp nd)⟩⟩:=by unfold o9;rw[k]
 have l:wq tb n=⟨⟨gB (nV (j_ n) ds nd)⟩⟩:=by unfold wq;rw[k]
 have j:(o9 tb n).size<=4:=by{rw[m];show(gB (oF dp nd)).length<=4;unfold gB oF;simp[*]};have f:wF (o9 tb n):=by rw[m];exact ag4 a b
 have r:=ank 46 (gB (nV (j_ n) ds nd));have q:(yr tb n).size=(Lib.replace (gB (nV (j_ n) ds nd)) [46] [] 1).length:=by{unfold yr IZ;rw[l];rfl};refine⟨?_, ?_,f,ae_ f j, ?_, ?_⟩;have i:(sy tb n).size=(sy tb n).data.toList.length:=by simp
 rw[i,e1,eH,kI];have:(gB (oF dp nd)).length<=4:=by{unfold gB oF;simp[*]};omega;rw[l];show(gB (nV (j_ n) ds nd)).length<=100;omega;rw[q];exact r.2 (λe=>by rw[e]at p;exact absurd p (by decide)) (ajQ d);omega
theorem abJ(a:pl tb)(h:pW n):(Jo tb n).size<=4000:=by
 have:=WM a h;exact ajj this.dh (by have:=this.xl;omega) (by have:=this.xl;omega)
theorem LZ(m:Nat)(i j:Int):((Ieee.Datum.number false m i).order (.number false 0 j)==some .lt)=false:=by
 unfold Ieee.Datum.order;dsimp only;generalize (i-min i j).toNat=a;generalize (j-min i j).toNat=b;have c:0<=Ieee.signed false m a:=by{unfold Ieee.signed;grind};have d:Ieee.signed false 0 b=0:=by unfold Ieee.signed;simp
 grind
theorem ZV(h:cq .lss n 0=true):cq .lss (Op.negFloat .f64 n) 0=false:=by
 have d:f64.format.read 0= .number false 0 Ieee.double.leastPlace:=by rfl
 have f:Op.negFloat .f64 n%9223372036854775808=n%9223372036854775808:=by{show(n^^^2^63)%9223372036854775808=_;rw[show(9223372036854775808:Nat)=2^63 by decide,Nat.xor_mod_two_pow,Nat.mod_self,Nat.xor_zero]};have e:(Op.negFloat .f64 n/9223372036854775808)%2=1-n/9223372036854775808%2:=by{show((n^^^2^63)/9223372036854775808)%2=_;rw[show(9223372036854775808:Nat)=2^63 by decide,<-Nat.shiftRight_eq_div_pow,Nat.shiftRight_xor_distrib,<-Nat.shiftRight_eq_div_pow,show 2^63>>>63=1 by omega];generalize n>>>63=m;have:=Nat.mod_two_eq_zero_or_one m;have i:(m^^^1)%2=(m%2)^^^1:=by{have:=Nat.xor_mod_two_pow (a:=m) (b:=1) (n:=1);omega};grind};unfold cq Ieee.Format.order at h⊢;dsimp only at h⊢;rw[d]at h⊢;have g:∀x,f64.format.read x=Ieee.double.read x:=λ_=>rfl;rw[g]at h⊢;unfold Ieee.Format.read at h⊢;dsimp only at h⊢;rw[C2]at h⊢;rw[f,e];generalize n%9223372036854775808=r at h⊢;generalize j:n/9223372036854775808%2=s at h⊢;have c:s=0\/s=1:=O;rcases c with rfl|rfl;exfalso;revert h;rw[show((0:Nat)==1)=false from rfl];split;exact λh=>by rw[LZ]at h;cases h
 split;exact λh=>by rw[LZ]at h;cases h
 split;exact λh=>by cases h
 exact λh=>by cases h
 rw[show((1-1:Nat)==1)=false from rfl];split;exact LZ _ _ _;split;exact LZ _ _ _;split <;> rfl
end
section
variable{n:Nat}
theorem anh(h:n%9223372036854775808=0):∃s,f64.format.read n= .number s 0 Ieee.double.leastPlace:=by
 refine⟨n/9223372036854775808%2==1, ?_⟩;show Ieee.double.read n=_;unfold Ieee.Format.read;rw[C2,h];rfl
theorem ane(h:n%9223372036854775808=9218868437227405312):∃s,f64.format.read n= .infinity s:=by
 refine⟨n/9223372036854775808%2==1, ?_⟩;show Ieee.double.read n=_;unfold Ieee.Format.read;rw[C2,h];rfl
theorem anf(h:9218868437227405312<n%9223372036854775808):∃s k,f64.format.read n= .nan s k:=by
 refine⟨n/9223372036854775808%2==1,n%9223372036854775808-9218868437227405312, ?_⟩;show Ieee.double.read n=_;unfold Ieee.Format.read;rw[C2];have a:Ieee.double.binade=4503599627370496:=by decide+kernel
 have b:Ieee.double.infRung=9218868437227405312:=by decide+kernel
 rw[a,b,if_neg O,if_neg O,if_neg O]
theorem Li(b:cq .neq n n=false)(c:cq .eql n 0=false)(d:cq .lss n 0=false)(f:t7 n=false):pW n:=by
 have g:f64.format.read 0= .number false 0 Ieee.double.leastPlace:=by decide+kernel
 refine⟨Nat.pos_of_ne_zero λe=>?_,Nat.lt_of_not_le λe=>?_⟩;obtain⟨s,a⟩:=anh e;unfold cq Ieee.Format.order at c;rw[a,g]at c;cases s <;> exact absurd c (by decide+kernel);rcases Nat.lt_or_eq_of_le e with e|e;obtain⟨s,k,a⟩:=anf e;unfold cq Ieee.Format.order at b;rw[a]at b;cases b;obtain⟨s,a⟩:=ane e.symm;cases s with
 |true=>
  unfold cq Ieee.Format.order at d;rw[a,g]at d;exact absurd d (by decide+kernel)
 |false=>
  unfold t7 cq Ieee.Format.order at f;rw[a]at f;exact absurd f (by decide+kernel)
abbrev RX:aF where
 X:=JC
 Y:=ah
 args x:=[float f64 x.n,u 101,mN,Z 64]
 cond x:=pl x.tb/\pW x.n
 aE x F:=ow x.tb F
 bS x y:=y=sy x.tb x.n
 val _ y:=al (C y)
theorem Y2:aG 63 RX:=ahB.view (λx=>x) (λ_=>rfl) (λ_=>rfl) (λ_ h=>h) (λ_ _ _ h=>h) (λx _ _ _=>⟨_,rfl,rfl,rfl⟩)
structure acm where
 m:ah
 x:ah
 b:Bool
abbrev RI:aF where
 X:=W_
 Y:=acm
 args x:=[C x.s,C x.t]
 cond x:=x.s.size<4294967281
 aE _ F:=jF F
 bS x y:=y=⟨⟨(tU x.s x.t).1.toArray⟩,⟨(tU x.s x.t).2.1.toArray⟩,(tU x.s x.t).2.2⟩
 val _ y:=.returned (.tuple #[.string y.m,.string y.x,.bool y.b])
theorem Yx:aG 62 RI:=age.view (λx=>x) (λ_=>rfl) (λ_=>rfl) (λ_ h=>h) (λ_ _ _ h=>h) (λx _ _ _=>⟨_,rfl,rfl,rfl⟩)
abbrev Rs:aF where
 X:=bN
 Y:=Int
 args x:=[C x.s]
 cond x:=wF x.s
 bS x y:=y=mX x.s
 val _ y:=.returned (.tuple #[.int .i64 y,.nilIface])
theorem X4:aG 64 Rs:=ae4.view (λx=>x) (λ_=>rfl) (λ_=>rfl) (λ_ h=>h) (λ_ _ _ h=>h) (λx _ _ _=>⟨_,rfl,rfl,rfl⟩)
abbrev Wl:aF where
 X:=PI
 Y:=ah
 args x:=[C x.s,C x.t,C x.u,Z x.n]
 cond x:=x.s.size<4294967281/\1<=x.t.size/\x.s.size+Lib.countB x.s x.t*x.u.size<=140737488355328
 aE _ F:=jF F
 bS x y:=y=⟨(IZ x).toArray⟩
 val _ y:=al (C y)
theorem aaS:aG 66 Wl:=anB.view (λx=>x) (λ_=>rfl) (λ_=>rfl) (λ_ h=>h) (λ_ _ _ h=>h) (λx _ _ _=>⟨_,rfl,rfl,rfl⟩)
abbrev Sq:aF where
 X:=yE
 Y:=ah
 args x:=[C x.ds,Z x.n]
 cond x:=1<=x.ds.size/\x.ds.size<=1000/\ -1000<=x.n/\x.n<=1000
 aE _ F:=jF F
 bS x y:=y=kP x.ds x.n
 val _ y:=al (C y)
theorem ZA:aG 65 Sq:=ajk.view (λx=>x) (λ_=>rfl) (λ_=>rfl) (λ_ h=>h) (λ_ _ _ h=>h) (λx _ _ _=>⟨_,rfl,rfl,rfl⟩)
abbrev Sh:aF where
 X:=Pz
 Y:=Bool
 args x:=[float f64 x.f,Z 1]
 bS x y:=y=t7 x.f
 val _ y:=al (H y)
theorem Zg:aG 61 Sh:=aiq.view (λx=>x) (λ_=>rfl) (λ_=>rfl) (λ_ h=>h) (λ_ _ _ h=>h) (λx _ _ _=>⟨_,rfl,rfl,rfl⟩)
end
section
def oL(n:Nat):aM:=(List.range n).map Int.ofNat
structure bM(ae:Int)(s:ap)(os:aM):Prop where
 rn:(s.a.flatMap (·.b)++os).Perm (oL s.a.length)
 X5:os.Pairwise (·<·)
 b:∀(i:Nat)(x:aR),s.a[i]?=some x->x.b.Pairwise (·<·)/\∀k∈x.b,k<(i:Int)
 au:∀x∈s.a,0<=x.au/\x.au<=ae
variable{b:Bool}{t:ah}{x:aR}{k:Int}{tag:aj}{Q:ax->ap->Prop}
theorem Sg{n:Nat}(h:k∈oL n):0<=k/\k<n:=by
 obtain⟨i,a,rfl⟩:=List.mem_map.1 h;grind
theorem bM.gK{ae:Int}{s:ap}{os:aM}(h:bM ae s os)(U:k∈os):0<=k/\k<s.a.length:=
 Sg (h.rn.mem_iff.1 (List.mem_append_right _ U))
theorem bM.same{ae:Int}{s t:ap}{os:aM}(h:bM ae s os)(e:t.a=s.a):bM ae t os:=
 ⟨by rw[e];exact h.rn,h.X5,by rw[e];exact h.b,by rw[e];exact h.au⟩
theorem bM.cast{ae:Int}{s:ap}{os a:aM}(h:bM ae s os)(e:os=a):bM ae s a:=e▸h
theorem bM.node{ae:Int}{s:ap}{os:aM}(h:bM ae s (os++x.b))(hp:0<=x.au/\x.au<=ae):bM ae {s with a:=s.a++[x]} (os++[(s.a.length:Int)]):=by
 obtain⟨g,j,o⟩:=List.pairwise_append.1 h.X5;refine⟨?_, ?_,λi y c=>?_,λy c=>?_⟩;rw[eH,zc];unfold oL;rw[List.range_succ,List.map_append,List.flatMap_append,<-jJ];refine List.Perm.append ?_ (List.Perm.refl _);refine List.Perm.trans ?_ h.rn;grind;refine List.pairwise_append.2 ⟨g,X,λa m b f=>?_⟩;rw[List.mem_singleton]at f;rw[f];exact(h.gK (ra _ m)).2;rcases Nat.lt_or_ge i s.a.length with d|d;rw[m5 d]at c;exact h.b i y c;rw[lQ d]at c;obtain⟨n,e⟩:=ic.1 c;simp only[zc]at n;have l:i=s.a.length:=O;subst l;simp at e;subst e;exact⟨j,λk U=>(h.gK (List.mem_append_right _ U)).2⟩;rcases List.mem_append.1 c with c|c;exact h.au y c;grind
theorem bM.uj{ae:Int}{s:ap}{os:aM}(h:bM ae s os)(U:k∈os):0<=dG s k/\dG s k<=ae:=by
 obtain⟨b,c⟩:=h.gK U;unfold dG;obtain⟨x,a⟩:∃x,s.a[k.toNat]?=some x:=⟨_,da O⟩;rw[a];exact h.au x (iz a)
def WP{α:Type}(ae:Int)(m:j α)(s:ap)(Q:α->ap->Prop):Prop:=
 match m s with
 | .ok a t=>Q a t
 | .stop p _ _=>0<=p/\p<=ae
 | .out=>True
section
variable{α β:Type}{ae:Int}{s:ap}
theorem WP.bind{m:j α}{f:α->j β}{Q:β->ap->Prop}(h:WP ae m s λa t=>WP ae (f a) t Q):WP ae (m>>=f) s Q:=by
 show WP ae (bP m f) s Q;unfold WP bP at*;grind
theorem WP.ret{a:α}{Q:α->ap->Prop}(h:Q a s):WP ae (ret a) s Q:=h
theorem WP.mono{m:j α}{Q R:α->ap->Prop}(h:WP ae m s Q)(k:∀a t,Q a t->R a t):WP ae m s R:=by
 unfold WP at*;grind
theorem WP.bif{m n:j α}{Q:α->ap->Prop}(a:b=true->WP ae m s Q)(c:b=false->WP ae n s Q):WP ae (bif b then m else n) s Q:=by
 grind
theorem WP.step(h:Q () {s with i:=s.i+1}):WP ae fh s Q:=h
theorem WP.get{Q:ap->ap->Prop}(h:Q s s):WP ae fd s Q:=h
theorem WP.set{t:ap}(h:Q () t):WP ae (jU t) s Q:=h
theorem WP.node{Q:Int->ap->Prop}(h:Q s.a.length {s with a:=s.a++[x]}):WP ae (dX x) s Q:=h
theorem WP.fz{Q:Int->ap->Prop}(h:Q (dG s k) s):WP ae (fz k) s Q:=h
variable{L:List a8}
structure gr(L:List a8)(ae:Int):Prop where
 f0:0<=ae
 all:∀x∈L,0<=x.au/\x.au<=ae
theorem kN(h:gr L ae)(s:ap):0<=(I L ae s).au/\(I L ae s).au<=ae:=by
 unfold I;cases a:L[s.i]? with
 |none=>exact⟨h.f0,cH _⟩
 |some x=>exact h.all x (iz a)
theorem WP.cE{Q:a8->ap->Prop}(h:Q (I L ae s) s):WP ae (gk L ae) s Q:=h
theorem WP.e_(h:gr L ae){Q:α->ap->Prop}:WP ae (ju L ae) s Q:=kN h s
theorem WP.cK{Q:Bool->ap->Prop}(a:K L s 0 t=true->Q true {s with i:=s.i+1})(b:K L s 0 t=false->Q false s):WP ae (cT L t) s Q:=by
 unfold WP cT;grind
theorem WP.cC(h:gr L ae)(a:Q () {s with i:=s.i+1}):WP ae (cu L ae t) s Q:=by
 unfold WP cu;cases K L s 0 t with
 |true=>exact a
 |false=>exact kN h s
theorem WP.t_{a:Nat}{Q:Bool->ap->Prop}(h:Q (K L s a t) s):WP ae (jM L a t) s Q:=h
theorem WP.oS(hp:0<=dG s k/\dG s k<=ae)(h:Q () s):WP ae (mD k b) s Q:=by
 unfold WP mD;grind
theorem WP.word(h:gr L ae){Q:ah->ap->Prop}(a:Q (I L ae s).aJ {s with i:=s.i+1}):WP ae (iM L ae) s Q:=by
 unfold WP iM;cases (I L ae s).ak !=1 with
 |true=>exact kN h s
 |false=>exact a
theorem GX(h:gr L ae)(a:∀t:ap,t.a=s.a->Q () t):WP ae (eh L ae) s Q:=by
 unfold WP eh;cases K L s 0 dt with
 |true=>exact a _ rfl
 |false=>
  cases K L s 0 rc||(decide (s.i>=L.length)||(I L ae s).aB)with
  |true=>exact a _ rfl
  |false=>exact kN h s
end
def aj.dW:aj->aM
 | .ig _ left=>[left]
 | .eX k=>[k]
 | .eV l| .de l| .dr l| .ed l| .gQ l _| .eO l| .fk l _| .fM l| .prog l=>l
 |_=>[]
def aj.BP:aj->Bool
 | .eV _| .de _| .dr _| .ed _| .gQ _ _| .eO _| .fk _ _| .fM _=>true
 |_=>false
section
variable{ae:Int}{L:List a8}{s:ap}{os:aM}
def d_(ae:Int)(os:aM)(tag:aj)(ks:aM)(t:ap):Prop:=bM ae t (os++ks)/\(tag.BP=false->∃k,ks=[k])
theorem WP.ga(h:bM ae s (os++x.b))(hp:0<=x.au/\x.au<=ae):WP ae (cj x) s (d_ ae os tag):=by
 exact⟨h.node hp,λ_=>⟨_,rfl⟩⟩
theorem WP.one{m:j (aM)}(c:tag.BP=false)(h:WP ae m s (d_ ae os tag)){Q:Int->ap->Prop}(k:∀k t,bM ae t (os++[k])->Q k t):WP ae (one m) s Q:=by
 refine WP.bind (h.mono λd t b=>?_);obtain⟨a,rfl⟩:=b.2 c;exact k a t b.1
theorem WP.empty(h:gr L ae)(a:bM ae s os){Q:Int->ap->Prop}(k:∀k t,bM ae t (os++[k])->Q k t):WP ae (kF L ae) s Q:=by
 refine WP.bind (WP.cE (WP.node (k _ _ ?_)));exact bM.node (a.cast (dQ _).symm) (kN h s)
theorem WP.key(h:gr L ae){aO:Nat->ah}{wide:ah->ah}(c:bM ae s os){Q:Int->ap->Prop}(k:∀k t,bM ae t (os++[k])->Q k t):WP ae (ec L ae aO wide) s Q:=by
 have hp:=kN h s;have a:∀b:ah,Q s.a.length {s with i:=s.i+1,a:=s.a++[⟨2,b,0,[],(I L ae s).au⟩]}:=λb=>by{refine k _ _ ?_;exact bM.node (s:={s with i:=s.i+1}) ((c.same (t:={s with i:=s.i+1}) rfl).cast (dQ _).symm) hp};unfold WP ec;dsimp only;cases (I L ae s).ak==1||(I L ae s).ak==2 with
 |true=>exact a _
 |false=>
  cases (I L ae s).ak==3 with
  |true=>exact a _
  |false=>
   rw[y];cases (I L ae s).ak==4 with
   |true=>exact a _
   |false=>exact hp
end
end
end Go.Proofs.YthhiffpfleacaaaGreatDoor
