/- A part of the proof that pennantlaw07.PrintSpread answers true at every input. -/
import Derived.Test.YthhiffpfleacaaaGreatDoorPPac
set_option linter.all false
namespace Go.Proofs.YthhiffpfleacaaaGreatDoor
set_option maxRecDepth 100000
open Go.Value (int slice string bool pointer agg tuple func float iface nilIface)
open Go.IntKind (i64 u8 u64 i32 u32 u16 i8 i16)
open Go.FloatKind (f64)
open Go.Ending (returned panicked)
open Go.Proofs.Tryz
section
def Lh:a_:=[4607182418800017408,4621819117588971520,4636737291354636288,4652007308841189376,4666723172467343360,4681608360884174848,4696837146684686336,4711630319722168320,4726483295884279808,4741671816366391296,4756540486875873280,4771362005757984768,4786511204640096256,4801453603149578240,4816244402031689728,4831355200913801216,4846369599423283200,4861130398305394688,4876203697187506176,4891288408196988160,4906019910204099648,4921056587992461136,4936209963552724370]
def nQ(i:Nat):Nat:=Lh.getD i 0
def Mb:a_:=[1,3,6,9,13,16,19,23,26]
def rv(i:Nat):Nat:=Mb.getD i 0
structure rT(F:ag)(b:Nat)(t:TypeId):Prop where
 h:∀(I:aX)(m:Hp)(o:wJ),Gc I m->F.holds I m o->∃vs:Array aD,m b=some (.cells vs t (0,0))
variable{A B:ag}
theorem rT.sub{b:Nat}{t:TypeId}(h:rT A b t)(hs:Sub A B):rT B b t:=⟨λI m o d c=>let ⟨e,a⟩:=hs I m o c;h.h I m e d a⟩
structure io(tb:Nat->Nat)(lc:Nat->Nat×ah)(F:ag):Prop where
 pow:∀i,i<1392->aH F ⟨11,i,none⟩ (.int .u64 (tb i))
 i0:aH F ⟨14,0,none⟩ (.int .u64 52)
 i1:aH F ⟨14,1,none⟩ (.int .u64 11)
 i2:aH F ⟨14,2,none⟩ (.int .i64 (-1023))
 opt:aH F ⟨5,0,none⟩ (.bool true)
 bi:rT F 14 237
 bj:rT F 13 237
 fp:∃b o c,aH F ⟨19,0,none⟩ (.slice (some ⟨b,o,none⟩) 23 c)/\∀i,i<23->aH F ⟨b,o+i,none⟩ (.float .f64 (nQ i))
 pt:∃b o c,aH F ⟨18,0,none⟩ (.slice (some ⟨b,o,none⟩) 9 c)/\∀i,i<9->aH F ⟨b,o+i,none⟩ (.int .i64 (rv i))
 lc:∃b o c,aH F ⟨12,0,none⟩ (.slice (some ⟨b,o,none⟩) 61 c)/\∀i,i<61->aH F ⟨b,o+i*2,none⟩ (.int .i64 (lc i).1)/\aH F ⟨b,o+i*2+1,none⟩ (.string (lc i).2)
theorem io.sub{tb:Nat->Nat}{lc:Nat->Nat×ah}(h:io tb lc A)(hs:Sub A B):io tb lc B:=
 ⟨λi a=>(h.pow i a).sub hs,h.i0.sub hs,h.i1.sub hs,h.i2.sub hs,h.opt.sub hs,h.bi.sub hs,h.bj.sub hs,
  let ⟨b,o,c,e,d⟩:=h.fp;⟨b,o,c,e.sub hs,λi a=>(d i a).sub hs⟩,
  let ⟨b,o,c,e,d⟩:=h.pt;⟨b,o,c,e.sub hs,λi a=>(d i a).sub hs⟩,
  let ⟨b,o,c,e,d⟩:=h.lc;⟨b,o,c,e.sub hs,λi a=>⟨(d i a).1.sub hs,(d i a).2.sub hs⟩⟩⟩
structure pS where
 m:Nat
 e:Int
 n:Bool
 tb:Nat->Nat
 lc:Nat->Nat×ah
def j6(x:pS):Nat:=bif x.n then Op.negFloat .f64 (f64.nearest x.m) else f64.nearest x.m
def DU(x:pS):Nat×Int:=bif decide (x.e>22) then ((nN .mul (j6 x) (nQ (x.e-22).toNat)).getD 0,22) else (j6 x,x.e)
def vb(p:Nat×Int):Nat×Bool:=bif cq .gtr p.1 4831355200913801216 then (p.1,false) else bif cq .lss p.1 14054727237768577024 then (p.1,false) else ((nN .mul p.1 (nQ p.2.toNat)).getD 0,true)
def r_(x:pS):Nat×Bool:=bif decide (x.e<0) then bif decide (x.e>= -22) then ((nN .quo (j6 x) (nQ (-x.e).toNat)).getD 0,true) else (j6 x,false) else (j6 x,false)
def mU(x:pS):Nat×Bool:=
 bif (x.m:Int).fdiv (2^min (Int.toNat 52) u64.bits)!=0 then (0,false)
 else bif x.e==0 then (j6 x,true)
 else bif decide (x.e>0) then bif decide (x.e<=37) then vb (DU x) else r_ x
 else r_ x
theorem R6:∀i,i<23->JD (nQ i):=by
 have h:∀i:Fin 23,(match Ieee.double.read (nQ i.val)with| .number _ m _=>decide (m≠0)|_=>false)=true:=by decide+kernel
 intro i a;have:=h ⟨i,a⟩;revert this;unfold JD;grind
theorem aeP(x:pS):NN (j6 x):=by
 unfold j6;cases x.n with
 |true=>exact akl (Z0 _)
 |false=>exact Z0 _
abbrev sa:aF where
 X:=pS
 args x:=[T x.m,Z x.e,H x.n]
 cond x:= -100000<=x.e/\x.e<=100000
 aE x F:=io x.tb x.lc F
 val x _:=.returned (.tuple #[.float .f64 (mU x).1,.bool (mU x).2])
structure wE where
 f:Nat
 e:Int
def aeO(x:pS)(F:ag):Nat->Option Inv:=fun
 |5=>some {X:=wE,P:=λd=>d.f=j6 x/\(mU x=bif x.e==0 then (j6 x,true) else bif decide (x.e>0) then bif decide (x.e<=37) then vb (DU x) else r_ x else r_ x),mu:=λ_=>0,lv:=λd=>[(1,Z x.e),(6,float f64 d.f),(7,cM)],st:=λ_=>[F]}
 |11=>some {X:=wE,P:=λd=>0<=d.e/\d.e<=22/\NN d.f/\mU x=vb (d.f,d.e),mu:=λ_=>0,lv:=λd=>[(1,Z d.e),(6,float f64 d.f),(7,cM)],st:=λ_=>[F]}
 |_=>none
abbrev mI:=T 52
def DO(c:Oper)(a:aN)(b:Nat->Prop):=cN prog c D_/\∃(z:Nat),a=[float f64 z]/\True/\b z
def Ug(z:wE)(a:pS):=z.f=j6 a/\(mU a=bif a.e==0 then (j6 a,true) else bif decide (a.e>0) then bif decide (a.e<=37) then vb (DU a) else r_ a else r_ a)
def Q_(a:pS)(e1:ag)(c:aD)(b:St):=∃(z:wE),Ug z a/\(Z a.e=Z a.e/\c=float f64 z.f/\H false=H false/\True)/\ay b [(0,e1)]
def dN(d:ag)(e:Addr)(f:bv->Nat->Nat->Prop):=∃(a:bv),∃(b:Nat),∃(c:Nat),aH d e (Q a b c)/\f a b c
def lO(b:ag)(c:Addr)(d:Nat->Prop):=∃(a:Nat),aH b c (float f64 a)/\d a
abbrev oZ(z:Nat×Nat):aN:=[float f64 z.fst,float f64 z.snd]
def Ra(c:Oper)(a:aN)(b:Nat×Nat->Prop):=cN prog c (tX BinOp.mul)/\∃(z:Nat×Nat),a=(oZ z)/\(nN BinOp.mul z.fst z.snd).isSome=true/\b z
def Rb(a:pS)(e1:ag)(c d:aD)(b:St):=∃(z:wE),(0<=z.e/\z.e<=22/\NN z.f/\mU a=vb (z.f,z.e))/\(c=Z z.e/\d=float f64 z.f/\H false=H false/\True)/\ay b [(0,e1)]
def KB(c:Oper)(a:aN)(b:Nat×Nat->Prop):=cN prog c (iO BinOp.gtr)/\∃(z:Nat×Nat),a=(oZ z)/\True/\b z
def Ie(x:pS)(F:ag)(a:wE):=l sa x F (al (tuple ⟨[float f64 a.f,H false]⟩)) [(0,F)]
def DP(c:Oper)(a:aN)(b:Nat×Nat->Prop):=cN prog c (iO BinOp.lss)/\∃(z:Nat×Nat),a=(oZ z)/\True/\b z
def XQ(c:Oper)(a:aN)(b:Nat×Nat->Prop):=cN prog c (tX BinOp.quo)/\∃(z:Nat×Nat),a=(oZ z)/\(nN BinOp.quo z.fst z.snd).isSome=true/\b z
def Wa(x:pS)(F:ag)(g:wE):=aK (x.e<0) (aK (x.e>=(-22:Int)) (dN F ⟨19,0,none⟩ (λf e d=>b9 (aL f229 14 4) [Q f e d,Z (bR ((0:Int)-x.e))] (λc=>lO F ⟨c.b,c.o+c.n.toNat*1,none⟩ (λb=>XQ (aL f229 14 6) [float f64 g.f,float f64 b] (λa=>l sa x F (al (tuple ⟨[float f64 ((nN BinOp.quo a.fst a.snd).getD 0),H true]⟩)) [(0,F)]))))) (Ie x F g)) (Ie x F g)
theorem aeR(x:pS)(F:ag)(V:sa.cond x)(G:sa.aE x F):aH F ⟨14,0,none⟩ mI/\Br ((x.m:Int).fdiv ((2:Int)^min (Int.toNat (52:Int)) u64.bits)!=0) (l sa x F zC [(0,F)]) (cN prog (aL f229 2 1) (Lt u64)/\∃(m:Int),[T ↑x.m]=[T m]/\True/\Br x.n (DO ⟨some 17,Op.unOp UnOp.neg 32 (Operand.tmp 16),32,"atof.go:443",⟨[⟨0,Ground.data⟩]⟩,none⟩ [float f64 (f64.nearest m)] (λb=>Q_ x F (float f64 (Op.negFloat f64 b)) [(0,F)])) (Q_ x F (float f64 (f64.nearest m)) [(0,F)])/\aQ λ(k:wE)_=>Ug k x->Br (x.e==0) (l sa x F (al (tuple ⟨[float f64 k.f,H true]⟩)) [(0,F)]) (aK (x.e>0) (aK (x.e<=37) (aK (x.e>22) (dN F ⟨19,0,none⟩ (λg f e=>aA (x.e-22)/\b9 (aL f229 9 4) [Q g f e,Z (x.e-22)] (λd=>lO F ⟨d.b,d.o+d.n.toNat*1,none⟩ (λc=>Ra (aL f229 9 6) [float f64 k.f,float f64 c] (λb=>Rb x F (Z 22) (float f64 ((nN BinOp.mul b.fst b.snd).getD 0)) [(0,F)]))))) (Rb x F (Z x.e) (float f64 k.f) [(0,F)])/\aQ λ(j:wE)_=>(0<=j.e/\j.e<=22/\NN j.f/\mU x=vb (j.f,j.e))->KB (aL f229 11 1) [float f64 j.f,float f64 4831355200913801216] (λh=>Br (cq BinOp.gtr h.fst h.snd) (Ie x F j) (DP (aL f229 11 4) [float f64 j.f,float f64 14054727237768577024] (λg=>Br (cq BinOp.lss g.fst g.snd) (Ie x F j) (dN F ⟨19,0,none⟩ (λf e d=>b9 (aL f229 12 3) [Q f e d,Z j.e] (λc=>lO F ⟨c.b,c.o+c.n.toNat*1,none⟩ (λb=>Ra (aL f229 12 5) [float f64 j.f,float f64 b] (λa=>l sa x F (al (tuple ⟨[float f64 ((nN BinOp.mul a.fst a.snd).getD 0),H true]⟩)) [(0,F)]))))))))) (Wa x F k)) (Wa x F k))):=by
 delta mI zC DO Ug Q_ dN b9 lO oZ Ra Rb KB Ie DP XQ Wa aA Z T H Q bR aK al aQ;obtain⟨m,e,n,p,lc⟩:=x;obtain⟨h1,h2⟩:=V;replace G:io p lc F:=G;obtain⟨b,o,c,I,Y⟩:=G.fp;have ae:∀{S:St}(v:Nat×Bool),gt S 0=F->mU ⟨m,e,n,p,lc⟩=v->ay S [(0,F)]->l sa ⟨m,e,n,p,lc⟩ F (returned (tuple #[float .f64 v.1,bool v.2])) S:=λv _ N U=>
  ⟨(),ai,by show _=returned (.tuple #[.float .f64 (mU ⟨m,e,n,p,lc⟩).1,.bool (mU ⟨m,e,n,p,lc⟩).2]);rw[N],U⟩
 have un:mU ⟨m,e,n,p,lc⟩=bif (m:Int).fdiv (2^min (Int.toNat 52) u64.bits)!=0 then (0,false) else bif e==0 then (j6 ⟨m,e,n,p,lc⟩,true) else bif decide (e>0) then bif decide (e<=37) then vb (DU ⟨m,e,n,p,lc⟩) else r_ ⟨m,e,n,p,lc⟩ else r_ ⟨m,e,n,p,lc⟩:=rfl
 have t:ay [(0,F)] [(0,F)]:=ao [0];refine⟨G.i0,ar (λh=>ae (0,false) rfl (by grind) t) (λh=>⟨aic rfl rfl rfl,(m:Int),rfl,ai,ar (λA=>⟨Y6 rfl,_,rfl,ai,⟨j6 ⟨m,e,n,p,lc⟩,0⟩,⟨rfl,by grind⟩,⟨rfl, ?_,rfl,ai⟩,t⟩) (λA=>⟨⟨j6 ⟨m,e,n,p,lc⟩,0⟩,⟨rfl,by grind⟩,⟨rfl, ?_,rfl,ai⟩,t⟩), ?_⟩)⟩;have A:n=true:=A;unfold j6;simp[*];have A:n=false:=A;unfold j6;simp[*];rintro⟨f,_⟩ W ⟨L,E⟩;dsimp only at L E⊢;subst L;have w:=aeP ⟨m,e,n,p,lc⟩;have u:((e==0)=false)->(decide (e>0)=false\/decide (e<=37)=false)->mU ⟨m,e,n,p,lc⟩=r_ ⟨m,e,n,p,lc⟩:=λq h=>by{grind};have low:((e==0)=false)->(decide (e>0)=false\/decide (e<=37)=false)->Br (decide (e<0)) (Br (decide (e>= -22)) (∃(a:bv),∃(k:Nat),∃(c:Nat),aH F ⟨19,0,none⟩ (slice a k c)/\cN prog (aL f229 14 4) (dy 1)/\∃(r:qD),[slice a k c,int i64 (i64.wrap (0-e))]=[slice (some ⟨r.b,r.o,none⟩) r.len r.aq,int i64 r.n]/\(0<=r.n/\r.n<(r.len:Int))/\∃(b:Nat),aH F ⟨r.b,r.o+r.n.toNat*1,none⟩ (float f64 b)/\cN prog (aL f229 14 6) (tX BinOp.quo)/\∃(s:Nat×Nat),[float f64 (j6 ⟨m,e,n,p,lc⟩),float f64 b]=[float f64 s.fst,float f64 s.snd]/\(nN BinOp.quo s.fst s.snd).isSome=true/\l sa ⟨m,e,n,p,lc⟩ F (returned (tuple #[float f64 ((nN BinOp.quo s.fst s.snd).getD 0),bool true])) [(0,F)])
   (l sa ⟨m,e,n,p,lc⟩ F (returned (tuple #[float f64 (j6 ⟨m,e,n,p,lc⟩),bool false])) [(0,F)]))
   (l sa ⟨m,e,n,p,lc⟩ F (returned (tuple #[float f64 (j6 ⟨m,e,n,p,lc⟩),bool false])) [(0,F)]):=λq0 q1=>
  bd (λK=>bd (λM=>by
   have P:i64.wrap (0-e)= -e:=by rw[dw (i:=.i64) (n:=0-e) aC];omega
   have z:(-e).toNat<23:=by omega
   obtain⟨q2,q3⟩:=am7 w (R6 _ z);rw[P];exact⟨_,_,_,I,bZ 1 rfl rfl rfl rfl,⟨b,o,23,c,-e⟩,rfl,⟨by grind,by grind⟩,nQ (-e).toNat,by simp[*],am8 rfl,(j6 ⟨m,e,n,p,lc⟩,nQ (-e).toNat),rfl,q2,ae (_,true) rfl (by rw[u q0 q1];unfold r_;grind) t⟩)
   (λM=>ae (_,false) rfl (by rw[u q0 q1];unfold r_;dsimp only;rw[bp K,bF M] <;> rfl) t))
  (λK=>ae (_,false) rfl (by rw[u q0 q1];unfold r_;dsimp only;rw[bF K] <;> rfl) t)
 refine ar (λy=>ae (_,true) rfl (by rw[E,y] <;> rfl) t) (λy=>bd (λC=>bd (λD=>⟨bd (λJ=>?_) (λJ=>?_), ?_⟩) (λD=>low y (.inr (bF D)))) (λC=>low y (.inl (bF C))));have z:(e-22).toNat<23:=O;obtain⟨q2,q3⟩:=ZL w (R6 _ z);refine⟨_,_,_,I,aC,bZ 1 rfl rfl rfl rfl,⟨b,o,23,c,e-22⟩,rfl,⟨by grind,by grind⟩,nQ (e-22).toNat,by simp[*],ZM rfl,(j6 ⟨m,e,n,p,lc⟩,nQ (e-22).toNat),rfl,q2,⟨_,22⟩,⟨by simp[*],by simp[*],q3, ?_⟩,aU,t⟩;rw[E,y,bp C,bp D];unfold DU;grind;refine⟨⟨j6 ⟨m,e,n,p,lc⟩,e⟩,⟨by grind,by grind,w, ?_⟩,aU,t⟩;rw[E,y,bp C,bp D];unfold DU;simp[*];rintro⟨f,B⟩ W ⟨q1,q2,q3,q4⟩;dsimp only at q1 q2 q3 q4⊢;refine⟨ia (.inr (.inr (.inl rfl))) rfl,(f,_),rfl,ai,ar (λJ=>ae (f,false) rfl ?_ t) (λJ=>⟨ia (.inr (.inl rfl)) rfl,(f,_),rfl,ai,ar (λR=>ae (f,false) rfl ?_ t) (λR=>?_)⟩)⟩;rw[q4];unfold vb;simp[*];rw[q4];unfold vb;simp[*];have z:B.toNat<23:=O;obtain⟨X,r3⟩:=ZL q3 (R6 _ z);refine⟨_,_,_,I,bZ 1 rfl rfl rfl rfl,⟨b,o,23,c,B⟩,rfl,⟨q1,by grind⟩,nQ B.toNat,by simp[*],ZM rfl,(f,nQ B.toNat),rfl,X,ae (_,true) rfl ?_ t⟩;rw[q4];unfold vb;grind
theorem aeQ:aG 229 sa:=oI func229 (λ_ _=>[(1,2,.q [.ex 0 (.is (.int .u64 52))]),(1,3,F),(2,1,.qo (Lt .u64)),(4,1,.qo D_),(9,6,.qo (tX .mul)),(11,1,.qo (iO .gtr)),(11,4,.qo (iO .lss)),(12,5,.qo (tX .mul)),(14,6,.qo (tX .quo)),(9,1,.q [.ex 0 .slice]),(9,4,.qo (dy 1)),(9,5,.q [.ex 0 (.float .f64)]),(12,1,.q [.ex 0 .slice]),(12,3,.qo (dy 1)),(12,4,.q [.ex 0 (.float .f64)]),(14,1,.q [.ex 0 .slice]),(14,4,.qo (dy 1)),(14,5,.q [.ex 0 (.float .f64)])]) aeO aeR
end
structure KK where
 c:Int
def eI(c:Int):Int:=u8.wrap (↑(BitVec.ofInt u8.bits c|||BitVec.ofInt u8.bits 32).toNat:Int)
abbrev mz:aF where
 X:=KK
 args x:=[u x.c]
 val x _:=al (u (eI x.c))
def ajo(x:KK)(F:ag)(a:mz.cond x)(b:mz.aE x F):l mz x F (al (u (u8.wrap (↑(BitVec.ofInt u8.bits x.c|||BitVec.ofInt u8.bits (32:Int)).toNat:Int)))) [(0,F)]:=by
 delta u al;exact iy
def sF:aG 182 mz:=cY func182 [(1,1,F)] ajo
structure DT where
 s:ah
 p:ah
def hL(s p:ah):Int:=if (s.size:Int)<p.size then s.size else p.size
def Jw(s:ah)(i:Int):Int:=bif (bif decide (65<=B s i) then decide (B s i<=90) else false) then u8.wrap (B s i+32) else B s i
def AM(s p:ah):Nat->Int->Int
 |0,_=>hL s p
 |f+1,i=>bif Jw s i !=B p i then i else AM s p f (i+1)
def jn(s p:ah):Int:=AM s p (hL s p).toNat 0
abbrev uO:aF where
 X:=DT
 args x:=[C x.s,C x.p]
 cond x:=x.s.size<=1000000000/\x.p.size<=1000000000
 val x _:=al (Z (jn x.s x.p))
def ap1(x:DT)(F:ag):Nat->Option Inv:=fun
 |0=>some {X:=Int,P:=λi=>0<=i/\i<=hL x.s x.p/\jn x.s x.p=AM x.s x.p (hL x.s x.p-i).toNat i,mu:=λi=>(hL x.s x.p-i).toNat,lv:=λi=>[(0,C x.s),(1,C x.p),(5,Z (hL x.s x.p)),(6,Z i)],st:=λ_=>[F]}
 |_=>none
def Nq(z:Int)(a:DT):=0<=z/\z<=hL a.s a.p/\jn a.s a.p=AM a.s a.p (hL a.s a.p-z).toNat z
def Rc(a:DT)(e1:ag)(c:aD)(b:St)(mm:Nat):=∃(z:Int),Nq z a/\(C a.s=C a.s/\C a.p=C a.p/\Z (hL a.s a.p)=Z (hL a.s a.p)/\c=Z z/\True)/\ay b [(0,e1)]/\(hL a.s a.p-z).toNat<mm
def TH(c:Int)(x:DT)(F:ag):=(0<=c/\c<x.p.size)/\Br (B x.s c !=B x.p c) (l uO x F (al (Z c)) [(0,F)]) (aA (c+1)/\Rc x F (Z (c+1)) [(0,F)] ((hL x.s x.p-c).toNat))
def ap2(x:DT)(F:ag)(r:uO.cond x)(w:uO.aE x F):(∃(a:Int),Nq a x/\(C x.s=C x.s/\C x.p=C x.p/\Z (if (x.s.size:Int)<(x.p.size:Int) then (x.s.size:Int) else (x.p.size:Int))=Z (hL x.s x.p)/\Z 0=Z a/\True)/\ay [(0,F)] [(0,F)])/\aQ λ(c:Int)_=>Nq c x->aK (c<hL x.s x.p) ((0<=c/\c<x.s.size)/\aK (65<=B x.s c) (aK (B x.s c<=90) ((0<=c/\c<x.p.size)/\Br (u8.wrap (B x.s c+32)!=B x.p c) (l uO x F (al (Z c)) [(0,F)]) (aA (c+1)/\Rc x F (Z (c+1)) [(0,F)] ((hL x.s x.p-c).toNat))) (TH c x F)) (TH c x F)) (l uO x F (al (Z (hL x.s x.p))) [(0,F)]):=by
 delta Nq Rc TH aA Z C aK al aQ;obtain⟨s,p⟩:=x;obtain⟨n,o⟩:=r;dsimp only at n o⊢;have q:0<=hL s p/\hL s p<=s.size/\hL s p<=p.size:=by unfold hL;split <;> omega
 have j:ay [(0,F)] [(0,F)]:=ao [0];have ae:∀v,jn s p=v->l uO ⟨s,p⟩ F (returned (int .i64 v)) [(0,F)]:=λv e=>
  ⟨(),ai,by show _=returned (.int .i64 (jn s p));rw[e],j⟩
 refine⟨⟨0,⟨cH _,q.1,by unfold jn;simp[*]⟩,aU,j⟩, ?_⟩;rintro i A ⟨m,z,g⟩;refine bd (λu=>?_) (λt=>ae _ ?_);obtain⟨k,U⟩:∃k,(hL s p-i).toNat=k+1:=⟨(hL s p-i).toNat-1,O⟩;rw[U]at g;have d:∀c,Jw s i=c->((0<=i/\i<(p.size:Int))/\Br (c !=B p i) (l uO ⟨s,p⟩ F (returned (int .i64 i)) [(0,F)]) ((-9223372036854775808<=i+1/\i+1<=9223372036854775807)/\∃(b:Int),(0<=b/\b<=hL s p/\jn s p=AM s p (hL s p-b).toNat b)/\(string s=string s/\string p=string p/\int .i64 (hL s p)=int .i64 (hL s p)/\int .i64 (i+1)=int .i64 b/\True)/\ay [(0,F)] [(0,F)]/\(hL s p-b).toNat<(hL s p-i).toNat)):=by{intro c f;refine⟨⟨m,O⟩,ar (λh=>ae _ ?_) (λh=>⟨aC,i+1,⟨O,O, ?_⟩,aU,j,O⟩)⟩;rw[g,AM,f,show(c !=B p i)=true from h] <;> rfl;rw[g,AM,f,show(c !=B p i)=false from h,y,show(hL s p-(i+1)).toNat=k by omega]};refine⟨⟨m,O⟩,bd (λq1=>bd (λq2=>d _ ?_) (λq2=>d _ ?_)) (λq1=>d _ ?_)⟩;unfold Jw;simp[*];unfold Jw;simp[*];unfold Jw;simp[*];have:(hL s p-i).toNat=0:=by omega
 rw[g,this,AM]
def ab4:aG 231 uO:=mt func231 (λ_ _=>[(1,4,F),(7,1,F)]) ap1 ap2
def Ga(s:Int):Nat:=bif decide (s>=0) then 9218868437227405312 else 18442240474082181120
abbrev Df:aF where
 X:=Int
 args x:=[Z x]
 val x _:=al (float f64 (Ga x))
def aqc(x:Int)(F:ag)(a:Df.cond x)(b:Df.aE x F):aK (x>=0) (l Df x F (al (float f64 9218868437227405312)) [(0,F)]) (l Df x F (al (float f64 18442240474082181120)) [(0,F)]):=by
 delta aK al;exact ar (λh=>⟨(),ai,by show _=returned (.float .f64 (bif decide (x>=0) then 9218868437227405312 else 18442240474082181120));simp[*],ao [0]⟩) (λh=>⟨(),ai,by show _=returned (.float .f64 (bif decide (x>=0) then 9218868437227405312 else 18442240474082181120));simp[*],ao [0]⟩)
def ab_:aG 232 Df:=fo 8 func232 (λ_ _=>[]) [(5,1,F)] dV dV gj [] aqc
abbrev Gb:aF where
 X:=ax
 args _:=[]
 val _ _:=al (float f64 9221120237041090561)
def aqe(x:PUnit)(F:ag)(a:Gb.cond x)(b:Gb.aE x F):l Gb x F E7 [(0,F)]:=by
 delta E7 al;exact iy
def aqd:aG 233 Gb:=fo 2 func233 (λ_ _=>[]) [(1,0,F)] dV dV gj [] aqe
def wy:ah:=ByteArray.mk #[105,110,102,105,110,105,116,121]
def AL:ah:=ByteArray.mk #[110,97,110]
def tD(t:ah):Int:=bif (bif decide (3<jn t wy) then decide (jn t wy<8) else false) then 3 else jn t wy
def tC(t:ah)(sg a:Int):Nat×Int×Bool:=bif (bif tD t==3 then true else tD t==8) then (Ga sg,a+tD t,true) else (0,0,false)
def el(s:ah):Nat×Int×Bool:=
 bif (s.size:Int)==0 then (0,0,false)
 else bif B s 0==43||B s 0==45 then tC (s.extract 1 s.size) (bif B s 0==45 then-1 else 1) 1
 else bif B s 0==105||B s 0==73 then tC s 1 0
 else bif B s 0==110||B s 0==78 then (bif jn s AL==3 then (9221120237041090561,3,true) else (0,0,false))
 else (0,0,false)
structure bN where
 s:ah
abbrev AQ:aF where
 X:=bN
 args x:=[C x.s]
 cond x:=x.s.size<=1000000000
 val x _:=.returned (.tuple #[.float .f64 (el x.s).1,.int .i64 (el x.s).2.1,.bool (el x.s).2.2])
structure va where
 t:ah
 sg:Int
 ns:Int
 n:Int
def aqs(x:bN)(F:ag):Nat->Option Inv:=fun
 |12=>some {X:=ax,P:=λ_=>0<x.s.size/\el x.s=tC (x.s.extract 1 x.s.size) (bif B x.s 0==45 then-1 else 1) 1,mu:=λ_=>0,lv:=λ_=>[(0,C x.s),(5,Z 1)],st:=λ_=>[F]}
 |16=>some {X:=va,P:=λd=>d.t.size<=1000000000/\el x.s=tC d.t d.sg d.ns/\0<=d.ns/\d.ns<=1,mu:=λ_=>0,lv:=λd=>[(0,C d.t),(5,Z d.sg),(6,Z d.ns)],st:=λ_=>[F]}
 |19=>some {X:=va,P:=λd=>el x.s=(bif (bif d.n==3 then true else d.n==8) then (Ga d.sg,d.ns+d.n,true) else (0,0,false))/\0<=d.ns/\d.ns<=1,mu:=λ_=>0,lv:=λd=>[(5,Z d.sg),(6,Z d.ns),(7,Z d.n)],st:=λ_=>[F]}
 |21=>some {X:=ax,P:=λ_=>el x.s=(bif jn x.s AL==3 then (9221120237041090561,3,true) else (0,0,false)),mu:=λ_=>0,lv:=λ_=>[(0,C x.s)],st:=λ_=>[F]}
 |23=>some {X:=ax,P:=λ_=>el x.s=(0,0,false),mu:=λ_=>0,lv:=λ_=>[],st:=λ_=>[F]}
 |_=>none
abbrev Ve:=al (tuple ⟨[float f64 0,Z 0,H false]⟩)
def sP(x:bN):=(0:Int)<=0/\0<(x.s.size:Int)
abbrev xS(x:bN):=B x.s (0:Int)==(43:Int)
def Uk(a:bN):=0<a.s.size/\el a.s=tC (a.s.extract 1 a.s.size) (bif B a.s (0:Int)==(45:Int) then (-1:Int) else (1:Int)) (1:Int)
def Rd(a:bN)(e1:ag)(b:St):=∃(z:ax),Uk a/\(C a.s=C a.s/\Z 1=Z 1/\True)/\ay b [(0,e1)]
def V3(z:va)(a:bN):=z.t.size<=1000000000/\el a.s=tC z.t z.sg z.ns/\0<=z.ns/\z.ns<=1
def GQ(a:bN)(e1:ag)(c d e:aD)(b:St):=∃(z:va),V3 z a/\(c=C z.t/\d=Z z.sg/\e=Z z.ns/\True)/\ay b [(0,e1)]
def Re(a:bN)(e1:ag)(b:St):=∃(z:ax),(el a.s=bif jn a.s AL==3 then (9221120237041090561,(3:Int),true) else (0,(0:Int),false))/\(C a.s=C a.s/\True)/\ay b [(0,e1)]
def If(x:bN)(F:ag):=∃(a:ax),el x.s=(0,(0:Int),false)/\True/\ay [(0,F)] [(0,F)]
def U3(x:bN)(F:ag):=Br (B x.s (0:Int)==(110:Int)) (Br (B x.s (0:Int)==(110:Int)) (Re x F [(0,F)]) (If x F)) (Br (B x.s (0:Int)==(78:Int)) (Re x F [(0,F)]) (If x F))
def Tj(x:bN)(F:ag):=Br (B x.s (0:Int)==(105:Int)) (Br (B x.s (0:Int)==(105:Int)) (GQ x F (C x.s) (Z 1) (Z 0) [(0,F)]) (U3 x F)) (Br (B x.s (0:Int)==(73:Int)) (GQ x F (C x.s) (Z 1) (Z 0) [(0,F)]) (U3 x F))
abbrev vV(x:bN):=B x.s (0:Int)==(45:Int)
def zA(x:bN):=(0:Int)<=1/\1<=(x.s.size:Int)/\(x.s.size:Int)<=(x.s.size:Int)
abbrev zD(x:bN):=C (x.s.extract (Int.toNat (1:Int)) (x.s.size:Int).toNat)
def Rf:=cG 231 uO (λa=>a.s.size<=1000000000/\a.p.size<=1000000000)
def Uw(a:bN)(z:va):=(el a.s=bif bif z.n==3 then true else z.n==8 then (Ga z.sg,z.ns+z.n,true) else (0,(0:Int),false))/\0<=z.ns/\z.ns<=1
def KC(a:bN)(e1:ag)(c d e:aD)(b:St):=∃(z:va),Uw a z/\(c=Z z.sg/\d=Z z.ns/\e=Z z.n/\True)/\ay b [(0,e1)]
def XS:=fv 232 Df
def TU(d:va)(x:bN)(F:ag):=XS [Z d.sg] (λb a=>aA (d.ns+d.n)/\l AQ x F (al (tuple ⟨[float f64 (Ga b),Z (d.ns+d.n),H true]⟩)) [(0,F)])
def aqv(x:bN)(F:ag)(A:AQ.cond x)(P:AQ.aE x F):Br ((x.s.size:Int)==0) (l AQ x F Ve [(0,F)]) ((sP x/\((Br (xS x) (Br (xS x) (Rd x F [(0,F)]) (Tj x F)) (Br (vV x) (Rd x F [(0,F)]) (Tj x F))/\aQ λ(c:ax)_=>Uk x->sP x/\Br (vV x) (zA x/\GQ x F (zD x) mN (Z 1) [(0,F)]) (zA x/\GQ x F (zD x) (Z 1) (Z 1) [(0,F)]))/\aQ λ(h:va)_=>V3 h x->Rf [C h.t,C ⟨#[105,110,102,105,110,105,116,121]⟩] (λf e=>aK (3<jn f.s f.p) (aK (jn f.s f.p<8) (KC x F (Z h.sg) (Z h.ns) (Z 3) [(0,F)]) (KC x F (Z h.sg) (Z h.ns) (Z (jn f.s f.p)) [(0,F)])) (KC x F (Z h.sg) (Z h.ns) (Z (jn f.s f.p)) [(0,F)])/\aQ λ(d:va)_=>Uw x d->Br (d.n==3) (TU d x F) (Br (d.n==8) (TU d x F) (If x F))))/\aQ λ(f:ax)_=>(el x.s=bif jn x.s AL==3 then (9221120237041090561,(3:Int),true) else (0,(0:Int),false))->Rf [C x.s,C ⟨#[110,97,110]⟩] (λd c=>Br (jn d.s d.p==3) (fv 233 Gb ([]:aN) (λb a=>l AQ x F (al (tuple ⟨[float f64 9221120237041090561,Z 3,H true]⟩)) [(0,F)])) (If x F)))/\aQ λ(b:ax)_=>el x.s=(0,(0:Int),false)->l AQ x F Ve [(0,F)]):=by
 delta Ve sP xS Uk Rd V3 GQ Re If U3 Tj vV zA zD mN Rf Uw KC XS TU aA fv cG Z C H aK al aQ;obtain⟨s⟩:=x;have A:s.size<=1000000000:=A;dsimp only;have i:ay [(0,F)] [(0,F)]:=ao [0];have ae:∀v:Nat×Int×Bool,el s=v->l AQ ⟨s⟩ F (returned (tuple #[float .f64 v.1,int .i64 v.2.1,bool v.2.2])) [(0,F)]:=λv e=>
  ⟨(),ai,by show _=returned (.tuple #[.float .f64 (el s).1,.int .i64 (el s).2.1,.bool (el s).2.2]);rw[e],i⟩
 have S:el s=bif (s.size:Int)==0 then (0,0,false)
  else bif B s 0==43||B s 0==45 then tC (s.extract 1 s.size) (bif B s 0==45 then-1 else 1) 1
  else bif B s 0==105||B s 0==73 then tC s 1 0
  else bif B s 0==110||B s 0==78 then (bif jn s AL==3 then (9221120237041090561,3,true) else (0,0,false))
  else (0,0,false):=rfl
 refine ar (λN=>ae (0,0,false) (by simp[*])) (λN=>?_);have y:0<s.size:=by{grind};refine⟨⟨⟨cH _,O⟩,⟨⟨⟨?_, ?_⟩, ?_⟩, ?_⟩⟩, ?_⟩
 ·
  have o:(B s 0==43||B s 0==45)=true->(∃(g:ax),(0<s.size/\el s=tC (s.extract 1 s.size) (bif B s 0==45 then-1 else 1) 1)/\(string s=string s/\int .i64 1=int .i64 1/\True)/\ay [(0,F)] [(0,F)]):=λh=>
   ⟨(),⟨y,by simp[*]⟩,aU,i⟩
  have p:(B s 0==43||B s 0==45)=false->(B s 0==105||B s 0==73)=true->(∃(g:va),(g.t.size<=1000000000/\el s=tC g.t g.sg g.ns/\0<=g.ns/\g.ns<=1)/\(string s=string g.t/\int .i64 1=int .i64 g.sg/\int .i64 0=int .i64 g.ns/\True)/\ay [(0,F)] [(0,F)]):=λh j=>
   ⟨⟨s,1,0,0⟩,⟨A,by simp[*],by simp[*],by simp[*]⟩,aU,i⟩
  have r:(B s 0==43||B s 0==45)=false->(B s 0==105||B s 0==73)=false->(B s 0==110||B s 0==78)=true->(∃(g:ax),(el s=bif jn s AL==3 then (9221120237041090561,3,true) else (0,0,false))/\(string s=string s/\True)/\ay [(0,F)] [(0,F)]):=λh j m=>
   ⟨(),by simp[*],⟨rfl,ai⟩,i⟩
  have u:(B s 0==43||B s 0==45)=false->(B s 0==105||B s 0==73)=false->(B s 0==110||B s 0==78)=false->(∃(g:ax),el s=(0,0,false)/\True/\ay [(0,F)] [(0,F)]):=λh j m=>
   ⟨(),by simp[*],ai,i⟩
  revert o p r u;generalize (B s 0==43)=G,(B s 0==45)=I,(B s 0==105)=J,(B s 0==73)=K,(B s 0==110)=L,(B s 0==78)=M;intro o p r u;cases G <;> cases I <;> cases J <;> cases K <;> cases L <;> cases M <;> first|exact o rfl|exact p rfl rfl|exact r rfl rfl rfl|exact u rfl rfl rfl
 rintro _ E ⟨D,k⟩;refine⟨⟨cH _,O⟩,ar (λh=>⟨⟨O,O,O⟩,⟨s.extract 1 s.size,-1,1,0⟩,⟨by dsimp only;rw[iA];omega,by simp[*],by simp[*],by simp[*]⟩,aU,i⟩) (λh=>⟨⟨O,O,O⟩,⟨s.extract 1 s.size,1,1,0⟩,⟨by dsimp only;rw[iA];omega,by grind,by simp[*],by simp[*]⟩,aU,i⟩)⟩
 ·
  rintro⟨t,w,z,_⟩ E ⟨D,k,j,m⟩;dsimp only at D k j m⊢;have R:el s=(bif (bif tD t==3 then true else tD t==8) then (Ga w,z+tD t,true) else (0,0,false)):=k;have Q:0<=jn t wy\/True:=.inr trivial;refine bG ab4 ⟨t,wy⟩ ⟨D,by show wy.size<=_;decide⟩ λ_ _=>⟨ar (λq1=>ar (λq2=>⟨⟨t,w,z,3⟩,⟨?_,j,m⟩,aU,i⟩) (λq2=>⟨⟨t,w,z,jn t wy⟩,⟨?_,j,m⟩,aU,i⟩)) (λq1=>⟨⟨t,w,z,jn t wy⟩,⟨?_,j,m⟩,aU,i⟩), ?_⟩;have:tD t=3:=by unfold tD;simp[*]
  grind;have:tD t=jn t wy:=by unfold tD;simp[*]
  grind;have:tD t=jn t wy:=by unfold tD;simp[*]
  grind;rintro⟨_,w,z,n⟩ E ⟨k,j,m⟩;dsimp only at k j m⊢;refine ar (λq=>kH ab_ w λ_ _=>⟨?_,ae (_,_,true) (by rw[k,show(n==3)=true from q] <;> rfl)⟩) (λq=>ar (λq2=>kH ab_ w λ_ _=>⟨?_,ae (_,_,true) (by rw[k,show(n==3)=false from q,show(n==8)=true from q2] <;> rfl)⟩) (λq2=>⟨(),by grind,ai,i⟩))
  all_goals grind
 rintro _ E k;exact bG ab4 ⟨s,AL⟩ ⟨A,by show AL.size<=_;decide⟩ λ_ _=>ar (λq=>kH aqd () λ_ _=>ae (9221120237041090561,3,true) (by grind)) (λq=>⟨(),by grind,ai,i⟩);grind
def aqu:aG 219 AQ:=oI func219 (λ_ _=>[(16,1,aI uO),(20,1,aI Df),(21,1,aI uO),(22,0,aI Gb)]) aqs aqv
def cx(s:ah):ah:=bif (bif decide ((s.size:Int)>=1) then (bif B s 0==45 then true else B s 0==43) else false) then s.extract 1 s.size else s
def qx(t:ah):Bool:=bif (bif decide ((t.size:Int)>=2) then B t 0==48 else false) then (bif (bif eI (B t 1)==98 then true else eI (B t 1)==111) then true else eI (B t 1)==120) else false
def rQ(t:ah)(a:Bool)(i:Int):Bool:=bif (bif decide (48<=B t i) then decide (B t i<=57) else false) then true else (bif (bif a then decide (97<=eI (B t i)) else false) then decide (eI (B t i)<=102) else false)
def tE(t:ah)(b:Bool):Nat->Int->Int->Bool
 |0,_,a=>a !=95
 |f+1,i,a=>bif rQ t b i then tE t b f (i+1) 48 else bif B t i==95 then (bif a !=48 then false else tE t b f (i+1) 95) else (bif a==95 then false else tE t b f (i+1) 33)
def qy(s:ah):Bool:=bif qx (cx s) then tE (cx s) (eI (B (cx s) 1)==120) ((cx s).size-2) 2 48 else tE (cx s) false (cx s).size 0 94
abbrev yA:aF where
 X:=bN
 args x:=[C x.s]
 cond x:=x.s.size<=1000000000
 val x _:=al (H (qy x.s))
structure ip where
 t:ah
 hx:Bool
 i:Int
 kz:Int
def Di:(T:Type)×(ip->T):=⟨ip,λd=>d⟩
def aqC(x:bN)(F:ag):Nat->Option Inv:=fun
 |5=>some {X:=ax,P:=λ_=>True,mu:=λ_=>0,lv:=λ_=>[(0,C (cx x.s)),(3,eA 94),(4,Z 0)],st:=λ_=>[F]}
 |7=>some {X:=ax,P:=λ_=>True,mu:=λ_=>0,lv:=λ_=>[(0,C (cx x.s)),(3,eA 94),(4,Z 0),(5,cM),(46,H (qx (cx x.s)))],st:=λ_=>[F]}
 |10=>some {X:=ip,P:=λd=>0<=d.i/\d.i<=(cx x.s).size/\qy x.s=tE (cx x.s) d.hx ((cx x.s).size-d.i).toNat d.i d.kz,mu:=λ_=>0,lv:=λd=>[(0,C (cx x.s)),(3,eA d.kz),(4,Z d.i),(5,H d.hx)],st:=λ_=>[F]}
 |13=>some {X:=ip,gh:=some Di,P:=λd=>0<=d.i/\d.i<(cx x.s).size,mu:=λ_=>0,lv:=λd=>[(0,C (cx x.s)),(3,eA d.kz),(4,Z d.i),(5,H d.hx),(83,H (rQ (cx x.s) d.hx d.i))],st:=λ_=>[F]}
 |_=>none
def aqD(x:bN)(F:ag):Nat->Option Inv:=fun
 |0=>some {X:=ip,P:=λd=>0<=d.i/\d.i<=(cx x.s).size/\qy x.s=tE (cx x.s) d.hx ((cx x.s).size-d.i).toNat d.i d.kz,mu:=λd=>((cx x.s).size-d.i).toNat,lv:=λd=>[(0,C (cx x.s)),(3,eA d.kz),(4,Z d.i),(5,H d.hx)],st:=λ_=>[F]}
 |_=>none
def GS(a:ag)(e1:bN)(c:aD)(b:St):=∃(z:ax),True/\(c=C (cx e1.s)/\eA 94=eA 94/\Z 0=Z 0/\True)/\ay b [(0,a)]
def Ir(x:bN):=(0:Int)<=1/\1<(↑(cx x.s).size:Int)
def pj:=fv 182 mz
abbrev IA(x:bN):aN:=[u (B (cx x.s) (1:Int))]
def DQ(a:ag)(e1:bN)(c:aD)(b:St):=∃(z:ax),True/\(C (cx e1.s)=C (cx e1.s)/\eA 94=eA 94/\Z 0=Z 0/\H false=H false/\c=H (qx (cx e1.s))/\True)/\ay b [(0,a)]
def HS(z:ip)(a:bN):=0<=z.i/\z.i<=(↑(cx a.s).size:Int)/\qy a.s=tE (cx a.s) z.hx ((↑(cx a.s).size:Int)-z.i).toNat z.i z.kz
def KD(a:bN)(e1:ag)(c d e:aD)(b:St):=∃(z:ip),HS z a/\(C (cx a.s)=C (cx a.s)/\c=eA z.kz/\d=Z z.i/\e=H z.hx/\True)/\ay b [(0,e1)]
def zI(h:ip)(x:bN):=0<=h.i/\h.i<(↑(cx x.s).size:Int)
def GU(a:bN)(e1:ip)(b:ag)(d e f g:aD)(c:St):=∃(z:ip),(zI z a/\Di.snd z=e1)/\(C (cx a.s)=C (cx a.s)/\d=eA z.kz/\e=Z z.i/\f=H z.hx/\g=H (rQ (cx a.s) z.hx z.i)/\True)/\ay c [(0,b)]
def SW(h:ip)(x:bN)(f:ip)(F:ag):=Br h.hx (zI h x/\pj [u (B (cx x.s) h.i)] (λe d=>aK (97<=eI e.c) (zI h x/\pj [u (B (cx x.s) h.i)] (λc b=>GU x f F (eA h.kz) (Z h.i) (H h.hx) (H (decide (eI c.c<=102))) [(0,F)])) (GU x f F (eA h.kz) (Z h.i) (H h.hx) cM [(0,F)]))) (GU x f F (eA h.kz) (Z h.i) (H h.hx) cM [(0,F)])
def KF(a:bN)(e1:ag)(c d e:aD)(b:St)(mm:Nat):=∃(z:ip),HS z a/\(C (cx a.s)=C (cx a.s)/\c=eA z.kz/\d=Z z.i/\e=H z.hx/\True)/\ay b [(0,e1)]/\((↑(cx a.s).size:Int)-z.i).toNat<mm
def aqF(x:bN)(F:ag)(N:yA.cond x)(Y:yA.aE x F):aK ((x.s.size:Int)>=1) (sP x/\Br (vV x) (zA x/\GS F x (zD x) [(0,F)]) (sP x/\Br (xS x) (zA x/\GS F x (zD x) [(0,F)]) (GS F x (C x.s) [(0,F)]))) (GS F x (C x.s) [(0,F)])/\aQ λ(a:ax)_=>True->(aK ((↑(cx x.s).size:Int)>=2) (((0:Int)<=0/\0<(↑(cx x.s).size:Int))/\Br (B (cx x.s) (0:Int)==(48:Int)) (Ir x/\pj (IA x) (λg f=>Br (eI g.c==98) (DQ F x (H true) [(0,F)]) (Ir x/\pj (IA x) (λe d=>Br (eI e.c==111) (DQ F x (H true) [(0,F)]) (Ir x/\pj (IA x) (λc b=>DQ F x (H (eI c.c==120)) [(0,F)])))))) (DQ F x cM [(0,F)])) (DQ F x cM [(0,F)])/\aQ λ(e:ax)_=>True->Br (qx (cx x.s)) (Ir x/\pj (IA x) (λc b=>KD x F (eA 48) (Z 2) (H (eI c.c==120)) [(0,F)])) (KD x F (eA 94) (Z 0) cM [(0,F)]))/\aQ λ(j:ip)_=>HS j x->KD x F (eA j.kz) (Z j.i) (H j.hx) [(0,F)]/\aQ λ(h:ip)_=>HS h x->aK (h.i<(↑(cx x.s).size:Int)) (∃(f:ip),(zI h x/\aK (48<=B (cx x.s) h.i) (zI h x/\aK (B (cx x.s) h.i<=57) (GU x f F (eA h.kz) (Z h.i) (H h.hx) (H true) [(0,F)]) (SW h x f F)) (SW h x f F))/\aQ λ(c:ip)_=>(zI c x/\Di.snd c=f)->Br (rQ (cx x.s) c.hx c.i) (aA (c.i+1)/\KF x F (eA 48) (Z (c.i+1)) (H c.hx) [(0,F)] (((↑(cx x.s).size:Int)-h.i).toNat)) (zI c x/\Br (B (cx x.s) c.i==95) (Br (c.kz !=48) (l yA x F cm [(0,F)]) (aA (c.i+1)/\KF x F (eA 95) (Z (c.i+1)) (H c.hx) [(0,F)] (((↑(cx x.s).size:Int)-h.i).toNat))) (Br (c.kz==95) (l yA x F cm [(0,F)]) (aA (c.i+1)/\KF x F (eA 33) (Z (c.i+1)) (H c.hx) [(0,F)] (((↑(cx x.s).size:Int)-h.i).toNat))))) (l yA x F (al (H (h.kz !=95))) [(0,F)]):=by
 delta sP vV zA GS zD xS Ir pj IA DQ cM HS KD zI GU SW KF cm aA fv Z u eA C H aK al aQ;obtain⟨s⟩:=x;have N:s.size<=1000000000:=N;dsimp only;have D:ay [(0,F)] [(0,F)]:=ao [0];have ht:(cx s).size<=1000000000:=by
  unfold cx;cases (bif decide ((s.size:Int)>=1) then (bif B s 0==45 then true else B s 0==43) else false)with
  |true=>rw[aW,iA];omega
  |false=>exact N
 have ae:∀v:Bool,qy s=v->l yA ⟨s⟩ F (returned (bool v)) [(0,F)]:=λv e=>
  ⟨(),ai,by show _=returned (.bool (qy s));rw[e],D⟩
 refine⟨?_,λ_ K _=>⟨⟨?_,λ_ K _=>?_⟩, ?_⟩⟩;have y:∀t,t=cx s->(∃(W:ax),True/\(string t=string (cx s)/\int .i32 94=int .i32 94/\int .i64 0=int .i64 0/\True)/\ay [(0,F)] [(0,F)]):=λt e=>⟨(),ai,⟨by rw[e],rfl,rfl,ai⟩,D⟩;refine bd (λE=>⟨⟨cH _,O⟩,ar (λA=>⟨⟨O,O,O⟩,y _ ?_⟩) (λA=>⟨⟨cH _,O⟩,ar (λI=>⟨⟨O,O,O⟩,y _ ?_⟩) (λI=>y _ ?_)⟩)⟩) (λE=>y _ ?_);unfold cx;simp[*];unfold cx;simp[*];unfold cx;simp[*];unfold cx;simp[*];generalize cx s=t at*;have y:∀b,b=qx t->(∃(X:ax),True/\(string t=string t/\int .i32 94=int .i32 94/\int .i64 0=int .i64 0/\bool false=bool false/\bool b=bool (qx t)/\True)/\ay [(0,F)] [(0,F)]):=λt e=>⟨(),ai,⟨rfl,rfl,rfl,rfl,by rw[e],ai⟩,D⟩;refine bd (λE=>⟨⟨cH _,O⟩,ar (λA=>⟨aC,sF,rfl,⟨_⟩,rfl,rfl,ai,ai,λ_ _=>ar (λI=>y _ ?_) (λI=>⟨aC,sF,rfl,⟨_⟩,rfl,rfl,ai,ai,λ_ _=>ar (λM=>y _ ?_) (λM=>⟨aC,sF,rfl,⟨_⟩,rfl,rfl,ai,ai,λ_ _=>y _ ?_⟩)⟩)⟩) (λA=>y _ ?_)⟩) (λE=>y _ ?_);unfold qx;rw[bp E,show(B t 0==48)=true from A,show(eI (B t 1)==98)=true from I] <;> rfl;unfold qx;rw[bp E,show(B t 0==48)=true from A,show(eI (B t 1)==98)=false from I,show(eI (B t 1)==111)=true from M] <;> rfl;unfold qx;rw[bp E,show(B t 0==48)=true from A,show(eI (B t 1)==98)=false from I,show(eI (B t 1)==111)=false from M] <;> rfl;unfold qx;simp[*];unfold qx;simp[*];refine ar (λh=>?_) (λh=>⟨⟨cx s,false,0,94⟩,⟨by simp[*],by simp[*], ?_⟩,aU,D⟩);have A:2<=(cx s).size:=by{have h:qx (cx s)=true:=h;unfold qx at h;grind};refine⟨aC,sF,rfl,⟨_⟩,rfl,rfl,ai,ai,λ_ _=>⟨⟨cx s,_,2,48⟩,⟨by simp[*],by grind, ?_⟩,aU,D⟩⟩;unfold qy;rw[show qx (cx s)=true from h,aW];dsimp only;rw[show(((cx s).size:Int)-2).toNat=(cx s).size-2 by omega];rfl;unfold qy;simp[*];generalize cx s=t at*;intro d K R;refine⟨⟨d,R,aU,D⟩, ?_⟩;rintro⟨_,p,i,n⟩ K ⟨G,E,A⟩;dsimp only at G E A⊢;refine bd (λw=>?_) (λS=>ae _ ?_)
 ·obtain⟨k,U⟩:∃k,((t.size:Int)-i).toNat=k+1:=⟨((t.size:Int)-i).toNat-1,O⟩;rw[U,tE]at A;refine⟨(⟨t,p,i,n⟩:ip),⟨⟨G,w⟩, ?_⟩, ?_⟩
  ·have y:∀b,b=rQ t p i->(∃(m:ip),((0<=m.i/\m.i<(t.size:Int))/\Di.2 m=(⟨t,p,i,n⟩:ip))/\(string t=string t/\int .i32 n=int .i32 m.kz/\int .i64 i=int .i64 m.i/\bool p=bool m.hx/\bool b=bool (rQ t m.hx m.i)/\True)/\ay [(0,F)] [(0,F)]):=λb e=>⟨⟨t,p,i,n⟩,⟨⟨G,w⟩,rfl⟩,⟨rfl,rfl,rfl,rfl,by rw[e],ai⟩,D⟩;have z:(bif decide (48<=B t i) then decide (B t i<=57) else false)=false->Br p ((0<=i/\i<(t.size:Int))/\aG 182 mz/\true=true/\∃(m:KK),[int .u8 (B t i)]=[int .u8 m.c]/\([]:List ag)=[]/\True/\True/\∀(y:ax),True->Br (decide (97<=eI m.c)) ((0<=i/\i<(t.size:Int))/\aG 182 mz/\true=true/\∃(o:KK),[int .u8 (B t i)]=[int .u8 o.c]/\([]:List ag)=[]/\True/\True/\∀(y:ax),True->∃(r:ip),((0<=r.i/\r.i<(t.size:Int))/\Di.2 r=(⟨t,p,i,n⟩:ip))/\(string t=string t/\int .i32 n=int .i32 r.kz/\int .i64 i=int .i64 r.i/\bool p=bool r.hx/\bool (decide (eI o.c<=102))=bool (rQ t r.hx r.i)/\True)/\ay [(0,F)] [(0,F)])
    (∃(o:ip),((0<=o.i/\o.i<(t.size:Int))/\Di.2 o=(⟨t,p,i,n⟩:ip))/\(string t=string t/\int .i32 n=int .i32 o.kz/\int .i64 i=int .i64 o.i/\bool p=bool o.hx/\bool false=bool (rQ t o.hx o.i)/\True)/\ay [(0,F)] [(0,F)]))
    (∃(m:ip),((0<=m.i/\m.i<(t.size:Int))/\Di.2 m=(⟨t,p,i,n⟩:ip))/\(string t=string t/\int .i32 n=int .i32 m.kz/\int .i64 i=int .i64 m.i/\bool p=bool m.hx/\bool false=bool (rQ t m.hx m.i)/\True)/\ay [(0,F)] [(0,F)]):=λe=>by
    refine ar (λq=>⟨⟨G,w⟩,sF,rfl,⟨_⟩,rfl,rfl,ai,ai,λ_ _=>ar (λq2=>⟨⟨G,w⟩,sF,rfl,⟨_⟩,rfl,rfl,ai,ai,λ_ _=>y _ ?_⟩) (λq2=>y _ ?_)⟩) (λq=>y _ ?_);unfold rQ;rw[e,show p=true from q,show decide (97<=eI (B t i))=true from q2] <;> rfl;unfold rQ;rw[e,show p=true from q,show decide (97<=eI (B t i))=false from q2] <;> rfl;unfold rQ;simp[*]
   refine ar (λq1=>⟨⟨G,w⟩,ar (λq2=>y _ ?_) (λq2=>z ?_)⟩) (λq1=>z ?_);unfold rQ;simp[*]
   all_goals grind
  ·rintro⟨V,P,T,J⟩ K ⟨_,e⟩;have e:(⟨V,P,T,J⟩:ip)=⟨t,p,i,n⟩:=e;cases e;dsimp only;have Q:∀L,qy s=tE t p k (i+1) L->((-9223372036854775808<=i+1/\i+1<=9223372036854775807)/\∃(y:ip),(0<=y.i/\y.i<=(t.size:Int)/\qy s=tE t y.hx ((t.size:Int)-y.i).toNat y.i y.kz)/\(string t=string t/\int .i32 L=int .i32 y.kz/\int .i64 (i+1)=int .i64 y.i/\bool p=bool y.hx/\True)/\ay [(0,F)] [(0,F)]/\((t.size:Int)-y.i).toNat<((t.size:Int)-i).toNat):=λL e=>
    ⟨aC,⟨t,p,i+1,L⟩,⟨by grind,by grind,by dsimp only;rw[show((t.size:Int)-(i+1)).toNat=k by omega];exact e⟩,aU,D,by grind⟩
   refine ar (λq=>Q _ ?_) (λq=>⟨⟨G,w⟩,ar (λq2=>ar (λq3=>ae _ ?_) (λq3=>Q _ ?_)) (λq2=>ar (λq3=>ae _ ?_) (λq3=>Q _ ?_))⟩)
   all_goals grind
 rw[A,show((t.size:Int)-i).toNat=0 by omega,tE]
def aqE:aG 201 yA:=rh func201 (λ_ _=>[(6,11,aI mz),(6,16,aI mz),(6,22,aI mz),(9,2,aI mz),(12,16,aI mz),(12,23,aI mz)]) aqD aqC aqF
section
variable{I J:aX}{k:Nat}{S:St}{v:aD}{w:World}
theorem Sat.freeze(h:Sat I S w){j b:Nat}{vs:aN}{t:TypeId}(v:gt S j= .cells b vs t):
  ∃J,aX.le I J/\J b=some (.cells ⟨vs⟩ t (0,0))/\Sat J (gC S j .d7) w:=by
 obtain⟨⟨f,p,q,k⟩,u⟩:=h;have r:=p j;rw[v]at r;obtain⟨g,m⟩:=r;have d:=(k j b g).1;refine⟨λc=>if c=b then some (.cells ⟨vs⟩ t (0,0)) else I c,λc o a=>?_,X,⟨⟨λi c=>i≠j/\f i c,λi=>?_,λi x c a l=>q _ _ _ a.2 l.2,λi c a=>⟨?_,(k i c a.2).2⟩⟩,λc o a=>?_⟩⟩;by_cases e:c=b;subst e;rw[d]at a;cases a;simpa[e]using a;rw[vq];by_cases e:i=j;simp[e];trivial;have s:(λc=>i≠j/\f i c)=f i:=by funext c;simp[e]
 simp only[e,if_false];rw[show(λc=>¬i=j/\f i c)=f i from s];refine ag.mono (λc o a=>?_) (p i);by_cases n:c=b;subst n;rw[d]at a;cases a;simpa[n]using a;by_cases e:c=b;subst e;exact absurd (q _ _ _ a.2 g) a.1;simpa[e]using(k i c a.2).1;by_cases e:c=b;subst e;simp at a;subst a;exact m;simp[e]at a;exact u c o a
theorem Sat.SH{Y:Type}{R:Y->Prop}{B:Y->ag}(j:Nat)(h:Sat I S w)(d:∀h o,(gt S j).holds I h o->∃y,R y/\(B y).holds I h o):∃y,R y/\Sat I (gC S j (B y)) w:=by
 obtain⟨⟨f,a,b,c⟩,k⟩:=h;obtain⟨y,l,g⟩:=d (hp w) (f j) (a j);refine⟨y,l,⟨⟨f,λi=>?_,b,c⟩,k⟩⟩;rw[vq];by_cases e:i=j;subst e;rw[if_pos rfl];exact g;rw[if_neg e];exact a i
theorem Sat.FT{B:ag}(j:Nat)(h:Sat I S w)(d:∀h o,(gt S j).holds I h o->B.holds I h o):Sat I (gC S j B) w:=by
 obtain⟨⟨f,a,b,c⟩,g⟩:=h;refine⟨⟨f,λi=>?_,b,c⟩,g⟩;rw[vq];by_cases e:i=j;subst e;rw[if_pos rfl];exact d _ _ (a i);rw[if_neg e];exact a i
def a7(a:aM):aN:=a.map λn=>.int .i64 n
theorem Ee(a:aM):(a7 a).length=a.length:=by unfold a7;simp
theorem xf(b a:aM):a7 (b++a)=a7 b++a7 a:=by unfold a7;simp
theorem Yo(h:aX.le I J){a:Addr}(b:wY I a=some v):wY J a=some v:=by
 unfold wY at b⊢;cases e:I a.block with
 |none=>rw[e]at b;simp at b
 |some o=>rw[e]at b;rw[h _ _ e];exact b
def Dn(I:aX)(k:Nat)(v:aD)(c:aN):Prop:=∃a n aq,v= .slice a n aq/\(e6 k c a n/\n<=aq)/\∀b,a=some b->∀j u,c[j]?=some u->wY I (b.add j)=some u
theorem Dn.mono(h:aX.le I J){b:aN}(i:Dn I k v b):Dn J k v b:=by
 obtain⟨a,n,aq,d,f,g⟩:=i;exact⟨a,n,aq,d,f,λc e j u l=>Yo h (g c e j u l)⟩
theorem Sat.ahM(h:Sat I S w)(j:Nat){e:TypeId}{cs:aN}{r:Row}(f:bl e k cs r)(d:gt S j=r.A):
  ∃J,aX.le I J/\Dn J k r.v cs/\Sat J (gC S j .d7) w:=by
 have a:=f.af;have b:=f.le;cases f with
 |nil p=>exact⟨I,aX.le_refl I,⟨none,0,0,rfl,⟨a,b⟩,λ_ e=>by cases e⟩,h.FT j λ_ _ _=>ai⟩
 |ft rb n aq q o l c=>
  obtain⟨J,b,i,g⟩:=h.freeze d;refine⟨J,b,⟨_,_,_,rfl,⟨a,c⟩,λm e j u d=>?_⟩,g⟩;cases e;rw[oC,RF i,gZ,m5 (ic.1 d).1];exact d
end
section
def fJ:(Nat->Option Nat)->Code->Code
 |ρ,.seq a b=>.seq (fJ ρ a) (fJ ρ b)
 |ρ,.cond x a b=>.cond x (fJ ρ a) (fJ ρ b)
 |ρ,.block i c=>.block i (fJ ρ c)
 |ρ,.loop c=>.loop (fJ ρ c)
 |_,.scope c=>.scope (fJ (λ_=>none) c)
 |_,.label _=>.skip
 |ρ,.goto l=>match ρ l with|some i=>.exit i|none=>.goto l
 |_,c=>c
def nU:Code->Bool
 | .seq a b=>nU a&&nU b
 | .cond _ a b=>nU a&&nU b
 | .block i c=>Nat.blt i 1000000&&nU c
 | .loop c=>nU c
 | .scope c=>nU c
 |_=>true
def tH(P:Program)(N:Nat)(a:Func)(H:jZ)(b:List LH)(c:Code)(T:Tm)(S:St)(lv:List (Nat×aD))(R:Ending->St->Prop):Prop:=
 E P N H c 0 T S λe T S=>match e with
  | .normal=>match lv with| []=>True|_::_=>rd P S (ky a T) b λv=>R (.returned v) S
  | .ret=>rd P S (ky a T) b λv=>R (.returned v) S
  | .panic d=>jX T lv/\R (.panicked d) S
  |_=>False
noncomputable def iu(a:Func):Code:=a.body.getD .skip
section
variable{P:Program}{N:Nat}
theorem aco(hm:P.follows .mixedOrders=true)(H:jZ):∀(c:Code){ρ:Nat->Option Nat}{key:Nat}{T:Tm}{S:St}{K:Exit->Tm->St->Prop}{a:Act}{I:aX}{w:World}{p:List Deferred}{Q:Exit->Act->World->Prop},
  E P N H (fJ ρ c) key T S K->dS N T a->a.defers=p->Sat I S w->(∀e m k,fm N I w p (K e) m k->Q e m k)->(∀l i,ρ l=some i->1000000<=i/\∀m k,Q (.exit i) m k->Q (.goto l) m k)->nU c=true->c.wp P Q a w:=by
 intro c
 induction c with
 |skip=>
  intro ρ key T S K a I w p Q h b g j f o q;exact wp_skip (f _ _ _ ⟨T,S,I,b,g,aX.le_refl I,j,cn.refl w,h⟩)
 |exit id=>
  intro ρ key T S K a I w p Q h b g j f o q;exact wp_exit (f _ _ _ ⟨T,S,I,b,g,aX.le_refl I,j,cn.refl w,h⟩)
 |ret=>
  intro ρ key T S K a I w p Q h b g j f o q;exact wp_ret (f _ _ _ ⟨T,S,I,b,g,aX.le_refl I,j,cn.refl w,h⟩)
 |seq x y x4 x5=>
  intro ρ key T S K a I w p Q h b g j f o q;simp only[fJ,E]at h;refine wp_seq ?_;have Z:∀l i,ρ l=some i->1000000<=i/\∀m k,Exit.then (Code.wp P y Q) Q (.exit i) m k->Exit.then (Code.wp P y Q) Q (.goto l) m k:=o;have s:nU x=true/\nU y=true:=by simpa[nU]using q
  split at h;refine x4 h b g j (λe m k d=>?_) Z s.1;cases e with
  |normal=>
   obtain⟨T',S',J,O,B,R,W,X,h6⟩:=d;exact x5 h6 O B W (λe a w h=>f e a w (h.from R X)) o s.2
  |_=>exact f _ _ _ d
  rename_i V hV
  have go:∀u:V.X->Prop,(E P N H (fJ ρ x) key T S λe T S=>match e with| .normal=>∃x,u x/\jX T (V.lv x)/\ay S (bu (V.st x))|e=>K e T S)->
    (∀x M,u x->E P N H (fJ ρ y) key (kT M (V.lv x)) (bu (V.st x)) K)->Code.wp P x (Exit.then (Code.wp P y Q) Q) a w:=by
   intro u hx hy;refine x4 hx b g j (λe m k d=>?_) Z s.1;cases e with
   |normal=>
    obtain⟨T',S',J,O,B,R,W,X,x,hp,he,x1⟩:=d;obtain⟨J',v,L⟩:=x1.h J k W;exact x5 (hy x T'.aS hp) (qe O he) B L (λe a w h=>f e a w (h.from (aX.le_trans R v) X)) o s.2
   |_=>exact f _ _ _ d
  split at h;exact go _ h.1 h.2;obtain⟨_,hx,hy⟩:=h;exact go _ hx hy
 |cond x c1 c2 y5 y6=>
  intro ρ key T S K a I w p Q h b g j f o q;simp only[fJ,E]at h;split at h
  ·rename_i t ht
   have hc:a.eval x= .bool t:=by rw[b.eval];exact ht
   refine wp_cond hc ?_;have s:nU c1=true/\nU c2=true:=by simpa[nU]using q
   rcases Br.cases h with⟨rfl,U⟩| ⟨rfl,U⟩
   all_goals grind
  grind
 |block id c ih=>
  intro ρ key T S K a I w p Q h b g j f o q;simp only[fJ,E]at h;have s:id<1000000/\nU c=true:=by simpa[nU]using q
  refine wp_block (ih h b g j (λe m k d=>?_) (λl i F=>⟨(o l i F).1,λm k hq=>by
   have O:=(o l i F).1;have B:i≠id:=by omega
   simp only[Exit.inBlock,B,if_false]at hq;exact(o l i F).2 m k hq⟩) s.2)
  cases e with
  |exit i=>
   simp only[Exit.inBlock];by_cases hi:i=id;subst hi;simp only[if_true];refine f _ _ _ (d.mono λT S h=>?_);simpa using h;simp only[hi,if_false];refine f _ _ _ (d.mono λT S h=>?_);simpa[ve hi]using h
  |_=>exact f _ _ _ d
 |scope c ih=>
  intro ρ key T S K a I w p Q h b g j f o q;simp only[fJ,E]at h;refine wp_scope_straight (ih h b g j (λe m k d=>?_) (λl r F=>by cases F) q);cases e with
  |goto l=>
   obtain⟨_,_,_,_,_,_,_,_,h6⟩:=d;grind
  |_=>exact f _ _ _ d
 |loop c ih=>
  intro ρ key T S K a I w p Q h b g j f o q;simp only[fJ,E]at h;split at h;grind
  rename_i V hV
  have go:∀u:V.X->Prop,(∃x,u x/\jX T (V.lv x)/\ay S (bu (V.st x)))->(∀x M,u x->E P N H (fJ ρ c) key (kT M (V.lv x)) (bu (V.st x)) λe T S=>match e with
    | .normal=>∃y,u y/\jX T (V.lv y)/\ay S (bu (V.st y))/\V.mu y<V.mu x
    |e=>K e T S)->Code.wp P (.loop c) Q a w:=by
   rintro u ⟨x0,y0,x7,C⟩ z;obtain⟨J0,x2,y2⟩:=C.h I w j;refine wp_loop_ghost (λn m k=>∃x M J,V.mu x=n/\u x/\dS N (kT M (V.lv x)) m/\m.defers=p/\aX.le I J/\Sat J (bu (V.st x)) k/\cn w k) (V.mu x0)
    ⟨x0,T.aS,J0,rfl,y0,qe b x7,g,x2,y2,cn.refl w⟩ ?_
   rintro n m k ⟨x,M,J,rfl,hp,G,x6,v,L,A⟩;refine ih (z x M hp) G x6 L (λe a2 w2 d=>?_) o q;cases e with
   |normal=>
    obtain⟨T',S',J',O,B,R,W,X,y,y1,x8,D,x9⟩:=d;obtain⟨J2,x3,y3⟩:=D.h J' w2 W;exact⟨V.mu y,x9,y,T'.aS,J2,rfl,y1,qe O x8,B,aX.le_trans v (aX.le_trans R x3),y3,A.trans X⟩
   |_=>exact f _ _ _ (d.from v A)
  split at h;exact go _ h.1 h.2;obtain⟨_,hx,hy⟩:=h;exact go _ hx hy
 |region id y7 y4=>
  intro ρ key T S K a I w p Q h b g j f o q;simp only[fJ,E]at h;split at h;exact wp_region (Wj _ h b g j (λa w h=>f _ a w h) (λch a w h=>f _ a w h));exact wp_region_any hm (RJ h.1 h.2 b g (j.heap (w':={w with drawn:=w.drawn+1}) rfl) (λa w h=>f _ a w (h.from (aX.le_refl _) Y)) (λch a w h=>f _ a w (h.from (aX.le_refl _) Y)))
 |label l=>
  intro ρ key T S K a I w p Q h b g j f o q;exact wp_label (f _ _ _ ⟨T,S,I,b,g,aX.le_refl I,j,cn.refl w,h⟩)
 |goto l=>
  intro ρ key T S K a I w p Q h b g j f o q;simp only[fJ]at h;split at h
  rename_i r F
  exact wp_goto ((o l r F).2 a w (f _ _ _ ⟨T,S,I,b,g,aX.le_refl I,j,cn.refl w,h⟩));exact h.elim
 |_=>intro ρ key T S K a I w p Q h;exact h.elim
theorem ahI(hm:P.follows .mixedOrders=true){f:FuncId}{j d:Func}{c:Code}{C:aF}(hf:P.funcs[f]?=some j)(Z:j.body=some c)(X:j.ntmps=N)(hl:∀x,(C.args x).length<=N)
  (q:nU c=true) (D:iu d=fJ (λ_=>none) c) (K:d.results=j.results) (H:C.X->ag->jZ) (R:List LH) (lv:C.X->List (Nat×aD)) (E:∀x,lv x≠[])
  (h:∀x F,C.cond x->C.aE x F->tH P N d (H x F) R (iu d) (lP (C.args x)) (bu (C.pre x++[F])) (lv x) (l C x F)):gD P f C:=by
 refine⟨λx F I w hc G hs=>?_⟩;have m:=h x F hc G;rw[D]at m;refine calls_of_wp hf Z ?_;rw[X];refine aco hm (H x F) c m (IY (C.args x) (hl x)) rfl hs (λe a z k=>?_) (λb r G=>by cases G) q;obtain⟨T,A,J,U,M,V,O,W,i⟩:=k;have t:ky d T=ky j T:=by unfold ky;rw[K]
 have out:∀(B:Ending)(g:World),g=z->l C x F B A->∃y J,C.bS x y/\B=C.val x y/\aX.le I J/\Sat J (bu (C.post x y++[F])) g/\cn w g:=by{rintro B g rfl ⟨y,s,rfl,n⟩;obtain⟨S,p,L⟩:=n.h J g O;exact⟨y,S,s,rfl,aX.le_trans V p,L,W⟩};have ae:rd P A (ky d T) R (λv=>l C x F (.returned v) A)->a.defers=[]/\∃v,(results j a.tmps).run P z= .ok v z/\∃y J,C.bS x y/\returned v=C.val x y/\aX.le I J/\Sat J (bu (C.post x y++[F])) z/\cn w z:=λi=>by{rw[t]at i;obtain⟨v,Q,Y⟩:=x_ O _ _ _ i;exact⟨M,v,by rw[FK U];omega,out _ _ rfl Y⟩};cases e with
 |normal=>
  cases o:lv x with
  |nil=>exact absurd o (E x)
  |cons u b=>rw[o]at i;exact ae i
 |ret=>exact ae i
 |panic ch=>exact⟨M,out _ _ rfl i.2⟩
 |_=>exact i.elim
end
end
structure dC where
 i:Int
 m:Int
 nd:Int
 nm:Int
 dp:Int
 us:Bool
 tr:Bool
 sd:Bool
 sg:Bool
structure r9 where
 m:Int
 e:Int
 n:Bool
 t:Bool
 h:Bool
 i:Int
 o:Bool
def fl(a:Bool):Int:=bif a then 16 else 10
def gN(a:Bool):Int:=bif a then 16 else 19
def ik(a:Bool):Int:=bif a then 112 else 101
def eP(c:Int):Bool:=bif decide (48<=c) then decide (c<=57) else false
def wA(a:Bool)(c:Int):Bool:=bif (bif fl a==16 then decide (97<=eI c) else false) then decide (eI c<=102) else false
def WZ(a:Bool)(m c:Int):Int:=u64.wrap (u64.wrap (m*fl a)+u64.wrap (u8.wrap (c-48)))
def zrG(m c:Int):Int:=u64.wrap (u64.wrap (m*16)+u64.wrap (u8.wrap (u8.wrap (eI c-97)+10)))
def ou(s:ah)(a:Bool)(x:dC):Option dC:=
 bif B s x.i==95 then some {x with us:=true,i:=x.i+1}
 else bif B s x.i==46 then (bif x.sd then none else some {x with sd:=true,dp:=x.nd,i:=x.i+1})
 else bif eP (B s x.i) then
  (bif (bif B s x.i==48 then x.nd==0 else false) then some {x with sg:=true,dp:=x.dp-1,i:=x.i+1}
  else bif decide (x.nm<gN a) then some {x with sg:=true,nd:=x.nd+1,m:=WZ a x.m (B s x.i),nm:=x.nm+1,i:=x.i+1}
  else some {x with sg:=true,nd:=x.nd+1,tr:=(bif B s x.i !=48 then true else x.tr),i:=x.i+1})
 else bif wA a (B s x.i) then
  (bif decide (x.nm<gN a) then some {x with sg:=true,nd:=x.nd+1,m:=zrG x.m (B s x.i),nm:=x.nm+1,i:=x.i+1}
  else some {x with sg:=true,nd:=x.nd+1,tr:=true,i:=x.i+1})
 else none
def rP(s:ah)(a:Bool):Nat->dC->dC
 |0,x=>x
 |f+1,x=>match ou s a x with|none=>x|some y=>rP s a f y
def k8(s:ah):Nat->Int->Int->Bool->Int×Int×Bool
 |0,i,e,a=>(i,e,a)
 |f+1,i,e,a=>bif B s i==95 then k8 s f (i+1) e true else bif eP (B s i) then k8 s f (i+1) (bif decide (e<10000) then e*10+B s i-48 else e) a else (i,e,a)
def qw(s:ah)(b a:Bool)(m:Int)(tr us:Bool)(i dp nm:Int):r9:=
 ⟨m,bif m !=0 then dp-nm else 0,b,tr,a,i,!(bif us then !(qy (s.extract 0 i.toNat)) else false)⟩
def Dh(b a:Bool)(m:Int)(tr:Bool)(i:Int):r9:=⟨m,0,b,tr,a,i,false⟩
def uQ(s:ah)(c b:Bool)(m:Int)(tr us:Bool)(i dp nm sg:Int):r9:=
 bif (bif (bif decide (i>=s.size) then true else decide (B s i<48)) then true else decide (B s i>57)) then Dh c b m tr i
 else match k8 s ((s.size:Int)-i).toNat i 0 us with| (d,e,a)=>qw s c b m tr a d (dp+e*sg) nm
def Dg(s:ah)(b a:Bool)(m:Int)(tr us:Bool)(i dp nm:Int):r9:=
 bif decide (i+1>=s.size) then Dh b a m tr (i+1)
 else bif B s (i+1)==43 then uQ s b a m tr us (i+1+1) dp nm 1
 else bif B s (i+1)==45 then uQ s b a m tr us (i+1+1) dp nm (-1)
 else uQ s b a m tr us (i+1) dp nm 1
def rO(s:ah)(a:Bool)(i:Int):Bool:=bif decide (i<s.size) then eI (B s i)==ik a else false
def wz(s:ah)(b a:Bool)(m:Int)(tr us:Bool)(i dp nm:Int):r9:=
 bif rO s a i then Dg s b a m tr us i dp nm
 else bif fl a==16 then Dh b a m tr i
 else qw s b a m tr us i dp nm
def AP(s:ah)(b a:Bool)(m:Int)(tr us:Bool)(i dp nm:Int):r9:=
 bif fl a==16 then wz s b a m tr us i (dp*4) (nm*4) else wz s b a m tr us i dp nm
def qv(s:ah)(b a:Bool)(x:dC):r9:=
 bif !x.sg then Dh b a x.m x.tr x.i
 else bif !x.sd then AP s b a x.m x.tr x.us x.i x.nd x.nm else AP s b a x.m x.tr x.us x.i x.dp x.nm
def bO(s:ah):Bool:=bif B s 0==43 then false else B s 0==45
def dd(s:ah):Int:=bif B s 0==43 then 1 else bif B s 0==45 then 1 else 0
def w(s:ah):Bool:=bif (bif decide (dd s+2<s.size) then B s (dd s)==48 else false) then eI (B s (dd s+1))==120 else false
def ny(s:ah):Int:=bif w s then dd s+2 else dd s
def fC(s:ah):r9:=
 bif decide (0>=(s.size:Int)) then Dh false false 0 false 0
 else qv s (bO s) (w s) (rP s (w s) ((s.size:Int)-ny s).toNat ⟨ny s,0,0,0,0,false,false,false,false⟩)
def Pn(r:r9):aD:=.tuple #[.int .u64 r.m,.int .i64 r.e,.bool r.n,.bool r.t,.bool r.h,.int .i64 r.i,.bool r.o]
abbrev ov:aF where
 X:=bN
 args x:=[C x.s]
 cond x:=x.s.size<=1000000000
 val x _:=al (Pn (fC x.s))
structure c9 where
 m:Int
 tr:Bool
 us:Bool
 i:Int
 dp:Int
 nm:Int
 sg:Int
 e:Int
def tA(x:bN)(b a:Bool)(m:Int)(tr:Bool)(i:Int)(us:Bool):List (Nat×aD):=[(0,.string x.s),(2,.int .u64 m),(3,.int .i64 0),(4,.bool b),(5,.bool tr),(6,.bool a),(7,.int .i64 i),(8,.bool false),(9,.bool us)]
def wD(a:Bool):List (Nat×aD):=[(10,.int .u64 (fl a)),(11,.int .i64 (gN a)),(12,.int .u8 (ik a))]
def nz(s:ah)(x:dC):Prop:=0<=x.i/\x.i<=s.size/\0<=x.m/\x.m<=18446744073709551615/\0<=x.nd/\x.nd<=x.i/\ -x.i<=x.dp/\x.dp<=x.i/\0<=x.nm/\x.nm<=x.i
def pR(s:ah)(x:c9):Prop:=0<=x.i/\x.i<=s.size/\0<=x.m/\x.m<=18446744073709551615/\ -5000000000<=x.dp/\x.dp<=5000000000/\0<=x.nm/\x.nm<=5000000000
def W0:(T:Type)×(dC->T):=⟨dC,λd=>d⟩
def acb:(T:Type)×(c9->T):=⟨c9,λd=>d⟩
def Pm(x:bN)(d:dC):List (Nat×aD):=tA x (bO x.s) (w x.s) d.m d.tr d.i d.us++wD (w x.s)++[(13,.bool d.sd),(14,.bool d.sg),(15,.int .i64 d.nd),(16,.int .i64 d.nm),(17,.int .i64 d.dp)]
abbrev nj(d:c9):=T d.m
abbrev sY(d:c9):=Z d.i
def aqi(x:bN)(F:ag):Nat->Option Inv:=fun
 |9=>some {X:=ax,P:=λ_=>0<x.s.size,mu:=λ_=>0,lv:=λ_=>tA x (bO x.s) false 0 false (dd x.s) false,st:=λ_=>[F]}
 |13=>some {X:=ax,P:=λ_=>0<x.s.size,mu:=λ_=>0,lv:=λ_=>tA x (bO x.s) false 0 false (dd x.s) false++wD false++[(54,.bool (w x.s))],st:=λ_=>[F]}
 |18=>some {X:=ax,P:=λ_=>0<x.s.size,mu:=λ_=>0,lv:=λ_=>tA x (bO x.s) (w x.s) 0 false (ny x.s) false++wD (w x.s),st:=λ_=>[F]}
 |33=>some {X:=dC,gh:=some W0,P:=λd=>nz x.s d/\d.i<x.s.size,mu:=λ_=>0,lv:=λd=>Pm x d++[(18,.int .u8 (B x.s d.i)),(76,.bool (eP (B x.s d.i)))],st:=λ_=>[F]}
 |44=>some {X:=dC,gh:=some W0,P:=λd=>nz x.s d/\d.i<x.s.size,mu:=λ_=>0,lv:=λd=>Pm x d++[(18,.int .u8 (B x.s d.i)),(109,.bool (wA (w x.s) (B x.s d.i)))],st:=λ_=>[F]}
 |51=>some {X:=dC,P:=λd=>nz x.s d/\fC x.s=qv x.s (bO x.s) (w x.s) d,mu:=λ_=>0,lv:=λd=>Pm x d,st:=λ_=>[F]}
 |54=>some {X:=c9,P:=λd=>pR x.s d/\d.dp<=1000000000/\ -1000000000<=d.dp/\d.nm<=1000000000/\fC x.s=AP x.s (bO x.s) (w x.s) d.m d.tr d.us d.i d.dp d.nm,mu:=λ_=>0,lv:=λd=>tA x (bO x.s) (w x.s) d.m d.tr d.i d.us++wD (w x.s)++[(16,.int .i64 d.nm),(17,.int .i64 d.dp)],st:=λ_=>[F]}
 |57=>some {X:=c9,P:=λd=>pR x.s d/\fC x.s=wz x.s (bO x.s) (w x.s) d.m d.tr d.us d.i d.dp d.nm,mu:=λ_=>0,lv:=λd=>tA x (bO x.s) (w x.s) d.m d.tr d.i d.us++wD (w x.s)++[(16,.int .i64 d.nm),(17,.int .i64 d.dp)],st:=λ_=>[F]}
 |58=>some {X:=c9,P:=λd=>pR x.s d/\fC x.s=wz x.s (bO x.s) (w x.s) d.m d.tr d.us d.i d.dp d.nm,mu:=λ_=>0,lv:=λd=>tA x (bO x.s) (w x.s) d.m d.tr d.i d.us++wD (w x.s)++[(16,.int .i64 d.nm),(17,.int .i64 d.dp),(161,.bool (rO x.s (w x.s) d.i))],st:=λ_=>[F]}
 |67=>some {X:=c9,P:=λd=>pR x.s d/\(d.sg=1\/d.sg= -1)/\fC x.s=uQ x.s (bO x.s) (w x.s) d.m d.tr d.us d.i d.dp d.nm d.sg,mu:=λ_=>0,lv:=λd=>tA x (bO x.s) (w x.s) d.m d.tr d.i d.us++wD (w x.s)++[(16,.int .i64 d.nm),(17,.int .i64 d.dp),(19,.int .i64 d.sg)],st:=λ_=>[F]}
 |71=>some {X:=c9,gh:=some acb,P:=λd=>pR x.s d/\d.i<x.s.size/\(B x.s d.i==95||eP (B x.s d.i))=true,mu:=λ_=>0,lv:=λd=>tA x (bO x.s) (w x.s) d.m d.tr d.i d.us++wD (w x.s)++[(16,.int .i64 d.nm),(17,.int .i64 d.dp),(19,.int .i64 d.sg),(20,.int .i64 d.e)],st:=λ_=>[F]}
 |75=>some {X:=c9,P:=λd=>pR x.s d/\(d.sg=1\/d.sg= -1)/\0<=d.e/\d.e<=100100/\fC x.s=qw x.s (bO x.s) (w x.s) d.m d.tr d.us d.i (d.dp+d.e*d.sg) d.nm,mu:=λ_=>0,lv:=λd=>tA x (bO x.s) (w x.s) d.m d.tr d.i d.us++wD (w x.s)++[(16,.int .i64 d.nm),(17,.int .i64 d.dp),(19,.int .i64 d.sg),(20,.int .i64 d.e)],st:=λ_=>[F]}
 |77=>some {X:=c9,P:=λd=>0<=d.i/\d.i<=x.s.size/\0<=d.nm/\d.nm<=5000000000/\ -6000000000<=d.dp/\d.dp<=6000000000/\fC x.s=qw x.s (bO x.s) (w x.s) d.m d.tr d.us d.i d.dp d.nm,mu:=λ_=>0,lv:=λd=>tA x (bO x.s) (w x.s) d.m d.tr d.i d.us++[(16,.int .i64 d.nm),(17,.int .i64 d.dp)],st:=λ_=>[F]}
 |79=>some {X:=c9,P:=λd=>0<=d.i/\d.i<=x.s.size/\fC x.s=⟨d.m,d.e,bO x.s,d.tr,w x.s,d.i,!(bif d.us then !(qy (x.s.extract 0 d.i.toNat)) else false)⟩,mu:=λ_=>0,lv:=λd=>[(0,C x.s),(2,nj d),(3,Z d.e),(4,H (bO x.s)),(5,H d.tr),(6,H (w x.s)),(7,sY d),(8,cM),(9,H d.us)],st:=λ_=>[F]}
 |_=>none
def aqj(x:bN)(F:ag):Nat->Option Inv:=fun
 |1=>some {X:=dC,P:=λd=>nz x.s d/\fC x.s=qv x.s (bO x.s) (w x.s) (rP x.s (w x.s) ((x.s.size:Int)-d.i).toNat d),mu:=λd=>((x.s.size:Int)-d.i).toNat,lv:=λd=>Pm x d,st:=λ_=>[F]}
 |5=>some {X:=c9,P:=λd=>pR x.s d/\(d.sg=1\/d.sg= -1)/\0<=d.e/\d.e<=100100/\fC x.s=(match k8 x.s ((x.s.size:Int)-d.i).toNat d.i d.e d.us with| (b,e,a)=>qw x.s (bO x.s) (w x.s) d.m d.tr a b (d.dp+e*d.sg) d.nm),mu:=λd=>((x.s.size:Int)-d.i).toNat,lv:=λd=>tA x (bO x.s) (w x.s) d.m d.tr d.i d.us++wD (w x.s)++[(16,.int .i64 d.nm),(17,.int .i64 d.dp),(19,.int .i64 d.sg),(20,.int .i64 d.e)],st:=λ_=>[F]}
 |_=>none
def aqk(b:bN)(a:ag):List (Nat×Nat×OH):=[(12,16,aI mz),(38,2,F),(39,2,F),(39,3,F),(39,4,F),(43,4,aI mz),(43,9,aI mz),(47,1,F),(48,2,aI mz),(48,3,F),(48,4,F),(48,5,F),(48,6,F),(57,8,aI mz),(79,5,aI yA)]
noncomputable def acd:Func:={f220 with body:=some (fJ (λ_=>none) (iu f220))}
def ace(x:bN):List (Nat×aD):=[(0,.string x.s)]
noncomputable def acf(x:aF.X ov)(F:ag):jZ where
 op:=U ((aqk x F)++[])
 BK:=aqj x F
 cut:=aqi x F
 B2:=(λ_=>[])
def KG(a:bN)(e1:ag)(c d:aD)(b:St):=∃(z:ax),0<a.s.size/\(C a.s=C a.s/\T 0=T 0/\Z 0=Z 0/\c=H (bO a.s)/\H false=H false/\H false=H false/\d=Z (dd a.s)/\H false=H false/\H false=H false/\True)/\ay b [(0,e1)]
abbrev Fg:=Z ((0:Int)+1)
def KH(a:bN)(e1:ag)(c d e f:aD)(b:St):=∃(z:ax),0<a.s.size/\(C a.s=C a.s/\T 0=T 0/\Z 0=Z 0/\H (bO a.s)=H (bO a.s)/\H false=H false/\H false=H false/\Z (dd a.s)=Z (dd a.s)/\H false=H false/\H false=H false/\c=T (fl false)/\d=Z (gN false)/\e=u (ik false)/\f=H (w a.s)/\True)/\ay b [(0,e1)]
def Rg(a:bN)(e1:ag)(c d e f g:aD)(b:St):=∃(z:ax),0<a.s.size/\(C a.s=C a.s/\T 0=T 0/\Z 0=Z 0/\H (bO a.s)=H (bO a.s)/\H false=H false/\c=H (w a.s)/\d=Z (ny a.s)/\H false=H false/\H false=H false/\e=T (fl (w a.s))/\f=Z (gN (w a.s))/\g=u (ik (w a.s))/\True)/\ay b [(0,e1)]
def M4(a:bN)(z:dC):=nz a.s z/\fC a.s=qv a.s (bO a.s) (w a.s) (rP a.s (w a.s) (a.s.size-z.i).toNat z)
def Tb(a:bN)(b:aD)(z:dC)(c d e f g h i j:aD):=C a.s=C a.s/\b=T z.m/\Z 0=Z 0/\H (bO a.s)=H (bO a.s)/\c=H z.tr/\H (w a.s)=H (w a.s)/\d=Z z.i/\H false=H false/\e=H z.us/\T (fl (w a.s))=T (fl (w a.s))/\Z (gN (w a.s))=Z (gN (w a.s))/\u (ik (w a.s))=u (ik (w a.s))/\f=H z.sd/\g=H z.sg/\h=Z z.nd/\i=Z z.nm/\j=Z z.dp/\True
def yO(a:bN)(e1:ag)(c d e f g h i j k:aD)(b:St)(mm:Nat):=∃(z:dC),M4 a z/\Tb a c z d e f g h i j k/\ay b [(0,e1)]/\(a.s.size-z.i).toNat<mm
abbrev rF(i:dC):=T i.m
abbrev Ad(i:dC):=Z (i.i+1)
abbrev uB(l:dC):=Z l.nd
abbrev rE(i:dC):=Z i.nm
abbrev sX(i:dC):=Z i.dp
def XT(a:bN)(e1:ag)(c d e f g h i j k:aD)(b:St):=∃(z:dC),(nz a.s z/\fC a.s=qv a.s (bO a.s) (w a.s) z)/\Tb a c z d e f g h i j k/\ay b [(0,e1)]
def MD(x:bN)(F:ag)(l:dC):=XT x F (rF l) (H l.tr) (Z l.i) (H l.us) (H l.sd) (H l.sg) (uB l) (rE l) (sX l) [(0,F)]
def II(a:bN)(z e1:dC):=(nz a.s z/\z.i<a.s.size)/\W0.snd z=e1
def Rh(a:bN)(e1:dC)(c:ag)(e f g h i j k l m n b:aD)(d:St):=∃(z:dC),II a z e1/\(C a.s=C a.s/\e=T z.m/\Z 0=Z 0/\H (bO a.s)=H (bO a.s)/\f=H z.tr/\H (w a.s)=H (w a.s)/\g=Z z.i/\H false=H false/\h=H z.us/\T (fl (w a.s))=T (fl (w a.s))/\Z (gN (w a.s))=Z (gN (w a.s))/\u (ik (w a.s))=u (ik (w a.s))/\i=H z.sd/\j=H z.sg/\k=Z z.nd/\l=Z z.nm/\m=Z z.dp/\n=u (B a.s z.i)/\b=H (eP (B a.s z.i))/\True)/\ay d [(0,c)]
def TK(i:dC)(x:bN)(F:ag)(l:dC):=aA (i.i+1)/\yO x F (rF i) (H true) (Ad i) (H i.us) (H i.sd) (H true) (Z (i.nd+1)) (rE i) (sX i) [(0,F)] ((x.s.size-l.i).toNat)
def VV(i:dC)(x:bN)(F:ag)(l:dC):=aA (i.nd+1)/\aK (i.nm<gN (w x.s)) (aA (i.nm+1)/\aA (i.i+1)/\yO x F (T (aZ (aZ (i.m*fl (w x.s))+aZ (u8.wrap (B x.s i.i-48))))) (H i.tr) (Ad i) (H i.us) (H i.sd) (H true) (Z (i.nd+1)) (Z (i.nm+1)) (sX i) [(0,F)] ((x.s.size-l.i).toNat)) (Br (B x.s i.i !=48) (TK i x F l) (aA (i.i+1)/\yO x F (rF i) (H i.tr) (Ad i) (H i.us) (H i.sd) (H true) (Z (i.nd+1)) (rE i) (sX i) [(0,F)] ((x.s.size-l.i).toNat)))
def Ri(a:bN)(e1:dC)(c:ag)(e f g h i j k l m n b:aD)(d:St):=∃(z:dC),II a z e1/\(C a.s=C a.s/\e=T z.m/\Z 0=Z 0/\H (bO a.s)=H (bO a.s)/\f=H z.tr/\H (w a.s)=H (w a.s)/\g=Z z.i/\H false=H false/\h=H z.us/\T (fl (w a.s))=T (fl (w a.s))/\Z (gN (w a.s))=Z (gN (w a.s))/\u (ik (w a.s))=u (ik (w a.s))/\i=H z.sd/\j=H z.sg/\k=Z z.nd/\l=Z z.nm/\m=Z z.dp/\n=u (B a.s z.i)/\b=H (wA (w a.s) (B a.s z.i))/\True)/\ay d [(0,c)]
def TF(x:bN)(g:dC)(F:ag)(i:dC):=Ri x g F (rF i) (H i.tr) (Z i.i) (H i.us) (H i.sd) (H i.sg) (uB i) (rE i) (sX i) (u (B x.s i.i)) (H (true==false)) [(0,F)]
def Ud(a:bN)(z:c9):=pR a.s z/\z.dp<=1000000000/\(-1000000000:Int)<=z.dp/\z.nm<=1000000000/\fC a.s=AP a.s (bO a.s) (w a.s) z.m z.tr z.us z.i z.dp z.nm
def S_(a:bN)(b:aD)(z:c9)(c d e f g:aD):=C a.s=C a.s/\b=T z.m/\Z 0=Z 0/\H (bO a.s)=H (bO a.s)/\c=H z.tr/\H (w a.s)=H (w a.s)/\d=Z z.i/\H false=H false/\e=H z.us/\T (fl (w a.s))=T (fl (w a.s))/\Z (gN (w a.s))=Z (gN (w a.s))/\u (ik (w a.s))=u (ik (w a.s))/\f=Z z.nm/\g=Z z.dp/\True
def Rj(a:bN)(e1:ag)(c d e f g h:aD)(b:St):=∃(z:c9),Ud a z/\S_ a c z d e f g h/\ay b [(0,e1)]
def H9(a:bN)(z:c9):=pR a.s z/\fC a.s=wz a.s (bO a.s) (w a.s) z.m z.tr z.us z.i z.dp z.nm
def Rk(a:bN)(e1:ag)(c d e f g h:aD)(b:St):=∃(z:c9),H9 a z/\S_ a c z d e f g h/\ay b [(0,e1)]
abbrev ql(g:c9):=Z g.nm
abbrev rD(g:c9):=Z g.dp
def xU(g:c9)(x:bN):=0<=g.i/\g.i<x.s.size
def Rl(a:bN)(e1:ag)(c d e f g h i:aD)(b:St):=∃(z:c9),H9 a z/\(C a.s=C a.s/\c=T z.m/\Z 0=Z 0/\H (bO a.s)=H (bO a.s)/\d=H z.tr/\H (w a.s)=H (w a.s)/\e=Z z.i/\H false=H false/\f=H z.us/\T (fl (w a.s))=T (fl (w a.s))/\Z (gN (w a.s))=Z (gN (w a.s))/\u (ik (w a.s))=u (ik (w a.s))/\g=Z z.nm/\h=Z z.dp/\i=H (rO a.s (w a.s) z.i)/\True)/\ay b [(0,e1)]
def UI(a:bN)(z:c9):=pR a.s z/\(z.sg=1\/z.sg=(-1:Int))/\fC a.s=uQ a.s (bO a.s) (w a.s) z.m z.tr z.us z.i z.dp z.nm z.sg
def KI(a:bN)(e1:ag)(c d e f g h i:aD)(b:St):=∃(z:c9),UI a z/\(C a.s=C a.s/\c=T z.m/\Z 0=Z 0/\H (bO a.s)=H (bO a.s)/\d=H z.tr/\H (w a.s)=H (w a.s)/\e=Z z.i/\H false=H false/\f=H z.us/\T (fl (w a.s))=T (fl (w a.s))/\Z (gN (w a.s))=Z (gN (w a.s))/\u (ik (w a.s))=u (ik (w a.s))/\g=Z z.nm/\h=Z z.dp/\i=Z z.sg/\True)/\ay b [(0,e1)]
def HQ(x:bN)(F:ag)(i:c9):=l ov x F (al (tuple ⟨[T i.m,Z 0,H (bO x.s),H i.tr,H (w x.s),Z i.i,H false]⟩)) [(0,F)]
def Mi(a:bN)(z:c9):=pR a.s z/\(z.sg=1\/z.sg=(-1:Int))/\0<=z.e/\z.e<=100100/\(fC a.s=match k8 a.s (a.s.size-z.i).toNat z.i z.e z.us with| (c,e,b)=>qw a.s (bO a.s) (w a.s) z.m z.tr b c (z.dp+e*z.sg) z.nm)
def VB(a:bN)(z e1:c9):=(pR a.s z/\z.i<a.s.size/\(B a.s z.i==95||eP (B a.s z.i))=true)/\acb.snd z=e1
def OE(a:bN)(b:aD)(z:c9)(c d e f g h i:aD):=C a.s=C a.s/\b=T z.m/\Z 0=Z 0/\H (bO a.s)=H (bO a.s)/\c=H z.tr/\H (w a.s)=H (w a.s)/\d=Z z.i/\H false=H false/\e=H z.us/\T (fl (w a.s))=T (fl (w a.s))/\Z (gN (w a.s))=Z (gN (w a.s))/\u (ik (w a.s))=u (ik (w a.s))/\f=Z z.nm/\g=Z z.dp/\h=Z z.sg/\i=Z z.e/\True
def XU(a:bN)(e1:c9)(b:ag)(d e f g h i j k:aD)(c:St):=∃(z:c9),VB a z e1/\OE a d z e f g h i j k/\ay c [(0,b)]
def U8(x:bN)(d:c9)(F:ag)(g:c9):=XU x d F (nj g) (H g.tr) (sY g) (H g.us) (ql g) (rD g) (Z g.sg) (Z g.e) [(0,F)]
def Ui(a:bN)(z:c9):=pR a.s z/\(z.sg=1\/z.sg=(-1:Int))/\0<=z.e/\z.e<=100100/\fC a.s=qw a.s (bO a.s) (w a.s) z.m z.tr z.us z.i (z.dp+z.e*z.sg) z.nm
def Xv(a:bN)(e1:ag)(c d e f g h i j:aD)(b:St):=∃(z:c9),Ui a z/\OE a c z d e f g h i j/\ay b [(0,e1)]
def UU(x:bN)(F:ag)(g:c9):=Xv x F (nj g) (H g.tr) (sY g) (H g.us) (ql g) (rD g) (Z g.sg) (Z g.e) [(0,F)]
def Tc(g:c9)(x:bN)(d:c9)(F:ag):=xU g x/\Br (B x.s g.i==95) (U8 x d F g) (UU x F g)
def JM(a:bN)(e1:ag)(c d e f g h i j:aD)(b:St)(mm:Nat):=∃(z:c9),Mi a z/\OE a c z d e f g h i j/\ay b [(0,e1)]/\(a.s.size-z.i).toNat<mm
def TJ(z:c9)(a:bN):=0<=z.i/\z.i<=a.s.size/\0<=z.nm/\z.nm<=5000000000/\(-6000000000:Int)<=z.dp/\z.dp<=6000000000/\fC a.s=qw a.s (bO a.s) (w a.s) z.m z.tr z.us z.i z.dp z.nm
def PO(a:bN)(e1:ag)(c d e f g h:aD)(b:St):=∃(z:c9),TJ z a/\(C a.s=C a.s/\c=T z.m/\Z 0=Z 0/\H (bO a.s)=H (bO a.s)/\d=H z.tr/\H (w a.s)=H (w a.s)/\e=Z z.i/\H false=H false/\f=H z.us/\g=Z z.nm/\h=Z z.dp/\True)/\ay b [(0,e1)]
def Up(z:c9)(a:bN):=0<=z.i/\z.i<=a.s.size/\fC a.s=⟨z.m,z.e,bO a.s,z.tr,w a.s,z.i,!bif z.us then !qy (a.s.extract 0 z.i.toNat) else false⟩
def PP(a:bN)(e1:ag)(c d e f g:aD)(b:St):=∃(z:c9),Up z a/\(C a.s=C a.s/\c=T z.m/\d=Z z.e/\H (bO a.s)=H (bO a.s)/\e=H z.tr/\H (w a.s)=H (w a.s)/\f=Z z.i/\H false=H false/\g=H z.us/\True)/\ay b [(0,e1)]
def Uq(x:bN)(F:ag)(d:c9):=l ov x F (al (tuple ⟨[T d.m,Z d.e,H (bO x.s),H d.tr,H (w x.s),Z d.i,H true]⟩)) [(0,F)]
def aqn(x:bN)(F:ag)(hc:ov.cond x)(hr:ov.aE x F):aK (0>=(x.s.size:Int)) (l ov x F (al (tuple ⟨[T 0,Z 0,H false,H false,H false,Z 0,H false]⟩)) [(0,F)]) ((sP x/\Br (xS x) (aA ((0:Int)+1)/\KG x F cM Fg [(0,F)]) (Br (vV x) (aA ((0:Int)+1)/\KG x F (H true) Fg [(0,F)]) (KG x F cM (Z 0) [(0,F)])))/\aQ λ(n:ax)_=>0<x.s.size->((aA (dd x.s+2)/\aK (dd x.s+2<(x.s.size:Int)) ((0<=dd x.s/\dd x.s<x.s.size)/\Br (B x.s (dd x.s)==48) (aA (dd x.s+1)/\(0<=dd x.s+1/\dd x.s+1<(x.s.size:Int))/\pj [u (B x.s (dd x.s+1))] (λc b=>KH x F (T 10) (Z 19) (u 101) (H (eI c.c==120)) [(0,F)])) (KH x F (T 10) (Z 19) (u 101) cM [(0,F)])) (KH x F (T 10) (Z 19) (u 101) cM [(0,F)]))/\aQ λ(c:ax)_=>0<x.s.size->Br (w x.s) (aA (dd x.s+2)/\Rg x F (H true) (Z (dd x.s+2)) (T 16) (Z 16) (u 112) [(0,F)]) (Rg x F cM (Z (dd x.s)) (T (fl false)) (Z (gN false)) (u (ik false)) [(0,F)]))/\aQ λ(s:ax)_=>0<x.s.size->((∃(a:dC),M4 x a/\(C x.s=C x.s/\T 0=T a.m/\Z 0=Z 0/\H (bO x.s)=H (bO x.s)/\H false=H a.tr/\H (w x.s)=H (w x.s)/\Z (ny x.s)=Z a.i/\H false=H false/\H false=H a.us/\T (fl (w x.s))=T (fl (w x.s))/\Z (gN (w x.s))=Z (gN (w x.s))/\u (ik (w x.s))=u (ik (w x.s))/\H false=H a.sd/\H false=H a.sg/\Z 0=Z a.nd/\Z 0=Z a.nm/\Z 0=Z a.dp/\True)/\ay [(0,F)] [(0,F)])/\aQ λ(p:dC)_=>M4 x p->aK (p.i<x.s.size) ((0<=p.i/\p.i<x.s.size)/\Br (true==(B x.s p.i==95)) (aA (p.i+1)/\yO x F (rF p) (H p.tr) (Ad p) (H true) (H p.sd) (H p.sg) (uB p) (rE p) (sX p) [(0,F)] ((x.s.size-p.i).toNat)) (Br (true==(B x.s p.i==46)) (Br p.sd (MD x F p) (aA (p.i+1)/\yO x F (rF p) (H p.tr) (Ad p) (H p.us) (H true) (H p.sg) (uB p) (rE p) (uB p) [(0,F)] ((x.s.size-p.i).toNat))) (∃(j:dC),aK (48<=B x.s p.i) (Rh x j F (rF p) (H p.tr) (Z p.i) (H p.us) (H p.sd) (H p.sg) (uB p) (rE p) (sX p) (u (B x.s p.i)) (H (true==decide (B x.s p.i<=57))) [(0,F)]) (Rh x j F (rF p) (H p.tr) (Z p.i) (H p.us) (H p.sd) (H p.sg) (uB p) (rE p) (sX p) (u (B x.s p.i)) (H (true==false)) [(0,F)])/\aQ λ(i:dC)_=>II x i j->Br (eP (B x.s i.i)) (Br (B x.s i.i==48) (Br (i.nd==0) (aA (i.dp-1)/\aA (i.i+1)/\yO x F (rF i) (H i.tr) (Ad i) (H i.us) (H i.sd) (H true) (uB i) (rE i) (Z (i.dp-1)) [(0,F)] ((x.s.size-p.i).toNat)) (VV i x F p)) (VV i x F p)) (∃(g:dC),Br (fl (w x.s)==16) (pj [u (B x.s i.i)] (λf d=>aK (97<=eI f.c) (pj [u (B x.s i.i)] (λc b=>Ri x g F (rF i) (H i.tr) (Z i.i) (H i.us) (H i.sd) (H i.sg) (uB i) (rE i) (sX i) (u (B x.s i.i)) (H (true==decide (eI c.c<=102))) [(0,F)])) (TF x g F i))) (TF x g F i)/\aQ λ(f:dC)_=>II x f g->Br (wA (w x.s) (B x.s f.i)) (aA (f.nd+1)/\aK (f.nm<gN (w x.s)) (pj [u (B x.s f.i)] (λc b=>aA (f.nm+1)/\aA (f.i+1)/\yO x F (T (aZ (aZ (f.m*16)+aZ (u8.wrap (u8.wrap (eI c.c-97)+10))))) (H f.tr) (Ad f) (H f.us) (H f.sd) (H true) (Z (f.nd+1)) (Z (f.nm+1)) (sX f) [(0,F)] ((x.s.size-p.i).toNat))) (TK f x F p)) (MD x F f))))) (MD x F p))/\aQ λ(q:dC)_=>(nz x.s q/\fC x.s=qv x.s (bO x.s) (w x.s) q)->Br (!q.sg) (l ov x F (al (tuple ⟨[T q.m,Z 0,H (bO x.s),H q.tr,H (w x.s),Z q.i,H false]⟩)) [(0,F)]) (Br (!q.sd) (Rj x F (rF q) (H q.tr) (Z q.i) (H q.us) (rE q) (uB q) [(0,F)]) (Rj x F (rF q) (H q.tr) (Z q.i) (H q.us) (rE q) (sX q) [(0,F)])/\aQ λ(o:c9)_=>Ud x o->Br (fl (w x.s)==16) (aA (o.dp*4)/\aA (o.nm*4)/\Rk x F (nj o) (H o.tr) (sY o) (H o.us) (Z (o.nm*4)) (Z (o.dp*4)) [(0,F)]) (Rk x F (nj o) (H o.tr) (sY o) (H o.us) (ql o) (rD o) [(0,F)])/\aQ λ(m:c9)_=>H9 x m->(aK (m.i<x.s.size) (xU m x/\pj [u (B x.s m.i)] (λc b=>Rl x F (nj m) (H m.tr) (sY m) (H m.us) (ql m) (rD m) (H (eI c.c==ik (w x.s))) [(0,F)])) (Rl x F (nj m) (H m.tr) (sY m) (H m.us) (ql m) (rD m) cM [(0,F)])/\aQ λ(k:c9)_=>H9 x k->Br (rO x.s (w x.s) k.i) (aA (k.i+1)/\aK (k.i+1>=(x.s.size:Int)) (l ov x F (al (tuple ⟨[T k.m,Z 0,H (bO x.s),H k.tr,H (w x.s),Z (k.i+1),H false]⟩)) [(0,F)]) (((0<=k.i+1/\k.i+1<(x.s.size:Int))/\Br (B x.s (k.i+1)==43) (aA (k.i+1+(1:Int))/\KI x F (nj k) (H k.tr) (Z (k.i+1+(1:Int))) (H k.us) (ql k) (rD k) (Z 1) [(0,F)]) (Br (B x.s (k.i+1)==45) (aA (k.i+1+(1:Int))/\KI x F (nj k) (H k.tr) (Z (k.i+1+(1:Int))) (H k.us) (ql k) (rD k) mN [(0,F)]) (KI x F (nj k) (H k.tr) (Z (k.i+1)) (H k.us) (ql k) (rD k) (Z 1) [(0,F)])))/\aQ λ(i:c9)_=>UI x i->aK (i.i>=x.s.size) (HQ x F i) (xU i x/\aK (B x.s i.i<48) (HQ x F i) (xU i x/\aK (B x.s i.i>57) (HQ x F i) (((∃(a:c9),Mi x a/\(C x.s=C x.s/\T i.m=T a.m/\Z 0=Z 0/\H (bO x.s)=H (bO x.s)/\H i.tr=H a.tr/\H (w x.s)=H (w x.s)/\Z i.i=Z a.i/\H false=H false/\H i.us=H a.us/\T (fl (w x.s))=T (fl (w x.s))/\Z (gN (w x.s))=Z (gN (w x.s))/\u (ik (w x.s))=u (ik (w x.s))/\Z i.nm=Z a.nm/\Z i.dp=Z a.dp/\Z i.sg=Z a.sg/\Z 0=Z a.e/\True)/\ay [(0,F)] [(0,F)])/\aQ λ(g:c9)_=>Mi x g->∃(d:c9),aK (g.i<x.s.size) (xU g x/\aK (48<=B x.s g.i) (xU g x/\aK (B x.s g.i<=57) (U8 x d F g) (Tc g x d F)) (Tc g x d F)) (UU x F g)/\aQ λ(c:c9)_=>VB x c d->xU c x/\Br (B x.s c.i==95) (aA (c.i+1)/\JM x F (nj c) (H c.tr) (Z (c.i+1)) (H true) (ql c) (rD c) (Z c.sg) (Z c.e) [(0,F)] ((x.s.size-g.i).toNat)) (aK (c.e<10000) (aA (c.e*10)/\xU c x/\aA (B x.s c.i)/\aA (c.e*10+B x.s c.i)/\aA (c.e*10+B x.s c.i-48)/\aA (c.i+1)/\JM x F (nj c) (H c.tr) (Z (c.i+1)) (H c.us) (ql c) (rD c) (Z c.sg) (Z (c.e*10+B x.s c.i-48)) [(0,F)] ((x.s.size-g.i).toNat)) (aA (c.i+1)/\JM x F (nj c) (H c.tr) (Z (c.i+1)) (H c.us) (ql c) (rD c) (Z c.sg) (Z c.e) [(0,F)] ((x.s.size-g.i).toNat))))/\aQ λ(c:c9)_=>Ui x c->aA (c.e*c.sg)/\aA (c.dp+c.e*c.sg)/\PO x F (nj c) (H c.tr) (sY c) (H c.us) (ql c) (Z (c.dp+c.e*c.sg)) [(0,F)]))))) (Br (fl (w x.s)==16) (HQ x F k) (PO x F (nj k) (H k.tr) (sY k) (H k.us) (ql k) (rD k) [(0,F)])))/\aQ λ(g:c9)_=>TJ g x->Br (g.m !=0) (aA (g.dp-g.nm)/\PP x F (nj g) (Z (g.dp-g.nm)) (H g.tr) (sY g) (H g.us) [(0,F)]) (PP x F (nj g) (Z 0) (H g.tr) (sY g) (H g.us) [(0,F)])/\aQ λ(d:c9)_=>Up d x->Br d.us (((0:Int)<=0/\0<=d.i/\d.i<=x.s.size)/\cG 201 yA (λb=>b.s.size<=1000000000) [C (x.s.extract (Int.toNat (0:Int)) d.i.toNat)] (λb a=>Br (!qy b.s) (l ov x F (al (tuple ⟨[T d.m,Z d.e,H (bO x.s),H d.tr,H (w x.s),Z d.i,H false]⟩)) [(0,F)]) (Uq x F d))) (Uq x F d))):=by
 delta sP xS KG cM Fg vV pj KH Rg M4 Tb yO rF Ad uB rE sX XT MD II Rh TK VV Ri TF Ud S_ Rj H9 Rk nj sY ql rD xU Rl UI KI mN HQ Mi VB OE XU U8 Ui Xv UU Tc JM TJ PO Up PP Uq aA fv cG Z u T C H aZ aK al aQ;obtain⟨s⟩:=x;have hc:s.size<=1000000000:=hc;dsimp only;have J:ay [(0,F)] [(0,F)]:=ao [0];have ae:∀r:r9,fC s=r->l ov ⟨s⟩ F (returned (Pn r)) [(0,F)]:=λr e=>
  ⟨(),ai,by show _=returned (Pn (fC s));rw[e],J⟩
 have hB:∀i,0<=B s i/\B s i<=255:=λi=>by{rw[gR];have:=ir s i.toNat;omega};have hI:0<=dd s/\dd s<=1:=by{unfold dd;grind};have tt:∀b:Bool,(true==b)=b:=λb=>by cases b <;> rfl
 refine bd (λh0=>ae (Dh false false 0 false 0) (by unfold fC;grind)) (λh0=>?_);have hV:fC s=qv s (bO s) (w s) (rP s (w s) ((s.size:Int)-ny s).toNat ⟨ny s,0,0,0,0,false,false,false,false⟩):=by unfold fC;grind
 have hp:0<s.size:=O;have hJ:0<=ny s/\ny s<=s.size:=by
  unfold ny;cases hh:w s with
  |true=>
   unfold w at hh;grind
  |false=>rw[y];omega
 refine⟨⟨⟨cH _,O⟩, ?_⟩,λ_ js _=>⟨⟨⟨aC, ?_⟩,λ_ js _=>?_⟩,λ_ js _=>⟨⟨?_, ?_⟩, ?_⟩⟩⟩;refine ar (λh=>⟨aC,(),hp, ?_,J⟩) (λh=>ar (λW=>⟨aC,(),hp, ?_,J⟩) (λW=>⟨(),hp, ?_,J⟩));have a:bO s=false:=by unfold bO;simp[*]
 have b:dd s=1:=by unfold dd;simp[*]
 simp[*];have a:bO s=true:=by unfold bO;simp[*]
 have b:dd s=1:=by unfold dd;simp[*]
 simp[*];have a:bO s=false:=by unfold bO;simp[*]
 have b:dd s=0:=by unfold dd;simp[*]
 simp[*];refine bd (λh=>⟨⟨hI.1,O⟩,ar (λW=>⟨aC,aC,sF,rfl,⟨_⟩,rfl,rfl,ai,ai,λ_ _=>⟨(),hp, ?_,J⟩⟩) (λW=>⟨(),hp, ?_,J⟩)⟩) (λh=>⟨(),hp, ?_,J⟩);have a:w s=(eI (B s (dd s+1))==120):=by unfold w;simp[*]
 rw[a];exact(by(repeat refine⟨rfl, ?_⟩);omega);have a:w s=false:=by unfold w;simp[*]
 rw[a];exact(by(repeat refine⟨rfl, ?_⟩);simp[*]);have a:w s=false:=by unfold w;simp[*]
 rw[a];exact(by(repeat refine⟨rfl, ?_⟩);simp[*]);refine ar (λh=>⟨aC,(),hp, ?_,J⟩) (λh=>⟨(),hp, ?_,J⟩);have b:ny s=dd s+2:=by unfold ny;simp[*]
 rw[b,show w s=true from h];exact(by(repeat refine⟨rfl, ?_⟩);simp[*]);have b:ny s=dd s:=by unfold ny;simp[*]
 simp[*];exact⟨⟨ny s,0,0,0,0,false,false,false,false⟩,⟨⟨hJ.1,hJ.2,by simp[*],by simp[*],by simp[*],hJ.1,by simp[*],hJ.1,by simp[*],hJ.1⟩,hV⟩,(by simp[*]),J⟩
 ·generalize x9:w s=A;generalize y1:bO s=ng;rw[x9,y1]at hV;intro d js hd;obtain⟨x3,z⟩:=hd;have y2:=x3;obtain⟨D,K,G,I,L,R,S,V,k9,y3⟩:=y2;have x2:rP s A ((s.size:Int)-d.i).toNat d=d->∃(x1:dC),(nz s x1/\fC s=qv s ng A x1)/\(string s=string s/\int .u64 d.m=int .u64 x1.m/\int .i64 0=int .i64 0/\bool ng=bool ng/\bool d.tr=bool x1.tr/\bool A=bool A/\int .i64 d.i=int .i64 x1.i/\bool false=bool false/\bool d.us=bool x1.us/\int .u64 (fl A)=int .u64 (fl A)/\int .i64 (gN A)=int .i64 (gN A)/\int .u8 (ik A)=int .u8 (ik A)/\bool d.sd=bool x1.sd/\bool d.sg=bool x1.sg/\int .i64 d.nd=int .i64 x1.nd/\int .i64 d.nm=int .i64 x1.nm/\int .i64 d.dp=int .i64 x1.dp/\True)/\ay [(0,F)] [(0,F)]:=λe=>⟨d,⟨x3,by rw[z,e]⟩,(by simp[*]),J⟩;refine bd (λx4=>?_) (λz5=>x2 ?_)
  ·obtain⟨k,U⟩:∃k,((s.size:Int)-d.i).toNat=k+1:=⟨((s.size:Int)-d.i).toNat-1,O⟩;have x5:ou s A d=none->rP s A ((s.size:Int)-d.i).toNat d=d:=λe=>by rw[U,rP,e]
   rw[U]at z;have nx:∀y0:dC,ou s A d=some y0->nz s y0->y0.i=d.i+1->∃(t:dC),(nz s t/\fC s=qv s ng A (rP s A ((s.size:Int)-t.i).toNat t))/\(string s=string s/\int .u64 y0.m=int .u64 t.m/\int .i64 0=int .i64 0/\bool ng=bool ng/\bool y0.tr=bool t.tr/\bool A=bool A/\int .i64 y0.i=int .i64 t.i/\bool false=bool false/\bool y0.us=bool t.us/\int .u64 (fl A)=int .u64 (fl A)/\int .i64 (gN A)=int .i64 (gN A)/\int .u8 (ik A)=int .u8 (ik A)/\bool y0.sd=bool t.sd/\bool y0.sg=bool t.sg/\int .i64 y0.nd=int .i64 t.nd/\int .i64 y0.nm=int .i64 t.nm/\int .i64 y0.dp=int .i64 t.dp/\True)/\ay [(0,F)] [(0,F)]/\((s.size:Int)-t.i).toNat<((s.size:Int)-d.i).toNat:=λy0 e1 e2 e3=>
    ⟨y0,⟨e2,by rw[z,rP,e1,show((s.size:Int)-y0.i).toNat=k by omega]⟩,(by simp[*]),J,O⟩
   have x0: -9223372036854775808<=d.i+1/\d.i+1<=9223372036854775807:=aC;refine⟨⟨D,x4⟩,ar (λh1=>⟨x0, ?_⟩) (λh1=>ar (λW=>ar (λh3=>?_) (λh3=>⟨x0, ?_⟩)) (λW=>?_))⟩;have h1:(B s d.i==95)=true:=(tt _).symm.trans h1;exact nx ⟨d.i+1,d.m,d.nd,d.nm,d.dp,true,d.tr,d.sd,d.sg⟩ (by unfold ou;simp[*]) ⟨by grind,by grind,G,I,L,by grind,by grind,by grind,k9,by grind⟩ rfl;have h1:(B s d.i==95)=false:=(tt _).symm.trans h1;have W:(B s d.i==46)=true:=(tt _).symm.trans W;exact x2 (x5 (by unfold ou;simp[*]));have h1:(B s d.i==95)=false:=(tt _).symm.trans h1;have W:(B s d.i==46)=true:=(tt _).symm.trans W;exact nx ⟨d.i+1,d.m,d.nd,d.nm,d.nd,d.us,d.tr,true,d.sg⟩ (by unfold ou;simp[*]) ⟨by grind,by grind,G,I,L,by grind,by grind,by grind,k9,by grind⟩ rfl;have h1:(B s d.i==95)=false:=(tt _).symm.trans h1;have W:(B s d.i==46)=false:=(tt _).symm.trans W;refine⟨(d:dC), ?_, ?_⟩;refine ar (λq=>⟨d,⟨⟨x3,x4⟩,rfl⟩, ?_,J⟩) (λq=>⟨d,⟨⟨x3,x4⟩,rfl⟩, ?_,J⟩);have:eP (B s d.i)=(true==decide (B s d.i<=57)):=by unfold eP;simp[*]
   simp[*];have:eP (B s d.i)=(true==false):=by unfold eP;simp[*]
   simp[*];intro v y9 x6;obtain⟨_,he⟩:=x6;have he:v=d:=he;subst he;refine ar (λh3=>?_) (λh3=>?_)
   ·have h3:eP (B s v.i)=true:=h3;have y6:48<=B s v.i/\B s v.i<=57:=by
     unfold eP at h3;grind
    have y4: -9223372036854775808<=v.nd+1/\v.nd+1<=9223372036854775807:=aC;have y5: -9223372036854775808<=v.nm+1/\v.nm+1<=9223372036854775807:=aC;have x7:(bif B s v.i==48 then v.nd==0 else false)=false->∀(h4:decide (v.nm<gN A)=true),ou s A v=some ⟨v.i+1,WZ A v.m (B s v.i),v.nd+1,v.nm+1,v.dp,v.us,v.tr,v.sd,true⟩:=λe h4=>by unfold ou;simp[*]
    have low:(bif B s v.i==48 then v.nd==0 else false)=false->∀(h4:decide (v.nm<gN A)=false),ou s A v=some ⟨v.i+1,v.m,v.nd+1,v.nm,v.dp,v.us,(bif B s v.i !=48 then true else v.tr),v.sd,true⟩:=λe h4=>by unfold ou;simp[*]
    have okB:nz s ⟨v.i+1,WZ A v.m (B s v.i),v.nd+1,v.nm+1,v.dp,v.us,v.tr,v.sd,true⟩:=⟨by grind,by grind,(gA _).1,(gA _).2,by grind,by simp[*],by grind,by grind,by grind,by simp[*]⟩;have z7:∀b,nz s ⟨v.i+1,v.m,v.nd+1,v.nm,v.dp,v.us,b,v.sd,true⟩:=λb=>⟨by grind,by grind,G,I,by grind,by simp[*],by grind,by grind,k9,by grind⟩;refine ar (λh4=>ar (λh5=>⟨aC,x0, ?_⟩) (λh5=>⟨y4,ar (λh6=>⟨y5,x0, ?_⟩) (λh6=>ar (λh7=>⟨x0, ?_⟩) (λh7=>⟨x0, ?_⟩))⟩)) (λh4=>⟨y4,ar (λh6=>⟨y5,x0, ?_⟩) (λh6=>ar (λh7=>⟨x0, ?_⟩) (λh7=>⟨x0, ?_⟩))⟩);exact nx ⟨v.i+1,v.m,v.nd,v.nm,v.dp-1,v.us,v.tr,v.sd,true⟩ (by unfold ou;simp[*]) ⟨by grind,by grind,G,I,L,by grind,by grind,by grind,k9,by grind⟩ rfl;exact nx _ (x7 (by simp[*]) h6) okB rfl;grind;grind;exact nx _ (x7 (by simp[*]) h6) okB rfl
    all_goals grind
   have h3:eP (B s v.i)=false:=h3;refine⟨(v:dC), ?_, ?_⟩;refine ar (λq=>⟨sF,rfl,⟨_⟩,rfl,rfl,ai,ai,λ_ _=>ar (λq2=>⟨sF,rfl,⟨_⟩,rfl,rfl,ai,ai,λ_ _=>⟨v,⟨⟨x3,x4⟩,rfl⟩, ?_,J⟩⟩) (λq2=>⟨v,⟨⟨x3,x4⟩,rfl⟩, ?_,J⟩)⟩) (λq=>⟨v,⟨⟨x3,x4⟩,rfl⟩, ?_,J⟩);have:wA A (B s v.i)=(true==decide (eI (B s v.i)<=102)):=by unfold wA;rw[show(fl A==16)=true from q,show decide (97<=eI (B s v.i))=true from q2,tt] <;> rfl
   rw[this];exact(by(repeat refine⟨rfl, ?_⟩);omega);have:wA A (B s v.i)=(true==false):=by unfold wA;rw[show(fl A==16)=true from q,show decide (97<=eI (B s v.i))=false from q2] <;> rfl
   simp[*];have:wA A (B s v.i)=(true==false):=by unfold wA;simp[*]
   simp[*];intro M z3 x8;obtain⟨_,he⟩:=x8;have he:M=v:=he;subst he;refine ar (λh4=>?_) (λh4=>x2 (x5 (by unfold ou;simp[*])));refine⟨aC,ar (λh5=>⟨sF,rfl,⟨_⟩,rfl,rfl,ai,ai,λ_ _=>⟨aC,x0, ?_⟩⟩) (λh5=>⟨x0, ?_⟩)⟩;exact nx ⟨M.i+1,zrG M.m (B s M.i),M.nd+1,M.nm+1,M.dp,M.us,M.tr,M.sd,true⟩ (by unfold ou;simp[*]) ⟨by grind,by grind,(gA _).1,(gA _).2,by grind,by simp[*],by grind,by grind,by grind,by simp[*]⟩ rfl;exact nx ⟨M.i+1,M.m,M.nd+1,M.nm,M.dp,M.us,true,M.sd,true⟩ (by unfold ou;simp[*]) ⟨by grind,by grind,G,I,by grind,by simp[*],by grind,by grind,k9,by grind⟩ rfl
  rw[show((s.size:Int)-d.i).toNat=0 by omega,rP]
 generalize x9:w s=A;generalize y1:bO s=ng;intro d js hd;obtain⟨⟨D,K,G,I,L,R,S,V,k9,y3⟩,z⟩:=hd;refine ar (λh=>ae ⟨d.m,0,ng,d.tr,A,d.i,false⟩ (by rw[z];unfold qv;rw[show(!d.sg)=true from h] <;> rfl)) (λh=>⟨ar (λW=>⟨⟨d.m,d.tr,d.us,d.i,d.nd,d.nm,0,0⟩,⟨⟨D,K,G,I,by grind,by grind,k9,by grind⟩,by grind,by grind,by grind,by rw[z];unfold qv;simp[*]⟩,(by simp[*]),J⟩) (λW=>⟨⟨d.m,d.tr,d.us,d.i,d.dp,d.nm,0,0⟩,⟨⟨D,K,G,I,by grind,by grind,k9,by grind⟩,by grind,by grind,by grind,by rw[z];unfold qv;simp[*]⟩,(by simp[*]),J⟩), ?_⟩);clear z D K G I L R S V k9 y3 h;rintro⟨m,E,Q,i,N,P,Y,e⟩ js ⟨⟨D,K,G,I,L,R,S,V⟩,j1,j2,j3,z⟩;dsimp only at D K G I L R S V j1 j2 j3 z⊢;refine⟨ar (λh=>⟨aC,aC,⟨m,E,Q,i,N*4,P*4,0,0⟩,⟨⟨D,K,G,I,by grind,by grind,by grind,by grind⟩,by rw[z];unfold AP;simp[*]⟩,(by simp[*]),J⟩) (λh=>⟨⟨m,E,Q,i,N,P,0,0⟩,⟨⟨D,K,G,I,L,R,S,V⟩,by rw[z];unfold AP;simp[*]⟩,(by simp[*]),J⟩), ?_⟩;clear z D K G I L R S V j1 j2 j3;rintro⟨m,E,Q,i,N,P,Y,e⟩ js ⟨⟨D,K,G,I,L,R,S,V⟩,z⟩;dsimp only at D K G I L R S V z⊢;have hq:∀Y e,pR s ⟨m,E,Q,i,N,P,Y,e⟩:=λ_ _=>⟨D,K,G,I,L,R,S,V⟩;refine⟨⟨bd (λh=>⟨⟨D,h⟩,sF,rfl,⟨_⟩,rfl,rfl,ai,ai,λ_ _=>⟨⟨m,E,Q,i,N,P,0,0⟩,⟨hq 0 0,z⟩, ?_,J⟩⟩) (λh=>⟨⟨m,E,Q,i,N,P,0,0⟩,⟨hq 0 0,z⟩, ?_,J⟩), ?_⟩, ?_⟩;have:rO s A i=(eI (B s i)==ik A):=by unfold rO;simp[*]
 dsimp only;rw[this];exact(by(repeat refine⟨rfl, ?_⟩);omega);have:rO s A i=false:=by unfold rO;simp[*]
 simp[*];clear z D K G I L R S V hq;rintro⟨m,E,Q,i,N,P,Y,e⟩ js ⟨⟨D,K,G,I,L,R,S,V⟩,z⟩;dsimp only at D K G I L R S V z⊢;refine ar (λh=>?_) (λh=>ar (λW=>ae ⟨m,0,ng,E,A,i,false⟩ (by rw[z];unfold wz;rw[show rO s A i=false from h,show(fl A==16)=true from W] <;> rfl)) (λW=>⟨⟨m,E,Q,i,N,P,0,0⟩,⟨D,K,S,V,by grind,by grind,by rw[z];unfold wz;simp[*]⟩,(by simp[*]),J⟩));have z:fC s=Dg s ng A m E Q i N P:=by rw[z];unfold wz;simp[*]
 have y8:i<s.size:=by{have h:rO s A i=true:=h;unfold rO at h;grind};refine⟨aC,bd (λh1=>ae ⟨m,0,ng,E,A,i+1,false⟩ (by rw[z];unfold Dg;rw[bp h1] <;> rfl)) (λh1=>⟨⟨aC,ar (λW=>⟨aC,⟨m,E,Q,i+1+1,N,P,1,0⟩,⟨⟨by grind,by grind,G,I,L,R,S,V⟩,.inl rfl,by rw[z];unfold Dg;simp[*]⟩,(by simp[*]),J⟩) (λW=>ar (λh3=>⟨aC,⟨m,E,Q,i+1+1,N,P,-1,0⟩,⟨⟨by grind,by grind,G,I,L,R,S,V⟩,.inr rfl,by rw[z];unfold Dg;simp[*]⟩,(by simp[*]),J⟩) (λh3=>⟨⟨m,E,Q,i+1,N,P,1,0⟩,⟨⟨by grind,by grind,G,I,L,R,S,V⟩,.inl rfl,by rw[z];unfold Dg;simp[*]⟩,(by simp[*]),J⟩))⟩, ?_⟩)⟩;clear z D K G I L R S V h h1 y8;rintro⟨m,E,Q,i,N,P,Y,e⟩ js ⟨⟨D,K,G,I,L,R,S,V⟩,X,z⟩;dsimp only at D K G I L R S V X z⊢;refine bd (λh1=>ae ⟨m,0,ng,E,A,i,false⟩ (by rw[z];unfold uQ;rw[bp h1] <;> rfl)) (λh1=>⟨⟨D,O⟩,bd (λW=>ae ⟨m,0,ng,E,A,i,false⟩ (by rw[z];unfold uQ;rw[bF h1,bp W] <;> rfl)) (λW=>⟨⟨D,O⟩,bd (λh3=>ae ⟨m,0,ng,E,A,i,false⟩ (by rw[z];unfold uQ;rw[bF h1,bF W,bp h3] <;> rfl)) (λh3=>?_)⟩)⟩);have z:fC s=(match k8 s ((s.size:Int)-i).toNat i 0 Q with| (i3,e,z2)=>qw s ng A m E z2 i3 (N+e*Y) P):=by rw[z];unfold uQ;simp[*]
 refine⟨⟨⟨⟨m,E,Q,i,N,P,Y,0⟩,⟨⟨D,K,G,I,L,R,S,V⟩,X,by simp[*],by simp[*],z⟩,(by simp[*]),J⟩, ?_⟩, ?_⟩;clear z D K G I L R S V h1 W h3 X;rintro⟨m,E,Q,i,N,P,Y,e⟩ js ⟨⟨D,K,G,I,L,R,S,V⟩,X,e1,e2,z⟩;dsimp only at D K G I L R S V X e1 e2 z⊢;refine⟨(⟨m,E,Q,i,N,P,Y,e⟩:c9), ?_, ?_⟩;have hq:pR s ⟨m,E,Q,i,N,P,Y,e⟩:=⟨D,K,G,I,L,R,S,V⟩;have out:(∀k,((s.size:Int)-i).toNat=k+1->(B s i==95)=false/\eP (B s i)=false)->fC s=qw s ng A m E Q i (N+e*Y) P:=λh=>by
  rw[z];cases U:((s.size:Int)-i).toNat with
  |zero=>rfl
  |succ k=>
   rw[k8,(h k U).1,(h k U).2] <;> rfl
 have dg:(48<=B s i)->(B s i<=57)->eP (B s i)=true:=λa b=>by unfold eP;simp[*]
 have z0:¬(48<=B s i)->eP (B s i)=false:=λa=>by unfold eP;simp[*]
 have z1:¬(B s i<=57)->eP (B s i)=false:=λa=>by unfold eP;rw[bF a];cases decide (48<=B s i) <;> rfl
 refine bd (λh=>⟨⟨D,h⟩,bd (λW=>⟨⟨D,h⟩,bd (λh3=>⟨⟨m,E,Q,i,N,P,Y,e⟩,⟨⟨hq,h,by simp[*]⟩,rfl⟩,(by simp[*]),J⟩) (λh3=>⟨⟨D,h⟩,ar (λh4=>⟨⟨m,E,Q,i,N,P,Y,e⟩,⟨⟨hq,h,by simp[*]⟩,rfl⟩,(by simp[*]),J⟩) (λh4=>⟨⟨m,E,Q,i,N,P,Y,e⟩,⟨hq,X,e1,e2,out λk U=>⟨h4,z1 h3⟩⟩,(by simp[*]),J⟩)⟩)⟩) (λW=>⟨⟨D,h⟩,ar (λh4=>⟨⟨m,E,Q,i,N,P,Y,e⟩,⟨⟨hq,h,by simp[*]⟩,rfl⟩,(by simp[*]),J⟩) (λh4=>⟨⟨m,E,Q,i,N,P,Y,e⟩,⟨hq,X,e1,e2,out λk U=>⟨h4,z0 W⟩⟩,(by simp[*]),J⟩)⟩)⟩) (λh=>⟨⟨m,E,Q,i,N,P,Y,e⟩,⟨hq,X,e1,e2,out λk U=>O⟩,(by simp[*]),J⟩);intro v y9 x6;obtain⟨⟨_,hl,y7⟩,he⟩:=x6;have he:v=⟨m,E,Q,i,N,P,Y,e⟩:=he;subst he;dsimp only at hl y7⊢;obtain⟨k,U⟩:∃k,((s.size:Int)-i).toNat=k+1:=⟨((s.size:Int)-i).toNat-1,O⟩;rw[U,k8]at z;have z6:((s.size:Int)-(i+1)).toNat=k:=O;refine⟨⟨D,hl⟩,ar (λh4=>⟨aC,⟨m,E,true,i+1,N,P,Y,e⟩,⟨⟨by grind,by grind,G,I,L,R,S,V⟩,X,e1,e2,by grind⟩,(by simp[*]),J,by simp[*]⟩) (λh4=>?_)⟩;have h4:(B s i==95)=false:=h4;have hD:eP (B s i)=true:=by grind
 have y6:48<=B s i/\B s i<=57:=by{unfold eP at hD;grind};refine bd (λh5=>⟨aC,⟨D,hl⟩,aC,aC,aC,aC,⟨m,E,Q,i+1,N,P,Y,e*10+B s i-48⟩,⟨⟨by grind,by grind,G,I,L,R,S,V⟩,X,by grind,by grind,by grind⟩,(by simp[*]),J,by simp[*]⟩) (λh5=>⟨aC,⟨m,E,Q,i+1,N,P,Y,e⟩,⟨⟨by grind,by grind,G,I,L,R,S,V⟩,X,e1,e2,by grind⟩,(by simp[*]),J,by simp[*]⟩);clear z D K G I L R S V h1 W h3 X;rintro⟨m,E,Q,i,N,P,Y,e⟩ js ⟨⟨D,K,G,I,L,R,S,V⟩,X,e1,e2,z⟩;dsimp only at D K G I L R S V X e1 e2 z⊢;have z4: -100100<=e*Y/\e*Y<=100100:=by{grind};generalize e*Y=es at*;exact⟨aC,aC,⟨m,E,Q,i,N+es,P,0,0⟩,⟨D,K,S,V,by grind,by grind,z⟩,(by simp[*]),J⟩;clear z D K G I L R S V hq;rintro⟨m,E,Q,i,N,P,Y,e⟩ js ⟨D,K,G,I,L,R,z⟩;dsimp only at D K G I L R z⊢;refine⟨ar (λh=>⟨aC,⟨m,E,Q,i,0,0,0,N-P⟩,⟨D,K,by rw[z];unfold qw;simp[*]⟩,(by simp[*]),J⟩) (λh=>⟨⟨m,E,Q,i,0,0,0,0⟩,⟨D,K,by rw[z];unfold qw;simp[*]⟩,(by simp[*]),J⟩), ?_⟩;clear z D K G I L R;rintro⟨m,E,Q,i,N,P,Y,e⟩ js ⟨D,K,z⟩;dsimp only at D K z⊢;refine ar (λh=>⟨⟨cH _,D,K⟩,aqE,rfl,⟨s.extract 0 i.toNat⟩,rfl,rfl,by show(s.extract 0 i.toNat).size<=_;rw[iA];omega,ai,λ_ _=>ar (λW=>ae ⟨m,e,ng,E,A,i,false⟩ (by grind)) (λW=>ae ⟨m,e,ng,E,A,i,true⟩ (by grind))⟩) (λh=>ae ⟨m,e,ng,E,A,i,true⟩ (by grind))
def aql(x:aF.X ov)(F:ag)(a:ov.cond x)(b:ov.aE x F):tH prog 253 acd (acf x F) [] (iu acd) (lP (aF.args ov x)) (bu (aF.pre ov x++[F])) (ace x) (l ov x F):=
 Eq.mpr bg (aqn x F a b)
def aqm:aG 220 ov:=
 ahI (N:=253) bg (c:=iu f220) func220 bg bg (λ_=>Nat.le_of_ble_eq_true rfl) bg bg bg acf [] ace (λ_ h=>nomatch h) aql
structure CsX where
 b:Nat
 s:ah
 vs:aN
abbrev G6(e:TypeId):aF where
 X:=CsX
 args x:=[Q (some ⟨x.b,0,none⟩) x.s.size x.s.size,C x.s]
 pre x:=[D x.b x.vs e]
 cond x:=x.vs.length=x.s.size
 val x _:=al (Z x.s.size)
 post x _:=[D x.b (Lib.strCells x.s++[]) e]
def agc{P:Program}{o:Oper}{d s:Operand}{t C e:TypeId}{f:TypeInfo}(n:o.op= .call {callee:=.builtin .copy,args:=#[d,s],argTypes:=#[t,C]})
  (A:P.underlying t=some (.slice e)) (v:P.info? e=some f) (U:f.size=1):gY P o (G6 e):=by
 refine⟨λx F I w ρ q m D p=>?_⟩;obtain⟨b,str,a⟩:=x;have m:a.length=str.size:=m;simp only[n,Op.operands,Call.operands,G6]at q;have h:ρ d= .slice (some ⟨b,0,none⟩) str.size str.size/\ρ s= .string str:=by grind
 obtain⟨ze,i⟩:=h;have g:w.heap[b]?=some (.cells ⟨a⟩ e (0,0)):=p.cells (j:=0) rfl;have y:=Lib.strCells_length str;have l:∀u∈Lib.strCells str,u.oneCell'=true:=by{intro u B;obtain⟨z,_,rfl⟩:=List.mem_map.1 B;rfl};have k:=run_storeCells_at P b 0 e (Lib.strCells str) 0 ⟨a⟩ w g (by simp;omega) l;have c:(str.extract 0 str.size).data.map (λb=>int .u8 b.toNat)=(Lib.strCells str).toArray:=by{rw[ByteArray.extract_zero_size];unfold Lib.strCells;apply Array.ext';simp};refine⟨(),I,w.setRow b ⟨a.take 0++Lib.strCells str++a.drop (0+(Lib.strCells str).length)⟩,_,ai, ?_,rfl,aX.le_refl I, ?_,Y⟩
 left
 have r:(Builtin.firstCells f.size str.size (.string str)).run P w= .ok (Lib.strCells str).toArray w:=by{show Sem.run P (pure ((str.extract 0 str.size).data.map λb=>int .u8 b.toNat)) w=_;rw[c] <;> rfl};simp[execOp,n,resolve,invoke,builtin,ze,i,Builtin.copy_,run_underlying A,Builtin.lenOf,sizeOf,typeInfo,v,r,k,goInt];have:=p.setRow (j:=0) (b:=b) (vs:=a) (t:=e) (F7:=a.take 0++Lib.strCells str++a.drop (0+(Lib.strCells str).length)) rfl;have e1:a.take 0++Lib.strCells str++a.drop (0+(Lib.strCells str).length)=Lib.strCells str++[]:=by{simp[*]};rw[e1]at this⊢;simpa[G6,C_]using this
abbrev Bs:aF where
 X:=bN
 args x:=[C x.s]
 cond x:=x.s.size<=1000000000
 val x _:=al (C x.s)
abbrev zY:=al (C ⟨#[]⟩)
def af3(x:bN)(F:ag)(i:Bs.cond x)(k:Bs.aE x F):Br ((x.s.size:Int)==0) (l Bs x F zY [(0,F)]) (T3 (aL f166 3 2) [Z ↑x.s.size,Z ↑x.s.size] (λf e=>lh (aL f166 4 2) (G6 (5:TypeId)) (λd=>d.vs.length=d.s.size) [Q (bq e) f.n.toNat f.c.toNat,C x.s] [D e (ij [u 0] f.c.toNat) 5] (λd c=>((0:Int)<=0/\0<(f.n.toNat:Int))/\Kv (aL f166 5 4) [W (bq e),Z ↑f.n.toNat] [D d.b (Lib.strCells d.s++[]) 5] (λb a=>l Bs x F (al (C b.p)) [(0,F),(4020,aY)])))):=by
 delta zY T3 bq Kv zb lh Z u C W Q D aY al;obtain⟨s⟩:=x;have i:s.size<=1000000000:=i;refine ar (λh=>?_) (λh=>?_);have h:((s.size:Int)==0)=true:=h;have j:s.size=0:=by grind
 have e:s=ByteArray.mk #[]:=by{apply ByteArray.ext;exact Array.eq_empty_of_size_eq_zero (by simp[*])};exact⟨(),ai,by rw[e] <;> rfl,ao [0]⟩;have h:((s.size:Int)==0)=false:=h;have j:¬(s.size:Int)=0:=fw.1 h;have g:∀b,pa 5 s ⟨some ⟨b,0,none⟩,s.size,s.size,.cells b (Lib.strCells s++[]) 5⟩:=λb=>⟨.ft b s.size s.size [] (by rw[Lib.strCells_length,Nat.mul_one]) (by rw[dQ,Lib.strCells_length,Nat.mul_one]) (bK _),.inr (by grind)⟩;refine bG (Eo (P:=prog) [.int .u8 0] 1 rfl rfl rfl rfl rfl rfl X rfl) ⟨s.size,s.size⟩ ⟨by simp[*],by simp[*],by grind,by grind⟩ λb _=>bG (agc rfl rfl rfl rfl) ⟨b,s,ij [.int .u8 0] (s.size:Int).toNat⟩ (?_) λ_ _=>⟨⟨cH _,by grind⟩,abR rfl rfl rfl,rfl,⟨⟨some ⟨b,0,none⟩,s.size,s.size,.cells b (Lib.strCells s++[]) 5⟩,s⟩,rfl,rfl,⟨g b,by grind⟩,ai,λ_ _=>iy⟩;dsimp only;rw[ab6,List.length_replicate];omega
def Yr:aG 166 Bs:=cY func166 [(3,2,.o (vz 5 [.int .u8 0] 1) [] [4020]),(4,2,.o (G6 5) [4020] [4020]),(5,4,.o (F6 5) [4020] [4020])] af3
structure wL where
 f:ah
 s:ah
 t1:TypeId
 a1:Addr
abbrev sG(g:Nat):aF where
 X:=wL
 Y:=Nat
 args x:=[C x.f,C x.s]
 cond x:=x.s.size<=1000000000
 aE x F:=aH F ⟨g,0,none⟩ (.iface x.t1 (.pointer (some x.a1)))
 val _ b:=al (W (some ⟨b,0,none⟩))
def ZW(x:wL)(a:ag):List (Nat×Nat×OH):=[(1,2,aI Bs),(1,3,.q [.ex 0 (.is (.iface x.t1 (.pointer (some x.a1))))]),(1,5,.n 2050)]
def JN:=cG 166 Bs (λa=>a.s.size<=1000000000)
abbrev zX(x:wL):=ce x.t1 (W (some x.a1))
def aqx(x:wL)(F:ag)(d:(sG 6).cond x)(e:(sG 6).aE x F):true=true/\JN [C x.s] (λc b=>aH F ⟨6,0,none⟩ (zX x)/\∀(a:Nat),l (sG 6) x F (al (bL a)) [(0,F),(2050,D a [C x.f,C c.s,ce x.t1 (W (some x.a1))] 176)]):=by
 delta JN zX bq bL cG C W ce D al;obtain⟨f,s,h,g⟩:=x;exact⟨rfl,Yr,rfl,⟨s⟩,rfl,rfl,d,ai,λ_ _=>⟨e,λb=>⟨b,ai,rfl,ao [0]⟩⟩⟩
def aqw:aG 125 (sG 6):=iB func125 ZW aqx
def aqp(x:wL)(F:ag)(d:(sG 7).cond x)(e:(sG 7).aE x F):true=true/\JN [C x.s] (λc b=>aH F ⟨7,0,none⟩ (zX x)/\∀(a:Nat),l (sG 7) x F (al (bL a)) [(0,F),(2050,D a [C x.f,C c.s,ce x.t1 (W (some x.a1))] 176)]):=by
 delta JN zX bq bL cG C W ce D al;obtain⟨f,s,h,g⟩:=x;exact⟨rfl,Yr,rfl,⟨s⟩,rfl,rfl,d,ai,λ_ _=>⟨e,λb=>⟨b,ai,rfl,ao [0]⟩⟩⟩
def aqo:aG 126 (sG 7):=iB func126 ZW aqp
abbrev AB(e:Int)(g:Nat):aF where
 X:=wL
 Y:=aD
 args x:=[C x.f,C x.s,Z 0,Z 64,ce 135 (Z e)]
 cond x:=x.s.size<=1000000000
 aE x F:=aH F ⟨g,0,none⟩ (.iface x.t1 (.pointer (some x.a1)))
 val _ y:=al y
def acg(b:wL)(a:ag):List (Nat×Nat×OH):=[(3,2,aI (sG 6)),(5,2,aI (sG 7))]
def aqB(x:wL)(F:ag)(d:(AB 2 6).cond x)(e:(AB 2 6).aE x F):bz 125 (sG 6) (λb=>b.s.size<=1000000000) (λb h=>aH h ⟨6,0,none⟩ (zX b)) [C x.f,C x.s] (cO F) (λb a=>l (AB (2:Int) 6) x F (al (ce 138 (bL a))) [(0,F)]):=by
 delta zX cO bq bL g bz C W ce al;obtain⟨f,s,i,c⟩:=x;exact ba aqw ⟨f,s,i,c⟩ d (aH.rest (j:=0) X e) λy _=>⟨_,ai,rfl,ao [0]⟩
def aqA:aG 103 (AB 2 6):=iB func103 acg aqB
def aqz(x:wL)(F:ag)(d:(AB 1 7).cond x)(e:(AB 1 7).aE x F):bz 126 (sG 7) (λb=>b.s.size<=1000000000) (λb h=>aH h ⟨7,0,none⟩ (zX b)) [C x.f,C x.s] (cO F) (λb a=>l (AB (1:Int) 7) x F (al (ce 138 (bL a))) [(0,F)]):=by
 delta zX cO bq bL g bz C W ce al;obtain⟨f,s,i,c⟩:=x;exact ba aqo ⟨f,s,i,c⟩ d (aH.rest (j:=0) X e) λy _=>⟨_,ai,rfl,ao [0]⟩
def aqy:aG 103 (AB 1 7):=iB func103 acg aqz
def aoP:aG 103 Jl:=⟨λx F I w i k a=>by
 obtain⟨f,s,e⟩:=x;obtain⟨d,g,h⟩:=i;obtain⟨⟨l,b,q1⟩,⟨m,c,q2⟩⟩:=k;dsimp only at d g h;have j:e=1\/e=2:=by omega
 rcases j with rfl|rfl;exact aqy.h ⟨f,s,m,c⟩ F I w (by show s.size<=_;omega) q2 a;exact aqA.h ⟨f,s,l,b⟩ F I w (by show s.size<=_;omega) q1 a⟩
structure adw where
 a:Nat
 b:Nat
abbrev L8(t:TypeId):aF where
 X:=adw
 args x:=[W (some ⟨x.a,0,none⟩),W (some ⟨x.b,0,none⟩)]
 cond x:=x.a≠x.b
 aE x F:=rT F x.a t/\rT F x.b t
 val _ _:=al (H false)
def aax{P:Program}{o:Oper}{t u e:TypeId}{x y:Operand}{G:TypeId}{g:TypeInfo}(l:o.op= .binOp .eql t x y G)(B:P.underlying t=some (.pointer e))(A:P.info? e=some g)(E:g.size≠0):gY P o (L8 u):=by
 refine⟨λX F I w ρ s v m i=>?_⟩;obtain⟨a,b⟩:=X;simp only[l,Op.operands,L8]at s;have j:ρ x= .pointer (some ⟨a,0,none⟩)/\ρ y= .pointer (some ⟨b,0,none⟩):=by grind
 obtain⟨C,D⟩:=j;obtain⟨f,z,_,_⟩:=i.nW;have k:F.holds I (hp w) (f 0):=z 0;obtain⟨H,n⟩:=m.1.h I (hp w) (f 0) i.oM k;obtain⟨J,p⟩:=m.2.h I (hp w) (f 0) i.oM k;have c:=run_sameAddr_other (P:=P) (w:=w) (a:=⟨a,0,none⟩) (b:=⟨b,0,none⟩) (by intro h;cases h;exact v rfl) n p;refine⟨(),I,w,.bool false,ai,.inl ?_,rfl,aX.le_refl I,i,cn.refl w⟩;have r:∀d,(Op.equalIn (d+1) t (.pointer (some ⟨a,0,none⟩)) (.pointer (some ⟨b,0,none⟩))).run P w= .ok false w:=λd=>by{simp[Op.equalIn,run_underlying B,sizeOf,typeInfo,A,E,c]};have q:(binOp .eql t (.pointer (some ⟨a,0,none⟩)) (.pointer (some ⟨b,0,none⟩))).run P w= .ok (.bool false) w:=by{simp only[binOp];simp[Op.equal,Op.maxDepth,r 9999]};simp only[execOp,l,C,D];simp[eqGuard,q]
structure hY where
 s:ah
 m:Int
 e:Int
 ng:Bool
 tr:Bool
 tb:Nat->Nat
 lc:Nat->Nat×ah
def yy(m:Int):Int:=u64.wrap (↑(BitVec.ofInt u64.bits (m.fdiv (2^min (Int.toNat 1) u64.bits))|||BitVec.ofInt u64.bits (u64.wrap (↑(BitVec.ofInt u64.bits m&&& BitVec.ofInt u64.bits 1).toNat:Int))).toNat:Int)
def yv:Nat->Int->Int->Int×Int
 |0,m,e=>(m,e)
 |f+1,m,e=>bif (bif m !=0 then m.fdiv (2^min (u64.wrap (52+2)).toNat u64.bits)==0 else false) then yv f (u64.wrap (m*2^min (Int.toNat 1) u64.bits)) (i64.wrap (e-1)) else (m,e)
def yw:Nat->Int->Int->Int×Int
 |0,m,e=>(m,e)
 |f+1,m,e=>bif m.fdiv (2^min (u64.wrap (u64.wrap (1+52)+2)).toNat u64.bits)!=0 then yw f (yy m) (i64.wrap (e+1)) else (m,e)
def wx:Nat->Int->Int->Int×Int
 |0,m,e=>(m,e)
 |f+1,m,e=>bif (bif decide (m>1) then decide (e< -1022-2) else false) then wx f (yy m) (e+1) else (m,e)
def ab7(m e:Int):Int:=u64.wrap (↑(BitVec.ofInt u64.bits (u64.wrap (↑(BitVec.ofInt u64.bits m&&& BitVec.ofInt u64.bits (u64.wrap (u64.wrap (1*2^min (Int.toNat 52) u64.bits)-1))).toNat:Int))|||BitVec.ofInt u64.bits (u64.wrap (u64.wrap (i64.wrap (↑(BitVec.ofInt i64.bits (i64.wrap (e- -1023))&&& BitVec.ofInt i64.bits (i64.wrap (1*2^min (Int.toNat 11) i64.bits)-1)).toNat:Int))*2^min (Int.toNat 52) u64.bits))).toNat:Int)
def AN(x:hY)(m e:Int):Nat:=bif x.ng then (u64.wrap (↑(BitVec.ofInt u64.bits (ab7 m e)|||BitVec.ofInt u64.bits (u64.wrap (u64.wrap (1*2^min (Int.toNat 52) u64.bits)*2^min (Int.toNat 11) u64.bits))).toNat:Int)).toNat else (ab7 m e).toNat
def aah(x y:Nat):x|||y<=x+y:=by
 induction x using Nat.strongRecOn generalizing y with
 |_ x a=>
  by_cases b:x=0;simp[*];have c:=a (x/2) O (y/2);have d:(x|||y)/2=x/2|||y/2:=Nat.or_div_two;have e:(x|||y)%2=1->x%2=1\/y%2=1:=λh=>Nat.or_mod_two_eq_one.1 h;omega
def ap8{n:Nat}(h:n<18446744073709551616):∃k:Nat,yy n=(k:Int)/\k<=n/2+n%2:=by
 refine⟨n/2|||n%2, ?_,aah _ _⟩;unfold yy;have e1:((n:Int).fdiv (2^min (Int.toNat 1) u64.bits))=((n/2:Nat):Int):=by{rw[show min (Int.toNat 1) u64.bits=1 from rfl,Int.fdiv_eq_ediv_of_nonneg _ (by decide)] <;> rfl};have b:(BitVec.ofInt u64.bits (n:Int)&&& BitVec.ofInt u64.bits 1).toNat=n%2:=by{show(BitVec.ofNat 64 n&&& BitVec.ofNat 64 1).toNat=_;simp[*]};have a:∀k:Nat,k<18446744073709551616->u64.wrap (k:Int)=(k:Int):=λk U=>dw (i:=.u64) aC;rw[e1,b,a (n%2) O];have c:(BitVec.ofInt u64.bits ((n/2:Nat):Int)|||BitVec.ofInt u64.bits ((n%2:Nat):Int)).toNat=(n/2|||n%2):=by{show(BitVec.ofNat 64 (n/2)|||BitVec.ofNat 64 (n%2)).toNat=_;rw[BitVec.toNat_or,BitVec.toNat_ofNat,BitVec.toNat_ofNat,Nat.mod_eq_of_lt (by omega:n/2<2^64),Nat.mod_eq_of_lt (by omega:n%2<2^64)]};rw[c,a];have:=aah (n/2) (n%2);omega
def ab9(m:Int):0<=yy m/\yy m<=18446744073709551615:=gA _
def ab8{m:Int}(a:2<=m)(b:m<=18446744073709551615):yy m<m:=by
 obtain⟨n,rfl⟩:=Int.eq_ofNat_of_zero_le (show 0<=m by omega);obtain⟨k,e,U⟩:=ap8 (n:=n) O;omega
def Ed(z:Int): -9223372036854775808<=i64.wrap z/\i64.wrap z<=9223372036854775807:=by
 rw[IntKind.wrap_i64];omega
def RW(m:Int)(k:Nat):m.fdiv (2^k)=m/2^k:=Int.fdiv_eq_ediv_of_nonneg _ (Int.pow_nonneg (by decide))
def De(x:hY)(m e:Int):Nat×Nat:=bif decide (e>1023) then (AN x (u64.wrap (1*2^min (Int.toNat 52) u64.bits)) (1023+1),1) else (AN x m e,0)
def AO(x:hY)(m e:Int):Nat×Nat:=bif m.fdiv (2^min (Int.toNat 52) u64.bits)==0 then De x m (-1023) else De x m e
def Dd(x:hY)(m e r:Int):Nat×Nat:=bif r==3 then (bif u64.wrap (m+1)==u64.wrap (1*2^min (u64.wrap (1+52)).toNat u64.bits) then AO x ((u64.wrap (m+1)).fdiv (2^min (Int.toNat 1) u64.bits)) (i64.wrap (e+1)) else AO x (u64.wrap (m+1)) e) else AO x m e
def F_(x:hY)(m e:Int):Nat×Nat:=Dd x (m.fdiv (2^min (Int.toNat 2) u64.bits)) (i64.wrap (e+2)) (u64.wrap (↑(BitVec.ofInt u64.bits (u64.wrap (↑(BitVec.ofInt u64.bits m&&& BitVec.ofInt u64.bits 3).toNat:Int))|||BitVec.ofInt u64.bits (u64.wrap (↑(BitVec.ofInt u64.bits (m.fdiv (2^min (Int.toNat 2) u64.bits))&&& BitVec.ofInt u64.bits 1).toNat:Int))).toNat:Int))
def F9(x:hY)(m e:Int):Nat×Nat:=F_ x (wx (m.toNat+1) m e).1 (wx (m.toNat+1) m e).2
def Jx(x:hY)(m e:Int):Nat×Nat:=F9 x (yw (m.toNat+1) m e).1 (yw (m.toNat+1) m e).2
def yz(x:hY)(m e:Int):Nat×Nat:=bif x.tr then Jx x (u64.wrap (↑(BitVec.ofInt u64.bits m|||BitVec.ofInt u64.bits 1).toNat:Int)) e else Jx x m e
def ap_(x:hY)(m e:Int):Nat×Nat:=yz x (yv ((18014398509481984-m).toNat+1) m e).1 (yv ((18014398509481984-m).toNat+1) m e).2
def du(x:hY):Nat×Nat:=ap_ x x.m (x.e+52)
def yx(n:Nat):aD:=bif n==0 then .nilIface else .iface 135 (.int .i64 1)
abbrev eg:bv:=some ⟨14,0,none⟩
abbrev F8:aF where
 X:=hY
 args x:=[C x.s,W eg,T x.m,Z x.e,H x.ng,H x.tr]
 cond x:=0<=x.m/\x.m<=18446744073709551615/\ -10000000000<=x.e/\x.e<=10000000000
 aE x F:=io x.tb x.lc F
 val x _:=.returned (.tuple #[.float .f64 (du x).1,yx (du x).2])
structure ea where
 m:Int
 e:Int
 r:Int
 er:Nat
 v:aD
def uP(x:hY)(d:ea):List (Nat×aD):=[(1,.pointer (some ⟨14,0,none⟩)),(2,.int .u64 d.m),(3,.int .i64 d.e),(4,.bool x.ng),(5,.bool x.tr),(14,.int .i64 1023),(15,.int .i64 (-1022))]
def gW(m e:Int):Prop:=0<=m/\m<=18446744073709551615/\ -9223372036854775808<=e/\e<=9223372036854775807
def ap9(x:hY)(F:ag):Nat->Option Inv:=fun
 |0=>some {X:=ea,P:=λd=>gW d.m d.e/\∃f,(18014398509481984-d.m).toNat<f/\du x=yz x (yv f d.m d.e).1 (yv f d.m d.e).2,mu:=λd=>(18014398509481984-d.m).toNat,lv:=λd=>uP x d,st:=λ_=>[F]}
 |2=>some {X:=ea,P:=λd=>gW d.m d.e/\∃f,d.m.toNat<f/\du x=F9 x (yw f d.m d.e).1 (yw f d.m d.e).2,mu:=λd=>d.m.toNat,lv:=λd=>uP x d,st:=λ_=>[F]}
 |4=>some {X:=ea,P:=λd=>gW d.m d.e/\∃f,d.m.toNat<f/\du x=F_ x (wx f d.m d.e).1 (wx f d.m d.e).2,mu:=λd=>d.m.toNat,lv:=λd=>uP x d,st:=λ_=>[F]}
 |_=>none
def ap7(x:hY)(F:ag):Nat->Option Inv:=fun
 |7=>some {X:=ea,P:=λd=>gW d.m d.e/\du x=yz x d.m d.e,mu:=λ_=>0,lv:=λd=>uP x d,st:=λ_=>[F]}
 |9=>some {X:=ea,P:=λd=>gW d.m d.e/\du x=Jx x d.m d.e,mu:=λ_=>0,lv:=λd=>uP x d,st:=λ_=>[F]}
 |12=>some {X:=ea,P:=λd=>gW d.m d.e/\du x=F9 x d.m d.e,mu:=λ_=>0,lv:=λd=>uP x d,st:=λ_=>[F]}
 |15=>some {X:=ea,P:=λd=>gW d.m d.e/\du x=F_ x d.m d.e,mu:=λ_=>0,lv:=λd=>uP x d,st:=λ_=>[F]}
 |19=>some {X:=ea,P:=λd=>gW d.m d.e/\du x=Dd x d.m d.e d.r,mu:=λ_=>0,lv:=λd=>uP x d++[(16,.int .u64 d.r)],st:=λ_=>[F]}
 |24=>some {X:=ea,P:=λd=>gW d.m d.e/\du x=AO x d.m d.e,mu:=λ_=>0,lv:=λd=>uP x d,st:=λ_=>[F]}
 |26=>some {X:=ea,P:=λd=>gW d.m d.e/\du x=De x d.m d.e,mu:=λ_=>0,lv:=λd=>uP x d,st:=λ_=>[F]}
 |31=>some {X:=ea,P:=λd=>gW d.m d.e/\du x=(AN x d.m d.e,d.er)/\d.v=yx d.er,mu:=λ_=>0,lv:=λd=>uP x d++[(17,d.v)],st:=λ_=>[F]}
 |_=>none
def w_:OH:=.q [.ex 0 (.is (.int .u64 52))]
def Sd:OH:=.q [.ex 0 (.is (.int .u64 11))]
def Ls:OH:=.q [.ex 0 (.is (.int .i64 (-1023)))]
abbrev vY:=T 11
abbrev nY:=Z (-1023)
def MO(b:ea)(x:hY):=gW b.m b.e/\∃(a:Nat),((18014398509481984:Int)-b.m).toNat<a/\du x=yz x (yv a b.m b.e).fst (yv a b.m b.e).snd
def FF(b:aD)(z:ea)(c:aD)(a:hY):=W eg=W eg/\b=T z.m/\c=Z z.e/\H a.ng=H a.ng/\H a.tr=H a.tr/\Z 1023=Z 1023/\Z (-1022)=Z (-1022)/\True
def PQ(a:hY)(e1:ag)(c d:aD)(b:St):=∃(z:ea),(gW z.m z.e/\du a=yz a z.m z.e)/\FF c z d a/\ay b [(0,e1)]
abbrev vZ(d:ea):=T d.m
abbrev uC(d:ea):=Z d.e
def PS(a:hY)(e1:ag)(c d:aD)(b:St):=∃(z:ea),(gW z.m z.e/\du a=Jx a z.m z.e)/\FF c z d a/\ay b [(0,e1)]
def M9(b:ea)(x:hY):=gW b.m b.e/\∃(a:Nat),b.m.toNat<a/\du x=F9 x (yw a b.m b.e).fst (yw a b.m b.e).snd
def Mo(p b:ea)(x:hY):=W eg=W eg/\T p.m=T b.m/\Z p.e=Z b.e/\H x.ng=H x.ng/\H x.tr=H x.tr/\Z 1023=Z 1023/\Z (-1022)=Z (-1022)/\True
def M6(b:ea)(x:hY):=gW b.m b.e/\∃(a:Nat),b.m.toNat<a/\du x=F_ x (wx a b.m b.e).fst (wx a b.m b.e).snd
def PT(a:hY)(e1:ag)(c d:aD)(b:St):=∃(z:ea),(gW z.m z.e/\du a=F_ a z.m z.e)/\FF c z d a/\ay b [(0,e1)]
def JO(a:hY)(e1:ag)(c d:aD)(b:St):=∃(z:ea),(gW z.m z.e/\du a=AO a z.m z.e)/\FF c z d a/\ay b [(0,e1)]
def PU(a:hY)(e1:ag)(c d:aD)(b:St):=∃(z:ea),(gW z.m z.e/\du a=De a z.m z.e)/\FF c z d a/\ay b [(0,e1)]
def PV(a:hY)(e1:ag)(c d e:aD)(b:St):=∃(z:ea),(gW z.m z.e/\du a=(AN a z.m z.e,z.er)/\z.v=yx z.er)/\(W eg=W eg/\c=T z.m/\d=Z z.e/\H a.ng=H a.ng/\H a.tr=H a.tr/\Z 1023=Z 1023/\Z (-1022)=Z (-1022)/\e=z.v/\True)/\ay b [(0,e1)]
def PW(c:Oper):=vn c (L8 (237:TypeId)) (λa=>a.a≠a.b) (λa b=>rT b a.a 237/\rT b a.b 237)
def aqb(x:hY)(F:ag)(X:F8.cond x)(w:F8.aE x F):true=true/\aH F ⟨14,1,none⟩ vY/\aH F ⟨14,2,none⟩ nY/\aA (bR ((1:Int)*(2:Int)^min (Int.toNat (11:Int)) i64.bits)+(-1023:Int))/\aA (bR ((1:Int)*(2:Int)^min (Int.toNat (11:Int)) i64.bits)+(-1023:Int)-2)/\aH F ⟨14,2,none⟩ nY/\aA ((-1023:Int)+1)/\aH F ⟨14,0,none⟩ mI/\aA (52:Int)/\aA (x.e+52)/\((∃(b:ea),MO b x/\(W eg=W eg/\T x.m=T b.m/\Z (x.e+52)=Z b.e/\H x.ng=H x.ng/\H x.tr=H x.tr/\Z (bR ((1:Int)*(2:Int)^min (Int.toNat (11:Int)) i64.bits)+(-1023:Int)-2)=Z 1023/\Z ((-1023:Int)+1)=Z (-1022)/\True)/\ay [(0,F)] [(0,F)])/\aQ λ(d:ea)_=>MO d x->Br (d.m !=0) (aH F ⟨14,0,none⟩ mI/\Br (d.m.fdiv ((2:Int)^min (aZ ((52:Int)+2)).toNat u64.bits)==0) (∃(b:ea),MO b x/\(W eg=W eg/\T (aZ (d.m*2^min (Int.toNat (1:Int)) u64.bits))=T b.m/\Z (bR (d.e-1))=Z b.e/\H x.ng=H x.ng/\H x.tr=H x.tr/\Z 1023=Z 1023/\Z (-1022)=Z (-1022)/\True)/\ay [(0,F)] [(0,F)]/\((18014398509481984:Int)-b.m).toNat<((18014398509481984:Int)-d.m).toNat) (PQ x F (vZ d) (uC d) [(0,F)])) (PQ x F (vZ d) (uC d) [(0,F)]))/\aQ λ(r:ea)_=>(gW r.m r.e/\du x=yz x r.m r.e)->Br x.tr (PS x F (T (aZ (↑(bU r.m|||bU (1:Int)).toNat:Int))) (uC r) [(0,F)]) (PS x F (vZ r) (uC r) [(0,F)])/\aQ λ(p:ea)_=>(gW p.m p.e/\du x=Jx x p.m p.e)->((∃(b:ea),M9 b x/\Mo p b x/\ay [(0,F)] [(0,F)])/\aQ λ(d:ea)_=>M9 d x->aH F ⟨14,0,none⟩ mI/\Br (d.m.fdiv ((2:Int)^min (aZ (aZ ((1:Int)+52)+2)).toNat u64.bits)!=0) (∃(b:ea),M9 b x/\(W eg=W eg/\T (aZ (↑(bU (d.m.fdiv ((2:Int)^min (Int.toNat (1:Int)) u64.bits))|||bU (aZ (↑(bU d.m&&& bU (1:Int)).toNat:Int))).toNat:Int))=T b.m/\Z (bR (d.e+1))=Z b.e/\H x.ng=H x.ng/\H x.tr=H x.tr/\Z 1023=Z 1023/\Z (-1022)=Z (-1022)/\True)/\ay [(0,F)] [(0,F)]/\b.m.toNat<d.m.toNat) (∃(a:ea),(gW a.m a.e/\du x=F9 x a.m a.e)/\Mo d a x/\ay [(0,F)] [(0,F)]))/\aQ λ(n:ea)_=>(gW n.m n.e/\du x=F9 x n.m n.e)->((∃(b:ea),M6 b x/\Mo n b x/\ay [(0,F)] [(0,F)])/\aQ λ(d:ea)_=>M6 d x->aK (d.m>1) (aA ((-1022:Int)-2)/\aK (d.e<(-1022:Int)-2) (aA (d.e+1)/\∃(b:ea),M6 b x/\(W eg=W eg/\T (aZ (↑(bU (d.m.fdiv ((2:Int)^min (Int.toNat (1:Int)) u64.bits))|||bU (aZ (↑(bU d.m&&& bU (1:Int)).toNat:Int))).toNat:Int))=T b.m/\Z (d.e+1)=Z b.e/\H x.ng=H x.ng/\H x.tr=H x.tr/\Z 1023=Z 1023/\Z (-1022)=Z (-1022)/\True)/\ay [(0,F)] [(0,F)]/\b.m.toNat<d.m.toNat) (PT x F (vZ d) (uC d) [(0,F)])) (PT x F (vZ d) (uC d) [(0,F)]))/\aQ λ(c:ea)_=>(gW c.m c.e/\du x=F_ x c.m c.e)->(∃(a:ea),(gW a.m a.e/\du x=Dd x a.m a.e a.r)/\(W eg=W eg/\T (c.m.fdiv ((2:Int)^min (Int.toNat (2:Int)) u64.bits))=T a.m/\Z (bR (c.e+2))=Z a.e/\H x.ng=H x.ng/\H x.tr=H x.tr/\Z 1023=Z 1023/\Z (-1022)=Z (-1022)/\T (aZ (↑(bU (aZ (↑(bU c.m&&& bU (3:Int)).toNat:Int))|||bU (aZ (↑(bU (c.m.fdiv ((2:Int)^min (Int.toNat (2:Int)) u64.bits))&&& bU (1:Int)).toNat:Int))).toNat:Int))=T a.r/\True)/\ay [(0,F)] [(0,F)])/\aQ λ(j:ea)_=>(gW j.m j.e/\du x=Dd x j.m j.e j.r)->Br (j.r==3) (aH F ⟨14,0,none⟩ mI/\Br (aZ (j.m+1)==aZ ((1:Int)*(2:Int)^min (aZ ((1:Int)+52)).toNat u64.bits)) (JO x F (T ((aZ (j.m+1)).fdiv ((2:Int)^min (Int.toNat (1:Int)) u64.bits))) (Z (bR (j.e+1))) [(0,F)]) (JO x F (T (aZ (j.m+1))) (uC j) [(0,F)])) (JO x F (vZ j) (uC j) [(0,F)])/\aQ λ(h:ea)_=>(gW h.m h.e/\du x=AO x h.m h.e)->(aH F ⟨14,0,none⟩ mI/\Br (h.m.fdiv ((2:Int)^min (Int.toNat (52:Int)) u64.bits)==0) (aH F ⟨14,2,none⟩ nY/\PU x F (vZ h) nY [(0,F)]) (PU x F (vZ h) (uC h) [(0,F)]))/\aQ λ(f:ea)_=>(gW f.m f.e/\du x=De x f.m f.e)->aK (f.e>1023) (aH F ⟨14,0,none⟩ mI/\aA ((1023:Int)+1)/\PV x F (T (aZ ((1:Int)*(2:Int)^min (Int.toNat (52:Int)) u64.bits))) (Z ((1023:Int)+1)) (ce 135 (Z 1)) [(0,F)]) (PV x F (vZ f) (uC f) nilIface [(0,F)])/\aQ λ(d:ea)_=>(gW d.m d.e/\du x=(AN x d.m d.e,d.er)/\d.v=yx d.er)->aH F ⟨14,0,none⟩ mI/\true=true/\aH F ⟨14,2,none⟩ nY/\aH F ⟨14,1,none⟩ vY/\aA (bR ((1:Int)*(2:Int)^min (Int.toNat (11:Int)) i64.bits)-1)/\aH F ⟨14,0,none⟩ mI/\Br x.ng (true=true/\aH F ⟨14,0,none⟩ mI/\aH F ⟨14,1,none⟩ vY/\PW (aL f221 35 1) [W eg,W (some ⟨13,0,none⟩)] (cO F) (λb a=>l F8 x F (al (tuple {toList:=[float f64 (aZ (↑(bU (aZ (↑(bU (aZ (↑(bU d.m&&& bU (aZ (aZ ((1:Int)*(2:Int)^min (Int.toNat (52:Int)) u64.bits)-1))).toNat:Int))|||bU (aZ (aZ (bR (↑(ib (bR (d.e-(-1023:Int)))&&& ib (bR ((1:Int)*(2:Int)^min (Int.toNat (11:Int)) i64.bits)-1)).toNat:Int))*2^min (Int.toNat (52:Int)) u64.bits))).toNat:Int))|||bU (aZ (aZ ((1:Int)*(2:Int)^min (Int.toNat (52:Int)) u64.bits)*2^min (Int.toNat (11:Int)) u64.bits))).toNat:Int)).toNat,d.v]})) [(0,F)])) (PW (aL f221 35 1) [W eg,W (some ⟨13,0,none⟩)] (cO F) (λb a=>l F8 x F (al (tuple ⟨[float f64 (aZ (↑(bU (aZ (↑(bU d.m&&& bU (aZ (aZ ((1:Int)*(2:Int)^min (Int.toNat (52:Int)) u64.bits)-1))).toNat:Int))|||bU (aZ (aZ (bR (↑(ib (bR (d.e-(-1023:Int)))&&& ib (bR ((1:Int)*(2:Int)^min (Int.toNat (11:Int)) i64.bits)-1)).toNat:Int))*2^min (Int.toNat (52:Int)) u64.bits))).toNat:Int)).toNat,d.v]⟩)) [(0,F)])):=by
 delta vY nY mI MO eg FF PQ vZ uC PS M9 Mo M6 PT JO PU PV PW cO g aA vn Z T H W ce bU ib aZ bR aK al aQ;obtain⟨s,m,e,ng,tr,tb,lc⟩:=x;obtain⟨R,S,U,V⟩:=X;generalize Q:(⟨s,m,e,ng,tr,tb,lc⟩:hY)=x at*;have xm:x.m=m:=by rw[<-Q]
 have xe:x.e=e:=by rw[<-Q]
 rw[xm]at R S;rw[xe]at U V;have u:ay [(0,F)] [(0,F)]:=ao [0];have N:i64.wrap (1*2^min (Int.toNat 11) i64.bits)=2048:=by rfl
 have x1:(2:Int)^min (u64.wrap (52+2)).toNat u64.bits=18014398509481984:=by rfl
 have x2:(2:Int)^min (u64.wrap (u64.wrap (1+52)+2)).toNat u64.bits=36028797018963968:=by rfl
 have P:∀a b:Int,gW (u64.wrap a) (i64.wrap b):=λa b=>⟨(gA a).1,(gA a).2,(Ed b).1,(Ed b).2⟩;have I:∀(m:Int)(k:Nat),0<=m->m<=18446744073709551615->0<=m.fdiv (2^k)/\m.fdiv (2^k)<=18446744073709551615:=λm k a b=>by{rw[RW];have hp:(0:Int)<2^k:=Int.pow_pos (by decide);exact⟨Int.ediv_nonneg a (Int.le_of_lt hp),Int.le_trans (Int.ediv_le_self _ a) b⟩};rw[N];refine⟨rfl,w.i1,w.i2,aC,aC,w.i2,aC,w.i0,aC,aC,⟨⟨⟨x.m,x.e+52,0,0,.nilIface⟩,⟨⟨by simp[*],by simp[*],by grind,by grind⟩,(18014398509481984-x.m).toNat+1,jd _,rfl⟩,(by simp[*]),u⟩, ?_⟩, ?_⟩;rintro⟨m,e,r,z,v⟩ A ⟨⟨C,B,D,E⟩,f,y,t⟩;dsimp only at C B D E y t⊢;obtain⟨f,rfl⟩:∃o,f=o+1:=⟨f-1,O⟩;have out:(bif m !=0 then m.fdiv (2^min (u64.wrap (52+2)).toNat u64.bits)==0 else false)=false->du x=yz x m e:=λh=>by rw[t,yv,h] <;> rfl
 refine ar (λq1=>⟨w.i0,ar (λq2=>?_) (λq2=>⟨⟨m,e,0,0,.nilIface⟩,⟨⟨C,B,D,E⟩,out (by grind)⟩,(by simp[*]),u⟩)⟩) (λq1=>⟨⟨m,e,0,0,.nilIface⟩,⟨⟨C,B,D,E⟩,out (by simp[*])⟩,(by simp[*]),u⟩);have x0:m≠0:=by{grind};have K:m<18014398509481984:=by{grind};have ew:u64.wrap (m*2^min (Int.toNat 1) u64.bits)=m*2:=by{rw[show(2:Int)^min (Int.toNat 1) u64.bits=2 from rfl];exact dw (i:=.u64) aC};refine⟨⟨_,_,0,0,.nilIface⟩,⟨P _ _,f, ?_, ?_⟩,(by(repeat refine⟨rfl, ?_⟩);simp[*]),u, ?_⟩;show(18014398509481984-u64.wrap (m*2^min (Int.toNat 1) u64.bits)).toNat<f;omega;dsimp only;rw[t,yv,show(m !=0)=true from q1,show(m.fdiv (2^min (u64.wrap (52+2)).toNat u64.bits)==0)=true from q2] <;> rfl;show(18014398509481984-u64.wrap (m*2^min (Int.toNat 1) u64.bits)).toNat<(18014398509481984-m).toNat;omega;rintro⟨m,e,r,z,v⟩ A ⟨k,t⟩;dsimp only at k t⊢;refine⟨ar (λq=>⟨⟨_,e,0,0,.nilIface⟩,⟨⟨(gA _).1,(gA _).2,k.2.2.1,k.2.2.2⟩,by rw[t];unfold yz;rw[show x.tr=true from q] <;> rfl⟩,(by(repeat refine⟨rfl, ?_⟩);simp[*]),u⟩) (λq=>⟨⟨m,e,0,0,.nilIface⟩,⟨k,by rw[t];unfold yz;simp[*]⟩,(by simp[*]),u⟩), ?_⟩;clear t k;rintro⟨m,e,r,z,v⟩ A ⟨k,t⟩;dsimp only at k t⊢;refine⟨⟨⟨⟨m,e,0,0,.nilIface⟩,⟨k,m.toNat+1,jd _,t⟩,(by simp[*]),u⟩, ?_⟩, ?_⟩;clear t k;rintro⟨m,e,r,z,v⟩ A ⟨k,f,y,t⟩;have M:=k;obtain⟨C,B,D,E⟩:=M;dsimp only at k C B D E y t⊢;obtain⟨f,rfl⟩:∃o,f=o+1:=⟨f-1,O⟩;refine⟨w.i0,ar (λq=>?_) (λq=>⟨⟨m,e,0,0,.nilIface⟩,⟨k,by rw[t,yw,show(m.fdiv (2^min (u64.wrap (u64.wrap (1+52)+2)).toNat u64.bits)!=0)=false from q] <;> rfl⟩,(by simp[*]),u⟩)⟩;have K:36028797018963968<=m:=by{grind};have Y:=ab8 (m:=m) O B;have L:=ab9 m;refine⟨⟨yy m,i64.wrap (e+1),0,0,.nilIface⟩,⟨P _ _,f,by grind, ?_⟩,(by(repeat refine⟨rfl, ?_⟩);simp[*]),u,by grind⟩;dsimp only;rw[t,yw,show(m.fdiv (2^min (u64.wrap (u64.wrap (1+52)+2)).toNat u64.bits)!=0)=true from q] <;> rfl;clear t k;rintro⟨m,e,r,z,v⟩ A ⟨k,t⟩;dsimp only at k t⊢;refine⟨⟨⟨⟨m,e,0,0,.nilIface⟩,⟨k,m.toNat+1,jd _,t⟩,(by simp[*]),u⟩, ?_⟩, ?_⟩;clear t k;rintro⟨m,e,r,z,v⟩ A ⟨k,f,y,t⟩;have M:=k;obtain⟨C,B,D,E⟩:=M;dsimp only at k C B D E y t⊢;obtain⟨f,rfl⟩:∃o,f=o+1:=⟨f-1,O⟩;refine bd (λq=>⟨aC,bd (λq2=>?_) (λq2=>⟨⟨m,e,0,0,.nilIface⟩,⟨k,by rw[t,wx,bp q,bF q2] <;> rfl⟩,(by simp[*]),u⟩)⟩) (λq=>⟨⟨m,e,0,0,.nilIface⟩,⟨k,by rw[t,wx,bF q] <;> rfl⟩,(by simp[*]),u⟩);have Y:=ab8 (m:=m) O B;have L:=ab9 m;refine⟨aC,⟨yy m,e+1,0,0,.nilIface⟩,⟨⟨L.1,L.2,by grind,by grind⟩,f,by grind, ?_⟩,(by(repeat refine⟨rfl, ?_⟩);simp[*]),u,by grind⟩;dsimp only;rw[t,wx,bp q,bp q2] <;> rfl;clear t k;rintro⟨m,e,r,z,v⟩ A ⟨k,t⟩;dsimp only at k t⊢;refine⟨⟨⟨m.fdiv (2^min (Int.toNat 2) u64.bits),i64.wrap (e+2),_,0,.nilIface⟩,⟨⟨(I _ _ k.1 k.2.1).1,(I _ _ k.1 k.2.1).2,(Ed _).1,(Ed _).2⟩,t⟩,(by(repeat refine⟨rfl, ?_⟩);simp[*]),u⟩, ?_⟩;clear t k;rintro⟨m,e,r,z,v⟩ A ⟨k,t⟩;dsimp only at k t⊢;refine⟨ar (λq=>⟨w.i0,ar (λq2=>⟨⟨_,_,0,0,.nilIface⟩,⟨⟨(I _ _ (gA _).1 (gA _).2).1,(I _ _ (gA _).1 (gA _).2).2,(Ed _).1,(Ed _).2⟩,by rw[t];unfold Dd;rw[show(r==3)=true from q,show(u64.wrap (m+1)==u64.wrap (1*2^min (u64.wrap (1+52)).toNat u64.bits))=true from q2] <;> rfl⟩,(by(repeat refine⟨rfl, ?_⟩);simp[*]),u⟩) (λq2=>⟨⟨_,e,0,0,.nilIface⟩,⟨⟨(gA _).1,(gA _).2,k.2.2.1,k.2.2.2⟩,by rw[t];unfold Dd;rw[show(r==3)=true from q,show(u64.wrap (m+1)==u64.wrap (1*2^min (u64.wrap (1+52)).toNat u64.bits))=false from q2] <;> rfl⟩,(by(repeat refine⟨rfl, ?_⟩);simp[*]),u⟩)⟩) (λq=>⟨⟨m,e,0,0,.nilIface⟩,⟨k,by rw[t];unfold Dd;simp[*]⟩,(by simp[*]),u⟩), ?_⟩;clear t k;rintro⟨m,e,r,z,v⟩ A ⟨k,t⟩;dsimp only at k t⊢;refine⟨⟨w.i0,ar (λq=>⟨w.i2,⟨m,-1023,0,0,.nilIface⟩,⟨⟨k.1,k.2.1,by simp[*],by simp[*]⟩,by rw[t];unfold AO;grind⟩,(by simp[*]),u⟩) (λq=>⟨⟨m,e,0,0,.nilIface⟩,⟨k,by rw[t];unfold AO;grind⟩,(by simp[*]),u⟩)⟩, ?_⟩;clear t k;rintro⟨m,e,r,z,v⟩ A ⟨k,t⟩;dsimp only at k t⊢;refine⟨bd (λq=>⟨w.i0,aC,⟨_,1023+1,0,1,_⟩,⟨⟨(gA _).1,(gA _).2,by simp[*],by simp[*]⟩,by rw[t];unfold De;rw[bp q] <;> rfl,rfl⟩,(by(repeat refine⟨rfl, ?_⟩);simp[*]),u⟩) (λq=>⟨⟨m,e,0,0,.nilIface⟩,⟨k,by rw[t];unfold De;simp[*],rfl⟩,(by simp[*]),u⟩), ?_⟩;clear t k;rintro⟨m,e,r,z,v⟩ A ⟨k,t,J⟩;dsimp only at k t J⊢;have G:rT (.cJ (rest [(0,F)] [])) 14 237/\rT (.cJ (rest [(0,F)] [])) 13 237:=⟨w.bi.sub (bB 0),w.bj.sub (bB 0)⟩;have ae:∀b:Nat,AN x m e=b->l F8 x F (returned (tuple #[float .f64 b,v])) [(0,F)]:=λb h=>
  ⟨(),ai,by show _=returned (.tuple #[.float .f64 (du x).1,yx (du x).2]);simp[*],u⟩
 refine⟨w.i0,rfl,w.i2,w.i1,aC,w.i0,ar (λq=>⟨rfl,w.i0,w.i1,aax rfl rfl rfl (by decide),rfl,⟨14,13⟩,rfl,rfl,by decide,G,λ_ _=>ae _ (by unfold AN;rw[show x.ng=true from q] <;> rfl)⟩) (λq=>ba (aax rfl rfl rfl (by decide)) ⟨14,13⟩ (by decide) G λ_ _=>ae _ (by unfold AN;rw[show x.ng=false from q] <;> rfl))⟩
def aqa:aG 221 F8:=rh func221 (λ_ _=>[(1,3,Sd),(1,4,F),(1,8,Ls),(2,3,Ls),(3,4,w_),(4,7,w_),(4,8,F),(4,9,F),(5,1,F),(6,1,F),(11,1,F),(18,1,F),(23,1,F),(32,6,F),(35,1,.o (L8 237) [] []),(8,1,F),(9,4,w_),(9,5,F),(9,6,F),(9,7,F),(10,1,F),(10,3,F),(10,4,F),(13,1,F),(13,3,F),(13,4,F),(15,1,F),(16,1,F),(17,2,F),(17,3,F),(20,1,F),(21,4,w_),(21,5,F),(21,6,F),(22,1,F),(24,4,w_),(24,5,F),(25,3,Ls),(28,3,w_),(28,4,F),(31,4,w_),(31,5,F),(31,6,F),(31,7,F),(32,5,Ls),(32,10,Sd),(32,11,F),(32,13,F),(32,14,F),(32,18,w_),(32,19,F),(32,20,F),(34,4,w_),(34,5,F),(34,9,Sd),(34,10,F),(34,11,F),(37,1,F)]) ap9 ap7 aqb
section
structure bn where
 ds:aM
 nd:Int
 dp:Int
 ng:Bool
 tr:Bool
def A(d:bn):aN:=d.ds.map (λc=>int .u8 c)++[.int .i64 d.nd,.int .i64 d.dp,.bool d.ng,.bool d.tr]
def bn.ok(d:bn):Prop:=d.ds.length=800/\0<=d.nd/\d.nd<=800
def bn.at_(d:bn)(i:Nat):Int:=d.ds.getD i 0
section
variable{b:Nat}{t:TypeId}{d:bn}
theorem j7(h:d.ds.length=800):(A d).length=804:=by unfold A;simp[h]
theorem K0(h:d.ds.length=800)(k:Nat):(A d)[800+k]?=[int .i64 d.nd,.int .i64 d.dp,.bool d.ng,.bool d.tr][k]?:=by
 unfold A;grind
theorem kQ(h:d.ds.length=800):aH (.cells b (A d) t) ⟨b,800,none⟩ (.int .i64 d.nd):=aH.cells (by rw[show(800:Nat)=800+0 from rfl,K0 h] <;> rfl)
theorem my(h:d.ds.length=800):aH (.cells b (A d) t) ⟨b,801,none⟩ (.int .i64 d.dp):=aH.cells (by rw[show(801:Nat)=800+1 from rfl,K0 h] <;> rfl)
theorem ajm(h:d.ds.length=800):aH (.cells b (A d) t) ⟨b,802,none⟩ (.bool d.ng):=aH.cells (by rw[show(802:Nat)=800+2 from rfl,K0 h] <;> rfl)
theorem ajn(h:d.ds.length=800):aH (.cells b (A d) t) ⟨b,803,none⟩ (.bool d.tr):=aH.cells (by rw[show(803:Nat)=800+3 from rfl,K0 h] <;> rfl)
theorem zk(h:d.ds.length=800){i:Nat}(a:i<800):aH (.cells b (A d) t) ⟨b,i,none⟩ (.int .u8 (d.at_ i)):=aH.cells (by
 unfold A bn.at_;rw[m5 (by simp[h,a]),fZ,eG,da O];rfl)
theorem OU(h:d.ds.length=800)(k:Nat)(v:aD):(A d).set (800+k) v=d.ds.map (λc=>int .u8 c)++[int .i64 d.nd,.int .i64 d.dp,.bool d.ng,.bool d.tr].set k v:=by
 unfold A;simp[*]
theorem I5(h:d.ds.length=800)(n:Int):(A d).set 800 (.int .i64 n)=A ⟨d.ds,n,d.dp,d.ng,d.tr⟩:=OU h 0 _
theorem CS(h:d.ds.length=800)(n:Int):(A d).set 801 (.int .i64 n)=A ⟨d.ds,d.nd,n,d.ng,d.tr⟩:=OU h 1 _
theorem an4(h:d.ds.length=800)(n:Bool):(A d).set 802 (.bool n)=A ⟨d.ds,d.nd,d.dp,n,d.tr⟩:=OU h 2 _
theorem OV(h:d.ds.length=800)(n:Bool):(A d).set 803 (.bool n)=A ⟨d.ds,d.nd,d.dp,d.ng,n⟩:=OU h 3 _
theorem WA(h:d.ds.length=800){i:Nat}(a:i<800)(c:Int):(A d).set i (.int .u8 c)=A ⟨d.ds.set i c,d.nd,d.dp,d.ng,d.tr⟩:=by
 unfold A;simp[*]
end
def oq(ds:aM):Nat->Nat
 |0=>0
 |n+1=>bif ds.getD n 0==48 then oq ds n else n+1
def lF(d:bn):bn:=⟨d.ds,(oq d.ds d.nd.toNat:Nat),bif oq d.ds d.nd.toNat==0 then 0 else d.dp,d.ng,d.tr⟩
def abC(ds:aM):∀n,oq ds n<=n
 |0=>bK _
 |n+1=>by
  rw[oq];cases ds.getD n 0==48 with
  |true=>rw[aW];have:=abC ds n;omega
  |false=>exact bK _
structure nB where
 b:Nat
 d:bn
abbrev lz(x:nB):bv:=some ⟨x.b,0,none⟩
abbrev ry(x:nB):=D x.b (A x.d) 171
abbrev wn:aF where
 X:=nB
 args x:=[W (lz x)]
 pre x:=[ry x]
 cond x:=x.d.ok
 val _ _:=.returned (.tuple #[])
 post x _:=[D x.b (A (lF x.d)) 171]
abbrev Cg(x:nB)(n:Nat):=D x.b (A ⟨x.d.ds,(n:Int),x.d.dp,x.d.ng,x.d.tr⟩) 171
def aoT(x:nB)(F:ag):Nat->Option Inv:=fun
 |0=>some {X:=Nat,P:=λn=>(n:Int)<=x.d.nd/\oq x.d.ds x.d.nd.toNat=oq x.d.ds n,mu:=λn=>n,lv:=λ_=>[(0,W (lz x))],st:=λn=>[Cg x n,F]}
 |_=>none
def NZ(a:Nat)(x:nB):=a<=x.d.nd/\oq x.d.ds x.d.nd.toNat=oq x.d.ds a
abbrev nc(x:nB)(F:ag):=[(0,D x.b (A x.d) 171),(1,F)]
abbrev NG(x:nB)(g:Nat)(F:ag):=[(0,D x.b (A ⟨x.d.ds,(g:Int),x.d.dp,x.d.ng,x.d.tr⟩) 171),(1,F)]
def jD(b:ag)(c:Addr)(d:Int->Prop):=∃(a:Int),aH b c (u a)/\d a
def S2(x:nB)(g:Nat)(F:ag):=T1 (Cg x g) ⟨x.b,800,none⟩ (λa=>Br (a==0) ((V x.b 801/\801<(A ⟨x.d.ds,(g:Int),x.d.dp,x.d.ng,x.d.tr⟩).length)/\l wn x F eK [(0,D x.b ((A ⟨x.d.ds,(g:Int),x.d.dp,x.d.ng,x.d.tr⟩).set 801 (Z 0)) 171),(1,F)]) (l wn x F eK (NG x g F)))
def aoW(x:nB)(F:ag)(E:wn.cond x)(H:wn.aE x F):(∃(a:Nat),NZ a x/\(W (lz x)=W (lz x)/\True)/\ay (nc x F) (NG x a F))/\aQ λ(g:Nat)_=>NZ g x->true=true/\T1 (Cg x g) ⟨x.b,800,none⟩ (λe=>aK (e>0) (T1 (Cg x g) ⟨x.b,800,none⟩ (λd=>aA (d-1)/\(0<=d-1/\d-1<(↑(800:Nat):Int))/\jD (Cg x g) ⟨x.b,0+(d-1).toNat*1,none⟩ (λc=>Br (c==48) (T1 (Cg x g) ⟨x.b,800,none⟩ (λb=>aA (b-1)/\(V x.b 800/\800<(A ⟨x.d.ds,(g:Int),x.d.dp,x.d.ng,x.d.tr⟩).length)/\∃(a:Nat),NZ a x/\(W (lz x)=W (lz x)/\True)/\ay [(0,D x.b ((A ⟨x.d.ds,(g:Int),x.d.dp,x.d.ng,x.d.tr⟩).set 800 (Z (b-1))) 171),(1,F)] (NG x a F)/\a<g)) (S2 x g F)))) (S2 x g F)):=by
 delta NZ lz nc NG T1 Cg jD eK S2 V aA Z u W D aK al aQ;obtain⟨b,h,p,o,j,m⟩:=x;obtain⟨y,B,C⟩:=E;dsimp only at y B C⊢;have f:∀n s v w,(bn.mk h n s v w).ds.length=800:=λ_ _ _ _=>y;have len:∀n,(A ⟨h,n,o,j,m⟩).length=804:=λn=>j7 (f n o j m);refine⟨⟨p.toNat,⟨O,rfl⟩,⟨rfl,ai⟩, ?_⟩, ?_⟩;rw[show((p.toNat:Nat):Int)=p by omega];exact ao [0,1];rintro n I ⟨G,z⟩;have out:oq h p.toNat=n->∃(r:Int),aH (.cells b (A ⟨h,(n:Int),o,j,m⟩) 171) ⟨b,800,none⟩ (.int .i64 r)/\Br (r==0) ((d6 ⟨b,801,none⟩ b/\801<(A ⟨h,(n:Int),o,j,m⟩).length)/\l wn ⟨b,h,p,o,j,m⟩ F (returned (tuple #[])) [(0,.cells b ((A ⟨h,(n:Int),o,j,m⟩).set 801 (.int .i64 0)) 171),(1,F)])
   (l wn ⟨b,h,p,o,j,m⟩ F (returned (tuple #[])) [(0,.cells b (A ⟨h,(n:Int),o,j,m⟩) 171),(1,F)]):=λe=>by
  refine⟨_,kQ (f _ _ _ _),ar (λq=>⟨⟨Y,by simp[*]⟩, ?_⟩) (λq=>?_)⟩;have q:n=0:=by grind
  subst q;rw[CS (f _ _ _ _)];have:lF ⟨h,p,o,j,m⟩=⟨h,((0:Nat):Int),0,j,m⟩:=by unfold lF;grind
  exact⟨(),ai,rfl,by show ay _ (bu ([.cells b (A (lF ⟨h,p,o,j,m⟩)) _]++[F]));rw[this];exact ao [0,1]⟩;have q:¬(n:Int)=0:=fw.1 q;have:lF ⟨h,p,o,j,m⟩=⟨h,(n:Int),o,j,m⟩:=by unfold lF;rw[e,show(n==0)=false from fw.2 O] <;> rfl
  exact⟨(),ai,rfl,by show ay _ (bu ([.cells b (A (lF ⟨h,p,o,j,m⟩)) _]++[F]));rw[this];exact ao [0,1]⟩
 refine⟨rfl,_,kQ (f _ _ _ _),bd (λq=>?_) (λq=>out ?_)⟩;obtain⟨k,rfl⟩:∃k,n=k+1:=⟨n-1,by grind⟩;rw[oq]at z;refine⟨_,kQ (f _ _ _ _),⟨O,by grind⟩,⟨O,by grind⟩,h.getD k 0, ?_,ar (λq2=>?_) (λq2=>out ?_)⟩;have:=zk (b:=b) (t:=171) (f ((k+1:Nat):Int) o j m) (i:=k) O;rw[show 0+(((k+1:Nat):Int)-1).toNat*1=k by omega];exact this;refine⟨_,kQ (f _ _ _ _),⟨O,by grind⟩,⟨Y,by simp[*]⟩,k,⟨O,by grind⟩,⟨rfl,ai⟩, ?_,O⟩;rw[I5 (f _ _ _ _),show(((k+1:Nat):Int)-1)=(k:Int) by omega];exact ao [0,1];grind;have:n=0:=by grind
 subst this;rw[z] <;> rfl
def abF:aG 195 wn:=mt func195 (λ_ _=>[(0,3,cD),(0,10,cD),(0,15,.q [.ex 0 (.int .u8)]),(1,3,cD),(1,7,.w [.ex 0 .any]),(2,3,cD),(3,3,.w [.ex 0 .any])]) aoT aoW
end
structure Gw where
 b:Nat
 d:bn
 k:Int
def tq(d:bn)(k:Int):Bool:=
 bif (bif decide (k<0) then true else decide (k>=d.nd)) then false
 else bif (bif d.at_ k.toNat==53 then k+1==d.nd else false) then (bif d.tr then true else (bif decide (k>0) then (u8.wrap (d.at_ (k-1).toNat-48)).tmod 2 !=0 else false))
 else decide (d.at_ k.toNat>=53)
abbrev xG(x:Gw):=D x.b (A x.d) 171
abbrev tm:aF where
 X:=Gw
 args x:=[W (some ⟨x.b,0,none⟩),Z x.k]
 pre x:=[xG x]
 cond x:=x.d.ok
 val x _:=al (H (tq x.d x.k))
 post x _:=[xG x]
def iH(j:Nat):OH:=.q [.ex j (.int .i64)]
def bH(j:Nat):OH:=.q [.ex j (.int .u8)]
abbrev vJ(x:Gw)(F:ag):=[(0,D x.b (A x.d) 171),(1,F)]
def yM(b:ag)(c:Addr)(d:Bool->Prop):=∃(a:Bool),aH b c (H a)/\d a
def TS(x:Gw)(F:ag):=(0<=x.k/\x.k<(↑(800:Nat):Int))/\jD (xG x) ⟨x.b,0+x.k.toNat*1,none⟩ (λa=>l tm x F (al (H (decide (a>=53)))) (vJ x F))
def aoH(x:Gw)(F:ag)(n:tm.cond x)(o:tm.aE x F):aK (x.k<0) (l tm x F cm (vJ x F)) (T1 (xG x) ⟨x.b,800,none⟩ (λe=>aK (x.k>=e) (l tm x F cm (vJ x F)) ((0<=x.k/\x.k<(↑(800:Nat):Int))/\jD (xG x) ⟨x.b,0+x.k.toNat*1,none⟩ (λd=>Br (d==53) (aA (x.k+1)/\T1 (xG x) ⟨x.b,800,none⟩ (λc=>Br (x.k+1==c) (yM (xG x) ⟨x.b,803,none⟩ (λb=>Br b (l tm x F gc (vJ x F)) (aK (x.k>0) (aA (x.k-1)/\(0<=x.k-1/\x.k-1<(↑(800:Nat):Int))/\jD (xG x) ⟨x.b,0+(x.k-1).toNat*1,none⟩ (λa=>(2:Int)≠0/\l tm x F (al (H ((u8.wrap (a-48)).tmod (2:Int)!=(0:Int)))) (vJ x F))) (l tm x F cm (vJ x F))))) (TS x F))) (TS x F))))):=by
 delta cM cm vJ T1 xG jD yM gc TS aA Z u H D aK al;obtain⟨b,d,k⟩:=x;obtain⟨f,j,m⟩:=n;dsimp only at f j m⊢;have h:ay [(0,.cells b (A d) 171),(1,F)] [(0,.cells b (A d) 171),(1,F)]:=ao [0,1];have ae:∀v:Bool,tq d k=v->l tm ⟨b,d,k⟩ F (returned (bool v)) [(0,.cells b (A d) 171),(1,F)]:=λv e=>
  ⟨(),ai,by show _=returned (.bool (tq d k));rw[e],h⟩
 have g:∀i:Int,0<=i->i<800->aH (.cells b (A d) 171) ⟨b,0+i.toNat*1,none⟩ (.int .u8 (d.at_ i.toNat)):=λi a c=>by{rw[show 0+i.toNat*1=i.toNat by omega];exact zk f O};refine bd (λq=>ae _ (by unfold tq;simp[*])) (λq=>⟨_,kQ f,bd (λq2=>ae _ (by unfold tq;simp[*])) (λq2=>⟨aC,_,g k O O,ar (λq3=>⟨aC,_,kQ f,ar (λq4=>⟨_,ajn f,ar (λq5=>ae _ ?_) (λq5=>bd (λq6=>⟨aC,aC,_,g (k-1) O O,by decide,ae _ ?_⟩) (λq6=>ae _ ?_))⟩) (λq4=>⟨aC,_,g k O O,ae _ ?_⟩)⟩) (λq3=>⟨aC,_,g k O O,ae _ ?_⟩)⟩)⟩);unfold tq;simp[*];unfold tq;simp[*];unfold tq;simp[*];unfold tq;simp[*];unfold tq;simp[*]
def aoG:aG 198 tm:=cY func198 [(1,7,iH 0),(3,5,bH 0),(3,13,iH 0),(4,3,.q [.ex 0 .bool]),(6,9,bH 0),(6,10,F),(7,5,bH 0)] aoH
def v7(d:bn):Nat->Int->Int->Int×Int
 |0,i,n=>(i,n)
 |f+1,i,n=>bif (bif decide (i<d.dp) then decide (i<d.nd) else false) then v7 d f (i+1) (u64.wrap (u64.wrap (n*10)+u64.wrap (u8.wrap (d.at_ i.toNat-48)))) else (i,n)
def yb(d:bn):Nat->Int->Int->Int
 |0,_,n=>n
 |f+1,i,n=>bif decide (i<d.dp) then yb d f (i+1) (u64.wrap (n*10)) else n
def yc(d:bn)(n:Int):Int:=bif tq d d.dp then u64.wrap (n+1) else n
def nn(d:bn):Int:=bif decide (d.dp>20) then 18446744073709551615 else yc d (yb d 1000 (v7 d 1000 0 0).1 (v7 d 1000 0 0).2)
abbrev yd:aF where
 X:=nB
 args x:=[W (lz x)]
 pre x:=[ry x]
 cond x:=x.d.ok
 val x _:=al (T (nn x.d))
 post x _:=[ry x]
structure rZ where
 i:Int
 n:Int
 f:Nat
def ann(x:nB)(F:ag):Nat->Option Inv:=fun
 |0=>some {X:=rZ,P:=λd=>x.d.dp<=20/\0<=d.i/\(d.i<=20)/\900<=d.f+d.i/\nn x.d=yc x.d (yb x.d 1000 (v7 x.d d.f d.i d.n).1 (v7 x.d d.f d.i d.n).2),mu:=λd=>(20-d.i).toNat,lv:=λd=>[(0,W (lz x)),(3,Z d.i),(4,T d.n)],st:=λ_=>[ry x,F]}
 |2=>some {X:=rZ,P:=λd=>x.d.dp<=20/\0<=d.i/\d.i<=20/\900<=d.f+d.i/\nn x.d=yc x.d (yb x.d d.f d.i d.n),mu:=λd=>(20-d.i).toNat,lv:=λd=>[(0,W (lz x)),(3,Z d.i),(4,T d.n)],st:=λ_=>[ry x,F]}
 |_=>none
def anm(x:nB)(F:ag):Nat->Option Inv:=fun
 |9=>some {X:=rZ,P:=λd=>x.d.dp<=20/\0<=d.i/\d.i<=20/\900<=d.f+d.i/\nn x.d=yc x.d (yb x.d d.f d.i d.n),mu:=λd=>0,lv:=λd=>[(0,W (lz x)),(3,Z d.i),(4,T d.n)],st:=λ_=>[ry x,F]}
 |_=>none
def ME(x:nB)(a:rZ):=x.d.dp<=20/\0<=a.i/\a.i<=20/\900<=a.f+a.i/\nn x.d=yc x.d (yb x.d 1000 (v7 x.d a.f a.i a.n).fst (v7 x.d a.f a.i a.n).snd)
def H4(a:nB)(z:rZ):=a.d.dp<=20/\0<=z.i/\z.i<=20/\900<=z.f+z.i/\nn a.d=yc a.d (yb a.d z.f z.i z.n)
def JP(a:nB)(e1:ag)(c d:aD)(b:St):=∃(z:rZ),H4 a z/\(W (lz a)=W (lz a)/\c=Z z.i/\d=T z.n/\True)/\ay b (nc a e1)
def anp(x:nB)(F:ag)(y:yd.cond x)(I:yd.aE x F):T1 (ry x) ⟨x.b,801,none⟩ (λi=>aK (i>20) (l yd x F (al (T 18446744073709551615)) (nc x F)) (((∃(a:rZ),ME x a/\(W (lz x)=W (lz x)/\Z 0=Z a.i/\T 0=T a.n/\True)/\ay (nc x F) (nc x F))/\aQ λ(f:rZ)_=>ME x f->T1 (ry x) ⟨x.b,801,none⟩ (λd=>aK (f.i<d) (T1 (ry x) ⟨x.b,800,none⟩ (λc=>aK (f.i<c) ((0<=f.i/\f.i<(↑(800:Nat):Int))/\jD (ry x) ⟨x.b,0+f.i.toNat*1,none⟩ (λb=>aA (f.i+1)/\∃(a:rZ),ME x a/\(W (lz x)=W (lz x)/\Z (f.i+1)=Z a.i/\T (aZ (aZ (f.n*10)+aZ (u8.wrap (b-48))))=T a.n/\True)/\ay (nc x F) (nc x F)/\((20:Int)-a.i).toNat<((20:Int)-f.i).toNat)) (JP x F (Z f.i) (T f.n) (nc x F)))) (JP x F (Z f.i) (T f.n) (nc x F))))/\aQ λ(h:rZ)_=>H4 x h->JP x F (Z h.i) (T h.n) (nc x F)/\aQ λ(f:rZ)_=>H4 x f->T1 (ry x) ⟨x.b,801,none⟩ (λd=>aK (f.i<d) (aA (f.i+1)/\∃(a:rZ),H4 x a/\(W (lz x)=W (lz x)/\Z (f.i+1)=Z a.i/\T (aZ (f.n*10))=T a.n/\True)/\ay (nc x F) (nc x F)/\((20:Int)-a.i).toNat<((20:Int)-f.i).toNat) (T1 (ry x) ⟨x.b,801,none⟩ (λc=>dK 198 tm (λb=>b.d.ok) [W (lz x),Z c] [D x.b (A x.d) 171] (λb a=>Br (tq b.d b.k) (l yd x F (al (T (aZ (f.n+1)))) (vJ b F)) (l yd x F (al (T f.n)) (vJ b F)))))))):=by
 delta T1 ry nc ME lz jD H4 JP vJ aA dK Z u T W D aZ aK al aQ;obtain⟨b,d⟩:=x;have w:d.ok:=y;obtain⟨p,G,H⟩:=y;have j:ay [(0,.cells b (A d) 171),(1,F)] [(0,.cells b (A d) 171),(1,F)]:=ao [0,1];have ae:∀v:Int,nn d=v->l yd ⟨b,d⟩ F (returned (int .u64 v)) [(0,.cells b (A d) 171),(1,F)]:=λv e=>
  ⟨(),ai,by show _=returned (.int .u64 (nn d));rw[e],j⟩
 have E:∀i:Int,0<=i->i<800->aH (.cells b (A d) 171) ⟨b,0+i.toNat*1,none⟩ (.int .u8 (d.at_ i.toNat)):=λi a c=>by{rw[show 0+i.toNat*1=i.toNat by omega];exact zk p O};refine⟨_,my p,bd (λq=>ae _ (by unfold nn;simp[*])) (λq=>?_)⟩;refine⟨⟨⟨⟨0,0,1000⟩,⟨O,by simp[*],by simp[*],by simp[*],by unfold nn;simp[*]⟩,aU,j⟩, ?_⟩, ?_⟩;rintro⟨i,n,f⟩ B ⟨m,o,r,s,g⟩;dsimp only at m o r s g⊢;obtain⟨f,rfl⟩:∃k,f=k+1:=⟨f-1,O⟩;refine⟨_,my p,bd (λq1=>⟨_,kQ p,bd (λq2=>⟨⟨o,O⟩,_,E i o O,aC,⟨i+1,_,f⟩,⟨m,by grind,by grind,by grind,by rw[g,v7,bp q1,bp q2] <;> rfl⟩,aU,j,by grind⟩) (λq2=>⟨⟨i,n,1000⟩,⟨m,o,r,by grind,by rw[g,v7,bp q1,bF q2] <;> rfl⟩,aU,j⟩)⟩) (λq1=>⟨⟨i,n,1000⟩,⟨m,o,r,by grind,by rw[g,v7,bF q1] <;> rfl⟩,aU,j⟩)⟩;intro z C t;refine⟨⟨z,t,aU,j⟩, ?_⟩;rintro⟨i,n,f⟩ B ⟨m,o,r,s,g⟩;dsimp only at m o r s g⊢;obtain⟨f,rfl⟩:∃k,f=k+1:=⟨f-1,O⟩;refine⟨_,my p,bd (λq1=>⟨aC,⟨i+1,_,f⟩,⟨m,by grind,by grind,by grind,by rw[g,yb,bp q1] <;> rfl⟩,aU,j,by grind⟩) (λq1=>?_)⟩;have g:nn d=yc d n:=by rw[g,yb,bF q1] <;> rfl
 refine⟨_,my p,aoG,rfl,⟨b,d,d.dp⟩,rfl,rfl,w,ai,λ_ _=>ar (λq2=>ae _ (by rw[g];unfold yc;simp[*])) (λq2=>ae _ (by rw[g];unfold yc;simp[*]))⟩
def ano:aG 235 yd:=rh func235 (λ_ _=>[(1,3,iH 0),(6,4,iH 0),(6,11,iH 0),(8,1,F),(8,7,bH 0),(8,8,F),(8,9,F),(8,10,F),(9,4,iH 0),(11,1,F),(12,4,iH 0),(12,5,q tm),(13,1,F)]) ann anm anp
structure W3 where
 b:Nat
 h:Int
def G0(n:Nat):j5 where
 X:=W3
 args x:=[.pointer (some ⟨x.b,0,none⟩),.int .i64 0,.int .i64 x.h]
 cond x:=0<=x.h/\x.h<=n
 val x:=.slice (some ⟨x.b,0,none⟩) x.h.toNat n
def aeV{P:Program}{o:Oper}{t e:TypeId}{n:Nat}{x l h:Operand}{d:TypeInfo}(i:o.op= .slice t x (some l) (some h) none)(v:P.underlying t=some (.array (P.arrayLen t) (P.elem t)))(hn:P.arrayLen t=n)(r:P.elem t=e)(s:P.info? e=some d):cN P o (G0 n):=by
 refine⟨λq w ρ f p=>?_⟩;obtain⟨b,g⟩:=q;obtain⟨k,m⟩:=p;simp only[i,Op.operands,G0]at f;have a:ρ x= .pointer (some ⟨b,0,none⟩)/\ρ l= .int .i64 0/\ρ h= .int .i64 g:=by simpa using f
 obtain⟨y,u,c⟩:=a;have j:=run_sliceAt_array_lh (P:=P) w t ⟨b,0,none⟩ v .i64 .i64 0 g (cH _) k (by rw[hn];exact m);rw[r,run_sizeOf w s,hn]at j;simp[execOp,i,y,u,c,j,slicedAt,G0,Addr.add]
structure A2 where
 b:Nat
 d:bn
 s:ah
def uh(d:bn)(s:ah):Nat->Int->Bool
 |0,_=>false
 |f+1,i=>bif decide (i>=d.nd) then true else bif d.at_ i.toNat !=B s i then decide (d.at_ i.toNat<B s i) else uh d s f (i+1)
def ui(d:bn)(s:ah):Bool:=uh d s s.size 0
abbrev CB(x:A2):bv:=some ⟨x.b,0,none⟩
abbrev Fd(x:A2):=D x.b (A x.d) 171
abbrev xx:aF where
 X:=A2
 args x:=[Q (CB x) x.d.nd.toNat 800,C x.s]
 pre x:=[Fd x]
 cond x:=x.d.ok/\x.s.size<=1000
 val x _:=al (H (ui x.d x.s))
 post x _:=[Fd x]
def alv(x:A2)(F:ag):Nat->Option Inv:=fun
 |0=>some {X:=Nat,P:=λi=>i<=x.s.size/\ui x.d x.s=uh x.d x.s (x.s.size-i) i,mu:=λi=>x.s.size-i,lv:=λi=>[(0,Q (CB x) x.d.nd.toNat 800),(1,C x.s),(5,Z i)],st:=λ_=>[Fd x,F]}
 |_=>none
def NK(a:Nat)(x:A2):=a<=x.s.size/\ui x.d x.s=uh x.d x.s (x.s.size-a) (a:Int)
abbrev uk(x:A2)(F:ag):=[(0,D x.b (A x.d) 171),(1,F)]
def aly(x:A2)(F:ag)(n:xx.cond x)(w:xx.aE x F):(∃(a:Nat),NK a x/\(Q (CB x) x.d.nd.toNat 800=Q (CB x) x.d.nd.toNat 800/\C x.s=C x.s/\Z 0=Z ↑a/\True)/\ay (uk x F) (uk x F))/\aQ λ(d:Nat)_=>NK d x->aK ((d:Int)<(x.s.size:Int)) (aK ((d:Int)>=(x.d.nd.toNat:Int)) (l xx x F gc (uk x F)) (true=true/\(0<=(d:Int)/\(d:Int)<(x.d.nd.toNat:Int))/\jD (Fd x) ⟨x.b,0+(d:Int).toNat*1,none⟩ (λb=>(0<=(d:Int)/\(d:Int)<(x.s.size:Int))/\Br (b !=B x.s (d:Int)) (true=true/\(0<=(d:Int)/\(d:Int)<(x.d.nd.toNat:Int))/\jD (Fd x) ⟨x.b,0+(d:Int).toNat*1,none⟩ (λa=>(0<=(d:Int)/\(d:Int)<(x.s.size:Int))/\l xx x F (al (H (decide (a<B x.s (d:Int))))) (uk x F))) (aA ((d:Int)+(1:Int))/\∃(a:Nat),NK a x/\(Q (CB x) x.d.nd.toNat 800=Q (CB x) x.d.nd.toNat 800/\C x.s=C x.s/\Z ((d:Int)+(1:Int))=Z ↑a/\True)/\ay (uk x F) (uk x F)/\x.s.size-a<x.s.size-d)))) (l xx x F cm (uk x F)):=by
 delta NK CB uk gc jD Fd cM cm aA Z u C H Q D aK al aQ;obtain⟨b,d,s⟩:=x;obtain⟨⟨h,k,m⟩,r⟩:=n;dsimp only at h k m r⊢;have g:ay [(0,.cells b (A d) 171),(1,F)] [(0,.cells b (A d) 171),(1,F)]:=ao [0,1];have ae:∀v:Bool,ui d s=v->l xx ⟨b,d,s⟩ F (returned (bool v)) [(0,.cells b (A d) 171),(1,F)]:=λv e=>
  ⟨(),ai,by show _=returned (.bool (ui d s));rw[e],g⟩
 have p:((d.nd.toNat:Nat):Int)=d.nd:=O;refine⟨⟨0,⟨b7 _,rfl⟩,aU,g⟩, ?_⟩;rintro i y ⟨t,c⟩;refine bd (λq=>?_) (λq=>ae _ ?_);obtain⟨f,o⟩:∃f,s.size-i=f+1:=⟨s.size-i-1,O⟩;rw[o]at c;rw[p];refine bd (λq2=>ae _ (by rw[c,uh,bp q2] <;> rfl)) (λq2=>?_);have j:aH (.cells b (A d) 171) ⟨b,0+(i:Int).toNat*1,none⟩ (.int .u8 (d.at_ (i:Int).toNat)):=by{rw[show 0+(i:Int).toNat*1=i by omega,cy];exact zk h O};refine⟨rfl,aC,_,j,aC,ar (λq3=>⟨rfl,aC,_,j,aC,ae _ ?_⟩) (λq3=>⟨aC,i+1,⟨O, ?_⟩,⟨rfl,rfl,by rfl,ai⟩,g,O⟩)⟩;rw[c,uh,bF q2,show(d.at_ (i:Int).toNat !=B s i)=true from q3] <;> rfl;rw[c,uh,bF q2,show(d.at_ (i:Int).toNat !=B s i)=false from q3,show s.size-(i+1)=f by omega] <;> rfl;rw[c,show s.size-i=0 by omega] <;> rfl
def alx:aG 211 xx:=mt func211 (λ_ _=>[(6,3,bH 0),(7,3,bH 0)]) alv aly
section
def c_(g:Nat->Nat):Nat->Nat
 |0=>0
 |n+1=>c_ g n*10+g n
def RL{g:Nat->Nat}:∀n,(∀i,i<n->g i<=9)->c_ g n<10^n
 |0,_=>by rw[c_];decide
 |n+1,h=>by
  have:=RL n (λi b=>h i O);have a:=h n (jd n);rw[c_,Nat.pow_succ];omega
def K4{g:Nat->Nat}:∀n,1<=g 0->1<=n->10^(n-1)<=c_ g n
 |0,_,h=>O
 |1,a,_=>by show 1<=0*10+g 0;omega
 |n+2,a,_=>by
  have:=K4 (n+1) a O;rw[c_,show n+2-1=n+1 by omega,Nat.pow_succ];rw[show n+1-1=n by omega]at this;omega
def D3{g:Nat->Nat}(m:Nat):∀k,(∀i,i<m+k->g i<=9)->c_ g m*10^k<=c_ g (m+k)/\c_ g (m+k)<(c_ g m+1)*10^k
 |0,_=>X
 |k+1,h=>by
  obtain⟨a,b⟩:=D3 m k (λi d=>h i O);have c:=h (m+k) O;rw[show m+(k+1)=m+k+1 by omega,c_,Nat.pow_succ,<-Nat.mul_assoc,<-Nat.mul_assoc];omega
def K3{g h:Nat->Nat}:∀n,(∀i,i<n->g i=h i)->c_ g n=c_ h n
 |0,_=>rfl
 |n+1,e=>by rw[c_,c_,K3 n (λi a=>e i O),e n (jd n)]
def YF{g:Nat->Nat}:∀n r,(∀i,i<n->g i<=9)->r<n->c_ g n/10^(n-1-r)%10=g r
 |0,r,_,h=>O
 |n+1,r,h,c=>by
  have a:=h n (jd n);by_cases e:r=n;subst e;rw[show r+1-1-r=0 by omega,Nat.pow_zero,Nat.div_one,c_];omega;have:=YF n r (λi b=>h i O) O;rw[show n+1-1-r=(n-1-r)+1 by omega,Nat.pow_succ,Nat.mul_comm,<-Nat.div_div_eq_div_mul,c_,show(c_ g n*10+g n)/10=c_ g n by omega];exact this
def dD(d:bn)(i:Nat):Nat:=(d.at_ i-48).toNat
def j8(s:ah)(i:Nat):Nat:=(B s i-48).toNat
structure bn.norm(d:bn):Prop where
 len:d.ds.length=800
 au:1<=d.nd
 max:d.nd<=800
 h8:∀i:Nat,(i:Int)<d.nd->48<=d.at_ i/\d.at_ i<=57
 fst:d.at_ 0≠48
variable{s:ah}{d:bn}
theorem bn.norm.ok(h:d.norm):d.ok:=⟨h.len,by have:=h.au;omega,h.max⟩
def bn.aT(d:bn):Nat:=c_ (dD d) d.nd.toNat
theorem bn.norm.g9(h:d.norm):∀i,i<d.nd.toNat->dD d i<=9:=λi a=>by
 have:=h.h8 i O;unfold dD;omega
theorem bn.norm.lt(h:d.norm):d.aT<10^d.nd.toNat:=RL _ h.g9
theorem bn.norm.ge(h:d.norm):10^(d.nd.toNat-1)<=d.aT:=K4 _ (by
 have:=h.h8 0 (by have:=h.au;omega);have:=h.fst;unfold dD;omega) (by have:=h.au;omega)
structure JA(s:ah):Prop where
 h8:∀i:Nat,i<s.size->48<=B s i/\B s i<=57
 au:1<=s.size
 ai1:B s ((s.size-1:Nat):Int)≠48
def vg(s:ah):Nat:=c_ (j8 s) s.size
theorem JA.g9(h:JA s):∀i,i<s.size->j8 s i<=9:=λi a=>by
 have:=h.h8 i a;unfold j8;omega
theorem sI(n:Nat):0<10^n:=Nat.pow_pos (by decide)
theorem alw(p:d.norm)(hs:JA s):∀(f i:Nat),f+i=s.size->i<=d.nd.toNat->(∀j,j<i->dD d j=j8 s j)->
  (uh d s f i=true->d.aT*10^s.size<vg s*10^d.nd.toNat)/\(uh d s f i=false->vg s*10^d.nd.toNat<=d.aT*10^s.size):=by
 intro f
 induction f with
 |zero=>
  intro i D E l;have q:i=s.size:=O;subst q;refine⟨λh=>(by rw[uh]at h;cases h),λ_=>?_⟩;have m:=D3 (g:=dD d) s.size (d.nd.toNat-s.size) (λj o=>p.g9 j O);rw[show s.size+(d.nd.toNat-s.size)=d.nd.toNat by omega,K3 _ l]at m;have n:=Nat.mul_le_mul_right (10^s.size) m.1;rw[Nat.mul_assoc,<-Nat.pow_add,show d.nd.toNat-s.size+s.size=d.nd.toNat by omega]at n;exact n
 |succ f F=>
  intro i D E l;rw[uh];by_cases u:(i:Int)>=d.nd;rw[bp u];refine⟨λ_=>?_,λh=>(by cases h)⟩;have r:i=d.nd.toNat:=O;subst r;have A:d.aT=c_ (j8 s) d.nd.toNat:=K3 _ l;have m:=D3 (g:=j8 s) d.nd.toNat (s.size-1-d.nd.toNat) (λj o=>hs.g9 j O);rw[show d.nd.toNat+(s.size-1-d.nd.toNat)=s.size-1 by omega]at m;have n:vg s=c_ (j8 s) (s.size-1)*10+j8 s (s.size-1):=by{unfold vg;conv=>lhs;rw[show s.size=(s.size-1)+1 by omega,c_]};have I:1<=j8 s (s.size-1):=by{have a:=hs.h8 (s.size-1) O;have b:=hs.ai1;unfold j8;omega};have C:d.aT*10^(s.size-d.nd.toNat)<vg s:=by{rw[A,n,show s.size-d.nd.toNat=(s.size-1-d.nd.toNat)+1 by omega,Nat.pow_succ,<-Nat.mul_assoc];omega};have t:=Nat.mul_lt_mul_of_pos_right C (sI d.nd.toNat);rw[Nat.mul_assoc,<-Nat.pow_add,show s.size-d.nd.toNat+d.nd.toNat=s.size by omega]at t;exact t;rw[bF u,y];have G:=p.h8 i O;have H:=hs.h8 i O;rw[cy];cases k:d.at_ i !=B s (i:Int)with
  |false=>
   rw[y];have k:d.at_ i=B s (i:Int):=by simpa using k
   have:=F (i+1) O O (λj o=>by
    by_cases e:j=i;subst e;unfold dD j8;rw[k];exact l j O)
   rw[show((i:Int)+1)=((i+1:Nat):Int) by omega];exact this
  |true=>
   rw[aW];have k:d.at_ i≠B s (i:Int):=by simpa using k
   have z:=K3 i l;have v:c_ (dD d) (i+1)=c_ (j8 s) i*10+dD d i:=by rw[c_,z]
   have w:c_ (j8 s) (i+1)=c_ (j8 s) i*10+j8 s i:=by rw[c_]
   have q1:=D3 (g:=dD d) (i+1) (d.nd.toNat-(i+1)) (λj o=>p.g9 j O);have q2:=D3 (g:=j8 s) (i+1) (s.size-(i+1)) (λj o=>hs.g9 j O);rw[show i+1+(d.nd.toNat-(i+1))=d.nd.toNat by omega]at q1;rw[show i+1+(s.size-(i+1))=s.size by omega]at q2;have x:10^(d.nd.toNat-(i+1))*10^s.size=10^(s.size-(i+1))*10^d.nd.toNat:=by{rw[<-Nat.pow_add,<-Nat.pow_add];congr 1;omega};refine⟨λh=>?_,λh=>?_⟩;have h:=kK h;have c:c_ (dD d) (i+1)+1<=c_ (j8 s) (i+1):=by rw[v,w];unfold dD j8;omega
   calc d.aT*10^s.size<(c_ (dD d) (i+1)+1)*10^(d.nd.toNat-(i+1))*10^s.size:=Nat.mul_lt_mul_of_pos_right q1.2 (sI _)
    _<=c_ (j8 s) (i+1)*10^(d.nd.toNat-(i+1))*10^s.size:=Nat.mul_le_mul_right _ (Nat.mul_le_mul_right _ c)
    _=c_ (j8 s) (i+1)*10^(s.size-(i+1))*10^d.nd.toNat:=by rw[Nat.mul_assoc,x,<-Nat.mul_assoc]
    _<=vg s*10^d.nd.toNat:=Nat.mul_le_mul_right _ q2.1
   have h:=R5 h;have c:c_ (j8 s) (i+1)+1<=c_ (dD d) (i+1):=by rw[v,w];unfold dD j8;omega
   calc vg s*10^d.nd.toNat<=(c_ (j8 s) (i+1)+1)*10^(s.size-(i+1))*10^d.nd.toNat:=Nat.mul_le_mul_right _ (Nat.le_of_lt q2.2)
    _<=c_ (dD d) (i+1)*10^(s.size-(i+1))*10^d.nd.toNat:=Nat.mul_le_mul_right _ (Nat.mul_le_mul_right _ c)
    _=c_ (dD d) (i+1)*10^(d.nd.toNat-(i+1))*10^s.size:=by rw[Nat.mul_assoc,<-x,<-Nat.mul_assoc]
    _<=d.aT*10^s.size:=Nat.mul_le_mul_right _ q1.1
structure Dl(k:Nat)(c:Nat×ah):Prop where
 h8:JA c.2
 aT:vg c.2=5^k
 G8:c.1+c.2.size=k+1
 big:10^(c.2.size-1)<=5^k
 one:1<=c.1
def m9(d:bn)(c:Nat×ah):Nat:=bif ui d c.2 then c.1-1 else c.1
theorem ZE(h:d.norm){k:Nat}{c:Nat×ah}(f:Dl k c):10^(d.nd.toNat+m9 d c-1)<=d.aT*2^k/\d.aT*2^k<10^(d.nd.toNat+m9 d c):=by
 have hp:=alw h f.h8 c.2.size 0 O (b7 _) (λj u=>O);have r:1<=d.nd.toNat:=by have:=h.au;omega
 have b:vg c.2<10^c.2.size:=RL _ f.h8.g9;have t:=f.one;have o:=f.G8;have p:=f.h8.au;rw[f.aT]at hp b;have a:2^k*5^k=10^k:=by rw[<-Nat.mul_pow]
 have s:10^(c.1-1)<=2^k:=by
  have e:10^(c.1-1)*10^c.2.size=2^k*5^k:=by rw[a,<-Nat.pow_add];congr 1;omega
  have:10^(c.1-1)*10^c.2.size<=2^k*10^c.2.size:=by rw[e];exact Nat.mul_le_mul_left _ (Nat.le_of_lt b)
  exact Nat.le_of_mul_le_mul_right this (sI _)
 have q:2^k<=10^c.1:=by
  have e:10^c.1*10^(c.2.size-1)=2^k*5^k:=by rw[a,<-Nat.pow_add];congr 1;omega
  have:2^k*10^(c.2.size-1)<=10^c.1*10^(c.2.size-1):=by rw[e];exact Nat.mul_le_mul_left _ f.big
  exact Nat.le_of_mul_le_mul_right this (sI _)
 unfold m9;cases m:ui d c.2 with
 |true=>
  rw[aW];have l:=hp.1 m;constructor
  calc 10^(d.nd.toNat+(c.1-1)-1)=10^(d.nd.toNat-1)*10^(c.1-1):=by rw[<-Nat.pow_add];congr 1;omega
   _<=d.aT*2^k:=Nat.mul_le_mul h.ge s
  have g:=Nat.mul_lt_mul_of_pos_right l (Nat.pow_pos (n:=k) (show 0<2 by decide));have e1:d.aT*10^c.2.size*2^k=d.aT*2^k*10^c.2.size:=by rw[Nat.mul_right_comm]
  have i:5^k*10^d.nd.toNat*2^k=10^(d.nd.toNat+(c.1-1))*10^c.2.size:=by{rw[Nat.mul_right_comm,Nat.mul_comm (5^k),a,<-Nat.pow_add,<-Nat.pow_add];congr 1;omega};rw[e1,i]at g;exact Nat.lt_of_mul_lt_mul_right g
 |false=>
  rw[y];have l:=hp.2 m;constructor;have g:=Nat.mul_le_mul_right (2^k) l;have e1:d.aT*10^c.2.size*2^k=d.aT*2^k*10^c.2.size:=by rw[Nat.mul_right_comm]
  have i:5^k*10^d.nd.toNat*2^k=10^(d.nd.toNat+c.1-1)*10^c.2.size:=by{rw[Nat.mul_right_comm,Nat.mul_comm (5^k),a,<-Nat.pow_add,<-Nat.pow_add];congr 1;omega};rw[e1,i]at g;exact Nat.le_of_mul_le_mul_right g (sI _)
  calc d.aT*2^k<10^d.nd.toNat*2^k:=Nat.mul_lt_mul_of_pos_right h.lt (Nat.pow_pos (by decide))
   _<=10^d.nd.toNat*10^c.1:=Nat.mul_le_mul_left _ q
   _=10^(d.nd.toNat+c.1):=(Nat.pow_add _ _ _).symm
end
end Go.Proofs.YthhiffpfleacaaaGreatDoor
