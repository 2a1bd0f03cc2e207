/- Part of the proof that ParseShape answers true at every input. -/
import Derived.Test.YtdkchodgklpomaaGreatDoorPSaj
set_option linter.all false
namespace Go.Proofs.YtdkchodgklpomaaGreatDoor
set_option maxRecDepth 100000
open Go.Value (int slice string bool pointer agg tuple func float iface nilIface)
open Go.IntKind (i64 u8 u64 i32 u32 u16 i8 i16)
open Go.FloatKind (f64)
open Go.Ending (returned panicked)
section
open Go
structure AY where
 tb:Nat->Nat
 r:Row
 n:Nat
structure mr(tb:Nat->Nat)(F:ai):Prop where
 tx:jQ F
 IM:∀i,i<1392->aO F ⟨15,i,none⟩ (.int .u64 (tb i))
theorem mr.sub{tb:Nat->Nat}{A B:ai}(h:mr tb A)(hs:Sub A B):mr tb B:=⟨h.tx.sub hs,fun i hi=>(h.IM i hi).sub hs⟩
structure pC(tb:Nat->Nat):Prop where
 lt:∀i,tb i<18446744073709551616
 ge:∀i,i<696->9223372036854775808<=tb (i*2)
def zx:aR where
 X:=AY
 Y:=Row
 args x:=[au x.r.a x.r.n x.r.cap,float f64 x.n,a_ 101,ae (-1)]
 pre x:=[x.r.A]
 cond x:=pC x.tb/\qb x.n/\bv 5 1 [] x.r
 aQ x F:=mr x.tb F
 cd x y:=bv 5 1 (bZ (vK x.tb x.n)) y
 val _ y:=az (au y.a y.n y.cap)
 post _ y:=[y.A]
theorem Lh:∀(k u:Nat),u<10^(k+1)->Lib.nDigits u<=k+1
 |0,u,h=>by rw[Lib.nDigits_small (by simpa using h)];exact cr _
 |k+1,u,h=>by
  by_cases q:u<10
  ·rw[Lib.nDigits_small q];omega
  ·have:=Lh k (u/10) (by rw[Nat.pow_succ]at h;omega);rw[Lib.nDigits_big q];omega
structure vm where
 neg:Bool
 e:Int
 m:Nat
 b:Nat
 vs:List Value
 t:TypeId
def Rq(x:AY)(F:ai)(P:vm->Prop)(lv:vm->List (Nat×Value))(st:vm->List ai):Option Inv:=some {X:=vm,P:=P,mu:=fun _=>0,lv:=fun d=>[(0,.slice x.r.a x.r.n x.r.cap),(2,.int .u8 101),(3,.int .i64 (-1)),(11,.int .i64 52),(12,.int .i64 (-1023)),(13,.bool d.neg),(14,.int .i64 d.e),(15,.int .u64 d.m)]++lv d,st:=st}
def ahX(x:AY)(F:ai):Nat->Option Inv:=fun
 |22=>Rq x F (fun d=>d.neg=kw x.n/\d.e=(nj x.n:Nat)/\d.m=pI x.n) (fun _=>[]) (fun _=>[x.r.A,F])
 |25=>Rq x F (fun d=>d.neg=kw x.n/\d.e+ -1023=oW x.n/\d.m=e_ x.n) (fun _=>[]) (fun _=>[x.r.A,F])
 |34=>Rq x F (fun d=>d.neg=kw x.n/\d.e=oW x.n/\d.m=e_ x.n/\Gh d.vs) (fun d=>[(16,.pointer (some ⟨d.b,0,none⟩))]) (fun d=>[x.r.A,F,.cells d.b d.vs d.t])
 |_=>none
def PB(oo:Oper)(aa:List Value)(k0:Int×Int->Prop):=dH Tryz.prog oo (oI i64 i64)/\∃(z:Int×Int),aa=[ae z.fst,ae z.snd]/\0<=z.snd/\k0 z
def M5(x:AY)(F:ai):IZ->Row->Prop:=fun b a=>aq zx x F (az (mf a)) [(0,a.A),(1,F)]
def Wi(w:Int×Int):=w.fst.fdiv ((2:Int)^min w.snd.toNat u64.bits)!=0
def PC(e0:AY)(e1:ai)(v0 v1 v2:Value)(ss:St):=∃(z:vm),(z.neg=kw e0.n/\z.e+(-1023:Int)=oW e0.n/\z.m=e_ e0.n)/\(au e0.r.a e0.r.n e0.r.cap=au e0.r.a e0.r.n e0.r.cap/\a_ 101=a_ 101/\ae (-1)=ae (-1)/\ae 52=ae 52/\ae (-1023)=ae (-1023)/\v0=ak z.neg/\v1=ae z.e/\v2=aA ↑z.m/\True)/\aD ss [(0,e0.r.A),(1,e1)]
def PD(aa:List Value)(pp:List ai)(rr:ai)(k0:lZ->Row->Prop):=aC 192 Bz/\true=true/\∃(z:lZ),aa=[au z.r.a z.r.n z.r.cap,ak z.neg,au (oC z) 32 32,ae z.dp,ae ↑z.nd,ae (↑(z.nd-1):Int),a_ 101,ak true]/\pp=[z.r.A]/\(bv 5 1 [] z.r/\z.ds.length=32/\z.nd<=20/\(-900:Int)<=z.dp/\z.dp<=900)/\da rr ⟨z.b,0,none⟩ (bZ z.ds)/\∀(u0:Row),bv 5 1 (bZ (sO z.neg z.ds z.dp z.nd)) u0->k0 z u0
def PE(oo:Oper)(aa:List Value)(k0:y7->Prop):=dH Tryz.prog oo (vy 32)/\∃(z:y7),aa=[ah (some z.a)]/\(z.a.off=0/\z.a.spot=none)/\k0 z
theorem ah5(x:AY)(F:ai)(hc:zx.cond x)(hr:zx.aQ x F):((-9223372036854775808:Int)<=(11:Int)+(52:Int)/\(11:Int)+(52:Int)<=(9223372036854775807:Int))/\xf (a8 Tryz.f176 13 4) [aA ↑x.n,ae ((11:Int)+(52:Int))] (fun w=>true=true/\xf (a8 Tryz.f176 14 2) [aA ↑x.n,ae 52] (fun v=>PB (a8 Tryz.f176 14 5) [ae 1,ae 11] (fun u=>rm (a8 Tryz.f176 15 2) [aA 1,ae 52] (fun t=>PB (a8 Tryz.f176 16 2) [ae 1,ae 11] (fun c=>Br (bY (↑(iC (bY (v.fst.fdiv ((2:Int)^min v.snd.toNat u64.bits)))&&& iC (bY (bY (u.fst*2^min u.snd.toNat i64.bits)-1))).toNat:Int)==bY (bY (c.fst*2^min c.snd.toNat i64.bits)-1)) (Br (bc (↑(cf (x.n:Int)&&& cf (bc (bc (t.fst*2^min t.snd.toNat u64.bits)-1))).toNat:Int)!=0) (Di (a8 Tryz.f176 18 1) [au x.r.a x.r.n x.r.cap,aj ⟨#[78,97,78]⟩] [x.r.A] (M5 x F)) (Br (Wi w) (Di (a8 Tryz.f176 20 1) [au x.r.a x.r.n x.r.cap,aj ⟨#[45,73,110,102]⟩] [x.r.A] (M5 x F)) (Di (a8 Tryz.f176 21 1) [au x.r.a x.r.n x.r.cap,aj ⟨#[43,73,110,102]⟩] [x.r.A] (M5 x F)))) (∃(a:vm),(a.neg=kw x.n/\a.e=(↑(nj x.n):Int)/\a.m=pI x.n)/\(au x.r.a x.r.n x.r.cap=au x.r.a x.r.n x.r.cap/\a_ 101=a_ 101/\ae (-1)=ae (-1)/\ae 52=ae 52/\ae (-1023)=ae (-1023)/\ak (Wi w)=ak a.neg/\ae (bY (↑(iC (bY (v.fst.fdiv ((2:Int)^min v.snd.toNat u64.bits)))&&& iC (bY (bY (u.fst*2^min u.snd.toNat i64.bits)-1))).toNat:Int))=ae a.e/\aA (bc (↑(cf (x.n:Int)&&& cf (bc (bc (t.fst*2^min t.snd.toNat u64.bits)-1))).toNat:Int))=aA ↑a.m/\True)/\aD [(0,x.r.A),(1,F)] [(0,x.r.A),(1,F)]))/\aS fun(s:vm)_=>(s.neg=kw x.n/\s.e=(↑(nj x.n):Int)/\s.m=pI x.n)->Br (s.e==0) (((-9223372036854775808:Int)<=s.e+1/\s.e+1<=(9223372036854775807:Int))/\PC x F (ak s.neg) (ae (s.e+1)) (aA ↑s.m) [(0,x.r.A),(1,F)]) (rm (a8 Tryz.f176 24 2) [aA 1,ae 52] (fun b=>PC x F (ak s.neg) (ae s.e) (aA (bc (↑(cf (s.m:Int)|||cf (bc (b.fst*2^min b.snd.toNat u64.bits))).toNat:Int))) [(0,x.r.A),(1,F)]))/\aS fun(q:vm)_=>(q.neg=kw x.n/\q.e+(-1023:Int)=oW x.n/\q.m=e_ x.n)->((-9223372036854775808:Int)<=q.e+(-1023:Int)/\q.e+(-1023:Int)<=(9223372036854775807:Int))/\Br ((q.m:Int)==0) (PD [au x.r.a x.r.n x.r.cap,ak q.neg,au none 0 0,ae 0,ae 0,ae (-1),a_ 101,ak (decide ((-1:Int)<(0:Int)))] [x.r.A] (aH [(0,x.r.A),(1,F)] [0]) (fun b a=>aq zx x F (az (mf a)) [(0,a.A),(1,F)])) ((∀(b:Nat),∃(a:vm),(a.neg=kw x.n/\a.e=oW x.n/\a.m=e_ x.n/\Gh a.vs)/\(au x.r.a x.r.n x.r.cap=au x.r.a x.r.n x.r.cap/\a_ 101=a_ 101/\ae (-1)=ae (-1)/\ae 52=ae 52/\ae (-1023)=ae (-1023)/\ak q.neg=ak a.neg/\ae (q.e+(-1023:Int))=ae a.e/\aA ↑q.m=aA ↑a.m/\ah (bJ b)=ah (some ⟨a.b,0,none⟩)/\True)/\aD [(0,x.r.A),(1,F),(5000,ag b (List.replicate 31 (a_ 0)++[a_ 0]) 221)] [(0,x.r.A),(1,F),(2,ag a.b a.vs a.t)])/\aS fun(o:vm)_=>(o.neg=kw x.n/\o.e=oW x.n/\o.m=e_ x.n/\Gh o.vs)->JJ [aA ↑o.m] (fun m l=>bT ((64:Int)-(↑(Lib.bitLen m.u):Int))/\rm (a8 Tryz.f176 35 2) [aA ↑o.m,ae ((64:Int)-(↑(Lib.bitLen m.u):Int))] (fun k=>bT (o.e-((64:Int)-(↑(Lib.bitLen m.u):Int)))/\((-9223372036854775808:Int)<=o.e-((64:Int)-(↑(Lib.bitLen m.u):Int))-52/\o.e-((64:Int)-(↑(Lib.bitLen m.u):Int))-52<=(9223372036854775807:Int))/\aC 198 yQ/\true=true/\∃(j:sA),[aA (bc (k.fst*2^min k.snd.toNat u64.bits)),ae (o.e-((64:Int)-(↑(Lib.bitLen m.u):Int))-52)]=[aA ↑j.m,ae j.e]/\([]:List ai)=[]/\((9223372036854775808<=j.m/\j.m<18446744073709551616)/\((-1137:Int)<=j.e/\j.e<=960)/\∀(a:Nat),j.tb a<18446744073709551616)/\(∀(a:Nat),a<1392->aO (aH [(0,x.r.A),(1,F),(2,ag o.b o.vs o.t)] []) ⟨15,a,none⟩ (aA (↑(j.tb a):Int)))/\∀(i:Xw),tO j.tb j.m j.e=(i.d,i.p)->true=true/\PE (a8 Tryz.f176 38 0) [ah (some ⟨o.b,0,none⟩)] (fun h=>aC 172 Lg/\true=true/\∃(g:X0),[aA i.d]=[aA ↑g.u]/\([]:List ai)=[]/\(1<=g.u/\g.u<18446744073709551616)/\jQ (aH [(0,x.r.A),(1,F),(2,ag o.b o.vs o.t)] [])/\∀(f:Unit),True->aC 194 CG/\true=true/\∃(e:w_),[au (some h.a) 32 32,aA i.d,ae i.p,ae (↑(Lib.nDigits g.u):Int)]=[au (u3 e) 32 32,aA ↑e.u,ae e.p,ae ↑e.n]/\[ag o.b o.vs o.t]=[ag e.b e.vs e.t]/\(Gh e.vs/\e.n<=20/\e.u<Nat.pow 10 e.n/\e.u<18446744073709551616/\(-100000:Int)<=e.p/\e.p<=100000)/\True/\∀(d:Unit),True->((-9223372036854775808:Int)<=(↑(kL e.u e.n e.n):Int)-1/\(↑(kL e.u e.n e.n):Int)-1<=(9223372036854775807:Int))/\PE (a8 Tryz.f176 48 2) [ah (some ⟨o.b,0,none⟩)] (fun c=>PD [au x.r.a x.r.n x.r.cap,ak o.neg,au (some c.a) 32 32,ae (e.n+e.p),ae (↑(kL e.u e.n e.n):Int),ae (if 0>(↑(kL e.u e.n e.n):Int)-1 then (0:Int) else (↑(kL e.u e.n e.n):Int)-1),a_ 101,ak true] [x.r.A] (aH [(0,x.r.A),(1,F),(2,ag e.b (bZ (kR e.u e.n 32)) e.t)] [0]) (fun b a=>aq zx x F (az (mf a)) [(0,a.A),(1,F),(2,ag e.b (bZ (kR e.u e.n 32)) e.t)])))))))))):=by
 delta xf PB rm Di mf M5 Wi PC oC PD bJ JJ PE u3 aH bT ae a_ aA aj ak ah au ag cf iC bc bY az aS;obtain⟨tb,r,n⟩:=x;obtain⟨h0,h1,h2⟩:=hc;replace hr:mr tb F:=hr;dsimp only at h0 h1 h2⊢;obtain⟨a1,a2,a3,a4,a5,a6⟩:=h1.abc;refine⟨⟨by decide,by decide⟩,AE rfl,((n:Int),11+52),rfl,(by decide:(0:Int)<=11+52),rfl,AE rfl,((n:Int),52),rfl,(by decide:(0:Int)<=52),pj rfl,(1,11),rfl,(by decide:(0:Int)<=11),pj rfl,(1,52),rfl,(by decide:(0:Int)<=52),⟨pj rfl,(1,11),rfl,(by decide:(0:Int)<=11),?_⟩,?_⟩
 ·dsimp only;rw[ahZ,ah2];refine aG (fun q=>?_) (fun _=>⟨⟨kw n,(nj n:Nat),pI n,0,[],0⟩,⟨rfl,rfl,rfl⟩,aV,aB [0,1]⟩);exfalso;rw[show i64.wrap (i64.wrap (1*2^min (Int.toNat 11) i64.bits)-1)=2047 by decide]at q;have:=eq_of_beq q;omega
 rintro⟨neg,e,m,b0,vs0,t0⟩ js ⟨g1,g2,g3⟩;dsimp only at g1 g2 g3;subst g1 g2 g3;dsimp only;refine⟨aG (fun q=>⟨aJ,⟨kw n,(nj n:Int)+1,pI n,0,[],0⟩,⟨rfl,?_,?_⟩,aV,aB [0,1]⟩) (fun q=>⟨pj rfl,(1,52),rfl,(by decide:(0:Int)<=52),⟨kw n,(nj n:Int),e_ n,0,[],0⟩,⟨rfl,?_,rfl⟩,⟨rfl,rfl,rfl,rfl,rfl,rfl,rfl,?_,ao⟩,aB [0,1]⟩),?_⟩
 ·dsimp only;have:=eq_of_beq q;unfold oW;rw[show(nj n==0)=true by rw[beq_iff_eq];omega,bf];omega
 ·dsimp only;have:=eq_of_beq q;unfold e_;rw[show(nj n==0)=true by rw[beq_iff_eq];omega,bf]
 ·dsimp only;have:=ga.1 q;unfold oW;rw[show(nj n==0)=false by rw[ga];omega,aU]
 ·dsimp only;rw[ah4 a6];have:=ga.1 q;unfold e_;rw[show(nj n==0)=false by rw[ga];omega,aU]
 rintro⟨neg,e,m,b0,vs0,t0⟩ js ⟨g1,g2,g3⟩;dsimp only at g1 g2 g3;subst g1 g3;dsimp only;rw[g2];refine⟨aJ,aG (fun q=>?_) (fun _=>⟨fun b=>⟨⟨kw n,oW n,e_ n,b,_,221⟩,⟨rfl,rfl,rfl,⟨rfl⟩⟩,aV,aB [0,1,5000]⟩,?_⟩)⟩
 ·exact absurd (eq_of_beq q) af
 clear g2 e;rintro⟨neg,e,m,b,vs,t⟩ js ⟨g1,g2,g3,g4⟩;dsimp only at g1 g2 g3 g4;subst g1 g2 g3;dsimp only;obtain⟨b1,b2,b3,b4⟩:=Yf a2 af;have b5:Lib.bitLen (e_ n)<=53:=Lib.bitLen_le _ 53 af af;obtain⟨q1,q2,q3,q4⟩:=Zd h0.lt h0.ge h1;have em:u64.wrap ((e_ n:Int)*2^min (64-(Lib.bitLen (e_ n):Int)).toNat u64.bits)=((e_ n*2^(64-Lib.bitLen (e_ n)):Nat):Int):=by
  rw[show min (64-(Lib.bitLen (e_ n):Int)).toNat u64.bits=64-Lib.bitLen (e_ n) by
   show min (64-(Lib.bitLen (e_ n):Int)).toNat 64=_;omega]
  have:((e_ n:Int)*2^(64-Lib.bitLen (e_ n)))=((e_ n*2^(64-Lib.bitLen (e_ n)):Nat):Int):=by
   rw[Int.natCast_mul,Int.natCast_pow];rfl
  rw[this];exact dA (i:=.u64) aJ
 refine bV aag ⟨e_ n⟩ bd fun _ _=>⟨iP,pj rfl,((e_ n:Int),64-(Lib.bitLen (e_ n):Int)),rfl,bd,iP,iP,aoL,rfl,⟨e_ n*2^(64-Lib.bitLen (e_ n)),oW n-(64-(Lib.bitLen (e_ n):Int))-52,tb⟩,by dsimp only;rw[em],rfl,⟨⟨b3,b4⟩,iP,h0.lt⟩,fun i hi=>by exact aO.sub (A:=F) (qN 1 (by decide) rfl) (hr.IM i hi),?_⟩;rintro⟨d,p⟩ (hy:sU tb n=(d,p));rw[hy]at q1 q2 q3 q4;dsimp only at q1 q2 q3 q4⊢;obtain⟨u,rfl⟩:∃u:Nat,d=u:=⟨d.toNat,af⟩;have n1:=Lib.nDigits_pos u;have n2:=Lh 19 u af;have n3:=Lib.lt_pow_nDigits u;have n4:=acf u (Lib.nDigits u) (Lib.nDigits u);refine⟨rfl,JV rfl rfl rfl rfl rfl,⟨⟨b,0,none⟩⟩,rfl,ap,alA,rfl,⟨u⟩,rfl,rfl,iP,hr.tx.sub (qN 1 (by decide) rfl),fun _ _=>bV aoy ⟨t,vs,b,u,p,Lib.nDigits u⟩ ⟨g4,n2,n3,bd,bd,bd⟩ fun _ _=>⟨iP,JV rfl rfl rfl rfl rfl,⟨⟨b,0,none⟩⟩,rfl,ap,ahG,rfl,⟨r,kw n,b,kR u (Lib.nDigits u) 32,Lib.nDigits u+p,kL u (Lib.nDigits u) (Lib.nDigits u)⟩,?_,rfl,⟨h2,YK af,bd,bd,bd⟩,?_,fun y nk=>⟨y,?_,rfl,aB [0,1]⟩⟩⟩
 ·dsimp only;have:(if 0>((kL u (Lib.nDigits u) (Lib.nDigits u):Nat):Int)-1 then (0:Int) else ((kL u (Lib.nDigits u) (Lib.nDigits u):Nat):Int)-1)=((kL u (Lib.nDigits u) (Lib.nDigits u)-1:Nat):Int):=by
   split <;> omega
  rw[this]
 ·exact da.rest (j:=2) (by decide) (da.cells fun i w hw=>by rw[jk];exact hw)
 ·show bv 5 1 (bZ (vK tb n)) y;unfold vK;rw[hy];exact nk
theorem ah3:aC 176 zx:=fo 298 Tryz.func176 (fun _ _=>[(9,1,aW),(18,1,dO (ut 5)),(20,1,dO (ut 5)),(21,1,dO (ut 5)),(31,6,bq Bz),(13,4,.qo (wN .u64 .i64)),(14,2,.qo (wN .u64 .i64)),(14,3,aW),(14,5,.qo (oI .i64 .i64)),(14,6,aW),(14,7,aW),(15,2,.qo (oI .u64 .i64)),(15,3,aW),(15,4,aW),(16,2,.qo (oI .i64 .i64)),(16,3,aW),(24,2,.qo (oI .u64 .i64)),(24,3,aW),(33,0,.n 5000),(34,1,aX G_),(35,2,.qo (oI .u64 .i64)),(37,4,aX yQ),(38,0,.qo (vy 32)),(38,4,aX Lg),(38,5,.c CG [2] [2]),(48,2,.qo (vy 32)),(48,7,bq Bz)]) [] aY ahX bz [] ah5
end
section
open Go
structure y9 where
 tb:Nat->Nat
 n:Nat
def vI:aR where
 X:=y9
 args x:=[float f64 x.n,a_ 101,ae (-1),ae 64]
 cond x:=pC x.tb/\qb x.n
 aQ x F:=mr x.tb F
 val x _:=az (aj (cQ (vK x.tb x.n)))
def yr(c:Row):List Value:=[au c.a c.n c.cap]
theorem ahJ(x:y9)(F:ai)(hc:vI.cond x)(hr:vI.aQ x F):((-9223372036854775808:Int)<=(-1:Int)+(4:Int)/\(-1:Int)+(4:Int)<=(9223372036854775807:Int))/\T4 (a8 Tryz.f162 4 3) [ae 0,ae (if (24:Int)>(-1:Int)+(4:Int) then (24:Int) else (-1:Int)+(4:Int))] (fun f e=>aC 176 zx/\true=true/\∃(d:AY),[au (bJ e) f.n.toNat f.c.toNat,float f64 x.n,a_ 101,ae (-1)]=[au d.r.a d.r.n d.r.cap,float f64 d.n,a_ 101,ae (-1)]/\[ag e (iI [a_ 0] f.c.toNat) 5]=[d.r.A]/\(pC d.tb/\qb d.n/\bv 5 1 [] d.r)/\mr d.tb (aH [(0,F),(5000,ag e (iI [a_ 0] f.c.toNat) 5)] [5000])/\∀(c:Row),bv 5 1 (bZ (vK d.tb d.n)) c->T8 (a8 Tryz.f162 4 8) (yr c) (aH [(0,F),(5000,c.A)] []) (fun b a=>aq vI x F (az (aj (cQ b.l))) [(0,F),(5000,c.A)])):=by
 delta T4 bJ T8 yr aH ae a_ aj au ag az;obtain⟨tb,n⟩:=x;obtain⟨h0,h1⟩:=hc;replace hr:mr tb F:=hr;dsimp only at h0 h1⊢;refine⟨⟨by decide,by decide⟩,Ed (P:=Tryz.prog) [.int .u8 0] 1 rfl rfl rfl rfl rfl rfl aM rfl,rfl,⟨0,24⟩,rfl,rfl,⟨cN _,by decide,by decide,by decide⟩,ao,fun b _=>bp ah3 ⟨tb,⟨some ⟨b,0,none⟩,0,24,.cells b (iI [.int .u8 0] 24) 5⟩,n⟩ ⟨h0,h1,.gg b 0 24 (iI [.int .u8 0] 24) rfl rfl (by decide)⟩ (by exact hr.sub (qN 0 (by decide) rfl)) fun y hy=>bp (JZ rfl rfl rfl rfl) ⟨y.a,y.n,y.cap,vK tb n⟩ hy.src (WC 5000 (by decide) rfl hy) fun _ _=>lJ⟩
theorem ahI:aC 162 vI:=fo 33 Tryz.func162 (fun _ _=>[(4,3,.o (wc 5 [.int .u8 0] 1) [] [5000]),(4,7,.c zx [5000] [5000]),(4,8,.o Bi [] [])]) [] aY aY bz [] ahJ
def EU(x:y9):List Value:=[float f64 x.n,a_ 101,ae (-1),ae 64]
theorem ahM(x:y9)(F:ai)(hc:vI.cond x)(hr:vI.aQ x F):aC 162 vI/\true=true/\∃(b:y9),(EU x)=(EU b)/\([]:List ai)=[]/\(pC b.tb/\qb b.n)/\mr b.tb (cX F)/\∀(a:Unit),True->aq vI x F (az (aj (cQ (vK b.tb b.n)))) [(0,F)]:=by
 delta EU cX aH ae a_ aj az;exact bp ahI ⟨x.tb,x.n⟩ hc (by exact mr.sub hr (qN 0 (by decide) rfl)) fun _ _=>lJ
theorem ahL:aC 139 vI:=fo 14 Tryz.func139 (fun _ _=>[(1,4,aX vI)]) [] aY aY bz [] ahM
end
section
open Go
structure Da where
 l:List Value
def Em:aR where
 X:=Da
 args x:=x.l
 cond _:=False
 cd _ _:=False
 val _ _:=panicked []
def Ee:aR where
 X:=ug
 args x:=[aA x.u,aA x.v]
 cond x:=x.u<18446744073709551616/\x.v<18446744073709551616
 val x _:=.returned (.tuple #[.int .u64 (x.u*x.v/18446744073709551616:Nat),.int .u64 (x.u*x.v%18446744073709551616:Nat)])
theorem alo(x:ug)(F:ai)(hc:Ee.cond x)(hr:Ee.aQ x F):Ga [aA ↑x.u,aA ↑x.v] (fun b a=>aq Ee x F (az (tuple ⟨[aA (↑(b.u*b.v/18446744073709551616):Int),aA (↑(b.u*b.v%18446744073709551616):Int)]⟩)) [(0,F)]):=by
 delta Ga aA az;exact bV SF ⟨x.u,x.v⟩ hc fun _ _=>lJ
theorem aln:aC 178 Ee:=fo 30 Tryz.func178 (fun _ _=>[(3,2,aX Ec)]) [] aY aY bz [] alo
def Au(c:UInt8):List UInt8:=[c,c,c,c,c,c,c,c,c,c,c,c,c,c,c,c,c,c,c,c,c,c,c,c,c,c,c,c,c,c,c,c,c,c,c,c,c,c,c,c,c,c,c,c,c,c,c,c,c,c,c,c,c,c,c,c,c,c,c,c,c,c,c,c]
def aqV:ByteArray:=⟨#[48,48,48,48,48,48,48,48,48,48,48,48,48,48,48,48,48,48,48,48,48,48,48,48,48,48,48,48,48,48,48,48,48,48,48,48,48,48,48,48,48,48,48,48,48,48,48,48,48,48,48,48,48,48,48,48,48,48,48,48,48,48,48,48]⟩
def qI(n:Nat):ByteArray:=bif n==0 then ⟨#[]⟩ else bif n==1 then ⟨#[48]⟩ else aqV.extract 0 n
theorem Iv(n:Nat)(h:n<=21):(qI n).size<=21:=by
 unfold qI;cases n==0 with
 |true=>exact dC 21
 |false=>
  rw[aU];cases n==1 with
  |true=>show(ByteArray.mk #[48]).size<=21;decide
  |false=>
   rw[aU,jU];omega
structure FH where
 a:ByteArray
def DX(b:Bool):aR where
 X:=FH
 args x:=[.string x.a,.string ⟨#[48]⟩]
 cond x:=kz x.a ⟨#[48]⟩=b
 val _ _:=az (ak b)
theorem RZ(b:Bool):aC 50 (DX b):=GS.view (fun x=>⟨x.a,⟨#[48]⟩⟩) (fun _=>rfl) (fun _=>rfl) (fun _ _=>ao) (fun _ _ _ _=>ao) (fun x _ hc _=>⟨(),ao,by show returned (.bool (kz x.a ⟨#[48]⟩))=_;rw[show kz x.a ⟨#[48]⟩=b from hc];rfl,rfl⟩)
structure ze where
 n:Nat
def wJ:aR where
 X:=ze
 args x:=[.string ⟨#[48]⟩,.int .i64 x.n]
 cond x:=x.n<=21
 val x _:=az (aj (qI x.n))
def E6:=az (aj ⟨#[48]⟩)
def uZ:ByteArray:=ByteArray.mk #[48]
def HR(h:ug):=decide ((↑(h.u*h.v%18446744073709551616):Int)<=128)
def PF(aa:List Value)(k0:FH->Unit->Prop):=aC 50 (DX false)/\true=true/\∃(z:FH),aa=[aj z.a,aj ⟨#[48]⟩]/\([]:List ai)=[]/\kz z.a uZ=false/\True/\∀(u0:Unit),True->k0 z u0
def HL(h:ug):=decide ((↑(h.u*h.v%18446744073709551616):Int)<=64)
def XF(aa:List Value)(k0:FH->Unit->Prop):=aC 50 (DX true)/\true=true/\∃(z:FH),aa=[aj z.a,aj ⟨#[48]⟩]/\([]:List ai)=[]/\kz z.a uZ=true/\True/\∀(u0:Unit),True->k0 z u0
def Nw:ByteArray:=ByteArray.mk (Au 48).toArray
def MG(h:ug)(x:ze)(F:ai):=XF [aj Nw,aj ⟨#[48]⟩] (fun b a=>((0:Int)<=(0:Int)/\0<=(↑(h.u*h.v%18446744073709551616):Int)/\(↑(h.u*h.v%18446744073709551616):Int)<=(↑Nw.size:Int))/\aq wJ x F (az (aj (Nw.extract (Int.toNat (0:Int)) (↑(h.u*h.v%18446744073709551616):Int).toNat))) [(0,F)])
def F3(ff:FuncId)(aa:List Value)(k0:Da->Unit->Prop):=aC ff Em/\true=true/\∃(z:Da),aa=z.l/\([]:List ai)=[]/\False/\True/\∀(u0:Unit),False->k0 z u0
def HV(x:ze)(F:ai):Da->Unit->Prop:=fun b a=>aq wJ x F (panicked []) [(0,F)]
def PH(oo:Oper)(aa:List Value)(k0:Da->Unit->Prop):=fj Tryz.prog oo Em/\true=true/\∃(z:Da),aa=z.l/\([]:List ai)=[]/\False/\True/\∀(u0:Unit),False->k0 z u0
def q9(h:ug)(x:ze)(F:ai):=Br (HR h) (F3 50 [aj (ByteArray.mk ((Au 61).append (Au 61)).toArray),aj ⟨#[48]⟩] (HV x F)) (Br (HL h) (F3 50 [aj (ByteArray.mk (Au 9).toArray),aj ⟨#[48]⟩] (HV x F)) (aP ((↑(h.u*h.v%18446744073709551616):Int)>8192) ((↑uZ.size:Int)≠(0:Int)/\bT (Int.tdiv (8192:Int) (↑uZ.size:Int))/\bT (Int.tdiv (8192:Int) (↑uZ.size:Int)*(↑uZ.size:Int))/\PH ⟨some 9,Op.alloc 95,0,"strings.go:657",⟨[]⟩,none⟩ [] (HV x F)) (PH ⟨some 9,Op.alloc 95,0,"strings.go:657",⟨[]⟩,none⟩ [] (HV x F))))
def Ux(h:ug)(x:ze)(F:ai):=PF [aj (ByteArray.mk ((Au 45).append (Au 45)).toArray),aj ⟨#[48]⟩] (fun d c=>Br (HL h) (MG h x F) (q9 h x F))
theorem aon(x:ze)(F:ai)(hc:wJ.cond x)(hr:wJ.aQ x F):Br ((x.n:Int)==0) (aq wJ x F (az (aj ⟨#[]⟩)) [(0,F)]) (Br ((x.n:Int)==1) (aq wJ x F E6 [(0,F)]) ((0<=(↑uZ.size:Int)/\(↑uZ.size:Int)<=18446744073709551615)/\(0<=(x.n:Int)/\(x.n:Int)<=18446744073709551615)/\aC 178 Ee/\true=true/\∃(h:ug),[aA (↑uZ.size:Int),aA ↑x.n]=[aA ↑h.u,aA ↑h.v]/\([]:List ai)=[]/\(h.u<18446744073709551616/\h.v<18446744073709551616)/\True/\∀(g:Unit),True->aP ((↑(h.u*h.v/18446744073709551616):Int)>0) False (aP ((↑(h.u*h.v%18446744073709551616):Int)>9223372036854775807) False (bT (↑(h.u*h.v%18446744073709551616):Int)/\((0:Int)<=(0:Int)/\0<(↑uZ.size:Int))/\Br (HR h) (PF [aj (ByteArray.mk ((Au 32).append (Au 32)).toArray),aj ⟨#[48]⟩] (fun f e=>Br (HR h) (Ux h x F) (Br (HL h) (MG h x F) (q9 h x F)))) (Br (HR h) (Ux h x F) (Br (HL h) (MG h x F) (q9 h x F))))))):=by
 delta E6 uZ HR PF HL XF Nw MG F3 HV PH q9 Ux bT aA aj aP az;obtain⟨n⟩:=x;have hn:n<=21:=hc;dsimp only;refine aG (fun q=>⟨(),ao,?_,aB [0]⟩) (fun q=>aG (fun q2=>⟨(),ao,?_,aB [0]⟩) (fun q2=>⟨⟨by decide,by decide⟩,aJ,aln,rfl,⟨1,n⟩,rfl,rfl,⟨(by grind),bd⟩,ao,fun _ _=>?_⟩))
 ·have:n=0:=by have:=eq_of_beq q;omega
  subst this;rfl
 ·have:n=1:=by have:=eq_of_beq q2;omega
  subst this;rfl
 have n0:n≠0:=by have:=ga.1 q;omega
 have n1:n≠1:=by have:=ga.1 q2;omega
 dsimp only;have e1:1*n/18446744073709551616=0:=af;have e2:1*n%18446744073709551616=n:=af;rw[e1,e2];refine bl (fun q=>absurd q (by decide)) (fun _=>bl (fun q=>absurd q af) (fun _=>⟨aJ,⟨by decide,by decide⟩,bl (fun _=>⟨RZ false,rfl,⟨_⟩,rfl,rfl,by decide+kernel,ao,fun _ _=>bl (fun _=>⟨RZ false,rfl,⟨_⟩,rfl,rfl,by decide+kernel,ao,fun _ _=>bl (fun _=>⟨RZ true,rfl,⟨_⟩,rfl,rfl,by decide+kernel,ao,fun _ _=>⟨⟨by decide,af,?_⟩,(),ao,?_,aB [0]⟩⟩) (fun q=>absurd af q)⟩) (fun q=>absurd af q)⟩) (fun q=>absurd af q)⟩))
 ·exact Int.le_trans (b:=64) af (by decide)
 ·show _=returned (.string (qI n));unfold qI;rw[ga.2 n0,ga.2 n1];rfl
theorem abJ:aC 164 wJ:=fo 125 Tryz.func164 (fun _ _=>[(8,2,.ck),(8,4,.ck),(8,5,aX Ee),(11,1,.ck),(20,4,aX (DX false)),(22,4,aX (DX false)),(24,4,aX (DX true)),(26,4,aX Em),(28,4,aX Em),(35,0,.o Em [] []),(25,1,.sl)]) [] aY aY bz [] aon
def x_(ds:ByteArray):ByteArray:=ds.extract 0 1++(bif decide ((ds.size:Int)>1) then ⟨#[46]⟩++ds.extract 1 ds.size else ⟨#[]⟩)
def uO(ds:ByteArray)(n:Int):ByteArray:=bif decide (n-1<0) then x_ ds++⟨#[101,45]⟩++⟨(Lib.itoa (1-n)).toArray⟩ else x_ ds++⟨#[101,43]⟩++⟨(Lib.itoa (n-1)).toArray⟩
def ld(ds:ByteArray)(n:Int):ByteArray:=
 bif decide ((ds.size:Int)<=n)&&decide (n<=21) then ds++qI (n-ds.size).toNat
 else bif decide (0<n)&&decide (n<=21) then ds.extract 0 n.toNat++⟨#[46]⟩++ds.extract n.toNat ds.size
 else bif decide (-6<n)&&decide (n<=0) then ⟨#[48,46]⟩++qI (-n).toNat++ds
 else uO ds n
structure uf where
 ds:ByteArray
 n:Int
def zG:aR where
 X:=uf
 args x:=[aj x.ds,ae x.n]
 cond x:=1<=x.ds.size/\x.ds.size<=1000/\ -1000<=x.n/\x.n<=1000
 aQ _ F:=jQ F
 val x _:=az (aj (ld x.ds x.n))
variable{p q:Prop}
theorem QR[Decidable p][Decidable q]{A B:Prop}(h1:p->q->A)(h2:¬(p/\q)->B):Br (decide p) (Br (decide q) A B) B:=bl (fun a=>bl (fun b=>h1 a b) (fun b=>h2 (fun e=>b e.2))) (fun a=>h2 (fun e=>a e.1))
theorem QG[Decidable p][Decidable q](h:¬(p/\q)):(decide p&&decide q)=false:=by
 grind
theorem K7{n:Int}(h0: -2000<=n)(h1:n<=2000):(ByteArray.mk (Lib.itoa n).toArray).size<=5:=by
 show(Lib.itoa n).toArray.size<=5;rw[List.size_toArray];have key:∀u:Nat,u<=2000->(Lib.decDigits u).length<=4:=fun u hu=>by
  rw[Lib.decDigits_eq,List.length_map,List.length_range];exact Lh 3 u af
 unfold Lib.itoa;grind
theorem aau(ds:ByteArray):(x_ ds).size<=2*ds.size+1:=by
 unfold x_;have e0:(ds.extract 0 1).size<=ds.size:=by rw[jU];omega
 cases decide ((ds.size:Int)>1)with
 |true=>
  rw[bf,mH,mH,@ByteArray.size_extract ds 1 ds.size];show _+(1+_)<=_;omega
 |false=>
  rw[aU,mH];show _+0<=_;omega
theorem akR{ds:ByteArray}{n:Int}(h1:ds.size<=1000)(h2: -1000<=n)(h3:n<=1000):(ld ds n).size<=4000:=by
 have hE:=aau ds;unfold ld;by_cases c1:(ds.size:Int)<=n/\n<=21
 ·rw[bG c1.1,bG c1.2];show(ds++qI (n-ds.size).toNat).size<=4000;have:=Iv (n-ds.size).toNat af;grind
 ·rw[QG c1,aU];by_cases c2:0<n/\n<=21
  ·rw[bG c2.1,bG c2.2];show(ds.extract 0 n.toNat++⟨#[46]⟩++ds.extract n.toNat ds.size).size<=4000;rw[mH,mH,jU,jU];show _+1+_<=_;omega
  ·rw[QG c2,aU];by_cases c3: -6<n/\n<=0
   ·rw[bG c3.1,bG c3.2];show(⟨#[48,46]⟩++qI (-n).toNat++ds).size<=4000;have:=Iv (-n).toNat af;rw[mH,mH];show 2+_+_<=_;omega
   ·rw[QG c3,aU];unfold uO;cases decide (n-1<0)with
    |true=>
     rw[bf,mH,mH];have:=K7 (n:=1-n) af af;show _+2+_<=_;omega
    |false=>
     rw[aU,mH,mH];have:=K7 (n:=n-1) af af;show _+2+_<=_;omega
def akQ(x:uf)(F:ai):Nat->Option Inv:=fun
 |8=>some {X:=Unit,P:=fun _=>ld x.ds x.n=uO x.ds x.n,mu:=fun _=>0,lv:=fun _=>[(0,aj x.ds),(1,ae x.n),(5,ae (x.ds.size:Nat))],st:=fun _=>[F]}
 |11=>some {X:=ByteArray,P:=fun d=>ld x.ds x.n=uO x.ds x.n/\d=x_ x.ds,mu:=fun _=>0,lv:=fun d=>[(1,ae x.n),(6,aj d)],st:=fun _=>[F]}
 |_=>none
def PI(aa:List Value)(k0:ze->Unit->Prop):=aC 164 wJ/\true=true/\∃(z:ze),aa=[aj ⟨#[48]⟩,ae ↑z.n]/\([]:List ai)=[]/\z.n<=21/\True/\∀(u0:Unit),True->k0 z u0
def PJ(e0:uf)(e1:ai)(ss:St):=∃(z:Unit),ld e0.ds e0.n=uO e0.ds e0.n/\(aj e0.ds=aj e0.ds/\ae e0.n=ae e0.n/\ae ↑e0.ds.size=ae ↑e0.ds.size/\True)/\aD ss [(0,e1)]
def Tf(x:uf)(F:ai):=aP ((-6:Int)<x.n) (aP (x.n<=0) (PI [aj ⟨#[48]⟩,ae (bY ((0:Int)-x.n))] (fun b a=>2+(qI b.n).size<=9223372036854775807/\((ByteArray.mk #[48,46])++qI b.n).size+x.ds.size<=9223372036854775807/\aq zG x F (az (aj ((ByteArray.mk #[48,46])++qI b.n++x.ds))) [(0,F)])) (PJ x F [(0,F)])) (PJ x F [(0,F)])
def TE(x:uf)(F:ai):=aP (0<x.n) (aP (x.n<=21) (true=true/\((0:Int)<=(0:Int)/\0<=x.n/\x.n<=x.ds.size)/\(x.ds.extract (Int.toNat (0:Int)) x.n.toNat).size+1<=9223372036854775807/\(0<=x.n/\x.n<=x.ds.size/\(x.ds.size:Int)<=(x.ds.size:Int))/\(x.ds.extract (Int.toNat (0:Int)) x.n.toNat++(ByteArray.mk #[46])).size+(x.ds.extract x.n.toNat (x.ds.size:Int).toNat).size<=9223372036854775807/\aq zG x F (az (aj (x.ds.extract (Int.toNat (0:Int)) x.n.toNat++(ByteArray.mk #[46])++x.ds.extract x.n.toNat (x.ds.size:Int).toNat))) [(0,F)]) (Tf x F)) (Tf x F)
def PK(e0:uf)(e1:ai)(v0:Value)(ss:St):=∃(z:ByteArray),(ld e0.ds e0.n=uO e0.ds e0.n/\z=x_ e0.ds)/\(ae e0.n=ae e0.n/\v0=aj z/\True)/\aD ss [(0,e1)]
def VC(x:uf):=(-9223372036854775808:Int)<=x.n-1/\x.n-1<=(9223372036854775807:Int)
def PL(aa:List Value)(rr:ai)(k0:nP->Unit->Prop):=aC 120 G8/\true=true/\∃(z:nP),aa=[ae z.i]/\([]:List ai)=[]/\((-9223372036854775808:Int)<=z.i/\z.i<=9223372036854775807)/\jQ rr/\∀(u0:Unit),True->k0 z u0
def H4(b:nP):ByteArray:=ByteArray.mk (Lib.itoa b.i).toArray
theorem akT(x:uf)(F:ai)(hc:zG.cond x)(hr:zG.aQ x F):aP (x.ds.size<=x.n) (aP (x.n<=21) (bT (x.n-x.ds.size)/\PI [aj ⟨#[48]⟩,ae (x.n-x.ds.size)] (fun b a=>x.ds.size+(qI b.n).size<=9223372036854775807/\aq zG x F (az (aj (x.ds++qI b.n))) [(0,F)])) (TE x F)) (TE x F)/\aS fun(f:Unit)_=>ld x.ds x.n=uO x.ds x.n->((0:Int)<=(0:Int)/\(0:Int)<=(1:Int)/\1<=(x.ds.size:Int))/\aP ((x.ds.size:Int)>1) (((0:Int)<=(1:Int)/\1<=(x.ds.size:Int)/\(x.ds.size:Int)<=(x.ds.size:Int))/\1+(x.ds.extract (Int.toNat (1:Int)) (x.ds.size:Int).toNat).size<=9223372036854775807/\(x.ds.extract (Int.toNat (0:Int)) (Int.toNat (1:Int))).size+((ByteArray.mk #[46])++x.ds.extract (Int.toNat (1:Int)) (x.ds.size:Int).toNat).size<=9223372036854775807/\PK x F (aj (x.ds.extract (Int.toNat (0:Int)) (Int.toNat (1:Int))++((ByteArray.mk #[46])++x.ds.extract (Int.toNat (1:Int)) (x.ds.size:Int).toNat))) [(0,F)]) (PK x F (aj (x.ds.extract (Int.toNat (0:Int)) (Int.toNat (1:Int)))) [(0,F)])/\aS fun(d:ByteArray)_=>(ld x.ds x.n=uO x.ds x.n/\d=x_ x.ds)->VC x/\aP (x.n-1<(0:Int)) (d.size+2<=9223372036854775807/\bT ((1:Int)-x.n)/\PL [ae ((1:Int)-x.n)] (cX F) (fun b a=>(d++(ByteArray.mk #[101,45])).size+(H4 b).size<=9223372036854775807/\aq zG x F (az (aj (d++(ByteArray.mk #[101,45])++(H4 b)))) [(0,F)])) (d.size+2<=9223372036854775807/\VC x/\PL [ae (x.n-1)] (cX F) (fun b a=>(d++(ByteArray.mk #[101,43])).size+(H4 b).size<=9223372036854775807/\aq zG x F (az (aj (d++(ByteArray.mk #[101,43])++(H4 b)))) [(0,F)])):=by
 delta PI PJ Tf TE PK VC PL cX H4 aH bT ae aj bY aP az aS;obtain⟨ds,n⟩:=x;obtain⟨h1,h2,h3,h4⟩:=hc;replace hr:jQ F:=hr;dsimp only at h1 h2 h3 h4⊢;have hE:=aau ds;have sx:∀a b:Nat,(ds.extract a b).size<=1000:=fun a b=>by rw[jU];omega
 have et:((ds.size:Nat):Int).toNat=ds.size:=cB _;rw[et];refine⟨QR (fun a b=>⟨aJ,abJ,rfl,⟨(n-ds.size).toNat⟩,?_,rfl,by grind,ao,fun _ _=>⟨?_,(),ao,?_,aB [0]⟩⟩) (fun c1=>QR (fun a b=>⟨rfl,⟨by decide,af,af⟩,?_,⟨af,af,af⟩,?_,(),ao,?_,aB [0]⟩) (fun c2=>QR (fun a b=>⟨abJ,rfl,⟨(-n).toNat⟩,?_,rfl,by grind,ao,fun _ _=>⟨?_,?_,(),ao,?_,aB [0]⟩⟩) (fun c3=>⟨(),?_,aV,aB [0]⟩))),?_⟩
 ·grind
 ·have:=Iv (n-ds.size).toNat af;grind
 ·show _=returned (.string (ld ds n));unfold ld;simp[*]
 ·grind
 ·have q1:=sx (Int.toNat 0) n.toNat;have q2:=sx n.toNat ds.size;rw[mH];show _+1+_<=_;omega
 ·show _=returned (.string (ld ds n));unfold ld;grind
 ·rw[dA (i:=.i64) (n:=0-n) aJ,show 0-n=(((-n).toNat:Nat):Int) by omega]
 ·have:=Iv (-n).toNat af;grind
 ·have:=Iv (-n).toNat af;dsimp only;rw[mH];show 2+_+_<=_;omega
 ·show _=returned (.string (ld ds n));unfold ld;grind
 ·show ld ds n=uO ds n;unfold ld;grind
 rintro _ js hT;refine⟨⟨by decide,by decide,af⟩,⟨bl (fun q=>⟨⟨by decide,af,af⟩,?_,?_,_,⟨hT,?_⟩,aV,aB [0]⟩) (fun q=>⟨_,⟨hT,?_⟩,aV,aB [0]⟩),?_⟩⟩
 ·grind
 ·have q1:=sx (Int.toNat 0) (Int.toNat 1);have q2:=sx (Int.toNat 1) ds.size;rw[mH];show _+(1+_)<=_;omega
 ·unfold x_;simp[*]
 ·unfold x_;rw[bK q,aU];exact(ByteArray.append_empty (b:=ds.extract 0 1)).symm
 rintro d js ⟨-,rfl⟩;refine⟨aJ,bl (fun q=>⟨af,aJ,Z9,rfl,⟨1-n⟩,rfl,rfl,⟨by grind,by grind⟩,by exact hr.sub (qN 0 (by decide) rfl),fun _ _=>⟨?_,(),ao,?_,aB [0]⟩⟩) (fun q=>⟨af,aJ,Z9,rfl,⟨n-1⟩,rfl,rfl,⟨by grind,by grind⟩,by exact hr.sub (qN 0 (by decide) rfl),fun _ _=>⟨?_,(),ao,?_,aB [0]⟩⟩)⟩
 ·have:=K7 (n:=1-n) af af;rw[mH];show _+2+(ByteArray.mk (Lib.itoa (1-n)).toArray).size<=_;omega
 ·show _=returned (.string (ld ds n));rw[hT];unfold uO;simp[*]
 ·have:=K7 (n:=n-1) af af;rw[mH];show _+2+(ByteArray.mk (Lib.itoa (n-1)).toArray).size<=_;omega
 ·show _=returned (.string (ld ds n));rw[hT];unfold uO;simp[*]
theorem akS:aC 141 zG:=fo 75 Tryz.func141 (fun _ _=>[(3,4,aX wJ),(7,2,aX wJ),(7,1,aW),(12,4,aX G8),(13,4,aX G8)]) [] aY akQ bz [] akT
end
section
open Go
theorem Z3(c:UInt8)(b:List UInt8):∀a:List UInt8,c∉a->Lib.index (a++c::b) [c]=a.length
 | [],_=>by
  show Lib.index (c::b) [c]=0;unfold Lib.index;rw[if_pos (by simp[List.isPrefixOf])]
 |x::a,h=>by
  have h1:c≠x:=fun e=>h (e▸ni);have h2:=Z3 c b a (fun e=>h (sS _ e));show Lib.index (x::(a++c::b)) [c]=_;unfold Lib.index;rw[if_neg (by simp[List.isPrefixOf,h1]),h2];have:((a.length:Int)== -1)=false:=by rw[ga];omega
  rw[this];simp
theorem agw(c:UInt8)(a b:List UInt8)(h:c∉a):Lib.cut (a++c::b) [c]=(a,b,true):=by
 unfold Lib.cut;rw[Z3 c b a h,if_pos (Int.natCast_nonneg _),cB,List.take_left' rfl];simp[*]
theorem anZ(c:UInt8)(l:List UInt8):(Lib.replace l [c] [] 1).length<=l.length/\(l≠[]->l≠[c]->1<=(Lib.replace l [c] [] 1).length):=by
 unfold Lib.replace;rw[if_neg aM];have hk:Lib.replaceNum l [c] 1=0\/Lib.replaceNum l [c] 1=1:=by
  unfold Lib.replaceNum;grind
 rcases hk with hk|hk
 ·rw[hk];show l.length<=l.length/\(l≠[]->l≠[c]->1<=l.length);exact⟨cr _,fun h _=>by cases l with|nil=>exact absurd rfl h|cons x l=>simp⟩
 ·rw[hk,Lib.replaceK];by_cases h0:(Lib.index l [c]== -1)=true
  ·rw[if_pos h0];exact⟨cr _,fun h _=>by cases l with|nil=>exact absurd rfl h|cons x l=>simp⟩
  ·rw[if_neg h0];have hg:=Lib.index_ge l [c];have jI:Lib.index l [c]≠-1:=fun e=>h0 (by rw[e];rfl);have hr:=Lib.index_room l [c] af;have e1:[c].length=1:=rfl;rw[e1]at hr⊢;show(l.take (Lib.index l [c]).toNat++[]++l.drop ((Lib.index l [c]).toNat+1)).length<=_/\_;rw[dJ,gi,List.length_take,List.length_drop];refine⟨af,fun h h2=>?_⟩;cases l with
   |nil=>exact absurd rfl h
   |cons x l=>
    cases l with
    |nil=>
     exfalso;by_cases hx:x=c
     ·grind
     ·apply jI;unfold Lib.index;rw[if_neg (by grind)];rfl
    |cons y l=>
     rw[Lib.replaceK];grind
def ou(neg:Bool)(ds:List Nat)(nd:Nat):List Nat:=eI neg++[eC ds nd]++gG ds nd
def oT(dp:Int)(nd:Nat):List Nat:=nX (d7 dp nd)::nY (d7 dp nd).natAbs
def gC(l:List Nat):List UInt8:=l.map fun n=>UInt8.ofNat n
theorem ahE(neg:Bool)(ds:List Nat)(dp:Int)(nd:Nat):(cQ (sO neg ds dp nd)).data.toList=gC (ou neg ds nd)++101::gC (oT dp nd):=by
 unfold cQ gC sO ou oT;simp
def FE(ds:List Nat):Prop:=∀b∈ds,b=0\/(48<=b/\b<=57)
theorem agT(u n z:Nat):FE (kR u n z):=by
 unfold kR uA;intro b hb;grind
variable{neg:Bool}{dp:Int}{ds:List Nat}{n nd:Nat}{tb:Nat->Nat}
theorem Y3(h:FE ds)(nd:Nat):eC ds nd=0\/(48<=eC ds nd/\eC ds nd<=57):=by
 unfold eC;cases nd==0 with
 |true=>exact .inr ⟨(by simp[*]),(by decide:48<=57)⟩
 |false=>
  rw[aU];cases ds with
  |nil=>exact .inl rfl
  |cons x l=>exact h x ni
theorem ali(h:FE ds)(nd:Nat):∀b∈ou neg ds nd,b≠101/\b<256:=by
 unfold ou;intro b hb;rcases List.mem_append.1 hb with hb|hb
 ·rcases List.mem_append.1 hb with hb|hb
  ·unfold eI at hb;grind
  ·rw[List.mem_singleton]at hb;have:=Y3 h nd;omega
 ·unfold gG at hb;cases hd:decide (nd>1)with
  |false=>rw[hd]at hb;cases hb
  |true=>
   rw[hd,bf]at hb;rcases List.mem_cons.1 hb with hb|hb
   ·omega
   ·have:=h b (List.mem_of_mem_take (List.mem_of_mem_drop hb));omega
theorem alh(h:FE ds)(nd:Nat):(101:UInt8)∉gC (ou neg ds nd):=by
 intro hm;obtain⟨b,hb,e⟩:=List.mem_map.1 hm;have h1:=ali h nd b hb;have h2:=congrArg UInt8.toNat e;rw[UInt8.toNat_ofNat']at h2;grind
theorem alk(hl:ds.length=32):1<=(gC (ou neg ds nd)).length/\(gC (ou neg ds nd)).length<=34:=by
 obtain⟨a,b⟩:=Y5 neg ds nd hl;unfold gC ou;grind
theorem alj(h:FE ds):gC (ou neg ds nd)≠[46]:=by
 intro e;have h1:=congrArg List.length e;unfold gC ou at h1;rw[List.length_map,gi,gi,DQ]at h1;have h0:([46]:List UInt8).length=1:=rfl;rw[h0]at h1;have e1:eI neg=[]:=List.eq_nil_of_length_eq_zero af;have e3:gG ds nd=[]:=List.eq_nil_of_length_eq_zero af;unfold gC ou at e;rw[e1,e3]at e;have e:[UInt8.ofNat (eC ds nd)]=[46]:=e;have h2:=congrArg UInt8.toNat (List.cons.inj e).1;rw[UInt8.toNat_ofNat']at h2;have:(46:UInt8).toNat=46:=rfl;rw[this]at h2;have:=Y3 h nd;omega
theorem Y4(n:Nat):2<=(nY n).length/\(nY n).length<=3:=by
 unfold nY;cases decide (n<10)with
 |true=>exact⟨(by simp[*]),(by decide:2<=3)⟩
 |false=>
  rw[aU];cases decide (n<100)with
  |true=>exact⟨(by decide:2<=2),(by decide:2<=3)⟩
  |false=>exact⟨(by decide:2<=3),(by decide:3<=3)⟩
theorem ahC(h1: -900<=dp)(h2:dp<=900):(d7 dp nd).natAbs<=999:=by
 unfold d7;grind
theorem af0(l:List UInt8)(i:Nat):aE ⟨⟨l⟩⟩ (i:Nat)=((l.getD i 0).toNat:Int):=by
 rfl
theorem ahb(h1: -900<=dp)(h2:dp<=900):wZ ⟨⟨gC (oT dp nd)⟩⟩:=by
 have hE:=ahC (nd:=nd) h1 h2;obtain⟨x1,x2⟩:=Y4 (d7 dp nd).natAbs;have hb:=ahF hE;have hs:(ByteArray.mk ⟨gC (oT dp nd)⟩).size=(nY (d7 dp nd).natAbs).length+1:=by
  show(gC (oT dp nd)).length=_;unfold gC oT;simp[*]
 have hd:((ByteArray.mk ⟨gC (oT dp nd)⟩).extract 1 (ByteArray.mk ⟨gC (oT dp nd)⟩).size)=⟨⟨gC (nY (d7 dp nd).natAbs)⟩⟩:=by
  apply ByteArray.ext;apply Array.ext';rw[Q9];rfl
 refine⟨af,af,?_,fun i hi=>?_⟩
 ·have:aE ⟨⟨gC (oT dp nd)⟩⟩ 0=((UInt8.ofNat (nX (d7 dp nd))).toNat:Int):=rfl;rw[this];unfold nX;cases decide (d7 dp nd<0)with
  |true=>right;decide
  |false=>left;decide
 ·rw[hd]at hi⊢;have hi:i<(gC (nY (d7 dp nd).natAbs)).length:=hi;rw[af0];unfold gC at hi⊢;rw[List.length_map]at hi;rw[fD,gw,gv hi];have:=hb _ (List.getElem_mem hi);show 48<=((UInt8.ofNat (nY (d7 dp nd).natAbs)[i]).toNat:Int)/\((UInt8.ofNat (nY (d7 dp nd).natAbs)[i]).toNat:Int)<=57;rw[UInt8.toNat_ofNat'];omega
theorem afm(t:ByteArray)(h:∀i:Nat,i<t.size->48<=aE t i/\aE t i<=57):∀i,i<=t.size->0<=mC t i/\mC t i<10^i:=by
 intro i
 induction i with
 |zero=>intro _;exact⟨cN 0,by show(0:Int)<10^0;decide⟩
 |succ i ih=>
  intro hi;obtain⟨a,b⟩:=ih af;have:=h i af;rw[mC,Int.pow_succ];omega
theorem afo{s:ByteArray}(h:wZ s)(hs:s.size<=4): -999<=m8 s/\m8 s<=999:=by
 have hx:(s.extract 1 s.size).size=s.size-1:=by simp[*]
 have h0:=h.lo;obtain⟨a,b⟩:=afm _ h.iA (s.size-1) af;have c:(10:Int)^(s.size-1)<=1000:=by
  have a:10^(s.size-1)<=10^3:=oV (by decide) af;grind
 unfold m8;grind
def qp(tb:Nat->Nat)(n:Nat):ByteArray:=cQ (vK tb n)
def apy:ByteArray:=⟨#[101]⟩
def Om(tb:Nat->Nat)(n:Nat):List UInt8×List UInt8×Bool:=uz (qp tb n) apy
def tX(tb:Nat->Nat)(n:Nat):ByteArray:=⟨(Om tb n).1.toArray⟩
def pq(tb:Nat->Nat)(n:Nat):ByteArray:=⟨(Om tb n).2.1.toArray⟩
def yU(tb:Nat->Nat)(n:Nat):ByteArray:=⟨(It ⟨tX tb n,⟨#[46]⟩,⟨#[]⟩,1⟩).toArray⟩
def IQ(tb:Nat->Nat)(n:Nat):ByteArray:=ld (yU tb n) (m8 (pq tb n)+1)
def qP(tb:Nat->Nat)(n:Nat):ByteArray:=bif cR .neq n n then ⟨#[78,97,78]⟩ else bif cR .eql n 0 then ⟨#[48]⟩ else bif rI n then ⟨#[73,110,102,105,110,105,116,121]⟩ else IQ tb n
def pn(tb:Nat->Nat)(n:Nat):ByteArray:=bif cR .neq n n then ⟨#[78,97,78]⟩ else bif cR .eql n 0 then ⟨#[48]⟩ else bif cR .lss n 0 then ⟨#[45]⟩++qP tb (Op.negFloat .f64 n) else bif rI n then ⟨#[73,110,102,105,110,105,116,121]⟩ else IQ tb n
structure aeQ(tb:Nat->Nat)(n:Nat):Prop where
 fs:(qp tb n).size<=100
 ms:(tX tb n).size<=100
 xo:wZ (pq tb n)
 xl: -999<=m8 (pq tb n)/\m8 (pq tb n)<=999
 dl:1<=(yU tb n).size
 dh:(yU tb n).size<=1000
theorem W0(hb:pC tb)(h:qb n):aeQ tb n:=by
 obtain⟨q1,q2,q3,q4⟩:=Zd hb.lt hb.ge h;obtain⟨u,hu⟩:∃u:Nat,(sU tb n).1=u:=⟨(sU tb n).1.toNat,af⟩;have n1:=Lib.nDigits_pos u;have n2:=Lh 19 u af;have e0:vK tb n=sO (kw n) (kR u (Lib.nDigits u) 32) (Lib.nDigits u+(sU tb n).2) (kL u (Lib.nDigits u) (Lib.nDigits u)):=by
  unfold vK;simp[*]
 have Zs: -900<=((Lib.nDigits u:Nat):Int)+(sU tb n).2:=af;have Zt:((Lib.nDigits u:Nat):Int)+(sU tb n).2<=900:=af;have sX:=agT u (Lib.nDigits u) 32;have jo:(kR u (Lib.nDigits u) 32).length=32:=YK af;generalize kR u (Lib.nDigits u) 32=ds at e0 sX jo;generalize ((Lib.nDigits u:Nat):Int)+(sU tb n).2=dp at e0 Zs Zt;generalize kL u (Lib.nDigits u) (Lib.nDigits u)=nd at e0;have e1:(qp tb n).data.toList=gC (ou (kw n) ds nd)++101::gC (oT dp nd):=by
  unfold qp;rw[e0];exact ahE _ _ _ _
 have e2:Om tb n=(gC (ou (kw n) ds nd),gC (oT dp nd),true):=by
  unfold Om uz;rw[e1];exact agw _ _ _ (alh sX nd)
 obtain⟨m1,m2⟩:=alk (neg:=kw n) (nd:=nd) jo;obtain⟨x1,x2⟩:=Y4 (d7 dp nd).natAbs;have hX:pq tb n=⟨⟨gC (oT dp nd)⟩⟩:=by unfold pq;rw[e2]
 have hM:tX tb n=⟨⟨gC (ou (kw n) ds nd)⟩⟩:=by unfold tX;rw[e2]
 have Sj:(pq tb n).size<=4:=by
  rw[hX];show(gC (oT dp nd)).length<=4;unfold gC oT;simp[*]
 have Z1:wZ (pq tb n):=by rw[hX];exact ahb Zs Zt
 have hr:=anZ 46 (gC (ou (kw n) ds nd));have hD:(yU tb n).size=(Lib.replace (gC (ou (kw n) ds nd)) [46] [] 1).length:=by
  unfold yU It;rw[hM];rfl
 refine⟨?_,?_,Z1,afo Z1 Sj,?_,?_⟩
 ·have gx:(qp tb n).size=(qp tb n).data.toList.length:=by simp
  rw[gx,e1,gi,xA];have:(gC (oT dp nd)).length<=4:=by
   unfold gC oT;simp[*]
  omega
 ·rw[hM];show(gC (ou (kw n) ds nd)).length<=100;omega
 ·rw[hD];exact hr.2 (fun e=>by rw[e]at m1;exact absurd m1 (by decide)) (alj sX)
 omega
theorem aco(hb:pC tb)(h:qb n):(IQ tb n).size<=4000:=by
 have:=W0 hb h;exact akR this.dh (by have:=this.xl;omega) (by have:=this.xl;omega)
theorem Ls(m:Nat)(i j:Int):((Ieee.Datum.number false m i).order (.number false 0 j)==some .lt)=false:=by
 unfold Ieee.Datum.order;dsimp only;generalize (i-min i j).toNat=a;generalize (j-min i j).toNat=b;have h1:0<=Ieee.signed false m a:=by
  unfold Ieee.signed;grind
 have h2:Ieee.signed false 0 b=0:=by unfold Ieee.signed;simp
 grind
theorem aaN(h:cR .lss n 0=true):cR .lss (Op.negFloat .f64 n) 0=false:=by
 have e0:f64.format.read 0= .number false 0 Ieee.double.leastPlace:=by rfl
 have hm:Op.negFloat .f64 n%9223372036854775808=n%9223372036854775808:=by
  show(n^^^2^63)%9223372036854775808=_;rw[show(9223372036854775808:Nat)=2^63 by decide,Nat.xor_mod_two_pow,Nat.mod_self,Nat.xor_zero]
 have hd:(Op.negFloat .f64 n/9223372036854775808)%2=1-n/9223372036854775808%2:=by
  show((n^^^2^63)/9223372036854775808)%2=_;rw[show(9223372036854775808:Nat)=2^63 by decide,<-Nat.shiftRight_eq_div_pow,Nat.shiftRight_xor_distrib,<-Nat.shiftRight_eq_div_pow,show 2^63>>>63=1 by omega];generalize n>>>63=m;have:=Nat.mod_two_eq_zero_or_one m;have h2:(m^^^1)%2=(m%2)^^^1:=by
   have:=Nat.xor_mod_two_pow (a:=m) (b:=1) (n:=1);omega
  grind
 unfold cR Ieee.Format.order at h⊢;dsimp only at h⊢;rw[e0]at h⊢;have hr:∀x,f64.format.read x=Ieee.double.read x:=fun _=>rfl;rw[hr]at h⊢;unfold Ieee.Format.read at h⊢;dsimp only at h⊢;rw[CM]at h⊢;rw[hm,hd];generalize n%9223372036854775808=r at h⊢;generalize hs:n/9223372036854775808%2=s at h⊢;have dD:s=0\/s=1:=af;rcases dD with rfl|rfl
 ·exfalso;revert h;rw[show((0:Nat)==1)=false from rfl];split
  ·exact fun h=>by rw[Ls]at h;cases h
  ·split
   ·exact fun h=>by rw[Ls]at h;cases h
   ·split
    ·exact fun h=>by cases h
    ·exact fun h=>by cases h
 ·rw[show((1-1:Nat)==1)=false from rfl];split
  ·exact Ls _ _ _
  ·split
   ·exact Ls _ _ _
   ·split <;> rfl
end
section
open Go
variable{n:Nat}
theorem anX(h:n%9223372036854775808=0):∃s,f64.format.read n= .number s 0 Ieee.double.leastPlace:=by
 refine⟨n/9223372036854775808%2==1,?_⟩;show Ieee.double.read n=_;unfold Ieee.Format.read;dsimp only;rw[CM,h];rfl
theorem anU(h:n%9223372036854775808=9218868437227405312):∃s,f64.format.read n= .infinity s:=by
 refine⟨n/9223372036854775808%2==1,?_⟩;show Ieee.double.read n=_;unfold Ieee.Format.read;dsimp only;rw[CM,h];rfl
theorem anV(h:9218868437227405312<n%9223372036854775808):∃s k,f64.format.read n= .nan s k:=by
 refine⟨n/9223372036854775808%2==1,n%9223372036854775808-9218868437227405312,?_⟩;show Ieee.double.read n=_;unfold Ieee.Format.read;dsimp only;rw[CM];have b1:Ieee.double.binade=4503599627370496:=by decide+kernel
 have b2:Ieee.double.infRung=9218868437227405312:=by decide+kernel
 rw[b1,b2,if_neg af,if_neg af,if_neg af]
theorem Kt(h1:cR .neq n n=false)(h2:cR .eql n 0=false)(h3:cR .lss n 0=false)(h4:rI n=false):qb n:=by
 have e0:f64.format.read 0= .number false 0 Ieee.double.leastPlace:=by decide+kernel
 refine⟨Nat.pos_of_ne_zero fun e=>?_,Nat.lt_of_not_le fun e=>?_⟩
 ·obtain⟨s,hs⟩:=anX e;unfold cR Ieee.Format.order at h2;dsimp only at h2;rw[hs,e0]at h2;cases s <;> exact absurd h2 (by decide+kernel)
 ·rcases Nat.lt_or_eq_of_le e with e|e
  ·obtain⟨s,k,hs⟩:=anV e;unfold cR Ieee.Format.order at h1;dsimp only at h1;rw[hs]at h1;cases h1
  ·obtain⟨s,hs⟩:=anU e.symm;cases s with
   |true=>
    unfold cR Ieee.Format.order at h3;dsimp only at h3;rw[hs,e0]at h3;exact absurd h3 (by decide+kernel)
   |false=>
    unfold rI cR Ieee.Format.order at h4;dsimp only at h4;rw[hs]at h4;exact absurd h4 (by decide+kernel)
def Rg:aR where
 X:=y9
 Y:=ByteArray
 args x:=[float f64 x.n,a_ 101,ae (-1),ae 64]
 cond x:=pC x.tb/\qb x.n
 aQ x F:=mr x.tb F
 cd x y:=y=qp x.tb x.n
 val _ y:=az (aj y)
theorem Y6:aC 139 Rg:=ahL.view (fun x=>x) (fun _=>rfl) (fun _=>rfl) (fun _ h=>h) (fun _ _ _ h=>h) (fun x _ _ _=>⟨_,rfl,rfl,rfl⟩)
structure OK where
 m:ByteArray
 x:ByteArray
 b:Bool
def QX:aR where
 X:=I2
 Y:=OK
 args x:=[aj x.s,aj x.t]
 cond x:=x.s.size<4294967281
 aQ _ F:=jQ F
 cd x y:=y=⟨⟨(uz x.s x.t).1.toArray⟩,⟨(uz x.s x.t).2.1.toArray⟩,(uz x.s x.t).2.2⟩
 val _ y:=.returned (.tuple #[.string y.m,.string y.x,.bool y.b])
theorem YB:aC 138 QX:=agv.view (fun x=>x) (fun _=>rfl) (fun _=>rfl) (fun _ h=>h) (fun _ _ _ h=>h) (fun x _ _ _=>⟨_,rfl,rfl,rfl⟩)
def QH:aR where
 X:=bR
 Y:=Int
 args x:=[aj x.s]
 cond x:=wZ x.s
 cd x y:=y=m8 x.s
 val _ y:=.returned (.tuple #[.int .i64 y,.nilIface])
theorem X6:aC 140 QH:=afi.view (fun x=>x) (fun _=>rfl) (fun _=>rfl) (fun _ h=>h) (fun _ _ _ h=>h) (fun x _ _ _=>⟨_,rfl,rfl,rfl⟩)
def WD:aR where
 X:=FY
 Y:=ByteArray
 args x:=[aj x.s,aj x.t,aj x.u,ae x.n]
 cond x:=x.s.size<4294967281/\1<=x.t.size/\x.s.size+Lib.countB x.s x.t*x.u.size<=140737488355328
 aQ _ F:=jQ F
 cd x y:=y=⟨(It x).toArray⟩
 val _ y:=az (aj y)
theorem abB:aC 142 WD:=aog.view (fun x=>x) (fun _=>rfl) (fun _=>rfl) (fun _ h=>h) (fun _ _ _ h=>h) (fun x _ _ _=>⟨_,rfl,rfl,rfl⟩)
def SD:aR where
 X:=uf
 Y:=ByteArray
 args x:=[aj x.ds,ae x.n]
 cond x:=1<=x.ds.size/\x.ds.size<=1000/\ -1000<=x.n/\x.n<=1000
 aQ _ F:=jQ F
 cd x y:=y=ld x.ds x.n
 val _ y:=az (aj y)
theorem aas:aC 141 SD:=akS.view (fun x=>x) (fun _=>rfl) (fun _=>rfl) (fun _ h=>h) (fun _ _ _ h=>h) (fun x _ _ _=>⟨_,rfl,rfl,rfl⟩)
def Ss:aR where
 X:=FL
 Y:=Bool
 args x:=[float f64 x.f,ae 1]
 cd x y:=y=rI x.f
 val _ y:=az (ak y)
theorem Z6:aC 137 Ss:=aj3.view (fun x=>x) (fun _=>rfl) (fun _=>rfl) (fun _ h=>h) (fun _ _ _ h=>h) (fun x _ _ _=>⟨_,rfl,rfl,rfl⟩)
end
section
open Go
def uH(n:Nat):List Int:=(List.range n).map Int.ofNat
structure bX(fin:Int)(s:aw)(os:List Int):Prop where
 wh:(s.nodes.flatMap (·.aF)++os).Perm (uH s.nodes.length)
 X7:os.Pairwise (·<·)
 aF:∀(i:Nat)(x:cA),s.nodes[i]?=some x->x.aF.Pairwise (·<·)/\∀k∈x.aF,k<(i:Int)
 pos:∀x∈s.nodes,0<=x.pos/\x.pos<=fin
variable{b:Bool}{t:ByteArray}{x:cA}{k:Int}{tag:ar}{Q:Unit->aw->Prop}
theorem Sn{n:Nat}(h:k∈uH n):0<=k/\k<n:=by
 obtain⟨i,hi,rfl⟩:=List.mem_map.1 h;grind
theorem bX.kf{fin:Int}{s:aw}{os:List Int}(h:bX fin s os)(hk:k∈os):0<=k/\k<s.nodes.length:=
 Sn (h.wh.mem_iff.1 (List.mem_append_right _ hk))
theorem bX.same{fin:Int}{s t:aw}{os:List Int}(h:bX fin s os)(e:t.nodes=s.nodes):bX fin t os:=
 ⟨by rw[e];exact h.wh,h.X7,by rw[e];exact h.aF,by rw[e];exact h.pos⟩
theorem bX.cast{fin:Int}{s:aw}{os ps:List Int}(h:bX fin s os)(e:os=ps):bX fin s ps:=e▸h
theorem bX.node{fin:Int}{s:aw}{os:List Int}(h:bX fin s (os++x.aF))(hp:0<=x.pos/\x.pos<=fin):bX fin {s with nodes:=s.nodes++[x]} (os++[(s.nodes.length:Int)]):=by
 obtain⟨a1,a2,a3⟩:=List.pairwise_append.1 h.X7;refine⟨?_,?_,fun i y hy=>?_,fun y hy=>?_⟩
 ·show((s.nodes++[x]).flatMap (·.aF)++(os++[(s.nodes.length:Int)])).Perm (uH (s.nodes++[x]).length);rw[gi,DQ];unfold uH;rw[List.range_succ,List.map_append,List.flatMap_append,<-lI];refine List.Perm.append ?_ (List.Perm.refl _);refine List.Perm.trans ?_ h.wh;grind
 ·refine List.pairwise_append.2 ⟨a1,aM,fun a ha b hb=>?_⟩;rw[List.mem_singleton]at hb;rw[hb];exact(h.kf (rC _ ha)).2
 ·dsimp only at hy;rcases Nat.lt_or_ge i s.nodes.length with hi|hi
  ·rw[rB hi]at hy;exact h.aF i y hy
  ·rw[sR hi]at hy;obtain⟨hl,e⟩:=mG.1 hy;simp only[DQ]at hl;have ei:i=s.nodes.length:=af;subst ei;simp at e;subst e;exact⟨a2,fun k hk=>(h.kf (List.mem_append_right _ hk)).2⟩
 ·rcases List.mem_append.1 hy with hy|hy
  ·exact h.pos y hy
  grind
theorem bX.uS{fin:Int}{s:aw}{os:List Int}(h:bX fin s os)(hk:k∈os):0<=dG s k/\dG s k<=fin:=by
 obtain⟨h0,h1⟩:=h.kf hk;unfold dG;obtain⟨x,hx⟩:∃x,s.nodes[k.toNat]?=some x:=⟨_,gv af⟩;rw[hx];exact h.pos x (oU hx)
def WP{α:Type}(fin:Int)(m:PM α)(s:aw)(Q:α->aw->Prop):Prop:=
 match m s with
 | .ok a t=>Q a t
 | .stop p _ _=>0<=p/\p<=fin
 | .out=>True
section
variable{α β:Type}{fin:Int}{s:aw}
theorem WP.bind{m:PM α}{f:α->PM β}{Q:β->aw->Prop}(h:WP fin m s fun a t=>WP fin (f a) t Q):WP fin (m>>=f) s Q:=by
 show WP fin (cq m f) s Q;unfold WP cq at*;grind
theorem WP.ret{a:α}{Q:α->aw->Prop}(h:Q a s):WP fin (ret a) s Q:=h
theorem WP.mono{m:PM α}{Q R:α->aw->Prop}(h:WP fin m s Q)(k:∀a t,Q a t->R a t):WP fin m s R:=by
 unfold WP at*;grind
theorem WP.bif{m n:PM α}{Q:α->aw->Prop}(h1:b=true->WP fin m s Q)(h2:b=false->WP fin n s Q):WP fin (bif b then m else n) s Q:=by
 grind
theorem WP.step(h:Q () {s with i:=s.i+1}):WP fin gA s Q:=h
theorem WP.get{Q:aw->aw->Prop}(h:Q s s):WP fin ie s Q:=h
theorem WP.set{t:aw}(h:Q () t):WP fin (lV t) s Q:=h
theorem WP.node{Q:Int->aw->Prop}(h:Q s.nodes.length {s with nodes:=s.nodes++[x]}):WP fin (eK x) s Q:=h
theorem WP.fJ{Q:Int->aw->Prop}(h:Q (dG s k) s):WP fin (fJ k) s Q:=h
variable{L:List bA}
structure gq(L:List bA)(fin:Int):Prop where
 f0:0<=fin
 all:∀x∈L,0<=x.pos/\x.pos<=fin
theorem kW(h:gq L fin)(s:aw):0<=(aI L fin s).pos/\(aI L fin s).pos<=fin:=by
 unfold aI;cases hx:L[s.i]? with
 |none=>exact⟨h.f0,cN _⟩
 |some x=>exact h.all x (oU hx)
theorem WP.dj{Q:bA->aw->Prop}(h:Q (aI L fin s) s):WP fin (ig L fin) s Q:=h
theorem WP.fY(h:gq L fin){Q:α->aw->Prop}:WP fin (m9 L fin) s Q:=kW h s
theorem WP.cZ{Q:Bool->aw->Prop}(h1:bE L s 0 t=true->Q true {s with i:=s.i+1})(h2:bE L s 0 t=false->Q false s):WP fin (eg L t) s Q:=by
 unfold WP eg;grind
theorem WP.cK(h:gq L fin)(h1:Q () {s with i:=s.i+1}):WP fin (dn L fin t) s Q:=by
 unfold WP dn;cases bE L s 0 t with
 |true=>exact h1
 |false=>exact kW h s
theorem WP.om{a:Nat}{Q:Bool->aw->Prop}(h:Q (bE L s a t) s):WP fin (th L a t) s Q:=h
theorem WP.o8(hp:0<=dG s k/\dG s k<=fin)(h:Q () s):WP fin (nt k b) s Q:=by
 unfold WP nt;grind
theorem WP.word(h:gq L fin){Q:ByteArray->aw->Prop}(h1:Q (aI L fin s).text {s with i:=s.i+1}):WP fin (ly L fin) s Q:=by
 unfold WP ly;cases (aI L fin s).kind !=1 with
 |true=>exact kW h s
 |false=>exact h1
theorem Gg(h:gq L fin)(h1:∀t:aw,t.nodes=s.nodes->Q () t):WP fin (fy L fin) s Q:=by
 unfold WP fy;cases bE L s 0 fM with
 |true=>exact h1 _ rfl
 |false=>
  rw[aU];cases bE L s 0 rc||(decide (s.i>=L.length)||(aI L fin s).aK)with
  |true=>exact h1 _ rfl
  |false=>exact kW h s
end
def ar.dQ:ar->List Int
 | .j6 _ left=>[left]
 | .gm k=>[k]
 | .gY l| .dY l| .ey l| .gk l| .jR l _| .gR l| .ip l _| .iz l| .prog l=>l
 |_=>[]
def ar.BU:ar->Bool
 | .gY _| .dY _| .ey _| .gk _| .jR _ _| .gR _| .ip _ _| .iz _=>true
 |_=>false
section
variable{fin:Int}{L:List bA}{s:aw}{os:List Int}
def dR(fin:Int)(os:List Int)(tag:ar)(ks:List Int)(t:aw):Prop:=bX fin t (os++ks)/\(tag.BU=false->∃k,ks=[k])
theorem WP.bM(h:bX fin s (os++x.aF))(hp:0<=x.pos/\x.pos<=fin):WP fin (bM x) s (dR fin os tag):=by
 show dR fin os tag [(s.nodes.length:Int)] {s with nodes:=s.nodes++[x]};exact⟨h.node hp,fun _=>⟨_,rfl⟩⟩
theorem WP.one{m:PM (List Int)}(ht:tag.BU=false)(h:WP fin m s (dR fin os tag)){Q:Int->aw->Prop}(k:∀k t,bX fin t (os++[k])->Q k t):WP fin (one m) s Q:=by
 show WP fin (m>>=fun l=>Go.Proofs.YtdkchodgklpomaaGreatDoor.ret (l.headD 0)) s Q;refine WP.bind (h.mono fun ks t hr=>?_);obtain⟨j,rfl⟩:=hr.2 ht;exact k j t hr.1
theorem WP.empty(h:gq L fin)(hF:bX fin s os){Q:Int->aw->Prop}(k:∀k t,bX fin t (os++[k])->Q k t):WP fin (nV L fin) s Q:=by
 show WP fin (ig L fin>>=fun x=>eK ⟨36,.empty,0,[],x.pos⟩) s Q;refine WP.bind (WP.dj (WP.node (k _ _ ?_)));exact bX.node (hF.cast (dJ _).symm) (kW h s)
theorem WP.key(h:gq L fin){aL:Nat->ByteArray}{wide:ByteArray->ByteArray}(hF:bX fin s os){Q:Int->aw->Prop}(k:∀k t,bX fin t (os++[k])->Q k t):WP fin (eV L fin aL wide) s Q:=by
 have hp:=kW h s;have gu:∀op:ByteArray,Q s.nodes.length {s with i:=s.i+1,nodes:=s.nodes++[⟨2,op,0,[],(aI L fin s).pos⟩]}:=fun op=>by
  refine k _ _ ?_;exact bX.node (s:={s with i:=s.i+1}) ((hF.same (t:={s with i:=s.i+1}) rfl).cast (dJ _).symm) hp
 unfold WP eV;dsimp only;cases (aI L fin s).kind==1||(aI L fin s).kind==2 with
 |true=>exact gu _
 |false=>
  rw[aU];cases (aI L fin s).kind==3 with
  |true=>exact gu _
  |false=>
   rw[aU];cases (aI L fin s).kind==4 with
   |true=>exact gu _
   |false=>exact hp
end
end
section
open Go
section
variable{fin:Int}{L:List bA}{aL:Nat->ByteArray}{wide:ByteArray->ByteArray}
def ar.cL(fin:Int):ar->Prop
 | .ef p| .eQ p| .choose p=>0<=p/\p<=fin
 | .simple x=>0<=x.pos/\x.pos<=fin
 |_=>True
def fV(L:List bA)(fin:Int)(aL:Nat->ByteArray)(wide:ByteArray->ByteArray)(f:Nat):Prop:=
 ∀(tag:ar)(s:aw)(os:List Int),tag.cL fin->bX fin s (os++tag.dQ)->WP fin (P L fin aL wide f tag) s (dR fin os tag)
variable{os:List Int}{f:Nat}{s s0:aw}{tag:ar}
theorem fV.one(ih:fV L fin aL wide f)(tag:ar)(ht:tag.BU=false)(hF:bX fin s0 (os++tag.dQ)){Q:Int->aw->Prop}(k:∀k t,bX fin t (os++[k])->Q k t)(e:s.nodes=s0.nodes:=by rfl)(hp:tag.cL fin:=by trivial):WP fin (Go.Proofs.YtdkchodgklpomaaGreatDoor.one (P L fin aL wide f tag)) s Q:=
 WP.one ht (ih tag s os hp (hF.same e)) k
theorem fV.run(ih:fV L fin aL wide f)(tag:ar)(hF:bX fin s0 (os++tag.dQ)){Q:List Int->aw->Prop}(k:∀ks t,dR fin os tag ks t->Q ks t)(e:s.nodes=s0.nodes:=by rfl)(hp:tag.cL fin:=by trivial):WP fin (P L fin aL wide f tag) s Q:=
 (ih tag s os hp (hF.same e)).mono k
theorem c6(h:bX fin s os):bX fin s (os++[]):=h.cast (dJ _).symm
theorem bX.mv{t:aw}{ps:List Int}(h:bX fin s os)(e:os=ps)(e2:t.nodes=s.nodes:=by rfl):bX fin t ps:=(h.same e2).cast e
theorem fV.kh(ih:fV L fin aL wide f)(tag:ar){ab8:ar}(ht:tag.BU=ab8.BU)(hF:bX fin s0 (os++tag.dQ))(e:s.nodes=s0.nodes:=by rfl)(hp:tag.cL fin:=by trivial):WP fin (P L fin aL wide f tag) s (dR fin os ab8):=
 (ih tag s os hp (hF.same e)).mono fun ks t h=>⟨h.1,fun g=>h.2 (ht.trans g)⟩
theorem CE{k:Int}(h:bX fin s0 (os++[k]))(e:s.nodes=s0.nodes:=by rfl):dR fin os tag [k] s:=⟨h.same e,fun _=>⟨k,rfl⟩⟩
theorem Ar{ks:List Int}(ht:tag.BU=true)(h:bX fin s0 (os++ks))(e:s.nodes=s0.nodes:=by rfl):dR fin os tag ks s:=⟨h.same e,fun g=>by rw[ht]at g;cases g⟩
theorem kD{qs:List Int}{x:cA}(h:bX fin s0 qs)(hq:qs=os++x.aF)(hp:0<=x.pos/\x.pos<=fin)(e:s.nodes=s0.nodes:=by rfl):WP fin (bM x) s (dR fin os tag):=WP.bM (h.mv hq e) hp
theorem ad4(hL:gq L fin)(ih:fV L fin aL wide f)(hF:bX fin s os):WP fin (P L fin aL wide (f+1) .bx) s (dR fin os .bx):=by
 rw[P];refine WP.bind (ih.one .cond rfl (c6 hF) fun k t h=>WP.bind (WP.dj (WP.bif (fun _=>⟨h,fun _=>⟨_,rfl⟩⟩) (fun _=>?_))));refine WP.bind (WP.o8 (h.uS aM) (WP.bind (WP.step (WP.bind (ih.one .bx rfl (c6 h) fun r u g=>WP.bind (WP.fJ ?_))))));exact WP.bM (g.cast aM) (g.uS aM)
theorem ad3(hL:gq L fin)(ih:fV L fin aL wide f)(hF:bX fin s os):WP fin (P L fin aL wide (f+1) .cond) s (dR fin os .cond):=by
 rw[P];refine WP.bind (ih.one (.level 0) rfl (c6 hF) fun c t h=>WP.bind (WP.cZ (fun _=>WP.bif (fun e=>nomatch e) (fun _=>?_)) (fun _=>WP.bif (fun _=>⟨h,fun _=>⟨_,rfl⟩⟩) (fun e=>nomatch e))));refine WP.bind (ih.one .bx rfl (c6 h) fun a u g=>WP.bind (WP.cK hL (WP.bind (ih.one .bx rfl (c6 g) fun b v k=>WP.bind (WP.fJ ?_)))));exact WP.bM (k.cast aM) (k.uS aM)
theorem ad7(hL:gq L fin)(ih:fV L fin aL wide f)(n:Nat)(hF:bX fin s os):WP fin (P L fin aL wide (f+1) (.level n)) s (dR fin os (.level n)):=by
 rw[P];refine WP.bif (fun _=>ih.run .unary (c6 hF) fun ks t h=>h) (fun _=>WP.bind (ih.one (.level (n+1)) rfl (c6 hF) fun k t h=>ih.run (.j6 n k) h fun ks u g=>g))
theorem ad8(hL:gq L fin)(ih:fV L fin aL wide f)(n:Nat)(left:Int)(hF:bX fin s (os++[left])):WP fin (P L fin aL wide (f+1) (.j6 n left)) s (dR fin os (.j6 n left)):=by
 rw[P];refine WP.bind (WP.dj (WP.bif (fun _=>⟨hF,fun _=>⟨_,rfl⟩⟩) (fun _=>WP.bind (WP.step (WP.bind (ih.one (.level (n+1)) rfl (c6 hF) fun r t h=>WP.bind (WP.fJ (WP.bind (WP.node ?_)))))))));refine ih.run (.j6 n _) (bX.node ?_ ?_) fun ks u g=>g
 ·grind
 ·exact h.uS aM
theorem am1(h:bX fin s os)(k:Int):0<=dG s k/\dG s k<=max fin 0:=by
 unfold dG;cases hx:s.nodes[k.toNat]? with
 |none=>exact⟨cN 0,Int.le_max_right _ _⟩
 |some x=>
  have:=h.pos x (oU hx);grind
theorem aem(hL:gq L fin)(ih:fV L fin aL wide f)(hF:bX fin s os):WP fin (P L fin aL wide (f+1) .unary) s (dR fin os .unary):=by
 rw[P];refine WP.bind (WP.dj (WP.bif (fun _=>ih.kh .gf rfl (c6 hF)) (fun _=>WP.bif (fun _=>?_) (fun _=>WP.bif (fun _=>?_) (fun _=>ih.kh .gf rfl (c6 hF))))))
 ·exact WP.bind (WP.step (WP.bind (ih.one .unary rfl (c6 hF) fun k t h=>WP.bind (WP.bif (fun _=>WP.o8 (h.uS aM) (kD h rfl (kW hL _))) (fun _=>WP.ret (kD h rfl (kW hL _)))))))
 ·exact WP.bind (WP.step (WP.bind (ih.one .unary rfl (c6 hF) fun k t h=>WP.bind (WP.o8 (h.uS aM) (kD h rfl (kW hL _))))))
theorem adX(ih:fV L fin aL wide f)(hF:bX fin s os):WP fin (P L fin aL wide (f+1) .gf) s (dR fin os .gf):=by
 rw[P];exact WP.bind (ih.one .suffix rfl (c6 hF) fun k t h=>WP.bind (WP.dj (WP.bif (fun _=>WP.ret (CE h)) (fun _=>WP.bind (WP.o8 (h.uS aM) (WP.bind (WP.step (WP.bind (WP.fJ (kD h rfl (h.uS aM)))))))))))
theorem aej(ih:fV L fin aL wide f)(hF:bX fin s os):WP fin (P L fin aL wide (f+1) .suffix) s (dR fin os .suffix):=by
 rw[P];exact WP.bind (ih.one .fx rfl (c6 hF) fun k t h=>ih.kh (.gm k) rfl h)
theorem aee(hL:gq L fin)(ih:fV L fin aL wide f)(k:Int)(hF:bX fin s (os++[k])):WP fin (P L fin aL wide (f+1) (.gm k)) s (dR fin os (.gm k)):=by
 rw[P];have hp:=hF.uS (k:=k) aM;refine WP.bind (WP.cZ (fun _=>WP.bif (fun _=>?_) (fun e=>nomatch e)) (fun _=>WP.bif (fun e=>nomatch e) (fun _=>WP.bind (WP.cZ (fun _=>WP.bif (fun _=>?_) (fun e=>nomatch e)) (fun _=>WP.bif (fun e=>nomatch e) (fun _=>WP.bind (WP.cZ (fun _=>WP.bif (fun _=>?_) (fun e=>nomatch e)) (fun _=>WP.bif (fun e=>nomatch e) (fun _=>WP.ret (CE hF))))))))))
 ·have gu:∀{t:aw}{x:cA},t.nodes=s.nodes->x.aF=[k]->x.pos=dG s k->WP fin (eK x>>=fun m=>P L fin aL wide f (.gm m)) t (dR fin os (.gm k)):=fun{t x}e1 e2 e3=>WP.bind (WP.node (ih.kh (.gm _) rfl (bX.node (hF.mv (by rw[e2]) e1) af)));exact WP.bind (WP.dj (WP.bind (WP.bif (fun _=>WP.fY hL) (fun _=>WP.ret (WP.bind (WP.step (WP.bind (WP.fJ (gu rfl rfl rfl)))))))))
 ·refine WP.bind (ih.one .bx rfl (c6 hF) fun e t h=>WP.bind (WP.cK hL (WP.bind (WP.fJ (WP.bind (WP.node (ih.kh (.gm _) rfl (bX.node ?_ ?_))))))))
  ·exact h.mv aM
  ·exact h.uS (k:=k) aM
 ·refine WP.bind (ih.run (.gY [k]) hF fun ks t h=>WP.bind (WP.fJ (WP.bind (WP.node (ih.kh (.gm _) rfl (bX.node ?_ ?_))))))
  ·exact h.1
  ·have:=am1 h.1 k;grind
theorem ad0(hL:gq L fin)(ih:fV L fin aL wide f)(aF:List Int)(hF:bX fin s (os++aF)):WP fin (P L fin aL wide (f+1) (.gY aF)) s (dR fin os (.gY aF)):=by
 rw[P];refine WP.bind (WP.cZ (fun _=>WP.bif (fun _=>WP.ret (Ar rfl hF)) (fun e=>nomatch e)) (fun _=>WP.bif (fun e=>nomatch e) (fun _=>?_)));have gu:∀{t:aw},t.nodes=s.nodes->WP fin (one (P L fin aL wide f .bx)>>=fun e=>P L fin aL wide f (.gY (aF++[e]))) t (dR fin os (.gY aF)):=fun{t}e1=>WP.bind (ih.one .bx rfl (c6 hF) (fun k u h=>ih.kh (.gY (aF++[k])) rfl (h.mv (by simp[ar.dQ]))) e1);exact WP.bind (WP.bif (fun _=>WP.cK hL (gu rfl)) (fun _=>WP.ret (gu rfl)))
theorem adW(hL:gq L fin)(ih:fV L fin aL wide f)(aF:List Int)(hF:bX fin s (os++aF)):WP fin (P L fin aL wide (f+1) (.dY aF)) s (dR fin os (.dY aF)):=by
 rw[P];refine WP.bind (WP.cZ (fun _=>WP.bif (fun _=>WP.ret (Ar rfl hF)) (fun e=>nomatch e)) (fun _=>WP.bif (fun e=>nomatch e) (fun _=>WP.bind (ih.one .bx rfl (c6 hF) fun k t h=>WP.bind (WP.om (WP.bind (WP.bif (fun _=>WP.cK hL (ih.kh (.dY (aF++[k])) rfl (h.cast ?_))) (fun _=>WP.ret (ih.kh (.dY (aF++[k])) rfl (h.cast ?_))))))))))
 ·simp[ar.dQ]
 ·simp[ar.dQ]
theorem adZ(ih:fV L fin aL wide f)(aF:List Int)(body:Bool)(hF:bX fin s (os++aF)):WP fin (P L fin aL wide (f+1) (.jR aF body)) s (dR fin os (.jR aF body)):=by
 rw[P];refine WP.bind (WP.cZ (fun _=>WP.bif (fun _=>WP.ret (Ar rfl hF)) (fun e=>nomatch e)) (fun _=>WP.bif (fun e=>nomatch e) (fun _=>WP.bind (ih.one (.cS body) rfl (c6 hF) fun k t h=>ih.kh (.jR (aF++[k]) body) rfl (h.cast ?_)))));simp[ar.dQ]
theorem aeb(hL:gq L fin)(ih:fV L fin aL wide f)(aF:List Int)(hF:bX fin s (os++aF)):WP fin (P L fin aL wide (f+1) (.ey aF)) s (dR fin os (.ey aF)):=by
 rw[P];refine WP.bind (WP.cZ (fun _=>WP.bif (fun _=>WP.ret (Ar rfl hF)) (fun e=>nomatch e)) (fun _=>WP.bif (fun e=>nomatch e) (fun _=>WP.bind (WP.key hL hF fun k t h=>WP.bind (WP.cK hL (WP.bind (ih.one .bx rfl (c6 h) fun e u g=>WP.bind (WP.om (WP.bind (WP.bif (fun _=>WP.cK hL (ih.kh (.ey (aF++[k]++[e])) rfl (g.cast ?_))) (fun _=>WP.ret (ih.kh (.ey (aF++[k]++[e])) rfl (g.cast ?_)))))))))))))
 ·simp[ar.dQ]
 ·simp[ar.dQ]
theorem aef(hL:gq L fin)(ih:fV L fin aL wide f)(hF:bX fin s os):WP fin (P L fin aL wide (f+1) .fx) s (dR fin os .fx):=by
 rw[P];have lf:∀{t:aw}{x:cA},t.nodes=s.nodes->x.aF=[]->x.pos=(aI L fin s).pos->WP fin (bM x) t (dR fin os .fx):=fun{t x}e1 e2 e3=>kD hF (by simp[*]) (by rw[e3];exact kW hL s) e1;refine WP.bind (WP.dj (WP.bif (fun _=>WP.bind (WP.step (lf rfl rfl rfl))) (fun _=>WP.bif (fun _=>WP.bind (WP.step (lf rfl rfl rfl))) (fun _=>WP.bif (fun _=>WP.bind (WP.step (lf rfl rfl rfl))) (fun _=>WP.bind (WP.get (WP.bif (fun _=>WP.bind (WP.step (lf rfl rfl rfl))) (fun _=>WP.bif (fun _=>ih.kh (.func 7) rfl (c6 hF)) (fun _=>?_)))))))));refine WP.bind (WP.cZ (fun _=>WP.bif (fun _=>?_) (fun e=>nomatch e)) (fun _=>WP.bif (fun e=>nomatch e) (fun _=>WP.bind (WP.cZ (fun _=>WP.bif (fun _=>?_) (fun e=>nomatch e)) (fun _=>WP.bif (fun e=>nomatch e) (fun _=>WP.bind (WP.cZ (fun _=>WP.bif (fun _=>?_) (fun e=>nomatch e)) (fun _=>WP.bif (fun e=>nomatch e) (fun _=>WP.fY hL)))))))))
 ·exact WP.bind (ih.one .bx rfl (c6 hF) fun k t h=>WP.bind (WP.cK hL (WP.ret (CE h))))
 ·exact WP.bind (ih.run (.dY []) (c6 hF) fun ks t h=>kD h.1 rfl (kW hL s))
 ·exact WP.bind (ih.run (.ey []) (c6 hF) fun ks t h=>kD h.1 rfl (kW hL s))
theorem aec(hL:gq L fin)(ih:fV L fin aL wide f)(aF:List Int)(hF:bX fin s (os++aF)):WP fin (P L fin aL wide (f+1) (.gk aF)) s (dR fin os (.gk aF)):=by
 rw[P];refine WP.bind (WP.cZ (fun _=>WP.bif (fun _=>WP.ret (Ar rfl hF)) (fun e=>nomatch e)) (fun _=>WP.bif (fun e=>nomatch e) (fun _=>?_)));have gu:∀{t:aw},t.nodes=s.nodes->WP fin (ig L fin>>=fun x=>ly L fin>>=fun w=>eK ⟨3,w,0,[],x.pos⟩>>=fun k=>P L fin aL wide f (.gk (aF++[k]))) t (dR fin os (.gk aF)):=fun{t}e1=>by
  refine WP.bind (WP.dj (WP.bind (WP.word hL (WP.bind (WP.node (ih.kh (.gk _) rfl (bX.cast (bX.node (os:=os++aF) (hF.mv (dJ _).symm e1) (kW hL t)) ?_)))))));simp[ar.dQ]
 exact WP.bind (WP.bif (fun _=>WP.cK hL (gu rfl)) (fun _=>WP.ret (gu rfl)))
theorem adY(hL:gq L fin)(ih:fV L fin aL wide f)(body:Bool)(hF:bX fin s os):WP fin (P L fin aL wide (f+1) (.block body)) s (dR fin os (.block body)):=by
 rw[P];exact WP.bind (WP.dj (WP.bind (WP.cK hL (WP.bind (ih.run (.jR [] body) (c6 hF) fun ks t h=>kD h.1 rfl (kW hL s))))))
theorem ad6(hL:gq L fin)(ih:fV L fin aL wide f)(kind:Int)(hF:bX fin s os):WP fin (P L fin aL wide (f+1) (.func kind)) s (dR fin os (.func kind)):=by
 rw[P];refine WP.bind (WP.dj (WP.bind (WP.step (WP.bind (WP.get (WP.bind (WP.bif (fun _=>WP.word hL ?_) (fun _=>WP.ret ?_))))))))
 ·refine WP.bind (WP.cK hL (WP.bind (ih.run (.gk []) (c6 hF) fun ps t h=>WP.bind (WP.get (WP.bind (WP.set (WP.bind (ih.one (.block true) rfl (c6 h.1) fun b u g=>WP.bind (WP.get (WP.bind (WP.set (kD g ?_ (kW hL s)))))))))))));simp
 ·refine WP.bind (WP.cK hL (WP.bind (ih.run (.gk []) (c6 hF) fun ps t h=>WP.bind (WP.get (WP.bind (WP.set (WP.bind (ih.one (.block true) rfl (c6 h.1) fun b u g=>WP.bind (WP.get (WP.bind (WP.set (kD g ?_ (kW hL s)))))))))))));simp
theorem aed(hL:gq L fin)(ih:fV L fin aL wide f)(hF:bX fin s os):WP fin (P L fin aL wide (f+1) .paren) s (dR fin os .paren):=by
 rw[P];exact WP.bind (WP.cK hL (WP.bind (ih.one .bx rfl (c6 hF) fun k t h=>WP.bind (WP.cK hL (WP.ret (CE h))))))
theorem aeo(hL:gq L fin)(ih:fV L fin aL wide f)(hF:bX fin s os):WP fin (P L fin aL wide (f+1) .vars) s (dR fin os .vars):=by
 rw[P];exact WP.bind (WP.dj (WP.bind (WP.step (WP.bind (ih.run (.gR []) (c6 hF) fun ks t h=>kD h.1 rfl (kW hL s))))))
theorem aen(hL:gq L fin)(ih:fV L fin aL wide f)(aF:List Int)(hF:bX fin s (os++aF)):WP fin (P L fin aL wide (f+1) (.gR aF)) s (dR fin os (.gR aF)):=by
 rw[P];have gu:∀{t:aw}{w:ByteArray}{ks:List Int},bX fin t (os++aF++ks)->WP fin (eK ⟨22,w,0,ks,(aI L fin s).pos⟩>>=fun k=>eg L sG>>=fun h=>bif !h then ret (aF++[k]) else P L fin aL wide f (.gR (aF++[k]))) t (dR fin os (.gR aF)):=fun{t w ks}h=>by
  have h2:=bX.node (x:=⟨22,w,0,ks,(aI L fin s).pos⟩) h (kW hL s);refine WP.bind (WP.node (WP.bind (WP.cZ (fun _=>WP.bif (fun e=>nomatch e) (fun _=>ih.kh (.gR _) rfl (h2.cast ?_))) (fun _=>WP.bif (fun _=>WP.ret (Ar rfl (h2.cast ?_))) (fun e=>nomatch e)))))
  ·simp[ar.dQ]
  ·simp
 refine WP.bind (WP.dj (WP.bind (WP.word hL (WP.bind (WP.cZ (fun _=>WP.bind (WP.bif (fun _=>ih.run .bx (c6 hF) fun ks t h=>gu h.1) (fun e=>nomatch e))) (fun _=>WP.bind (WP.bif (fun e=>nomatch e) (fun _=>WP.ret (gu (hF.mv (dJ _).symm))))))))))
theorem ad9(ih:fV L fin aL wide f)(hF:bX fin s os):WP fin (P L fin aL wide (f+1) .loop) s (dR fin os .loop):=by
 rw[P];exact WP.bind (WP.get (WP.bind (WP.set (WP.bind (ih.one (.cS false) rfl (c6 hF) fun k t h=>WP.bind (WP.get (WP.bind (WP.set (WP.ret (CE h))))))))))
theorem ad2(hL:gq L fin)(ih:fV L fin aL wide f)(pos:Int)(hp:0<=pos/\pos<=fin)(hF:bX fin s os):WP fin (P L fin aL wide (f+1) (.choose pos)) s (dR fin os (.choose pos)):=by
 rw[P];exact WP.bind (ih.one .paren rfl (c6 hF) fun c t h=>WP.bind (WP.cK hL (WP.bind (WP.get (WP.bind (WP.set (WP.bind (ih.run (.ip [c] false) h fun ks u g=>WP.bind (WP.get (WP.bind (WP.set (kD g.1 rfl hp))))))))))))
theorem ad1(ih:fV L fin aL wide f)(aF:List Int)(hF:bX fin s (os++aF)):WP fin (P L fin aL wide (f+1) (.iz aF)) s (dR fin os (.iz aF)):=by
 rw[P];refine WP.bind (WP.get (WP.bif (fun _=>WP.bind (ih.one (.cS false) rfl (c6 hF) fun k t h=>ih.kh (.iz (aF++[k])) rfl (h.cast ?_))) (fun _=>WP.ret (Ar rfl hF))));simp[ar.dQ]
theorem aeg(hL:gq L fin)(ih:fV L fin aL wide f)(aF:List Int)(hF:bX fin s (os++aF)):WP fin (P L fin aL wide (f+1) (.prog aF)) s (dR fin os (.prog aF)):=by
 rw[P];refine WP.bind (WP.get (WP.bif (fun _=>WP.bind (ih.one (.cS true) rfl (c6 hF) fun k t h=>ih.kh (.prog (aF++[k])) rfl (h.cast ?_))) (fun _=>kD hF rfl ⟨cN 0,hL.f0⟩)));simp[ar.dQ]
theorem ad5(hL:gq L fin)(ih:fV L fin aL wide f)(pos:Int)(hp:0<=pos/\pos<=fin)(hF:bX fin s os):WP fin (P L fin aL wide (f+1) (.ef pos)) s (dR fin os (.ef pos)):=by
 rw[P];refine WP.bind (WP.cK hL (WP.bind (WP.get ?_)));dsimp only;refine WP.bif (fun _=>?_) (fun _=>?_)
 ·refine WP.bind (WP.set (WP.bind (ih.one .bx rfl (c6 hF) fun e t h=>WP.bind (WP.cK hL (WP.bind (ih.one .loop rfl (c6 h) fun b u g=>kD g ?_ hp))))));simp
 ·have key:∀{t:aw}{os:List Int}{B:Bool},bX fin t os->WP fin (bif B then nV L fin else one (P L fin aL wide f .bx)) t fun a u=>bX fin u (os++[a]):=fun{t os B}h=>WP.bif (fun _=>WP.empty hL h fun k u g=>g) (fun _=>ih.one .bx rfl (c6 h) fun k u g=>g);refine WP.bind (WP.mono (Q:=fun a t=>bX fin t (os++[a])) ?_ fun a t h=>?_)
  ·refine WP.bif (fun _=>ih.one .vars rfl (c6 hF) fun k t h=>h) (fun _=>WP.bif (fun _=>WP.empty hL (hF.mv rfl) fun k t h=>h) (fun _=>WP.bind (WP.dj (WP.bind (ih.one .bx rfl (c6 hF) fun e t h=>WP.node ?_)))));exact bX.node (x:=⟨20,.empty,0,[e],_⟩) h (kW hL _)
  refine WP.bind (WP.cK hL (WP.bind (WP.om (WP.bind ((key (h.mv rfl)).mono fun c u g=>WP.bind (WP.cK hL (WP.bind (WP.om (WP.bind ((key (g.mv rfl)).mono fun d v k=>WP.bind (WP.cK hL (WP.bind (ih.one .loop rfl (c6 k) fun b w q=>kD q ?_ hp)))))))))))));simp
theorem ael(hL:gq L fin)(ih:fV L fin aL wide f)(pos:Int)(hp:0<=pos/\pos<=fin)(hF:bX fin s os):WP fin (P L fin aL wide (f+1) (.eQ pos)) s (dR fin os (.eQ pos)):=by
 rw[P];have gu:∀{t:aw}{b:Int}{ks:List Int}{op:ByteArray}{g:Bool},bX fin t (os++[b]++ks)->WP fin (eg L tU>>=fun h=>(bif h then P L fin aL wide f (.block false) else ret [])>>=fun fs=>bM ⟨34-2,op,bif g then (bif h then CT else ox) else CU,[b]++ks++fs,pos⟩) t (dR fin os (.eQ pos)):=fun{t b ks op g}h=>by
  refine WP.bind (WP.cZ (fun _=>WP.bind (WP.bif (fun _=>ih.run (.block false) (c6 h) fun fs u k=>kD k.1 ?_ hp) (fun e=>nomatch e))) (fun _=>WP.bind (WP.bif (fun e=>nomatch e) (fun _=>WP.ret (kD h ?_ hp)))))
  all_goals grind
 refine WP.bind (ih.one (.block false) rfl (c6 hF) fun b t h=>WP.bind (WP.cZ (fun _=>WP.bind (WP.bif (fun _=>?_) (fun e=>nomatch e))) (fun _=>WP.bind (WP.bif (fun e=>nomatch e) (fun _=>WP.ret ?_)))))
 ·refine WP.bind (WP.cK hL (WP.bind (WP.word hL (WP.bind (WP.cK hL (WP.bind (ih.one (.block false) rfl (c6 h) fun c u g=>WP.ret ?_)))))));exact WP.bind (WP.get (WP.bind (WP.bif (fun _=>WP.fY hL) (fun _=>WP.ret (gu g)))))
 ·exact WP.bind (WP.get (WP.bind (WP.bif (fun _=>WP.fY hL) (fun _=>WP.ret (gu (h.mv (dJ _).symm))))))
theorem aek(hL:gq L fin)(ih:fV L fin aL wide f)(aF:List Int)(seen:Bool)(hF:bX fin s (os++aF)):WP fin (P L fin aL wide (f+1) (.ip aF seen)) s (dR fin os (.ip aF seen)):=by
 rw[P];have gu:∀{t:aw}{ks:List Int}{g:Bool},bX fin t (os++aF++ks)->WP fin (dn L fin colon>>=fun _=>P L fin aL wide f (.iz ks)>>=fun all=>eK ⟨34,.empty,bif g then 0 else ox,all,(aI L fin s).pos⟩>>=fun k=>P L fin aL wide f (.ip (aF++[k]) (bif g then seen else true))) t (dR fin os (.ip aF seen)):=fun{t ks g}h=>by
  refine WP.bind (WP.cK hL (WP.bind (ih.run (.iz ks) h fun all u k=>WP.bind (WP.node (ih.kh (.ip _ _) rfl (bX.cast (bX.node (os:=os++aF) (x:=⟨34,.empty,bif g then 0 else ox,all,(aI L fin s).pos⟩) k.1 (kW hL s)) ?_))))));simp[ar.dQ]
 refine WP.bind (WP.cZ (fun _=>WP.bif (fun _=>WP.ret (Ar rfl hF)) (fun e=>nomatch e)) (fun _=>WP.bif (fun e=>nomatch e) (fun _=>WP.bind (WP.dj (WP.bind (WP.cZ (fun _=>WP.bind (WP.bif (fun _=>ih.run .bx (c6 hF) fun ks t h=>gu h.1) (fun e=>nomatch e))) (fun _=>WP.bind (WP.bif (fun e=>nomatch e) (fun _=>WP.bind (WP.om (WP.bif (fun _=>WP.bind (WP.step (WP.ret (gu (hF.mv (dJ _).symm))))) (fun _=>WP.fY hL))))))))))))
theorem aeh(hL:gq L fin)(ih:fV L fin aL wide f)(x:bA)(hp:0<=x.pos/\x.pos<=fin)(hF:bX fin s os):WP fin (P L fin aL wide (f+1) (.simple x)) s (dR fin os (.simple x)):=by
 rw[P];refine WP.bind (WP.get (WP.bind ((WP.bif (fun _=>WP.ret rfl) (fun _=>WP.bif (fun _=>WP.ret rfl) (fun _=>WP.bif (fun _=>WP.ret rfl) (fun _=>WP.bif (fun _=>WP.ret rfl) (fun _=>WP.fY hL)))):WP fin _ _ fun _ t=>t.nodes=s.nodes).mono fun kind t e=>?_)));have Zk:=hF.mv rfl e;refine WP.bind (WP.step (WP.bind (WP.dj (WP.bind (WP.get (WP.bind (WP.bif (fun _=>WP.fY hL) (fun _=>WP.ret (WP.bind (WP.bif (fun _=>ih.run .bx (c6 Zk) fun ks u h=>WP.bind (Gg hL fun v e2=>kD h.1 rfl hp e2)) (fun _=>WP.ret (WP.bind (Gg hL fun v e2=>kD Zk (dJ _).symm hp e2)))))))))))))
theorem aei(hL:gq L fin)(ih:fV L fin aL wide f)(body:Bool)(hF:bX fin s os):WP fin (P L fin aL wide (f+1) (.cS body)) s (dR fin os (.cS body)):=by
 rw[P];have hp:=kW hL s;have plain:WP fin (one (P L fin aL wide f .bx)>>=fun e=>fy L fin>>=fun _=>bM ⟨20,.empty,0,[e],(aI L fin s).pos⟩) s (dR fin os (.cS body)):=
  WP.bind (ih.one .bx rfl (c6 hF) fun e t h=>WP.bind (Gg hL fun u e2=>kD h rfl hp e2))
 refine WP.bind (WP.dj (WP.bind (WP.get (WP.bif (fun _=>ih.kh (.block false) rfl (c6 hF)) (fun _=>WP.bif (fun _=>?_) (fun _=>?_))))))
 ·exact WP.bind (WP.empty hL hF fun k t h=>WP.bind (WP.step (WP.ret (CE h))))
 dsimp only;refine WP.bif (fun _=>WP.bif (fun _=>?_) (fun _=>WP.bif (fun _=>?_) (fun _=>WP.bif (fun _=>?_) (fun _=>WP.bif (fun _=>?_) (fun _=>WP.bif (fun _=>?_) (fun _=>WP.bif (fun _=>?_) (fun _=>WP.bif (fun _=>?_) (fun _=>WP.bif (fun _=>?_) (fun _=>plain))))))))) (fun _=>plain)
 ·exact WP.bind (ih.one .vars rfl (c6 hF) fun k t h=>WP.bind (Gg hL fun u e2=>WP.ret (CE h e2)))
 ·exact ih.kh (.simple _) rfl (c6 hF) (hp:=hp)
 ·exact WP.bif (fun _=>WP.fY hL) (fun _=>ih.kh (.func 35) rfl (c6 hF))
 ·refine WP.bind (WP.step (WP.bind (ih.one .paren rfl (c6 hF) fun c t h=>WP.bind (ih.one (.cS false) rfl (c6 h) fun a u g=>WP.bind (WP.cZ (fun _=>WP.bind (WP.bif (fun _=>ih.run (.cS false) (c6 g) fun ks v k=>kD k.1 ?_ hp) (fun e=>nomatch e))) (fun _=>WP.bind (WP.bif (fun e=>nomatch e) (fun _=>WP.ret (kD g ?_ hp)))))))))
  all_goals grind
 ·refine WP.bind (WP.step (WP.bind (ih.one .paren rfl (c6 hF) fun c t h=>WP.bind (ih.one .loop rfl (c6 h) fun b u g=>kD g ?_ hp))));simp
 ·exact WP.bind (WP.step (ih.kh (.ef _) rfl (c6 hF) (hp:=hp)))
 ·exact WP.bind (WP.step (ih.kh (.eQ _) rfl (c6 hF) (hp:=hp)))
 ·exact WP.bind (WP.step (ih.kh (.choose _) rfl (c6 hF) (hp:=hp)))
theorem OV(hL:gq L fin):∀f,fV L fin aL wide f
 |0=>fun tag s os _ _=>by
  unfold P;trivial
 |f+1=>fun tag s os hp hF=>by
  have ih:=OV hL f;cases tag with
  |bx=>exact ad4 hL ih (hF.cast (dJ _))
  |cond=>exact ad3 hL ih (hF.cast (dJ _))
  |level n=>exact ad7 hL ih n (hF.cast (dJ _))
  |j6 n left=>exact ad8 hL ih n left hF
  |unary=>exact aem hL ih (hF.cast (dJ _))
  |gf=>exact adX ih (hF.cast (dJ _))
  |suffix=>exact aej ih (hF.cast (dJ _))
  |gm k=>exact aee hL ih k hF
  |gY aF=>exact ad0 hL ih aF hF
  |dY aF=>exact adW hL ih aF hF
  |ey aF=>exact aeb hL ih aF hF
  |fx=>exact aef hL ih (hF.cast (dJ _))
  |func kind=>exact ad6 hL ih kind (hF.cast (dJ _))
  |gk aF=>exact aec hL ih aF hF
  |block body=>exact adY hL ih body (hF.cast (dJ _))
  |jR aF body=>exact adZ ih aF body hF
  |paren=>exact aed hL ih (hF.cast (dJ _))
  |vars=>exact aeo hL ih (hF.cast (dJ _))
  |gR aF=>exact aen hL ih aF hF
  |loop=>exact ad9 ih (hF.cast (dJ _))
  |ef pos=>exact ad5 hL ih pos hp (hF.cast (dJ _))
  |eQ pos=>exact ael hL ih pos hp (hF.cast (dJ _))
  |choose pos=>exact ad2 hL ih pos hp (hF.cast (dJ _))
  |ip aF seen=>exact aek hL ih aF seen hF
  |iz aF=>exact ad1 ih aF hF
  |simple x=>exact aeh hL ih x hp (hF.cast (dJ _))
  |cS body=>exact aei hL ih body (hF.cast (dJ _))
  |prog aF=>exact aeg hL ih aF hF
theorem abi(hL:gq L fin)(f:Nat):WP fin (P L fin aL wide f (.prog [])) ⟨0,[],0,0,0⟩ fun _ t=>∃k,bX fin t [k]:=
 (OV hL f (.prog []) ⟨0,[],0,0,0⟩ [] trivial ⟨List.Perm.refl _,List.Pairwise.nil,fun i x h=>by simp at h,fun x h=>by simp at h⟩).mono fun ks t h=>by
  obtain⟨k,rfl⟩:=h.2 rfl;exact⟨k,h.1⟩
end
end
section
open Go
structure c8 where
 b:Nat
 la:Option Addr
 lc:Nat
 L:List bA
 fin:Int
 i:Nat
structure jD(x:c8)(F:ai):Prop where
 l0:aO F ⟨x.b,0,none⟩ (.slice x.la x.L.length x.lc)
 l1:aO F ⟨x.b,1,none⟩ (.int .i64 x.i)
 l2:aO F ⟨x.b,2,none⟩ (.int .i64 x.fin)
 src:mt 5 (iS x.L) x.la x.L.length
 Fp:rl F x.la (iS x.L)
variable{x:c8}
theorem jD.sub{A B:ai}(hs:Sub A B)(h:jD x A):jD x B:=⟨h.l0.sub hs,h.l1.sub hs,h.l2.sub hs,h.src,h.Fp.sub hs⟩
theorem Sy:∀(L:List bA)(i j:Nat)(d:bA)(u:Value),L[i]?=some d->(mb d)[j]?=some u->(iS L)[i*5+j]?=some u
 | [],i,j,d,u,h,_=>by simp at h
 |e::L,0,j,d,u,h,hu=>by
  have h:e=d:=by simpa using h
  subst h;have hj:=(mG.1 hu).1;have:iS (e::L)=mb e++iS L:=rfl;rw[this,Nat.zero_mul,jk,rB hj];exact hu
 |e::L,i+1,j,d,u,h,hu=>by
  have:iS (e::L)=mb e++iS L:=rfl;have h5:(mb e).length=5:=rfl;rw[this,sR af,h5,show(i+1)*5+j-5=i*5+j by omega];exact Sy L i j d u h hu
theorem jD.look{F:ai}(h:jD x F){b o i j:Nat}{d:bA}{u:Value}(e:x.la=some ⟨b,o,none⟩)(hd:x.L[i]?=some d)(hu:(mb d)[j]?=some u):aO F ⟨b,o+i*5+j,none⟩ u:=by
 have hs:=h.Fp;rw[e]at hs;have:=hs.look (Sy x.L i j d u hd hu);rw[Nat.add_assoc];exact this
def cu(L:List bA)(fin:Int)(i:Nat):bA:=(L[i]?).getD ⟨0,⟨#[]⟩,0,fin,false⟩
def eF(j:Nat):List LH:=[.z00 j,.z00 j,.z00 j,.z00 j,.z00 j]
def jm:aR where
 X:=c8
 args x:=[ah (some ⟨x.b,0,none⟩)]
 cond x:=x.L.length<=1048576
 aQ x F:=jD x F
 val x _:=az (agg ⟨mb (cu x.L x.fin x.i)⟩)
 eX _ _ _ hs h:=jD.sub hs h
def le5:List LH:=[.ex 0 (.int .i64),.ex 0 .str,.ex 0 (.float .f64),.ex 0 (.int .i64),.ex 0 .bool]
def We(a:Int):List Value:=[ae 0,aj ⟨#[]⟩,float f64 0,ae a,ak false]
def lF(oo:Oper)(aa:List Value)(k0:w6->Prop):=dH Tryz.prog oo (h_ 5)/\∃(z:w6),aa=[au (some ⟨z.b,z.o,none⟩) z.len z.cap,ae z.n]/\(0<=z.n/\z.n<z.len)/\k0 z
def Cr(e:Int)(d:ByteArray)(c:Nat)(b:Int)(a:Bool):List Value:=[ae e,aj d,float f64 c,ae b,ak a]
theorem aiA(x:c8)(F:ai)(hc:jm.cond x)(hr:jm.aQ x F):∀(o:Nat),true=true/\T1 F ⟨x.b,1,none⟩ (fun n=>e8 F ⟨x.b,0,none⟩ (fun m l k=>aP (n>=l) (T1 F ⟨x.b,2,none⟩ (fun a=>cF o (cF o (aq jm x F (az (agg ⟨We a⟩)) [(0,F),(1000,ag o (We a) 53)])))) (true=true/\e8 F ⟨x.b,0,none⟩ (fun j i h=>T1 F ⟨x.b,1,none⟩ (fun g=>lF (a8 Tryz.f24 3 8) [au j i h,ae g] (fun f=>T1 F ⟨f.b,f.o+f.n.toNat*5,none⟩ (fun e=>T2 F ⟨f.b,f.o+f.n.toNat*5+1,none⟩ (fun d=>vt F ⟨f.b,f.o+f.n.toNat*5+2,none⟩ (fun c=>T1 F ⟨f.b,f.o+f.n.toNat*5+3,none⟩ (fun b=>zf F ⟨f.b,f.o+f.n.toNat*5+4,none⟩ (fun a=>cF o (cF o (aq jm x F (az (agg ⟨Cr e d c b a⟩)) [(0,F),(1000,ag o (Cr e d c b a) 53)]))))))))))))):=by
 delta T1 e8 We lF T2 vt zf Cr cF ae aj ak au ag aP az;have hL:x.L.length<=1048576:=hc;intro b;refine⟨rfl,_,hr.l1,_,_,_,hr.l0,bl (fun h=>⟨_,hr.l2,ap,ap,ap,ap,ap,ap,ap,ap,ap,ap,(),ao,?_,aB [0]⟩) (fun h=>?_)⟩
 ·show returned _=returned (.agg ⟨mb (cu x.L x.fin x.i)⟩);unfold cu;rw[sQ af];rfl
 ·obtain⟨d,hd⟩:∃d,x.L[x.i]?=some d:=⟨_,gv af⟩;obtain⟨lb,lo,mK⟩:=hr.src.some af;have k:∀(j:Nat)(u:Value),(mb d)[j]?=some u->aO F ⟨lb,lo+(x.i:Int).toNat*5+j,none⟩ u:=fun j u hu=>by
   rw[cB];exact hr.look mK hd hu
  refine⟨rfl,_,_,_,hr.l0,_,hr.l1,jp 5 rfl rfl rfl rfl,⟨lb,lo,x.L.length,x.lc,x.i⟩,by rw[mK],iP,_,k 0 _ rfl,_,k 1 _ rfl,_,k 2 _ rfl,_,k 3 _ rfl,_,k 4 _ rfl,ap,ap,ap,ap,ap,ap,ap,ap,ap,ap,(),ao,?_,aB [0]⟩;show returned _=returned (.agg ⟨mb (cu x.L x.fin x.i)⟩);unfold cu;rw[hd];rfl
theorem l9:aC 24 jm:=fo 28 Tryz.func24 (fun _ _=>[(0,0,.n 1000),(1,3,dm),(1,7,.q [.ex 0 .slice]),(2,3,dm),(2,5,.w (eF 1000)),(3,3,.q [.ex 0 .slice]),(3,7,dm),(3,8,.qo (h_ 5)),(3,9,.q le5),(3,10,.w (eF 1000))]) [] aY aY bz (eF 1000) aiA
structure za where
 p:c8
 a:Nat
 t:ByteArray
theorem gj(a b:ByteArray):(a.toList==b.toList)=bW a b:=by
 have e:bW a b=(a.data==b.data):=by unfold bW;cases a;cases b;rfl
 rw[e,Bool.eq_iff_iff,beq_iff_eq,beq_iff_eq,ByteArray.toList_eq,ByteArray.toList_eq];constructor
 ·intro h;exact Array.ext' h
 ·intro h;rw[h]
def jb(L:List bA)(k:Nat)(t:ByteArray):Bool:=match L[k]? with
 |none=>false
 |some x=>(x.kind==5||x.kind==2)&&bW x.text t
def hZ:aR where
 X:=za
 args x:=[ah (some ⟨x.p.b,0,none⟩),ae x.a,aj x.t]
 cond x:=x.p.L.length<=1048576/\x.p.i<=1048576/\x.a<=1048576
 aQ x F:=jD x.p F
 val x _:=az (ak (jb x.p.L (x.p.i+x.a) x.t))
 eX _ _ _ hs h:=jD.sub hs h
theorem akc(x:za)(F:ai)(hc:hZ.cond x)(hr:hZ.aQ x F):true=true/\T1 F ⟨x.p.b,1,none⟩ (fun o=>bT (o+x.a)/\e8 F ⟨x.p.b,0,none⟩ (fun n m l=>aP (o+x.a>=(m:Int)) (aq hZ x F c7 [(0,F)]) (true=true/\e8 F ⟨x.p.b,0,none⟩ (fun k j i=>T1 F ⟨x.p.b,1,none⟩ (fun h=>bT (h+x.a)/\lF (a8 Tryz.f29 3 10) [au k j i,ae (h+x.a)] (fun g=>T1 F ⟨g.b,g.o+g.n.toNat*5,none⟩ (fun f=>T2 F ⟨g.b,g.o+g.n.toNat*5+1,none⟩ (fun e=>vt F ⟨g.b,g.o+g.n.toNat*5+2,none⟩ (fun d=>T1 F ⟨g.b,g.o+g.n.toNat*5+3,none⟩ (fun c=>zf F ⟨g.b,g.o+g.n.toNat*5+4,none⟩ (fun b=>∀(a:Nat),cF a (ax a 0/\Br (f==5) (ax a 1/\aq hZ x F (az (ak (e.toList==x.t.toList))) [(0,F),(4120,ag a (Cr f e d c b) 53)]) (ax a 0/\Br (f==2) (ax a 1/\aq hZ x F (az (ak (e.toList==x.t.toList))) [(0,F),(4120,ag a (Cr f e d c b) 53)]) (aq hZ x F c7 [(0,F),(4120,ag a (Cr f e d c b) 53)])))))))))))))):=by
 delta T1 e8 dq c7 lF T2 vt zf Cr ax bT cF ae aj ak au ag aP az;obtain⟨⟨b,la,lc,L,fin,i⟩,a,t⟩:=x;obtain⟨hL,hi,ha⟩:=hc;replace hr:jD ⟨b,la,lc,L,fin,i⟩ F:=hr;dsimp only at hL hi ha;dsimp only;refine⟨rfl,_,hr.l1,iP,_,_,_,hr.l0,bl (fun h=>⟨(),ao,mh ?_,aB [0]⟩) (fun h=>?_)⟩
 ·dsimp only at h⊢;unfold jb;rw[sQ af]
 ·dsimp only at h;obtain⟨d,hd⟩:∃d,L[i+a]?=some d:=⟨_,gv af⟩;obtain⟨lb,lo,mK⟩:=hr.src.some bd;have en:((i:Int)+(a:Int)).toNat=i+a:=af;have k:∀(j:Nat)(u:Value),(mb d)[j]?=some u->aO F ⟨lb,lo+((i:Int)+(a:Int)).toNat*5+j,none⟩ u:=fun j u hu=>by
   rw[en];exact hr.look mK hd hu
  have hv:jb L (i+a) t=((d.kind==5||d.kind==2)&&bW d.text t):=by unfold jb;rw[hd]
  refine⟨rfl,_,_,_,hr.l0,_,hr.l1,iP,jp 5 rfl rfl rfl rfl,⟨lb,lo,L.length,lc,(i:Int)+(a:Int)⟩,by rw[show la=_ from mK],iP,_,k 0 _ rfl,_,k 1 _ rfl,_,k 2 _ rfl,_,k 3 _ rfl,_,k 4 _ rfl,fun sb=>⟨ap,ap,ap,ap,ap,ap,aG (fun e1=>⟨ap,(),ao,mh ?_,aB [0]⟩) (fun e1=>⟨ap,aG (fun e2=>⟨ap,(),ao,mh ?_,aB [0]⟩) (fun e2=>⟨(),ao,mh ?_,aB [0]⟩)⟩)⟩⟩
  ·dsimp only;rw[hv,gj,show(d.kind==5)=true from e1];rfl
  ·dsimp only;rw[hv,gj,show(d.kind==2)=true from e2,n7];rfl
  ·dsimp only;rw[hv,show(d.kind==5)=false from e1,show(d.kind==2)=false from e2];rfl
theorem kY:aC 29 hZ:=fo 46 Tryz.func29 (fun _ _=>[(1,3,dm),(1,9,.q [.ex 0 .slice]),(3,3,.q [.ex 0 .slice]),(3,7,dm),(3,10,.qo (h_ 5)),(3,11,.q le5),(3,12,.n 4120)]) [(3,13,.w [LH.z00 (4120:Nat),LH.z00 (4120:Nat),LH.z00 (4120:Nat),LH.z00 (4120:Nat),LH.z00 (4120:Nat)]),(4,1,aT 4120),(4,10,aT 4120),(4,5,aT 4120)] aY aY bz [] akc
end
section
open Go
structure I4 where
 b:Nat
 p:Int
 e:Int
def jy(p e:Int):Value:=.iface 51 (.agg #[.int .i64 p,.int .i64 e])
def Bw:aR where
 X:=I4
 args x:=[ah (some ⟨x.b,0,none⟩),ae x.p,ae x.e]
 val x _:=panicked [⟨jy x.p x.e,false,false⟩]
theorem ahs(x:I4)(F:ai)(hc:Bw.cond x)(hr:Bw.aQ x F):aq Bw x F (dK x.p x.e) [(0,F)]:=by
 delta dK;exact lJ
theorem YX:aC 28 Bw:=fo 10 Tryz.func28 (fun _ _=>[(0,4,.w [])]) [] aY aY bz [] ahs
structure I6 where
 p:c8
 a:Nat
def Ef(L:List bA)(k:Nat):Bool:=match L[k]? with
 |none=>false
 |some x=>x.kind==1
def zK:aR where
 X:=I6
 args x:=[ah (some ⟨x.p.b,0,none⟩),ae x.a]
 cond x:=x.p.L.length<=1048576/\x.p.i<=1048576/\x.a<=1048576
 aQ x F:=jD x.p F
 val x _:=az (ak (Ef x.p.L (x.p.i+x.a)))
 eX _ _ _ hs h:=jD.sub hs h
theorem alr(x:I6)(F:ai)(hc:zK.cond x)(hr:zK.aQ x F):true=true/\T1 F ⟨x.p.b,1,none⟩ (fun j=>bT (j+x.a)/\e8 F ⟨x.p.b,0,none⟩ (fun i h g=>aP (j+x.a<(h:Int)) (e8 F ⟨x.p.b,0,none⟩ (fun f e d=>T1 F ⟨x.p.b,1,none⟩ (fun c=>bT (c+x.a)/\lF (a8 Tryz.f66 1 23) [au f e d,ae (c+x.a)] (fun b=>T1 F ⟨b.b,b.o+b.n.toNat*5,none⟩ (fun a=>aq zK x F (az (ak (a==1))) [(0,F)]))))) (aq zK x F c7 [(0,F)]))):=by
 delta T1 e8 lF dq c7 bT ae ak au aP az;obtain⟨⟨b,la,lc,L,fin,i⟩,a⟩:=x;obtain⟨hL,hi,ha⟩:=hc;replace hr:jD ⟨b,la,lc,L,fin,i⟩ F:=hr;dsimp only at hL hi ha;dsimp only;refine⟨rfl,_,hr.l1,iP,_,_,_,hr.l0,bl (fun h=>?_) (fun h=>⟨(),ao,mh ?_,aB [0]⟩)⟩
 ·dsimp only at h;obtain⟨d,hd⟩:∃d,L[i+a]?=some d:=⟨_,gv af⟩;obtain⟨lb,lo,mK⟩:=hr.src.some bd;have en:((i:Int)+(a:Int)).toNat=i+a:=af;have k:∀(j:Nat)(u:Value),(mb d)[j]?=some u->aO F ⟨lb,lo+((i:Int)+(a:Int)).toNat*5+j,none⟩ u:=fun j u hu=>by
   rw[en];exact hr.look mK hd hu
  have hv:Ef L (i+a)=(d.kind==1):=by unfold Ef;rw[hd]
  refine⟨_,_,_,hr.l0,_,hr.l1,iP,jp 5 rfl rfl rfl rfl,⟨lb,lo,L.length,lc,(i:Int)+(a:Int)⟩,by rw[show la=_ from mK],iP,_,k 0 _ rfl,(),ao,mh ?_,aB [0]⟩;dsimp only;rw[hv]
 ·dsimp only at h⊢;unfold Ef;rw[sQ af]
theorem aaG:aC 66 zK:=fo 33 Tryz.func66 (fun _ _=>[(1,3,dm),(1,9,.q [.ex 0 .slice]),(1,16,.q [.ex 0 .slice]),(1,20,dm),(1,23,.qo (h_ 5)),(1,25,dm)]) [] aY aY bz [] alr
def mD:aR where
 X:=c8
 args x:=[ah (some ⟨x.b,0,none⟩)]
 cond x:=x.L.length<=1048576
 aQ x F:=jD x F
 val x _:=panicked [⟨jy (cu x.L x.fin x.i).pos 60,false,false⟩]
 eX _ _ _ hs h:=jD.sub hs h
def je(z:c8):List Value:=[ah (some ⟨z.b,0,none⟩)]
def fm(aa:List Value)(rr:ai)(k0:c8->Unit->Prop):=aC 24 jm/\true=true/\∃(z:c8),aa=(je z)/\([]:List ai)=[]/\z.L.length<=1048576/\jD z rr/\∀(u0:Unit),True->k0 z u0
def Jq(aa:List Value)(k0:I4->Unit->Prop):=aC 28 Bw/\true=true/\∃(z:I4),aa=[ah (some ⟨z.b,0,none⟩),ae z.p,ae z.e]/\([]:List ai)=[]/\True/\True/\∀(u0:Unit),True->k0 z u0
theorem afF(x:c8)(F:ai)(hc:mD.cond x)(hr:mD.aQ x F):fm (je x) (cX F) (fun d c=>Jq [ah (some ⟨x.b,0,none⟩),ae (cu d.L d.fin d.i).pos,ae 60] (fun b a=>aq mD x F (dK b.p b.e) [(0,F)])):=by
 delta je fm cX Jq dK aH ae ah;exact bp l9 x hc (jD.sub (b_ 0) hr) fun _ _=>nf YX ⟨x.b,(cu x.L x.fin x.i).pos,60⟩ fun _ _=>lJ
theorem ru:aC 15 mD:=fo 7 Tryz.func15 (fun _ _=>[(0,2,aX jm),(0,4,aX Bw)]) [] aY aY bz [] afF
end
section
open Go
def TP{α:Type}(m:PM α)(s:aw)(Q:α->aw->Prop):Prop:=
 match m s with
 | .ok a t=>Q a t
 | .stop _ _ _=>True
 | .out=>False
section
variable{α β:Type}{s:aw}
theorem TP.bind{m:PM α}{f:α->PM β}{Q:β->aw->Prop}(h:TP m s fun a t=>TP (f a) t Q):TP (m>>=f) s Q:=by
 show TP (cq m f) s Q;unfold TP cq at*;grind
theorem TP.mono{m:PM α}{Q R:α->aw->Prop}(h:TP m s Q)(k:∀a t,Q a t->R a t):TP m s R:=by
 unfold TP at*;grind
theorem TP.ret{a:α}{Q:α->aw->Prop}(h:Q a s):TP (ret a) s Q:=h
theorem TP.bif{b:Bool}{m n:PM α}{Q:α->aw->Prop}(h1:b=true->TP m s Q)(h2:b=false->TP n s Q):TP (bif b then m else n) s Q:=by
 grind
theorem TP.get{Q:aw->aw->Prop}(h:Q s s):TP ie s Q:=h
theorem TP.fJ{k:Int}{Q:Int->aw->Prop}(h:∀p,Q p s):TP (fJ k) s Q:=h _
variable(L:List bA){fin:Int}
def left(s:aw):Nat:=L.length-s.i
variable{L}
theorem TP.set{t:aw}(hi:s.i<=t.i){Q:Unit->aw->Prop}(h:∀t,left L t<=left L s->Q () t):TP (lV t) s Q:=h t (by unfold left;omega)
theorem TP.node{x:cA}{Q:Int->aw->Prop}(h:∀k t,left L t<=left L s->Q k t):TP (eK x) s Q:=h _ _ (cr _)
theorem aeq{x:cA}{Q:Int->aw->Prop}(h:∀k t,t.i=s.i->left L t=left L s->Q k t):TP (eK x) s Q:=h _ _ rfl rfl
theorem jX{s:aw}(h:(aI L fin s).kind≠0):s.i<L.length:=by
 unfold aI at h;grind
theorem j5{s:aw}{t:ByteArray}(h:bE L s 0 t=true):s.i<L.length:=by
 unfold bE at h;grind
theorem D_{s:aw}(h:s.i<L.length):left L {s with i:=s.i+1}<left L s:=by
 unfold left;grind
theorem TP.step(hs:s.i<L.length){Q:Unit->aw->Prop}(h:∀t,left L t<left L s->Q () t):TP gA s Q:=h _ (D_ hs)
theorem TP.dj{Q:bA->aw->Prop}(h:Q (aI L fin s) s):TP (ig L fin) s Q:=h
theorem TP.fY{Q:α->aw->Prop}:TP (m9 L fin) s Q:=ao
theorem TP.cZ{t:ByteArray}{Q:Bool->aw->Prop}(h1:∀u,left L u<left L s->Q true u)(h2:bE L s 0 t=false->Q false s):TP (eg L t) s Q:=by
 unfold TP eg;cases h:bE L s 0 t with
 |true=>exact h1 _ (D_ (j5 h))
 |false=>exact h2 h
theorem TP.cK{t:ByteArray}{Q:Unit->aw->Prop}(h1:∀u,left L u<left L s->Q () u):TP (dn L fin t) s Q:=by
 unfold TP dn;cases h:bE L s 0 t with
 |true=>exact h1 _ (D_ (j5 h))
 |false=>trivial
theorem TP.om{a:Nat}{t:ByteArray}{Q:Bool->aw->Prop}(h:∀b,b=bE L s a t->Q b s):TP (th L a t) s Q:=h _ rfl
theorem TP.o8{k:Int}{b:Bool}{Q:Unit->aw->Prop}(h:Q () s):TP (nt k b) s Q:=by
 unfold TP nt;grind
theorem TP.word{Q:ByteArray->aw->Prop}(h:∀w t,left L t<left L s->Q w t):TP (ly L fin) s Q:=by
 unfold TP ly;cases hk:(aI L fin s).kind !=1 with
 |true=>trivial
 |false=>exact h _ _ (D_ (jX (fin:=fin) (by have:(aI L fin s).kind=1:=(by simpa using hk);rw[this];decide)))
theorem TP.yO{Q:Unit->aw->Prop}(h:∀t,left L t<=left L s->Q () t):TP (fy L fin) s Q:=by
 unfold TP fy;cases hx:bE L s 0 fM with
 |true=>exact h _ (Nat.le_of_lt (D_ (j5 hx)))
 |false=>
  grind
theorem TP.key{aL:Nat->ByteArray}{wide:ByteArray->ByteArray}{Q:Int->aw->Prop}(h:∀k t,left L t<left L s->Q k t):TP (eV L fin aL wide) s Q:=by
 have go:∀{op:ByteArray},(aI L fin s).kind≠0->Q s.nodes.length {s with i:=s.i+1,nodes:=s.nodes++[⟨2,op,0,[],(aI L fin s).pos⟩]}:=fun{op}hk=>h _ _ (D_ (jX hk));unfold TP eV;dsimp only;cases h1:(aI L fin s).kind==1||(aI L fin s).kind==2 with
 |true=>exact go (fun e=>by rw[e]at h1;cases h1)
 |false=>
  rw[aU];cases h2:(aI L fin s).kind==3 with
  |true=>exact go (fun e=>by rw[e]at h2;cases h2)
  |false=>
   rw[aU];cases h3:(aI L fin s).kind==4 with
   |true=>exact go (fun e=>by rw[e]at h3;cases h3)
   |false=>trivial
theorem TP.empty{Q:Int->aw->Prop}(h:∀k t,left L t<=left L s->Q k t):TP (nV L fin) s Q:=h _ _ (cr _)
end
def ar.fc:ar->Nat
 | .level n=>6+(10-n)
 | .cond=>17| .bx=>18| .cS _=>19| .gY _| .dY _=>19| .loop| .jR _ _| .iz _| .prog _=>20
 | .unary=>5| .gf=>4| .suffix=>3| .fx=>2| .eQ _| .choose _=>2
 |_=>1
def ar.cons:ar->Bool
 | .j6 _ _| .gm _| .iz _| .prog _=>false
 |_=>true
def ar.cC(L:List bA)(s:aw):ar->Prop
 | .level n=>n<=10
 | .j6 n _=>n<=9
 | .func _| .vars| .simple _=>s.i<L.length
 |_=>True
section
variable{fin:Int}{L:List bA}{aL:Nat->ByteArray}{wide:ByteArray->ByteArray}
def fU(L:List bA)(fin:Int)(aL:Nat->ByteArray)(wide:ByteArray->ByteArray)(f:Nat):Prop:=
 ∀(tag:ar)(s:aw),tag.cC L s->24*left L s+tag.fc<=f->TP (P L fin aL wide f tag) s fun _ t=>left L t<=left L s/\(tag.cons=true->left L t<left L s)
end
end
end Go.Proofs.YtdkchodgklpomaaGreatDoor
