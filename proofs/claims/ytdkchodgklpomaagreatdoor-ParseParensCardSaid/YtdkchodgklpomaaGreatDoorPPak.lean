/- Part of the proof that ParseParens answers true at every input. -/
import Derived.Test.YtdkchodgklpomaaGreatDoorPPaj
set_option linter.all false
namespace Go.Proofs.YtdkchodgklpomaaGreatDoor
set_option maxRecDepth 100000
open Go.Value (int slice string bool pointer agg tuple func float iface nilIface)
open Go.IntKind (i64 u8 u64 i32 u32 u16 i8 i16)
open Go.FloatKind (f64)
open Go.Ending (returned panicked)
section
open Go
structure xD where
 tb:Nat->Nat
 r:Row
 n:Nat
structure kN(tb:Nat->Nat)(F:ah):Prop where
 tx:iT F
 Fu:∀i,i<1392->aP F ⟨15,i,none⟩ (.int .u64 (tb i))
theorem kN.sub{tb:Nat->Nat}{A B:ah}(h:kN tb A)(hs:Sub A B):kN tb B:=⟨h.tx.sub hs,fun i hi=>(h.Fu i hi).sub hs⟩
structure np(tb:Nat->Nat):Prop where
 lt:∀i,tb i<18446744073709551616
 ge:∀i,i<696->9223372036854775808<=tb (i*2)
def vY:aQ where
 X:=xD
 Y:=Row
 args x:=[au x.r.a x.r.n x.r.cap,float f64 x.n,a8 101,ad (-1)]
 pre x:=[x.r.A]
 cond x:=np x.tb/\n5 x.n/\bz 5 1 [] x.r
 aO x F:=kN x.tb F
 bZ x y:=bz 5 1 (bW (sK x.tb x.n)) y
 val _ y:=ax (au y.a y.n y.cap)
 post _ y:=[y.A]
theorem Hv:∀(k u:Nat),u<10^(k+1)->Lib.nDigits u<=k+1
 |0,u,h=>by rw[Lib.nDigits_small (by simpa using h)];exact bT _
 |k+1,u,h=>by
  by_cases q:u<10
  ·rw[Lib.nDigits_small q];omega
  ·have:=Hv k (u/10) (by rw[Nat.pow_succ]at h;omega);rw[Lib.nDigits_big q];omega
structure sh where
 neg:Bool
 e:Int
 m:Nat
 b:Nat
 vs:List Value
 t:TypeId
def Nu(x:xD)(F:ah)(P:sh->Prop)(lv:sh->List (Nat×Value))(st:sh->List ah):Option Inv:=some {X:=sh,P:=P,mu:=fun _=>0,lv:=fun d=>[(0,.slice x.r.a x.r.n x.r.cap),(2,.int .u8 101),(3,.int .i64 (-1)),(11,.int .i64 52),(12,.int .i64 (-1023)),(13,.bool d.neg),(14,.int .i64 d.e),(15,.int .u64 d.m)]++lv d,st:=st}
def adm(x:xD)(F:ah):Nat->Option Inv:=fun
 |22=>Nu x F (fun d=>d.neg=jl x.n/\d.e=(lF x.n:Nat)/\d.m=nB x.n) (fun _=>[]) (fun _=>[x.r.A,F])
 |25=>Nu x F (fun d=>d.neg=jl x.n/\d.e+ -1023=mO x.n/\d.m=eU x.n) (fun _=>[]) (fun _=>[x.r.A,F])
 |34=>Nu x F (fun d=>d.neg=jl x.n/\d.e=mO x.n/\d.m=eU x.n/\Dp d.vs) (fun d=>[(16,.pointer (some ⟨d.b,0,none⟩))]) (fun d=>[x.r.A,F,.cells d.b d.vs d.t])
 |_=>none
def LO(b:Oper)(aa:List Value)(a:Int×Int->Prop):=dJ Tryz.prog b (mC i64 i64)/\∃(z:Int×Int),aa=[ad z.fst,ad z.snd]/\0<=z.snd/\a z
def Ja(x:xD)(F:ah):FG->Row->Prop:=fun b a=>ar vY x F (ax (kE a)) [(0,a.A),(1,F)]
def Rt(w:Int×Int):=w.fst.fdiv ((2:Int)^min w.snd.toNat u64.bits)!=0
def LP(e0:xD)(e1:ah)(v0 v1 v2:Value)(a:St):=∃(z:sh),(z.neg=jl e0.n/\z.e+(-1023:Int)=mO e0.n/\z.m=eU e0.n)/\(au e0.r.a e0.r.n e0.r.cap=au e0.r.a e0.r.n e0.r.cap/\a8 101=a8 101/\ad (-1)=ad (-1)/\ad 52=ad 52/\ad (-1023)=ad (-1023)/\v0=aj z.neg/\v1=ad z.e/\v2=aA ↑z.m/\True)/\aE a [(0,e0.r.A),(1,e1)]
def LQ(aa:List Value)(pp:List ah)(rr:ah)(b:kq->Row->Prop):=aC 192 yw/\true=true/\∃(z:kq),aa=[au z.r.a z.r.n z.r.cap,aj z.neg,au (mq z) 32 32,ad z.dp,ad ↑z.nd,ad (↑(z.nd-1):Int),a8 101,aj true]/\pp=[z.r.A]/\(bz 5 1 [] z.r/\z.ds.length=32/\z.nd<=20/\(-900:Int)<=z.dp/\z.dp<=900)/\c4 rr ⟨z.b,0,none⟩ (bW z.ds)/\∀(a:Row),bz 5 1 (bW (qb z.neg z.ds z.dp z.nd)) a->b z a
def LS(b:Oper)(aa:List Value)(a:vu->Prop):=dJ Tryz.prog b (sx 32)/\∃(z:vu),aa=[ag (some z.a)]/\(z.a.off=0/\z.a.spot=none)/\a z
theorem adu(x:xD)(F:ah)(N:vY.cond x)(C:vY.aO x F):((-9223372036854775808:Int)<=(11:Int)+(52:Int)/\(11:Int)+(52:Int)<=(9223372036854775807:Int))/\tZ (ba Tryz.f176 13 4) [aA ↑x.n,ad ((11:Int)+(52:Int))] (fun w=>true=true/\tZ (ba Tryz.f176 14 2) [aA ↑x.n,ad 52] (fun v=>LO (ba Tryz.f176 14 5) [ad 1,ad 11] (fun u=>o8 (ba Tryz.f176 15 2) [aA 1,ad 52] (fun t=>LO (ba Tryz.f176 16 2) [ad 1,ad 11] (fun c=>Br (bU (↑(gQ (bU (v.fst.fdiv ((2:Int)^min v.snd.toNat u64.bits)))&&& gQ (bU (bU (u.fst*2^min u.snd.toNat i64.bits)-1))).toNat:Int)==bU (bU (c.fst*2^min c.snd.toNat i64.bits)-1)) (Br (bf (↑(b7 (x.n:Int)&&& b7 (bf (bf (t.fst*2^min t.snd.toNat u64.bits)-1))).toNat:Int)!=0) (Au (ba Tryz.f176 18 1) [au x.r.a x.r.n x.r.cap,ai ⟨#[78,97,78]⟩] [x.r.A] (Ja x F)) (Br (Rt w) (Au (ba Tryz.f176 20 1) [au x.r.a x.r.n x.r.cap,ai ⟨#[45,73,110,102]⟩] [x.r.A] (Ja x F)) (Au (ba Tryz.f176 21 1) [au x.r.a x.r.n x.r.cap,ai ⟨#[43,73,110,102]⟩] [x.r.A] (Ja x F)))) (∃(a:sh),(a.neg=jl x.n/\a.e=(↑(lF x.n):Int)/\a.m=nB x.n)/\(au x.r.a x.r.n x.r.cap=au x.r.a x.r.n x.r.cap/\a8 101=a8 101/\ad (-1)=ad (-1)/\ad 52=ad 52/\ad (-1023)=ad (-1023)/\aj (Rt w)=aj a.neg/\ad (bU (↑(gQ (bU (v.fst.fdiv ((2:Int)^min v.snd.toNat u64.bits)))&&& gQ (bU (bU (u.fst*2^min u.snd.toNat i64.bits)-1))).toNat:Int))=ad a.e/\aA (bf (↑(b7 (x.n:Int)&&& b7 (bf (bf (t.fst*2^min t.snd.toNat u64.bits)-1))).toNat:Int))=aA ↑a.m/\True)/\aE [(0,x.r.A),(1,F)] [(0,x.r.A),(1,F)]))/\aT fun(s:sh)_=>(s.neg=jl x.n/\s.e=(↑(lF x.n):Int)/\s.m=nB x.n)->Br (s.e==0) (((-9223372036854775808:Int)<=s.e+1/\s.e+1<=(9223372036854775807:Int))/\LP x F (aj s.neg) (ad (s.e+1)) (aA ↑s.m) [(0,x.r.A),(1,F)]) (o8 (ba Tryz.f176 24 2) [aA 1,ad 52] (fun b=>LP x F (aj s.neg) (ad s.e) (aA (bf (↑(b7 (s.m:Int)|||b7 (bf (b.fst*2^min b.snd.toNat u64.bits))).toNat:Int))) [(0,x.r.A),(1,F)]))/\aT fun(q:sh)_=>(q.neg=jl x.n/\q.e+(-1023:Int)=mO x.n/\q.m=eU x.n)->((-9223372036854775808:Int)<=q.e+(-1023:Int)/\q.e+(-1023:Int)<=(9223372036854775807:Int))/\Br ((q.m:Int)==0) (LQ [au x.r.a x.r.n x.r.cap,aj q.neg,au none 0 0,ad 0,ad 0,ad (-1),a8 101,aj (decide ((-1:Int)<(0:Int)))] [x.r.A] (aH [(0,x.r.A),(1,F)] [0]) (fun b a=>ar vY x F (ax (kE a)) [(0,a.A),(1,F)])) ((∀(b:Nat),∃(a:sh),(a.neg=jl x.n/\a.e=mO x.n/\a.m=eU x.n/\Dp a.vs)/\(au x.r.a x.r.n x.r.cap=au x.r.a x.r.n x.r.cap/\a8 101=a8 101/\ad (-1)=ad (-1)/\ad 52=ad 52/\ad (-1023)=ad (-1023)/\aj q.neg=aj a.neg/\ad (q.e+(-1023:Int))=ad a.e/\aA ↑q.m=aA ↑a.m/\ag (bI b)=ag (some ⟨a.b,0,none⟩)/\True)/\aE [(0,x.r.A),(1,F),(5000,af b (List.replicate 31 (a8 0)++[a8 0]) 221)] [(0,x.r.A),(1,F),(2,af a.b a.vs a.t)])/\aT fun(o:sh)_=>(o.neg=jl x.n/\o.e=mO x.n/\o.m=eU x.n/\Dp o.vs)->Gr [aA ↑o.m] (fun m l=>bM ((64:Int)-(↑(Lib.bitLen m.u):Int))/\o8 (ba Tryz.f176 35 2) [aA ↑o.m,ad ((64:Int)-(↑(Lib.bitLen m.u):Int))] (fun k=>bM (o.e-((64:Int)-(↑(Lib.bitLen m.u):Int)))/\((-9223372036854775808:Int)<=o.e-((64:Int)-(↑(Lib.bitLen m.u):Int))-52/\o.e-((64:Int)-(↑(Lib.bitLen m.u):Int))-52<=(9223372036854775807:Int))/\aC 198 vd/\true=true/\∃(j:pZ),[aA (bf (k.fst*2^min k.snd.toNat u64.bits)),ad (o.e-((64:Int)-(↑(Lib.bitLen m.u):Int))-52)]=[aA ↑j.m,ad j.e]/\([]:List ah)=[]/\((9223372036854775808<=j.m/\j.m<18446744073709551616)/\((-1137:Int)<=j.e/\j.e<=960)/\∀(a:Nat),j.tb a<18446744073709551616)/\(∀(a:Nat),a<1392->aP (aH [(0,x.r.A),(1,F),(2,af o.b o.vs o.t)] []) ⟨15,a,none⟩ (aA (↑(j.tb a):Int)))/\∀(i:SG),qD j.tb j.m j.e=(i.d,i.p)->true=true/\LS (ba Tryz.f176 38 0) [ag (some ⟨o.b,0,none⟩)] (fun h=>aC 172 Hu/\true=true/\∃(g:Tb),[aA i.d]=[aA ↑g.u]/\([]:List ah)=[]/\(1<=g.u/\g.u<18446744073709551616)/\iT (aH [(0,x.r.A),(1,F),(2,af o.b o.vs o.t)] [])/\∀(f:Unit),True->aC 194 zG/\true=true/\∃(e:tX),[au (some h.a) 32 32,aA i.d,ad i.p,ad (↑(Lib.nDigits g.u):Int)]=[au (rU e) 32 32,aA ↑e.u,ad e.p,ad ↑e.n]/\[af o.b o.vs o.t]=[af e.b e.vs e.t]/\(Dp e.vs/\e.n<=20/\e.u<Nat.pow 10 e.n/\e.u<18446744073709551616/\(-100000:Int)<=e.p/\e.p<=100000)/\True/\∀(d:Unit),True->((-9223372036854775808:Int)<=(↑(jz e.u e.n e.n):Int)-1/\(↑(jz e.u e.n e.n):Int)-1<=(9223372036854775807:Int))/\LS (ba Tryz.f176 48 2) [ag (some ⟨o.b,0,none⟩)] (fun c=>LQ [au x.r.a x.r.n x.r.cap,aj o.neg,au (some c.a) 32 32,ad (e.n+e.p),ad (↑(jz e.u e.n e.n):Int),ad (if 0>(↑(jz e.u e.n e.n):Int)-1 then (0:Int) else (↑(jz e.u e.n e.n):Int)-1),a8 101,aj true] [x.r.A] (aH [(0,x.r.A),(1,F),(2,af e.b (bW (jG e.u e.n 32)) e.t)] [0]) (fun b a=>ar vY x F (ax (kE a)) [(0,a.A),(1,F),(2,af e.b (bW (jG e.u e.n 32)) e.t)])))))))))):=by
 delta tZ LO o8 Au kE Ja Rt LP mq LQ bI Gr LS rU aH bM ad a8 aA ai aj ag au af b7 gQ bf bU ax aT;obtain⟨tb,r,n⟩:=x;obtain⟨B,D,H⟩:=N;replace C:kN tb F:=C;dsimp only at B D H⊢;obtain⟨a1,a2,a3,a4,a5,K⟩:=D.V5;refine⟨⟨by decide,by decide⟩,xg rfl,((n:Int),11+52),rfl,(by decide:(0:Int)<=11+52),rfl,xg rfl,((n:Int),52),rfl,(by decide:(0:Int)<=52),m5 rfl,(1,11),rfl,(by decide:(0:Int)<=11),m5 rfl,(1,52),rfl,(by decide:(0:Int)<=52),⟨m5 rfl,(1,11),rfl,(by decide:(0:Int)<=11),?_⟩,?_⟩
 ·dsimp only;rw[ado,adr];refine aG (fun q=>?_) (fun _=>⟨⟨jl n,(lF n:Nat),nB n,0,[],0⟩,⟨rfl,rfl,rfl⟩,aV,az [0,1]⟩);exfalso;rw[show i64.wrap (i64.wrap (1*2^min (Int.toNat 11) i64.bits)-1)=2047 by decide]at q;have:=eq_of_beq q;omega
 rintro⟨neg,e,m,L,G,t0⟩ J ⟨g1,z,g3⟩;dsimp only at g1 z g3;subst g1 z g3;dsimp only;refine⟨aG (fun q=>⟨aK,⟨jl n,(lF n:Int)+1,nB n,0,[],0⟩,⟨rfl,?_,?_⟩,aV,az [0,1]⟩) (fun q=>⟨m5 rfl,(1,52),rfl,(by decide:(0:Int)<=52),⟨jl n,(lF n:Int),eU n,0,[],0⟩,⟨rfl,?_,rfl⟩,⟨rfl,rfl,rfl,rfl,rfl,rfl,rfl,?_,ao⟩,az [0,1]⟩),?_⟩
 ·dsimp only;have:=eq_of_beq q;unfold mO;rw[show(lF n==0)=true by rw[beq_iff_eq];omega,aU];omega
 ·dsimp only;have:=eq_of_beq q;unfold eU;rw[show(lF n==0)=true by rw[beq_iff_eq];omega,aU]
 ·dsimp only;have:=dU.1 q;unfold mO;rw[show(lF n==0)=false by rw[dU];omega,aM]
 ·dsimp only;rw[adt K];have:=dU.1 q;unfold eU;rw[show(lF n==0)=false by rw[dU];omega,aM]
 rintro⟨neg,e,m,L,G,t0⟩ J ⟨g1,z,g3⟩;dsimp only at g1 z g3;subst g1 g3;dsimp only;rw[z];refine⟨aK,aG (fun q=>?_) (fun _=>⟨fun b=>⟨⟨jl n,mO n,eU n,b,_,221⟩,⟨rfl,rfl,rfl,⟨rfl⟩⟩,aV,az [0,1,5000]⟩,?_⟩)⟩
 ·exact absurd (eq_of_beq q) ae
 clear z e;rintro⟨neg,e,m,b,vs,t⟩ J ⟨g1,z,g3,g4⟩;dsimp only at g1 z g3 g4;subst g1 z g3;dsimp only;obtain⟨R,S,b3,b4⟩:=Tr a2 ae;have b5:Lib.bitLen (eU n)<=53:=Lib.bitLen_le _ 53 ae ae;obtain⟨q1,q2,q3,q4⟩:=UA B.lt B.ge D;have M:u64.wrap ((eU n:Int)*2^min (64-(Lib.bitLen (eU n):Int)).toNat u64.bits)=((eU n*2^(64-Lib.bitLen (eU n)):Nat):Int):=by
  rw[show min (64-(Lib.bitLen (eU n):Int)).toNat u64.bits=64-Lib.bitLen (eU n) by
   show min (64-(Lib.bitLen (eU n):Int)).toNat 64=_;omega]
  have:((eU n:Int)*2^(64-Lib.bitLen (eU n)))=((eU n*2^(64-Lib.bitLen (eU n)):Nat):Int):=by
   rw[Int.natCast_mul,Int.natCast_pow];rfl
  rw[this];exact dz (i:=.u64) aK
 refine bO U4 ⟨eU n⟩ bg fun _ _=>⟨hC,m5 rfl,((eU n:Int),64-(Lib.bitLen (eU n):Int)),rfl,bg,hC,hC,ajB,rfl,⟨eU n*2^(64-Lib.bitLen (eU n)),mO n-(64-(Lib.bitLen (eU n):Int))-52,tb⟩,by dsimp only;rw[M],rfl,⟨⟨b3,b4⟩,hC,B.lt⟩,fun i hi=>by exact aP.sub (A:=F) (oP 1 (by decide) rfl) (C.Fu i hi),?_⟩;rintro⟨d,p⟩ (I:qe tb n=(d,p));rw[I]at q1 q2 q3 q4;dsimp only at q1 q2 q3 q4⊢;obtain⟨u,rfl⟩:∃u:Nat,d=u:=⟨d.toNat,ae⟩;have T:=Lib.nDigits_pos u;have P:=Hv 19 u ae;have Q:=Lib.lt_pow_nDigits u;have U:=W8 u (Lib.nDigits u) (Lib.nDigits u);refine⟨rfl,GC rfl rfl rfl rfl rfl,⟨⟨b,0,none⟩⟩,rfl,aq,agl,rfl,⟨u⟩,rfl,rfl,hC,C.tx.sub (oP 1 (by decide) rfl),fun _ _=>bO ajo ⟨t,vs,b,u,p,Lib.nDigits u⟩ ⟨g4,P,Q,bg,bg,bg⟩ fun _ _=>⟨hC,GC rfl rfl rfl rfl rfl,⟨⟨b,0,none⟩⟩,rfl,aq,ac4,rfl,⟨r,jl n,b,jG u (Lib.nDigits u) 32,Lib.nDigits u+p,jz u (Lib.nDigits u) (Lib.nDigits u)⟩,?_,rfl,⟨H,TV ae,bg,bg,bg⟩,?_,fun y E=>⟨y,?_,rfl,az [0,1]⟩⟩⟩
 ·dsimp only;have:(if 0>((jz u (Lib.nDigits u) (Lib.nDigits u):Nat):Int)-1 then (0:Int) else ((jz u (Lib.nDigits u) (Lib.nDigits u):Nat):Int)-1)=((jz u (Lib.nDigits u) (Lib.nDigits u)-1:Nat):Int):=by
   split <;> omega
  rw[this]
 ·exact c4.rest (j:=2) (by decide) (c4.cells fun i w O=>by rw[gT];exact O)
 ·show bz 5 1 (bW (sK tb n)) y;unfold sK;rw[I];exact E
theorem ads:aC 176 vY:=fo 298 Tryz.func176 (fun _ _=>[(9,1,aX),(18,1,dV (rl 5)),(20,1,dV (rl 5)),(21,1,dV (rl 5)),(31,6,bu yw),(13,4,.qo (tE .u64 .i64)),(14,2,.qo (tE .u64 .i64)),(14,3,aX),(14,5,.qo (mC .i64 .i64)),(14,6,aX),(14,7,aX),(15,2,.qo (mC .u64 .i64)),(15,3,aX),(15,4,aX),(16,2,.qo (mC .i64 .i64)),(16,3,aX),(24,2,.qo (mC .u64 .i64)),(24,3,aX),(33,0,.n 5000),(34,1,aW DN),(35,2,.qo (mC .u64 .i64)),(37,4,aW vd),(38,0,.qo (sx 32)),(38,4,aW Hu),(38,5,.c zG [2] [2]),(48,2,.qo (sx 32)),(48,7,bu yw)]) [] aY adm bA [] adu
end
section
open Go
structure vx where
 tb:Nat->Nat
 n:Nat
def sH:aQ where
 X:=vx
 args x:=[float f64 x.n,a8 101,ad (-1),ad 64]
 cond x:=np x.tb/\n5 x.n
 aO x F:=kN x.tb F
 val x _:=ax (ai (cL (sK x.tb x.n)))
def uO(c:Row):List Value:=[au c.a c.n c.cap]
theorem ac7(x:vx)(F:ah)(k:sH.cond x)(g:sH.aO x F):((-9223372036854775808:Int)<=(-1:Int)+(4:Int)/\(-1:Int)+(4:Int)<=(9223372036854775807:Int))/\T4 (ba Tryz.f162 4 3) [ad 0,ad (if (24:Int)>(-1:Int)+(4:Int) then (24:Int) else (-1:Int)+(4:Int))] (fun f e=>aC 176 vY/\true=true/\∃(d:xD),[au (bI e) f.n.toNat f.c.toNat,float f64 x.n,a8 101,ad (-1)]=[au d.r.a d.r.n d.r.cap,float f64 d.n,a8 101,ad (-1)]/\[af e (ik [a8 0] f.c.toNat) 5]=[d.r.A]/\(np d.tb/\n5 d.n/\bz 5 1 [] d.r)/\kN d.tb (aH [(0,F),(5000,af e (ik [a8 0] f.c.toNat) 5)] [5000])/\∀(c:Row),bz 5 1 (bW (sK d.tb d.n)) c->T8 (ba Tryz.f162 4 8) (uO c) (aH [(0,F),(5000,c.A)] []) (fun b a=>ar sH x F (ax (ai (cL b.l))) [(0,F),(5000,c.A)])):=by
 delta T4 bI T8 uO aH ad a8 ai au af ax;obtain⟨tb,n⟩:=x;obtain⟨h,i⟩:=k;replace g:kN tb F:=g;dsimp only at h i⊢;refine⟨⟨by decide,by decide⟩,DS (P:=Tryz.prog) [.int .u8 0] 1 rfl rfl rfl rfl rfl rfl aL rfl,rfl,⟨0,24⟩,rfl,rfl,⟨cD _,by decide,by decide,by decide⟩,ao,fun b _=>br ads ⟨tb,⟨some ⟨b,0,none⟩,0,24,.cells b (ik [.int .u8 0] 24) 5⟩,n⟩ ⟨h,i,.fO b 0 24 (ik [.int .u8 0] 24) rfl rfl (by decide)⟩ (by exact g.sub (oP 0 (by decide) rfl)) fun y j=>br (GI rfl rfl rfl rfl) ⟨y.a,y.n,y.cap,sK tb n⟩ j.src (RM 5000 (by decide) rfl j) fun _ _=>im⟩
theorem ac6:aC 162 sH:=fo 33 Tryz.func162 (fun _ _=>[(4,3,.o (uw 5 [.int .u8 0] 1) [] [5000]),(4,7,.c vY [5000] [5000]),(4,8,.o yd [] [])]) [] aY aY bA [] ac7
def BZ(x:vx):List Value:=[float f64 x.n,a8 101,ad (-1),ad 64]
theorem adb(x:vx)(F:ah)(c:sH.cond x)(d:sH.aO x F):aC 162 sH/\true=true/\∃(b:vx),(BZ x)=(BZ b)/\([]:List ah)=[]/\(np b.tb/\n5 b.n)/\kN b.tb (cP F)/\∀(a:Unit),True->ar sH x F (ax (ai (cL (sK b.tb b.n)))) [(0,F)]:=by
 delta BZ cP aH ad a8 ai ax;exact br ac6 ⟨x.tb,x.n⟩ c (by exact kN.sub d (oP 0 (by decide) rfl)) fun _ _=>im
theorem ada:aC 139 sH:=fo 14 Tryz.func139 (fun _ _=>[(1,4,aW sH)]) [] aY aY bA [] adb
end
section
open Go
structure Aj where
 l:List Value
def Bo:aQ where
 X:=Aj
 args x:=x.l
 cond _:=False
 bZ _ _:=False
 val _ _:=panicked []
def Bg:aQ where
 X:=qX
 args x:=[aA x.u,aA x.v]
 cond x:=x.u<18446744073709551616/\x.v<18446744073709551616
 val x _:=.returned (.tuple #[.int .u64 (x.u*x.v/18446744073709551616:Nat),.int .u64 (x.u*x.v%18446744073709551616:Nat)])
theorem af7(x:qX)(F:ah)(c:Bg.cond x)(d:Bg.aO x F):Df [aA ↑x.u,aA ↑x.v] (fun b a=>ar Bg x F (ax (tuple ⟨[aA (↑(b.u*b.v/18446744073709551616):Int),aA (↑(b.u*b.v%18446744073709551616):Int)]⟩)) [(0,F)]):=by
 delta Df aA ax;exact bO NW ⟨x.u,x.v⟩ c fun _ _=>im
theorem af6:aC 178 Bg:=fo 30 Tryz.func178 (fun _ _=>[(3,2,aW Bf)]) [] aY aY bA [] af7
def w4(c:UInt8):List UInt8:=[c,c,c,c,c,c,c,c,c,c,c,c,c,c,c,c,c,c,c,c,c,c,c,c,c,c,c,c,c,c,c,c,c,c,c,c,c,c,c,c,c,c,c,c,c,c,c,c,c,c,c,c,c,c,c,c,c,c,c,c,c,c,c,c]
def alU:ByteArray:=⟨#[48,48,48,48,48,48,48,48,48,48,48,48,48,48,48,48,48,48,48,48,48,48,48,48,48,48,48,48,48,48,48,48,48,48,48,48,48,48,48,48,48,48,48,48,48,48,48,48,48,48,48,48,48,48,48,48,48,48,48,48,48,48,48,48]⟩
def oK(n:Nat):ByteArray:=bif n==0 then ⟨#[]⟩ else bif n==1 then ⟨#[48]⟩ else alU.extract 0 n
theorem Fd(n:Nat)(h:n<=21):(oK n).size<=21:=by
 unfold oK;cases n==0 with
 |true=>exact df 21
 |false=>
  rw[aM];cases n==1 with
  |true=>show(ByteArray.mk #[48]).size<=21;decide
  |false=>
   rw[aM,gS];omega
structure CL where
 a:ByteArray
def A7(b:Bool):aQ where
 X:=CL
 args x:=[.string x.a,.string ⟨#[48]⟩]
 cond x:=jm x.a ⟨#[48]⟩=b
 val _ _:=ax (aj b)
theorem Nx(b:Bool):aC 50 (A7 b):=DJ.view (fun x=>⟨x.a,⟨#[48]⟩⟩) (fun _=>rfl) (fun _=>rfl) (fun _ _=>ao) (fun _ _ _ _=>ao) (fun x _ a _=>⟨(),ao,by show returned (.bool (jm x.a ⟨#[48]⟩))=_;rw[show jm x.a ⟨#[48]⟩=b from a];rfl,rfl⟩)
structure vG where
 n:Nat
def tz:aQ where
 X:=vG
 args x:=[.string ⟨#[48]⟩,.int .i64 x.n]
 cond x:=x.n<=21
 val x _:=ax (ai (oK x.n))
def Cb:=ax (ai ⟨#[48]⟩)
def rS:ByteArray:=ByteArray.mk #[48]
def Ey(h:qX):=decide ((↑(h.u*h.v%18446744073709551616):Int)<=128)
def LU(aa:List Value)(a:CL->Unit->Prop):=aC 50 (A7 false)/\true=true/\∃(z:CL),aa=[ai z.a,ai ⟨#[48]⟩]/\([]:List ah)=[]/\jm z.a rS=false/\True/\∀(b:Unit),True->a z b
def Es(h:qX):=decide ((↑(h.u*h.v%18446744073709551616):Int)<=64)
def SQ(aa:List Value)(a:CL->Unit->Prop):=aC 50 (A7 true)/\true=true/\∃(z:CL),aa=[ai z.a,ai ⟨#[48]⟩]/\([]:List ah)=[]/\jm z.a rS=true/\True/\∀(b:Unit),True->a z b
def JC:ByteArray:=ByteArray.mk (w4 48).toArray
def IN(h:qX)(x:vG)(F:ah):=SQ [ai JC,ai ⟨#[48]⟩] (fun b a=>((0:Int)<=(0:Int)/\0<=(↑(h.u*h.v%18446744073709551616):Int)/\(↑(h.u*h.v%18446744073709551616):Int)<=(↑JC.size:Int))/\ar tz x F (ax (ai (JC.extract (Int.toNat (0:Int)) (↑(h.u*h.v%18446744073709551616):Int).toNat))) [(0,F)])
def C8(a:FuncId)(aa:List Value)(b:Aj->Unit->Prop):=aC a Bo/\true=true/\∃(z:Aj),aa=z.l/\([]:List ah)=[]/\False/\True/\∀(c:Unit),False->b z c
def EE(x:vG)(F:ah):Aj->Unit->Prop:=fun b a=>ar tz x F (panicked []) [(0,F)]
def LV(b:Oper)(aa:List Value)(a:Aj->Unit->Prop):=e5 Tryz.prog b Bo/\true=true/\∃(z:Aj),aa=z.l/\([]:List ah)=[]/\False/\True/\∀(c:Unit),False->a z c
def q9(h:qX)(x:vG)(F:ah):=Br (Ey h) (C8 50 [ai (ByteArray.mk ((w4 61).append (w4 61)).toArray),ai ⟨#[48]⟩] (EE x F)) (Br (Es h) (C8 50 [ai (ByteArray.mk (w4 9).toArray),ai ⟨#[48]⟩] (EE x F)) (aS ((↑(h.u*h.v%18446744073709551616):Int)>8192) ((↑rS.size:Int)≠(0:Int)/\bM (Int.tdiv (8192:Int) (↑rS.size:Int))/\bM (Int.tdiv (8192:Int) (↑rS.size:Int)*(↑rS.size:Int))/\LV ⟨some 9,Op.alloc 95,0,"strings.go:657",⟨[]⟩,none⟩ [] (EE x F)) (LV ⟨some 9,Op.alloc 95,0,"strings.go:657",⟨[]⟩,none⟩ [] (EE x F))))
def PH(h:qX)(x:vG)(F:ah):=LU [ai (ByteArray.mk ((w4 45).append (w4 45)).toArray),ai ⟨#[48]⟩] (fun d c=>Br (Es h) (IN h x F) (q9 h x F))
theorem ajd(x:vG)(F:ah)(c:tz.cond x)(j:tz.aO x F):Br ((x.n:Int)==0) (ar tz x F (ax (ai ⟨#[]⟩)) [(0,F)]) (Br ((x.n:Int)==1) (ar tz x F Cb [(0,F)]) ((0<=(↑rS.size:Int)/\(↑rS.size:Int)<=18446744073709551615)/\(0<=(x.n:Int)/\(x.n:Int)<=18446744073709551615)/\aC 178 Bg/\true=true/\∃(h:qX),[aA (↑rS.size:Int),aA ↑x.n]=[aA ↑h.u,aA ↑h.v]/\([]:List ah)=[]/\(h.u<18446744073709551616/\h.v<18446744073709551616)/\True/\∀(g:Unit),True->aS ((↑(h.u*h.v/18446744073709551616):Int)>0) False (aS ((↑(h.u*h.v%18446744073709551616):Int)>9223372036854775807) False (bM (↑(h.u*h.v%18446744073709551616):Int)/\((0:Int)<=(0:Int)/\0<(↑rS.size:Int))/\Br (Ey h) (LU [ai (ByteArray.mk ((w4 32).append (w4 32)).toArray),ai ⟨#[48]⟩] (fun f e=>Br (Ey h) (PH h x F) (Br (Es h) (IN h x F) (q9 h x F)))) (Br (Ey h) (PH h x F) (Br (Es h) (IN h x F) (q9 h x F))))))):=by
 delta Cb rS Ey LU Es SQ JC IN C8 EE LV q9 PH bM aA ai aS ax;obtain⟨n⟩:=x;have hn:n<=21:=c;dsimp only;refine aG (fun q=>⟨(),ao,?_,az [0]⟩) (fun q=>aG (fun q2=>⟨(),ao,?_,az [0]⟩) (fun q2=>⟨⟨by decide,by decide⟩,aK,af6,rfl,⟨1,n⟩,rfl,rfl,⟨(by grind),bg⟩,ao,fun _ _=>?_⟩))
 ·have:n=0:=by have:=eq_of_beq q;omega
  subst this;rfl
 ·have:n=1:=by have:=eq_of_beq q2;omega
  subst this;rfl
 have d:n≠0:=by have:=dU.1 q;omega
 have i:n≠1:=by have:=dU.1 q2;omega
 dsimp only;have e1:1*n/18446744073709551616=0:=ae;have a:1*n%18446744073709551616=n:=ae;rw[e1,a];refine bo (fun q=>absurd q (by decide)) (fun _=>bo (fun q=>absurd q ae) (fun _=>⟨aK,⟨by decide,by decide⟩,bo (fun _=>⟨Nx false,rfl,⟨_⟩,rfl,rfl,by decide+kernel,ao,fun _ _=>bo (fun _=>⟨Nx false,rfl,⟨_⟩,rfl,rfl,by decide+kernel,ao,fun _ _=>bo (fun _=>⟨Nx true,rfl,⟨_⟩,rfl,rfl,by decide+kernel,ao,fun _ _=>⟨⟨by decide,ae,?_⟩,(),ao,?_,az [0]⟩⟩) (fun q=>absurd ae q)⟩) (fun q=>absurd ae q)⟩) (fun q=>absurd ae q)⟩))
 ·exact Int.le_trans (b:=64) ae (by decide)
 ·show _=returned (.string (oK n));unfold oK;rw[dU.2 d,dU.2 i];rfl
theorem Wz:aC 164 tz:=fo 125 Tryz.func164 (fun _ _=>[(8,2,.ck),(8,4,.ck),(8,5,aW Bg),(11,1,.ck),(20,4,aW (A7 false)),(22,4,aW (A7 false)),(24,4,aW (A7 true)),(26,4,aW Bo),(28,4,aW Bo),(35,0,.o Bo [] []),(25,1,.sl)]) [] aY aY bA [] ajd
def ut(ds:ByteArray):ByteArray:=ds.extract 0 1++(bif decide ((ds.size:Int)>1) then ⟨#[46]⟩++ds.extract 1 ds.size else ⟨#[]⟩)
def rH(ds:ByteArray)(n:Int):ByteArray:=bif decide (n-1<0) then ut ds++⟨#[101,45]⟩++⟨(Lib.itoa (1-n)).toArray⟩ else ut ds++⟨#[101,43]⟩++⟨(Lib.itoa (n-1)).toArray⟩
def jL(ds:ByteArray)(n:Int):ByteArray:=
 bif decide ((ds.size:Int)<=n)&&decide (n<=21) then ds++oK (n-ds.size).toNat
 else bif decide (0<n)&&decide (n<=21) then ds.extract 0 n.toNat++⟨#[46]⟩++ds.extract n.toNat ds.size
 else bif decide (-6<n)&&decide (n<=0) then ⟨#[48,46]⟩++oK (-n).toNat++ds
 else rH ds n
structure qW where
 ds:ByteArray
 n:Int
def v8:aQ where
 X:=qW
 args x:=[ai x.ds,ad x.n]
 cond x:=1<=x.ds.size/\x.ds.size<=1000/\ -1000<=x.n/\x.n<=1000
 aO _ F:=iT F
 val x _:=ax (ai (jL x.ds x.n))
variable{p q:Prop}
theorem MX[Decidable p][Decidable q]{A B:Prop}(d:p->q->A)(c:¬(p/\q)->B):Br (decide p) (Br (decide q) A B) B:=bo (fun a=>bo (fun b=>d a b) (fun b=>c (fun e=>b e.2))) (fun a=>c (fun e=>a e.1))
theorem MP[Decidable p][Decidable q](h:¬(p/\q)):(decide p&&decide q)=false:=by
 grind
theorem Hh{n:Int}(a: -2000<=n)(b:n<=2000):(ByteArray.mk (Lib.itoa n).toArray).size<=5:=by
 show(Lib.itoa n).toArray.size<=5;rw[List.size_toArray];have key:∀u:Nat,u<=2000->(Lib.decDigits u).length<=4:=fun u c=>by
  rw[Lib.decDigits_eq,List.length_map,List.length_range];exact Hv 3 u ae
 unfold Lib.itoa;grind
theorem Vh(ds:ByteArray):(ut ds).size<=2*ds.size+1:=by
 unfold ut;have e0:(ds.extract 0 1).size<=ds.size:=by rw[gS];omega
 cases decide ((ds.size:Int)>1)with
 |true=>
  rw[aU,ky,ky,@ByteArray.size_extract ds 1 ds.size];show _+(1+_)<=_;omega
 |false=>
  rw[aM,ky];show _+0<=_;omega
theorem afw{ds:ByteArray}{n:Int}(d:ds.size<=1000)(e: -1000<=n)(f:n<=1000):(jL ds n).size<=4000:=by
 have g:=Vh ds;unfold jL;by_cases a:(ds.size:Int)<=n/\n<=21
 ·rw[bv a.1,bv a.2];show(ds++oK (n-ds.size).toNat).size<=4000;have:=Fd (n-ds.size).toNat ae;grind
 ·rw[MP a,aM];by_cases b:0<n/\n<=21
  ·rw[bv b.1,bv b.2];show(ds.extract 0 n.toNat++⟨#[46]⟩++ds.extract n.toNat ds.size).size<=4000;rw[ky,ky,gS,gS];show _+1+_<=_;omega
  ·rw[MP b,aM];by_cases c: -6<n/\n<=0
   ·rw[bv c.1,bv c.2];show(⟨#[48,46]⟩++oK (-n).toNat++ds).size<=4000;have:=Fd (-n).toNat ae;rw[ky,ky];show 2+_+_<=_;omega
   ·rw[MP c,aM];unfold rH;cases decide (n-1<0)with
    |true=>
     rw[aU,ky,ky];have:=Hh (n:=1-n) ae ae;show _+2+_<=_;omega
    |false=>
     rw[aM,ky,ky];have:=Hh (n:=n-1) ae ae;show _+2+_<=_;omega
def afv(x:qW)(F:ah):Nat->Option Inv:=fun
 |8=>some {X:=Unit,P:=fun _=>jL x.ds x.n=rH x.ds x.n,mu:=fun _=>0,lv:=fun _=>[(0,ai x.ds),(1,ad x.n),(5,ad (x.ds.size:Nat))],st:=fun _=>[F]}
 |11=>some {X:=ByteArray,P:=fun d=>jL x.ds x.n=rH x.ds x.n/\d=ut x.ds,mu:=fun _=>0,lv:=fun d=>[(1,ad x.n),(6,ai d)],st:=fun _=>[F]}
 |_=>none
def LW(aa:List Value)(a:vG->Unit->Prop):=aC 164 tz/\true=true/\∃(z:vG),aa=[ai ⟨#[48]⟩,ad ↑z.n]/\([]:List ah)=[]/\z.n<=21/\True/\∀(b:Unit),True->a z b
def LX(e0:qW)(e1:ah)(a:St):=∃(z:Unit),jL e0.ds e0.n=rH e0.ds e0.n/\(ai e0.ds=ai e0.ds/\ad e0.n=ad e0.n/\ad ↑e0.ds.size=ad ↑e0.ds.size/\True)/\aE a [(0,e1)]
def Ow(x:qW)(F:ah):=aS ((-6:Int)<x.n) (aS (x.n<=0) (LW [ai ⟨#[48]⟩,ad (bU ((0:Int)-x.n))] (fun b a=>2+(oK b.n).size<=9223372036854775807/\((ByteArray.mk #[48,46])++oK b.n).size+x.ds.size<=9223372036854775807/\ar v8 x F (ax (ai ((ByteArray.mk #[48,46])++oK b.n++x.ds))) [(0,F)])) (LX x F [(0,F)])) (LX x F [(0,F)])
def OV(x:qW)(F:ah):=aS (0<x.n) (aS (x.n<=21) (true=true/\((0:Int)<=(0:Int)/\0<=x.n/\x.n<=x.ds.size)/\(x.ds.extract (Int.toNat (0:Int)) x.n.toNat).size+1<=9223372036854775807/\(0<=x.n/\x.n<=x.ds.size/\(x.ds.size:Int)<=(x.ds.size:Int))/\(x.ds.extract (Int.toNat (0:Int)) x.n.toNat++(ByteArray.mk #[46])).size+(x.ds.extract x.n.toNat (x.ds.size:Int).toNat).size<=9223372036854775807/\ar v8 x F (ax (ai (x.ds.extract (Int.toNat (0:Int)) x.n.toNat++(ByteArray.mk #[46])++x.ds.extract x.n.toNat (x.ds.size:Int).toNat))) [(0,F)]) (Ow x F)) (Ow x F)
def LY(e0:qW)(e1:ah)(v0:Value)(a:St):=∃(z:ByteArray),(jL e0.ds e0.n=rH e0.ds e0.n/\z=ut e0.ds)/\(ad e0.n=ad e0.n/\v0=ai z/\True)/\aE a [(0,e1)]
def QN(x:qW):=(-9223372036854775808:Int)<=x.n-1/\x.n-1<=(9223372036854775807:Int)
def L0(aa:List Value)(rr:ah)(a:l4->Unit->Prop):=aC 120 DL/\true=true/\∃(z:l4),aa=[ad z.i]/\([]:List ah)=[]/\((-9223372036854775808:Int)<=z.i/\z.i<=9223372036854775807)/\iT rr/\∀(b:Unit),True->a z b
def EN(b:l4):ByteArray:=ByteArray.mk (Lib.itoa b.i).toArray
theorem afy(x:qW)(F:ah)(o:v8.cond x)(e:v8.aO x F):aS (x.ds.size<=x.n) (aS (x.n<=21) (bM (x.n-x.ds.size)/\LW [ai ⟨#[48]⟩,ad (x.n-x.ds.size)] (fun b a=>x.ds.size+(oK b.n).size<=9223372036854775807/\ar v8 x F (ax (ai (x.ds++oK b.n))) [(0,F)])) (OV x F)) (OV x F)/\aT fun(f:Unit)_=>jL x.ds x.n=rH x.ds x.n->((0:Int)<=(0:Int)/\(0:Int)<=(1:Int)/\1<=(x.ds.size:Int))/\aS ((x.ds.size:Int)>1) (((0:Int)<=(1:Int)/\1<=(x.ds.size:Int)/\(x.ds.size:Int)<=(x.ds.size:Int))/\1+(x.ds.extract (Int.toNat (1:Int)) (x.ds.size:Int).toNat).size<=9223372036854775807/\(x.ds.extract (Int.toNat (0:Int)) (Int.toNat (1:Int))).size+((ByteArray.mk #[46])++x.ds.extract (Int.toNat (1:Int)) (x.ds.size:Int).toNat).size<=9223372036854775807/\LY x F (ai (x.ds.extract (Int.toNat (0:Int)) (Int.toNat (1:Int))++((ByteArray.mk #[46])++x.ds.extract (Int.toNat (1:Int)) (x.ds.size:Int).toNat))) [(0,F)]) (LY x F (ai (x.ds.extract (Int.toNat (0:Int)) (Int.toNat (1:Int)))) [(0,F)])/\aT fun(d:ByteArray)_=>(jL x.ds x.n=rH x.ds x.n/\d=ut x.ds)->QN x/\aS (x.n-1<(0:Int)) (d.size+2<=9223372036854775807/\bM ((1:Int)-x.n)/\L0 [ad ((1:Int)-x.n)] (cP F) (fun b a=>(d++(ByteArray.mk #[101,45])).size+(EN b).size<=9223372036854775807/\ar v8 x F (ax (ai (d++(ByteArray.mk #[101,45])++(EN b)))) [(0,F)])) (d.size+2<=9223372036854775807/\QN x/\L0 [ad (x.n-1)] (cP F) (fun b a=>(d++(ByteArray.mk #[101,43])).size+(EN b).size<=9223372036854775807/\ar v8 x F (ax (ai (d++(ByteArray.mk #[101,43])++(EN b)))) [(0,F)])):=by
 delta LW LX Ow OV LY QN L0 cP EN aH bM ad ai bU aS ax aT;obtain⟨ds,n⟩:=x;obtain⟨j,k,l,m⟩:=o;replace e:iT F:=e;dsimp only at j k l m⊢;have u:=Vh ds;have g:∀a b:Nat,(ds.extract a b).size<=1000:=fun a b=>by rw[gS];omega
 have h:((ds.size:Nat):Int).toNat=ds.size:=cw _;rw[h];refine⟨MX (fun a b=>⟨aK,Wz,rfl,⟨(n-ds.size).toNat⟩,?_,rfl,by grind,ao,fun _ _=>⟨?_,(),ao,?_,az [0]⟩⟩) (fun r=>MX (fun a b=>⟨rfl,⟨by decide,ae,ae⟩,?_,⟨ae,ae,ae⟩,?_,(),ao,?_,az [0]⟩) (fun s=>MX (fun a b=>⟨Wz,rfl,⟨(-n).toNat⟩,?_,rfl,by grind,ao,fun _ _=>⟨?_,?_,(),ao,?_,az [0]⟩⟩) (fun t=>⟨(),?_,aV,az [0]⟩))),?_⟩
 ·grind
 ·have:=Fd (n-ds.size).toNat ae;grind
 ·show _=returned (.string (jL ds n));unfold jL;simp[*]
 ·grind
 ·have q1:=g (Int.toNat 0) n.toNat;have q2:=g n.toNat ds.size;rw[ky];show _+1+_<=_;omega
 ·show _=returned (.string (jL ds n));unfold jL;grind
 ·rw[dz (i:=.i64) (n:=0-n) aK,show 0-n=(((-n).toNat:Nat):Int) by omega]
 ·have:=Fd (-n).toNat ae;grind
 ·have:=Fd (-n).toNat ae;dsimp only;rw[ky];show 2+_+_<=_;omega
 ·show _=returned (.string (jL ds n));unfold jL;grind
 ·show jL ds n=rH ds n;unfold jL;grind
 rintro _ p c;refine⟨⟨by decide,by decide,ae⟩,⟨bo (fun q=>⟨⟨by decide,ae,ae⟩,?_,?_,_,⟨c,?_⟩,aV,az [0]⟩) (fun q=>⟨_,⟨c,?_⟩,aV,az [0]⟩),?_⟩⟩
 ·grind
 ·have q1:=g (Int.toNat 0) (Int.toNat 1);have q2:=g (Int.toNat 1) ds.size;rw[ky];show _+(1+_)<=_;omega
 ·unfold ut;simp[*]
 ·unfold ut;rw[bF q,aM];exact(ByteArray.append_empty (b:=ds.extract 0 1)).symm
 rintro d p ⟨-,rfl⟩;refine⟨aK,bo (fun q=>⟨ae,aK,UX,rfl,⟨1-n⟩,rfl,rfl,⟨by grind,by grind⟩,by exact e.sub (oP 0 (by decide) rfl),fun _ _=>⟨?_,(),ao,?_,az [0]⟩⟩) (fun q=>⟨ae,aK,UX,rfl,⟨n-1⟩,rfl,rfl,⟨by grind,by grind⟩,by exact e.sub (oP 0 (by decide) rfl),fun _ _=>⟨?_,(),ao,?_,az [0]⟩⟩)⟩
 ·have:=Hh (n:=1-n) ae ae;rw[ky];show _+2+(ByteArray.mk (Lib.itoa (1-n)).toArray).size<=_;omega
 ·show _=returned (.string (jL ds n));rw[c];unfold rH;simp[*]
 ·have:=Hh (n:=n-1) ae ae;rw[ky];show _+2+(ByteArray.mk (Lib.itoa (n-1)).toArray).size<=_;omega
 ·show _=returned (.string (jL ds n));rw[c];unfold rH;simp[*]
theorem afx:aC 141 v8:=fo 75 Tryz.func141 (fun _ _=>[(3,4,aW tz),(7,2,aW tz),(7,1,aX),(12,4,aW DL),(13,4,aW DL)]) [] aY afv bA [] afy
end
section
open Go
theorem UO(c:UInt8)(b:List UInt8):∀a:List UInt8,c∉a->Lib.index (a++c::b) [c]=a.length
 | [],_=>by
  show Lib.index (c::b) [c]=0;unfold Lib.index;rw[if_pos (by simp[List.isPrefixOf])]
 |x::a,h=>by
  have d:c≠x:=fun e=>h (e▸kW);have f:=UO c b a (fun e=>h (pn _ e));show Lib.index (x::(a++c::b)) [c]=_;unfold Lib.index;rw[if_neg (by simp[List.isPrefixOf,d]),f];have:((a.length:Int)== -1)=false:=by rw[dU];omega
  rw[this];simp
theorem abV(c:UInt8)(a b:List UInt8)(h:c∉a):Lib.cut (a++c::b) [c]=(a,b,true):=by
 unfold Lib.cut;rw[UO c b a h,if_pos (Int.natCast_nonneg _),cw,List.take_left' rfl];simp[*]
theorem aiQ(c:UInt8)(l:List UInt8):(Lib.replace l [c] [] 1).length<=l.length/\(l≠[]->l≠[c]->1<=(Lib.replace l [c] [] 1).length):=by
 unfold Lib.replace;rw[if_neg aL];have hk:Lib.replaceNum l [c] 1=0\/Lib.replaceNum l [c] 1=1:=by
  unfold Lib.replaceNum;grind
 rcases hk with hk|hk
 ·rw[hk];show l.length<=l.length/\(l≠[]->l≠[c]->1<=l.length);exact⟨bT _,fun h _=>by cases l with|nil=>exact absurd rfl h|cons x l=>simp⟩
 ·rw[hk,Lib.replaceK];by_cases a:(Lib.index l [c]== -1)=true
  ·rw[if_pos a];exact⟨bT _,fun h _=>by cases l with|nil=>exact absurd rfl h|cons x l=>simp⟩
  ·rw[if_neg a];have g:=Lib.index_ge l [c];have b:Lib.index l [c]≠-1:=fun e=>a (by rw[e];rfl);have d:=Lib.index_room l [c] ae;have e1:[c].length=1:=rfl;rw[e1]at d⊢;show(l.take (Lib.index l [c]).toNat++[]++l.drop ((Lib.index l [c]).toNat+1)).length<=_/\_;rw[dv,eS,List.length_take,List.length_drop];refine⟨ae,fun h f=>?_⟩;cases l with
   |nil=>exact absurd rfl h
   |cons x l=>
    cases l with
    |nil=>
     exfalso;by_cases hx:x=c
     ·grind
     ·apply b;unfold Lib.index;rw[if_neg (by grind)];rfl
    |cons y l=>
     rw[Lib.replaceK];grind
def mh(neg:Bool)(ds:List Nat)(nd:Nat):List Nat:=ey neg++[ep ds nd]++ga ds nd
def mL(dp:Int)(nd:Nat):List Nat:=l_ (eb dp nd)::mb (eb dp nd).natAbs
def fX(l:List Nat):List UInt8:=l.map fun n=>UInt8.ofNat n
theorem ac2(neg:Bool)(ds:List Nat)(dp:Int)(nd:Nat):(cL (qb neg ds dp nd)).data.toList=fX (mh neg ds nd)++101::fX (mL dp nd):=by
 unfold cL fX qb mh mL;simp
def CI(ds:List Nat):Prop:=∀b∈ds,b=0\/(48<=b/\b<=57)
theorem acl(u n z:Nat):CI (jG u n z):=by
 unfold jG rz;intro b a;grind
variable{neg:Bool}{dp:Int}{ds:List Nat}{n nd:Nat}{tb:Nat->Nat}
theorem Up(h:CI ds)(nd:Nat):ep ds nd=0\/(48<=ep ds nd/\ep ds nd<=57):=by
 unfold ep;cases nd==0 with
 |true=>exact .inr ⟨(by simp[*]),(by decide:48<=57)⟩
 |false=>
  rw[aM];cases ds with
  |nil=>exact .inl rfl
  |cons x l=>exact h x kW
theorem af2(h:CI ds)(nd:Nat):∀b∈mh neg ds nd,b≠101/\b<256:=by
 unfold mh;intro b a;rcases List.mem_append.1 a with a|a
 ·rcases List.mem_append.1 a with a|a
  ·unfold ey at a;grind
  ·rw[List.mem_singleton]at a;have:=Up h nd;omega
 ·unfold ga at a;cases hd:decide (nd>1)with
  |false=>rw[hd]at a;cases a
  |true=>
   rw[hd,aU]at a;rcases List.mem_cons.1 a with a|a
   ·omega
   ·have:=h b (List.mem_of_mem_take (List.mem_of_mem_drop a));omega
theorem af1(h:CI ds)(nd:Nat):(101:UInt8)∉fX (mh neg ds nd):=by
 intro d;obtain⟨b,c,e⟩:=List.mem_map.1 d;have f:=af2 h nd b c;have a:=congrArg UInt8.toNat e;rw[UInt8.toNat_ofNat']at a;grind
theorem af4(hl:ds.length=32):1<=(fX (mh neg ds nd)).length/\(fX (mh neg ds nd)).length<=34:=by
 obtain⟨a,b⟩:=Ur neg ds nd hl;unfold fX mh;grind
theorem af3(h:CI ds):fX (mh neg ds nd)≠[46]:=by
 intro e;have a:=congrArg List.length e;unfold fX mh at a;rw[List.length_map,eS,eS,A3]at a;have d:([46]:List UInt8).length=1:=rfl;rw[d]at a;have e1:ey neg=[]:=List.eq_nil_of_length_eq_zero ae;have c:ga ds nd=[]:=List.eq_nil_of_length_eq_zero ae;unfold fX mh at e;rw[e1,c]at e;have e:[UInt8.ofNat (ep ds nd)]=[46]:=e;have b:=congrArg UInt8.toNat (List.cons.inj e).1;rw[UInt8.toNat_ofNat']at b;have:(46:UInt8).toNat=46:=rfl;rw[this]at b;have:=Up h nd;omega
theorem Uq(n:Nat):2<=(mb n).length/\(mb n).length<=3:=by
 unfold mb;cases decide (n<10)with
 |true=>exact⟨(by simp[*]),(by decide:2<=3)⟩
 |false=>
  rw[aM];cases decide (n<100)with
  |true=>exact⟨(by decide:2<=2),(by decide:2<=3)⟩
  |false=>exact⟨(by decide:2<=3),(by decide:3<=3)⟩
theorem ac0(a: -900<=dp)(b:dp<=900):(eb dp nd).natAbs<=999:=by
 unfold eb;grind
theorem abp(l:List UInt8)(i:Nat):aF ⟨⟨l⟩⟩ (i:Nat)=((l.getD i 0).toNat:Int):=by
 rfl
theorem acC(a: -900<=dp)(b:dp<=900):tS ⟨⟨fX (mL dp nd)⟩⟩:=by
 have c:=ac0 (nd:=nd) a b;obtain⟨x1,x2⟩:=Uq (eb dp nd).natAbs;have d:=ac3 c;have hs:(ByteArray.mk ⟨fX (mL dp nd)⟩).size=(mb (eb dp nd).natAbs).length+1:=by
  show(fX (mL dp nd)).length=_;unfold fX mL;simp[*]
 have hd:((ByteArray.mk ⟨fX (mL dp nd)⟩).extract 1 (ByteArray.mk ⟨fX (mL dp nd)⟩).size)=⟨⟨fX (mb (eb dp nd).natAbs)⟩⟩:=by
  apply ByteArray.ext;apply Array.ext';rw[DC];rfl
 refine⟨ae,ae,?_,fun i hi=>?_⟩
 ·have:aF ⟨⟨fX (mL dp nd)⟩⟩ 0=((UInt8.ofNat (l_ (eb dp nd))).toNat:Int):=rfl;rw[this];unfold l_;cases decide (eb dp nd<0)with
  |true=>right;decide
  |false=>left;decide
 ·rw[hd]at hi⊢;have hi:i<(fX (mb (eb dp nd).natAbs)).length:=hi;rw[abp];unfold fX at hi⊢;rw[List.length_map]at hi;rw[fg,fP,gy hi];have:=d _ (List.getElem_mem hi);show 48<=((UInt8.ofNat (mb (eb dp nd).natAbs)[i]).toNat:Int)/\((UInt8.ofNat (mb (eb dp nd).natAbs)[i]).toNat:Int)<=57;rw[UInt8.toNat_ofNat'];omega
theorem aaI(t:ByteArray)(h:∀i:Nat,i<t.size->48<=aF t i/\aF t i<=57):∀i,i<=t.size->0<=kR t i/\kR t i<10^i:=by
 intro i
 induction i with
 |zero=>intro _;exact⟨cD 0,by show(0:Int)<10^0;decide⟩
 |succ i c=>
  intro hi;obtain⟨a,b⟩:=c ae;have:=h i ae;rw[kR,Int.pow_succ];omega
theorem aaK{s:ByteArray}(h:tS s)(hs:s.size<=4): -999<=lz s/\lz s<=999:=by
 have hx:(s.extract 1 s.size).size=s.size-1:=by simp[*]
 have d:=h.lo;obtain⟨a,b⟩:=aaI _ h.gP (s.size-1) ae;have c:(10:Int)^(s.size-1)<=1000:=by
  have a:10^(s.size-1)<=10^3:=mN (by decide) ae;grind
 unfold lz;grind
def ov(tb:Nat->Nat)(n:Nat):ByteArray:=cL (sK tb n)
def akp:ByteArray:=⟨#[101]⟩
def KC(tb:Nat->Nat)(n:Nat):List UInt8×List UInt8×Bool:=ry (ov tb n) akp
def qL(tb:Nat->Nat)(n:Nat):ByteArray:=⟨(KC tb n).1.toArray⟩
def m8(tb:Nat->Nat)(n:Nat):ByteArray:=⟨(KC tb n).2.1.toArray⟩
def vj(tb:Nat->Nat)(n:Nat):ByteArray:=⟨(Fb ⟨qL tb n,⟨#[46]⟩,⟨#[]⟩,1⟩).toArray⟩
def Fx(tb:Nat->Nat)(n:Nat):ByteArray:=jL (vj tb n) (lz (m8 tb n)+1)
def oR(tb:Nat->Nat)(n:Nat):ByteArray:=bif cG .neq n n then ⟨#[78,97,78]⟩ else bif cG .eql n 0 then ⟨#[48]⟩ else bif po n then ⟨#[73,110,102,105,110,105,116,121]⟩ else Fx tb n
def m7(tb:Nat->Nat)(n:Nat):ByteArray:=bif cG .neq n n then ⟨#[78,97,78]⟩ else bif cG .eql n 0 then ⟨#[48]⟩ else bif cG .lss n 0 then ⟨#[45]⟩++oR tb (Op.negFloat .f64 n) else bif po n then ⟨#[73,110,102,105,110,105,116,121]⟩ else Fx tb n
structure aab(tb:Nat->Nat)(n:Nat):Prop where
 fs:(ov tb n).size<=100
 ms:(qL tb n).size<=100
 xo:tS (m8 tb n)
 xl: -999<=lz (m8 tb n)/\lz (m8 tb n)<=999
 dl:1<=(vj tb n).size
 dh:(vj tb n).size<=1000
theorem R_(m:np tb)(h:n5 n):aab tb n:=by
 obtain⟨q1,q2,q3,q4⟩:=UA m.lt m.ge h;obtain⟨u,q⟩:∃u:Nat,(qe tb n).1=u:=⟨(qe tb n).1.toNat,ae⟩;have s:=Lib.nDigits_pos u;have t:=Hv 19 u ae;have e0:sK tb n=qb (jl n) (jG u (Lib.nDigits u) 32) (Lib.nDigits u+(qe tb n).2) (jz u (Lib.nDigits u) (Lib.nDigits u)):=by
  unfold sK;simp[*]
 have a: -900<=((Lib.nDigits u:Nat):Int)+(qe tb n).2:=ae;have b:((Lib.nDigits u:Nat):Int)+(qe tb n).2<=900:=ae;have d:=acl u (Lib.nDigits u) 32;have c:(jG u (Lib.nDigits u) 32).length=32:=TV ae;generalize jG u (Lib.nDigits u) 32=ds at e0 d c;generalize ((Lib.nDigits u:Nat):Int)+(qe tb n).2=dp at e0 a b;generalize jz u (Lib.nDigits u) (Lib.nDigits u)=nd at e0;have e1:(ov tb n).data.toList=fX (mh (jl n) ds nd)++101::fX (mL dp nd):=by
  unfold ov;rw[e0];exact ac2 _ _ _ _
 have j:KC tb n=(fX (mh (jl n) ds nd),fX (mL dp nd),true):=by
  unfold KC ry;rw[e1];exact abV _ _ _ (af1 d nd)
 obtain⟨m1,r⟩:=af4 (neg:=jl n) (nd:=nd) c;obtain⟨x1,x2⟩:=Uq (eb dp nd).natAbs;have l:m8 tb n=⟨⟨fX (mL dp nd)⟩⟩:=by unfold m8;rw[j]
 have k:qL tb n=⟨⟨fX (mh (jl n) ds nd)⟩⟩:=by unfold qL;rw[j]
 have i:(m8 tb n).size<=4:=by
  rw[l];show(fX (mL dp nd)).length<=4;unfold fX mL;simp[*]
 have f:tS (m8 tb n):=by rw[l];exact acC a b
 have p:=aiQ 46 (fX (mh (jl n) ds nd));have o:(vj tb n).size=(Lib.replace (fX (mh (jl n) ds nd)) [46] [] 1).length:=by
  unfold vj Fb;rw[k];rfl
 refine⟨?_,?_,f,aaK f i,?_,?_⟩
 ·have g:(ov tb n).size=(ov tb n).data.toList.length:=by simp
  rw[g,e1,eS,sJ];have:(fX (mL dp nd)).length<=4:=by
   unfold fX mL;simp[*]
  omega
 ·rw[k];show(fX (mh (jl n) ds nd)).length<=100;omega
 ·rw[o];exact p.2 (fun e=>by rw[e]at m1;exact absurd m1 (by decide)) (af3 d)
 omega
theorem Xf(a:np tb)(h:n5 n):(Fx tb n).size<=4000:=by
 have:=R_ a h;exact afw this.dh (by have:=this.xl;omega) (by have:=this.xl;omega)
theorem HE(m:Nat)(i j:Int):((Ieee.Datum.number false m i).order (.number false 0 j)==some .lt)=false:=by
 unfold Ieee.Datum.order;dsimp only;generalize (i-min i j).toNat=a;generalize (j-min i j).toNat=b;have c:0<=Ieee.signed false m a:=by
  unfold Ieee.signed;grind
 have d:Ieee.signed false 0 b=0:=by unfold Ieee.signed;simp
 grind
theorem VF(h:cG .lss n 0=true):cG .lss (Op.negFloat .f64 n) 0=false:=by
 have e0:f64.format.read 0= .number false 0 Ieee.double.leastPlace:=by rfl
 have d:Op.negFloat .f64 n%9223372036854775808=n%9223372036854775808:=by
  show(n^^^2^63)%9223372036854775808=_;rw[show(9223372036854775808:Nat)=2^63 by decide,Nat.xor_mod_two_pow,Nat.mod_self,Nat.xor_zero]
 have hd:(Op.negFloat .f64 n/9223372036854775808)%2=1-n/9223372036854775808%2:=by
  show((n^^^2^63)/9223372036854775808)%2=_;rw[show(9223372036854775808:Nat)=2^63 by decide,<-Nat.shiftRight_eq_div_pow,Nat.shiftRight_xor_distrib,<-Nat.shiftRight_eq_div_pow,show 2^63>>>63=1 by omega];generalize n>>>63=m;have:=Nat.mod_two_eq_zero_or_one m;have f:(m^^^1)%2=(m%2)^^^1:=by
   have:=Nat.xor_mod_two_pow (a:=m) (b:=1) (n:=1);omega
  grind
 unfold cG Ieee.Format.order at h⊢;dsimp only at h⊢;rw[e0]at h⊢;have e:∀x,f64.format.read x=Ieee.double.read x:=fun _=>rfl;rw[e]at h⊢;unfold Ieee.Format.read at h⊢;dsimp only at h⊢;rw[zO]at h⊢;rw[d,hd];generalize n%9223372036854775808=r at h⊢;generalize hs:n/9223372036854775808%2=s at h⊢;have c:s=0\/s=1:=ae;rcases c with rfl|rfl
 ·exfalso;revert h;rw[show((0:Nat)==1)=false from rfl];split
  ·exact fun h=>by rw[HE]at h;cases h
  ·split
   ·exact fun h=>by rw[HE]at h;cases h
   ·split
    ·exact fun h=>by cases h
    ·exact fun h=>by cases h
 ·rw[show((1-1:Nat)==1)=false from rfl];split
  ·exact HE _ _ _
  ·split
   ·exact HE _ _ _
   ·split <;> rfl
end
section
open Go
variable{n:Nat}
theorem aiN(h:n%9223372036854775808=0):∃s,f64.format.read n= .number s 0 Ieee.double.leastPlace:=by
 refine⟨n/9223372036854775808%2==1,?_⟩;show Ieee.double.read n=_;unfold Ieee.Format.read;dsimp only;rw[zO,h];rfl
theorem aiK(h:n%9223372036854775808=9218868437227405312):∃s,f64.format.read n= .infinity s:=by
 refine⟨n/9223372036854775808%2==1,?_⟩;show Ieee.double.read n=_;unfold Ieee.Format.read;dsimp only;rw[zO,h];rfl
theorem aiL(h:9218868437227405312<n%9223372036854775808):∃s k,f64.format.read n= .nan s k:=by
 refine⟨n/9223372036854775808%2==1,n%9223372036854775808-9218868437227405312,?_⟩;show Ieee.double.read n=_;unfold Ieee.Format.read;dsimp only;rw[zO];have a:Ieee.double.binade=4503599627370496:=by decide+kernel
 have b:Ieee.double.infRung=9218868437227405312:=by decide+kernel
 rw[a,b,if_neg ae,if_neg ae,if_neg ae]
theorem G5(a:cG .neq n n=false)(b:cG .eql n 0=false)(c:cG .lss n 0=false)(d:po n=false):n5 n:=by
 have e0:f64.format.read 0= .number false 0 Ieee.double.leastPlace:=by decide+kernel
 refine⟨Nat.pos_of_ne_zero fun e=>?_,Nat.lt_of_not_le fun e=>?_⟩
 ·obtain⟨s,hs⟩:=aiN e;unfold cG Ieee.Format.order at b;dsimp only at b;rw[hs,e0]at b;cases s <;> exact absurd b (by decide+kernel)
 ·rcases Nat.lt_or_eq_of_le e with e|e
  ·obtain⟨s,k,hs⟩:=aiL e;unfold cG Ieee.Format.order at a;dsimp only at a;rw[hs]at a;cases a
  ·obtain⟨s,hs⟩:=aiK e.symm;cases s with
   |true=>
    unfold cG Ieee.Format.order at c;dsimp only at c;rw[hs,e0]at c;exact absurd c (by decide+kernel)
   |false=>
    unfold po cG Ieee.Format.order at d;dsimp only at d;rw[hs]at d;exact absurd d (by decide+kernel)
def Nm:aQ where
 X:=vx
 Y:=ByteArray
 args x:=[float f64 x.n,a8 101,ad (-1),ad 64]
 cond x:=np x.tb/\n5 x.n
 aO x F:=kN x.tb F
 bZ x y:=y=ov x.tb x.n
 val _ y:=ax (ai y)
theorem Us:aC 139 Nm:=ada.view (fun x=>x) (fun _=>rfl) (fun _=>rfl) (fun _ h=>h) (fun _ _ _ h=>h) (fun x _ _ _=>⟨_,rfl,rfl,rfl⟩)
structure KX where
 m:ByteArray
 x:ByteArray
 b:Bool
def M6:aQ where
 X:=FI
 Y:=KX
 args x:=[ai x.s,ai x.t]
 cond x:=x.s.size<4294967281
 aO _ F:=iT F
 bZ x y:=y=⟨⟨(ry x.s x.t).1.toArray⟩,⟨(ry x.s x.t).2.1.toArray⟩,(ry x.s x.t).2.2⟩
 val _ y:=.returned (.tuple #[.string y.m,.string y.x,.bool y.b])
theorem TJ:aC 138 M6:=abU.view (fun x=>x) (fun _=>rfl) (fun _=>rfl) (fun _ h=>h) (fun _ _ _ h=>h) (fun x _ _ _=>⟨_,rfl,rfl,rfl⟩)
def MQ:aQ where
 X:=bK
 Y:=Int
 args x:=[ai x.s]
 cond x:=tS x.s
 bZ x y:=y=lz x.s
 val _ y:=.returned (.tuple #[.int .i64 y,.nilIface])
theorem Th:aC 140 MQ:=aaE.view (fun x=>x) (fun _=>rfl) (fun _=>rfl) (fun _ h=>h) (fun _ _ _ h=>h) (fun x _ _ _=>⟨_,rfl,rfl,rfl⟩)
def RN:aQ where
 X:=C2
 Y:=ByteArray
 args x:=[ai x.s,ai x.t,ai x.u,ad x.n]
 cond x:=x.s.size<4294967281/\1<=x.t.size/\x.s.size+Lib.countB x.s x.t*x.u.size<=140737488355328
 aO _ F:=iT F
 bZ x y:=y=⟨(Fb x).toArray⟩
 val _ y:=ax (ai y)
theorem Wr:aC 142 RN:=ai8.view (fun x=>x) (fun _=>rfl) (fun _=>rfl) (fun _ h=>h) (fun _ _ _ h=>h) (fun x _ _ _=>⟨_,rfl,rfl,rfl⟩)
def NU:aQ where
 X:=qW
 Y:=ByteArray
 args x:=[ai x.ds,ad x.n]
 cond x:=1<=x.ds.size/\x.ds.size<=1000/\ -1000<=x.n/\x.n<=1000
 aO _ F:=iT F
 bZ x y:=y=jL x.ds x.n
 val _ y:=ax (ai y)
theorem Vf:aC 141 NU:=afx.view (fun x=>x) (fun _=>rfl) (fun _=>rfl) (fun _ h=>h) (fun _ _ _ h=>h) (fun x _ _ _=>⟨_,rfl,rfl,rfl⟩)
def NG:aQ where
 X:=CP
 Y:=Bool
 args x:=[float f64 x.f,ad 1]
 bZ x y:=y=po x.f
 val _ y:=ax (aj y)
theorem US:aC 137 NG:=aeA.view (fun x=>x) (fun _=>rfl) (fun _=>rfl) (fun _ h=>h) (fun _ _ _ h=>h) (fun x _ _ _=>⟨_,rfl,rfl,rfl⟩)
end
section
open Go
def yy(n:Nat):List Int:=(List.range n).map Int.ofNat
structure bR(fin:Int)(s:al)(os:List Int):Prop where
 yW:(s.nodes.flatMap (·.aJ)++os).Perm (yy s.nodes.length)
 Ti:os.Pairwise (·<·)
 aJ:∀(i:Nat)(x:cj),s.nodes[i]?=some x->x.aJ.Pairwise (·<·)/\∀k∈x.aJ,k<(i:Int)
 pos:∀x∈s.nodes,0<=x.pos/\x.pos<=fin
variable{b:Bool}{t:ByteArray}{x:cj}{k:Int}{tag:ap}{Q:Unit->al->Prop}
theorem UQ{n:Nat}(h:k∈yy n):0<=k/\k<n:=by
 obtain⟨i,hi,rfl⟩:=List.mem_map.1 h;grind
theorem bR.jy{fin:Int}{s:al}{os:List Int}(h:bR fin s os)(hk:k∈os):0<=k/\k<s.nodes.length:=
 UQ (h.yW.mem_iff.1 (List.mem_append_right _ hk))
theorem bR.same{fin:Int}{s t:al}{os:List Int}(h:bR fin s os)(e:t.nodes=s.nodes):bR fin t os:=
 ⟨by rw[e];exact h.yW,h.Ti,by rw[e];exact h.aJ,by rw[e];exact h.pos⟩
theorem bR.cast{fin:Int}{s:al}{os a:List Int}(h:bR fin s os)(e:os=a):bR fin s a:=e▸h
theorem bR.node{fin:Int}{s:al}{os:List Int}(h:bR fin s (os++x.aJ))(hp:0<=x.pos/\x.pos<=fin):bR fin {s with nodes:=s.nodes++[x]} (os++[(s.nodes.length:Int)]):=by
 obtain⟨a1,a2,a3⟩:=List.pairwise_append.1 h.Ti;refine⟨?_,?_,fun i y c=>?_,fun y c=>?_⟩
 ·show((s.nodes++[x]).flatMap (·.aJ)++(os++[(s.nodes.length:Int)])).Perm (yy (s.nodes++[x]).length);rw[eS,A3];unfold yy;rw[List.range_succ,List.map_append,List.flatMap_append,<-jj];refine List.Perm.append ?_ (List.Perm.refl _);refine List.Perm.trans ?_ h.yW;grind
 ·refine List.pairwise_append.2 ⟨a1,aL,fun a g b d=>?_⟩;rw[List.mem_singleton]at d;rw[d];exact(h.jy (qd _ g)).2
 ·dsimp only at c;rcases Nat.lt_or_ge i s.nodes.length with hi|hi
  ·rw[lD hi]at c;exact h.aJ i y c
  ·rw[j6 hi]at c;obtain⟨hl,e⟩:=kw.1 c;simp only[A3]at hl;have f:i=s.nodes.length:=ae;subst f;simp at e;subst e;exact⟨a2,fun k hk=>(h.jy (List.mem_append_right _ hk)).2⟩
 ·rcases List.mem_append.1 c with c|c
  ·exact h.pos y c
  grind
theorem bR.rL{fin:Int}{s:al}{os:List Int}(h:bR fin s os)(hk:k∈os):0<=du s k/\du s k<=fin:=by
 obtain⟨a,b⟩:=h.jy hk;unfold du;obtain⟨x,hx⟩:∃x,s.nodes[k.toNat]?=some x:=⟨_,gy ae⟩;rw[hx];exact h.pos x (ou hx)
def WP{α:Type}(fin:Int)(m:PM α)(s:al)(Q:α->al->Prop):Prop:=
 match m s with
 | .ok a t=>Q a t
 | .stop p _ _=>0<=p/\p<=fin
 | .out=>True
section
variable{α β:Type}{fin:Int}{s:al}
theorem WP.bind{m:PM α}{f:α->PM β}{Q:β->al->Prop}(h:WP fin m s fun a t=>WP fin (f a) t Q):WP fin (m>>=f) s Q:=by
 show WP fin (b0 m f) s Q;unfold WP b0 at*;grind
theorem WP.ret{a:α}{Q:α->al->Prop}(h:Q a s):WP fin (ret a) s Q:=h
theorem WP.mono{m:PM α}{Q R:α->al->Prop}(h:WP fin m s Q)(k:∀a t,Q a t->R a t):WP fin m s R:=by
 unfold WP at*;grind
theorem WP.bif{m n:PM α}{Q:α->al->Prop}(a:b=true->WP fin m s Q)(c:b=false->WP fin n s Q):WP fin (bif b then m else n) s Q:=by
 grind
theorem WP.step(h:Q () {s with i:=s.i+1}):WP fin eE s Q:=h
theorem WP.get{Q:al->al->Prop}(h:Q s s):WP fin ez s Q:=h
theorem WP.set{t:al}(h:Q () t):WP fin (ic t) s Q:=h
theorem WP.node{Q:Int->al->Prop}(h:Q s.nodes.length {s with nodes:=s.nodes++[x]}):WP fin (db x) s Q:=h
theorem WP.dN{Q:Int->al->Prop}(h:Q (du s k) s):WP fin (dN k) s Q:=h
variable{L:List bh}
structure fY(L:List bh)(fin:Int):Prop where
 f0:0<=fin
 all:∀x∈L,0<=x.pos/\x.pos<=fin
theorem jJ(h:fY L fin)(s:al):0<=(aB L fin s).pos/\(aB L fin s).pos<=fin:=by
 unfold aB;cases hx:L[s.i]? with
 |none=>exact⟨h.f0,cD _⟩
 |some x=>exact h.all x (ou hx)
theorem WP.ce{Q:bh->al->Prop}(h:Q (aB L fin s) s):WP fin (e9 L fin) s Q:=h
theorem WP.dI(h:fY L fin){Q:α->al->Prop}:WP fin (iU L fin) s Q:=jJ h s
theorem WP.b9{Q:Bool->al->Prop}(a:bc L s 0 t=true->Q true {s with i:=s.i+1})(b:bc L s 0 t=false->Q false s):WP fin (cH L t) s Q:=by
 unfold WP cH;grind
theorem WP.bV(h:fY L fin)(a:Q () {s with i:=s.i+1}):WP fin (cr L fin t) s Q:=by
 unfold WP cr;cases bc L s 0 t with
 |true=>exact a
 |false=>exact jJ h s
theorem WP.mf{a:Nat}{Q:Bool->al->Prop}(h:Q (bc L s a t) s):WP fin (iK L a t) s Q:=h
theorem WP.j9(hp:0<=du s k/\du s k<=fin)(h:Q () s):WP fin (ka k b) s Q:=by
 unfold WP ka;grind
theorem WP.word(h:fY L fin){Q:ByteArray->al->Prop}(a:Q (aB L fin s).text {s with i:=s.i+1}):WP fin (gD L fin) s Q:=by
 unfold WP gD;cases (aB L fin s).kind !=1 with
 |true=>exact jJ h s
 |false=>exact a
theorem Dm(h:fY L fin)(a:∀t:al,t.nodes=s.nodes->Q () t):WP fin (dP L fin) s Q:=by
 unfold WP dP;cases bc L s 0 dm with
 |true=>exact a _ rfl
 |false=>
  rw[aM];cases bc L s 0 rc||(decide (s.i>=L.length)||(aB L fin s).aD)with
  |true=>exact a _ rfl
  |false=>exact jJ h s
end
def ap.d6:ap->List Int
 | .fM _ left=>[left]
 | .dO k=>[k]
 | .dS l| .cR l| .cU l| .dt l| .fC l _| .dQ l| .d8 l _| .ek l| .prog l=>l
 |_=>[]
def ap.yH:ap->Bool
 | .dS _| .cR _| .cU _| .dt _| .fC _ _| .dQ _| .d8 _ _| .ek _=>true
 |_=>false
section
variable{fin:Int}{L:List bh}{s:al}{os:List Int}
def dY(fin:Int)(os:List Int)(tag:ap)(ks:List Int)(t:al):Prop:=bR fin t (os++ks)/\(tag.yH=false->∃k,ks=[k])
theorem WP.cZ(h:bR fin s (os++x.aJ))(hp:0<=x.pos/\x.pos<=fin):WP fin (cg x) s (dY fin os tag):=by
 show dY fin os tag [(s.nodes.length:Int)] {s with nodes:=s.nodes++[x]};exact⟨h.node hp,fun _=>⟨_,rfl⟩⟩
theorem WP.one{m:PM (List Int)}(b:tag.yH=false)(h:WP fin m s (dY fin os tag)){Q:Int->al->Prop}(k:∀k t,bR fin t (os++[k])->Q k t):WP fin (one m) s Q:=by
 show WP fin (m>>=fun l=>Go.Proofs.YtdkchodgklpomaaGreatDoor.ret (l.headD 0)) s Q;refine WP.bind (h.mono fun ks t a=>?_);obtain⟨j,rfl⟩:=a.2 b;exact k j t a.1
theorem WP.empty(h:fY L fin)(a:bR fin s os){Q:Int->al->Prop}(k:∀k t,bR fin t (os++[k])->Q k t):WP fin (iJ L fin) s Q:=by
 show WP fin (e9 L fin>>=fun x=>db ⟨36,.empty,0,[],x.pos⟩) s Q;refine WP.bind (WP.ce (WP.node (k _ _ ?_)));exact bR.node (a.cast (dv _).symm) (jJ h s)
theorem WP.key(h:fY L fin){aI:Nat->ByteArray}{wide:ByteArray->ByteArray}(a:bR fin s os){Q:Int->al->Prop}(k:∀k t,bR fin t (os++[k])->Q k t):WP fin (dW L fin aI wide) s Q:=by
 have hp:=jJ h s;have d1:∀op:ByteArray,Q s.nodes.length {s with i:=s.i+1,nodes:=s.nodes++[⟨2,op,0,[],(aB L fin s).pos⟩]}:=fun op=>by
  refine k _ _ ?_;exact bR.node (s:={s with i:=s.i+1}) ((a.same (t:={s with i:=s.i+1}) rfl).cast (dv _).symm) hp
 unfold WP dW;dsimp only;cases (aB L fin s).kind==1||(aB L fin s).kind==2 with
 |true=>exact d1 _
 |false=>
  rw[aM];cases (aB L fin s).kind==3 with
  |true=>exact d1 _
  |false=>
   rw[aM];cases (aB L fin s).kind==4 with
   |true=>exact d1 _
   |false=>exact hp
end
end
section
open Go
section
variable{fin:Int}{L:List bh}{aI:Nat->ByteArray}{wide:ByteArray->ByteArray}
def ap.cB(fin:Int):ap->Prop
 | .di p| .dy p| .choose p=>0<=p/\p<=fin
 | .simple x=>0<=x.pos/\x.pos<=fin
 |_=>True
def fH(L:List bh)(fin:Int)(aI:Nat->ByteArray)(wide:ByteArray->ByteArray)(f:Nat):Prop:=
 ∀(tag:ap)(s:al)(os:List Int),tag.cB fin->bR fin s (os++tag.d6)->WP fin (P L fin aI wide f tag) s (dY fin os tag)
variable{os:List Int}{f:Nat}{s s0:al}{tag:ap}
theorem fH.one(c:fH L fin aI wide f)(tag:ap)(b:tag.yH=false)(a:bR fin s0 (os++tag.d6)){Q:Int->al->Prop}(k:∀k t,bR fin t (os++[k])->Q k t)(e:s.nodes=s0.nodes:=by rfl)(hp:tag.cB fin:=by trivial):WP fin (Go.Proofs.YtdkchodgklpomaaGreatDoor.one (P L fin aI wide f tag)) s Q:=
 WP.one b (c tag s os hp (a.same e)) k
theorem fH.run(b:fH L fin aI wide f)(tag:ap)(a:bR fin s0 (os++tag.d6)){Q:List Int->al->Prop}(k:∀ks t,dY fin os tag ks t->Q ks t)(e:s.nodes=s0.nodes:=by rfl)(hp:tag.cB fin:=by trivial):WP fin (P L fin aI wide f tag) s Q:=
 (b tag s os hp (a.same e)).mono k
theorem cT(h:bR fin s os):bR fin s (os++[]):=h.cast (dv _).symm
theorem bR.mv{t:al}{a:List Int}(h:bR fin s os)(e:os=a)(b:t.nodes=s.nodes:=by rfl):bR fin t a:=(h.same b).cast e
theorem fH.dH(d:fH L fin aI wide f)(tag:ap){a:ap}(c:tag.yH=a.yH)(b:bR fin s0 (os++tag.d6))(e:s.nodes=s0.nodes:=by rfl)(hp:tag.cB fin:=by trivial):WP fin (P L fin aI wide f tag) s (dY fin os a):=
 (d tag s os hp (b.same e)).mono fun ks t h=>⟨h.1,fun g=>h.2 (c.trans g)⟩
theorem zE{k:Int}(h:bR fin s0 (os++[k]))(e:s.nodes=s0.nodes:=by rfl):dY fin os tag [k] s:=⟨h.same e,fun _=>⟨k,rfl⟩⟩
theorem wY{ks:List Int}(a:tag.yH=true)(h:bR fin s0 (os++ks))(e:s.nodes=s0.nodes:=by rfl):dY fin os tag ks s:=⟨h.same e,fun g=>by rw[a]at g;cases g⟩
theorem jp{a:List Int}{x:cj}(h:bR fin s0 a)(b:a=os++x.aJ)(hp:0<=x.pos/\x.pos<=fin)(e:s.nodes=s0.nodes:=by rfl):WP fin (cg x) s (dY fin os tag):=WP.cZ (h.mv b e) hp
theorem YX(c:fY L fin)(a:fH L fin aI wide f)(b:bR fin s os):WP fin (P L fin aI wide (f+1) .aZ) s (dY fin os .aZ):=by
 rw[P];refine WP.bind (a.one .cond rfl (cT b) fun k t h=>WP.bind (WP.ce (WP.bif (fun _=>⟨h,fun _=>⟨_,rfl⟩⟩) (fun _=>?_))));refine WP.bind (WP.j9 (h.rL aL) (WP.bind (WP.step (WP.bind (a.one .aZ rfl (cT h) fun r u g=>WP.bind (WP.dN ?_))))));exact WP.cZ (g.cast aL) (g.rL aL)
theorem YW(j:fY L fin)(d:fH L fin aI wide f)(i:bR fin s os):WP fin (P L fin aI wide (f+1) .cond) s (dY fin os .cond):=by
 rw[P];refine WP.bind (d.one (.level 0) rfl (cT i) fun c t h=>WP.bind (WP.b9 (fun _=>WP.bif (fun e=>nomatch e) (fun _=>?_)) (fun _=>WP.bif (fun _=>⟨h,fun _=>⟨_,rfl⟩⟩) (fun e=>nomatch e))));refine WP.bind (d.one .aZ rfl (cT h) fun a u g=>WP.bind (WP.bV j (WP.bind (d.one .aZ rfl (cT g) fun b v k=>WP.bind (WP.dN ?_)))));exact WP.cZ (k.cast aL) (k.rL aL)
theorem Y0(c:fY L fin)(a:fH L fin aI wide f)(n:Nat)(b:bR fin s os):WP fin (P L fin aI wide (f+1) (.level n)) s (dY fin os (.level n)):=by
 rw[P];refine WP.bif (fun _=>a.run .unary (cT b) fun ks t h=>h) (fun _=>WP.bind (a.one (.level (n+1)) rfl (cT b) fun k t h=>a.run (.fM n k) h fun ks u g=>g))
theorem Y1(c:fY L fin)(b:fH L fin aI wide f)(n:Nat)(left:Int)(a:bR fin s (os++[left])):WP fin (P L fin aI wide (f+1) (.fM n left)) s (dY fin os (.fM n left)):=by
 rw[P];refine WP.bind (WP.ce (WP.bif (fun _=>⟨a,fun _=>⟨_,rfl⟩⟩) (fun _=>WP.bind (WP.step (WP.bind (b.one (.level (n+1)) rfl (cT a) fun r t h=>WP.bind (WP.dN (WP.bind (WP.node ?_)))))))));refine b.run (.fM n _) (bR.node ?_ ?_) fun ks u g=>g
 ·grind
 ·exact h.rL aL
theorem ahR(h:bR fin s os)(k:Int):0<=du s k/\du s k<=max fin 0:=by
 unfold du;cases hx:s.nodes[k.toNat]? with
 |none=>exact⟨cD 0,Int.le_max_right _ _⟩
 |some x=>
  have:=h.pos x (ou hx);grind
theorem Zf(c:fY L fin)(b:fH L fin aI wide f)(a:bR fin s os):WP fin (P L fin aI wide (f+1) .unary) s (dY fin os .unary):=by
 rw[P];refine WP.bind (WP.ce (WP.bif (fun _=>b.dH .dD rfl (cT a)) (fun _=>WP.bif (fun _=>?_) (fun _=>WP.bif (fun _=>?_) (fun _=>b.dH .dD rfl (cT a))))))
 ·exact WP.bind (WP.step (WP.bind (b.one .unary rfl (cT a) fun k t h=>WP.bind (WP.bif (fun _=>WP.j9 (h.rL aL) (jp h rfl (jJ c _))) (fun _=>WP.ret (jp h rfl (jJ c _)))))))
 ·exact WP.bind (WP.step (WP.bind (b.one .unary rfl (cT a) fun k t h=>WP.bind (WP.j9 (h.rL aL) (jp h rfl (jJ c _))))))
theorem YQ(b:fH L fin aI wide f)(a:bR fin s os):WP fin (P L fin aI wide (f+1) .dD) s (dY fin os .dD):=by
 rw[P];exact WP.bind (b.one .suffix rfl (cT a) fun k t h=>WP.bind (WP.ce (WP.bif (fun _=>WP.ret (zE h)) (fun _=>WP.bind (WP.j9 (h.rL aL) (WP.bind (WP.step (WP.bind (WP.dN (jp h rfl (h.rL aL)))))))))))
theorem Zc(a:fH L fin aI wide f)(b:bR fin s os):WP fin (P L fin aI wide (f+1) .suffix) s (dY fin os .suffix):=by
 rw[P];exact WP.bind (a.one .dk rfl (cT b) fun k t h=>a.dH (.dO k) rfl h)
theorem Y8(c:fY L fin)(b:fH L fin aI wide f)(k:Int)(a:bR fin s (os++[k])):WP fin (P L fin aI wide (f+1) (.dO k)) s (dY fin os (.dO k)):=by
 rw[P];have hp:=a.rL (k:=k) aL;refine WP.bind (WP.b9 (fun _=>WP.bif (fun _=>?_) (fun e=>nomatch e)) (fun _=>WP.bif (fun e=>nomatch e) (fun _=>WP.bind (WP.b9 (fun _=>WP.bif (fun _=>?_) (fun e=>nomatch e)) (fun _=>WP.bif (fun e=>nomatch e) (fun _=>WP.bind (WP.b9 (fun _=>WP.bif (fun _=>?_) (fun e=>nomatch e)) (fun _=>WP.bif (fun e=>nomatch e) (fun _=>WP.ret (zE a))))))))))
 ·have d1:∀{t:al}{x:cj},t.nodes=s.nodes->x.aJ=[k]->x.pos=du s k->WP fin (db x>>=fun m=>P L fin aI wide f (.dO m)) t (dY fin os (.dO k)):=fun{t x}e1 d g=>WP.bind (WP.node (b.dH (.dO _) rfl (bR.node (a.mv (by rw[d]) e1) ae)));exact WP.bind (WP.ce (WP.bind (WP.bif (fun _=>WP.dI c) (fun _=>WP.ret (WP.bind (WP.step (WP.bind (WP.dN (d1 rfl rfl rfl)))))))))
 ·refine WP.bind (b.one .aZ rfl (cT a) fun e t h=>WP.bind (WP.bV c (WP.bind (WP.dN (WP.bind (WP.node (b.dH (.dO _) rfl (bR.node ?_ ?_))))))))
  ·exact h.mv aL
  ·exact h.rL (k:=k) aL
 ·refine WP.bind (b.run (.dS [k]) a fun ks t h=>WP.bind (WP.dN (WP.bind (WP.node (b.dH (.dO _) rfl (bR.node ?_ ?_))))))
  ·exact h.1
  ·have:=ahR h.1 k;grind
theorem YT(c:fY L fin)(b:fH L fin aI wide f)(aJ:List Int)(a:bR fin s (os++aJ)):WP fin (P L fin aI wide (f+1) (.dS aJ)) s (dY fin os (.dS aJ)):=by
 rw[P];refine WP.bind (WP.b9 (fun _=>WP.bif (fun _=>WP.ret (wY rfl a)) (fun e=>nomatch e)) (fun _=>WP.bif (fun e=>nomatch e) (fun _=>?_)));have d1:∀{t:al},t.nodes=s.nodes->WP fin (one (P L fin aI wide f .aZ)>>=fun e=>P L fin aI wide f (.dS (aJ++[e]))) t (dY fin os (.dS aJ)):=fun{t}e1=>WP.bind (b.one .aZ rfl (cT a) (fun k u h=>b.dH (.dS (aJ++[k])) rfl (h.mv (by simp[ap.d6]))) e1);exact WP.bind (WP.bif (fun _=>WP.bV c (d1 rfl)) (fun _=>WP.ret (d1 rfl)))
theorem YP(c:fY L fin)(a:fH L fin aI wide f)(aJ:List Int)(b:bR fin s (os++aJ)):WP fin (P L fin aI wide (f+1) (.cR aJ)) s (dY fin os (.cR aJ)):=by
 rw[P];refine WP.bind (WP.b9 (fun _=>WP.bif (fun _=>WP.ret (wY rfl b)) (fun e=>nomatch e)) (fun _=>WP.bif (fun e=>nomatch e) (fun _=>WP.bind (a.one .aZ rfl (cT b) fun k t h=>WP.bind (WP.mf (WP.bind (WP.bif (fun _=>WP.bV c (a.dH (.cR (aJ++[k])) rfl (h.cast ?_))) (fun _=>WP.ret (a.dH (.cR (aJ++[k])) rfl (h.cast ?_))))))))))
 ·simp[ap.d6]
 ·simp[ap.d6]
theorem YS(b:fH L fin aI wide f)(aJ:List Int)(body:Bool)(a:bR fin s (os++aJ)):WP fin (P L fin aI wide (f+1) (.fC aJ body)) s (dY fin os (.fC aJ body)):=by
 rw[P];refine WP.bind (WP.b9 (fun _=>WP.bif (fun _=>WP.ret (wY rfl a)) (fun e=>nomatch e)) (fun _=>WP.bif (fun e=>nomatch e) (fun _=>WP.bind (b.one (.ci body) rfl (cT a) fun k t h=>b.dH (.fC (aJ++[k]) body) rfl (h.cast ?_)))));simp[ap.d6]
theorem Y5(a:fY L fin)(b:fH L fin aI wide f)(aJ:List Int)(c:bR fin s (os++aJ)):WP fin (P L fin aI wide (f+1) (.cU aJ)) s (dY fin os (.cU aJ)):=by
 rw[P];refine WP.bind (WP.b9 (fun _=>WP.bif (fun _=>WP.ret (wY rfl c)) (fun e=>nomatch e)) (fun _=>WP.bif (fun e=>nomatch e) (fun _=>WP.bind (WP.key a c fun k t h=>WP.bind (WP.bV a (WP.bind (b.one .aZ rfl (cT h) fun e u g=>WP.bind (WP.mf (WP.bind (WP.bif (fun _=>WP.bV a (b.dH (.cU (aJ++[k]++[e])) rfl (g.cast ?_))) (fun _=>WP.ret (b.dH (.cU (aJ++[k]++[e])) rfl (g.cast ?_)))))))))))))
 ·simp[ap.d6]
 ·simp[ap.d6]
theorem Y9(b:fY L fin)(c:fH L fin aI wide f)(a:bR fin s os):WP fin (P L fin aI wide (f+1) .dk) s (dY fin os .dk):=by
 rw[P];have d:∀{t:al}{x:cj},t.nodes=s.nodes->x.aJ=[]->x.pos=(aB L fin s).pos->WP fin (cg x) t (dY fin os .dk):=fun{t x}e1 i g=>jp a (by simp[*]) (by rw[g];exact jJ b s) e1;refine WP.bind (WP.ce (WP.bif (fun _=>WP.bind (WP.step (d rfl rfl rfl))) (fun _=>WP.bif (fun _=>WP.bind (WP.step (d rfl rfl rfl))) (fun _=>WP.bif (fun _=>WP.bind (WP.step (d rfl rfl rfl))) (fun _=>WP.bind (WP.get (WP.bif (fun _=>WP.bind (WP.step (d rfl rfl rfl))) (fun _=>WP.bif (fun _=>c.dH (.func 7) rfl (cT a)) (fun _=>?_)))))))));refine WP.bind (WP.b9 (fun _=>WP.bif (fun _=>?_) (fun e=>nomatch e)) (fun _=>WP.bif (fun e=>nomatch e) (fun _=>WP.bind (WP.b9 (fun _=>WP.bif (fun _=>?_) (fun e=>nomatch e)) (fun _=>WP.bif (fun e=>nomatch e) (fun _=>WP.bind (WP.b9 (fun _=>WP.bif (fun _=>?_) (fun e=>nomatch e)) (fun _=>WP.bif (fun e=>nomatch e) (fun _=>WP.dI b)))))))))
 ·exact WP.bind (c.one .aZ rfl (cT a) fun k t h=>WP.bind (WP.bV b (WP.ret (zE h))))
 ·exact WP.bind (c.run (.cR []) (cT a) fun ks t h=>jp h.1 rfl (jJ b s))
 ·exact WP.bind (c.run (.cU []) (cT a) fun ks t h=>jp h.1 rfl (jJ b s))
theorem Y6(a:fY L fin)(c:fH L fin aI wide f)(aJ:List Int)(b:bR fin s (os++aJ)):WP fin (P L fin aI wide (f+1) (.dt aJ)) s (dY fin os (.dt aJ)):=by
 rw[P];refine WP.bind (WP.b9 (fun _=>WP.bif (fun _=>WP.ret (wY rfl b)) (fun e=>nomatch e)) (fun _=>WP.bif (fun e=>nomatch e) (fun _=>?_)));have d1:∀{t:al},t.nodes=s.nodes->WP fin (e9 L fin>>=fun x=>gD L fin>>=fun w=>db ⟨3,w,0,[],x.pos⟩>>=fun k=>P L fin aI wide f (.dt (aJ++[k]))) t (dY fin os (.dt aJ)):=fun{t}e1=>by
  refine WP.bind (WP.ce (WP.bind (WP.word a (WP.bind (WP.node (c.dH (.dt _) rfl (bR.cast (bR.node (os:=os++aJ) (b.mv (dv _).symm e1) (jJ a t)) ?_)))))));simp[ap.d6]
 exact WP.bind (WP.bif (fun _=>WP.bV a (d1 rfl)) (fun _=>WP.ret (d1 rfl)))
theorem YR(a:fY L fin)(c:fH L fin aI wide f)(body:Bool)(b:bR fin s os):WP fin (P L fin aI wide (f+1) (.block body)) s (dY fin os (.block body)):=by
 rw[P];exact WP.bind (WP.ce (WP.bind (WP.bV a (WP.bind (c.run (.fC [] body) (cT b) fun ks t h=>jp h.1 rfl (jJ a s))))))
theorem YZ(a:fY L fin)(c:fH L fin aI wide f)(kind:Int)(d:bR fin s os):WP fin (P L fin aI wide (f+1) (.func kind)) s (dY fin os (.func kind)):=by
 rw[P];refine WP.bind (WP.ce (WP.bind (WP.step (WP.bind (WP.get (WP.bind (WP.bif (fun _=>WP.word a ?_) (fun _=>WP.ret ?_))))))))
 ·refine WP.bind (WP.bV a (WP.bind (c.run (.dt []) (cT d) fun e t h=>WP.bind (WP.get (WP.bind (WP.set (WP.bind (c.one (.block true) rfl (cT h.1) fun b u g=>WP.bind (WP.get (WP.bind (WP.set (jp g ?_ (jJ a s)))))))))))));simp
 ·refine WP.bind (WP.bV a (WP.bind (c.run (.dt []) (cT d) fun e t h=>WP.bind (WP.get (WP.bind (WP.set (WP.bind (c.one (.block true) rfl (cT h.1) fun b u g=>WP.bind (WP.get (WP.bind (WP.set (jp g ?_ (jJ a s)))))))))))));simp
theorem Y7(a:fY L fin)(c:fH L fin aI wide f)(b:bR fin s os):WP fin (P L fin aI wide (f+1) .paren) s (dY fin os .paren):=by
 rw[P];exact WP.bind (WP.bV a (WP.bind (c.one .aZ rfl (cT b) fun k t h=>WP.bind (WP.bV a (WP.ret (zE h))))))
theorem Zh(b:fY L fin)(c:fH L fin aI wide f)(a:bR fin s os):WP fin (P L fin aI wide (f+1) .vars) s (dY fin os .vars):=by
 rw[P];exact WP.bind (WP.ce (WP.bind (WP.step (WP.bind (c.run (.dQ []) (cT a) fun ks t h=>jp h.1 rfl (jJ b s))))))
theorem Zg(c:fY L fin)(d:fH L fin aI wide f)(aJ:List Int)(b:bR fin s (os++aJ)):WP fin (P L fin aI wide (f+1) (.dQ aJ)) s (dY fin os (.dQ aJ)):=by
 rw[P];have d1:∀{t:al}{w:ByteArray}{ks:List Int},bR fin t (os++aJ++ks)->WP fin (db ⟨22,w,0,ks,(aB L fin s).pos⟩>>=fun k=>cH L oj>>=fun h=>bif !h then ret (aJ++[k]) else P L fin aI wide f (.dQ (aJ++[k]))) t (dY fin os (.dQ aJ)):=fun{t w ks}h=>by
  have a:=bR.node (x:=⟨22,w,0,ks,(aB L fin s).pos⟩) h (jJ c s);refine WP.bind (WP.node (WP.bind (WP.b9 (fun _=>WP.bif (fun e=>nomatch e) (fun _=>d.dH (.dQ _) rfl (a.cast ?_))) (fun _=>WP.bif (fun _=>WP.ret (wY rfl (a.cast ?_))) (fun e=>nomatch e)))))
  ·simp[ap.d6]
  ·simp
 refine WP.bind (WP.ce (WP.bind (WP.word c (WP.bind (WP.b9 (fun _=>WP.bind (WP.bif (fun _=>d.run .aZ (cT b) fun ks t h=>d1 h.1) (fun e=>nomatch e))) (fun _=>WP.bind (WP.bif (fun e=>nomatch e) (fun _=>WP.ret (d1 (b.mv (dv _).symm))))))))))
theorem Y2(b:fH L fin aI wide f)(a:bR fin s os):WP fin (P L fin aI wide (f+1) .loop) s (dY fin os .loop):=by
 rw[P];exact WP.bind (WP.get (WP.bind (WP.set (WP.bind (b.one (.ci false) rfl (cT a) fun k t h=>WP.bind (WP.get (WP.bind (WP.set (WP.ret (zE h))))))))))
theorem YV(d:fY L fin)(a:fH L fin aI wide f)(pos:Int)(hp:0<=pos/\pos<=fin)(b:bR fin s os):WP fin (P L fin aI wide (f+1) (.choose pos)) s (dY fin os (.choose pos)):=by
 rw[P];exact WP.bind (a.one .paren rfl (cT b) fun c t h=>WP.bind (WP.bV d (WP.bind (WP.get (WP.bind (WP.set (WP.bind (a.run (.d8 [c] false) h fun ks u g=>WP.bind (WP.get (WP.bind (WP.set (jp g.1 rfl hp))))))))))))
theorem YU(b:fH L fin aI wide f)(aJ:List Int)(a:bR fin s (os++aJ)):WP fin (P L fin aI wide (f+1) (.ek aJ)) s (dY fin os (.ek aJ)):=by
 rw[P];refine WP.bind (WP.get (WP.bif (fun _=>WP.bind (b.one (.ci false) rfl (cT a) fun k t h=>b.dH (.ek (aJ++[k])) rfl (h.cast ?_))) (fun _=>WP.ret (wY rfl a))));simp[ap.d6]
theorem Y_(c:fY L fin)(b:fH L fin aI wide f)(aJ:List Int)(a:bR fin s (os++aJ)):WP fin (P L fin aI wide (f+1) (.prog aJ)) s (dY fin os (.prog aJ)):=by
 rw[P];refine WP.bind (WP.get (WP.bif (fun _=>WP.bind (b.one (.ci true) rfl (cT a) fun k t h=>b.dH (.prog (aJ++[k])) rfl (h.cast ?_))) (fun _=>jp a rfl ⟨cD 0,c.f0⟩)));simp[ap.d6]
theorem YY(i:fY L fin)(j:fH L fin aI wide f)(pos:Int)(hp:0<=pos/\pos<=fin)(l:bR fin s os):WP fin (P L fin aI wide (f+1) (.di pos)) s (dY fin os (.di pos)):=by
 rw[P];refine WP.bind (WP.bV i (WP.bind (WP.get ?_)));dsimp only;refine WP.bif (fun _=>?_) (fun _=>?_)
 ·refine WP.bind (WP.set (WP.bind (j.one .aZ rfl (cT l) fun e t h=>WP.bind (WP.bV i (WP.bind (j.one .loop rfl (cT h) fun b u g=>jp g ?_ hp))))));simp
 ·have key:∀{t:al}{os:List Int}{B:Bool},bR fin t os->WP fin (bif B then iJ L fin else one (P L fin aI wide f .aZ)) t fun a u=>bR fin u (os++[a]):=fun{t os B}h=>WP.bif (fun _=>WP.empty i h fun k u g=>g) (fun _=>j.one .aZ rfl (cT h) fun k u g=>g);refine WP.bind (WP.mono (Q:=fun a t=>bR fin t (os++[a])) ?_ fun a t h=>?_)
  ·refine WP.bif (fun _=>j.one .vars rfl (cT l) fun k t h=>h) (fun _=>WP.bif (fun _=>WP.empty i (l.mv rfl) fun k t h=>h) (fun _=>WP.bind (WP.ce (WP.bind (j.one .aZ rfl (cT l) fun e t h=>WP.node ?_)))));exact bR.node (x:=⟨20,.empty,0,[e],_⟩) h (jJ i _)
  refine WP.bind (WP.bV i (WP.bind (WP.mf (WP.bind ((key (h.mv rfl)).mono fun c u g=>WP.bind (WP.bV i (WP.bind (WP.mf (WP.bind ((key (g.mv rfl)).mono fun d v k=>WP.bind (WP.bV i (WP.bind (j.one .loop rfl (cT k) fun b w q=>jp q ?_ hp)))))))))))));simp
theorem Ze(a:fY L fin)(d:fH L fin aI wide f)(pos:Int)(hp:0<=pos/\pos<=fin)(i:bR fin s os):WP fin (P L fin aI wide (f+1) (.dy pos)) s (dY fin os (.dy pos)):=by
 rw[P];have d1:∀{t:al}{b:Int}{ks:List Int}{op:ByteArray}{g:Bool},bR fin t (os++[b]++ks)->WP fin (cH L oQ>>=fun h=>(bif h then P L fin aI wide f (.block false) else ret [])>>=fun fs=>cg ⟨34-2,op,bif g then (bif h then vh else kZ) else vi,[b]++ks++fs,pos⟩) t (dY fin os (.dy pos)):=fun{t b ks op g}h=>by
  refine WP.bind (WP.b9 (fun _=>WP.bind (WP.bif (fun _=>d.run (.block false) (cT h) fun fs u k=>jp k.1 ?_ hp) (fun e=>nomatch e))) (fun _=>WP.bind (WP.bif (fun e=>nomatch e) (fun _=>WP.ret (jp h ?_ hp)))))
  all_goals grind
 refine WP.bind (d.one (.block false) rfl (cT i) fun b t h=>WP.bind (WP.b9 (fun _=>WP.bind (WP.bif (fun _=>?_) (fun e=>nomatch e))) (fun _=>WP.bind (WP.bif (fun e=>nomatch e) (fun _=>WP.ret ?_)))))
 ·refine WP.bind (WP.bV a (WP.bind (WP.word a (WP.bind (WP.bV a (WP.bind (d.one (.block false) rfl (cT h) fun c u g=>WP.ret ?_)))))));exact WP.bind (WP.get (WP.bind (WP.bif (fun _=>WP.dI a) (fun _=>WP.ret (d1 g)))))
 ·exact WP.bind (WP.get (WP.bind (WP.bif (fun _=>WP.dI a) (fun _=>WP.ret (d1 (h.mv (dv _).symm))))))
theorem Zd(b:fY L fin)(c:fH L fin aI wide f)(aJ:List Int)(seen:Bool)(a:bR fin s (os++aJ)):WP fin (P L fin aI wide (f+1) (.d8 aJ seen)) s (dY fin os (.d8 aJ seen)):=by
 rw[P];have d1:∀{t:al}{ks:List Int}{g:Bool},bR fin t (os++aJ++ks)->WP fin (cr L fin colon>>=fun _=>P L fin aI wide f (.ek ks)>>=fun all=>db ⟨34,.empty,bif g then 0 else kZ,all,(aB L fin s).pos⟩>>=fun k=>P L fin aI wide f (.d8 (aJ++[k]) (bif g then seen else true))) t (dY fin os (.d8 aJ seen)):=fun{t ks g}h=>by
  refine WP.bind (WP.bV b (WP.bind (c.run (.ek ks) h fun all u k=>WP.bind (WP.node (c.dH (.d8 _ _) rfl (bR.cast (bR.node (os:=os++aJ) (x:=⟨34,.empty,bif g then 0 else kZ,all,(aB L fin s).pos⟩) k.1 (jJ b s)) ?_))))));simp[ap.d6]
 refine WP.bind (WP.b9 (fun _=>WP.bif (fun _=>WP.ret (wY rfl a)) (fun e=>nomatch e)) (fun _=>WP.bif (fun e=>nomatch e) (fun _=>WP.bind (WP.ce (WP.bind (WP.b9 (fun _=>WP.bind (WP.bif (fun _=>c.run .aZ (cT a) fun ks t h=>d1 h.1) (fun e=>nomatch e))) (fun _=>WP.bind (WP.bif (fun e=>nomatch e) (fun _=>WP.bind (WP.mf (WP.bif (fun _=>WP.bind (WP.step (WP.ret (d1 (a.mv (dv _).symm))))) (fun _=>WP.dI b))))))))))))
theorem Za(b:fY L fin)(g:fH L fin aI wide f)(x:bh)(hp:0<=x.pos/\x.pos<=fin)(d:bR fin s os):WP fin (P L fin aI wide (f+1) (.simple x)) s (dY fin os (.simple x)):=by
 rw[P];refine WP.bind (WP.get (WP.bind ((WP.bif (fun _=>WP.ret rfl) (fun _=>WP.bif (fun _=>WP.ret rfl) (fun _=>WP.bif (fun _=>WP.ret rfl) (fun _=>WP.bif (fun _=>WP.ret rfl) (fun _=>WP.dI b)))):WP fin _ _ fun _ t=>t.nodes=s.nodes).mono fun kind t e=>?_)));have a:=d.mv rfl e;refine WP.bind (WP.step (WP.bind (WP.ce (WP.bind (WP.get (WP.bind (WP.bif (fun _=>WP.dI b) (fun _=>WP.ret (WP.bind (WP.bif (fun _=>g.run .aZ (cT a) fun ks u h=>WP.bind (Dm b fun v c=>jp h.1 rfl hp c)) (fun _=>WP.ret (WP.bind (Dm b fun v c=>jp a (dv _).symm hp c)))))))))))))
theorem Zb(j:fY L fin)(d:fH L fin aI wide f)(body:Bool)(i:bR fin s os):WP fin (P L fin aI wide (f+1) (.ci body)) s (dY fin os (.ci body)):=by
 rw[P];have hp:=jJ j s;have plain:WP fin (one (P L fin aI wide f .aZ)>>=fun e=>dP L fin>>=fun _=>cg ⟨20,.empty,0,[e],(aB L fin s).pos⟩) s (dY fin os (.ci body)):=
  WP.bind (d.one .aZ rfl (cT i) fun e t h=>WP.bind (Dm j fun u l=>jp h rfl hp l))
 refine WP.bind (WP.ce (WP.bind (WP.get (WP.bif (fun _=>d.dH (.block false) rfl (cT i)) (fun _=>WP.bif (fun _=>?_) (fun _=>?_))))))
 ·exact WP.bind (WP.empty j i fun k t h=>WP.bind (WP.step (WP.ret (zE h))))
 dsimp only;refine WP.bif (fun _=>WP.bif (fun _=>?_) (fun _=>WP.bif (fun _=>?_) (fun _=>WP.bif (fun _=>?_) (fun _=>WP.bif (fun _=>?_) (fun _=>WP.bif (fun _=>?_) (fun _=>WP.bif (fun _=>?_) (fun _=>WP.bif (fun _=>?_) (fun _=>WP.bif (fun _=>?_) (fun _=>plain))))))))) (fun _=>plain)
 ·exact WP.bind (d.one .vars rfl (cT i) fun k t h=>WP.bind (Dm j fun u l=>WP.ret (zE h l)))
 ·exact d.dH (.simple _) rfl (cT i) (hp:=hp)
 ·exact WP.bif (fun _=>WP.dI j) (fun _=>d.dH (.func 35) rfl (cT i))
 ·refine WP.bind (WP.step (WP.bind (d.one .paren rfl (cT i) fun c t h=>WP.bind (d.one (.ci false) rfl (cT h) fun a u g=>WP.bind (WP.b9 (fun _=>WP.bind (WP.bif (fun _=>d.run (.ci false) (cT g) fun ks v k=>jp k.1 ?_ hp) (fun e=>nomatch e))) (fun _=>WP.bind (WP.bif (fun e=>nomatch e) (fun _=>WP.ret (jp g ?_ hp)))))))))
  all_goals grind
 ·refine WP.bind (WP.step (WP.bind (d.one .paren rfl (cT i) fun c t h=>WP.bind (d.one .loop rfl (cT h) fun b u g=>jp g ?_ hp))));simp
 ·exact WP.bind (WP.step (d.dH (.di _) rfl (cT i) (hp:=hp)))
 ·exact WP.bind (WP.step (d.dH (.dy _) rfl (cT i) (hp:=hp)))
 ·exact WP.bind (WP.step (d.dH (.choose _) rfl (cT i) (hp:=hp)))
theorem K4(c:fY L fin):∀f,fH L fin aI wide f
 |0=>fun tag s os _ _=>by
  unfold P;trivial
 |f+1=>fun tag s os hp a=>by
  have b:=K4 c f;cases tag with
  |aZ=>exact YX c b (a.cast (dv _))
  |cond=>exact YW c b (a.cast (dv _))
  |level n=>exact Y0 c b n (a.cast (dv _))
  |fM n left=>exact Y1 c b n left a
  |unary=>exact Zf c b (a.cast (dv _))
  |dD=>exact YQ b (a.cast (dv _))
  |suffix=>exact Zc b (a.cast (dv _))
  |dO k=>exact Y8 c b k a
  |dS aJ=>exact YT c b aJ a
  |cR aJ=>exact YP c b aJ a
  |cU aJ=>exact Y5 c b aJ a
  |dk=>exact Y9 c b (a.cast (dv _))
  |func kind=>exact YZ c b kind (a.cast (dv _))
  |dt aJ=>exact Y6 c b aJ a
  |block body=>exact YR c b body (a.cast (dv _))
  |fC aJ body=>exact YS b aJ body a
  |paren=>exact Y7 c b (a.cast (dv _))
  |vars=>exact Zh c b (a.cast (dv _))
  |dQ aJ=>exact Zg c b aJ a
  |loop=>exact Y2 b (a.cast (dv _))
  |di pos=>exact YY c b pos hp (a.cast (dv _))
  |dy pos=>exact Ze c b pos hp (a.cast (dv _))
  |choose pos=>exact YV c b pos hp (a.cast (dv _))
  |d8 aJ seen=>exact Zd c b aJ seen a
  |ek aJ=>exact YU b aJ a
  |simple x=>exact Za c b x hp (a.cast (dv _))
  |ci body=>exact Zb c b body (a.cast (dv _))
  |prog aJ=>exact Y_ c b aJ a
end
end
section
open Go
structure cW where
 b:Nat
 la:Option Addr
 lc:Nat
 L:List bh
 fin:Int
 i:Nat
structure iD(x:cW)(F:ah):Prop where
 l0:aP F ⟨x.b,0,none⟩ (.slice x.la x.L.length x.lc)
 l1:aP F ⟨x.b,1,none⟩ (.int .i64 x.i)
 l2:aP F ⟨x.b,2,none⟩ (.int .i64 x.fin)
 src:jd 5 (hO x.L) x.la x.L.length
 Cu:lq F x.la (hO x.L)
variable{x:cW}
theorem iD.sub{A B:ah}(hs:Sub A B)(h:iD x A):iD x B:=⟨h.l0.sub hs,h.l1.sub hs,h.l2.sub hs,h.src,h.Cu.sub hs⟩
theorem NL:∀(L:List bh)(i j:Nat)(d:bh)(u:Value),L[i]?=some d->(kA d)[j]?=some u->(hO L)[i*5+j]?=some u
 | [],i,j,d,u,h,_=>by simp at h
 |e::L,0,j,d,u,h,a=>by
  have h:e=d:=by simpa using h
  subst h;have c:=(kw.1 a).1;have:hO (e::L)=kA e++hO L:=rfl;rw[this,Nat.zero_mul,gT,lD c];exact a
 |e::L,i+1,j,d,u,h,a=>by
  have:hO (e::L)=kA e++hO L:=rfl;have b:(kA e).length=5:=rfl;rw[this,j6 ae,b,show(i+1)*5+j-5=i*5+j by omega];exact NL L i j d u h a
theorem iD.look{F:ah}(h:iD x F){b o i j:Nat}{d:bh}{u:Value}(e:x.la=some ⟨b,o,none⟩)(hd:x.L[i]?=some d)(a:(kA d)[j]?=some u):aP F ⟨b,o+i*5+j,none⟩ u:=by
 have hs:=h.Cu;rw[e]at hs;have:=hs.look (NL x.L i j d u hd a);rw[Nat.add_assoc];exact this
def cn(L:List bh)(fin:Int)(i:Nat):bh:=(L[i]?).getD ⟨0,⟨#[]⟩,0,fin,false⟩
def eJ(j:Nat):List LH:=[.z00 j,.z00 j,.z00 j,.z00 j,.z00 j]
def iq:aQ where
 X:=cW
 args x:=[ag (some ⟨x.b,0,none⟩)]
 cond x:=x.L.length<=1048576
 aO x F:=iD x F
 val x _:=ax (agg ⟨kA (cn x.L x.fin x.i)⟩)
 eM _ _ _ hs h:=iD.sub hs h
def U7:List LH:=[.ex 0 (.int .i64),.ex 0 .str,.ex 0 (.float .f64),.ex 0 (.int .i64),.ex 0 .bool]
def Rp(a:Int):List Value:=[ad 0,ai ⟨#[]⟩,float f64 0,ad a,aj false]
def j0(b:Oper)(aa:List Value)(a:tU->Prop):=dJ Tryz.prog b (gb 5)/\∃(z:tU),aa=[au (some ⟨z.b,z.o,none⟩) z.len z.cap,ad z.n]/\(0<=z.n/\z.n<z.len)/\a z
def zp(e:Int)(d:ByteArray)(c:Nat)(b:Int)(a:Bool):List Value:=[ad e,ai d,float f64 c,ad b,aj a]
theorem adL(x:cW)(F:ah)(r:iq.cond x)(p:iq.aO x F):∀(o:Nat),true=true/\T1 F ⟨x.b,1,none⟩ (fun n=>eI F ⟨x.b,0,none⟩ (fun m l k=>aS (n>=l) (T1 F ⟨x.b,2,none⟩ (fun a=>cz o (cz o (ar iq x F (ax (agg ⟨Rp a⟩)) [(0,F),(1000,af o (Rp a) 53)])))) (true=true/\eI F ⟨x.b,0,none⟩ (fun j i h=>T1 F ⟨x.b,1,none⟩ (fun g=>j0 (ba Tryz.f24 3 8) [au j i h,ad g] (fun f=>T1 F ⟨f.b,f.o+f.n.toNat*5,none⟩ (fun e=>T2 F ⟨f.b,f.o+f.n.toNat*5+1,none⟩ (fun d=>rj F ⟨f.b,f.o+f.n.toNat*5+2,none⟩ (fun c=>T1 F ⟨f.b,f.o+f.n.toNat*5+3,none⟩ (fun b=>vJ F ⟨f.b,f.o+f.n.toNat*5+4,none⟩ (fun a=>cz o (cz o (ar iq x F (ax (agg ⟨zp e d c b a⟩)) [(0,F),(1000,af o (zp e d c b a) 53)]))))))))))))):=by
 delta T1 eI Rp j0 T2 rj vJ zp cz ad ai aj au af aS ax;have t:x.L.length<=1048576:=r;intro b;refine⟨rfl,_,p.l1,_,_,_,p.l0,bo (fun h=>⟨_,p.l2,aq,aq,aq,aq,aq,aq,aq,aq,aq,aq,(),ao,?_,az [0]⟩) (fun h=>?_)⟩
 ·show returned _=returned (.agg ⟨kA (cn x.L x.fin x.i)⟩);unfold cn;rw[ot ae];rfl
 ·obtain⟨d,hd⟩:∃d,x.L[x.i]?=some d:=⟨_,gy ae⟩;obtain⟨lb,lo,q⟩:=p.src.some ae;have k:∀(j:Nat)(u:Value),(kA d)[j]?=some u->aP F ⟨lb,lo+(x.i:Int).toNat*5+j,none⟩ u:=fun j u s=>by
   rw[cw];exact p.look q hd s
  refine⟨rfl,_,_,_,p.l0,_,p.l1,h9 5 rfl rfl rfl rfl,⟨lb,lo,x.L.length,x.lc,x.i⟩,by rw[q],hC,_,k 0 _ rfl,_,k 1 _ rfl,_,k 2 _ rfl,_,k 3 _ rfl,_,k 4 _ rfl,aq,aq,aq,aq,aq,aq,aq,aq,aq,aq,(),ao,?_,az [0]⟩;show returned _=returned (.agg ⟨kA (cn x.L x.fin x.i)⟩);unfold cn;rw[hd];rfl
theorem kz:aC 24 iq:=fo 28 Tryz.func24 (fun _ _=>[(0,0,.n 1000),(1,3,c9),(1,7,.q [.ex 0 .slice]),(2,3,c9),(2,5,.w (eJ 1000)),(3,3,.q [.ex 0 .slice]),(3,7,c9),(3,8,.qo (gb 5)),(3,9,.q U7),(3,10,.w (eJ 1000))]) [] aY aY bA (eJ 1000) adL
structure vz where
 p:cW
 a:Nat
 t:ByteArray
theorem fS(a b:ByteArray):(a.toList==b.toList)=bC a b:=by
 have e:bC a b=(a.data==b.data):=by unfold bC;cases a;cases b;rfl
 rw[e,Bool.eq_iff_iff,beq_iff_eq,beq_iff_eq,ByteArray.toList_eq,ByteArray.toList_eq];constructor
 ·intro h;exact Array.ext' h
 ·intro h;rw[h]
def h8(L:List bh)(k:Nat)(t:ByteArray):Bool:=match L[k]? with
 |none=>false
 |some x=>(x.kind==5||x.kind==2)&&bC x.text t
def gz:aQ where
 X:=vz
 args x:=[ag (some ⟨x.p.b,0,none⟩),ad x.a,ai x.t]
 cond x:=x.p.L.length<=1048576/\x.p.i<=1048576/\x.a<=1048576
 aO x F:=iD x.p F
 val x _:=ax (aj (h8 x.p.L (x.p.i+x.a) x.t))
 eM _ _ _ hs h:=iD.sub hs h
theorem aeM(x:vz)(F:ah)(z:gz.cond x)(p:gz.aO x F):true=true/\T1 F ⟨x.p.b,1,none⟩ (fun o=>bM (o+x.a)/\eI F ⟨x.p.b,0,none⟩ (fun n m l=>aS (o+x.a>=(m:Int)) (ar gz x F cV [(0,F)]) (true=true/\eI F ⟨x.p.b,0,none⟩ (fun k j i=>T1 F ⟨x.p.b,1,none⟩ (fun h=>bM (h+x.a)/\j0 (ba Tryz.f29 3 10) [au k j i,ad (h+x.a)] (fun g=>T1 F ⟨g.b,g.o+g.n.toNat*5,none⟩ (fun f=>T2 F ⟨g.b,g.o+g.n.toNat*5+1,none⟩ (fun e=>rj F ⟨g.b,g.o+g.n.toNat*5+2,none⟩ (fun d=>T1 F ⟨g.b,g.o+g.n.toNat*5+3,none⟩ (fun c=>vJ F ⟨g.b,g.o+g.n.toNat*5+4,none⟩ (fun b=>∀(a:Nat),cz a (aw a 0/\Br (f==5) (aw a 1/\ar gz x F (ax (aj (e.toList==x.t.toList))) [(0,F),(4120,af a (zp f e d c b) 53)]) (aw a 0/\Br (f==2) (aw a 1/\ar gz x F (ax (aj (e.toList==x.t.toList))) [(0,F),(4120,af a (zp f e d c b) 53)]) (ar gz x F cV [(0,F),(4120,af a (zp f e d c b) 53)])))))))))))))):=by
 delta T1 eI c6 cV j0 T2 rj vJ zp aw bM cz ad ai aj au af aS ax;obtain⟨⟨b,la,lc,L,fin,i⟩,a,t⟩:=x;obtain⟨w,hi,y⟩:=z;replace p:iD ⟨b,la,lc,L,fin,i⟩ F:=p;dsimp only at w hi y;dsimp only;refine⟨rfl,_,p.l1,hC,_,_,_,p.l0,bo (fun h=>⟨(),ao,kG ?_,az [0]⟩) (fun h=>?_)⟩
 ·dsimp only at h⊢;unfold h8;rw[ot ae]
 ·dsimp only at h;obtain⟨d,hd⟩:∃d,L[i+a]?=some d:=⟨_,gy ae⟩;obtain⟨lb,lo,q⟩:=p.src.some bg;have v:((i:Int)+(a:Int)).toNat=i+a:=ae;have k:∀(j:Nat)(u:Value),(kA d)[j]?=some u->aP F ⟨lb,lo+((i:Int)+(a:Int)).toNat*5+j,none⟩ u:=fun j u A=>by
   rw[v];exact p.look q hd A
  have s:h8 L (i+a) t=((d.kind==5||d.kind==2)&&bC d.text t):=by unfold h8;rw[hd]
  refine⟨rfl,_,_,_,p.l0,_,p.l1,hC,h9 5 rfl rfl rfl rfl,⟨lb,lo,L.length,lc,(i:Int)+(a:Int)⟩,by rw[show la=_ from q],hC,_,k 0 _ rfl,_,k 1 _ rfl,_,k 2 _ rfl,_,k 3 _ rfl,_,k 4 _ rfl,fun B=>⟨aq,aq,aq,aq,aq,aq,aG (fun e1=>⟨aq,(),ao,kG ?_,az [0]⟩) (fun e1=>⟨aq,aG (fun r=>⟨aq,(),ao,kG ?_,az [0]⟩) (fun r=>⟨(),ao,kG ?_,az [0]⟩)⟩)⟩⟩
  ·dsimp only;rw[s,fS,show(d.kind==5)=true from e1];rfl
  ·dsimp only;rw[s,fS,show(d.kind==2)=true from r,mc];rfl
  ·dsimp only;rw[s,show(d.kind==5)=false from e1,show(d.kind==2)=false from r];rfl
theorem jK:aC 29 gz:=fo 46 Tryz.func29 (fun _ _=>[(1,3,c9),(1,9,.q [.ex 0 .slice]),(3,3,.q [.ex 0 .slice]),(3,7,c9),(3,10,.qo (gb 5)),(3,11,.q U7),(3,12,.n 4120)]) [(3,13,.w [LH.z00 (4120:Nat),LH.z00 (4120:Nat),LH.z00 (4120:Nat),LH.z00 (4120:Nat),LH.z00 (4120:Nat)]),(4,1,aR 4120),(4,10,aR 4120),(4,5,aR 4120)] aY aY bA [] aeM
end
section
open Go
structure FK where
 b:Nat
 p:Int
 e:Int
def iz(p e:Int):Value:=.iface 51 (.agg #[.int .i64 p,.int .i64 e])
def yt:aQ where
 X:=FK
 args x:=[ag (some ⟨x.b,0,none⟩),ad x.p,ad x.e]
 val x _:=panicked [⟨iz x.p x.e,false,false⟩]
theorem acQ(x:FK)(F:ah)(a:yt.cond x)(b:yt.aO x F):ar yt x F (dL x.p x.e) [(0,F)]:=by
 delta dL;exact im
theorem Uj:aC 28 yt:=fo 10 Tryz.func28 (fun _ _=>[(0,4,.w [])]) [] aY aY bA [] acQ
structure FN where
 p:cW
 a:Nat
def Bh(L:List bh)(k:Nat):Bool:=match L[k]? with
 |none=>false
 |some x=>x.kind==1
def wc:aQ where
 X:=FN
 args x:=[ag (some ⟨x.p.b,0,none⟩),ad x.a]
 cond x:=x.p.L.length<=1048576/\x.p.i<=1048576/\x.a<=1048576
 aO x F:=iD x.p F
 val x _:=ax (aj (Bh x.p.L (x.p.i+x.a)))
 eM _ _ _ hs h:=iD.sub hs h
theorem af_(x:FN)(F:ah)(q:wc.cond x)(l:wc.aO x F):true=true/\T1 F ⟨x.p.b,1,none⟩ (fun j=>bM (j+x.a)/\eI F ⟨x.p.b,0,none⟩ (fun i h g=>aS (j+x.a<(h:Int)) (eI F ⟨x.p.b,0,none⟩ (fun f e d=>T1 F ⟨x.p.b,1,none⟩ (fun c=>bM (c+x.a)/\j0 (ba Tryz.f66 1 23) [au f e d,ad (c+x.a)] (fun b=>T1 F ⟨b.b,b.o+b.n.toNat*5,none⟩ (fun a=>ar wc x F (ax (aj (a==1))) [(0,F)]))))) (ar wc x F cV [(0,F)]))):=by
 delta T1 eI j0 c6 cV bM ad aj au aS ax;obtain⟨⟨b,la,lc,L,fin,i⟩,a⟩:=x;obtain⟨o,hi,p⟩:=q;replace l:iD ⟨b,la,lc,L,fin,i⟩ F:=l;dsimp only at o hi p;dsimp only;refine⟨rfl,_,l.l1,hC,_,_,_,l.l0,bo (fun h=>?_) (fun h=>⟨(),ao,kG ?_,az [0]⟩)⟩
 ·dsimp only at h;obtain⟨d,hd⟩:∃d,L[i+a]?=some d:=⟨_,gy ae⟩;obtain⟨lb,lo,m⟩:=l.src.some bg;have n:((i:Int)+(a:Int)).toNat=i+a:=ae;have k:∀(j:Nat)(u:Value),(kA d)[j]?=some u->aP F ⟨lb,lo+((i:Int)+(a:Int)).toNat*5+j,none⟩ u:=fun j u r=>by
   rw[n];exact l.look m hd r
  have s:Bh L (i+a)=(d.kind==1):=by unfold Bh;rw[hd]
  refine⟨_,_,_,l.l0,_,l.l1,hC,h9 5 rfl rfl rfl rfl,⟨lb,lo,L.length,lc,(i:Int)+(a:Int)⟩,by rw[show la=_ from m],hC,_,k 0 _ rfl,(),ao,kG ?_,az [0]⟩;dsimp only;rw[s]
 ·dsimp only at h⊢;unfold Bh;rw[ot ae]
theorem Vv:aC 66 wc:=fo 33 Tryz.func66 (fun _ _=>[(1,3,c9),(1,9,.q [.ex 0 .slice]),(1,16,.q [.ex 0 .slice]),(1,20,c9),(1,23,.qo (gb 5)),(1,25,c9)]) [] aY aY bA [] af_
def kS:aQ where
 X:=cW
 args x:=[ag (some ⟨x.b,0,none⟩)]
 cond x:=x.L.length<=1048576
 aO x F:=iD x F
 val x _:=panicked [⟨iz (cn x.L x.fin x.i).pos 60,false,false⟩]
 eM _ _ _ hs h:=iD.sub hs h
def ib(z:cW):List Value:=[ag (some ⟨z.b,0,none⟩)]
def e7(aa:List Value)(rr:ah)(a:cW->Unit->Prop):=aC 24 iq/\true=true/\∃(z:cW),aa=(ib z)/\([]:List ah)=[]/\z.L.length<=1048576/\iD z rr/\∀(b:Unit),True->a z b
def F9(aa:List Value)(a:FK->Unit->Prop):=aC 28 yt/\true=true/\∃(z:FK),aa=[ag (some ⟨z.b,0,none⟩),ad z.p,ad z.e]/\([]:List ah)=[]/\True/\True/\∀(b:Unit),True->a z b
theorem aa1(x:cW)(F:ah)(e:kS.cond x)(f:kS.aO x F):e7 (ib x) (cP F) (fun d c=>F9 [ag (some ⟨x.b,0,none⟩),ad (cn d.L d.fin d.i).pos,ad 60] (fun b a=>ar kS x F (dL b.p b.e) [(0,F)])):=by
 delta ib e7 cP F9 dL aH ad ag;exact br kz x e (iD.sub (bP 0) f) fun _ _=>kV Uj ⟨x.b,(cn x.L x.fin x.i).pos,60⟩ fun _ _=>im
theorem pe:aC 15 kS:=fo 7 Tryz.func15 (fun _ _=>[(0,2,aW iq),(0,4,aW yt)]) [] aY aY bA [] aa1
end
section
open Go
def TP{α:Type}(m:PM α)(s:al)(Q:α->al->Prop):Prop:=
 match m s with
 | .ok a t=>Q a t
 | .stop _ _ _=>True
 | .out=>False
section
variable{α β:Type}{s:al}
theorem TP.bind{m:PM α}{f:α->PM β}{Q:β->al->Prop}(h:TP m s fun a t=>TP (f a) t Q):TP (m>>=f) s Q:=by
 show TP (b0 m f) s Q;unfold TP b0 at*;grind
theorem TP.mono{m:PM α}{Q R:α->al->Prop}(h:TP m s Q)(k:∀a t,Q a t->R a t):TP m s R:=by
 unfold TP at*;grind
theorem TP.ret{a:α}{Q:α->al->Prop}(h:Q a s):TP (ret a) s Q:=h
theorem TP.bif{b:Bool}{m n:PM α}{Q:α->al->Prop}(a:b=true->TP m s Q)(c:b=false->TP n s Q):TP (bif b then m else n) s Q:=by
 grind
theorem TP.get{Q:al->al->Prop}(h:Q s s):TP ez s Q:=h
theorem TP.dN{k:Int}{Q:Int->al->Prop}(h:∀p,Q p s):TP (dN k) s Q:=h _
variable(L:List bh){fin:Int}
def left(s:al):Nat:=L.length-s.i
variable{L}
theorem TP.set{t:al}(hi:s.i<=t.i){Q:Unit->al->Prop}(h:∀t,left L t<=left L s->Q () t):TP (ic t) s Q:=h t (by unfold left;omega)
theorem TP.node{x:cj}{Q:Int->al->Prop}(h:∀k t,left L t<=left L s->Q k t):TP (db x) s Q:=h _ _ (bT _)
theorem ZM{x:cj}{Q:Int->al->Prop}(h:∀k t,t.i=s.i->left L t=left L s->Q k t):TP (db x) s Q:=h _ _ rfl rfl
theorem iX{s:al}(h:(aB L fin s).kind≠0):s.i<L.length:=by
 unfold aB at h;grind
theorem iZ{s:al}{t:ByteArray}(h:bc L s 0 t=true):s.i<L.length:=by
 unfold bc at h;grind
theorem Bd{s:al}(h:s.i<L.length):left L {s with i:=s.i+1}<left L s:=by
 unfold left;grind
theorem TP.step(hs:s.i<L.length){Q:Unit->al->Prop}(h:∀t,left L t<left L s->Q () t):TP eE s Q:=h _ (Bd hs)
theorem TP.ce{Q:bh->al->Prop}(h:Q (aB L fin s) s):TP (e9 L fin) s Q:=h
theorem TP.dI{Q:α->al->Prop}:TP (iU L fin) s Q:=ao
theorem TP.b9{t:ByteArray}{Q:Bool->al->Prop}(a:∀u,left L u<left L s->Q true u)(b:bc L s 0 t=false->Q false s):TP (cH L t) s Q:=by
 unfold TP cH;cases h:bc L s 0 t with
 |true=>exact a _ (Bd (iZ h))
 |false=>exact b h
theorem TP.bV{t:ByteArray}{Q:Unit->al->Prop}(a:∀u,left L u<left L s->Q () u):TP (cr L fin t) s Q:=by
 unfold TP cr;cases h:bc L s 0 t with
 |true=>exact a _ (Bd (iZ h))
 |false=>trivial
theorem TP.mf{a:Nat}{t:ByteArray}{Q:Bool->al->Prop}(h:∀b,b=bc L s a t->Q b s):TP (iK L a t) s Q:=h _ rfl
theorem TP.j9{k:Int}{b:Bool}{Q:Unit->al->Prop}(h:Q () s):TP (ka k b) s Q:=by
 unfold TP ka;grind
theorem TP.word{Q:ByteArray->al->Prop}(h:∀w t,left L t<left L s->Q w t):TP (gD L fin) s Q:=by
 unfold TP gD;cases hk:(aB L fin s).kind !=1 with
 |true=>trivial
 |false=>exact h _ _ (Bd (iX (fin:=fin) (by have:(aB L fin s).kind=1:=(by simpa using hk);rw[this];decide)))
theorem TP.pK{Q:Unit->al->Prop}(h:∀t,left L t<=left L s->Q () t):TP (dP L fin) s Q:=by
 unfold TP dP;cases hx:bc L s 0 dm with
 |true=>exact h _ (Nat.le_of_lt (Bd (iZ hx)))
 |false=>
  grind
theorem TP.key{aI:Nat->ByteArray}{wide:ByteArray->ByteArray}{Q:Int->al->Prop}(h:∀k t,left L t<left L s->Q k t):TP (dW L fin aI wide) s Q:=by
 have go:∀{op:ByteArray},(aB L fin s).kind≠0->Q s.nodes.length {s with i:=s.i+1,nodes:=s.nodes++[⟨2,op,0,[],(aB L fin s).pos⟩]}:=fun{op}hk=>h _ _ (Bd (iX hk));unfold TP dW;dsimp only;cases a:(aB L fin s).kind==1||(aB L fin s).kind==2 with
 |true=>exact go (fun e=>by rw[e]at a;cases a)
 |false=>
  rw[aM];cases b:(aB L fin s).kind==3 with
  |true=>exact go (fun e=>by rw[e]at b;cases b)
  |false=>
   rw[aM];cases c:(aB L fin s).kind==4 with
   |true=>exact go (fun e=>by rw[e]at c;cases c)
   |false=>trivial
theorem TP.empty{Q:Int->al->Prop}(h:∀k t,left L t<=left L s->Q k t):TP (iJ L fin) s Q:=h _ _ (bT _)
end
def ap.eX:ap->Nat
 | .level n=>6+(10-n)
 | .cond=>17| .aZ=>18| .ci _=>19| .dS _| .cR _=>19| .loop| .fC _ _| .ek _| .prog _=>20
 | .unary=>5| .dD=>4| .suffix=>3| .dk=>2| .dy _| .choose _=>2
 |_=>1
def ap.cons:ap->Bool
 | .fM _ _| .dO _| .ek _| .prog _=>false
 |_=>true
def ap.ct(L:List bh)(s:al):ap->Prop
 | .level n=>n<=10
 | .fM n _=>n<=9
 | .func _| .vars| .simple _=>s.i<L.length
 |_=>True
section
variable{fin:Int}{L:List bh}{aI:Nat->ByteArray}{wide:ByteArray->ByteArray}
def fG(L:List bh)(fin:Int)(aI:Nat->ByteArray)(wide:ByteArray->ByteArray)(f:Nat):Prop:=
 ∀(tag:ap)(s:al),tag.ct L s->24*left L s+tag.eX<=f->TP (P L fin aI wide f tag) s fun _ t=>left L t<=left L s/\(tag.cons=true->left L t<left L s)
end
end
end Go.Proofs.YtdkchodgklpomaaGreatDoor
