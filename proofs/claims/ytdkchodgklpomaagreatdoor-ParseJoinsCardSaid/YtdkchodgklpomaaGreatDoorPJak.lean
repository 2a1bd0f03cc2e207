/- Part of the proof that ParseJoins answers true at every input. -/
import Derived.Test.YtdkchodgklpomaaGreatDoorPJaj
set_option linter.all false
namespace Go.Proofs.YtdkchodgklpomaaGreatDoor
set_option maxRecDepth 100000
open Go.Value (int slice string bool pointer agg tuple func float iface nilIface)
open Go.IntKind (i64 u8 u64 i32 u32 u16 i8 i16)
open Go.FloatKind (f64)
open Go.Ending (returned panicked)
section
open Go
structure yk where
 tb:Nat->Nat
 r:Row
 n:Nat
structure lm(tb:Nat->Nat)(F:ah):Prop where
 tx:i7 F
 FA:∀i,i<1392->aQ F ⟨15,i,none⟩ (.int .u64 (tb i))
theorem lm.sub{tb:Nat->Nat}{A B:ah}(h:lm tb A)(hs:Sub A B):lm tb B:=⟨h.tx.sub hs,fun i hi=>(h.FA i hi).sub hs⟩
structure nT(tb:Nat->Nat):Prop where
 lt:∀i,tb i<18446744073709551616
 ge:∀i,i<696->9223372036854775808<=tb (i*2)
def wx:aR where
 X:=yk
 Y:=Row
 args x:=[au x.r.a x.r.n x.r.cap,float f64 x.n,ba 101,ad (-1)]
 pre x:=[x.r.A]
 cond x:=nT x.tb/\oE x.n/\bz 5 1 [] x.r
 aO x F:=lm x.tb F
 b_ x y:=bz 5 1 (bX (tt x.tb x.n)) y
 val _ y:=ay (au y.a y.n y.cap)
 post _ y:=[y.A]
theorem HE:∀(k u:Nat),u<10^(k+1)->Lib.nDigits u<=k+1
 |0,u,h=>by rw[Lib.nDigits_small (by simpa using h)];exact bZ _
 |k+1,u,h=>by
  by_cases q:u<10
  ·rw[Lib.nDigits_small q];omega
  ·have:=HE k (u/10) (by rw[Nat.pow_succ]at h;omega);rw[Lib.nDigits_big q];omega
structure sU where
 neg:Bool
 e:Int
 m:Nat
 b:Nat
 vs:List Value
 t:TypeId
def NL(x:yk)(F:ah)(P:sU->Prop)(lv:sU->List (Nat×Value))(st:sU->List ah):Option Inv:=some {X:=sU,P:=P,mu:=fun _=>0,lv:=fun d=>[(0,.slice x.r.a x.r.n x.r.cap),(2,.int .u8 101),(3,.int .i64 (-1)),(11,.int .i64 52),(12,.int .i64 (-1023)),(13,.bool d.neg),(14,.int .i64 d.e),(15,.int .u64 d.m)]++lv d,st:=st}
def adE(x:yk)(F:ah):Nat->Option Inv:=fun
 |22=>NL x F (fun d=>d.neg=jr x.n/\d.e=(l7 x.n:Nat)/\d.m=n5 x.n) (fun _=>[]) (fun _=>[x.r.A,F])
 |25=>NL x F (fun d=>d.neg=jr x.n/\d.e+ -1023=np x.n/\d.m=eY x.n) (fun _=>[]) (fun _=>[x.r.A,F])
 |34=>NL x F (fun d=>d.neg=jr x.n/\d.e=np x.n/\d.m=eY x.n/\Du d.vs) (fun d=>[(16,.pointer (some ⟨d.b,0,none⟩))]) (fun d=>[x.r.A,F,.cells d.b d.vs d.t])
 |_=>none
def L5(b:Oper)(aa:List Value)(a:Int×Int->Prop):=dR Tryz.prog b (m5 i64 i64)/\∃(z:Int×Int),aa=[ad z.fst,ad z.snd]/\0<=z.snd/\a z
def Jp(x:yk)(F:ah):FM->Row->Prop:=fun b a=>ar wx x F (ay (kZ a)) [(0,a.A),(1,F)]
def RQ(w:Int×Int):=w.fst.fdiv ((2:Int)^min w.snd.toNat u64.bits)!=0
def L6(e0:yk)(e1:ah)(v0 v1 v2:Value)(a:St):=∃(z:sU),(z.neg=jr e0.n/\z.e+(-1023:Int)=np e0.n/\z.m=eY e0.n)/\(au e0.r.a e0.r.n e0.r.cap=au e0.r.a e0.r.n e0.r.cap/\ba 101=ba 101/\ad (-1)=ad (-1)/\ad 52=ad 52/\ad (-1023)=ad (-1023)/\v0=aj z.neg/\v1=ad z.e/\v2=az ↑z.m/\True)/\aE a [(0,e0.r.A),(1,e1)]
def L7(aa:List Value)(pp:List ah)(rr:ah)(b:kK->Row->Prop):=aD 192 y4/\true=true/\∃(z:kK),aa=[au z.r.a z.r.n z.r.cap,aj z.neg,au (mT z) 32 32,ad z.dp,ad ↑z.nd,ad (↑(z.nd-1):Int),ba 101,aj true]/\pp=[z.r.A]/\(bz 5 1 [] z.r/\z.ds.length=32/\z.nd<=20/\(-900:Int)<=z.dp/\z.dp<=900)/\c_ rr ⟨z.b,0,none⟩ (bX z.ds)/\∀(a:Row),bz 5 1 (bX (qF z.neg z.ds z.dp z.nd)) a->b z a
def L8(b:Oper)(aa:List Value)(a:vW->Prop):=dR Tryz.prog b (tc 32)/\∃(z:vW),aa=[ag (some z.a)]/\(z.a.off=0/\z.a.spot=none)/\a z
theorem adM(x:yk)(F:ah)(N:wx.cond x)(C:wx.aO x F):((-9223372036854775808:Int)<=(11:Int)+(52:Int)/\(11:Int)+(52:Int)<=(9223372036854775807:Int))/\uC (a7 Tryz.f176 13 4) [az ↑x.n,ad ((11:Int)+(52:Int))] (fun w=>true=true/\uC (a7 Tryz.f176 14 2) [az ↑x.n,ad 52] (fun v=>L5 (a7 Tryz.f176 14 5) [ad 1,ad 11] (fun u=>pC (a7 Tryz.f176 15 2) [az 1,ad 52] (fun t=>L5 (a7 Tryz.f176 16 2) [ad 1,ad 11] (fun c=>Br (bV (↑(gY (bV (v.fst.fdiv ((2:Int)^min v.snd.toNat u64.bits)))&&& gY (bV (bV (u.fst*2^min u.snd.toNat i64.bits)-1))).toNat:Int)==bV (bV (c.fst*2^min c.snd.toNat i64.bits)-1)) (Br (bd (↑(ce (x.n:Int)&&& ce (bd (bd (t.fst*2^min t.snd.toNat u64.bits)-1))).toNat:Int)!=0) (AL (a7 Tryz.f176 18 1) [au x.r.a x.r.n x.r.cap,ai ⟨#[78,97,78]⟩] [x.r.A] (Jp x F)) (Br (RQ w) (AL (a7 Tryz.f176 20 1) [au x.r.a x.r.n x.r.cap,ai ⟨#[45,73,110,102]⟩] [x.r.A] (Jp x F)) (AL (a7 Tryz.f176 21 1) [au x.r.a x.r.n x.r.cap,ai ⟨#[43,73,110,102]⟩] [x.r.A] (Jp x F)))) (∃(a:sU),(a.neg=jr x.n/\a.e=(↑(l7 x.n):Int)/\a.m=n5 x.n)/\(au x.r.a x.r.n x.r.cap=au x.r.a x.r.n x.r.cap/\ba 101=ba 101/\ad (-1)=ad (-1)/\ad 52=ad 52/\ad (-1023)=ad (-1023)/\aj (RQ w)=aj a.neg/\ad (bV (↑(gY (bV (v.fst.fdiv ((2:Int)^min v.snd.toNat u64.bits)))&&& gY (bV (bV (u.fst*2^min u.snd.toNat i64.bits)-1))).toNat:Int))=ad a.e/\az (bd (↑(ce (x.n:Int)&&& ce (bd (bd (t.fst*2^min t.snd.toNat u64.bits)-1))).toNat:Int))=az ↑a.m/\True)/\aE [(0,x.r.A),(1,F)] [(0,x.r.A),(1,F)]))/\aT fun(s:sU)_=>(s.neg=jr x.n/\s.e=(↑(l7 x.n):Int)/\s.m=n5 x.n)->Br (s.e==0) (((-9223372036854775808:Int)<=s.e+1/\s.e+1<=(9223372036854775807:Int))/\L6 x F (aj s.neg) (ad (s.e+1)) (az ↑s.m) [(0,x.r.A),(1,F)]) (pC (a7 Tryz.f176 24 2) [az 1,ad 52] (fun b=>L6 x F (aj s.neg) (ad s.e) (az (bd (↑(ce (s.m:Int)|||ce (bd (b.fst*2^min b.snd.toNat u64.bits))).toNat:Int))) [(0,x.r.A),(1,F)]))/\aT fun(q:sU)_=>(q.neg=jr x.n/\q.e+(-1023:Int)=np x.n/\q.m=eY x.n)->((-9223372036854775808:Int)<=q.e+(-1023:Int)/\q.e+(-1023:Int)<=(9223372036854775807:Int))/\Br ((q.m:Int)==0) (L7 [au x.r.a x.r.n x.r.cap,aj q.neg,au none 0 0,ad 0,ad 0,ad (-1),ba 101,aj (decide ((-1:Int)<(0:Int)))] [x.r.A] (aH [(0,x.r.A),(1,F)] [0]) (fun b a=>ar wx x F (ay (kZ a)) [(0,a.A),(1,F)])) ((∀(b:Nat),∃(a:sU),(a.neg=jr x.n/\a.e=np x.n/\a.m=eY x.n/\Du a.vs)/\(au x.r.a x.r.n x.r.cap=au x.r.a x.r.n x.r.cap/\ba 101=ba 101/\ad (-1)=ad (-1)/\ad 52=ad 52/\ad (-1023)=ad (-1023)/\aj q.neg=aj a.neg/\ad (q.e+(-1023:Int))=ad a.e/\az ↑q.m=az ↑a.m/\ag (bI b)=ag (some ⟨a.b,0,none⟩)/\True)/\aE [(0,x.r.A),(1,F),(5000,af b (List.replicate 31 (ba 0)++[ba 0]) 221)] [(0,x.r.A),(1,F),(2,af a.b a.vs a.t)])/\aT fun(o:sU)_=>(o.neg=jr x.n/\o.e=np x.n/\o.m=eY x.n/\Du o.vs)->Gw [az ↑o.m] (fun m l=>bK ((64:Int)-(↑(Lib.bitLen m.u):Int))/\pC (a7 Tryz.f176 35 2) [az ↑o.m,ad ((64:Int)-(↑(Lib.bitLen m.u):Int))] (fun k=>bK (o.e-((64:Int)-(↑(Lib.bitLen m.u):Int)))/\((-9223372036854775808:Int)<=o.e-((64:Int)-(↑(Lib.bitLen m.u):Int))-52/\o.e-((64:Int)-(↑(Lib.bitLen m.u):Int))-52<=(9223372036854775807:Int))/\aD 198 vH/\true=true/\∃(j:qu),[az (bd (k.fst*2^min k.snd.toNat u64.bits)),ad (o.e-((64:Int)-(↑(Lib.bitLen m.u):Int))-52)]=[az ↑j.m,ad j.e]/\([]:List ah)=[]/\((9223372036854775808<=j.m/\j.m<18446744073709551616)/\((-1137:Int)<=j.e/\j.e<=960)/\∀(a:Nat),j.tb a<18446744073709551616)/\(∀(a:Nat),a<1392->aQ (aH [(0,x.r.A),(1,F),(2,af o.b o.vs o.t)] []) ⟨15,a,none⟩ (az (↑(j.tb a):Int)))/\∀(i:S5),rm j.tb j.m j.e=(i.d,i.p)->true=true/\L8 (a7 Tryz.f176 38 0) [ag (some ⟨o.b,0,none⟩)] (fun h=>aD 172 HD/\true=true/\∃(g:Ty),[az i.d]=[az ↑g.u]/\([]:List ah)=[]/\(1<=g.u/\g.u<18446744073709551616)/\i7 (aH [(0,x.r.A),(1,F),(2,af o.b o.vs o.t)] [])/\∀(f:Unit),True->aD 194 Aa/\true=true/\∃(e:uA),[au (some h.a) 32 32,az i.d,ad i.p,ad (↑(Lib.nDigits g.u):Int)]=[au (sF e) 32 32,az ↑e.u,ad e.p,ad ↑e.n]/\[af o.b o.vs o.t]=[af e.b e.vs e.t]/\(Du e.vs/\e.n<=20/\e.u<Nat.pow 10 e.n/\e.u<18446744073709551616/\(-100000:Int)<=e.p/\e.p<=100000)/\True/\∀(d:Unit),True->((-9223372036854775808:Int)<=(↑(jH e.u e.n e.n):Int)-1/\(↑(jH e.u e.n e.n):Int)-1<=(9223372036854775807:Int))/\L8 (a7 Tryz.f176 48 2) [ag (some ⟨o.b,0,none⟩)] (fun c=>L7 [au x.r.a x.r.n x.r.cap,aj o.neg,au (some c.a) 32 32,ad (e.n+e.p),ad (↑(jH e.u e.n e.n):Int),ad (if 0>(↑(jH e.u e.n e.n):Int)-1 then (0:Int) else (↑(jH e.u e.n e.n):Int)-1),ba 101,aj true] [x.r.A] (aH [(0,x.r.A),(1,F),(2,af e.b (bX (jQ e.u e.n 32)) e.t)] [0]) (fun b a=>ar wx x F (ay (kZ a)) [(0,a.A),(1,F),(2,af e.b (bX (jQ e.u e.n 32)) e.t)])))))))))):=by
 delta uC L5 pC AL kZ Jp RQ L6 mT L7 bI Gw L8 sF aH bK ad ba az ai aj ag au af ce gY bd bV ay aT;obtain⟨tb,r,n⟩:=x;obtain⟨B,D,H⟩:=N;replace C:lm tb F:=C;dsimp only at B D H⊢;obtain⟨a1,a2,a3,a4,a5,K⟩:=D.Wp;refine⟨⟨by decide,by decide⟩,xN rfl,((n:Int),11+52),rfl,(by decide:(0:Int)<=11+52),rfl,xN rfl,((n:Int),52),rfl,(by decide:(0:Int)<=52),nG rfl,(1,11),rfl,(by decide:(0:Int)<=11),nG rfl,(1,52),rfl,(by decide:(0:Int)<=52),⟨nG rfl,(1,11),rfl,(by decide:(0:Int)<=11),?_⟩,?_⟩
 ·dsimp only;rw[adG,adJ];refine aG (fun q=>?_) (fun _=>⟨⟨jr n,(l7 n:Nat),n5 n,0,[],0⟩,⟨rfl,rfl,rfl⟩,aV,aA [0,1]⟩);exfalso;rw[show i64.wrap (i64.wrap (1*2^min (Int.toNat 11) i64.bits)-1)=2047 by decide]at q;have:=eq_of_beq q;omega
 rintro⟨neg,e,m,L,G,t0⟩ J ⟨g1,z,g3⟩;dsimp only at g1 z g3;subst g1 z g3;dsimp only;refine⟨aG (fun q=>⟨aK,⟨jr n,(l7 n:Int)+1,n5 n,0,[],0⟩,⟨rfl,?_,?_⟩,aV,aA [0,1]⟩) (fun q=>⟨nG rfl,(1,52),rfl,(by decide:(0:Int)<=52),⟨jr n,(l7 n:Int),eY n,0,[],0⟩,⟨rfl,?_,rfl⟩,⟨rfl,rfl,rfl,rfl,rfl,rfl,rfl,?_,ao⟩,aA [0,1]⟩),?_⟩
 ·dsimp only;have:=eq_of_beq q;unfold np;rw[show(l7 n==0)=true by rw[beq_iff_eq];omega,aU];omega
 ·dsimp only;have:=eq_of_beq q;unfold eY;rw[show(l7 n==0)=true by rw[beq_iff_eq];omega,aU]
 ·dsimp only;have:=ff.1 q;unfold np;rw[show(l7 n==0)=false by rw[ff];omega,aN]
 ·dsimp only;rw[adL K];have:=ff.1 q;unfold eY;rw[show(l7 n==0)=false by rw[ff];omega,aN]
 rintro⟨neg,e,m,L,G,t0⟩ J ⟨g1,z,g3⟩;dsimp only at g1 z g3;subst g1 g3;dsimp only;rw[z];refine⟨aK,aG (fun q=>?_) (fun _=>⟨fun b=>⟨⟨jr n,np n,eY n,b,_,221⟩,⟨rfl,rfl,rfl,⟨rfl⟩⟩,aV,aA [0,1,5000]⟩,?_⟩)⟩
 ·exact absurd (eq_of_beq q) ae
 clear z e;rintro⟨neg,e,m,b,vs,t⟩ J ⟨g1,z,g3,g4⟩;dsimp only at g1 z g3 g4;subst g1 z g3;dsimp only;obtain⟨b1,b2,b3,b4⟩:=TO a2 ae;have b5:Lib.bitLen (eY n)<=53:=Lib.bitLen_le _ 53 ae ae;obtain⟨q1,q2,q3,q4⟩:=UU B.lt B.ge D;have M:u64.wrap ((eY n:Int)*2^min (64-(Lib.bitLen (eY n):Int)).toNat u64.bits)=((eY n*2^(64-Lib.bitLen (eY n)):Nat):Int):=by
  rw[show min (64-(Lib.bitLen (eY n):Int)).toNat u64.bits=64-Lib.bitLen (eY n) by
   show min (64-(Lib.bitLen (eY n):Int)).toNat 64=_;omega]
  have:((eY n:Int)*2^(64-Lib.bitLen (eY n)))=((eY n*2^(64-Lib.bitLen (eY n)):Nat):Int):=by
   rw[Int.natCast_mul,Int.natCast_pow];rfl
  rw[this];exact dG (i:=.u64) aK
 refine bO Vs ⟨eY n⟩ a_ fun _ _=>⟨hS,nG rfl,((eY n:Int),64-(Lib.bitLen (eY n):Int)),rfl,a_,hS,hS,ajU,rfl,⟨eY n*2^(64-Lib.bitLen (eY n)),np n-(64-(Lib.bitLen (eY n):Int))-52,tb⟩,by dsimp only;rw[M],rfl,⟨⟨b3,b4⟩,hS,B.lt⟩,fun i hi=>by exact aQ.sub (A:=F) (pd 1 (by decide) rfl) (C.FA i hi),?_⟩;rintro⟨d,p⟩ (I:qJ tb n=(d,p));rw[I]at q1 q2 q3 q4;dsimp only at q1 q2 q3 q4⊢;obtain⟨u,rfl⟩:∃u:Nat,d=u:=⟨d.toNat,ae⟩;have R:=Lib.nDigits_pos u;have P:=HE 19 u ae;have Q:=Lib.lt_pow_nDigits u;have S:=Xq u (Lib.nDigits u) (Lib.nDigits u);refine⟨rfl,GI rfl rfl rfl rfl rfl,⟨⟨b,0,none⟩⟩,rfl,al,agI,rfl,⟨u⟩,rfl,rfl,hS,C.tx.sub (pd 1 (by decide) rfl),fun _ _=>bO ajH ⟨t,vs,b,u,p,Lib.nDigits u⟩ ⟨g4,P,Q,a_,a_,a_⟩ fun _ _=>⟨hS,GI rfl rfl rfl rfl rfl,⟨⟨b,0,none⟩⟩,rfl,al,adm,rfl,⟨r,jr n,b,jQ u (Lib.nDigits u) 32,Lib.nDigits u+p,jH u (Lib.nDigits u) (Lib.nDigits u)⟩,?_,rfl,⟨H,Uq ae,a_,a_,a_⟩,?_,fun y E=>⟨y,?_,rfl,aA [0,1]⟩⟩⟩
 ·dsimp only;have:(if 0>((jH u (Lib.nDigits u) (Lib.nDigits u):Nat):Int)-1 then (0:Int) else ((jH u (Lib.nDigits u) (Lib.nDigits u):Nat):Int)-1)=((jH u (Lib.nDigits u) (Lib.nDigits u)-1:Nat):Int):=by
   split <;> omega
  rw[this]
 ·exact c_.rest (j:=2) (by decide) (c_.cells fun i w O=>by rw[hU];exact O)
 ·show bz 5 1 (bX (tt tb n)) y;unfold tt;rw[I];exact E
theorem adK:aD 176 wx:=fo 298 Tryz.func176 (fun _ _=>[(9,1,aW),(18,1,d3 (rX 5)),(20,1,d3 (rX 5)),(21,1,d3 (rX 5)),(31,6,bv y4),(13,4,.qo (ud .u64 .i64)),(14,2,.qo (ud .u64 .i64)),(14,3,aW),(14,5,.qo (m5 .i64 .i64)),(14,6,aW),(14,7,aW),(15,2,.qo (m5 .u64 .i64)),(15,3,aW),(15,4,aW),(16,2,.qo (m5 .i64 .i64)),(16,3,aW),(24,2,.qo (m5 .u64 .i64)),(24,3,aW),(33,0,.n 5000),(34,1,aX DS),(35,2,.qo (m5 .u64 .i64)),(37,4,aX vH),(38,0,.qo (tc 32)),(38,4,aX HD),(38,5,.c Aa [2] [2]),(48,2,.qo (tc 32)),(48,7,bv y4)]) [] aY adE bA [] adM
end
section
open Go
structure vY where
 tb:Nat->Nat
 n:Nat
def tl:aR where
 X:=vY
 args x:=[float f64 x.n,ba 101,ad (-1),ad 64]
 cond x:=nT x.tb/\oE x.n
 aO x F:=lm x.tb F
 val x _:=ay (ai (cJ (tt x.tb x.n)))
def vi(c:Row):List Value:=[au c.a c.n c.cap]
theorem adp(x:vY)(F:ah)(k:tl.cond x)(g:tl.aO x F):((-9223372036854775808:Int)<=(-1:Int)+(4:Int)/\(-1:Int)+(4:Int)<=(9223372036854775807:Int))/\T4 (a7 Tryz.f162 4 3) [ad 0,ad (if (24:Int)>(-1:Int)+(4:Int) then (24:Int) else (-1:Int)+(4:Int))] (fun f e=>aD 176 wx/\true=true/\∃(d:yk),[au (bI e) f.n.toNat f.c.toNat,float f64 x.n,ba 101,ad (-1)]=[au d.r.a d.r.n d.r.cap,float f64 d.n,ba 101,ad (-1)]/\[af e (iu [ba 0] f.c.toNat) 5]=[d.r.A]/\(nT d.tb/\oE d.n/\bz 5 1 [] d.r)/\lm d.tb (aH [(0,F),(5000,af e (iu [ba 0] f.c.toNat) 5)] [5000])/\∀(c:Row),bz 5 1 (bX (tt d.tb d.n)) c->T8 (a7 Tryz.f162 4 8) (vi c) (aH [(0,F),(5000,c.A)] []) (fun b a=>ar tl x F (ay (ai (cJ b.l))) [(0,F),(5000,c.A)])):=by
 delta T4 bI T8 vi aH ad ba ai au af ay;obtain⟨tb,n⟩:=x;obtain⟨h,i⟩:=k;replace g:lm tb F:=g;dsimp only at h i⊢;refine⟨⟨by decide,by decide⟩,DW (P:=Tryz.prog) [.int .u8 0] 1 rfl rfl rfl rfl rfl rfl aL rfl,rfl,⟨0,24⟩,rfl,rfl,⟨cE _,by decide,by decide,by decide⟩,ao,fun b _=>bs adK ⟨tb,⟨some ⟨b,0,none⟩,0,24,.cells b (iu [.int .u8 0] 24) 5⟩,n⟩ ⟨h,i,.fU b 0 24 (iu [.int .u8 0] 24) rfl rfl (by decide)⟩ (by exact g.sub (pd 0 (by decide) rfl)) fun y j=>bs (GN rfl rfl rfl rfl) ⟨y.a,y.n,y.cap,tt tb n⟩ j.src (Sa 5000 (by decide) rfl j) fun _ _=>iS⟩
theorem ado:aD 162 tl:=fo 33 Tryz.func162 (fun _ _=>[(4,3,.o (u0 5 [.int .u8 0] 1) [] [5000]),(4,7,.c wx [5000] [5000]),(4,8,.o yJ [] [])]) [] aY aY bA [] adp
def B9(x:vY):List Value:=[float f64 x.n,ba 101,ad (-1),ad 64]
theorem adu(x:vY)(F:ah)(c:tl.cond x)(d:tl.aO x F):aD 162 tl/\true=true/\∃(b:vY),(B9 x)=(B9 b)/\([]:List ah)=[]/\(nT b.tb/\oE b.n)/\lm b.tb (cP F)/\∀(a:Unit),True->ar tl x F (ay (ai (cJ (tt b.tb b.n)))) [(0,F)]:=by
 delta B9 cP aH ad ba ai ay;exact bs ado ⟨x.tb,x.n⟩ c (by exact lm.sub d (pd 0 (by decide) rfl)) fun _ _=>iS
theorem adt:aD 139 tl:=fo 14 Tryz.func139 (fun _ _=>[(1,4,aX tl)]) [] aY aY bA [] adu
end
section
open Go
structure AB where
 l:List Value
def Bw:aR where
 X:=AB
 args x:=x.l
 cond _:=False
 b_ _ _:=False
 val _ _:=panicked []
def Bo:aR where
 X:=rN
 args x:=[az x.u,az x.v]
 cond x:=x.u<18446744073709551616/\x.v<18446744073709551616
 val x _:=.returned (.tuple #[.int .u64 (x.u*x.v/18446744073709551616:Nat),.int .u64 (x.u*x.v%18446744073709551616:Nat)])
theorem agu(x:rN)(F:ah)(c:Bo.cond x)(d:Bo.aO x F):Dl [az ↑x.u,az ↑x.v] (fun b a=>ar Bo x F (ay (tuple ⟨[az (↑(b.u*b.v/18446744073709551616):Int),az (↑(b.u*b.v%18446744073709551616):Int)]⟩)) [(0,F)]):=by
 delta Dl az ay;exact bO Oe ⟨x.u,x.v⟩ c fun _ _=>iS
theorem agt:aD 178 Bo:=fo 30 Tryz.func178 (fun _ _=>[(3,2,aX Bn)]) [] aY aY bA [] agu
def xB(c:UInt8):List UInt8:=[c,c,c,c,c,c,c,c,c,c,c,c,c,c,c,c,c,c,c,c,c,c,c,c,c,c,c,c,c,c,c,c,c,c,c,c,c,c,c,c,c,c,c,c,c,c,c,c,c,c,c,c,c,c,c,c,c,c,c,c,c,c,c,c]
def al7:ByteArray:=⟨#[48,48,48,48,48,48,48,48,48,48,48,48,48,48,48,48,48,48,48,48,48,48,48,48,48,48,48,48,48,48,48,48,48,48,48,48,48,48,48,48,48,48,48,48,48,48,48,48,48,48,48,48,48,48,48,48,48,48,48,48,48,48,48,48]⟩
def o8(n:Nat):ByteArray:=bif n==0 then ⟨#[]⟩ else bif n==1 then ⟨#[48]⟩ else al7.extract 0 n
theorem Fi(n:Nat)(h:n<=21):(o8 n).size<=21:=by
 unfold o8;cases n==0 with
 |true=>exact dq 21
 |false=>
  rw[aN];cases n==1 with
  |true=>show(ByteArray.mk #[48]).size<=21;decide
  |false=>
   rw[aN,hT];omega
structure CS where
 a:ByteArray
def Bd(b:Bool):aR where
 X:=CS
 args x:=[.string x.a,.string ⟨#[48]⟩]
 cond x:=jt x.a ⟨#[48]⟩=b
 val _ _:=ay (aj b)
theorem NQ(b:Bool):aD 50 (Bd b):=DO.view (fun x=>⟨x.a,⟨#[48]⟩⟩) (fun _=>rfl) (fun _=>rfl) (fun _ _=>ao) (fun _ _ _ _=>ao) (fun x _ a _=>⟨(),ao,by show returned (.bool (jt x.a ⟨#[48]⟩))=_;rw[show jt x.a ⟨#[48]⟩=b from a];rfl,rfl⟩)
structure wa where
 n:Nat
def t_:aR where
 X:=wa
 args x:=[.string ⟨#[48]⟩,.int .i64 x.n]
 cond x:=x.n<=21
 val x _:=ay (ai (o8 x.n))
def Cj:=ay (ai ⟨#[48]⟩)
def sD:ByteArray:=ByteArray.mk #[48]
def ED(h:rN):=decide ((↑(h.u*h.v%18446744073709551616):Int)<=128)
def L9(aa:List Value)(a:CS->Unit->Prop):=aD 50 (Bd false)/\true=true/\∃(z:CS),aa=[ai z.a,ai ⟨#[48]⟩]/\([]:List ah)=[]/\jt z.a sD=false/\True/\∀(b:Unit),True->a z b
def Ex(h:rN):=decide ((↑(h.u*h.v%18446744073709551616):Int)<=64)
def Td(aa:List Value)(a:CS->Unit->Prop):=aD 50 (Bd true)/\true=true/\∃(z:CS),aa=[ai z.a,ai ⟨#[48]⟩]/\([]:List ah)=[]/\jt z.a sD=true/\True/\∀(b:Unit),True->a z b
def JS:ByteArray:=ByteArray.mk (xB 48).toArray
def I4(h:rN)(x:wa)(F:ah):=Td [ai JS,ai ⟨#[48]⟩] (fun b a=>((0:Int)<=(0:Int)/\0<=(↑(h.u*h.v%18446744073709551616):Int)/\(↑(h.u*h.v%18446744073709551616):Int)<=(↑JS.size:Int))/\ar t_ x F (ay (ai (JS.extract (Int.toNat (0:Int)) (↑(h.u*h.v%18446744073709551616):Int).toNat))) [(0,F)])
def Dc(a:FuncId)(aa:List Value)(b:AB->Unit->Prop):=aD a Bw/\true=true/\∃(z:AB),aa=z.l/\([]:List ah)=[]/\False/\True/\∀(c:Unit),False->b z c
def EK(x:wa)(F:ah):AB->Unit->Prop:=fun b a=>ar t_ x F (panicked []) [(0,F)]
def L_(b:Oper)(aa:List Value)(a:AB->Unit->Prop):=e_ Tryz.prog b Bw/\true=true/\∃(z:AB),aa=z.l/\([]:List ah)=[]/\False/\True/\∀(c:Unit),False->a z c
def H1(h:rN)(x:wa)(F:ah):=Br (ED h) (Dc 50 [ai (ByteArray.mk ((xB 61).append (xB 61)).toArray),ai ⟨#[48]⟩] (EK x F)) (Br (Ex h) (Dc 50 [ai (ByteArray.mk (xB 9).toArray),ai ⟨#[48]⟩] (EK x F)) (aS ((↑(h.u*h.v%18446744073709551616):Int)>8192) ((↑sD.size:Int)≠(0:Int)/\bK (Int.tdiv (8192:Int) (↑sD.size:Int))/\bK (Int.tdiv (8192:Int) (↑sD.size:Int)*(↑sD.size:Int))/\L_ ⟨some 9,Op.alloc 95,0,"strings.go:657",⟨[]⟩,none⟩ [] (EK x F)) (L_ ⟨some 9,Op.alloc 95,0,"strings.go:657",⟨[]⟩,none⟩ [] (EK x F))))
def P2(h:rN)(x:wa)(F:ah):=L9 [ai (ByteArray.mk ((xB 45).append (xB 45)).toArray),ai ⟨#[48]⟩] (fun d c=>Br (Ex h) (I4 h x F) (H1 h x F))
theorem ajw(x:wa)(F:ah)(c:t_.cond x)(j:t_.aO x F):Br ((x.n:Int)==0) (ar t_ x F (ay (ai ⟨#[]⟩)) [(0,F)]) (Br ((x.n:Int)==1) (ar t_ x F Cj [(0,F)]) ((0<=(↑sD.size:Int)/\(↑sD.size:Int)<=18446744073709551615)/\(0<=(x.n:Int)/\(x.n:Int)<=18446744073709551615)/\aD 178 Bo/\true=true/\∃(h:rN),[az (↑sD.size:Int),az ↑x.n]=[az ↑h.u,az ↑h.v]/\([]:List ah)=[]/\(h.u<18446744073709551616/\h.v<18446744073709551616)/\True/\∀(g:Unit),True->aS ((↑(h.u*h.v/18446744073709551616):Int)>0) False (aS ((↑(h.u*h.v%18446744073709551616):Int)>9223372036854775807) False (bK (↑(h.u*h.v%18446744073709551616):Int)/\((0:Int)<=(0:Int)/\0<(↑sD.size:Int))/\Br (ED h) (L9 [ai (ByteArray.mk ((xB 32).append (xB 32)).toArray),ai ⟨#[48]⟩] (fun f e=>Br (ED h) (P2 h x F) (Br (Ex h) (I4 h x F) (H1 h x F)))) (Br (ED h) (P2 h x F) (Br (Ex h) (I4 h x F) (H1 h x F))))))):=by
 delta Cj sD ED L9 Ex Td JS I4 Dc EK L_ H1 P2 bK az ai aS ay;obtain⟨n⟩:=x;have hn:n<=21:=c;dsimp only;refine aG (fun q=>⟨(),ao,?_,aA [0]⟩) (fun q=>aG (fun q2=>⟨(),ao,?_,aA [0]⟩) (fun q2=>⟨⟨by decide,by decide⟩,aK,agt,rfl,⟨1,n⟩,rfl,rfl,⟨(by grind),a_⟩,ao,fun _ _=>?_⟩))
 ·have:n=0:=by have:=eq_of_beq q;omega
  subst this;rfl
 ·have:n=1:=by have:=eq_of_beq q2;omega
  subst this;rfl
 have d:n≠0:=by have:=ff.1 q;omega
 have i:n≠1:=by have:=ff.1 q2;omega
 dsimp only;have e1:1*n/18446744073709551616=0:=ae;have a:1*n%18446744073709551616=n:=ae;rw[e1,a];refine bo (fun q=>absurd q (by decide)) (fun _=>bo (fun q=>absurd q ae) (fun _=>⟨aK,⟨by decide,by decide⟩,bo (fun _=>⟨NQ false,rfl,⟨_⟩,rfl,rfl,by decide+kernel,ao,fun _ _=>bo (fun _=>⟨NQ false,rfl,⟨_⟩,rfl,rfl,by decide+kernel,ao,fun _ _=>bo (fun _=>⟨NQ true,rfl,⟨_⟩,rfl,rfl,by decide+kernel,ao,fun _ _=>⟨⟨by decide,ae,?_⟩,(),ao,?_,aA [0]⟩⟩) (fun q=>absurd ae q)⟩) (fun q=>absurd ae q)⟩) (fun q=>absurd ae q)⟩))
 ·exact Int.le_trans (b:=64) ae (by decide)
 ·show _=returned (.string (o8 n));unfold o8;rw[ff.2 d,ff.2 i];rfl
theorem WW:aD 164 t_:=fo 125 Tryz.func164 (fun _ _=>[(8,2,.ck),(8,4,.ck),(8,5,aX Bo),(11,1,.ck),(20,4,aX (Bd false)),(22,4,aX (Bd false)),(24,4,aX (Bd true)),(26,4,aX Bw),(28,4,aX Bw),(35,0,.o Bw [] []),(25,1,.sl)]) [] aY aY bA [] ajw
def uZ(ds:ByteArray):ByteArray:=ds.extract 0 1++(bif decide ((ds.size:Int)>1) then ⟨#[46]⟩++ds.extract 1 ds.size else ⟨#[]⟩)
def sq(ds:ByteArray)(n:Int):ByteArray:=bif decide (n-1<0) then uZ ds++⟨#[101,45]⟩++⟨(Lib.itoa (1-n)).toArray⟩ else uZ ds++⟨#[101,43]⟩++⟨(Lib.itoa (n-1)).toArray⟩
def jY(ds:ByteArray)(n:Int):ByteArray:=
 bif decide ((ds.size:Int)<=n)&&decide (n<=21) then ds++o8 (n-ds.size).toNat
 else bif decide (0<n)&&decide (n<=21) then ds.extract 0 n.toNat++⟨#[46]⟩++ds.extract n.toNat ds.size
 else bif decide (-6<n)&&decide (n<=0) then ⟨#[48,46]⟩++o8 (-n).toNat++ds
 else sq ds n
structure rM where
 ds:ByteArray
 n:Int
def wE:aR where
 X:=rM
 args x:=[ai x.ds,ad x.n]
 cond x:=1<=x.ds.size/\x.ds.size<=1000/\ -1000<=x.n/\x.n<=1000
 aO _ F:=i7 F
 val x _:=ay (ai (jY x.ds x.n))
variable{p q:Prop}
theorem Ng[Decidable p][Decidable q]{A B:Prop}(d:p->q->A)(c:¬(p/\q)->B):Br (decide p) (Br (decide q) A B) B:=bo (fun a=>bo (fun b=>d a b) (fun b=>c (fun e=>b e.2))) (fun a=>c (fun e=>a e.1))
theorem M6[Decidable p][Decidable q](h:¬(p/\q)):(decide p&&decide q)=false:=by
 grind
theorem Hr{n:Int}(a: -2000<=n)(b:n<=2000):(ByteArray.mk (Lib.itoa n).toArray).size<=5:=by
 show(Lib.itoa n).toArray.size<=5;rw[List.size_toArray];have key:∀u:Nat,u<=2000->(Lib.decDigits u).length<=4:=fun u c=>by
  rw[Lib.decDigits_eq,List.length_map,List.length_range];exact HE 3 u ae
 unfold Lib.itoa;grind
theorem VH(ds:ByteArray):(uZ ds).size<=2*ds.size+1:=by
 unfold uZ;have e0:(ds.extract 0 1).size<=ds.size:=by rw[hT];omega
 cases decide ((ds.size:Int)>1)with
 |true=>
  rw[aU,kQ,kQ,@ByteArray.size_extract ds 1 ds.size];show _+(1+_)<=_;omega
 |false=>
  rw[aN,kQ];show _+0<=_;omega
theorem afV{ds:ByteArray}{n:Int}(d:ds.size<=1000)(e: -1000<=n)(f:n<=1000):(jY ds n).size<=4000:=by
 have g:=VH ds;unfold jY;by_cases a:(ds.size:Int)<=n/\n<=21
 ·rw[bw a.1,bw a.2];show(ds++o8 (n-ds.size).toNat).size<=4000;have:=Fi (n-ds.size).toNat ae;grind
 ·rw[M6 a,aN];by_cases b:0<n/\n<=21
  ·rw[bw b.1,bw b.2];show(ds.extract 0 n.toNat++⟨#[46]⟩++ds.extract n.toNat ds.size).size<=4000;rw[kQ,kQ,hT,hT];show _+1+_<=_;omega
  ·rw[M6 b,aN];by_cases c: -6<n/\n<=0
   ·rw[bw c.1,bw c.2];show(⟨#[48,46]⟩++o8 (-n).toNat++ds).size<=4000;have:=Fi (-n).toNat ae;rw[kQ,kQ];show 2+_+_<=_;omega
   ·rw[M6 c,aN];unfold sq;cases decide (n-1<0)with
    |true=>
     rw[aU,kQ,kQ];have:=Hr (n:=1-n) ae ae;show _+2+_<=_;omega
    |false=>
     rw[aN,kQ,kQ];have:=Hr (n:=n-1) ae ae;show _+2+_<=_;omega
def afU(x:rM)(F:ah):Nat->Option Inv:=fun
 |8=>some {X:=Unit,P:=fun _=>jY x.ds x.n=sq x.ds x.n,mu:=fun _=>0,lv:=fun _=>[(0,ai x.ds),(1,ad x.n),(5,ad (x.ds.size:Nat))],st:=fun _=>[F]}
 |11=>some {X:=ByteArray,P:=fun d=>jY x.ds x.n=sq x.ds x.n/\d=uZ x.ds,mu:=fun _=>0,lv:=fun d=>[(1,ad x.n),(6,ai d)],st:=fun _=>[F]}
 |_=>none
def Ma(aa:List Value)(a:wa->Unit->Prop):=aD 164 t_/\true=true/\∃(z:wa),aa=[ai ⟨#[48]⟩,ad ↑z.n]/\([]:List ah)=[]/\z.n<=21/\True/\∀(b:Unit),True->a z b
def Mb(e0:rM)(e1:ah)(a:St):=∃(z:Unit),jY e0.ds e0.n=sq e0.ds e0.n/\(ai e0.ds=ai e0.ds/\ad e0.n=ad e0.n/\ad ↑e0.ds.size=ad ↑e0.ds.size/\True)/\aE a [(0,e1)]
def OR(x:rM)(F:ah):=aS ((-6:Int)<x.n) (aS (x.n<=0) (Ma [ai ⟨#[48]⟩,ad (bV ((0:Int)-x.n))] (fun b a=>2+(o8 b.n).size<=9223372036854775807/\((ByteArray.mk #[48,46])++o8 b.n).size+x.ds.size<=9223372036854775807/\ar wE x F (ay (ai ((ByteArray.mk #[48,46])++o8 b.n++x.ds))) [(0,F)])) (Mb x F [(0,F)])) (Mb x F [(0,F)])
def Pg(x:rM)(F:ah):=aS (0<x.n) (aS (x.n<=21) (true=true/\((0:Int)<=(0:Int)/\0<=x.n/\x.n<=x.ds.size)/\(x.ds.extract (Int.toNat (0:Int)) x.n.toNat).size+1<=9223372036854775807/\(0<=x.n/\x.n<=x.ds.size/\(x.ds.size:Int)<=(x.ds.size:Int))/\(x.ds.extract (Int.toNat (0:Int)) x.n.toNat++(ByteArray.mk #[46])).size+(x.ds.extract x.n.toNat (x.ds.size:Int).toNat).size<=9223372036854775807/\ar wE x F (ay (ai (x.ds.extract (Int.toNat (0:Int)) x.n.toNat++(ByteArray.mk #[46])++x.ds.extract x.n.toNat (x.ds.size:Int).toNat))) [(0,F)]) (OR x F)) (OR x F)
def Mc(e0:rM)(e1:ah)(v0:Value)(a:St):=∃(z:ByteArray),(jY e0.ds e0.n=sq e0.ds e0.n/\z=uZ e0.ds)/\(ad e0.n=ad e0.n/\v0=ai z/\True)/\aE a [(0,e1)]
def Q9(x:rM):=(-9223372036854775808:Int)<=x.n-1/\x.n-1<=(9223372036854775807:Int)
def Md(aa:List Value)(rr:ah)(a:mC->Unit->Prop):=aD 120 DQ/\true=true/\∃(z:mC),aa=[ad z.i]/\([]:List ah)=[]/\((-9223372036854775808:Int)<=z.i/\z.i<=9223372036854775807)/\i7 rr/\∀(b:Unit),True->a z b
def ET(b:mC):ByteArray:=ByteArray.mk (Lib.itoa b.i).toArray
theorem afX(x:rM)(F:ah)(o:wE.cond x)(e:wE.aO x F):aS (x.ds.size<=x.n) (aS (x.n<=21) (bK (x.n-x.ds.size)/\Ma [ai ⟨#[48]⟩,ad (x.n-x.ds.size)] (fun b a=>x.ds.size+(o8 b.n).size<=9223372036854775807/\ar wE x F (ay (ai (x.ds++o8 b.n))) [(0,F)])) (Pg x F)) (Pg x F)/\aT fun(f:Unit)_=>jY x.ds x.n=sq x.ds x.n->((0:Int)<=(0:Int)/\(0:Int)<=(1:Int)/\1<=(x.ds.size:Int))/\aS ((x.ds.size:Int)>1) (((0:Int)<=(1:Int)/\1<=(x.ds.size:Int)/\(x.ds.size:Int)<=(x.ds.size:Int))/\1+(x.ds.extract (Int.toNat (1:Int)) (x.ds.size:Int).toNat).size<=9223372036854775807/\(x.ds.extract (Int.toNat (0:Int)) (Int.toNat (1:Int))).size+((ByteArray.mk #[46])++x.ds.extract (Int.toNat (1:Int)) (x.ds.size:Int).toNat).size<=9223372036854775807/\Mc x F (ai (x.ds.extract (Int.toNat (0:Int)) (Int.toNat (1:Int))++((ByteArray.mk #[46])++x.ds.extract (Int.toNat (1:Int)) (x.ds.size:Int).toNat))) [(0,F)]) (Mc x F (ai (x.ds.extract (Int.toNat (0:Int)) (Int.toNat (1:Int)))) [(0,F)])/\aT fun(d:ByteArray)_=>(jY x.ds x.n=sq x.ds x.n/\d=uZ x.ds)->Q9 x/\aS (x.n-1<(0:Int)) (d.size+2<=9223372036854775807/\bK ((1:Int)-x.n)/\Md [ad ((1:Int)-x.n)] (cP F) (fun b a=>(d++(ByteArray.mk #[101,45])).size+(ET b).size<=9223372036854775807/\ar wE x F (ay (ai (d++(ByteArray.mk #[101,45])++(ET b)))) [(0,F)])) (d.size+2<=9223372036854775807/\Q9 x/\Md [ad (x.n-1)] (cP F) (fun b a=>(d++(ByteArray.mk #[101,43])).size+(ET b).size<=9223372036854775807/\ar wE x F (ay (ai (d++(ByteArray.mk #[101,43])++(ET b)))) [(0,F)])):=by
 delta Ma Mb OR Pg Mc Q9 Md cP ET aH bK ad ai bV aS ay aT;obtain⟨ds,n⟩:=x;obtain⟨j,k,l,m⟩:=o;replace e:i7 F:=e;dsimp only at j k l m⊢;have u:=VH ds;have g:∀a b:Nat,(ds.extract a b).size<=1000:=fun a b=>by rw[hT];omega
 have h:((ds.size:Nat):Int).toNat=ds.size:=cy _;rw[h];refine⟨Ng (fun a b=>⟨aK,WW,rfl,⟨(n-ds.size).toNat⟩,?_,rfl,by grind,ao,fun _ _=>⟨?_,(),ao,?_,aA [0]⟩⟩) (fun r=>Ng (fun a b=>⟨rfl,⟨by decide,ae,ae⟩,?_,⟨ae,ae,ae⟩,?_,(),ao,?_,aA [0]⟩) (fun s=>Ng (fun a b=>⟨WW,rfl,⟨(-n).toNat⟩,?_,rfl,by grind,ao,fun _ _=>⟨?_,?_,(),ao,?_,aA [0]⟩⟩) (fun t=>⟨(),?_,aV,aA [0]⟩))),?_⟩
 ·grind
 ·have:=Fi (n-ds.size).toNat ae;grind
 ·show _=returned (.string (jY ds n));unfold jY;simp[*]
 ·grind
 ·have q1:=g (Int.toNat 0) n.toNat;have q2:=g n.toNat ds.size;rw[kQ];show _+1+_<=_;omega
 ·show _=returned (.string (jY ds n));unfold jY;grind
 ·rw[dG (i:=.i64) (n:=0-n) aK,show 0-n=(((-n).toNat:Nat):Int) by omega]
 ·have:=Fi (-n).toNat ae;grind
 ·have:=Fi (-n).toNat ae;dsimp only;rw[kQ];show 2+_+_<=_;omega
 ·show _=returned (.string (jY ds n));unfold jY;grind
 ·show jY ds n=sq ds n;unfold jY;grind
 rintro _ p c;refine⟨⟨by decide,by decide,ae⟩,⟨bo (fun q=>⟨⟨by decide,ae,ae⟩,?_,?_,_,⟨c,?_⟩,aV,aA [0]⟩) (fun q=>⟨_,⟨c,?_⟩,aV,aA [0]⟩),?_⟩⟩
 ·grind
 ·have q1:=g (Int.toNat 0) (Int.toNat 1);have q2:=g (Int.toNat 1) ds.size;rw[kQ];show _+(1+_)<=_;omega
 ·unfold uZ;simp[*]
 ·unfold uZ;rw[bF q,aN];exact(ByteArray.append_empty (b:=ds.extract 0 1)).symm
 rintro d p ⟨-,rfl⟩;refine⟨aK,bo (fun q=>⟨ae,aK,Vh,rfl,⟨1-n⟩,rfl,rfl,⟨by grind,by grind⟩,by exact e.sub (pd 0 (by decide) rfl),fun _ _=>⟨?_,(),ao,?_,aA [0]⟩⟩) (fun q=>⟨ae,aK,Vh,rfl,⟨n-1⟩,rfl,rfl,⟨by grind,by grind⟩,by exact e.sub (pd 0 (by decide) rfl),fun _ _=>⟨?_,(),ao,?_,aA [0]⟩⟩)⟩
 ·have:=Hr (n:=1-n) ae ae;rw[kQ];show _+2+(ByteArray.mk (Lib.itoa (1-n)).toArray).size<=_;omega
 ·show _=returned (.string (jY ds n));rw[c];unfold sq;simp[*]
 ·have:=Hr (n:=n-1) ae ae;rw[kQ];show _+2+(ByteArray.mk (Lib.itoa (n-1)).toArray).size<=_;omega
 ·show _=returned (.string (jY ds n));rw[c];unfold sq;simp[*]
theorem afW:aD 141 wE:=fo 75 Tryz.func141 (fun _ _=>[(3,4,aX t_),(7,2,aX t_),(7,1,aW),(12,4,aX DQ),(13,4,aX DQ)]) [] aY afU bA [] afX
end
section
open Go
theorem Va(c:UInt8)(b:List UInt8):∀a:List UInt8,c∉a->Lib.index (a++c::b) [c]=a.length
 | [],_=>by
  show Lib.index (c::b) [c]=0;unfold Lib.index;rw[if_pos (by simp[List.isPrefixOf])]
 |x::a,h=>by
  have d:c≠x:=fun e=>h (e▸lC);have f:=Va c b a (fun e=>h (pO _ e));show Lib.index (x::(a++c::b)) [c]=_;unfold Lib.index;rw[if_neg (by simp[List.isPrefixOf,d]),f];have:((a.length:Int)== -1)=false:=by rw[ff];omega
  rw[this];simp
theorem ab_(c:UInt8)(a b:List UInt8)(h:c∉a):Lib.cut (a++c::b) [c]=(a,b,true):=by
 unfold Lib.cut;rw[Va c b a h,if_pos (Int.natCast_nonneg _),cy,List.take_left' rfl];simp[*]
theorem ai_(c:UInt8)(l:List UInt8):(Lib.replace l [c] [] 1).length<=l.length/\(l≠[]->l≠[c]->1<=(Lib.replace l [c] [] 1).length):=by
 unfold Lib.replace;rw[if_neg aL];have hk:Lib.replaceNum l [c] 1=0\/Lib.replaceNum l [c] 1=1:=by
  unfold Lib.replaceNum;grind
 rcases hk with hk|hk
 ·rw[hk];show l.length<=l.length/\(l≠[]->l≠[c]->1<=l.length);exact⟨bZ _,fun h _=>by cases l with|nil=>exact absurd rfl h|cons x l=>simp⟩
 ·rw[hk,Lib.replaceK];by_cases a:(Lib.index l [c]== -1)=true
  ·rw[if_pos a];exact⟨bZ _,fun h _=>by cases l with|nil=>exact absurd rfl h|cons x l=>simp⟩
  ·rw[if_neg a];have g:=Lib.index_ge l [c];have b:Lib.index l [c]≠-1:=fun e=>a (by rw[e];rfl);have d:=Lib.index_room l [c] ae;have e1:[c].length=1:=rfl;rw[e1]at d⊢;show(l.take (Lib.index l [c]).toNat++[]++l.drop ((Lib.index l [c]).toNat+1)).length<=_/\_;rw[dn,dJ,List.length_take,List.length_drop];refine⟨ae,fun h f=>?_⟩;cases l with
   |nil=>exact absurd rfl h
   |cons x l=>
    cases l with
    |nil=>
     exfalso;by_cases hx:x=c
     ·grind
     ·apply b;unfold Lib.index;rw[if_neg (by grind)];rfl
    |cons y l=>
     rw[Lib.replaceK];grind
def mO(neg:Bool)(ds:List Nat)(nd:Nat):List Nat:=eJ neg++[eB ds nd]++gk ds nd
def ni(dp:Int)(nd:Nat):List Nat:=mH (eg dp nd)::mI (eg dp nd).natAbs
def gg(l:List Nat):List UInt8:=l.map fun n=>UInt8.ofNat n
theorem adk(neg:Bool)(ds:List Nat)(dp:Int)(nd:Nat):(cJ (qF neg ds dp nd)).data.toList=gg (mO neg ds nd)++101::gg (ni dp nd):=by
 unfold cJ gg qF mO ni;simp
def CP(ds:List Nat):Prop:=∀b∈ds,b=0\/(48<=b/\b<=57)
theorem acB(u n z:Nat):CP (jQ u n z):=by
 unfold jQ r_;intro b a;grind
variable{neg:Bool}{dp:Int}{ds:List Nat}{n nd:Nat}{tb:Nat->Nat}
theorem UJ(h:CP ds)(nd:Nat):eB ds nd=0\/(48<=eB ds nd/\eB ds nd<=57):=by
 unfold eB;cases nd==0 with
 |true=>exact .inr ⟨(by simp[*]),(by decide:48<=57)⟩
 |false=>
  rw[aN];cases ds with
  |nil=>exact .inl rfl
  |cons x l=>exact h x lC
theorem agp(h:CP ds)(nd:Nat):∀b∈mO neg ds nd,b≠101/\b<256:=by
 unfold mO;intro b a;rcases List.mem_append.1 a with a|a
 ·rcases List.mem_append.1 a with a|a
  ·unfold eJ at a;grind
  ·rw[List.mem_singleton]at a;have:=UJ h nd;omega
 ·unfold gk at a;cases hd:decide (nd>1)with
  |false=>rw[hd]at a;cases a
  |true=>
   rw[hd,aU]at a;rcases List.mem_cons.1 a with a|a
   ·omega
   ·have:=h b (List.mem_of_mem_take (List.mem_of_mem_drop a));omega
theorem ago(h:CP ds)(nd:Nat):(101:UInt8)∉gg (mO neg ds nd):=by
 intro d;obtain⟨b,c,e⟩:=List.mem_map.1 d;have f:=agp h nd b c;have a:=congrArg UInt8.toNat e;rw[UInt8.toNat_ofNat']at a;grind
theorem agr(hl:ds.length=32):1<=(gg (mO neg ds nd)).length/\(gg (mO neg ds nd)).length<=34:=by
 obtain⟨a,b⟩:=UL neg ds nd hl;unfold gg mO;grind
theorem agq(h:CP ds):gg (mO neg ds nd)≠[46]:=by
 intro e;have a:=congrArg List.length e;unfold gg mO at a;rw[List.length_map,dJ,dJ,tq]at a;have d:([46]:List UInt8).length=1:=rfl;rw[d]at a;have e1:eJ neg=[]:=List.eq_nil_of_length_eq_zero ae;have c:gk ds nd=[]:=List.eq_nil_of_length_eq_zero ae;unfold gg mO at e;rw[e1,c]at e;have e:[UInt8.ofNat (eB ds nd)]=[46]:=e;have b:=congrArg UInt8.toNat (List.cons.inj e).1;rw[UInt8.toNat_ofNat']at b;have:(46:UInt8).toNat=46:=rfl;rw[this]at b;have:=UJ h nd;omega
theorem UK(n:Nat):2<=(mI n).length/\(mI n).length<=3:=by
 unfold mI;cases decide (n<10)with
 |true=>exact⟨(by simp[*]),(by decide:2<=3)⟩
 |false=>
  rw[aN];cases decide (n<100)with
  |true=>exact⟨(by decide:2<=2),(by decide:2<=3)⟩
  |false=>exact⟨(by decide:2<=3),(by decide:3<=3)⟩
theorem adi(a: -900<=dp)(b:dp<=900):(eg dp nd).natAbs<=999:=by
 unfold eg;grind
theorem abE(l:List UInt8)(i:Nat):aF ⟨⟨l⟩⟩ (i:Nat)=((l.getD i 0).toNat:Int):=by
 rfl
theorem acT(a: -900<=dp)(b:dp<=900):uv ⟨⟨gg (ni dp nd)⟩⟩:=by
 have c:=adi (nd:=nd) a b;obtain⟨x1,x2⟩:=UK (eg dp nd).natAbs;have d:=adl c;have hs:(ByteArray.mk ⟨gg (ni dp nd)⟩).size=(mI (eg dp nd).natAbs).length+1:=by
  show(gg (ni dp nd)).length=_;unfold gg ni;simp[*]
 have hd:((ByteArray.mk ⟨gg (ni dp nd)⟩).extract 1 (ByteArray.mk ⟨gg (ni dp nd)⟩).size)=⟨⟨gg (mI (eg dp nd).natAbs)⟩⟩:=by
  apply ByteArray.ext;apply Array.ext';rw[DH];rfl
 refine⟨ae,ae,?_,fun i hi=>?_⟩
 ·have:aF ⟨⟨gg (ni dp nd)⟩⟩ 0=((UInt8.ofNat (mH (eg dp nd))).toNat:Int):=rfl;rw[this];unfold mH;cases decide (eg dp nd<0)with
  |true=>right;decide
  |false=>left;decide
 ·rw[hd]at hi⊢;have hi:i<(gg (mI (eg dp nd).natAbs)).length:=hi;rw[abE];unfold gg at hi⊢;rw[List.length_map]at hi;rw[ft,fV,fg hi];have:=d _ (List.getElem_mem hi);show 48<=((UInt8.ofNat (mI (eg dp nd).natAbs)[i]).toNat:Int)/\((UInt8.ofNat (mI (eg dp nd).natAbs)[i]).toNat:Int)<=57;rw[UInt8.toNat_ofNat'];omega
theorem aaV(t:ByteArray)(h:∀i:Nat,i<t.size->48<=aF t i/\aF t i<=57):∀i,i<=t.size->0<=lu t i/\lu t i<10^i:=by
 intro i
 induction i with
 |zero=>intro _;exact⟨cE 0,by show(0:Int)<10^0;decide⟩
 |succ i c=>
  intro hi;obtain⟨a,b⟩:=c ae;have:=h i ae;rw[lu,Int.pow_succ];omega
theorem aaX{s:ByteArray}(h:uv s)(hs:s.size<=4): -999<=lX s/\lX s<=999:=by
 have hx:(s.extract 1 s.size).size=s.size-1:=by simp[*]
 have d:=h.lo;obtain⟨a,b⟩:=aaV _ h.gV (s.size-1) ae;have c:(10:Int)^(s.size-1)<=1000:=by
  have a:10^(s.size-1)<=10^3:=nn (by decide) ae;grind
 unfold lX;grind
def oR(tb:Nat->Nat)(n:Nat):ByteArray:=cJ (tt tb n)
def akG:ByteArray:=⟨#[101]⟩
def KO(tb:Nat->Nat)(n:Nat):List UInt8×List UInt8×Bool:=r9 (oR tb n) akG
def rB(tb:Nat->Nat)(n:Nat):ByteArray:=⟨(KO tb n).1.toArray⟩
def nJ(tb:Nat->Nat)(n:Nat):ByteArray:=⟨(KO tb n).2.1.toArray⟩
def vN(tb:Nat->Nat)(n:Nat):ByteArray:=⟨(Fg ⟨rB tb n,⟨#[46]⟩,⟨#[]⟩,1⟩).toArray⟩
def FE(tb:Nat->Nat)(n:Nat):ByteArray:=jY (vN tb n) (lX (nJ tb n)+1)
def pj(tb:Nat->Nat)(n:Nat):ByteArray:=bif cG .neq n n then ⟨#[78,97,78]⟩ else bif cG .eql n 0 then ⟨#[48]⟩ else bif pP n then ⟨#[73,110,102,105,110,105,116,121]⟩ else FE tb n
def nI(tb:Nat->Nat)(n:Nat):ByteArray:=bif cG .neq n n then ⟨#[78,97,78]⟩ else bif cG .eql n 0 then ⟨#[48]⟩ else bif cG .lss n 0 then ⟨#[45]⟩++pj tb (Op.negFloat .f64 n) else bif pP n then ⟨#[73,110,102,105,110,105,116,121]⟩ else FE tb n
structure aao(tb:Nat->Nat)(n:Nat):Prop where
 fs:(oR tb n).size<=100
 ms:(rB tb n).size<=100
 xo:uv (nJ tb n)
 xl: -999<=lX (nJ tb n)/\lX (nJ tb n)<=999
 dl:1<=(vN tb n).size
 dh:(vN tb n).size<=1000
theorem Sx(m:nT tb)(h:oE n):aao tb n:=by
 obtain⟨q1,q2,q3,q4⟩:=UU m.lt m.ge h;obtain⟨u,q⟩:∃u:Nat,(qJ tb n).1=u:=⟨(qJ tb n).1.toNat,ae⟩;have s:=Lib.nDigits_pos u;have t:=HE 19 u ae;have e0:tt tb n=qF (jr n) (jQ u (Lib.nDigits u) 32) (Lib.nDigits u+(qJ tb n).2) (jH u (Lib.nDigits u) (Lib.nDigits u)):=by
  unfold tt;simp[*]
 have a: -900<=((Lib.nDigits u:Nat):Int)+(qJ tb n).2:=ae;have b:((Lib.nDigits u:Nat):Int)+(qJ tb n).2<=900:=ae;have d:=acB u (Lib.nDigits u) 32;have c:(jQ u (Lib.nDigits u) 32).length=32:=Uq ae;generalize jQ u (Lib.nDigits u) 32=ds at e0 d c;generalize ((Lib.nDigits u:Nat):Int)+(qJ tb n).2=dp at e0 a b;generalize jH u (Lib.nDigits u) (Lib.nDigits u)=nd at e0;have e1:(oR tb n).data.toList=gg (mO (jr n) ds nd)++101::gg (ni dp nd):=by
  unfold oR;rw[e0];exact adk _ _ _ _
 have j:KO tb n=(gg (mO (jr n) ds nd),gg (ni dp nd),true):=by
  unfold KO r9;rw[e1];exact ab_ _ _ _ (ago d nd)
 obtain⟨m1,r⟩:=agr (neg:=jr n) (nd:=nd) c;obtain⟨x1,x2⟩:=UK (eg dp nd).natAbs;have l:nJ tb n=⟨⟨gg (ni dp nd)⟩⟩:=by unfold nJ;rw[j]
 have k:rB tb n=⟨⟨gg (mO (jr n) ds nd)⟩⟩:=by unfold rB;rw[j]
 have i:(nJ tb n).size<=4:=by
  rw[l];show(gg (ni dp nd)).length<=4;unfold gg ni;simp[*]
 have f:uv (nJ tb n):=by rw[l];exact acT a b
 have p:=ai_ 46 (gg (mO (jr n) ds nd));have o:(vN tb n).size=(Lib.replace (gg (mO (jr n) ds nd)) [46] [] 1).length:=by
  unfold vN Fg;rw[k];rfl
 refine⟨?_,?_,f,aaX f i,?_,?_⟩
 ·have g:(oR tb n).size=(oR tb n).data.toList.length:=by simp
  rw[g,e1,dJ,qH];have:(gg (ni dp nd)).length<=4:=by
   unfold gg ni;simp[*]
  omega
 ·rw[k];show(gg (mO (jr n) ds nd)).length<=100;omega
 ·rw[o];exact p.2 (fun e=>by rw[e]at m1;exact absurd m1 (by decide)) (agq d)
 omega
theorem Xy(a:nT tb)(h:oE n):(FE tb n).size<=4000:=by
 have:=Sx a h;exact afV this.dh (by have:=this.xl;omega) (by have:=this.xl;omega)
theorem HP(m:Nat)(i j:Int):((Ieee.Datum.number false m i).order (.number false 0 j)==some .lt)=false:=by
 unfold Ieee.Datum.order;dsimp only;generalize (i-min i j).toNat=a;generalize (j-min i j).toNat=b;have c:0<=Ieee.signed false m a:=by
  unfold Ieee.signed;grind
 have d:Ieee.signed false 0 b=0:=by unfold Ieee.signed;simp
 grind
theorem V1(h:cG .lss n 0=true):cG .lss (Op.negFloat .f64 n) 0=false:=by
 have e0:f64.format.read 0= .number false 0 Ieee.double.leastPlace:=by rfl
 have d:Op.negFloat .f64 n%9223372036854775808=n%9223372036854775808:=by
  show(n^^^2^63)%9223372036854775808=_;rw[show(9223372036854775808:Nat)=2^63 by decide,Nat.xor_mod_two_pow,Nat.mod_self,Nat.xor_zero]
 have hd:(Op.negFloat .f64 n/9223372036854775808)%2=1-n/9223372036854775808%2:=by
  show((n^^^2^63)/9223372036854775808)%2=_;rw[show(9223372036854775808:Nat)=2^63 by decide,<-Nat.shiftRight_eq_div_pow,Nat.shiftRight_xor_distrib,<-Nat.shiftRight_eq_div_pow,show 2^63>>>63=1 by omega];generalize n>>>63=m;have:=Nat.mod_two_eq_zero_or_one m;have f:(m^^^1)%2=(m%2)^^^1:=by
   have:=Nat.xor_mod_two_pow (a:=m) (b:=1) (n:=1);omega
  grind
 unfold cG Ieee.Format.order at h⊢;dsimp only at h⊢;rw[e0]at h⊢;have e:∀x,f64.format.read x=Ieee.double.read x:=fun _=>rfl;rw[e]at h⊢;unfold Ieee.Format.read at h⊢;dsimp only at h⊢;rw[Ai]at h⊢;rw[d,hd];generalize n%9223372036854775808=r at h⊢;generalize hs:n/9223372036854775808%2=s at h⊢;have c:s=0\/s=1:=ae;rcases c with rfl|rfl
 ·exfalso;revert h;rw[show((0:Nat)==1)=false from rfl];split
  ·exact fun h=>by rw[HP]at h;cases h
  ·split
   ·exact fun h=>by rw[HP]at h;cases h
   ·split
    ·exact fun h=>by cases h
    ·exact fun h=>by cases h
 ·rw[show((1-1:Nat)==1)=false from rfl];split
  ·exact HP _ _ _
  ·split
   ·exact HP _ _ _
   ·split <;> rfl
end
section
open Go
variable{n:Nat}
theorem ai7(h:n%9223372036854775808=0):∃s,f64.format.read n= .number s 0 Ieee.double.leastPlace:=by
 refine⟨n/9223372036854775808%2==1,?_⟩;show Ieee.double.read n=_;unfold Ieee.Format.read;dsimp only;rw[Ai,h];rfl
theorem ai4(h:n%9223372036854775808=9218868437227405312):∃s,f64.format.read n= .infinity s:=by
 refine⟨n/9223372036854775808%2==1,?_⟩;show Ieee.double.read n=_;unfold Ieee.Format.read;dsimp only;rw[Ai,h];rfl
theorem ai5(h:9218868437227405312<n%9223372036854775808):∃s k,f64.format.read n= .nan s k:=by
 refine⟨n/9223372036854775808%2==1,n%9223372036854775808-9218868437227405312,?_⟩;show Ieee.double.read n=_;unfold Ieee.Format.read;dsimp only;rw[Ai];have b1:Ieee.double.binade=4503599627370496:=by decide+kernel
 have b2:Ieee.double.infRung=9218868437227405312:=by decide+kernel
 rw[b1,b2,if_neg ae,if_neg ae,if_neg ae]
theorem Hb(a:cG .neq n n=false)(b:cG .eql n 0=false)(c:cG .lss n 0=false)(d:pP n=false):oE n:=by
 have e0:f64.format.read 0= .number false 0 Ieee.double.leastPlace:=by decide+kernel
 refine⟨Nat.pos_of_ne_zero fun e=>?_,Nat.lt_of_not_le fun e=>?_⟩
 ·obtain⟨s,hs⟩:=ai7 e;unfold cG Ieee.Format.order at b;dsimp only at b;rw[hs,e0]at b;cases s <;> exact absurd b (by decide+kernel)
 ·rcases Nat.lt_or_eq_of_le e with e|e
  ·obtain⟨s,k,hs⟩:=ai5 e;unfold cG Ieee.Format.order at a;dsimp only at a;rw[hs]at a;cases a
  ·obtain⟨s,hs⟩:=ai4 e.symm;cases s with
   |true=>
    unfold cG Ieee.Format.order at c;dsimp only at c;rw[hs,e0]at c;exact absurd c (by decide+kernel)
   |false=>
    unfold pP cG Ieee.Format.order at d;dsimp only at d;rw[hs]at d;exact absurd d (by decide+kernel)
def NE:aR where
 X:=vY
 Y:=ByteArray
 args x:=[float f64 x.n,ba 101,ad (-1),ad 64]
 cond x:=nT x.tb/\oE x.n
 aO x F:=lm x.tb F
 b_ x y:=y=oR x.tb x.n
 val _ y:=ay (ai y)
theorem UM:aD 139 NE:=adt.view (fun x=>x) (fun _=>rfl) (fun _=>rfl) (fun _ h=>h) (fun _ _ _ h=>h) (fun x _ _ _=>⟨_,rfl,rfl,rfl⟩)
structure K9 where
 m:ByteArray
 x:ByteArray
 b:Bool
def No:aR where
 X:=FO
 Y:=K9
 args x:=[ai x.s,ai x.t]
 cond x:=x.s.size<4294967281
 aO _ F:=i7 F
 b_ x y:=y=⟨⟨(r9 x.s x.t).1.toArray⟩,⟨(r9 x.s x.t).2.1.toArray⟩,(r9 x.s x.t).2.2⟩
 val _ y:=.returned (.tuple #[.string y.m,.string y.x,.bool y.b])
theorem Uf:aD 138 No:=ab9.view (fun x=>x) (fun _=>rfl) (fun _=>rfl) (fun _ h=>h) (fun _ _ _ h=>h) (fun x _ _ _=>⟨_,rfl,rfl,rfl⟩)
def M7:aR where
 X:=bL
 Y:=Int
 args x:=[ai x.s]
 cond x:=uv x.s
 b_ x y:=y=lX x.s
 val _ y:=.returned (.tuple #[.int .i64 y,.nilIface])
theorem TE:aD 140 M7:=aaR.view (fun x=>x) (fun _=>rfl) (fun _=>rfl) (fun _ h=>h) (fun _ _ _ h=>h) (fun x _ _ _=>⟨_,rfl,rfl,rfl⟩)
def Sb:aR where
 X:=C8
 Y:=ByteArray
 args x:=[ai x.s,ai x.t,ai x.u,ad x.n]
 cond x:=x.s.size<4294967281/\1<=x.t.size/\x.s.size+Lib.countB x.s x.t*x.u.size<=140737488355328
 aO _ F:=i7 F
 b_ x y:=y=⟨(Fg x).toArray⟩
 val _ y:=ay (ai y)
theorem WN:aD 142 Sb:=ajq.view (fun x=>x) (fun _=>rfl) (fun _=>rfl) (fun _ h=>h) (fun _ _ _ h=>h) (fun x _ _ _=>⟨_,rfl,rfl,rfl⟩)
def Oc:aR where
 X:=rM
 Y:=ByteArray
 args x:=[ai x.ds,ad x.n]
 cond x:=1<=x.ds.size/\x.ds.size<=1000/\ -1000<=x.n/\x.n<=1000
 aO _ F:=i7 F
 b_ x y:=y=jY x.ds x.n
 val _ y:=ay (ai y)
theorem VF:aD 141 Oc:=afW.view (fun x=>x) (fun _=>rfl) (fun _=>rfl) (fun _ h=>h) (fun _ _ _ h=>h) (fun x _ _ _=>⟨_,rfl,rfl,rfl⟩)
def N2:aR where
 X:=CW
 Y:=Bool
 args x:=[float f64 x.f,ad 1]
 b_ x y:=y=pP x.f
 val _ y:=ay (aj y)
theorem Vd:aD 137 N2:=aeR.view (fun x=>x) (fun _=>rfl) (fun _=>rfl) (fun _ h=>h) (fun _ _ _ h=>h) (fun x _ _ _=>⟨_,rfl,rfl,rfl⟩)
end
section
open Go
def sf(n:Nat):List Int:=(List.range n).map Int.ofNat
structure bQ(fin:Int)(s:ap)(os:List Int):Prop where
 tI:(s.nodes.flatMap (·.aB)++os).Perm (sf s.nodes.length)
 TF:os.Pairwise (·<·)
 aB:∀(i:Nat)(x:bP),s.nodes[i]?=some x->x.aB.Pairwise (·<·)/\∀k∈x.aB,k<(i:Int)
 pos:∀x∈s.nodes,0<=x.pos/\x.pos<=fin
variable{b:Bool}{t:ByteArray}{x:bP}{k:Int}{tag:aq}{Q:Unit->ap->Prop}
theorem NY{n:Nat}(h:k∈sf n):0<=k/\k<n:=by
 obtain⟨i,hi,rfl⟩:=List.mem_map.1 h;grind
theorem bQ.k9{fin:Int}{s:ap}{os:List Int}(h:bQ fin s os)(hk:k∈os):0<=k/\k<s.nodes.length:=
 NY (h.tI.mem_iff.1 (List.mem_append_right _ hk))
theorem bQ.same{fin:Int}{s t:ap}{os:List Int}(h:bQ fin s os)(e:t.nodes=s.nodes):bQ fin t os:=
 ⟨by rw[e];exact h.tI,h.TF,by rw[e];exact h.aB,by rw[e];exact h.pos⟩
theorem bQ.cast{fin:Int}{s:ap}{os a:List Int}(h:bQ fin s os)(e:os=a):bQ fin s a:=e▸h
theorem bQ.node{fin:Int}{s:ap}{os:List Int}(h:bQ fin s (os++x.aB))(hp:0<=x.pos/\x.pos<=fin):bQ fin {s with nodes:=s.nodes++[x]} (os++[(s.nodes.length:Int)]):=by
 obtain⟨a1,a2,a3⟩:=List.pairwise_append.1 h.TF;refine⟨?_,?_,fun i y c=>?_,fun y c=>?_⟩
 ·show((s.nodes++[x]).flatMap (·.aB)++(os++[(s.nodes.length:Int)])).Perm (sf (s.nodes++[x]).length);rw[dJ,tq];unfold sf;rw[List.range_succ,List.map_append,List.flatMap_append,<-gW];refine List.Perm.append ?_ (List.Perm.refl _);refine List.Perm.trans ?_ h.tI;grind
 ·refine List.pairwise_append.2 ⟨a1,aL,fun a g b d=>?_⟩;rw[List.mem_singleton]at d;rw[d];exact(h.k9 (n4 _ g)).2
 ·dsimp only at c;rcases Nat.lt_or_ge i s.nodes.length with hi|hi
  ·rw[kq hi]at c;exact h.aB i y c
  ·rw[jb hi]at c;obtain⟨hl,e⟩:=jq.1 c;simp only[tq]at hl;have f:i=s.nodes.length:=ae;subst f;simp at e;subst e;exact⟨a2,fun k hk=>(h.k9 (List.mem_append_right _ hk)).2⟩
 ·rcases List.mem_append.1 c with c|c
  ·exact h.pos y c
  grind
theorem bQ.sv{fin:Int}{s:ap}{os:List Int}(h:bQ fin s os)(hk:k∈os):0<=dz s k/\dz s k<=fin:=by
 obtain⟨a,b⟩:=h.k9 hk;unfold dz;obtain⟨x,hx⟩:∃x,s.nodes[k.toNat]?=some x:=⟨_,fg ae⟩;rw[hx];exact h.pos x (nk hx)
def WP{α:Type}(fin:Int)(m:PM α)(s:ap)(Q:α->ap->Prop):Prop:=
 match m s with
 | .ok a t=>Q a t
 | .stop p _ _=>0<=p/\p<=fin
 | .out=>True
section
variable{α β:Type}{fin:Int}{s:ap}
theorem WP.bind{m:PM α}{f:α->PM β}{Q:β->ap->Prop}(h:WP fin m s fun a t=>WP fin (f a) t Q):WP fin (m>>=f) s Q:=by
 show WP fin (bS m f) s Q;unfold WP bS at*;grind
theorem WP.ret{a:α}{Q:α->ap->Prop}(h:Q a s):WP fin (ret a) s Q:=h
theorem WP.mono{m:PM α}{Q R:α->ap->Prop}(h:WP fin m s Q)(k:∀a t,Q a t->R a t):WP fin m s R:=by
 unfold WP at*;grind
theorem WP.bif{m n:PM α}{Q:α->ap->Prop}(a:b=true->WP fin m s Q)(c:b=false->WP fin n s Q):WP fin (bif b then m else n) s Q:=by
 grind
theorem WP.step(h:Q () {s with i:=s.i+1}):WP fin eF s Q:=h
theorem WP.get{Q:ap->ap->Prop}(h:Q s s):WP fin eZ s Q:=h
theorem WP.set{t:ap}(h:Q () t):WP fin (io t) s Q:=h
theorem WP.node{Q:Int->ap->Prop}(h:Q s.nodes.length {s with nodes:=s.nodes++[x]}):WP fin (dj x) s Q:=h
theorem WP.dW{Q:Int->ap->Prop}(h:Q (dz s k) s):WP fin (dW k) s Q:=h
variable{L:List bh}
structure ga(L:List bh)(fin:Int):Prop where
 f0:0<=fin
 all:∀x∈L,0<=x.pos/\x.pos<=fin
theorem jV(h:ga L fin)(s:ap):0<=(aC L fin s).pos/\(aC L fin s).pos<=fin:=by
 unfold aC;cases hx:L[s.i]? with
 |none=>exact⟨h.f0,cE _⟩
 |some x=>exact h.all x (nk hx)
theorem WP.cd{Q:bh->ap->Prop}(h:Q (aC L fin s) s):WP fin (fv L fin) s Q:=h
theorem WP.dN(h:ga L fin){Q:α->ap->Prop}:WP fin (kj L fin) s Q:=jV h s
theorem WP.b9{Q:Bool->ap->Prop}(a:bg L s 0 t=true->Q true {s with i:=s.i+1})(b:bg L s 0 t=false->Q false s):WP fin (cZ L t) s Q:=by
 unfold WP cZ;grind
theorem WP.bW(h:ga L fin)(a:Q () {s with i:=s.i+1}):WP fin (cw L fin t) s Q:=by
 unfold WP cw;cases bg L s 0 t with
 |true=>exact a
 |false=>exact jV h s
theorem WP.mM{a:Nat}{Q:Bool->ap->Prop}(h:Q (bg L s a t) s):WP fin (iT L a t) s Q:=h
theorem WP.kt(hp:0<=dz s k/\dz s k<=fin)(h:Q () s):WP fin (kv k b) s Q:=by
 unfold WP kv;grind
theorem WP.word(h:ga L fin){Q:ByteArray->ap->Prop}(a:Q (aC L fin s).text {s with i:=s.i+1}):WP fin (gJ L fin) s Q:=by
 unfold WP gJ;cases (aC L fin s).kind !=1 with
 |true=>exact jV h s
 |false=>exact a
theorem Dt(h:ga L fin)(a:∀t:ap,t.nodes=s.nodes->Q () t):WP fin (dQ L fin) s Q:=by
 unfold WP dQ;cases bg L s 0 cU with
 |true=>exact a _ rfl
 |false=>
  rw[aN];cases bg L s 0 rc||(decide (s.i>=L.length)||(aC L fin s).aI)with
  |true=>exact a _ rfl
  |false=>exact jV h s
end
def aq.d_:aq->List Int
 | .fY _ left=>[left]
 | .d6 k=>[k]
 | .d0 l| .cS l| .cW l| .dy l| .fH l _| .dX l| .ec l _| .eu l| .prog l=>l
 |_=>[]
def aq.ze:aq->Bool
 | .d0 _| .cS _| .cW _| .dy _| .fH _ _| .dX _| .ec _ _| .eu _=>true
 |_=>false
section
variable{fin:Int}{L:List bh}{s:ap}{os:List Int}
def d7(fin:Int)(os:List Int)(tag:aq)(ks:List Int)(t:ap):Prop:=bQ fin t (os++ks)/\(tag.ze=false->∃k,ks=[k])
theorem WP.c8(h:bQ fin s (os++x.aB))(hp:0<=x.pos/\x.pos<=fin):WP fin (cm x) s (d7 fin os tag):=by
 show d7 fin os tag [(s.nodes.length:Int)] {s with nodes:=s.nodes++[x]};exact⟨h.node hp,fun _=>⟨_,rfl⟩⟩
theorem WP.one{m:PM (List Int)}(b:tag.ze=false)(h:WP fin m s (d7 fin os tag)){Q:Int->ap->Prop}(k:∀k t,bQ fin t (os++[k])->Q k t):WP fin (one m) s Q:=by
 show WP fin (m>>=fun l=>Go.Proofs.YtdkchodgklpomaaGreatDoor.ret (l.headD 0)) s Q;refine WP.bind (h.mono fun ks t a=>?_);obtain⟨j,rfl⟩:=a.2 b;exact k j t a.1
theorem WP.empty(h:ga L fin)(a:bQ fin s os){Q:Int->ap->Prop}(k:∀k t,bQ fin t (os++[k])->Q k t):WP fin (iv L fin) s Q:=by
 show WP fin (fv L fin>>=fun x=>dj ⟨36,.empty,0,[],x.pos⟩) s Q;refine WP.bind (WP.cd (WP.node (k _ _ ?_)));exact bQ.node (a.cast (dn _).symm) (jV h s)
theorem WP.key(h:ga L fin){aJ:Nat->ByteArray}{wide:ByteArray->ByteArray}(a:bQ fin s os){Q:Int->ap->Prop}(k:∀k t,bQ fin t (os++[k])->Q k t):WP fin (d5 L fin aJ wide) s Q:=by
 have hp:=jV h s;have fI:∀op:ByteArray,Q s.nodes.length {s with i:=s.i+1,nodes:=s.nodes++[⟨2,op,0,[],(aC L fin s).pos⟩]}:=fun op=>by
  refine k _ _ ?_;exact bQ.node (s:={s with i:=s.i+1}) ((a.same (t:={s with i:=s.i+1}) rfl).cast (dn _).symm) hp
 unfold WP d5;dsimp only;cases (aC L fin s).kind==1||(aC L fin s).kind==2 with
 |true=>exact fI _
 |false=>
  rw[aN];cases (aC L fin s).kind==3 with
  |true=>exact fI _
  |false=>
   rw[aN];cases (aC L fin s).kind==4 with
   |true=>exact fI _
   |false=>exact hp
end
end
section
open Go
section
variable{fin:Int}{L:List bh}{aJ:Nat->ByteArray}{wide:ByteArray->ByteArray}
def aq.cC(fin:Int):aq->Prop
 | .dr p| .dF p| .choose p=>0<=p/\p<=fin
 | .simple x=>0<=x.pos/\x.pos<=fin
 |_=>True
def fO(L:List bh)(fin:Int)(aJ:Nat->ByteArray)(wide:ByteArray->ByteArray)(f:Nat):Prop:=
 ∀(tag:aq)(s:ap)(os:List Int),tag.cC fin->bQ fin s (os++tag.d_)->WP fin (P L fin aJ wide f tag) s (d7 fin os tag)
variable{os:List Int}{f:Nat}{s s0:ap}{tag:aq}
theorem fO.one(c:fO L fin aJ wide f)(tag:aq)(b:tag.ze=false)(a:bQ fin s0 (os++tag.d_)){Q:Int->ap->Prop}(k:∀k t,bQ fin t (os++[k])->Q k t)(e:s.nodes=s0.nodes:=by rfl)(hp:tag.cC fin:=by trivial):WP fin (Go.Proofs.YtdkchodgklpomaaGreatDoor.one (P L fin aJ wide f tag)) s Q:=
 WP.one b (c tag s os hp (a.same e)) k
theorem fO.run(b:fO L fin aJ wide f)(tag:aq)(a:bQ fin s0 (os++tag.d_)){Q:List Int->ap->Prop}(k:∀ks t,d7 fin os tag ks t->Q ks t)(e:s.nodes=s0.nodes:=by rfl)(hp:tag.cC fin:=by trivial):WP fin (P L fin aJ wide f tag) s Q:=
 (b tag s os hp (a.same e)).mono k
theorem cV(h:bQ fin s os):bQ fin s (os++[]):=h.cast (dn _).symm
theorem bQ.mv{t:ap}{a:List Int}(h:bQ fin s os)(e:os=a)(b:t.nodes=s.nodes:=by rfl):bQ fin t a:=(h.same b).cast e
theorem fO.dM(d:fO L fin aJ wide f)(tag:aq){a:aq}(c:tag.ze=a.ze)(b:bQ fin s0 (os++tag.d_))(e:s.nodes=s0.nodes:=by rfl)(hp:tag.cC fin:=by trivial):WP fin (P L fin aJ wide f tag) s (d7 fin os a):=
 (d tag s os hp (b.same e)).mono fun ks t h=>⟨h.1,fun g=>h.2 (c.trans g)⟩
theorem z8{k:Int}(h:bQ fin s0 (os++[k]))(e:s.nodes=s0.nodes:=by rfl):d7 fin os tag [k] s:=⟨h.same e,fun _=>⟨k,rfl⟩⟩
theorem xz{ks:List Int}(a:tag.ze=true)(h:bQ fin s0 (os++ks))(e:s.nodes=s0.nodes:=by rfl):d7 fin os tag ks s:=⟨h.same e,fun g=>by rw[a]at g;cases g⟩
theorem jx{a:List Int}{x:bP}(h:bQ fin s0 a)(b:a=os++x.aB)(hp:0<=x.pos/\x.pos<=fin)(e:s.nodes=s0.nodes:=by rfl):WP fin (cm x) s (d7 fin os tag):=WP.c8 (h.mv b e) hp
theorem Za(c:ga L fin)(a:fO L fin aJ wide f)(b:bQ fin s os):WP fin (P L fin aJ wide (f+1) .bf) s (d7 fin os .bf):=by
 rw[P];refine WP.bind (a.one .cond rfl (cV b) fun k t h=>WP.bind (WP.cd (WP.bif (fun _=>⟨h,fun _=>⟨_,rfl⟩⟩) (fun _=>?_))));refine WP.bind (WP.kt (h.sv aL) (WP.bind (WP.step (WP.bind (a.one .bf rfl (cV h) fun r u g=>WP.bind (WP.dW ?_))))));exact WP.c8 (g.cast aL) (g.sv aL)
theorem Y_(j:ga L fin)(d:fO L fin aJ wide f)(i:bQ fin s os):WP fin (P L fin aJ wide (f+1) .cond) s (d7 fin os .cond):=by
 rw[P];refine WP.bind (d.one (.level 0) rfl (cV i) fun c t h=>WP.bind (WP.b9 (fun _=>WP.bif (fun e=>nomatch e) (fun _=>?_)) (fun _=>WP.bif (fun _=>⟨h,fun _=>⟨_,rfl⟩⟩) (fun e=>nomatch e))));refine WP.bind (d.one .bf rfl (cV h) fun a u g=>WP.bind (WP.bW j (WP.bind (d.one .bf rfl (cV g) fun b v k=>WP.bind (WP.dW ?_)))));exact WP.c8 (k.cast aL) (k.sv aL)
theorem Zd(c:ga L fin)(a:fO L fin aJ wide f)(n:Nat)(b:bQ fin s os):WP fin (P L fin aJ wide (f+1) (.level n)) s (d7 fin os (.level n)):=by
 rw[P];refine WP.bif (fun _=>a.run .unary (cV b) fun ks t h=>h) (fun _=>WP.bind (a.one (.level (n+1)) rfl (cV b) fun k t h=>a.run (.fY n k) h fun ks u g=>g))
theorem Ze(c:ga L fin)(b:fO L fin aJ wide f)(n:Nat)(left:Int)(a:bQ fin s (os++[left])):WP fin (P L fin aJ wide (f+1) (.fY n left)) s (d7 fin os (.fY n left)):=by
 rw[P];refine WP.bind (WP.cd (WP.bif (fun _=>⟨a,fun _=>⟨_,rfl⟩⟩) (fun _=>WP.bind (WP.step (WP.bind (b.one (.level (n+1)) rfl (cV a) fun r t h=>WP.bind (WP.dW (WP.bind (WP.node ?_)))))))));refine b.run (.fY n _) (bQ.node ?_ ?_) fun ks u g=>g
 ·grind
 ·exact h.sv aL
theorem aic(h:bQ fin s os)(k:Int):0<=dz s k/\dz s k<=max fin 0:=by
 unfold dz;cases hx:s.nodes[k.toNat]? with
 |none=>exact⟨cE 0,Int.le_max_right _ _⟩
 |some x=>
  have:=h.pos x (nk hx);grind
theorem Zs(c:ga L fin)(b:fO L fin aJ wide f)(a:bQ fin s os):WP fin (P L fin aJ wide (f+1) .unary) s (d7 fin os .unary):=by
 rw[P];refine WP.bind (WP.cd (WP.bif (fun _=>b.dM .dO rfl (cV a)) (fun _=>WP.bif (fun _=>?_) (fun _=>WP.bif (fun _=>?_) (fun _=>b.dM .dO rfl (cV a))))))
 ·exact WP.bind (WP.step (WP.bind (b.one .unary rfl (cV a) fun k t h=>WP.bind (WP.bif (fun _=>WP.kt (h.sv aL) (jx h rfl (jV c _))) (fun _=>WP.ret (jx h rfl (jV c _)))))))
 ·exact WP.bind (WP.step (WP.bind (b.one .unary rfl (cV a) fun k t h=>WP.bind (WP.kt (h.sv aL) (jx h rfl (jV c _))))))
theorem Y4(b:fO L fin aJ wide f)(a:bQ fin s os):WP fin (P L fin aJ wide (f+1) .dO) s (d7 fin os .dO):=by
 rw[P];exact WP.bind (b.one .suffix rfl (cV a) fun k t h=>WP.bind (WP.cd (WP.bif (fun _=>WP.ret (z8 h)) (fun _=>WP.bind (WP.kt (h.sv aL) (WP.bind (WP.step (WP.bind (WP.dW (jx h rfl (h.sv aL)))))))))))
theorem Zp(a:fO L fin aJ wide f)(b:bQ fin s os):WP fin (P L fin aJ wide (f+1) .suffix) s (d7 fin os .suffix):=by
 rw[P];exact WP.bind (a.one .dv rfl (cV b) fun k t h=>a.dM (.d6 k) rfl h)
theorem Zk(c:ga L fin)(b:fO L fin aJ wide f)(k:Int)(a:bQ fin s (os++[k])):WP fin (P L fin aJ wide (f+1) (.d6 k)) s (d7 fin os (.d6 k)):=by
 rw[P];have hp:=a.sv (k:=k) aL;refine WP.bind (WP.b9 (fun _=>WP.bif (fun _=>?_) (fun e=>nomatch e)) (fun _=>WP.bif (fun e=>nomatch e) (fun _=>WP.bind (WP.b9 (fun _=>WP.bif (fun _=>?_) (fun e=>nomatch e)) (fun _=>WP.bif (fun e=>nomatch e) (fun _=>WP.bind (WP.b9 (fun _=>WP.bif (fun _=>?_) (fun e=>nomatch e)) (fun _=>WP.bif (fun e=>nomatch e) (fun _=>WP.ret (z8 a))))))))))
 ·have fI:∀{t:ap}{x:bP},t.nodes=s.nodes->x.aB=[k]->x.pos=dz s k->WP fin (dj x>>=fun m=>P L fin aJ wide f (.d6 m)) t (d7 fin os (.d6 k)):=fun{t x}e1 d g=>WP.bind (WP.node (b.dM (.d6 _) rfl (bQ.node (a.mv (by rw[d]) e1) ae)));exact WP.bind (WP.cd (WP.bind (WP.bif (fun _=>WP.dN c) (fun _=>WP.ret (WP.bind (WP.step (WP.bind (WP.dW (fI rfl rfl rfl)))))))))
 ·refine WP.bind (b.one .bf rfl (cV a) fun e t h=>WP.bind (WP.bW c (WP.bind (WP.dW (WP.bind (WP.node (b.dM (.d6 _) rfl (bQ.node ?_ ?_))))))))
  ·exact h.mv aL
  ·exact h.sv (k:=k) aL
 ·refine WP.bind (b.run (.d0 [k]) a fun ks t h=>WP.bind (WP.dW (WP.bind (WP.node (b.dM (.d6 _) rfl (bQ.node ?_ ?_))))))
  ·exact h.1
  ·have:=aic h.1 k;grind
theorem Y7(c:ga L fin)(b:fO L fin aJ wide f)(aB:List Int)(a:bQ fin s (os++aB)):WP fin (P L fin aJ wide (f+1) (.d0 aB)) s (d7 fin os (.d0 aB)):=by
 rw[P];refine WP.bind (WP.b9 (fun _=>WP.bif (fun _=>WP.ret (xz rfl a)) (fun e=>nomatch e)) (fun _=>WP.bif (fun e=>nomatch e) (fun _=>?_)));have fI:∀{t:ap},t.nodes=s.nodes->WP fin (one (P L fin aJ wide f .bf)>>=fun e=>P L fin aJ wide f (.d0 (aB++[e]))) t (d7 fin os (.d0 aB)):=fun{t}e1=>WP.bind (b.one .bf rfl (cV a) (fun k u h=>b.dM (.d0 (aB++[k])) rfl (h.mv (by simp[aq.d_]))) e1);exact WP.bind (WP.bif (fun _=>WP.bW c (fI rfl)) (fun _=>WP.ret (fI rfl)))
theorem Y3(c:ga L fin)(a:fO L fin aJ wide f)(aB:List Int)(b:bQ fin s (os++aB)):WP fin (P L fin aJ wide (f+1) (.cS aB)) s (d7 fin os (.cS aB)):=by
 rw[P];refine WP.bind (WP.b9 (fun _=>WP.bif (fun _=>WP.ret (xz rfl b)) (fun e=>nomatch e)) (fun _=>WP.bif (fun e=>nomatch e) (fun _=>WP.bind (a.one .bf rfl (cV b) fun k t h=>WP.bind (WP.mM (WP.bind (WP.bif (fun _=>WP.bW c (a.dM (.cS (aB++[k])) rfl (h.cast ?_))) (fun _=>WP.ret (a.dM (.cS (aB++[k])) rfl (h.cast ?_))))))))))
 ·simp[aq.d_]
 ·simp[aq.d_]
theorem Y6(b:fO L fin aJ wide f)(aB:List Int)(body:Bool)(a:bQ fin s (os++aB)):WP fin (P L fin aJ wide (f+1) (.fH aB body)) s (d7 fin os (.fH aB body)):=by
 rw[P];refine WP.bind (WP.b9 (fun _=>WP.bif (fun _=>WP.ret (xz rfl a)) (fun e=>nomatch e)) (fun _=>WP.bif (fun e=>nomatch e) (fun _=>WP.bind (b.one (.bT body) rfl (cV a) fun k t h=>b.dM (.fH (aB++[k]) body) rfl (h.cast ?_)))));simp[aq.d_]
theorem Zh(a:ga L fin)(b:fO L fin aJ wide f)(aB:List Int)(c:bQ fin s (os++aB)):WP fin (P L fin aJ wide (f+1) (.cW aB)) s (d7 fin os (.cW aB)):=by
 rw[P];refine WP.bind (WP.b9 (fun _=>WP.bif (fun _=>WP.ret (xz rfl c)) (fun e=>nomatch e)) (fun _=>WP.bif (fun e=>nomatch e) (fun _=>WP.bind (WP.key a c fun k t h=>WP.bind (WP.bW a (WP.bind (b.one .bf rfl (cV h) fun e u g=>WP.bind (WP.mM (WP.bind (WP.bif (fun _=>WP.bW a (b.dM (.cW (aB++[k]++[e])) rfl (g.cast ?_))) (fun _=>WP.ret (b.dM (.cW (aB++[k]++[e])) rfl (g.cast ?_)))))))))))))
 ·simp[aq.d_]
 ·simp[aq.d_]
theorem Zl(b:ga L fin)(c:fO L fin aJ wide f)(a:bQ fin s os):WP fin (P L fin aJ wide (f+1) .dv) s (d7 fin os .dv):=by
 rw[P];have d:∀{t:ap}{x:bP},t.nodes=s.nodes->x.aB=[]->x.pos=(aC L fin s).pos->WP fin (cm x) t (d7 fin os .dv):=fun{t x}e1 i g=>jx a (by simp[*]) (by rw[g];exact jV b s) e1;refine WP.bind (WP.cd (WP.bif (fun _=>WP.bind (WP.step (d rfl rfl rfl))) (fun _=>WP.bif (fun _=>WP.bind (WP.step (d rfl rfl rfl))) (fun _=>WP.bif (fun _=>WP.bind (WP.step (d rfl rfl rfl))) (fun _=>WP.bind (WP.get (WP.bif (fun _=>WP.bind (WP.step (d rfl rfl rfl))) (fun _=>WP.bif (fun _=>c.dM (.func 7) rfl (cV a)) (fun _=>?_)))))))));refine WP.bind (WP.b9 (fun _=>WP.bif (fun _=>?_) (fun e=>nomatch e)) (fun _=>WP.bif (fun e=>nomatch e) (fun _=>WP.bind (WP.b9 (fun _=>WP.bif (fun _=>?_) (fun e=>nomatch e)) (fun _=>WP.bif (fun e=>nomatch e) (fun _=>WP.bind (WP.b9 (fun _=>WP.bif (fun _=>?_) (fun e=>nomatch e)) (fun _=>WP.bif (fun e=>nomatch e) (fun _=>WP.dN b)))))))))
 ·exact WP.bind (c.one .bf rfl (cV a) fun k t h=>WP.bind (WP.bW b (WP.ret (z8 h))))
 ·exact WP.bind (c.run (.cS []) (cV a) fun ks t h=>jx h.1 rfl (jV b s))
 ·exact WP.bind (c.run (.cW []) (cV a) fun ks t h=>jx h.1 rfl (jV b s))
theorem Zi(a:ga L fin)(c:fO L fin aJ wide f)(aB:List Int)(b:bQ fin s (os++aB)):WP fin (P L fin aJ wide (f+1) (.dy aB)) s (d7 fin os (.dy aB)):=by
 rw[P];refine WP.bind (WP.b9 (fun _=>WP.bif (fun _=>WP.ret (xz rfl b)) (fun e=>nomatch e)) (fun _=>WP.bif (fun e=>nomatch e) (fun _=>?_)));have fI:∀{t:ap},t.nodes=s.nodes->WP fin (fv L fin>>=fun x=>gJ L fin>>=fun w=>dj ⟨3,w,0,[],x.pos⟩>>=fun k=>P L fin aJ wide f (.dy (aB++[k]))) t (d7 fin os (.dy aB)):=fun{t}e1=>by
  refine WP.bind (WP.cd (WP.bind (WP.word a (WP.bind (WP.node (c.dM (.dy _) rfl (bQ.cast (bQ.node (os:=os++aB) (b.mv (dn _).symm e1) (jV a t)) ?_)))))));simp[aq.d_]
 exact WP.bind (WP.bif (fun _=>WP.bW a (fI rfl)) (fun _=>WP.ret (fI rfl)))
theorem Y5(a:ga L fin)(c:fO L fin aJ wide f)(body:Bool)(b:bQ fin s os):WP fin (P L fin aJ wide (f+1) (.block body)) s (d7 fin os (.block body)):=by
 rw[P];exact WP.bind (WP.cd (WP.bind (WP.bW a (WP.bind (c.run (.fH [] body) (cV b) fun ks t h=>jx h.1 rfl (jV a s))))))
theorem Zc(a:ga L fin)(c:fO L fin aJ wide f)(kind:Int)(d:bQ fin s os):WP fin (P L fin aJ wide (f+1) (.func kind)) s (d7 fin os (.func kind)):=by
 rw[P];refine WP.bind (WP.cd (WP.bind (WP.step (WP.bind (WP.get (WP.bind (WP.bif (fun _=>WP.word a ?_) (fun _=>WP.ret ?_))))))))
 ·refine WP.bind (WP.bW a (WP.bind (c.run (.dy []) (cV d) fun e t h=>WP.bind (WP.get (WP.bind (WP.set (WP.bind (c.one (.block true) rfl (cV h.1) fun b u g=>WP.bind (WP.get (WP.bind (WP.set (jx g ?_ (jV a s)))))))))))));simp
 ·refine WP.bind (WP.bW a (WP.bind (c.run (.dy []) (cV d) fun e t h=>WP.bind (WP.get (WP.bind (WP.set (WP.bind (c.one (.block true) rfl (cV h.1) fun b u g=>WP.bind (WP.get (WP.bind (WP.set (jx g ?_ (jV a s)))))))))))));simp
theorem Zj(a:ga L fin)(c:fO L fin aJ wide f)(b:bQ fin s os):WP fin (P L fin aJ wide (f+1) .paren) s (d7 fin os .paren):=by
 rw[P];exact WP.bind (WP.bW a (WP.bind (c.one .bf rfl (cV b) fun k t h=>WP.bind (WP.bW a (WP.ret (z8 h))))))
theorem Zu(b:ga L fin)(c:fO L fin aJ wide f)(a:bQ fin s os):WP fin (P L fin aJ wide (f+1) .vars) s (d7 fin os .vars):=by
 rw[P];exact WP.bind (WP.cd (WP.bind (WP.step (WP.bind (c.run (.dX []) (cV a) fun ks t h=>jx h.1 rfl (jV b s))))))
theorem Zt(c:ga L fin)(d:fO L fin aJ wide f)(aB:List Int)(b:bQ fin s (os++aB)):WP fin (P L fin aJ wide (f+1) (.dX aB)) s (d7 fin os (.dX aB)):=by
 rw[P];have fI:∀{t:ap}{w:ByteArray}{ks:List Int},bQ fin t (os++aB++ks)->WP fin (dj ⟨22,w,0,ks,(aC L fin s).pos⟩>>=fun k=>cZ L oO>>=fun h=>bif !h then ret (aB++[k]) else P L fin aJ wide f (.dX (aB++[k]))) t (d7 fin os (.dX aB)):=fun{t w ks}h=>by
  have a:=bQ.node (x:=⟨22,w,0,ks,(aC L fin s).pos⟩) h (jV c s);refine WP.bind (WP.node (WP.bind (WP.b9 (fun _=>WP.bif (fun e=>nomatch e) (fun _=>d.dM (.dX _) rfl (a.cast ?_))) (fun _=>WP.bif (fun _=>WP.ret (xz rfl (a.cast ?_))) (fun e=>nomatch e)))))
  ·simp[aq.d_]
  ·simp
 refine WP.bind (WP.cd (WP.bind (WP.word c (WP.bind (WP.b9 (fun _=>WP.bind (WP.bif (fun _=>d.run .bf (cV b) fun ks t h=>fI h.1) (fun e=>nomatch e))) (fun _=>WP.bind (WP.bif (fun e=>nomatch e) (fun _=>WP.ret (fI (b.mv (dn _).symm))))))))))
theorem Zf(b:fO L fin aJ wide f)(a:bQ fin s os):WP fin (P L fin aJ wide (f+1) .loop) s (d7 fin os .loop):=by
 rw[P];exact WP.bind (WP.get (WP.bind (WP.set (WP.bind (b.one (.bT false) rfl (cV a) fun k t h=>WP.bind (WP.get (WP.bind (WP.set (WP.ret (z8 h))))))))))
theorem Y9(d:ga L fin)(a:fO L fin aJ wide f)(pos:Int)(hp:0<=pos/\pos<=fin)(b:bQ fin s os):WP fin (P L fin aJ wide (f+1) (.choose pos)) s (d7 fin os (.choose pos)):=by
 rw[P];exact WP.bind (a.one .paren rfl (cV b) fun c t h=>WP.bind (WP.bW d (WP.bind (WP.get (WP.bind (WP.set (WP.bind (a.run (.ec [c] false) h fun ks u g=>WP.bind (WP.get (WP.bind (WP.set (jx g.1 rfl hp))))))))))))
theorem Y8(b:fO L fin aJ wide f)(aB:List Int)(a:bQ fin s (os++aB)):WP fin (P L fin aJ wide (f+1) (.eu aB)) s (d7 fin os (.eu aB)):=by
 rw[P];refine WP.bind (WP.get (WP.bif (fun _=>WP.bind (b.one (.bT false) rfl (cV a) fun k t h=>b.dM (.eu (aB++[k])) rfl (h.cast ?_))) (fun _=>WP.ret (xz rfl a))));simp[aq.d_]
theorem Zm(c:ga L fin)(b:fO L fin aJ wide f)(aB:List Int)(a:bQ fin s (os++aB)):WP fin (P L fin aJ wide (f+1) (.prog aB)) s (d7 fin os (.prog aB)):=by
 rw[P];refine WP.bind (WP.get (WP.bif (fun _=>WP.bind (b.one (.bT true) rfl (cV a) fun k t h=>b.dM (.prog (aB++[k])) rfl (h.cast ?_))) (fun _=>jx a rfl ⟨cE 0,c.f0⟩)));simp[aq.d_]
theorem Zb(i:ga L fin)(j:fO L fin aJ wide f)(pos:Int)(hp:0<=pos/\pos<=fin)(l:bQ fin s os):WP fin (P L fin aJ wide (f+1) (.dr pos)) s (d7 fin os (.dr pos)):=by
 rw[P];refine WP.bind (WP.bW i (WP.bind (WP.get ?_)));dsimp only;refine WP.bif (fun _=>?_) (fun _=>?_)
 ·refine WP.bind (WP.set (WP.bind (j.one .bf rfl (cV l) fun e t h=>WP.bind (WP.bW i (WP.bind (j.one .loop rfl (cV h) fun b u g=>jx g ?_ hp))))));simp
 ·have key:∀{t:ap}{os:List Int}{B:Bool},bQ fin t os->WP fin (bif B then iv L fin else one (P L fin aJ wide f .bf)) t fun a u=>bQ fin u (os++[a]):=fun{t os B}h=>WP.bif (fun _=>WP.empty i h fun k u g=>g) (fun _=>j.one .bf rfl (cV h) fun k u g=>g);refine WP.bind (WP.mono (Q:=fun a t=>bQ fin t (os++[a])) ?_ fun a t h=>?_)
  ·refine WP.bif (fun _=>j.one .vars rfl (cV l) fun k t h=>h) (fun _=>WP.bif (fun _=>WP.empty i (l.mv rfl) fun k t h=>h) (fun _=>WP.bind (WP.cd (WP.bind (j.one .bf rfl (cV l) fun e t h=>WP.node ?_)))));exact bQ.node (x:=⟨20,.empty,0,[e],_⟩) h (jV i _)
  refine WP.bind (WP.bW i (WP.bind (WP.mM (WP.bind ((key (h.mv rfl)).mono fun c u g=>WP.bind (WP.bW i (WP.bind (WP.mM (WP.bind ((key (g.mv rfl)).mono fun d v k=>WP.bind (WP.bW i (WP.bind (j.one .loop rfl (cV k) fun b w q=>jx q ?_ hp)))))))))))));simp
theorem Zr(a:ga L fin)(d:fO L fin aJ wide f)(pos:Int)(hp:0<=pos/\pos<=fin)(i:bQ fin s os):WP fin (P L fin aJ wide (f+1) (.dF pos)) s (d7 fin os (.dF pos)):=by
 rw[P];have fI:∀{t:ap}{b:Int}{ks:List Int}{op:ByteArray}{g:Bool},bQ fin t (os++[b]++ks)->WP fin (cZ L ph>>=fun h=>(bif h then P L fin aJ wide f (.block false) else ret [])>>=fun fs=>cm ⟨34-2,op,bif g then (bif h then vL else lG) else vM,[b]++ks++fs,pos⟩) t (d7 fin os (.dF pos)):=fun{t b ks op g}h=>by
  refine WP.bind (WP.b9 (fun _=>WP.bind (WP.bif (fun _=>d.run (.block false) (cV h) fun fs u k=>jx k.1 ?_ hp) (fun e=>nomatch e))) (fun _=>WP.bind (WP.bif (fun e=>nomatch e) (fun _=>WP.ret (jx h ?_ hp)))))
  all_goals grind
 refine WP.bind (d.one (.block false) rfl (cV i) fun b t h=>WP.bind (WP.b9 (fun _=>WP.bind (WP.bif (fun _=>?_) (fun e=>nomatch e))) (fun _=>WP.bind (WP.bif (fun e=>nomatch e) (fun _=>WP.ret ?_)))))
 ·refine WP.bind (WP.bW a (WP.bind (WP.word a (WP.bind (WP.bW a (WP.bind (d.one (.block false) rfl (cV h) fun c u g=>WP.ret ?_)))))));exact WP.bind (WP.get (WP.bind (WP.bif (fun _=>WP.dN a) (fun _=>WP.ret (fI g)))))
 ·exact WP.bind (WP.get (WP.bind (WP.bif (fun _=>WP.dN a) (fun _=>WP.ret (fI (h.mv (dn _).symm))))))
theorem Zq(b:ga L fin)(c:fO L fin aJ wide f)(aB:List Int)(seen:Bool)(a:bQ fin s (os++aB)):WP fin (P L fin aJ wide (f+1) (.ec aB seen)) s (d7 fin os (.ec aB seen)):=by
 rw[P];have fI:∀{t:ap}{ks:List Int}{g:Bool},bQ fin t (os++aB++ks)->WP fin (cw L fin colon>>=fun _=>P L fin aJ wide f (.eu ks)>>=fun all=>dj ⟨34,.empty,bif g then 0 else lG,all,(aC L fin s).pos⟩>>=fun k=>P L fin aJ wide f (.ec (aB++[k]) (bif g then seen else true))) t (d7 fin os (.ec aB seen)):=fun{t ks g}h=>by
  refine WP.bind (WP.bW b (WP.bind (c.run (.eu ks) h fun all u k=>WP.bind (WP.node (c.dM (.ec _ _) rfl (bQ.cast (bQ.node (os:=os++aB) (x:=⟨34,.empty,bif g then 0 else lG,all,(aC L fin s).pos⟩) k.1 (jV b s)) ?_))))));simp[aq.d_]
 refine WP.bind (WP.b9 (fun _=>WP.bif (fun _=>WP.ret (xz rfl a)) (fun e=>nomatch e)) (fun _=>WP.bif (fun e=>nomatch e) (fun _=>WP.bind (WP.cd (WP.bind (WP.b9 (fun _=>WP.bind (WP.bif (fun _=>c.run .bf (cV a) fun ks t h=>fI h.1) (fun e=>nomatch e))) (fun _=>WP.bind (WP.bif (fun e=>nomatch e) (fun _=>WP.bind (WP.mM (WP.bif (fun _=>WP.bind (WP.step (WP.ret (fI (a.mv (dn _).symm))))) (fun _=>WP.dN b))))))))))))
theorem Zn(b:ga L fin)(g:fO L fin aJ wide f)(x:bh)(hp:0<=x.pos/\x.pos<=fin)(d:bQ fin s os):WP fin (P L fin aJ wide (f+1) (.simple x)) s (d7 fin os (.simple x)):=by
 rw[P];refine WP.bind (WP.get (WP.bind ((WP.bif (fun _=>WP.ret rfl) (fun _=>WP.bif (fun _=>WP.ret rfl) (fun _=>WP.bif (fun _=>WP.ret rfl) (fun _=>WP.bif (fun _=>WP.ret rfl) (fun _=>WP.dN b)))):WP fin _ _ fun _ t=>t.nodes=s.nodes).mono fun kind t e=>?_)));have a:=d.mv rfl e;refine WP.bind (WP.step (WP.bind (WP.cd (WP.bind (WP.get (WP.bind (WP.bif (fun _=>WP.dN b) (fun _=>WP.ret (WP.bind (WP.bif (fun _=>g.run .bf (cV a) fun ks u h=>WP.bind (Dt b fun v c=>jx h.1 rfl hp c)) (fun _=>WP.ret (WP.bind (Dt b fun v c=>jx a (dn _).symm hp c)))))))))))))
theorem Zo(j:ga L fin)(d:fO L fin aJ wide f)(body:Bool)(i:bQ fin s os):WP fin (P L fin aJ wide (f+1) (.bT body)) s (d7 fin os (.bT body)):=by
 rw[P];have hp:=jV j s;have plain:WP fin (one (P L fin aJ wide f .bf)>>=fun e=>dQ L fin>>=fun _=>cm ⟨20,.empty,0,[e],(aC L fin s).pos⟩) s (d7 fin os (.bT body)):=
  WP.bind (d.one .bf rfl (cV i) fun e t h=>WP.bind (Dt j fun u l=>jx h rfl hp l))
 refine WP.bind (WP.cd (WP.bind (WP.get (WP.bif (fun _=>d.dM (.block false) rfl (cV i)) (fun _=>WP.bif (fun _=>?_) (fun _=>?_))))))
 ·exact WP.bind (WP.empty j i fun k t h=>WP.bind (WP.step (WP.ret (z8 h))))
 dsimp only;refine WP.bif (fun _=>WP.bif (fun _=>?_) (fun _=>WP.bif (fun _=>?_) (fun _=>WP.bif (fun _=>?_) (fun _=>WP.bif (fun _=>?_) (fun _=>WP.bif (fun _=>?_) (fun _=>WP.bif (fun _=>?_) (fun _=>WP.bif (fun _=>?_) (fun _=>WP.bif (fun _=>?_) (fun _=>plain))))))))) (fun _=>plain)
 ·exact WP.bind (d.one .vars rfl (cV i) fun k t h=>WP.bind (Dt j fun u l=>WP.ret (z8 h l)))
 ·exact d.dM (.simple _) rfl (cV i) (hp:=hp)
 ·exact WP.bif (fun _=>WP.dN j) (fun _=>d.dM (.func 35) rfl (cV i))
 ·refine WP.bind (WP.step (WP.bind (d.one .paren rfl (cV i) fun c t h=>WP.bind (d.one (.bT false) rfl (cV h) fun a u g=>WP.bind (WP.b9 (fun _=>WP.bind (WP.bif (fun _=>d.run (.bT false) (cV g) fun ks v k=>jx k.1 ?_ hp) (fun e=>nomatch e))) (fun _=>WP.bind (WP.bif (fun e=>nomatch e) (fun _=>WP.ret (jx g ?_ hp)))))))))
  all_goals grind
 ·refine WP.bind (WP.step (WP.bind (d.one .paren rfl (cV i) fun c t h=>WP.bind (d.one .loop rfl (cV h) fun b u g=>jx g ?_ hp))));simp
 ·exact WP.bind (WP.step (d.dM (.dr _) rfl (cV i) (hp:=hp)))
 ·exact WP.bind (WP.step (d.dM (.dF _) rfl (cV i) (hp:=hp)))
 ·exact WP.bind (WP.step (d.dM (.choose _) rfl (cV i) (hp:=hp)))
theorem Lk(c:ga L fin):∀f,fO L fin aJ wide f
 |0=>fun tag s os _ _=>by
  unfold P;trivial
 |f+1=>fun tag s os hp a=>by
  have b:=Lk c f;cases tag with
  |bf=>exact Za c b (a.cast (dn _))
  |cond=>exact Y_ c b (a.cast (dn _))
  |level n=>exact Zd c b n (a.cast (dn _))
  |fY n left=>exact Ze c b n left a
  |unary=>exact Zs c b (a.cast (dn _))
  |dO=>exact Y4 b (a.cast (dn _))
  |suffix=>exact Zp b (a.cast (dn _))
  |d6 k=>exact Zk c b k a
  |d0 aB=>exact Y7 c b aB a
  |cS aB=>exact Y3 c b aB a
  |cW aB=>exact Zh c b aB a
  |dv=>exact Zl c b (a.cast (dn _))
  |func kind=>exact Zc c b kind (a.cast (dn _))
  |dy aB=>exact Zi c b aB a
  |block body=>exact Y5 c b body (a.cast (dn _))
  |fH aB body=>exact Y6 b aB body a
  |paren=>exact Zj c b (a.cast (dn _))
  |vars=>exact Zu c b (a.cast (dn _))
  |dX aB=>exact Zt c b aB a
  |loop=>exact Zf b (a.cast (dn _))
  |dr pos=>exact Zb c b pos hp (a.cast (dn _))
  |dF pos=>exact Zr c b pos hp (a.cast (dn _))
  |choose pos=>exact Y9 c b pos hp (a.cast (dn _))
  |ec aB seen=>exact Zq c b aB seen a
  |eu aB=>exact Y8 b aB a
  |simple x=>exact Zn c b x hp (a.cast (dn _))
  |bT body=>exact Zo c b body (a.cast (dn _))
  |prog aB=>exact Zm c b aB a
theorem aiB(a:ga L fin)(f:Nat):WP fin (P L fin aJ wide f (.prog [])) ⟨0,[],0,0,0⟩ fun _ t=>∃k,bQ fin t [k]:=
 (Lk a f (.prog []) ⟨0,[],0,0,0⟩ [] trivial ⟨List.Perm.refl _,List.Pairwise.nil,fun i x h=>by simp at h,fun x h=>by simp at h⟩).mono fun ks t h=>by
  obtain⟨k,rfl⟩:=h.2 rfl;exact⟨k,h.1⟩
end
end
section
open Go
structure cX where
 b:Nat
 la:Option Addr
 lc:Nat
 L:List bh
 fin:Int
 i:Nat
structure iM(x:cX)(F:ah):Prop where
 l0:aQ F ⟨x.b,0,none⟩ (.slice x.la x.L.length x.lc)
 l1:aQ F ⟨x.b,1,none⟩ (.int .i64 x.i)
 l2:aQ F ⟨x.b,2,none⟩ (.int .i64 x.fin)
 src:jk 5 (hY x.L) x.la x.L.length
 CC:lU F x.la (hY x.L)
variable{x:cX}
theorem iM.sub{A B:ah}(hs:Sub A B)(h:iM x A):iM x B:=⟨h.l0.sub hs,h.l1.sub hs,h.l2.sub hs,h.src,h.CC.sub hs⟩
theorem N7:∀(L:List bh)(i j:Nat)(d:bh)(u:Value),L[i]?=some d->(kS d)[j]?=some u->(hY L)[i*5+j]?=some u
 | [],i,j,d,u,h,_=>by simp at h
 |e::L,0,j,d,u,h,a=>by
  have h:e=d:=by simpa using h
  subst h;have c:=(jq.1 a).1;have:hY (e::L)=kS e++hY L:=rfl;rw[this,Nat.zero_mul,hU,kq c];exact a
 |e::L,i+1,j,d,u,h,a=>by
  have:hY (e::L)=kS e++hY L:=rfl;have b:(kS e).length=5:=rfl;rw[this,jb ae,b,show(i+1)*5+j-5=i*5+j by omega];exact N7 L i j d u h a
theorem iM.look{F:ah}(h:iM x F){b o i j:Nat}{d:bh}{u:Value}(e:x.la=some ⟨b,o,none⟩)(hd:x.L[i]?=some d)(a:(kS d)[j]?=some u):aQ F ⟨b,o+i*5+j,none⟩ u:=by
 have hs:=h.CC;rw[e]at hs;have:=hs.look (N7 x.L i j d u hd a);rw[Nat.add_assoc];exact this
def co(L:List bh)(fin:Int)(i:Nat):bh:=(L[i]?).getD ⟨0,⟨#[]⟩,0,fin,false⟩
def eG(j:Nat):List LH:=[.z00 j,.z00 j,.z00 j,.z00 j,.z00 j]
def iz:aR where
 X:=cX
 args x:=[ag (some ⟨x.b,0,none⟩)]
 cond x:=x.L.length<=1048576
 aO x F:=iM x F
 val x _:=ay (agg ⟨kS (co x.L x.fin x.i)⟩)
 eT _ _ _ hs h:=iM.sub hs h
def Vv:List LH:=[.ex 0 (.int .i64),.ex 0 .str,.ex 0 (.float .f64),.ex 0 (.int .i64),.ex 0 .bool]
def RM(a:Int):List Value:=[ad 0,ai ⟨#[]⟩,float f64 0,ad a,aj false]
def iP(b:Oper)(aa:List Value)(a:ux->Prop):=dR Tryz.prog b (fJ 5)/\∃(z:ux),aa=[au (some ⟨z.b,z.o,none⟩) z.len z.cap,ad z.n]/\(0<=z.n/\z.n<z.len)/\a z
def zQ(e:Int)(d:ByteArray)(c:Nat)(b:Int)(a:Bool):List Value:=[ad e,ai d,float f64 c,ad b,aj a]
theorem ad4(x:cX)(F:ah)(r:iz.cond x)(p:iz.aO x F):∀(o:Nat),true=true/\T1 F ⟨x.b,1,none⟩ (fun n=>eA F ⟨x.b,0,none⟩ (fun m l k=>aS (n>=l) (T1 F ⟨x.b,2,none⟩ (fun a=>cx o (cx o (ar iz x F (ay (agg ⟨RM a⟩)) [(0,F),(1000,af o (RM a) 53)])))) (true=true/\eA F ⟨x.b,0,none⟩ (fun j i h=>T1 F ⟨x.b,1,none⟩ (fun g=>iP (a7 Tryz.f24 3 8) [au j i h,ad g] (fun f=>T1 F ⟨f.b,f.o+f.n.toNat*5,none⟩ (fun e=>T2 F ⟨f.b,f.o+f.n.toNat*5+1,none⟩ (fun d=>qv F ⟨f.b,f.o+f.n.toNat*5+2,none⟩ (fun c=>T1 F ⟨f.b,f.o+f.n.toNat*5+3,none⟩ (fun b=>wd F ⟨f.b,f.o+f.n.toNat*5+4,none⟩ (fun a=>cx o (cx o (ar iz x F (ay (agg ⟨zQ e d c b a⟩)) [(0,F),(1000,af o (zQ e d c b a) 53)]))))))))))))):=by
 delta T1 eA RM iP T2 qv wd zQ cx ad ai aj au af aS ay;have t:x.L.length<=1048576:=r;intro b;refine⟨rfl,_,p.l1,_,_,_,p.l0,bo (fun h=>⟨_,p.l2,al,al,al,al,al,al,al,al,al,al,(),ao,?_,aA [0]⟩) (fun h=>?_)⟩
 ·show returned _=returned (.agg ⟨kS (co x.L x.fin x.i)⟩);unfold co;rw[pN ae];rfl
 ·obtain⟨d,hd⟩:∃d,x.L[x.i]?=some d:=⟨_,fg ae⟩;obtain⟨lb,lo,q⟩:=p.src.some ae;have k:∀(j:Nat)(u:Value),(kS d)[j]?=some u->aQ F ⟨lb,lo+(x.i:Int).toNat*5+j,none⟩ u:=fun j u s=>by
   rw[cy];exact p.look q hd s
  refine⟨rfl,_,_,_,p.l0,_,p.l1,gG 5 rfl rfl rfl rfl,⟨lb,lo,x.L.length,x.lc,x.i⟩,by rw[q],hS,_,k 0 _ rfl,_,k 1 _ rfl,_,k 2 _ rfl,_,k 3 _ rfl,_,k 4 _ rfl,al,al,al,al,al,al,al,al,al,al,(),ao,?_,aA [0]⟩;show returned _=returned (.agg ⟨kS (co x.L x.fin x.i)⟩);unfold co;rw[hd];rfl
theorem kR:aD 24 iz:=fo 28 Tryz.func24 (fun _ _=>[(0,0,.n 1000),(1,3,dd),(1,7,.q [.ex 0 .slice]),(2,3,dd),(2,5,.w (eG 1000)),(3,3,.q [.ex 0 .slice]),(3,7,dd),(3,8,.qo (fJ 5)),(3,9,.q Vv),(3,10,.w (eG 1000))]) [] aY aY bA (eG 1000) ad4
structure v6 where
 p:cX
 a:Nat
 t:ByteArray
theorem fZ(a b:ByteArray):(a.toList==b.toList)=bD a b:=by
 have e:bD a b=(a.data==b.data):=by unfold bD;cases a;cases b;rfl
 rw[e,Bool.eq_iff_iff,beq_iff_eq,beq_iff_eq,ByteArray.toList_eq,ByteArray.toList_eq];constructor
 ·intro h;exact Array.ext' h
 ·intro h;rw[h]
def ii(L:List bh)(k:Nat)(t:ByteArray):Bool:=match L[k]? with
 |none=>false
 |some x=>(x.kind==5||x.kind==2)&&bD x.text t
def gF:aR where
 X:=v6
 args x:=[ag (some ⟨x.p.b,0,none⟩),ad x.a,ai x.t]
 cond x:=x.p.L.length<=1048576/\x.p.i<=1048576/\x.a<=1048576
 aO x F:=iM x.p F
 val x _:=ay (aj (ii x.p.L (x.p.i+x.a) x.t))
 eT _ _ _ hs h:=iM.sub hs h
theorem ae4(x:v6)(F:ah)(z:gF.cond x)(p:gF.aO x F):true=true/\T1 F ⟨x.p.b,1,none⟩ (fun o=>bK (o+x.a)/\eA F ⟨x.p.b,0,none⟩ (fun n m l=>aS (o+x.a>=(m:Int)) (ar gF x F cQ [(0,F)]) (true=true/\eA F ⟨x.p.b,0,none⟩ (fun k j i=>T1 F ⟨x.p.b,1,none⟩ (fun h=>bK (h+x.a)/\iP (a7 Tryz.f29 3 10) [au k j i,ad (h+x.a)] (fun g=>T1 F ⟨g.b,g.o+g.n.toNat*5,none⟩ (fun f=>T2 F ⟨g.b,g.o+g.n.toNat*5+1,none⟩ (fun e=>qv F ⟨g.b,g.o+g.n.toNat*5+2,none⟩ (fun d=>T1 F ⟨g.b,g.o+g.n.toNat*5+3,none⟩ (fun c=>wd F ⟨g.b,g.o+g.n.toNat*5+4,none⟩ (fun b=>∀(a:Nat),cx a (aw a 0/\Br (f==5) (aw a 1/\ar gF x F (ay (aj (e.toList==x.t.toList))) [(0,F),(4120,af a (zQ f e d c b) 53)]) (aw a 0/\Br (f==2) (aw a 1/\ar gF x F (ay (aj (e.toList==x.t.toList))) [(0,F),(4120,af a (zQ f e d c b) 53)]) (ar gF x F cQ [(0,F),(4120,af a (zQ f e d c b) 53)])))))))))))))):=by
 delta T1 eA dk cQ iP T2 qv wd zQ aw bK cx ad ai aj au af aS ay;obtain⟨⟨b,la,lc,L,fin,i⟩,a,t⟩:=x;obtain⟨w,hi,y⟩:=z;replace p:iM ⟨b,la,lc,L,fin,i⟩ F:=p;dsimp only at w hi y;dsimp only;refine⟨rfl,_,p.l1,hS,_,_,_,p.l0,bo (fun h=>⟨(),ao,k8 ?_,aA [0]⟩) (fun h=>?_)⟩
 ·dsimp only at h⊢;unfold ii;rw[pN ae]
 ·dsimp only at h;obtain⟨d,hd⟩:∃d,L[i+a]?=some d:=⟨_,fg ae⟩;obtain⟨lb,lo,q⟩:=p.src.some a_;have v:((i:Int)+(a:Int)).toNat=i+a:=ae;have k:∀(j:Nat)(u:Value),(kS d)[j]?=some u->aQ F ⟨lb,lo+((i:Int)+(a:Int)).toNat*5+j,none⟩ u:=fun j u A=>by
   rw[v];exact p.look q hd A
  have s:ii L (i+a) t=((d.kind==5||d.kind==2)&&bD d.text t):=by unfold ii;rw[hd]
  refine⟨rfl,_,_,_,p.l0,_,p.l1,hS,gG 5 rfl rfl rfl rfl,⟨lb,lo,L.length,lc,(i:Int)+(a:Int)⟩,by rw[show la=_ from q],hS,_,k 0 _ rfl,_,k 1 _ rfl,_,k 2 _ rfl,_,k 3 _ rfl,_,k 4 _ rfl,fun B=>⟨al,al,al,al,al,al,aG (fun e1=>⟨al,(),ao,k8 ?_,aA [0]⟩) (fun e1=>⟨al,aG (fun r=>⟨al,(),ao,k8 ?_,aA [0]⟩) (fun r=>⟨(),ao,k8 ?_,aA [0]⟩)⟩)⟩⟩
  ·dsimp only;rw[s,fZ,show(d.kind==5)=true from e1];rfl
  ·dsimp only;rw[s,fZ,show(d.kind==2)=true from r,mJ];rfl
  ·dsimp only;rw[s,show(d.kind==5)=false from e1,show(d.kind==2)=false from r];rfl
theorem jW:aD 29 gF:=fo 46 Tryz.func29 (fun _ _=>[(1,3,dd),(1,9,.q [.ex 0 .slice]),(3,3,.q [.ex 0 .slice]),(3,7,dd),(3,10,.qo (fJ 5)),(3,11,.q Vv),(3,12,.n 4120)]) [(3,13,.w [LH.z00 (4120:Nat),LH.z00 (4120:Nat),LH.z00 (4120:Nat),LH.z00 (4120:Nat),LH.z00 (4120:Nat)]),(4,1,aP 4120),(4,10,aP 4120),(4,5,aP 4120)] aY aY bA [] ae4
end
section
open Go
structure FQ where
 b:Nat
 p:Int
 e:Int
def iG(p e:Int):Value:=.iface 51 (.agg #[.int .i64 p,.int .i64 e])
def yX:aR where
 X:=FQ
 args x:=[ag (some ⟨x.b,0,none⟩),ad x.p,ad x.e]
 val x _:=panicked [⟨iG x.p x.e,false,false⟩]
theorem ac8(x:FQ)(F:ah)(a:yX.cond x)(b:yX.aO x F):ar yX x F (dT x.p x.e) [(0,F)]:=by
 delta dT;exact iS
theorem UD:aD 28 yX:=fo 10 Tryz.func28 (fun _ _=>[(0,4,.w [])]) [] aY aY bA [] ac8
structure FU where
 p:cX
 a:Nat
def Bp(L:List bh)(k:Nat):Bool:=match L[k]? with
 |none=>false
 |some x=>x.kind==1
def wJ:aR where
 X:=FU
 args x:=[ag (some ⟨x.p.b,0,none⟩),ad x.a]
 cond x:=x.p.L.length<=1048576/\x.p.i<=1048576/\x.a<=1048576
 aO x F:=iM x.p F
 val x _:=ay (aj (Bp x.p.L (x.p.i+x.a)))
 eT _ _ _ hs h:=iM.sub hs h
theorem agx(x:FU)(F:ah)(q:wJ.cond x)(l:wJ.aO x F):true=true/\T1 F ⟨x.p.b,1,none⟩ (fun j=>bK (j+x.a)/\eA F ⟨x.p.b,0,none⟩ (fun i h g=>aS (j+x.a<(h:Int)) (eA F ⟨x.p.b,0,none⟩ (fun f e d=>T1 F ⟨x.p.b,1,none⟩ (fun c=>bK (c+x.a)/\iP (a7 Tryz.f66 1 23) [au f e d,ad (c+x.a)] (fun b=>T1 F ⟨b.b,b.o+b.n.toNat*5,none⟩ (fun a=>ar wJ x F (ay (aj (a==1))) [(0,F)]))))) (ar wJ x F cQ [(0,F)]))):=by
 delta T1 eA iP dk cQ bK ad aj au aS ay;obtain⟨⟨b,la,lc,L,fin,i⟩,a⟩:=x;obtain⟨o,hi,p⟩:=q;replace l:iM ⟨b,la,lc,L,fin,i⟩ F:=l;dsimp only at o hi p;dsimp only;refine⟨rfl,_,l.l1,hS,_,_,_,l.l0,bo (fun h=>?_) (fun h=>⟨(),ao,k8 ?_,aA [0]⟩)⟩
 ·dsimp only at h;obtain⟨d,hd⟩:∃d,L[i+a]?=some d:=⟨_,fg ae⟩;obtain⟨lb,lo,m⟩:=l.src.some a_;have n:((i:Int)+(a:Int)).toNat=i+a:=ae;have k:∀(j:Nat)(u:Value),(kS d)[j]?=some u->aQ F ⟨lb,lo+((i:Int)+(a:Int)).toNat*5+j,none⟩ u:=fun j u r=>by
   rw[n];exact l.look m hd r
  have s:Bp L (i+a)=(d.kind==1):=by unfold Bp;rw[hd]
  refine⟨_,_,_,l.l0,_,l.l1,hS,gG 5 rfl rfl rfl rfl,⟨lb,lo,L.length,lc,(i:Int)+(a:Int)⟩,by rw[show la=_ from m],hS,_,k 0 _ rfl,(),ao,k8 ?_,aA [0]⟩;dsimp only;rw[s]
 ·dsimp only at h⊢;unfold Bp;rw[pN ae]
theorem VU:aD 66 wJ:=fo 33 Tryz.func66 (fun _ _=>[(1,3,dd),(1,9,.q [.ex 0 .slice]),(1,16,.q [.ex 0 .slice]),(1,20,dd),(1,23,.qo (fJ 5)),(1,25,dd)]) [] aY aY bA [] agx
def ly:aR where
 X:=cX
 args x:=[ag (some ⟨x.b,0,none⟩)]
 cond x:=x.L.length<=1048576
 aO x F:=iM x F
 val x _:=panicked [⟨iG (co x.L x.fin x.i).pos 60,false,false⟩]
 eT _ _ _ hs h:=iM.sub hs h
def im(z:cX):List Value:=[ag (some ⟨z.b,0,none⟩)]
def fd(aa:List Value)(rr:ah)(a:cX->Unit->Prop):=aD 24 iz/\true=true/\∃(z:cX),aa=(im z)/\([]:List ah)=[]/\z.L.length<=1048576/\iM z rr/\∀(b:Unit),True->a z b
def Ge(aa:List Value)(a:FQ->Unit->Prop):=aD 28 yX/\true=true/\∃(z:FQ),aa=[ag (some ⟨z.b,0,none⟩),ad z.p,ad z.e]/\([]:List ah)=[]/\True/\True/\∀(b:Unit),True->a z b
theorem abd(x:cX)(F:ah)(e:ly.cond x)(f:ly.aO x F):fd (im x) (cP F) (fun d c=>Ge [ag (some ⟨x.b,0,none⟩),ad (co d.L d.fin d.i).pos,ad 60] (fun b a=>ar ly x F (dT b.p b.e) [(0,F)])):=by
 delta im fd cP Ge dT aH ad ag;exact bs kR x e (iM.sub (bU 0) f) fun _ _=>l6 UD ⟨x.b,(co x.L x.fin x.i).pos,60⟩ fun _ _=>iS
theorem pG:aD 15 ly:=fo 7 Tryz.func15 (fun _ _=>[(0,2,aX iz),(0,4,aX yX)]) [] aY aY bA [] abd
end
section
open Go
def TP{α:Type}(m:PM α)(s:ap)(Q:α->ap->Prop):Prop:=
 match m s with
 | .ok a t=>Q a t
 | .stop _ _ _=>True
 | .out=>False
section
variable{α β:Type}{s:ap}
theorem TP.bind{m:PM α}{f:α->PM β}{Q:β->ap->Prop}(h:TP m s fun a t=>TP (f a) t Q):TP (m>>=f) s Q:=by
 show TP (bS m f) s Q;unfold TP bS at*;grind
theorem TP.mono{m:PM α}{Q R:α->ap->Prop}(h:TP m s Q)(k:∀a t,Q a t->R a t):TP m s R:=by
 unfold TP at*;grind
theorem TP.ret{a:α}{Q:α->ap->Prop}(h:Q a s):TP (ret a) s Q:=h
theorem TP.bif{b:Bool}{m n:PM α}{Q:α->ap->Prop}(a:b=true->TP m s Q)(c:b=false->TP n s Q):TP (bif b then m else n) s Q:=by
 grind
theorem TP.get{Q:ap->ap->Prop}(h:Q s s):TP eZ s Q:=h
theorem TP.dW{k:Int}{Q:Int->ap->Prop}(h:∀p,Q p s):TP (dW k) s Q:=h _
variable(L:List bh){fin:Int}
def left(s:ap):Nat:=L.length-s.i
variable{L}
theorem TP.set{t:ap}(hi:s.i<=t.i){Q:Unit->ap->Prop}(h:∀t,left L t<=left L s->Q () t):TP (io t) s Q:=h t (by unfold left;omega)
theorem TP.node{x:bP}{Q:Int->ap->Prop}(h:∀k t,left L t<=left L s->Q k t):TP (dj x) s Q:=h _ _ (bZ _)
theorem ZZ{x:bP}{Q:Int->ap->Prop}(h:∀k t,t.i=s.i->left L t=left L s->Q k t):TP (dj x) s Q:=h _ _ rfl rfl
theorem jc{s:ap}(h:(aC L fin s).kind≠0):s.i<L.length:=by
 unfold aC at h;grind
theorem je{s:ap}{t:ByteArray}(h:bg L s 0 t=true):s.i<L.length:=by
 unfold bg at h;grind
theorem Bk{s:ap}(h:s.i<L.length):left L {s with i:=s.i+1}<left L s:=by
 unfold left;grind
theorem TP.step(hs:s.i<L.length){Q:Unit->ap->Prop}(h:∀t,left L t<left L s->Q () t):TP eF s Q:=h _ (Bk hs)
theorem TP.cd{Q:bh->ap->Prop}(h:Q (aC L fin s) s):TP (fv L fin) s Q:=h
theorem TP.dN{Q:α->ap->Prop}:TP (kj L fin) s Q:=ao
theorem TP.b9{t:ByteArray}{Q:Bool->ap->Prop}(a:∀u,left L u<left L s->Q true u)(b:bg L s 0 t=false->Q false s):TP (cZ L t) s Q:=by
 unfold TP cZ;cases h:bg L s 0 t with
 |true=>exact a _ (Bk (je h))
 |false=>exact b h
theorem TP.bW{t:ByteArray}{Q:Unit->ap->Prop}(a:∀u,left L u<left L s->Q () u):TP (cw L fin t) s Q:=by
 unfold TP cw;cases h:bg L s 0 t with
 |true=>exact a _ (Bk (je h))
 |false=>trivial
theorem TP.mM{a:Nat}{t:ByteArray}{Q:Bool->ap->Prop}(h:∀b,b=bg L s a t->Q b s):TP (iT L a t) s Q:=h _ rfl
theorem TP.kt{k:Int}{b:Bool}{Q:Unit->ap->Prop}(h:Q () s):TP (kv k b) s Q:=by
 unfold TP kv;grind
theorem TP.word{Q:ByteArray->ap->Prop}(h:∀w t,left L t<left L s->Q w t):TP (gJ L fin) s Q:=by
 unfold TP gJ;cases hk:(aC L fin s).kind !=1 with
 |true=>trivial
 |false=>exact h _ _ (Bk (jc (fin:=fin) (by have:(aC L fin s).kind=1:=(by simpa using hk);rw[this];decide)))
theorem TP.qc{Q:Unit->ap->Prop}(h:∀t,left L t<=left L s->Q () t):TP (dQ L fin) s Q:=by
 unfold TP dQ;cases hx:bg L s 0 cU with
 |true=>exact h _ (Nat.le_of_lt (Bk (je hx)))
 |false=>
  grind
theorem TP.key{aJ:Nat->ByteArray}{wide:ByteArray->ByteArray}{Q:Int->ap->Prop}(h:∀k t,left L t<left L s->Q k t):TP (d5 L fin aJ wide) s Q:=by
 have go:∀{op:ByteArray},(aC L fin s).kind≠0->Q s.nodes.length {s with i:=s.i+1,nodes:=s.nodes++[⟨2,op,0,[],(aC L fin s).pos⟩]}:=fun{op}hk=>h _ _ (Bk (jc hk));unfold TP d5;dsimp only;cases a:(aC L fin s).kind==1||(aC L fin s).kind==2 with
 |true=>exact go (fun e=>by rw[e]at a;cases a)
 |false=>
  rw[aN];cases b:(aC L fin s).kind==3 with
  |true=>exact go (fun e=>by rw[e]at b;cases b)
  |false=>
   rw[aN];cases c:(aC L fin s).kind==4 with
   |true=>exact go (fun e=>by rw[e]at c;cases c)
   |false=>trivial
theorem TP.empty{Q:Int->ap->Prop}(h:∀k t,left L t<=left L s->Q k t):TP (iv L fin) s Q:=h _ _ (bZ _)
end
def aq.e7:aq->Nat
 | .level n=>6+(10-n)
 | .cond=>17| .bf=>18| .bT _=>19| .d0 _| .cS _=>19| .loop| .fH _ _| .eu _| .prog _=>20
 | .unary=>5| .dO=>4| .suffix=>3| .dv=>2| .dF _| .choose _=>2
 |_=>1
def aq.cons:aq->Bool
 | .fY _ _| .d6 _| .eu _| .prog _=>false
 |_=>true
def aq.ct(L:List bh)(s:ap):aq->Prop
 | .level n=>n<=10
 | .fY n _=>n<=9
 | .func _| .vars| .simple _=>s.i<L.length
 |_=>True
section
variable{fin:Int}{L:List bh}{aJ:Nat->ByteArray}{wide:ByteArray->ByteArray}
def fN(L:List bh)(fin:Int)(aJ:Nat->ByteArray)(wide:ByteArray->ByteArray)(f:Nat):Prop:=
 ∀(tag:aq)(s:ap),tag.ct L s->24*left L s+tag.e7<=f->TP (P L fin aJ wide f tag) s fun _ t=>left L t<=left L s/\(tag.cons=true->left L t<left L s)
end
end
end Go.Proofs.YtdkchodgklpomaaGreatDoor
