/- A part of the proof that pennantlaw07.PrintSpread answers true at every input. -/
import Derived.Test.YthhiffpfleacaaaGreatDoorPPad
set_option linter.all false
namespace Go.Proofs.YthhiffpfleacaaaGreatDoor
set_option maxRecDepth 100000
open Go.Value (int slice string bool pointer agg tuple func float iface nilIface)
open Go.IntKind (i64 u8 u64 i32 u32 u16 i8 i16)
open Go.FloatKind (f64)
open Go.Ending (returned panicked)
open Go.Proofs.Tryz
section
def eW(f:Nat->Int):aM:=(List.range 800).map f
def jN(d:bn)(M N w j:Nat):Int:=bif decide (w<=j)&&decide (j<N) then 48+(M/10^(N-1-j)%10:Nat) else d.at_ j
def kR(d:bn)(M N w:Nat):Bool:=d.tr||(M%10^(N-max w 800)!=0)
def g_(d:bn)(M N w:Nat):bn:=⟨eW (jN d M N w),d.nd,d.dp,d.ng,kR d M N w⟩
def ii(d:bn)(c:Nat×ah):Nat:=d.nd.toNat+m9 d c
def qb(d:bn)(k:Nat)(c:Nat×ah):bn:=lF ⟨eW (jN d (d.aT*2^k) (ii d c) 0),(min (ii d c) 800:Nat),d.dp+(m9 d c:Nat),d.ng,kR d (d.aT*2^k) (ii d c) 0⟩
def vC(f:Nat->Int):(eW f).length=800:=by unfold eW;simp
variable{i t:Nat}{f:Nat->Int}
theorem SD(h:i<800):(eW f).getD i 0=f i:=by
 unfold eW;rw[eG,fZ,List.getElem?_range h] <;> rfl
theorem Ey{g:Nat->Int}(h:∀i,i<800->f i=g i):eW f=eW g:=by
 exact List.map_congr_left λi a=>h i (List.mem_range.1 a)
theorem aaa(v:Int):(eW f).set i v=eW (λj=>if j=i then v else f j):=by
 apply List.ext_getElem?;intro j;unfold eW;by_cases a:j<800;rw[fZ,List.getElem?_range a,List.getElem?_set,fZ,List.getElem?_range a];by_cases e:i=j;subst e;simp[a];simp[e,Ne.symm e];rw[oH (by simp;omega),oH (by simp;omega)]
theorem Z_{l:aM}(h:l.length=800):l=eW (λi=>l.getD i 0):=by
 apply List.ext_getElem?;intro j;unfold eW;by_cases a:j<800;rw[fZ,List.getElem?_range a];show l[j]?=some (l.getD j 0);rw[eG,da O] <;> rfl;rw[oH O,oH (by simp;omega)]
section
variable{d:bn}{M N w:Nat}
theorem ZC(b:1<=w)(a:w<=N)(j:Nat):jN d M N (w-1) j=if j=w-1 then 48+((M/10^(N-w)%10:Nat):Int) else jN d M N w j:=by
 unfold jN;grind
theorem ajx(h:w<=800):kR d M N (w-1)=kR d M N w:=by
 unfold kR;grind
theorem ajw(b:800<w)(a:w<=N):kR d M N (w-1)=(kR d M N w||(M/10^(N-w)%10 !=0)):=by
 unfold kR;rw[show max (w-1) 800=w-1 by omega,show max w 800=w by omega,show N-(w-1)=N-w+1 by omega,Nat.mod_pow_succ,Bool.or_assoc];congr 1;rw[Bool.eq_iff_iff];simp only[bne_iff_ne,Bool.or_eq_true];have hp:=sI (N-w);constructor;grind;rintro(h|h) e;omega;have:0<M/10^(N-w)%10:=Nat.pos_of_ne_zero h;have:=Nat.mul_pos hp this;omega
theorem vx:(g_ d M N w).ds.length=800:=by unfold g_;dsimp only;rw[vC]
theorem ZD(c:1<=w)(b:w<=N)(a:w<=800):(A (g_ d M N w)).set (w-1) (.int .u8 (48+(M/10^(N-w)%10:Nat)))=A (g_ d M N (w-1)):=by
 rw[WA vx O];unfold g_;rw[aaa,ajx a];exact congrArg (λl=>A ⟨l,d.nd,d.dp,d.ng,kR d M N w⟩) (Ey λi _=>(ZC c b i).symm)
theorem LG(b:800<w)(a:w<=N):g_ d M N (w-1)=⟨eW (jN d M N w),d.nd,d.dp,d.ng,kR d M N w||(M/10^(N-w)%10 !=0)⟩:=by
 unfold g_;rw[ajw b a,show eW (jN d M N (w-1))=eW (jN d M N w)from Ey λi c=>by rw[ZC O a,if_neg O]]
theorem ajv(c:d.ds.length=800):g_ d M N N=d:=by
 unfold g_;have a:kR d M N N=d.tr:=by{unfold kR;rw[show N-max N 800=0 by omega,Nat.pow_zero,Nat.mod_one];cases d.tr <;> rfl};have b:eW (jN d M N N)=d.ds:=by{rw[Z_ c];refine Ey λi _=>?_;unfold jN;by_cases h:N<=i;rw[bF (show ¬i<N by omega),nO] <;> rfl;rw[bF h] <;> rfl};rw[a,b]
end
theorem ZN(D k p:Nat):((D%10^p)*2^k/10^p+D/10^p%10*2^k)/10=(D%10^(p+1))*2^k/10^(p+1)/\((D%10^p)*2^k/10^p+D/10^p%10*2^k)%10=D*2^k/10^p%10/\(D%10^p)*2^k/10^p<=2^k:=by
 have hp:=sI p;have e1:(D%10^(p+1))*2^k/10^p=(D%10^p)*2^k/10^p+D/10^p%10*2^k:=by{rw[Nat.mod_pow_succ,Nat.add_mul,Nat.mul_assoc,Nat.add_mul_div_left _ _ hp]};refine⟨?_, ?_, ?_⟩;rw[<-e1,Nat.div_div_eq_div_mul,<-Nat.pow_succ];rw[<-e1];have a:D*2^k=(D%10^(p+1))*2^k+10^p*(10*(D/10^(p+1)*2^k)):=by
  conv=>lhs;rw[<-Nat.mod_add_div D (10^(p+1))]
  grind
 rw[a,Nat.add_mul_div_left _ _ hp,Nat.add_mul_mod_self_left];refine Nat.div_le_of_le_mul ?_;exact Nat.mul_le_mul_right _ (Nat.le_of_lt (Nat.mod_lt _ hp))
theorem k7{n:Nat}(h:n<18446744073709551616):u64.wrap (n:Int)=(n:Int):=dw (i:=.u64) aC
theorem We(h:t<18446744073709551616):u64.wrap ((t:Int).tdiv 10)=((t/10:Nat):Int):=by
 rw[show(t:Int).tdiv 10=((t/10:Nat):Int)from rfl];exact k7 O
theorem aaO(h:t<18446744073709551616):u64.wrap ((t:Int)-u64.wrap (10*u64.wrap ((t:Int).tdiv 10)))=((t%10:Nat):Int):=by
 rw[We h,show(10:Int)*((t/10:Nat):Int)=((10*(t/10):Nat):Int) by omega,k7 O,show(t:Int)-((10*(t/10):Nat):Int)=((t%10:Nat):Int) by omega];exact k7 O
theorem YC(t:Nat):u8.wrap (u64.wrap (((t%10:Nat):Int)+48))=48+((t%10:Nat):Int):=by
 rw[dw (i:=.u64) (n:=((t%10:Nat):Int)+48) aC,dw (i:=.u8) (n:=((t%10:Nat):Int)+48) aC];omega
def Ef(a:IntKind)(k:Nat):j5 where
 X:=qD
 args x:=[.slice (some ⟨x.b,x.o,none⟩) x.len x.aq,.int a x.n]
 cond x:=0<=x.n/\x.n<x.len
 val x:=.pointer (some ⟨x.b,x.o+x.n.toNat*k,none⟩)
theorem Zn{P:Program}{o:Oper}{x i:Operand}{t e:TypeId}{a:TypeInfo}{h:IntKind}(k:Nat)(g:o.op= .indexAddr t x i)(r:P.underlying t=some (.slice e))(f:P.info? e=some a)(U:a.size=k):cN P o (Ef h k):=by
 refine⟨λX w ρ m p=>?_⟩;obtain⟨b,d,len,aq,n⟩:=X;obtain⟨j,l⟩:=p;simp only[g,Op.operands,Ef]at m;obtain⟨s,q⟩:ρ x= .slice (some ⟨b,d,none⟩) len aq/\ρ i= .int h n:=by grind
 have c:P.cellsOf e=a.size:=by unfold Program.cellsOf;simp[f]
 subst U;simp[execOp,g,s,q,Instr.indexAt,asIntOf,run_underlying r,run_sizeOf w f,c,j,l,oC,Sem.run,Ef]
structure jq where
 b:Nat
 d:bn
 k:Nat
 tb:Nat->Nat
 lc:Nat->Nat×ah
abbrev Fb(x:jq):=D x.b (A x.d) 171
abbrev ly(x:jq):bv:=some ⟨x.b,0,none⟩
abbrev BO:aF where
 X:=jq
 Y:=bn
 args x:=[W (ly x),T x.k]
 pre x:=[Fb x]
 cond x:=x.d.norm/\1<=x.k/\x.k<=60/\Dl x.k (x.lc x.k)/\ -1000000000<=x.d.dp/\x.d.dp<=1000000000
 aE x F:=io x.tb x.lc F
 bS x y:=y=qb x.d x.k (x.lc x.k)
 val _ _:=.returned (.tuple #[])
 post x y:=[D x.b (A y) 171]
structure lK where
 r:Nat
 w:Nat
 d:bn
def jq.M(x:jq):Nat:=x.d.aT*2^x.k
def jq.N(x:jq):Nat:=ii x.d (x.lc x.k)
def jq.e(x:jq):Nat:=m9 x.d (x.lc x.k)
def jq.c(x:jq)(r:Nat):Nat:=(x.d.aT%10^(x.d.nd.toNat-r))*2^x.k/10^(x.d.nd.toNat-r)
abbrev zO(x:jq)(s:lK):=D x.b (A s.d) 171
def ajz(x:jq)(F:ag):Nat->Option Inv:=fun
 |0=>some {X:=lK,P:=λs=>s.r<=x.d.nd.toNat/\s.d=g_ x.d x.M x.N (s.r+x.e),mu:=λs=>s.r,lv:=λs=>[(0,W (ly x)),(1,T x.k),(4,Z x.e),(5,Z ((s.r:Int)-1)),(6,Z ((s.r+x.e:Nat):Int)),(7,T (x.c s.r:Nat))],st:=λs=>[zO x s,F]}
 |2=>some {X:=lK,P:=λs=>s.w<=x.e/\s.d=g_ x.d x.M x.N s.w,mu:=λs=>s.w,lv:=λs=>[(0,W (ly x)),(4,Z x.e),(6,Z (s.w:Int)),(7,T (x.M/10^(x.N-s.w):Nat))],st:=λs=>[zO x s,F]}
 |_=>none
def ajy(x:jq)(F:ag):Nat->Option Inv:=fun
 |3=>some {X:=ax,P:=λ_=>True,mu:=λ_=>0,lv:=λ_=>[(0,W (ly x)),(1,T x.k),(4,Z x.e)],st:=λ_=>[Fb x,F]}
 |27=>some {X:=lK,P:=λs=>s.d=g_ x.d x.M x.N 0,mu:=λ_=>0,lv:=λ_=>[(0,W (ly x)),(4,Z x.e)],st:=λs=>[zO x s,F]}
 |30=>some {X:=lK,P:=λs=>s.d=⟨eW (jN x.d x.M x.N 0),(min x.N 800:Nat),x.d.dp,x.d.ng,kR x.d x.M x.N 0⟩,mu:=λ_=>0,lv:=λ_=>[(0,W (ly x)),(4,Z x.e)],st:=λs=>[zO x s,F]}
 |_=>none
def PX(c:Oper)(a:aN)(b:qD->Prop):=cN prog c (Ef u64 2)/\∃(z:qD),a=[Q (some ⟨z.b,z.o,none⟩) z.len z.aq,T z.n]/\(0<=z.n/\z.n<z.len)/\b z
def PY(a:jq)(e1:ag)(c:aD)(b:St):=∃(z:ax),True/\(W (ly a)=W (ly a)/\T ↑a.k=T ↑a.k/\c=Z ↑a.e/\True)/\ay b [(0,D a.b (A a.d) 171),(1,e1)]
def N8(z:lK)(a:jq):=z.r<=a.d.nd.toNat/\z.d=g_ a.d a.M a.N (z.r+a.e)
abbrev um(a:jq)(z:lK)(e1:ag):=[(0,D a.b (A z.d) 171),(1,e1)]
def JR(a:jq)(e1:ag)(c d e:aD)(b:St)(mm:Nat):=∃(z:lK),N8 z a/\(W (ly a)=W (ly a)/\T ↑a.k=T ↑a.k/\Z ↑a.e=Z ↑a.e/\c=Z ((z.r:Int)-1)/\d=Z (↑(z.r+a.e):Int)/\e=T (↑(a.c z.r):Int)/\True)/\ay b (um a z e1)/\z.r<mm
abbrev OA(j:lK):=Z ((j.r:Int)-1-(1:Int))
abbrev Mp(x:jq)(j:lK)(b:Int):=T (aZ ((aZ ((↑(x.c j.r):Int)+aZ (aZ (aZ b-48)*2^min (x.k:Int).toNat u64.bits))).tdiv (10:Int)))
def JS(a:jq)(e1:ag)(c d:aD)(b:St)(mm:Nat):=∃(z:lK),(z.w<=a.e/\z.d=g_ a.d a.M a.N z.w)/\(W (ly a)=W (ly a)/\Z ↑a.e=Z ↑a.e/\c=Z ↑z.w/\d=T (↑(a.M/10^(a.N-z.w)):Int)/\True)/\ay b (um a z e1)/\z.w<mm
abbrev Nr(x:jq)(c:lK):=T (aZ ((↑(x.M/10^(x.N-c.w)):Int).tdiv (10:Int)))
def Vn(a:jq):=W (ly a)=W (ly a)/\Z ↑a.e=Z ↑a.e/\True
def PZ(a:jq)(e1:ag)(b:St):=∃(z:lK),z.d=⟨eW (jN a.d a.M a.N 0),(↑(min a.N 800):Int),a.d.dp,a.d.ng,kR a.d a.M a.N 0⟩/\Vn a/\ay b (um a z e1)
def JT:=dK 195 wn (λa=>a.d.ok)
theorem ajA(x:jq)(F:ag)(hc:BO.cond x)(hr:BO.aE x F):dN F ⟨12,0,none⟩ (λs r q=>PX (aL f196 0 2) [Q s r q,T ↑x.k] (λp=>T1 F ⟨p.b,p.o+p.n.toNat*2,none⟩ (λo=>(true=true/\T1 (Fb x) ⟨x.b,800,none⟩ (λj=>cN prog (aL f196 1 7) (G0 800)/\∃(i:W3),[W (ly x),Z 0,Z j]=[W (some ⟨i.b,0,none⟩),Z 0,Z i.h]/\(0<=i.h/\i.h<=(↑(800:Nat):Int))/\dN F ⟨12,0,none⟩ (λh g f=>PX (aL f196 1 10) [Q h g f,T ↑x.k] (λe=>T2 F ⟨e.b,e.o+e.n.toNat*2+1,none⟩ (λd=>dK 211 xx (λc=>c.d.ok/\c.s.size<=1000) [Q (some ⟨i.b,0,none⟩) i.h.toNat 800,C d] [D x.b (A x.d) 171] (λc b=>Br (ui c.d c.s) (aA (o-1)/\PY x F (Z (o-1)) (uk c F)) (PY x F (Z o) (uk c F))))))))/\aQ λ(n:ax)_=>True->T1 (Fb x) ⟨x.b,800,none⟩ (λm=>T1 (Fb x) ⟨x.b,800,none⟩ (λk=>aA (k+x.e)/\aA (m-1)/\(∃(a:lK),N8 a x/\(W (ly x)=W (ly x)/\T ↑x.k=T ↑x.k/\Z ↑x.e=Z ↑x.e/\Z (m-1)=Z ((a.r:Int)-1)/\Z (k+x.e)=Z (↑(a.r+x.e):Int)/\T 0=T (↑(x.c a.r):Int)/\True)/\ay [(0,D x.b (A x.d) 171),(1,F)] (um x a F))/\aQ λ(j:lK)_=>N8 j x->aK ((j.r:Int)-1>=(0:Int)) ((0<=(j.r:Int)-1/\(j.r:Int)-1<(↑(800:Nat):Int))/\jD (zO x j) ⟨x.b,0+((j.r:Int)-1).toNat*1,none⟩ (λb=>aA ((↑(j.r+x.e):Int)-1)/\aK ((↑(j.r+x.e):Int)-1<(800:Int)) ((0<=(↑(j.r+x.e):Int)-1/\(↑(j.r+x.e):Int)-1<(↑(800:Nat):Int))/\(d6 ⟨x.b,0+((↑(j.r+x.e):Int)-1).toNat*1,none⟩ x.b/\0+((↑(j.r+x.e):Int)-1).toNat*1<(A j.d).length)/\aA ((j.r:Int)-1-(1:Int))/\JR x F (OA j) (Z ((↑(j.r+x.e):Int)-1)) (Mp x j b) [(0,D x.b ((A j.d).set (0+((↑(j.r+x.e):Int)-1).toNat*1) (u (u8.wrap (aZ (aZ (aZ ((↑(x.c j.r):Int)+aZ (aZ (aZ b-48)*2^min (x.k:Int).toNat u64.bits))-aZ (10*aZ ((aZ ((↑(x.c j.r):Int)+aZ (aZ (aZ b-48)*2^min (x.k:Int).toNat u64.bits))).tdiv (10:Int))))+48))))) 171),(1,F)] j.r) (Br (aZ (aZ ((↑(x.c j.r):Int)+aZ (aZ (aZ b-48)*2^min (x.k:Int).toNat u64.bits))-aZ (10*aZ ((aZ ((↑(x.c j.r):Int)+aZ (aZ (aZ b-48)*2^min (x.k:Int).toNat u64.bits))).tdiv (10:Int))))!=0) ((V x.b 803/\803<(A j.d).length)/\aA ((j.r:Int)-1-(1:Int))/\JR x F (OA j) (Z ((↑(j.r+x.e):Int)-1)) (Mp x j b) [(0,D x.b ((A j.d).set 803 (H true)) 171),(1,F)] j.r) (aA ((j.r:Int)-1-(1:Int))/\JR x F (OA j) (Z ((↑(j.r+x.e):Int)-1)) (Mp x j b) (um x j F) j.r)))) (((∃(a:lK),(a.w<=x.e/\a.d=g_ x.d x.M x.N a.w)/\(W (ly x)=W (ly x)/\Z ↑x.e=Z ↑x.e/\Z (↑(j.r+x.e):Int)=Z ↑a.w/\T (↑(x.c j.r):Int)=T (↑(x.M/10^(x.N-a.w)):Int)/\True)/\ay (um x j F) (um x a F))/\aQ λ(c:lK)_=>(c.w<=x.e/\c.d=g_ x.d x.M x.N c.w)->aK ((↑(x.M/10^(x.N-c.w)):Int)>0) (aA ((c.w:Int)-1)/\aK ((c.w:Int)-1<(800:Int)) ((0<=(c.w:Int)-1/\(c.w:Int)-1<(↑(800:Nat):Int))/\(d6 ⟨x.b,0+((c.w:Int)-1).toNat*1,none⟩ x.b/\0+((c.w:Int)-1).toNat*1<(A c.d).length)/\JS x F (Z ((c.w:Int)-1)) (Nr x c) [(0,D x.b ((A c.d).set (0+((c.w:Int)-1).toNat*1) (u (u8.wrap (aZ (aZ ((↑(x.M/10^(x.N-c.w)):Int)-aZ (10*aZ ((↑(x.M/10^(x.N-c.w)):Int).tdiv (10:Int))))+48))))) 171),(1,F)] c.w) (Br (aZ ((↑(x.M/10^(x.N-c.w)):Int)-aZ (10*aZ ((↑(x.M/10^(x.N-c.w)):Int).tdiv (10:Int))))!=0) ((V x.b 803/\803<(A c.d).length)/\JS x F (Z ((c.w:Int)-1)) (Nr x c) [(0,D x.b ((A c.d).set 803 (H true)) 171),(1,F)] c.w) (JS x F (Z ((c.w:Int)-1)) (Nr x c) (um x c F) c.w))) (∃(a:lK),a.d=g_ x.d x.M x.N 0/\Vn x/\ay (um x c F) (um x a F)))/\aQ λ(h:lK)_=>h.d=g_ x.d x.M x.N 0->T1 (zO x h) ⟨x.b,800,none⟩ (λf=>aA (f+x.e)/\(V x.b 800/\800<(A h.d).length)/\T1 (D x.b ((A h.d).set 800 (Z (f+x.e))) 171) ⟨x.b,800,none⟩ (λb=>aK (b>=800) ((V x.b 800/\800<((A h.d).set 800 (Z (f+x.e))).length)/\PZ x F [(0,D x.b (((A h.d).set 800 (Z (f+x.e))).set 800 (Z 800)) 171),(1,F)]) (PZ x F [(0,D x.b ((A h.d).set 800 (Z (f+x.e))) 171),(1,F)]))/\aQ λ(e:lK)_=>e.d=⟨eW (jN x.d x.M x.N 0),(↑(min x.N 800):Int),x.d.dp,x.d.ng,kR x.d x.M x.N 0⟩->T1 (zO x e) ⟨x.b,801,none⟩ (λc=>aA (c+x.e)/\(V x.b 801/\801<(A e.d).length)/\JT [W (ly x)] [D x.b ((A e.d).set 801 (Z (c+x.e))) 171] (λb a=>l BO x F eK [(0,D b.b (A (lF b.d)) 171),(1,F)]))))))))):=by
 delta dN PX T1 Fb ly T2 PY uk N8 um jD zO JR OA Mp JS Nr Vn PZ JT eK V aA dK Z u T C H W Q D aZ aK al aQ;obtain⟨b,d,k,tb,lc⟩:=x;obtain⟨K,y2,x3,G,y4,y5⟩:=hc;replace hr:io tb lc F:=hr;dsimp only at K y2 x3 G y4 y5;have hl:=K.len;have y3:1<=d.nd.toNat/\d.nd.toNat<=800/\((d.nd.toNat:Nat):Int)=d.nd:=by have:=K.au;have:=K.max;omega
 have L:=ZE K G;generalize R:(⟨b,d,k,tb,lc⟩:jq)=x at*;have xb:x.b=b:=by rw[<-R]
 have xd:x.d=d:=by rw[<-R]
 have xk:x.k=k:=by rw[<-R]
 have xM:x.M=d.aT*2^k:=by rw[<-R] <;> rfl
 have xe:x.e=m9 d (lc k):=by rw[<-R] <;> rfl
 have xN:x.N=d.nd.toNat+x.e:=by rw[<-R] <;> rfl
 have xc:∀r,x.c r=(d.aT%10^(d.nd.toNat-r))*2^k/10^(d.nd.toNat-r):=by rw[<-R];intro r;rfl
 rw[xb,xd,xk];have z4:x.e<=60:=by{rw[xe];have h1:=G.G8;have h2:=G.h8.au;unfold m9;cases ui d (lc k).2 <;> simp only[aW,y] <;> omega};have x5:2^k<=1152921504606846976:=by{have:2^k<=2^60:=pw (by decide) x3;exact this};rw[<-xM,<-xe,<-xN]at L;have x7:x.M<10^x.N:=L.2;obtain⟨B,o,cp,g1,g2⟩:=hr.lc;have I:∀v:bn,ay [(0,.cells b (A v) 171),(1,F)] [(0,.cells b (A v) 171),(1,F)]:=λv=>ao [0,1];refine⟨_,_,_,g1,Zn 2 rfl rfl rfl rfl,⟨B,o,61,cp,k⟩,rfl,rf,((lc k).1:Int), ?_,⟨rfl,_,kQ hl,aeV rfl rfl rfl rfl rfl,⟨b,d.nd⟩,rfl,rf,_,_,_,g1,Zn 2 rfl rfl rfl rfl,⟨B,o,61,cp,k⟩,rfl,rf,(lc k).2, ?_,alx,rfl,⟨b,d,(lc k).2⟩,rfl,rfl,⟨K.ok, ?_⟩,ai,λ_ _=>ar (λq=>⟨⟨?_, ?_⟩,(),ai,⟨rfl,rfl, ?_,ai⟩,I d⟩) (λq=>⟨(),ai,⟨rfl,rfl, ?_,ai⟩,I d⟩)⟩,λ_ js _=>?_⟩;have:=(g2 k O).1;rw[cy];exact this;have:=(g2 k O).2;rw[cy];exact this;have h1:=G.G8;have h2:=G.one;dsimp only;omega;have:=G.one;omega;have:=G.G8;omega;rw[xe];unfold m9;rw[show ui d (lc k).2=true from q];have:=G.one;exact congrArg (int .i64) (by rw[aW];omega);rw[xe];unfold m9;rw[show ui d (lc k).2=false from q] <;> rfl;refine⟨_,kQ hl,_,kQ hl,aC,aC,⟨⟨d.nd.toNat,0,d⟩,⟨bK _, ?_⟩,⟨rfl,rfl,rfl, ?_, ?_, ?_,ai⟩,I d⟩, ?_⟩;rw[<-xN];exact(ajv hl).symm;rw[y3.2.2];exact congrArg (int .i64) bX;rw[xc];dsimp only;rw[Nat.sub_self,Nat.pow_zero,Nat.mod_one,Nat.zero_mul] <;> rfl;rintro⟨r,_,E⟩ js ⟨y7,J⟩;dsimp only at y7 J⊢;subst J;refine bd (λq=>?_) (λq=>?_);obtain⟨r,rfl⟩:∃j,r=j+1:=⟨r-1,O⟩;have x4:r<d.nd.toNat:=O;obtain⟨m1,m2,m3⟩:=ZN d.aT k (d.nd.toNat-1-r);have y1:d.aT/10^(d.nd.toNat-1-r)%10=dD d r:=YF _ _ K.g9 x4;have y0:=K.g9 r x4;have z3:=K.h8 r O;rw[y1]at m1 m2;have c1:x.c (r+1)=(d.aT%10^(d.nd.toNat-1-r))*2^k/10^(d.nd.toNat-1-r):=by rw[xc,show d.nd.toNat-(r+1)=d.nd.toNat-1-r by omega]
 have c0:x.c r=(d.aT%10^(d.nd.toNat-1-r+1))*2^k/10^(d.nd.toNat-1-r+1):=by rw[xc,show d.nd.toNat-r=d.nd.toNat-1-r+1 by omega]
 rw[<-c1]at m1 m2 m3;rw[<-c0]at m1;rw[<-xM]at m2;have x8:d.at_ r=((48+dD d r:Nat):Int):=by unfold dD;omega
 have P:(r+1+x.e)-1=r+x.e:=O;have X:x.N-(r+1+x.e)=d.nd.toNat-1-r:=O;have y9:aH (.cells b (A (g_ d x.M x.N (r+1+x.e))) 171) ⟨b,0+(((r+1:Nat):Int)-1).toNat*1,none⟩ (.int .u8 (d.at_ r)):=by{rw[show 0+(((r+1:Nat):Int)-1).toNat*1=r by omega];have:=zk (b:=b) (t:=171) (d:=g_ d x.M x.N (r+1+x.e)) vx (i:=r) O;have e:(g_ d x.M x.N (r+1+x.e)).at_ r=d.at_ r:=by{unfold bn.at_ g_;dsimp only;rw[SD O];unfold jN;rw[bF (show ¬r+1+x.e<=r by omega)] <;> rfl};rw[e]at this;exact this};have z0:dD d r*2^k<=9*1152921504606846976:=Nat.mul_le_mul y0 x5;have ht:x.c (r+1)+dD d r*2^k<18446744073709551616:=O;have x0:u64.wrap ((x.c (r+1):Int)+u64.wrap (u64.wrap (u64.wrap (d.at_ r)-48)*2^min (k:Int).toNat u64.bits))=((x.c (r+1)+dD d r*2^k:Nat):Int):=by{rw[x8,k7 O,show((48+dD d r:Nat):Int)-48=((dD d r:Nat):Int) by omega,k7 O,cy,show min k u64.bits=k from Nat.min_eq_left (by show k<=64;omega)];rw[show((dD d r:Nat):Int)*2^k=((dD d r*2^k:Nat):Int) by rw[Int.natCast_mul,Int.natCast_pow] <;> rfl,k7 O,<-Int.natCast_add];exact k7 ht};rw[show(((r+1+x.e:Nat):Int)-1)=((r+x.e:Nat):Int) by omega];have lo:(-9223372036854775808<=((r+1:Nat):Int)-1-1/\((r+1:Nat):Int)-1-1<=9223372036854775807):=aC;have S:(int .i64 (((r+1:Nat):Int)-1-1)=int .i64 ((r:Int)-1)):=congrArg _ O;refine⟨aC,_,y9,aC, ?_⟩;rw[x0,aaO ht,We ht,YC,m1,m2];refine bd (λq1=>⟨aC,⟨Y,by rw[j7 vx];omega⟩,lo,⟨r,0,g_ d x.M x.N (r+x.e)⟩,⟨bX,rfl⟩,⟨rfl,rfl,rfl,S,rfl,rfl,ai⟩, ?_,bX⟩) (λq1=>ar (λq2=>⟨⟨Y,by rw[j7 vx];decide⟩,lo,⟨r,0,g_ d x.M x.N (r+x.e)⟩,⟨bX,rfl⟩,⟨rfl,rfl,rfl,S,rfl,rfl,ai⟩, ?_,bX⟩) (λq2=>⟨lo,⟨r,0,g_ d x.M x.N (r+x.e)⟩,⟨bX,rfl⟩,⟨rfl,rfl,rfl,S,rfl,rfl,ai⟩, ?_,bX⟩));have:=ZD (d:=d) (M:=x.M) (N:=x.N) (w:=r+1+x.e) O O O;rw[P,X]at this;rw[show 0+((r+x.e:Nat):Int).toNat*1=r+x.e by omega,this];exact I _;have:=LG (d:=d) (M:=x.M) (N:=x.N) (w:=r+1+x.e) O O;rw[P,X]at this;rw[OV vx,this];have q2:(((x.M/10^(d.nd.toNat-1-r)%10:Nat):Int)!=0)=true:=q2;have:(x.M/10^(d.nd.toNat-1-r)%10 !=0)=true:=by{rw[bne_iff_ne]at q2⊢;omega};rw[this,oG];exact I _;have:=LG (d:=d) (M:=x.M) (N:=x.N) (w:=r+1+x.e) O O;rw[P,X]at this;have q2:(((x.M/10^(d.nd.toNat-1-r)%10:Nat):Int)!=0)=false:=q2;have h0:(x.M/10^(d.nd.toNat-1-r)%10 !=0)=false:=by{rw[bne_eq_false_iff_eq]at q2⊢;omega};rw[this,h0,Bool.or_false];exact I _;have y6:r=0:=by omega
 subst y6;rw[gZ];have x9:x.c 0=x.M/10^(x.N-x.e):=by{rw[xc,Nat.sub_zero,Nat.mod_eq_of_lt K.lt,<-xM,show x.N-x.e=d.nd.toNat by omega]};have z2:x.M/10^(x.N-x.e)<=2^k:=by{have:=(ZN d.aT k d.nd.toNat).2.2;rw[Nat.mod_eq_of_lt K.lt,<-xM]at this;rwa [show x.N-x.e=d.nd.toNat by omega]};refine⟨⟨⟨⟨0,x.e,g_ d x.M x.N x.e⟩,⟨bK _,rfl⟩,⟨rfl,rfl,rfl,by rw[x9],ai⟩,I _⟩, ?_⟩, ?_⟩;rintro⟨_,w,E⟩ js ⟨hw,J⟩;dsimp only at hw J⊢;subst J;have hn:x.M/10^(x.N-w)<18446744073709551616:=by{have:x.M/10^(x.N-w)<=x.M/10^(x.N-x.e):=Nat.div_le_div_left (pw (by decide) O) (sI _);omega};refine bd (λq=>?_) (λq=>?_);have P:1<=w:=by{rcases Nat.eq_zero_or_pos w with h|h;subst h;rw[Nat.sub_zero,Nat.div_eq_of_lt x7]at q;omega;exact h};have hq:x.M/10^(x.N-w)/10=x.M/10^(x.N-(w-1)):=by{rw[Nat.div_div_eq_div_mul,<-Nat.pow_succ,show x.N-(w-1)=x.N-w+1 by omega]};rw[aaO hn,We hn,YC,hq,show((w:Int)-1)=((w-1:Nat):Int) by omega];refine⟨aC,bd (λq1=>⟨aC,⟨Y,by rw[j7 vx];omega⟩,⟨0,w-1,g_ d x.M x.N (w-1)⟩,⟨bX,rfl⟩,aU, ?_,bX⟩) (λq1=>ar (λq2=>⟨⟨Y,by rw[j7 vx];decide⟩,⟨0,w-1,g_ d x.M x.N (w-1)⟩,⟨bX,rfl⟩,aU, ?_,bX⟩) (λq2=>⟨⟨0,w-1,g_ d x.M x.N (w-1)⟩,⟨bX,rfl⟩,aU, ?_,bX⟩))⟩;have:=ZD (d:=d) (M:=x.M) (N:=x.N) (w:=w) O O O;rw[show 0+((w-1:Nat):Int).toNat*1=w-1 by omega,this];exact I _;have:=LG (d:=d) (M:=x.M) (N:=x.N) (w:=w) O O;rw[OV vx,this];have q2:(((x.M/10^(x.N-w)%10:Nat):Int)!=0)=true:=q2;have:(x.M/10^(x.N-w)%10 !=0)=true:=by{rw[bne_iff_ne]at q2⊢;omega};rw[this,oG];exact I _;have:=LG (d:=d) (M:=x.M) (N:=x.N) (w:=w) O O;have q2:(((x.M/10^(x.N-w)%10:Nat):Int)!=0)=false:=q2;have h0:(x.M/10^(x.N-w)%10 !=0)=false:=by{rw[bne_eq_false_iff_eq]at q2⊢;omega};rw[this,h0,Bool.or_false];exact I _;have y8:w=0:=by{rcases Nat.eq_zero_or_pos w with h|h;exact h;have h1:10^(x.N-w)<=x.M:=gi (pw (by decide) O) L.1;have:=Nat.div_pos h1 (sI _);omega};subst y8;exact⟨⟨0,0,_⟩,rfl,aU,I _⟩;rintro⟨_,_,E⟩ js J;dsimp only at J⊢;subst J;have z1:x.N=(x.d.nd+(x.e:Int)).toNat:=by rw[xN,xd];omega
 have e0:(g_ d x.M x.N 0)=⟨eW (jN d x.M x.N 0),d.nd,d.dp,d.ng,kR d x.M x.N 0⟩:=rfl;have x2:∀z:bn,z=⟨eW (jN d x.M x.N 0),(min x.N 800:Nat),d.dp,d.ng,kR d x.M x.N 0⟩->z.ds.length=800:=by{rintro z rfl;exact vC _};refine⟨_,kQ vx,⟨by show _<=d.nd+(x.e:Int);omega,by show d.nd+(x.e:Int)<=_;omega⟩,⟨Y,by rw[j7 vx];decide⟩,⟨?_, ?_⟩⟩;rw[e0];dsimp only;rw[I5 (vC _)];dsimp only;rw[show d.nd+(x.e:Int)=(x.N:Int) by rw[xN];omega];refine⟨_,kQ (vC _),bd (λq=>⟨⟨Y,by rw[j7 (vC _)];decide⟩,⟨0,0,_⟩,rfl,aU, ?_⟩) (λq=>⟨⟨0,0,_⟩,rfl,aU, ?_⟩)⟩;rw[I5 (vC _)];dsimp only at q⊢;rw[show min x.N 800=800 by omega];exact I _;dsimp only at q⊢;rw[show min x.N 800=x.N by omega];exact I _;rintro⟨_,_,E⟩ js J;dsimp only at J⊢;have U:=x2 E J;have x1:E.dp=d.dp:=by rw[J]
 have x6:(A E).set 801 (.int .i64 (d.dp+(x.e:Int)))=A ⟨eW (jN d x.M x.N 0),(min x.N 800:Nat),d.dp+(x.e:Nat),d.ng,kR d x.M x.N 0⟩:=by{rw[CS U,J]};refine⟨E.dp,my U, ?_,⟨Y,by rw[j7 U];decide⟩,abF,rfl,⟨b,⟨eW (jN d x.M x.N 0),(min x.N 800:Nat),d.dp+(x.e:Nat),d.ng,kR d x.M x.N 0⟩⟩,rfl,by rw[x1,x6],⟨vC _,bX,bX⟩,ai,λ_ _=>?_⟩;rw[x1];exact aC;have hv:qb x.d x.k (x.lc x.k)=lF ⟨eW (jN d x.M x.N 0),(min x.N 800:Nat),d.dp+(x.e:Nat),d.ng,kR d x.M x.N 0⟩:=by{rw[<-R] <;> rfl};refine⟨qb x.d x.k (x.lc x.k),rfl,rfl, ?_⟩;rw[hv];show ay _ [(0,.cells x.b (A (lF _)) 171),(1,F)];rw[xb];exact I _
theorem ZF:aG 196 BO:=rh func196 (λ_ _=>[(0,0,.q [.ex 1 .slice]),(0,2,.qo (Ef .u64 2)),(0,4,iH 1),(1,6,iH 0),(1,7,.qo (G0 800)),(1,8,.q [.ex 1 .slice]),(1,10,.qo (Ef .u64 2)),(1,12,.q [.ex 1 .str]),(1,13,q xx),(3,3,iH 0),(4,3,iH 0),(9,6,bH 0),(9,7,F),(9,8,F),(9,10,F),(9,11,F),(10,1,F),(11,2,F),(11,3,F),(14,3,F),(14,4,F),(14,8,.w [.ex 0 .any]),(16,3,.w [.ex 0 .any]),(19,1,F),(20,2,F),(20,3,F),(23,3,F),(23,4,F),(23,8,.w [.ex 0 .any]),(25,3,.w [.ex 0 .any]),(27,3,iH 0),(27,8,.w [.ex 0 .any]),(28,3,iH 0),(29,3,.w [.ex 0 .any]),(30,3,iH 0),(30,8,.w [.ex 0 .any]),(31,1,q wn)]) ajz ajy ajA
end
section
def hF(d:bn)(i:Nat):Nat:=if i<d.nd.toNat then dD d i else 0
def yh(g:Nat->Nat)(k:Nat):Nat->Nat->Nat
 |0,r=>r
 |f+1,r=>bif decide (c_ g r<2^k) then yh g k f (r+1) else r
def s8(g:Nat->Nat)(k R:Nat):Nat->Nat
 |0=>c_ g R
 |j+1=>s8 g k R j%2^k*10+g (R+j)
def yg(n:Nat->Nat):Nat->Nat->Nat
 |0,j=>j
 |f+1,j=>bif n j==0 then j else yg n f (j+1)
def s9(k:Nat)(n:Nat->Nat)(t:Bool):Nat->Bool
 |0=>t
 |j+1=>s9 k n t j||(decide (800<=j)&&n j/2^k !=0)
def np(d:bn)(k:Nat)(n:Nat->Nat)(j i:Nat):Int:=bif decide (i<j) then 48+(n i/2^k:Nat) else d.at_ i
def kX(d:bn)(k:Nat)(n:Nat->Nat)(dp:Int)(j:Nat):bn:=⟨eW (np d k n j),d.nd,dp,d.ng,s9 k n d.tr j⟩
def l8(d:bn)(k:Nat):Nat:=yh (hF d) k 30 0
def lD(d:bn)(k:Nat):Nat->Nat:=s8 (hF d) k (l8 d k)
def pO(d:bn)(k:Nat):Nat:=yg (lD d k) (k+2) (d.nd.toNat-l8 d k)
def n9(d:bn)(k:Nat):bn:=lF ⟨eW (np d k (lD d k) (pO d k)),(min (pO d k) 800:Nat),d.dp-((l8 d k:Nat)-1),d.ng,s9 k (lD d k) d.tr (pO d k)⟩
section
variable{g:Nat->Nat}{k:Nat}
theorem Wn(b:1<=g 0)(c:∀i,g i<=9)(U:k<=60):∀f r,f+r=30->(∀j,j<r->c_ g j<2^k)->r<=yh g k f r/\yh g k f r<=30/\2^k<=c_ g (yh g k f r)/\(∀j,j<yh g k f r->c_ g j<2^k)
 |0,r,e,h=>by
  exfalso;have l:=h 20 O;have m:=K4 (g:=g) 20 b (by decide);have:2^k<=2^60:=pw (by decide) U;have e1:(2:Nat)^60=1152921504606846976:=by decide
  have d:(10:Nat)^(20-1)=10000000000000000000:=by decide
  omega
 |f+1,r,e,h=>by
  rw[yh];by_cases q:c_ g r<2^k;rw[bp q,aW];have:=Wn b c U f (r+1) O (λj n=>by
   rcases Nat.lt_or_ge j r with a|a;exact h j a;rw[show j=r by omega];exact q)
  exact⟨O,this.2⟩;rw[bF q,y];exact⟨bK _,O,O,h⟩
variable{R:Nat}
theorem aaV(a:∀i,g i<=9)(b:1<=R)(c:c_ g (R-1)<2^k):∀j,s8 g k R j<10*2^k
 |0=>by
  obtain⟨R,rfl⟩:∃m,R=m+1:=⟨R-1,O⟩;rw[s8,c_];have:=a R;rw[show R+1-1=R by omega]at c;omega
 |j+1=>by
  rw[s8];have b:=a (R+j);have d:s8 g k R j%2^k<2^k:=Nat.mod_lt _ (Nat.pow_pos (by decide));omega
theorem aaU{J:Nat}(a:∀i,J<=i->g (R+i)=0):∀i,i<=k->2^i ∣ s8 g k R (J+i)
 |0,_=>by rw[Nat.pow_zero];exact Nat.one_dvd _
 |i+1,h=>by
  rw[show J+(i+1)=J+i+1 by omega,s8,a _ O,Nat.add_zero];have b:=aaU a i O;have c:2^i ∣ s8 g k R (J+i)%2^k:=(Nat.dvd_mod_iff (Nat.pow_dvd_pow 2 O)).2 b;rw[Nat.pow_succ];exact Nat.mul_dvd_mul c (by decide)
theorem aaW{J:Nat}(a:∀i,J<=i->g (R+i)=0):s8 g k R (J+k+1)=0:=by
 rw[s8,a _ O,Nat.mod_eq_zero_of_dvd (aaU a k (bK _))]
theorem Wm{n:Nat->Nat}{J:Nat}(c:n (J+k+1)=0):∀f j,f+j=J+k+2->J<=j->(∀i,J<=i->i<j->n i≠0)->n (yg n f j)=0/\j<=yg n f j/\yg n f j<=J+k+1/\∀i,J<=i->i<yg n f j->n i≠0
 |0,j,e,d,a=>by
  exact absurd c (a _ O O)
 |f+1,j,e,d,a=>by
  rw[yg];cases q:(n j==0)with
  |true=>rw[aW];exact⟨beq_iff_eq.1 q,bK _,O,a⟩
  |false=>
   have:=Wm c f (j+1) O O (λi g h=>by
    rcases Nat.lt_or_ge i j with b|b;exact a i g b;rw[show i=j by omega];exact fw.1 q)
   rw[y];exact⟨this.1,O,this.2.2⟩
end
section
variable{d:bn}{k j:Nat}{n:Nat->Nat}{p:Int}
theorem yi:(kX d k n p j).ds.length=800:=by unfold kX;dsimp only;rw[vC]
theorem anC(a:d.ds.length=800):kX d k n p 0=⟨d.ds,d.nd,p,d.ng,d.tr⟩:=by
 unfold kX;rw[show eW (np d k n 0)=d.ds by
  conv=>rhs;rw[Z_ a]
  exact Ey λi _=>by unfold np;rw[bF (Nat.not_lt_zero i)] <;> rfl]
 rfl
theorem aaY(h:j<800):(A (kX d k n p j)).set j (.int .u8 (48+(n j/2^k:Nat)))=A (kX d k n p (j+1)):=by
 rw[WA yi h];unfold kX;dsimp only;rw[aaa,s9,bF (show ¬800<=j by omega),lj,Bool.or_false];refine congrArg (λl=>A ⟨l,d.nd,p,d.ng,s9 k n d.tr j⟩) (Ey λi _=>?_);unfold np;by_cases e:i=j;rw[if_pos e,e,bp (jd j)] <;> rfl;rw[if_neg e];by_cases h:i<j;rw[bp h,bp (show i<j+1 by omega)];rw[bF h,bF (show ¬i<j+1 by omega)]
theorem aaX(h:800<=j):kX d k n p (j+1)=⟨eW (np d k n j),d.nd,p,d.ng,s9 k n d.tr j||(n j/2^k !=0)⟩:=by
 unfold kX;rw[s9,bp h,Bool.true_and,show eW (np d k n (j+1))=eW (np d k n j)from Ey λi a=>by
  unfold np;by_cases h:i<j;rw[bp h,bp (show i<j+1 by omega)];omega]
theorem OX{t k:Nat}(U:k<=60):((t:Int).fdiv (2^min (k:Int).toNat u64.bits))=((t/2^k:Nat):Int):=by
 rw[cy,show min k u64.bits=k from Nat.min_eq_left (by show k<=64;omega),show(2:Int)^k=((2^k:Nat):Int) by rw[Int.natCast_pow] <;> rfl,Int.fdiv_eq_ediv_of_nonneg _ (Int.natCast_nonneg _)];exact(Int.natCast_ediv _ _).symm
theorem X3{t k:Nat}(c:t<18446744073709551616)(U:k<=60):((BitVec.ofInt u64.bits (t:Int)&&& BitVec.ofInt u64.bits ((2^k-1:Nat):Int)).toNat)=t%2^k:=by
 have b:2^k<=2^60:=pw (by decide) U;have e1:(2:Nat)^60=1152921504606846976:=by decide
 have a:(2:Nat)^64=18446744073709551616:=by decide
 rw[BitVec.ofInt_natCast,BitVec.ofInt_natCast,BitVec.toNat_and,BitVec.toNat_ofNat,BitVec.toNat_ofNat];rw[Nat.mod_eq_of_lt (show t<2^u64.bits by show t<2^64;omega),Nat.mod_eq_of_lt (show 2^k-1<2^u64.bits by show 2^k-1<2^64;omega),Nat.and_two_pow_sub_one_eq_mod]
theorem abp{a g:Nat}{c:Int}(d:a<1152921504606846976)(e:g<=9)(b:c=((48+g:Nat):Int)):u64.wrap (u64.wrap (u64.wrap ((a:Int)*10)+u64.wrap c)-48)=((a*10+g:Nat):Int):=by
 rw[b,k7 O,show(a:Int)*10=((a*10:Nat):Int) by omega,k7 O,<-Int.natCast_add,k7 O,show((a*10+(48+g):Nat):Int)-48=((a*10+g:Nat):Int) by omega,k7 O]
theorem aaI{q:Nat}(h:q<=9):u8.wrap (u64.wrap ((q:Int)+48))=48+(q:Int):=by
 rw[dw (i:=.u64) (n:=(q:Int)+48) aC,dw (i:=.u8) (n:=(q:Int)+48) aC];omega
theorem ajS{k:Nat}(U:k<=60):u64.wrap (u64.wrap (1*2^min (k:Int).toNat u64.bits)-1)=((2^k-1:Nat):Int):=by
 have b:2^k<=2^60:=pw (by decide) U;have e1:(2:Nat)^60=1152921504606846976:=by decide
 have a:1<=2^k:=Nat.pow_pos (by decide);rw[cy,show min k u64.bits=k from Nat.min_eq_left (by show k<=64;omega),show 1*(2:Int)^k=((2^k:Nat):Int) by rw[Int.natCast_pow,Int.one_mul] <;> rfl,k7 O,show((2^k:Nat):Int)-1=((2^k-1:Nat):Int) by omega,k7 O]
end
structure gO where
 b:Nat
 d:bn
 k:Nat
abbrev jh(x:gO):bv:=some ⟨x.b,0,none⟩
abbrev zK(x:gO):=D x.b (A x.d) 171
abbrev Ao:aF where
 X:=gO
 Y:=bn
 args x:=[W (jh x),T x.k]
 pre x:=[zK x]
 cond x:=x.d.norm/\1<=x.k/\x.k<=60/\ -1000000000<=x.d.dp/\x.d.dp<=1000000000
 bS x y:=y=n9 x.d x.k
 val _ _:=.returned (.tuple #[])
 post x y:=[D x.b (A y) 171]
 eL _ _ _ _ h:=h
structure jC where
 j:Nat
 d:bn
def gO.n(x:gO):Nat->Nat:=lD x.d x.k
def gO.R(x:gO):Nat:=l8 x.d x.k
def gO.J(x:gO):Nat:=x.d.nd.toNat-l8 x.d x.k
def gO.E(x:gO):Nat:=pO x.d x.k
def gO.p(x:gO):Int:=x.d.dp-((x.R:Nat)-1)
def gO.v(x:gO)(r:Nat):Nat:=c_ (hF x.d) r
def gO.m(x:gO):Nat:=2^x.k-1
abbrev IQ(x:gO)(s:jC):=D x.b (A s.d) 171
def anF(x:gO)(F:ag):Nat->Option Inv:=fun
 |0=>some {X:=jC,P:=λs=>s.j<=x.R/\s.j<=x.d.nd.toNat,mu:=λs=>40-s.j,lv:=λs=>[(0,W (jh x)),(1,T x.k),(4,Z (s.j:Nat)),(5,Z 0),(6,T (x.v s.j:Nat))],st:=λ_=>[zK x,F]}
 |2=>some {X:=jC,P:=λs=>s.j<=x.R/\x.d.nd.toNat<=s.j,mu:=λs=>40-s.j,lv:=λs=>[(0,W (jh x)),(1,T x.k),(4,Z (s.j:Nat)),(5,Z 0),(6,T (x.v s.j:Nat))],st:=λ_=>[zK x,F]}
 |4=>some {X:=jC,P:=λs=>s.j<=x.J/\s.d=kX x.d x.k x.n x.p s.j,mu:=λs=>1000-s.j,lv:=λs=>[(0,W (jh x)),(1,T x.k),(4,Z ((x.R+s.j:Nat):Int)),(5,Z (s.j:Nat)),(6,T (x.n s.j:Nat)),(8,T (x.m:Nat))],st:=λs=>[IQ x s,F]}
 |6=>some {X:=jC,P:=λs=>x.J<=s.j/\s.j<=x.E/\s.d=kX x.d x.k x.n x.p s.j,mu:=λs=>1000-s.j,lv:=λs=>[(0,W (jh x)),(1,T x.k),(5,Z ((min s.j 800:Nat):Int)),(6,T (x.n s.j:Nat)),(8,T (x.m:Nat))],st:=λs=>[IQ x s,F]}
 |_=>none
def anE(x:gO)(F:ag):Nat->Option Inv:=fun
 |13=>some {X:=ax,P:=λ_=>True,mu:=λ_=>0,lv:=λ_=>[(0,W (jh x)),(1,T x.k),(4,Z (x.R:Nat)),(5,Z 0),(6,T (x.n 0:Nat))],st:=λ_=>[zK x,F]}
 |_=>none
abbrev sO(a:gO)(e1:ag):=[(0,D a.b (A a.d) 171),(1,e1)]
abbrev Vu(x:gO)(f:jC):=(↑(x.v f.j):Int).fdiv ((2:Int)^min (x.k:Int).toNat u64.bits)==0
def P0(a:gO)(e1:ag)(c d:aD)(b:St):=∃(z:ax),True/\(W (jh a)=W (jh a)/\T ↑a.k=T ↑a.k/\c=Z ↑a.R/\Z 0=Z 0/\d=T (↑(a.n 0):Int)/\True)/\ay b (sO a e1)
def Ov(a:jC)(x:gO):=a.j<=x.J/\a.d=kX x.d x.k x.n x.p a.j
abbrev Cq(a:gO)(z:jC)(e1:ag):=[(0,D a.b (A z.d) 171),(1,e1)]
abbrev Us(x:gO)(g:jC):=u (u8.wrap (aZ ((↑(x.n g.j):Int).fdiv ((2:Int)^min (x.k:Int).toNat u64.bits)+48)))
def Oa(a:gO)(z:jC):=a.J<=z.j/\z.j<=a.E/\z.d=kX a.d a.k a.n a.p z.j
def JU(a:gO)(e1:ag)(c d:aD)(b:St)(mm:Nat):=∃(z:jC),Oa a z/\(W (jh a)=W (jh a)/\T ↑a.k=T ↑a.k/\c=Z (↑(min z.j 800):Int)/\d=T (↑(a.n z.j):Int)/\T ↑a.m=T ↑a.m/\True)/\ay b (Cq a z e1)/\1000-z.j<mm
abbrev Mu(x:gO)(d:jC):=T (aZ (aZ (↑(bU (↑(x.n d.j):Int)&&& bU (x.m:Int)).toNat:Int)*10))
abbrev Ox(d:jC):=Z (↑(min d.j 800):Int)
def anG(x:gO)(F:ag)(hc:Ao.cond x)(hr:Ao.aE x F):((∃(a:jC),(a.j<=x.R/\a.j<=x.d.nd.toNat)/\(W (jh x)=W (jh x)/\T ↑x.k=T ↑x.k/\Z 0=Z ↑a.j/\Z 0=Z 0/\T 0=T (↑(x.v a.j):Int)/\True)/\ay (sO x F) (sO x F))/\aQ λ(f:jC)_=>(f.j<=x.R/\f.j<=x.d.nd.toNat)->Br (Vu x f) (T1 (zK x) ⟨x.b,800,none⟩ (λd=>aK (f.j>=d) (Br ((↑(x.v f.j):Int)==0) ((V x.b 800/\800<(A x.d).length)/\l Ao x F eK [(0,D x.b ((A x.d).set 800 (Z 0)) 171),(1,F)]) ((∃(a:jC),(a.j<=x.R/\x.d.nd.toNat<=a.j)/\(W (jh x)=W (jh x)/\T ↑x.k=T ↑x.k/\Z ↑f.j=Z ↑a.j/\Z 0=Z 0/\T (↑(x.v f.j):Int)=T (↑(x.v a.j):Int)/\True)/\ay (sO x F) (sO x F))/\aQ λ(c:jC)_=>(c.j<=x.R/\x.d.nd.toNat<=c.j)->Br (Vu x c) (∃(a:jC),(a.j<=x.R/\x.d.nd.toNat<=a.j)/\(W (jh x)=W (jh x)/\T ↑x.k=T ↑x.k/\Z (bR ((c.j:Int)+1))=Z ↑a.j/\Z 0=Z 0/\T (aZ ((↑(x.v c.j):Int)*10))=T (↑(x.v a.j):Int)/\True)/\ay (sO x F) (sO x F)/\40-a.j<40-c.j) (P0 x F (Z ↑c.j) (T (↑(x.v c.j):Int)) (sO x F)))) ((0<=(f.j:Int)/\(f.j:Int)<(↑(800:Nat):Int))/\jD (zK x) ⟨x.b,0+(f.j:Int).toNat*1,none⟩ (λb=>∃(a:jC),(a.j<=x.R/\a.j<=x.d.nd.toNat)/\(W (jh x)=W (jh x)/\T ↑x.k=T ↑x.k/\Z (bR ((f.j:Int)+1))=Z ↑a.j/\Z 0=Z 0/\T (aZ (aZ (aZ ((↑(x.v f.j):Int)*10)+aZ b)-48))=T (↑(x.v a.j):Int)/\True)/\ay (sO x F) (sO x F)/\40-a.j<40-f.j)))) (P0 x F (Z ↑f.j) (T (↑(x.v f.j):Int)) (sO x F)))/\aQ λ(j:ax)_=>True->T1 (zK x) ⟨x.b,801,none⟩ (λh=>(V x.b 801/\801<(A x.d).length)/\(∃(a:jC),Ov a x/\(W (jh x)=W (jh x)/\T ↑x.k=T ↑x.k/\Z ↑x.R=Z (↑(x.R+a.j):Int)/\Z 0=Z ↑a.j/\T (↑(x.n 0):Int)=T (↑(x.n a.j):Int)/\T (aZ (aZ ((1:Int)*(2:Int)^min (x.k:Int).toNat u64.bits)-1))=T ↑x.m/\True)/\ay [(0,D x.b ((A x.d).set 801 (Z (bR (h-bR ((x.R:Int)-1))))) 171),(1,F)] (Cq x a F))/\aQ λ(g:jC)_=>Ov g x->T1 (IQ x g) ⟨x.b,800,none⟩ (λe=>aK ((↑(x.R+g.j):Int)<e) ((0<=(↑(x.R+g.j):Int)/\(↑(x.R+g.j):Int)<(↑(800:Nat):Int))/\jD (IQ x g) ⟨x.b,0+(↑(x.R+g.j):Int).toNat*1,none⟩ (λb=>(0<=(g.j:Int)/\(g.j:Int)<(↑(800:Nat):Int))/\(d6 ⟨x.b,0+(g.j:Int).toNat*1,none⟩ x.b/\0+(g.j:Int).toNat*1<(A g.d).length)/\∃(a:jC),Ov a x/\(W (jh x)=W (jh x)/\T ↑x.k=T ↑x.k/\Z (bR ((↑(x.R+g.j):Int)+1))=Z (↑(x.R+a.j):Int)/\Z (bR ((g.j:Int)+1))=Z ↑a.j/\T (aZ (aZ (aZ (aZ (↑(bU (↑(x.n g.j):Int)&&& bU (x.m:Int)).toNat:Int)*10)+aZ b)-48))=T (↑(x.n a.j):Int)/\T ↑x.m=T ↑x.m/\True)/\ay [(0,D x.b ((A g.d).set (0+(g.j:Int).toNat*1) (Us x g)) 171),(1,F)] (Cq x a F)/\1000-a.j<1000-g.j)) ((∃(a:jC),Oa x a/\(W (jh x)=W (jh x)/\T ↑x.k=T ↑x.k/\Z ↑g.j=Z (↑(min a.j 800):Int)/\T (↑(x.n g.j):Int)=T (↑(x.n a.j):Int)/\T ↑x.m=T ↑x.m/\True)/\ay (Cq x g F) (Cq x a F))/\aQ λ(d:jC)_=>Oa x d->aK ((↑(x.n d.j):Int)>0) (aK ((↑(min d.j 800):Int)<800) ((0<=(↑(min d.j 800):Int)/\(↑(min d.j 800):Int)<(↑(800:Nat):Int))/\(d6 ⟨x.b,0+(↑(min d.j 800):Int).toNat*1,none⟩ x.b/\0+(↑(min d.j 800):Int).toNat*1<(A d.d).length)/\JU x F (Z (bR ((↑(min d.j 800):Int)+1))) (Mu x d) [(0,D x.b ((A d.d).set (0+(↑(min d.j 800):Int).toNat*1) (Us x d)) 171),(1,F)] (1000-d.j)) (aK ((↑(x.n d.j):Int).fdiv ((2:Int)^min (x.k:Int).toNat u64.bits)>0) ((V x.b 803/\803<(A d.d).length)/\JU x F (Ox d) (Mu x d) [(0,D x.b ((A d.d).set 803 (H true)) 171),(1,F)] (1000-d.j)) (JU x F (Ox d) (Mu x d) (Cq x d F) (1000-d.j)))) ((V x.b 800/\800<(A d.d).length)/\JT [W (jh x)] [D x.b ((A d.d).set 800 (Ox d)) 171] (λb a=>l Ao x F eK [(0,D b.b (A (lF b.d)) 171),(1,F)]))))):=by
 delta jh sO Vu T1 zK eK P0 jD Ov Cq IQ Us Oa JU Mu Ox JT V dK Z u T H W D bU aZ bR aK al aQ;obtain⟨b,d,k⟩:=x;obtain⟨I,x6,o,x7,x8⟩:=hc;dsimp only at I x6 o x7 x8;have P:=I.len;have y3:1<=d.nd.toNat/\d.nd.toNat<=800/\((d.nd.toNat:Nat):Int)=d.nd:=by have:=I.au;have:=I.max;omega
 have G:∀i,hF d i<=9:=λi=>by{unfold hF;by_cases h:i<d.nd.toNat;rw[if_pos h];exact I.g9 i h;rw[if_neg h];omega};have R:1<=hF d 0:=by{unfold hF;rw[if_pos O];have:=I.h8 0 O;have:=I.fst;unfold dD;omega};have y2:2^k<=1152921504606846976:=by{have:2^k<=2^60:=pw (by decide) o;exact this};have w:1<=2^k:=Nat.pow_pos (by decide);obtain⟨-,r2,r3,r4⟩:=Wn R G o 30 0 (by decide) (λj hj=>absurd hj (Nat.not_lt_zero j));generalize E:(⟨b,d,k⟩:gO)=x at*;have xb:x.b=b:=by rw[<-E]
 have xd:x.d=d:=by rw[<-E]
 have xk:x.k=k:=by rw[<-E]
 have xm:x.m=2^k-1:=by rw[<-E] <;> rfl
 have xR:yh (hF d) k 30 0=x.R:=by rw[<-E] <;> rfl
 have N:∀r,x.v r=c_ (hF d) r:=by rw[<-E];intro r;rfl
 have xJ:x.J=d.nd.toNat-x.R:=by rw[<-E] <;> rfl
 have xp:x.p=d.dp-((x.R:Nat)-1):=by rw[<-E] <;> rfl
 have xn:x.n=s8 (hF d) k x.R:=by rw[<-E] <;> rfl
 have xE:yg x.n (k+2) x.J=x.E:=by rw[<-E] <;> rfl
 rw[xR]at r2 r3 r4;have x3:1<=x.R:=by{rcases Nat.eq_zero_or_pos x.R with h|h;rw[h,c_]at r3;omega;exact h};have B:∀j,x.n j<10*2^k:=by rw[xn];exact aaV G x3 (r4 _ O)
 have K:∀i,d.nd.toNat<=i->hF d i=0:=λi hi=>by unfold hF;rw[if_neg O]
 have S:∀i,i<d.nd.toNat->hF d i=dD d i/\d.at_ i=((48+hF d i:Nat):Int):=λi hi=>by{have:=I.h8 i O;unfold hF;rw[if_pos hi];exact⟨rfl,by unfold dD;omega⟩};obtain⟨e1,e2,e3,e4⟩:=Wm (n:=x.n) (k:=k) (J:=x.J) (by rw[xn];exact aaW (λi hi=>K _ O)) (k+2) x.J O (bK _) (λi hi hj=>O);rw[xE]at e1 e2 e3 e4;have C:∀j,x.n (j+1)=x.n j%2^k*10+hF d (x.R+j):=λj=>by rw[xn] <;> rfl
 have x2:∀r,x.v (r+1)=x.v r*10+hF d r:=λr=>by rw[N,N] <;> rfl
 have x1:∀r,r<x.R->x.v r<2^k:=λr hr=>by rw[N];exact r4 r hr
 have y4:2^k<=x.v x.R:=by rw[N];exact r3
 have X:x.n 0=x.v x.R:=by rw[xn,N] <;> rfl
 rw[xb,xd,xk];have p:∀v:bn,ay [(0,.cells b (A v) 171),(1,F)] [(0,.cells b (A v) 171),(1,F)]:=λv=>ao [0,1];have i6:∀a:Nat,a<=2000->int .i64 (i64.wrap ((a:Int)+1))= .int .i64 ((a+1:Nat):Int):=λa ha=>congrArg _ (by rw[dw (i:=.i64) (n:=(a:Int)+1) aC];omega);refine⟨⟨⟨⟨0,d⟩,⟨b7 _,b7 _⟩,⟨rfl,rfl,rfl,rfl,by rw[N] <;> rfl,ai⟩,p d⟩, ?_⟩, ?_⟩;rintro⟨r,_⟩ js ⟨q1,q2⟩;dsimp only at q1 q2⊢;rw[OX o];refine ar (λq=>?_) (λq=>?_);have L:x.v r<2^k:=by
  have:x.v r/2^k=0:=by have:=beq_iff_eq.1 q;omega
  exact(Nat.div_eq_zero_iff_lt w).1 this
 have x9:r+1<=x.R:=by{rcases Nat.lt_or_ge r x.R with h|h;exact h;rw[show r=x.R by omega]at L;omega};refine⟨_,kQ P,bd (λq3=>ar (λq4=>?_) (λq4=>⟨⟨⟨r,d⟩,⟨q1,bX⟩,aU,p d⟩, ?_⟩)) (λq3=>⟨aC,d.at_ r, ?_,⟨r+1,d⟩,⟨x9,bX⟩,⟨rfl,rfl,i6 r O,rfl, ?_,ai⟩,p d,bX⟩)⟩;have:=K4 (g:=hF d) r R O;have h1:=Nat.pow_pos (n:=r-1) (show 0<10 by decide);have:=beq_iff_eq.1 q4;rw[N]at this;omega;rintro⟨s,_⟩ js ⟨w1,w2⟩;dsimp only at w1 w2⊢;rw[OX o];refine ar (λq5=>?_) (λq5=>?_);have L:x.v s<2^k:=by
  have:x.v s/2^k=0:=by have:=beq_iff_eq.1 q5;omega
  exact(Nat.div_eq_zero_iff_lt w).1 this
 have y1:s+1<=x.R:=by{rcases Nat.lt_or_ge s x.R with h|h;exact h;rw[show s=x.R by omega]at L;omega};refine⟨⟨s+1,d⟩,⟨y1,bX⟩,⟨rfl,rfl,i6 s O,rfl, ?_,ai⟩,p d,bX⟩;rw[x2,K s w2,Nat.add_zero,show((x.v s:Nat):Int)*10=((x.v s*10:Nat):Int) by omega,k7 O];have hs:s=x.R:=by{rcases Nat.lt_or_ge s x.R with h|h;have:=x1 s h;rw[Nat.div_eq_of_lt this]at q5;exact absurd q5 (by decide);omega};subst hs;exact⟨(),ai,⟨rfl,rfl,rfl,rfl,by rw[X],ai⟩,p d⟩;rw[show 0+((r:Nat):Int).toNat*1=r by omega];exact zk P (i:=r) O;obtain⟨g1,g2⟩:=S r O;rw[x2,abp O (G r) g2];have hs:r=x.R:=by{rcases Nat.lt_or_ge r x.R with h|h;have:=x1 r h;rw[Nat.div_eq_of_lt this]at q;exact absurd q (by decide);omega};subst hs;exact⟨(),ai,⟨rfl,rfl,rfl,rfl,by rw[X],ai⟩,p d⟩;rintro _ js-;refine⟨_,my P,⟨Y,by rw[j7 P];decide⟩,⟨⟨0,kX d k x.n x.p 0⟩,⟨b7 _,rfl⟩,⟨rfl,rfl,rfl,rfl,rfl, ?_,ai⟩, ?_⟩, ?_⟩;rw[ajS o,xm];rw[CS P,anC P,xp];rw[dw (i:=.i64) (n:=(x.R:Int)-1) aC,dw (i:=.i64) (n:=d.dp-((x.R:Int)-1)) aC];exact p _;rintro⟨j,m⟩ js ⟨hj,Q⟩;dsimp only at hj Q⊢;subst Q;have x0:∀j,x.n j/2^k<=9:=λj=>by{have:=B j;have:x.n j/2^k<10:=(Nat.div_lt_iff_lt_mul w).2 this;omega};refine⟨d.nd,kQ yi,bd (λq=>?_) (λq=>?_)⟩;have y0:x.R+j<d.nd.toNat:=by omega
 obtain⟨g1,g2⟩:=S (x.R+j) y0;rw[xm,X3 (by have:=B j;omega) o,OX o,aaI (x0 j)];have hm:x.n j%2^k<2^k:=Nat.mod_lt _ w;rw[k7 (n:=x.n j%2^k) O];refine⟨aC,d.at_ (x.R+j), ?_,aC,⟨Y,by rw[j7 yi];omega⟩,⟨j+1,kX d k x.n x.p (j+1)⟩,⟨bX,rfl⟩,⟨rfl,rfl, ?_,i6 j O, ?_,rfl,ai⟩, ?_,bX⟩;rw[show 0+((x.R+j:Nat):Int).toNat*1=x.R+j by omega];have:=zk (b:=b) (t:=171) (d:=kX d k x.n x.p j) yi (i:=x.R+j) O;have e:(kX d k x.n x.p j).at_ (x.R+j)=d.at_ (x.R+j):=by{unfold bn.at_ kX;dsimp only;rw[SD O];unfold np;rw[bF (show ¬x.R+j<j by omega)] <;> rfl};rw[e]at this;exact this;have:=i6 (x.R+j) O;exact this;rw[C,abp O (G _) g2];rw[show 0+((j:Nat):Int).toNat*1=j by omega,aaY O];exact p _;have x5:j=x.J:=O;subst x5;refine⟨⟨⟨x.J,_⟩,⟨bK _,e2,rfl⟩,⟨rfl,rfl, ?_,rfl,rfl,ai⟩,p _⟩, ?_⟩;rw[show min x.J 800=x.J by omega];rintro⟨j,m⟩ js ⟨U,x4,Q⟩;dsimp only at U x4 Q⊢;subst Q;refine bd (λq=>?_) (λq=>?_);have y:j+1<=x.E:=by{rcases Nat.lt_or_ge j x.E with h|h;exact h;rw[show j=x.E by omega,e1]at q;omega};have hz:hF d (x.R+j)=0:=K _ O;rw[xm,X3 (by have:=B j;omega) o,OX o,aaI (x0 j)];have hm:x.n j%2^k<2^k:=Nat.mod_lt _ w;have M:int .u64 (u64.wrap (u64.wrap ((x.n j%2^k:Nat):Int)*10))= .int .u64 (x.n (j+1):Nat):=by{rw[k7 (n:=x.n j%2^k) O,show((x.n j%2^k:Nat):Int)*10=((x.n j%2^k*10:Nat):Int) by omega,k7 O,C,hz,Nat.add_zero]};refine bd (λq1=>⟨aC,⟨Y,by rw[j7 yi];omega⟩,⟨j+1,kX d k x.n x.p (j+1)⟩,⟨bX,y,rfl⟩,⟨rfl,rfl, ?_,M,rfl,ai⟩, ?_,bX⟩) (λq1=>bd (λq2=>⟨⟨Y,by rw[j7 yi];decide⟩,⟨j+1,kX d k x.n x.p (j+1)⟩,⟨bX,y,rfl⟩,⟨rfl,rfl, ?_,M,rfl,ai⟩, ?_,bX⟩) (λq2=>⟨⟨j+1,kX d k x.n x.p (j+1)⟩,⟨bX,y,rfl⟩,⟨rfl,rfl, ?_,M,rfl,ai⟩, ?_,bX⟩));rw[show min j 800=j by omega,show min (j+1) 800=j+1 by omega];exact i6 j O;rw[show 0+((min j 800:Nat):Int).toNat*1=j by omega,aaY O];exact p _;rw[show min j 800=800 by omega,show min (j+1) 800=800 by omega];rw[OV yi,aaX O,show(x.n j/2^k !=0)=true by rw[bne_iff_ne];generalize x.n j/2^k=z at q2⊢;omega,oG];exact p _;rw[show min j 800=800 by omega,show min (j+1) 800=800 by omega];rw[aaX O,show(x.n j/2^k !=0)=false by rw[bne_eq_false_iff_eq];generalize x.n j/2^k=z at q2⊢;omega,Bool.or_false];exact p _;have y:j=x.E:=by{rcases Nat.lt_or_ge j x.E with h|h;have:=e4 j U h;omega;omega};subst y;have hs:(A (kX d k x.n x.p x.E)).set 800 (.int .i64 ((min x.E 800:Nat):Int))=A ⟨eW (np d k x.n x.E),(min x.E 800:Nat),x.p,d.ng,s9 k x.n d.tr x.E⟩:=by{rw[I5 yi] <;> rfl};refine⟨⟨Y,by rw[j7 yi];decide⟩,abF,rfl,⟨b,⟨eW (np d k x.n x.E),(min x.E 800:Nat),x.p,d.ng,s9 k x.n d.tr x.E⟩⟩,rfl,by rw[hs],⟨vC _,bX,bX⟩,ai,λ_ _=>?_⟩;have hv:n9 x.d x.k=lF ⟨eW (np d k x.n x.E),(min x.E 800:Nat),x.p,d.ng,s9 k x.n d.tr x.E⟩:=by{rw[<-E] <;> rfl};refine⟨n9 x.d x.k,rfl,rfl, ?_⟩;rw[hv];show ay _ [(0,.cells x.b (A (lF _)) 171),(1,F)];rw[xb];exact p _
def aaZ:aG 197 Ao:=fo 130 func197 (λ_ _=>[(3,2,F),(3,3,F),(4,1,iH 0),(5,4,iH 0),(6,1,F),(8,2,F),(8,3,F),(9,1,F),(10,1,iH 0),(11,5,bH 0),(11,6,F),(12,1,F),(12,3,F),(12,4,F),(13,3,iH 0),(13,5,F),(13,6,F),(14,1,F),(14,2,F),(15,4,iH 0),(16,1,iH 0),(17,5,bH 0),(17,6,F),(18,2,F),(19,2,F),(20,3,F),(20,4,F),(21,1,iH 0),(22,1,F),(22,3,F),(22,4,F),(23,1,F),(24,2,F),(25,2,F),(27,3,F),(27,4,F),(28,1,iH 0),(31,1,F),(33,1,q wn)]) [(7,3,.w [LH.ex (0:Nat) jr.any]),(13,9,.w [LH.ex (0:Nat) jr.any]),(20,8,.w [LH.ex (0:Nat) jr.any]),(27,8,.w [LH.ex (0:Nat) jr.any]),(30,3,.w [LH.ex (0:Nat) jr.any]),(32,4,.w [LH.ex (0:Nat) jr.any])] anF anE gj [] anG
end
section
def tz(l:Nat):Code->Code
 | .seq a b=>match a with
  | .label d=>bif Nat.beq d l then .skip else .seq (.label d) (tz l b)
  |a=>.seq a (tz l b)
 |c=>c
def after(l:Nat):Code->Code
 | .seq a b=>match a with
  | .label c=>bif Nat.beq c l then b else after l b
  |_=>after l b
 |_=>.skip
def w8(l:Nat):Code->Bool
 | .seq a b=>match a with
  | .label c=>Nat.beq c l||w8 l b
  |_=>w8 l b
 |_=>false
def JQ(P:Program)(c:Code)(Q:Exit->Act->World->Prop):Nat->Exit->Act->World->Prop
 |0=>λe a w=>match e with
  | .goto _=>False
  |e=>Q e a w
 |n+1=>λe a w=>match e with
  | .goto l=>∃rest,findLabel c l=some rest/\rest.wp P (JQ P c Q n) a w
  |e=>Q e a w
section
variable{P:Program}{N:Nat}
variable{a:Act}{c:Code}{Q:Exit->Act->World->Prop}{K:Exit->Tm->St->Prop}{I:aX}{ds:List Deferred}{key l0 l1:Nat}{S:St}{T:Tm}{w:World}
theorem Xf{n:Nat}{e:Exit}(h:∀l,e≠.goto l)(b:Q e a w):JQ P c Q n e a w:=by
 cases e with
 |goto l=>exact absurd rfl (h l)
 |_=>cases n <;> exact b
theorem aa7{c:Code}{Q:Exit->Act->World->Prop}{b:Frame}{k:List Item}{cs:List Frame}:∀(n:Nat)(a:Act)(w:World)(rest:Code),rest.wp P (JQ P c Q n) a w->
  ∃e s t,Q e s t/\Arrives P (lone (b.at a (.code rest::.inScope c::k)) cs w) b k cs e s t
 |n,a,w,rest,h=>by
  obtain⟨e,d,g,j,f⟩:=h b (.inScope c::k) cs;cases e with
  |normal=>exact⟨.normal,d,g,by cases n <;> exact j,Steps.trans f (.one step_inScope)⟩
  |exit id=>exact⟨.exit id,d,g,by cases n <;> exact j,λy U=>f y (by simp[exitTo,U])⟩
  |goto l=>
   cases n with
   |zero=>exact j.elim
   |succ n=>
    obtain⟨o,v,x⟩:=j;obtain⟨q,p,r,m,i⟩:=aa7 n d g o x;exact⟨q,p,r,m,.of_steps (f _ (by simp[gotoIn,v])) i⟩
  |ret=>exact⟨.ret,d,g,by cases n <;> exact j,f⟩
  |panic u=>exact⟨.panic u,d,g,by cases n <;> exact j,f⟩
  |outgrown=>exact⟨.outgrown,d,g,by cases n <;> exact j,f⟩
theorem apN(n:Nat)(h:c.wp P (JQ P c Q n) a w):(Code.scope c).wp P Q a w:=by
 intro b k m;obtain⟨e,d,g,i,f⟩:=aa7 (b:=b) (k:=k) (cs:=m) n a w c h;cases e with
 |normal=>exact⟨.normal,d,g,i,.head step_scope f⟩
 |exit id=>exact⟨.exit id,d,g,i,λj U=>.head step_scope (f j U)⟩
 |goto l=>exact⟨_,d,g,i,λj U=>.head step_scope (f j U)⟩
 |ret=>exact⟨_,d,g,i,.of_steps (.one step_scope) f⟩
 |panic o=>exact⟨_,d,g,i,.of_steps (.one step_scope) f⟩
 |outgrown=>exact⟨_,d,g,i,.of_steps (.one step_scope) f⟩
theorem Ge{H:jZ}{x y:Code}(h:E P N H (.seq x y) key T S K):
  ∃a:Exit->Tm->St->Prop,E P N H x key T S a/\(∀e,e≠.normal->a e=K e)/\∀I w ds c b,fm N I w ds (a .normal) c b->fm N I w ds (λT S=>E P N H y key T S K) c b:=by
 simp only[E]at h;split at h
 ·exact⟨_,h,λe d=>by cases e <;> first|rfl|exact absurd rfl d,λ_ _ _ _ _ h=>h⟩
 ·rename_i V v
  have go:∀g:V.X->Prop,(E P N H x key T S λe T S=>match e with| .normal=>∃x,g x/\jX T (V.lv x)/\ay S (bu (V.st x))|e=>K e T S)->
    (∀x t,g x->E P N H y key (kT t (V.lv x)) (bu (V.st x)) K)->∃a:Exit->Tm->St->Prop,E P N H x key T S a/\(∀e,e≠.normal->a e=K e)/\∀I w ds c b,fm N I w ds (a .normal) c b->fm N I w ds (λT S=>E P N H y key T S K) c b:=by
   intro g k l;refine⟨_,k,λe d=>by cases e <;> first|rfl|exact absurd rfl d, ?_⟩;rintro I w ds c b ⟨n,u,J,o,p,q,r,s,x,hp,d,f⟩;obtain⟨m,i,j⟩:=f.h J b r;exact⟨_,_,m,qe o d,p,aX.le_trans q i,j,s,l x n.aS hp⟩
  split at h;exact go _ h.1 h.2;obtain⟨_,k,l⟩:=h;exact go _ k l
def LD:Exit->Prop
 | .exit i=>i<1000000
 |_=>True
def iT:Code->Bool
 | .seq a b=>iT a&&iT b
 | .cond _ a b=>iT a&&iT b
 | .block i c=>Nat.blt i 1000000&&iT c
 | .loop c=>iT c
 | .scope c=>iT c
 | .exit i=>Nat.blt i 1000000
 |_=>true
theorem Pv(hm:P.follows .mixedOrders=true)(H:jZ):∀(c:Code){ρ:Nat->Option Nat}{key:Nat}{T:Tm}{S:St}{K:Exit->Tm->St->Prop}{a:Act}{I:aX}{w:World}{ds:List Deferred}{Q:Exit->Act->World->Prop},
  E P N H (fJ ρ c) key T S K->dS N T a->a.defers=ds->Sat I S w->(∀e o s,LD e->fm N I w ds (K e) o s->Q e o s)->(∀l i,ρ l=some i->1000000<=i/\∀o s,fm N I w ds (K (.exit i)) o s->Q (.goto l) o s)->iT c=true->c.wp P Q a w:=by
 intro c
 induction c with
 |skip=>
  intro ρ key T S K a I w ds Q h b g j f k p;exact wp_skip (f _ _ _ trivial ⟨T,S,I,b,g,aX.le_refl I,j,cn.refl w,h⟩)
 |exit id=>
  intro ρ key T S K a I w ds Q h b g j f k p;exact wp_exit (f (.exit id) _ _ (Nat.le_of_ble_eq_true p) ⟨T,S,I,b,g,aX.le_refl I,j,cn.refl w,h⟩)
 |ret=>
  intro ρ key T S K a I w ds Q h b g j f k p;exact wp_ret (f _ _ _ trivial ⟨T,S,I,b,g,aX.le_refl I,j,cn.refl w,h⟩)
 |seq x y y2 y3=>
  intro ρ key T S K a I w ds Q h b g j f k p;obtain⟨K',hx,hK,hN⟩:=Ge h;have u:iT x=true/\iT y=true:=by simpa[iT]using p
  refine wp_seq (y2 hx b g j (λe o s m d=>?_) (λl i q=>⟨(k l i q).1,λo s d=>?_⟩) u.1);cases e with
  |normal=>
   obtain⟨T',S',J,R,Z,W,h4,X,h6⟩:=hN _ _ _ _ _ d;exact y3 h6 R Z h4 (λe a w m h=>f e a w m (h.from W X)) (λl i q=>⟨(k l i q).1,λa w h=>(k l i q).2 a w (h.from W X)⟩) u.2
  |_=>rw[hK _ (by intro h;cases h)]at d;exact f _ _ _ m d
  rw[hK _ (by intro h;cases h)]at d;exact(k l i q).2 o s d
 |cond x c1 c2 y0 y1=>
  intro ρ key T S K a I w ds Q h b g j f k p;simp only[fJ,E]at h;split at h
  rename_i t ht
  have hc:a.eval x= .bool t:=by rw[b.eval];exact ht
  refine wp_cond hc ?_;have u:iT c1=true/\iT c2=true:=by simpa[iT]using p
  rcases Br.cases h with⟨rfl,U⟩| ⟨rfl,U⟩;exact y0 U b g j f k u.1;exact y1 U b g j f k u.2;grind
 |block id c M=>
  intro ρ key T S K a I w ds Q h b g j f k p;have u:id<1000000/\iT c=true:=by simpa[iT]using p
  refine wp_block (M h b g j (λe o s m d=>?_) (λl i q=>⟨(k l i q).1,λo s d=>?_⟩) u.2);cases e with
  |exit i=>
   simp only[Exit.inBlock];by_cases hi:i=id;subst hi;simp only[if_true];refine f _ _ _ trivial (d.mono λT S h=>?_);simpa using h;simp only[hi,if_false];refine f _ _ _ m (d.mono λT S h=>?_);simpa[ve hi]using h
  |_=>exact f _ _ _ m d
  have R:=(k l i q).1;refine(k l i q).2 o s (d.mono λT S h=>?_);simpa[ve (show i≠id by omega)]using h
 |scope c M=>
  intro ρ key T S K a I w ds Q h b g j f k p;refine wp_scope_straight (M h b g j (λe o s m d=>?_) (λl r q=>by cases q) p);cases e with
  |goto l=>
   obtain⟨_,_,_,_,_,_,_,_,h6⟩:=d;grind
  |_=>exact f _ _ _ m d
 |loop c M=>
  intro ρ key T S K a I w ds Q h b g j f k p;simp only[fJ,E]at h;split at h;grind
  rename_i V hV
  have go:∀F:V.X->Prop,(∃x,F x/\jX T (V.lv x)/\ay S (bu (V.st x)))->(∀x O,F x->E P N H (fJ ρ c) key (kT O (V.lv x)) (bu (V.st x)) λe T S=>match e with
    | .normal=>∃y,F y/\jX T (V.lv y)/\ay S (bu (V.st y))/\V.mu y<V.mu x
    |e=>K e T S)->Code.wp P (.loop c) Q a w:=by
   rintro F ⟨x0,x5,x2,A⟩ z;obtain⟨J0,G,x8⟩:=A.h I w j;refine wp_loop_ghost (λn o s=>∃x O J,V.mu x=n/\F x/\dS N (kT O (V.lv x)) o/\o.defers=ds/\aX.le I J/\Sat J (bu (V.st x)) s/\cn w s) (V.mu x0)
    ⟨x0,T.aS,J0,rfl,x5,qe b x2,g,G,x8,cn.refl w⟩ ?_
   rintro n o s ⟨x,O,J,rfl,hp,D,x1,C,x7,v⟩;refine M (z x O hp) D x1 x7 (λe a2 w2 m d=>?_) (λl i q=>⟨(k l i q).1,λa2 w2 d=>(k l i q).2 a2 w2 (d.from C v)⟩) p;cases e with
   |normal=>
    obtain⟨T',S',J',R,Z,W,h4,X,y,x6,x3,B,x4⟩:=d;obtain⟨J2,L,x9⟩:=B.h J' w2 h4;exact⟨V.mu y,x4,y,T'.aS,J2,rfl,x6,qe R x3,Z,aX.le_trans C (aX.le_trans W L),x9,v.trans X⟩
   |_=>exact f _ _ _ m (d.from C v)
  split at h;exact go _ h.1 h.2;obtain⟨_,hx,hy⟩:=h;exact go _ hx hy
 |region id y5 y4=>
  intro ρ key T S K a I w ds Q h b g j f k p;simp only[fJ,E]at h;split at h;exact wp_region (Wj _ h b g j (λa w h=>f _ a w trivial h) (λch a w h=>f _ a w trivial h));exact wp_region_any hm (RJ h.1 h.2 b g (j.heap (w':={w with drawn:=w.drawn+1}) rfl) (λa w h=>f _ a w trivial (h.from (aX.le_refl _) Y)) (λch a w h=>f _ a w trivial (h.from (aX.le_refl _) Y)))
 |label l=>
  intro ρ key T S K a I w ds Q h b g j f k p;exact wp_label (f _ _ _ trivial ⟨T,S,I,b,g,aX.le_refl I,j,cn.refl w,h⟩)
 |goto l=>
  intro ρ key T S K a I w ds Q h b g j f k p;simp only[fJ]at h;split at h
  rename_i r q
  exact wp_goto ((k l r q).2 a w ⟨T,S,I,b,g,aX.le_refl I,j,cn.refl w,h⟩);exact h.elim
 |_=>intro ρ key T S K a I w ds Q h;exact h.elim
theorem Xb(W:P.follows .mixedOrders=true)(H:jZ)(l:Nat){ρ:Nat->Option Nat}{w0:World}:∀(c:Code){T:Tm}{S:St}{a:Act}{w:World},
  w8 l c=true->E P N H (fJ ρ (tz l c)) key T S K->∀J,dS N T a->a.defers=ds->aX.le I J->Sat J S w->cn w0 w->(∀g j,fm N I w0 ds (K .normal) g j->(after l c).wp P Q g j)->(∀e g j,e≠.normal->LD e->fm N I w0 ds (K e) g j->Q e g j)->
  (∀l i,ρ l=some i->1000000<=i/\∀g j,fm N I w0 ds (K (.exit i)) g j->Q (.goto l) g j)->iT c=true->c.wp P Q a w:=by
 intro c
 induction c with
 |seq x b Y s=>
  intro T S a w p h J m v k A f R u q V;have o:iT x=true/\iT b=true:=by simpa[iT]using V
  have go:w8 l b=true->tz l (.seq x b)= .seq x (tz l b)->after l (.seq x b)=after l b->Code.wp P (.seq x b) Q a w:=λe1 C e3=>by
   rw[C]at h;obtain⟨K',X,t,U⟩:=Ge h;refine wp_seq ?_;refine Pv W H x X m v A (λe g j r d=>?_) (λl i z=>⟨(q l i z).1,λg j d=>?_⟩) o.1;cases e with
   |normal=>
    obtain⟨T',S',B,D,F,G,L,M,O⟩:=U _ _ _ _ _ (d.from k f);exact s e1 O B D F G L M (λg j h=>by grind) u q o.2
   |_=>rw[t _ (by intro h;cases h)]at d;exact u _ _ _ (by intro h;cases h) r (d.from k f)
   rw[t _ (by intro h;cases h)]at d;exact(q l i z).2 g j (d.from k f)
  cases x with
  |label Z=>
   cases n:Nat.beq Z l with
   |true=>
    simp only[tz,n,aW,fJ,E]at h;have:=R a w ⟨T,S,J,m,v,k,A,f,h⟩;simp only[after,n,aW]at this;exact wp_seq (wp_label this)
   |false=>exact go (by simpa only[w8,n,Bool.false_or]using p) (by simp only[tz,n,y]) (by simp only[after,n,y])
  |_=>exact go p rfl rfl
 |_=>intro T S a w p;cases p
def OO(l1 l0:Nat):Nat->Option Nat:=λl=>bif Nat.beq l l1 then some 1000001 else bif Nat.beq l l0 then some 1000000 else none
def Wk(l0:Nat):Nat->Option Nat:=λl=>bif Nat.beq l l0 then some 1000000 else none
def Lz(l1 l0:Nat)(c:Code):Code:=.seq (.block 1000000 (.seq (.block 1000001 (fJ (OO l1 l0) (tz l1 c))) (fJ (Wk l0) (tz l0 (after l1 c))))) (fJ (λ_=>none) (after l0 (after l1 c)))
theorem acn(Y:P.follows .mixedOrders=true)(H:jZ)(c:Code)
  (V:findLabel c l1=some (.seq .skip (after l1 c))) (U:findLabel c l0=some (.seq .skip (after l0 (after l1 c)))) (X:w8 l1 c=true) (W:w8 l0 (after l1 c)=true) (hx:iT c=true) (x0:iT (after l1 c)=true) (Z:iT (after l0 (after l1 c))=true)
  (h:E P N H (Lz l1 l0 c) key T S K) (v:dS N T a) (hd:a.defers=ds) (hs:Sat I S w) (hQ:∀e d f,LD e->fm N I w ds (K e) d f->Q e d f) (L:∀l T S,¬K (.goto l) T S):(Code.scope c).wp P Q a w:=by
 obtain⟨o,F,t,M⟩:=Ge h;have F:E P N H (.seq (.block 1000001 (fJ (OO l1 l0) (tz l1 c))) (fJ (Wk l0) (tz l0 (after l1 c)))) 1000000 T S (λe T S=>match e with| .exit i=>(bif Nat.beq i 1000000 then o .normal T S else o (.exit i) T S)|e=>o e T S):=F;obtain⟨s,G,p,R⟩:=Ge F;have G:E P N H (fJ (OO l1 l0) (tz l1 c)) 1000001 T S (λe T S=>match e with| .exit i=>(bif Nat.beq i 1000001 then s .normal T S else s (.exit i) T S)|e=>s e T S):=G;have wC:∀n d f,fm N I w ds (o .normal) d f->(after l0 (after l1 c)).wp P (JQ P c Q n) d f:=by
  intro n d f u;obtain⟨T',S',J,x,z,A,B,C,D⟩:=M _ _ _ _ _ u;refine Pv Y H _ D x z B (λe a w g b=>?_) (λl r j=>by cases j) Z;cases e with
  |goto l=>obtain⟨_,_,_,_,_,_,_,_,h⟩:=b;exact absurd h (L _ _ _)
  |_=>exact Xf (λ_ h=>by cases h) (hQ _ _ _ g (b.from A C))
 have g1:∀n d f,fm N I w ds (o .normal) d f->JQ P c Q (n+1) (.goto l0) d f:=λn d f u=>
  ⟨_,U,wp_seq (wp_skip (wC n d f u))⟩
 have ng:∀l d f,fm N I w ds (o (.goto l)) d f->False:=λl d f b=>by{rw[t _ (by intro h;cases h)]at b;obtain⟨_,_,_,_,_,_,_,_,h⟩:=b;grind};have b0:∀i,i<1000000->Nat.beq i 1000000=false:=λi hi=>ve O;have b1:∀i,i<1000000->Nat.beq i 1000001=false:=λi hi=>ve O;have m:∀n(e:Exit)d f,e≠.normal->LD e->fm N I w ds (o e) d f->JQ P c Q n e d f:=by
  intro n e d f q g b;cases e with
  |goto l=>exact(ng l d f b).elim
  |normal=>exact absurd rfl q
  |_=>rw[t _ (by intro h;cases h)]at b;exact Xf (λ_ h=>by cases h) (hQ _ _ _ g b)
 have wB:∀n d f,fm N I w ds (s .normal) d f->(after l1 c).wp P (JQ P c Q (n+1)) d f:=by
  intro n d f u;obtain⟨T',S',J,x,z,A,B,C,D⟩:=R _ _ _ _ _ u;refine Xb (I:=I) (w0:=w) Y H l0 _ W D J x z A B C (λd f b=>wC _ _ _ b) (λe d f q g b=>?_) (λl i j=>?_) x0;refine m _ e d f q g (b.mono λT S h=>?_);cases e with
  |exit i=>dsimp only at h;rw[b0 i g]at h;exact h
  |_=>exact h
  unfold Wk at j;cases k:Nat.beq l l0 with
  |false=>rw[k]at j;cases j
  |true=>
   rw[k]at j;cases j;rw[Nat.eq_of_beq_eq_true k];exact⟨bK _,λd f b=>g1 n d f (b.mono λT S h=>h)⟩
 refine apN 2 (Xb (I:=I) (w0:=w) Y H l1 c X G I v hd (aX.le_refl I) hs (cn.refl w) (λd f b=>wB 1 d f b) (λe d f q g b=>?_) (λl i j=>?_) hx);refine m _ e d f q g (b.mono λT S h=>?_);cases e with
 |exit i=>
  dsimp only at h;rw[b1 i g,y,p _ (by intro h;cases h)]at h;dsimp only at h;rw[b0 i g]at h;exact h
 |normal=>exact absurd rfl q
 |_=>dsimp only at h;rw[p _ (by intro h;cases h)]at h;exact h
 unfold OO at j;cases k:Nat.beq l l1 with
 |true=>
  rw[k]at j;cases j;rw[Nat.eq_of_beq_eq_true k];exact⟨O,λd f b=>⟨_,V,wp_seq (wp_skip (wB 0 d f (b.mono λT S h=>h)))⟩⟩
 |false=>
  rw[k]at j;cases k:Nat.beq l l0 with
  |false=>rw[k]at j;cases j
  |true=>
   rw[k]at j;cases j;rw[Nat.eq_of_beq_eq_true k];refine⟨bK _,λd f b=>g1 1 d f (b.mono λT S h=>?_)⟩;have h:s (.exit 1000000) T S:=h;rw[p _ (by intro h;cases h)]at h;exact h
def ze:Code->Code
 | .seq a _=>a
 |c=>c
def sc1:Code->Code
 | .seq _ (.scope c)=>c
 |_=>.skip
noncomputable def agb(l1 l0:Nat)(a:Func):Code:=.seq (fJ (λ_=>none) (ze (iu a))) (Lz l1 l0 (sc1 (iu a)))
def Yg(P:Program)(a:Func)(b:List LH)(lv:List (Nat×aD))(R:Ending->St->Prop):Exit->Tm->St->Prop:=λe T S=>match e with
 | .normal=>match lv with| []=>True|_::_=>rd P S (ky a T) b λv=>R (.returned v) S
 | .ret=>rd P S (ky a T) b λv=>R (.returned v) S
 | .panic c=>jX T lv/\R (.panicked c) S
 |_=>False
theorem ahH(hm:P.follows .mixedOrders=true){f:FuncId}{o d:Func}{r:Code}{C:aF}(hf:P.funcs[f]?=some o)(hb:o.body=some (.seq r (.scope c)))(hN:o.ntmps=N)(hl:∀x,(C.args x).length<=N)
  (Q:findLabel c l1=some (.seq .skip (after l1 c))) (O:findLabel c l0=some (.seq .skip (after l0 (after l1 c)))) (R:w8 l1 c=true) (m:w8 l0 (after l1 c)=true) (x1:iT r=true) (hx:iT c=true) (x0:iT (after l1 c)=true) (Z:iT (after l0 (after l1 c))=true)
  (M:iu d= .seq (fJ (λ_=>none) r) (Lz l1 l0 c)) (X:d.results=o.results) (H:C.X->ag->jZ) (B:List LH) (lv:C.X->List (Nat×aD)) (V:∀x,lv x≠[])
  (h:∀x F,C.cond x->C.aE x F->tH P N d (H x F) B (iu d) (lP (C.args x)) (bu (C.pre x++[F])) (lv x) (l C x F)):gD P f C:=by
 refine⟨λx F I w hc W hs=>?_⟩;have k:=h x F hc W;rw[M]at k;refine calls_of_wp hf hb ?_;rw[hN];have k:E P N (H x F) (.seq (fJ (λ_=>none) r) (Lz l1 l0 c)) 0 (lP (C.args x)) (bu (C.pre x++[F])) (Yg P d B (lv x) (l C x F)):=k;have key:∀(e:Exit)D g,fm N I w [] (Yg P d B (lv x) (l C x F) e) D g->bodyPost P o (λe g=>∃y J,C.bS x y/\e=C.val x y/\aX.le I J/\Sat J (bu (C.post x y++[F])) g/\cn w g) e D g:=by
  rintro e a g ⟨T,z,J,K,A,L,h4,h5,n⟩;have t:ky d T=ky o T:=by unfold ky;rw[X]
  have out:∀(G:Ending)(j:World),j=g->l C x F G z->∃y J,C.bS x y/\G=C.val x y/\aX.le I J/\Sat J (bu (C.post x y++[F])) j/\cn w j:=by{rintro G j rfl ⟨y,s,rfl,p⟩;obtain⟨J',q,Y⟩:=p.h J j h4;exact⟨y,J',s,rfl,aX.le_trans L q,Y,h5⟩};have ae:rd P z (ky d T) B (λv=>l C x F (.returned v) z)->a.defers=[]/\∃v,(results o a.tmps).run P g= .ok v g/\∃y J,C.bS x y/\returned v=C.val x y/\aX.le I J/\Sat J (bu (C.post x y++[F])) g/\cn w g:=λn=>by{rw[t]at n;obtain⟨v,x2,hR⟩:=x_ h4 _ _ _ n;exact⟨A,v,by rw[FK K];omega,out _ _ rfl hR⟩};cases e with
  |normal=>
   cases m:lv x with
   |nil=>exact absurd m (V x)
   |cons u b=>rw[m]at n;exact ae n
  |ret=>exact ae n
  |panic ch=>exact⟨A,out _ _ rfl n.2⟩
  |_=>exact n.elim
 obtain⟨K',K,A,L⟩:=Ge k;refine wp_seq (Pv hm (H x F) r K (IY (C.args x) (hl x)) rfl hs (λe D g U i=>?_) (λb r W=>by cases W) x1);cases e with
 |normal=>
  obtain⟨T',z,J,k1,k2,k3,k4,k5,k6⟩:=L _ _ _ _ _ i;exact acn hm (H x F) c Q O R m hx x0 Z k6 k1 k2 k4 (λe a w U h=>key e a w (h.from k3 k5)) (λb T S h=>h.elim)
 |_=>rw[A _ (by intro h;cases h)]at i;exact key _ _ _ i
end
end
section
variable{ng tr:Bool}{dp nd:Int}{c:Nat×ah}
theorem Z8{f:Nat->Int}{i:Nat}(h:i<800):(⟨eW f,nd,dp,ng,tr⟩:bn).at_ i=f i:=by
 unfold bn.at_;rw[SD h]
theorem Z9{f:Nat->Int}:(⟨eW f,nd,dp,ng,tr⟩:bn).ds.length=800:=by
 rw[vC]
theorem abD{ds:aM}(a:ds.getD 0 0≠48):∀n,1<=n->1<=oq ds n
 |0,h=>h
 |n+1,_=>by
  rw[oq];cases b:ds.getD n 0==48 with
  |false=>rw[y];omega
  |true=>
   rw[aW];rcases Nat.eq_zero_or_pos n with h|h;subst h;exact absurd (beq_iff_eq.1 b) a;exact abD a n h
theorem abE{d:bn}(e:d.ds.length=800)(g:1<=d.nd)(h:d.nd<=800)(c:∀i:Nat,(i:Int)<d.nd->48<=d.at_ i/\d.at_ i<=57)(a:d.at_ 0≠48):(lF d).norm/\(lF d).dp=d.dp/\(lF d).ng=d.ng/\(lF d).at_ 0=d.at_ 0:=by
 have hp:=abD (ds:=d.ds) a d.nd.toNat O;have f:=abC d.ds d.nd.toNat;refine⟨⟨e, ?_, ?_, ?_,a⟩, ?_,rfl,rfl⟩;show 1<=((oq d.ds d.nd.toNat:Nat):Int);omega;show((oq d.ds d.nd.toNat:Nat):Int)<=800;omega;intro i b;exact c i (by have b:(i:Int)<((oq d.ds d.nd.toNat:Nat):Int):=b;omega);show(bif oq d.ds d.nd.toNat==0 then 0 else d.dp)=d.dp;grind
theorem LF{d:bn}{k:Nat}(a:Dl k c):m9 d c<=k:=by
 have b:=a.G8;have e:=a.h8.au;unfold m9;grind
theorem LI{d:bn}(f:d.norm){k:Nat}(U:1<=k)(s:Dl k c):(qb d k c).norm/\(qb d k c).dp=d.dp+(m9 d c:Nat)/\(qb d k c).ng=d.ng/\(m9 d c=0->d.at_ 0<(qb d k c).at_ 0):=by
 have h:=ZE f s;rw[show d.nd.toNat+m9 d c=ii d c from rfl]at h;have r:1<=ii d c:=by grind
 have t:1<=d.aT*2^k/10^(ii d c-1)/\d.aT*2^k/10^(ii d c-1)<10:=by{refine⟨Nat.div_pos h.1 (sI _),(Nat.div_lt_iff_lt_mul (sI _)).2 ?_⟩;rw[show 10*10^(ii d c-1)=10^ii d c by rw[Nat.mul_comm,<-Nat.pow_succ,show(ii d c-1).succ=ii d c by omega]];omega};have o:∀i,i<ii d c->jN d (d.aT*2^k) (ii d c) 0 i=48+(d.aT*2^k/10^(ii d c-1-i)%10:Nat):=λi l=>by{unfold jN;simp[*]};have b:∀i,i<800->(⟨eW (jN d (d.aT*2^k) (ii d c) 0),(min (ii d c) 800:Nat),d.dp+(m9 d c:Nat),d.ng,kR d (d.aT*2^k) (ii d c) 0⟩:bn).at_ i=jN d (d.aT*2^k) (ii d c) 0 i:=λi l=>Z8 l;have a:=o 0 r;rw[Nat.sub_zero,Nat.mod_eq_of_lt t.2]at a;obtain⟨u,v,w,x⟩:=abE (d:=⟨eW (jN d (d.aT*2^k) (ii d c) 0),(min (ii d c) 800:Nat),d.dp+(m9 d c:Nat),d.ng,kR d (d.aT*2^k) (ii d c) 0⟩) Z9 (by grind) (by grind) (λi l=>by
  dsimp only at l;rw[b i O,o i O];omega) (by rw[b 0 O,a];omega)
 refine⟨u,v,w,λq=>?_⟩;have e:(qb d k c).at_ 0=48+((d.aT*2^k/10^(ii d c-1):Nat):Int):=by{show(lF _).at_ 0=_;rw[x,b 0 O,a]};rw[e];have p:ii d c=d.nd.toNat:=by unfold ii;rw[q] <;> rfl
 have n:dD d 0*10^(ii d c-1)<=d.aT:=by{have:=(D3 (g:=dD d) 1 (d.nd.toNat-1) (λi l=>f.g9 i O)).1;rw[show 1+(d.nd.toNat-1)=d.nd.toNat by omega,<-p]at this;rw[show c_ (dD d) 1=dD d 0 by show 0*10+dD d 0=_;omega]at this;rw[p]at this⊢;exact this};have y:=f.h8 0 (by have:=f.au;omega);have z:=f.fst;have ze:1<=dD d 0/\d.at_ 0=((48+dD d 0:Nat):Int):=by unfold dD;omega
 have m:2<=2^k:=by{obtain⟨j,rfl⟩:∃j,k=j+1:=⟨k-1,O⟩;rw[Nat.pow_succ];have:1<=2^j:=Nat.pow_pos (by decide);omega};have:dD d 0*2<=d.aT*2^k/10^(ii d c-1):=by
  rw[Nat.le_div_iff_mul_le (sI _)]
  calc dD d 0*2*10^(ii d c-1)=dD d 0*10^(ii d c-1)*2:=Nat.mul_right_comm _ _ _
   _<=d.aT*2^k:=Nat.mul_le_mul n m
 rw[ze.2];omega
theorem OR{d:bn}(l:d.norm){k:Nat}(E:1<=k)(s:k<=60):(n9 d k).norm/\1<=l8 d k/\l8 d k<=30/\(n9 d k).dp=d.dp-((l8 d k:Nat)-1)/\(n9 d k).ng=d.ng/\(l8 d k=1->2^k<=dD d 0/\(n9 d k).at_ 0=48+(dD d 0/2^k:Nat)):=by
 have F:1<=d.nd.toNat/\d.nd.toNat<=800/\((d.nd.toNat:Nat):Int)=d.nd:=by have:=l.au;have:=l.max;omega
 have m:∀i,hF d i<=9:=λi=>by{unfold hF;by_cases h:i<d.nd.toNat;rw[if_pos h];exact l.g9 i h;simp[*]};have q:1<=hF d 0:=by{unfold hF;rw[if_pos O];have:=l.h8 0 O;have:=l.fst;unfold dD;omega};have c:1<=2^k:=Nat.pow_pos (by decide);obtain⟨-,w,x,y⟩:=Wn q m s 30 0 (by decide) (λj v=>absurd v (Nat.not_lt_zero j));rw[show yh (hF d) k 30 0=l8 d k from rfl]at w x y;have g:1<=l8 d k:=by{rcases Nat.eq_zero_or_pos (l8 d k)with h|h;rw[h,c_]at x;omega;exact h};have r:∀i,d.nd.toNat<=i->hF d i=0:=λi b=>by unfold hF;rw[if_neg O]
 have o:∀j,lD d k j<10*2^k:=aaV m g (y _ O);have u:∀j,lD d k j/2^k<=9:=λj=>by{have:=o j;have:lD d k j/2^k<10:=(Nat.div_lt_iff_lt_mul c).2 this;omega};obtain⟨e1,A,B,C⟩:=Wm (n:=lD d k) (k:=k) (J:=d.nd.toNat-l8 d k) (aaW (λi b=>r _ O)) (k+2) (d.nd.toNat-l8 d k) O (bK _) (λi b v=>O);rw[show yg (lD d k) (k+2) (d.nd.toNat-l8 d k)=pO d k from rfl]at e1 A B C;have M:lD d k 0=c_ (hF d) (l8 d k):=rfl;have f:1<=pO d k:=by{grind};have p:∀i,i<pO d k->np d k (lD d k) (pO d k) i=48+(lD d k i/2^k:Nat):=λi b=>by{unfold np;simp[*]};have a:∀i,i<800->(⟨eW (np d k (lD d k) (pO d k)),(min (pO d k) 800:Nat),d.dp-((l8 d k:Nat)-1),d.ng,s9 k (lD d k) d.tr (pO d k)⟩:bn).at_ i=np d k (lD d k) (pO d k) i:=λi b=>Z8 b;have t:1<=lD d k 0/2^k:=Nat.div_pos O c;obtain⟨G,H,I,K⟩:=abE (d:=⟨eW (np d k (lD d k) (pO d k)),(min (pO d k) 800:Nat),d.dp-((l8 d k:Nat)-1),d.ng,s9 k (lD d k) d.tr (pO d k)⟩) Z9 (by grind) (by grind) (λi b=>by
  dsimp only at b;rw[a i O,p i O];have:=u i;generalize lD d k i/2^k=z at this;omega) (by
  rw[a 0 O,p 0 f];generalize lD d k 0/2^k=z at t;omega)
 refine⟨G,g,w,H,I,λD=>?_⟩;have e:(n9 d k).at_ 0=48+((lD d k 0/2^k:Nat):Int):=by{show(lF _).at_ 0=_;rw[K,a 0 O,p 0 f]};have L:c_ (hF d) (l8 d k)=dD d 0:=by{rw[D];show 0*10+hF d 0=_;unfold hF;grind};grind
def rU(lc:Nat->Nat×ah):Prop:=∀k,1<=k->k<=60->Dl k (lc k)
def tg(lc:Nat->Nat×ah):Nat->bn->Nat->bn
 |0,d,_=>d
 |f+1,d,n=>bif decide (60<n) then tg lc f (qb d 60 (lc 60)) (n-60) else qb d n (lc n)
def th:Nat->bn->Nat->bn
 |0,d,_=>d
 |f+1,d,n=>bif decide (60<n) then th f (n9 d 60) (n-60) else n9 d n
def Ax:Nat:=200000
theorem FR:Ax=200000:=rfl
attribute [irreducible] Ax
def ek(lc:Nat->Nat×ah)(d:bn)(k:Int):bn:=bif decide (0<k) then tg lc Ax d k.toNat else bif decide (k<0) then th Ax d (-k).toNat else d
theorem abe{lc:Nat->Nat×ah}(a:rU lc):∀f(d:bn)n,d.norm->1<=n->n<=f->(tg lc f d n).norm/\d.dp<=(tg lc f d n).dp/\(tg lc f d n).dp<=d.dp+n/\(tg lc f d n).ng=d.ng
 |0,_,_,_,h,k=>O
 |f+1,d,n,e,h,k=>by
  rw[tg];by_cases q:60<n;rw[bp q,aW];obtain⟨b,g,c,-⟩:=LI e (by decide) (a 60 (by decide) (by decide));have:=LF (d:=d) (a 60 (by decide) (by decide));obtain⟨i,l,m,j⟩:=abe a f _ (n-60) b O O;exact⟨i,O,O,j.trans c⟩;rw[bF q,y];obtain⟨b,g,c,-⟩:=LI e h (a n h O);have:=LF (d:=d) (a n h O);exact⟨b,O,O,c⟩
theorem abf:∀f(d:bn)n,d.norm->1<=n->n<=f->(th f d n).norm/\(th f d n).dp<=d.dp/\d.dp<=(th f d n).dp+30*n/\(th f d n).ng=d.ng
 |0,_,_,_,h,m=>O
 |f+1,d,n,c,h,m=>by
  rw[th];by_cases q:60<n;rw[bp q,aW];obtain⟨a,e,g,i,b,-⟩:=OR c (k:=60) (by decide) (by decide);obtain⟨j,o,p,l⟩:=abf f _ (n-60) a O O;exact⟨j,O,O,l.trans b⟩;rw[bF q,y];obtain⟨a,e,g,i,b,-⟩:=OR c h O;exact⟨a,O,O,b⟩
theorem abg{lc:Nat->Nat×ah}(a:rU lc){d:bn}(b:d.norm){k:Int}(h: -200000<=k)(i:k<=200000):(ek lc d k).norm/\d.dp-6000000<=(ek lc d k).dp/\(ek lc d k).dp<=d.dp+200000/\(ek lc d k).ng=d.ng:=by
 unfold ek;by_cases q:0<k;obtain⟨c,e,f,g⟩:=abe a Ax d k.toNat b O (by rw[FR];omega);grind;by_cases q:k<0;rw[bp q,aW];obtain⟨c,e,f,g⟩:=abf Ax d (-k).toNat b O (by rw[FR];omega);grind;grind
structure yK where
 b:Nat
 d:bn
 k:Int
 tb:Nat->Nat
 lc:Nat->Nat×ah
abbrev oX(x:yK):bv:=some ⟨x.b,0,none⟩
abbrev rI:aF where
 X:=yK
 Y:=bn
 args x:=[W (oX x),Z x.k]
 pre x:=[D x.b (A x.d) 171]
 cond x:=x.d.norm/\rU x.lc/\ -200000<=x.k/\x.k<=200000/\ -100000000<=x.d.dp/\x.d.dp<=100000000
 aE x F:=io x.tb x.lc F
 bS x y:=y=ek x.lc x.d x.k
 val _ _:=.returned (.tuple #[])
 post x y:=[D x.b (A y) 171]
structure tL where
 n:Nat
 d:bn
 f:Nat
def aof(x:yK)(F:ag):Nat->Option Inv:=fun
 |1=>some {X:=tL,P:=λs=>1<=s.n/\s.n<=s.f/\s.n<=200000/\s.d.norm/\x.d.dp<=s.d.dp/\s.d.dp+s.n<=x.d.dp+200000/\ek x.lc x.d x.k=tg x.lc s.f s.d s.n,mu:=λs=>s.n,lv:=λs=>[(0,W (oX x)),(1,Z (s.n:Nat))],st:=λs=>[D x.b (A s.d) 171,F]}
 |3=>some {X:=tL,P:=λs=>1<=s.n/\s.n<=s.f/\s.n<=200000/\s.d.norm/\s.d.dp<=x.d.dp/\x.d.dp-6000000<=s.d.dp-30*s.n/\ek x.lc x.d x.k=th s.f s.d s.n,mu:=λs=>s.n,lv:=λs=>[(0,W (oX x)),(1,Z (-((s.n:Nat):Int)))],st:=λs=>[D x.b (A s.d) 171,F]}
 |_=>none
abbrev IC(x:yK)(F:ag):=[(0,D x.b (A x.d) 171),(1,F)]
def MK(a:tL)(x:yK):=1<=a.n/\a.n<=a.f/\a.n<=200000/\a.d.norm/\x.d.dp<=a.d.dp/\a.d.dp+a.n<=x.d.dp+200000/\ek x.lc x.d x.k=tg x.lc a.f a.d a.n
abbrev Cp(x:yK)(a:tL)(F:ag):=[(0,D x.b (A a.d) 171),(1,F)]
def P1:=dP 196 BO (λa=>a.d.norm/\1<=a.k/\a.k<=60/\Dl a.k (a.lc a.k)/\(-1000000000:Int)<=a.d.dp/\a.d.dp<=1000000000) (λa b=>io a.tb a.lc b) (λa c=>c=qb a.d a.k (a.lc a.k))
def MF(a:tL)(x:yK):=1<=a.n/\a.n<=a.f/\a.n<=200000/\a.d.norm/\a.d.dp<=x.d.dp/\x.d.dp-6000000<=a.d.dp-30*(a.n:Int)/\ek x.lc x.d x.k=th a.f a.d a.n
def P2:=za 197 Ao (λa=>a.d.norm/\1<=a.k/\a.k<=60/\(-1000000000:Int)<=a.d.dp/\a.d.dp<=1000000000) (λa b=>b=n9 a.d a.k)
theorem aog(x:yK)(F:ag)(P:rI.cond x)(R:rI.aE x F):T1 (D x.b (A x.d) 171) ⟨x.b,800,none⟩ (λf=>Br (f==0) (l rI x F eK (IC x F)) (aK (x.k>0) ((∃(a:tL),MK a x/\(W (oX x)=W (oX x)/\Z x.k=Z ↑a.n/\True)/\ay (IC x F) (Cp x a F))/\aQ λ(e:tL)_=>MK e x->aK ((e.n:Int)>60) (P1 [W (oX x),T 60] [D x.b (A e.d) 171] (g (Cp x e F) [0]) (λc b=>∃(a:tL),MK a x/\(W (oX x)=W (oX x)/\Z (bR ((e.n:Int)-60))=Z ↑a.n/\True)/\ay [(0,D c.b (A b) 171),(1,F)] (Cp x a F)/\a.n<e.n)) (P1 [W (oX x),T (aZ (e.n:Int))] [D x.b (A e.d) 171] (g (Cp x e F) [0]) (λb a=>l rI x F eK [(0,D b.b (A a) 171),(1,F)]))) (aK (x.k<0) ((∃(a:tL),MF a x/\(W (oX x)=W (oX x)/\Z x.k=Z (-(a.n:Int))/\True)/\ay (IC x F) (Cp x a F))/\aQ λ(e:tL)_=>MF e x->aK (-(e.n:Int)<(-60:Int)) (P2 [W (oX x),T 60] [D x.b (A e.d) 171] (λc b=>∃(a:tL),MF a x/\(W (oX x)=W (oX x)/\Z (bR (-(e.n:Int)+60))=Z (-(a.n:Int))/\True)/\ay [(0,D c.b (A b) 171),(1,F)] (Cp x a F)/\a.n<e.n)) (P2 [W (oX x),T (aZ (bR ((0:Int)- -(e.n:Int))))] [D x.b (A e.d) 171] (λb a=>l rI x F eK [(0,D b.b (A a) 171),(1,F)]))) (l rI x F eK (IC x F))))):=by
 delta T1 eK IC MK oX Cp P1 MF P2 g dP za Z T W D aZ bR aK al aQ;obtain⟨b,d,k,w,lc⟩:=x;obtain⟨u,o,H,I,J,K⟩:=P;dsimp only at u o H I J K⊢;have Q:=u.len;have t:∀v:bn,ay [(0,.cells b (A v) 171),(1,F)] [(0,.cells b (A v) 171),(1,F)]:=λv=>ao [0,1];have L:∀v:bn,io w lc (.cJ (rest [(0,.cells b (A v) 171),(1,F)] [0])):=λv=>R.sub (bB 1);have ae:∀v:bn,ek lc d k=v->l rI ⟨b,d,k,w,lc⟩ F (returned (tuple #[])) [(0,.cells b (A v) 171),(1,F)]:=λv e=>
  ⟨v,e.symm,rfl,t v⟩
 refine⟨d.nd,kQ Q,ar (λq=>absurd (beq_iff_eq.1 q) (by have:=u.au;omega)) (λ_=>bd (λq=>⟨⟨⟨k.toNat,d,Ax⟩,⟨by grind,by dsimp only;rw[FR];omega,by simp[*],u,cH _,by grind,by unfold ek;rw[bp (show 0<k by omega),aW]⟩,⟨rfl,congrArg _ (by grind),ai⟩,t d⟩, ?_⟩) (λq=>bd (λq1=>⟨⟨⟨(-k).toNat,d,Ax⟩,⟨by grind,by dsimp only;rw[FR];omega,by grind,u,cH _,by grind,by unfold ek;rw[bF (show ¬0<k by omega),bp q1,y,aW]⟩,⟨rfl,congrArg _ (by grind),ai⟩,t d⟩, ?_⟩) (λq1=>ae d (by unfold ek;rw[bF (show ¬0<k by omega),bF q1,y,y]))))⟩;rintro⟨n,h,f⟩ S ⟨s,B,C,p,E,G,r⟩;dsimp only at s B C p E G r⊢;obtain⟨f,rfl⟩:∃j,f=j+1:=⟨f-1,O⟩;refine bd (λq1=>ba ZF ⟨b,h,60,w,lc⟩ ⟨p,by simp[*],by simp[*],o 60 (by decide) (by decide),by grind,by grind⟩ (L h) (?_)) (λq1=>⟨ZF,rfl,⟨b,h,n,w,lc⟩, ?_,rfl,⟨p,s,by grind,o n s O,by grind,by grind⟩,L h, ?_⟩);rintro m rfl;obtain⟨z,M,N,-⟩:=LI p (by decide) (o 60 (by decide) (by decide));have:=LF (d:=h) (o 60 (by decide) (by decide));refine⟨⟨n-60,qb h 60 (lc 60),f⟩,⟨by grind,by grind,by grind,z,by grind,by grind,by rw[r,tg,bp (show 60<n by omega),aW]⟩,⟨rfl,congrArg _ (by rw[dw (i:=.i64) (n:=(n:Int)-60) aC];dsimp only;omega),ai⟩,t _,by grind⟩;rw[k7 O];rintro m rfl;exact ae _ (by rw[r,tg,bF (show ¬60<n by omega),y]);rintro⟨n,h,f⟩ S ⟨s,B,C,p,E,G,r⟩;dsimp only at s B C p E G r⊢;obtain⟨f,rfl⟩:∃j,f=j+1:=⟨f-1,O⟩;refine bd (λq1=>bG aaZ ⟨b,h,60⟩ ⟨p,by simp[*],by simp[*],by grind,by grind⟩ (?_)) (λq1=>⟨aaZ,rfl,⟨b,h,n⟩, ?_,rfl,⟨p,s,by grind,by grind,by grind⟩,ai, ?_⟩);rintro m rfl;obtain⟨z,M,N,U,V,-⟩:=OR p (k:=60) (by decide) (by decide);refine⟨⟨n-60,n9 h 60,f⟩,⟨by grind,by grind,by grind,z,by grind,by grind,by rw[r,th,bp (show 60<n by omega),aW]⟩,⟨rfl,congrArg _ (by rw[dw (i:=.i64) (n:= -(n:Int)+60) aC];dsimp only;omega),ai⟩,t _,by grind⟩;have e:u64.wrap (i64.wrap (0-(-(n:Int))))=(n:Int):=by{rw[show 0-(-(n:Int))=(n:Int) by omega,dw (i:=.i64) (n:=(n:Int)) aC,k7 O]};rw[e];rintro m rfl;exact ae _ (by rw[r,th,bF (show ¬60<n by omega),y])
theorem I7:aG 162 rI:=mt func162 (λ_ _=>[(0,3,iH 0),(3,1,q BO),(4,1,iH 0),(5,2,F),(5,3,q BO),(8,1,q Ao),(9,1,iH 0),(10,2,iH 0),(10,3,F),(10,4,q Ao)]) aof aog
end
section
def db(z:Int):Int:=bif decide (z>=9) then 27 else (rv z.toNat:Nat)
section
variable(lc:Nat->Nat×ah)
def nK:Nat->bn->Int->bn×Int
 |0,d,e=>(d,e)
 |f+1,d,e=>bif decide (d.dp>0) then nK f (ek lc d (0-db d.dp)) (e+db d.dp) else (d,e)
def mr:Nat->bn->Int->bn×Int
 |0,d,e=>(d,e)
 |f+1,d,e=>bif decide (d.dp<0)||(d.dp==0&&decide (d.at_ 0<53)) then mr f (ek lc d (db (0-d.dp))) (e-db (0-d.dp)) else (d,e)
def YW(m e:Int):Int:=u64.wrap ((BitVec.ofInt u64.bits (u64.wrap ((BitVec.ofInt u64.bits m&&& BitVec.ofInt u64.bits (u64.wrap (u64.wrap (1*2^min (Int.toNat 52) u64.bits)-1))).toNat:Int))|||BitVec.ofInt u64.bits (u64.wrap (u64.wrap (i64.wrap ((BitVec.ofInt i64.bits (e- -1023)&&& BitVec.ofInt i64.bits (i64.wrap (i64.wrap (1*2^min (Int.toNat 11) i64.bits)-1))).toNat:Int))*2^min (Int.toNat 52) u64.bits))).toNat:Int)
def tW(b:Bool)(m e:Int)(a:Bool):Int×Bool:=bif b then (u64.wrap ((BitVec.ofInt u64.bits (YW m e)|||BitVec.ofInt u64.bits (u64.wrap (u64.wrap (1*2^min (Int.toNat 52) u64.bits)*2^min (Int.toNat 11) u64.bits))).toNat:Int),a) else (YW m e,a)
def BF(a:Bool):Int×Bool:=bif a then tW true 0 1024 true else tW false 0 1024 true
def BE(a:Bool)(m e:Int):Int×Bool:=bif u64.wrap ((BitVec.ofInt u64.bits m&&& BitVec.ofInt u64.bits (u64.wrap (1*2^min (Int.toNat 52) u64.bits))).toNat:Int)==0 then tW a m (-1023) false else tW a m e false
def Hd(a:Bool)(m e:Int):Int×Bool:=bif m==u64.wrap (2*2^min (Int.toNat 52) u64.bits) then (bif decide (e+1- -1023>=2047) then BF a else BE a (m.fdiv (2^min (Int.toNat 1) u64.bits)) (e+1)) else BE a m e
def D8(d:bn)(e:Int):Int×Bool:=bif decide (e- -1023>=2047) then BF d.ng else Hd d.ng (nn (ek lc d 53)) e
def D7(d:bn)(e:Int):Int×Bool:=bif decide (e-1< -1023+1) then D8 lc (ek lc d (0-(-1023+1-(e-1)))) (e-1+(-1023+1-(e-1))) else D8 lc d (e-1)
def pu(p:bn×Int):Int×Bool:=D7 lc p.1 p.2
def YU(d:bn):Int×Bool:=pu lc (mr lc 6000 (nK lc 700 d 0).1 (nK lc 700 d 0).2)
def dT(d:bn):Int×Bool:=bif d.nd==0 then tW d.ng 0 (-1023) false else bif decide (d.dp>310) then BF d.ng else bif decide (d.dp< -330) then tW d.ng 0 (-1023) false else YU lc d
end
def HH{z:Int}(h:0<=z):(1<=db z/\db z<=27)/\(1<=z->3<=db z):=by
 unfold db;by_cases q:z>=9;simp[*];rw[bF q,y];have k:∀i,i<9->1<=rv i/\rv i<=27/\(1<=i->3<=rv i):=by decide
 grind
variable{n:Nat}
theorem aod{lc:Nat->Nat×ah}{d:bn}(a:1<=n)(b:n<=60):ek lc d (0-(n:Int))=n9 d n:=by
 unfold ek;rw[bF (show ¬0<0-(n:Int) by omega),bp (show 0-(n:Int)<0 by omega),y,aW,FR,show(-(0-(n:Int))).toNat=n by omega,show(200000:Nat)=199999+1 from rfl,th,bF (show ¬60<n by omega),y]
theorem aoe{lc:Nat->Nat×ah}{d:bn}(a:1<=n)(b:n<=60):ek lc d (n:Int)=qb d n (lc n):=by
 unfold ek;rw[bp (show 0<(n:Int) by omega),aW,FR,show((n:Int)).toNat=n by omega,show(200000:Nat)=199999+1 from rfl,tg,bF (show ¬60<n by omega),y]
def mA(d:bn):Nat:=2*d.dp.toNat+(bif decide (56<=d.at_ 0) then 1 else 0)
def mB(d:bn):Nat:=bif decide (0<d.dp) then 0 else 16*(0-d.dp).toNat+(58-d.at_ 0).toNat
theorem Su(d:bn):2*d.dp.toNat<=mA d/\mA d<=2*d.dp.toNat+1:=by
 unfold mA;grind
theorem aoI{lc:Nat->Nat×ah}{d:bn}(a:d.norm)(hp:0<d.dp):(ek lc d (0-db d.dp)).norm/\(ek lc d (0-db d.dp)).ng=d.ng/\(ek lc d (0-db d.dp)).dp<=d.dp/\d.dp-30<=(ek lc d (0-db d.dp)).dp/\mA (ek lc d (0-db d.dp))<mA d:=by
 obtain⟨⟨s,t⟩,g⟩:=HH (z:=d.dp) O;have g:=g O;obtain⟨n,r⟩:∃n:Nat,db d.dp=(n:Int):=⟨(db d.dp).toNat,O⟩;rw[r]at s t g⊢;rw[aod O O];obtain⟨j,u,v,w,l,m⟩:=OR a (k:=n) O O;have A:=Su d;have B:=Su (n9 d n);refine⟨j,l,O,O, ?_⟩;by_cases q:l8 d n=1;obtain⟨i,c⟩:=m q;have y:=a.g9 0 (by have:=a.au;omega);have b:n=3:=by{have x:8<=2^n:=by{have:2^3<=2^n:=pw (by decide) O;exact this};rcases Nat.lt_or_ge n 4 with h|h;omega;have:2^4<=2^n:=pw (by decide) h;have:16<=2^n:=this;omega};rw[b]at i c⊢;have p:(2:Nat)^3=8:=by decide
 rw[p]at i c;have f:(n9 d 3).dp=d.dp:=by rw[<-b];omega
 have e:d.at_ 0=((48+dD d 0:Nat):Int):=by{have:=a.h8 0 (by have:=a.au;omega);unfold dD;omega};have o:(n9 d 3).at_ 0=48+((dD d 0/8:Nat):Int):=c;unfold mA;rw[f,bF (show ¬56<=(n9 d 3).at_ 0 by rw[o];omega),bp (show 56<=d.at_ 0 by rw[e];omega)];exact jd _;omega
theorem abo{lc:Nat->Nat×ah}(c:rU lc){d:bn}(b:d.norm)(hp:(decide (d.dp<0)||(d.dp==0&&decide (d.at_ 0<53)))=true):(ek lc d (db (0-d.dp))).norm/\(ek lc d (db (0-d.dp))).ng=d.ng/\d.dp<=(ek lc d (db (0-d.dp))).dp/\(ek lc d (db (0-d.dp))).dp<=d.dp+27/\mB (ek lc d (db (0-d.dp)))<mB d:=by
 have m:d.dp<=0:=by{grind};obtain⟨⟨o,p⟩,-⟩:=HH (z:=0-d.dp) O;obtain⟨n,l⟩:∃n:Nat,db (0-d.dp)=(n:Int):=⟨(db (0-d.dp)).toNat,O⟩;rw[l]at o p⊢;have e:=c n O O;rw[aoe O O];obtain⟨a,h,i,j⟩:=LI b O e;have k:=LF (d:=d) e;have q:=b.h8 0 (by have:=b.au;omega);have r:=a.h8 0 (by have:=a.au;omega);have f1:=a.fst;refine⟨a,i,O,O, ?_⟩;unfold mB;rw[bF (show ¬0<d.dp by omega),y];by_cases g:0<(qb d n (lc n)).dp;rw[bp g,aW];omega;rw[bF g,y];by_cases f:m9 d (lc n)=0;have:=j f;rw[f]at h;omega;omega
structure fR where
 b:Nat
 d:bn
 tb:Nat->Nat
 lc:Nat->Nat×ah
abbrev Fa(x:fR):=D x.b (A x.d) 171
abbrev jP(x:fR):bv:=some ⟨x.b,0,none⟩
abbrev su:aF where
 X:=fR
 Y:=bn
 args x:=[W (jP x),W eg]
 pre x:=[Fa x]
 cond x:=(x.d.ds.length=800/\(x.d.nd=0\/x.d.norm))/\rU x.lc/\ -3000000000<=x.d.dp/\x.d.dp<=3000000000
 aE x F:=io x.tb x.lc F
 bS _ y:=y.ds.length=800
 val x _:=.returned (.tuple #[.int .u64 (dT x.lc x.d).1,.bool (dT x.lc x.d).2])
 post x y:=[D x.b (A y) 171]
noncomputable def K_:Func:={f227 with body:=some (agb 1 0 f227)}
def YV(x:fR):List (Nat×aD):=[(1,.pointer (some ⟨14,0,none⟩))]
structure cV where
 d:bn
 e:Int
 m:Int
 o:Bool
 f:Nat
def vi(x:fR):List (Nat×aD):=[(0,.pointer (some ⟨x.b,0,none⟩)),(1,.pointer (some ⟨14,0,none⟩))]
def vj(x:fR)(F:ag)(s:cV):List ag:=[.cells x.b (A s.d) 171,F]
def ahm(x:fR)(F:ag):Nat->Option Inv:=fun
 |0=>some {X:=cV,P:=λs=>(s.d.norm/\s.d.ng=x.d.ng)/\(-330<=s.d.dp/\s.d.dp<=310)/\(0<=s.e/\s.e+27*s.f<=18900)/\mA s.d<s.f/\dT x.lc x.d=pu x.lc (mr x.lc 6000 (nK x.lc s.f s.d s.e).1 (nK x.lc s.f s.d s.e).2),mu:=λs=>s.f,lv:=λs=>vi x++[(5,.bool false),(6,.int .i64 s.e)],st:=vj x F}
 |2=>some {X:=cV,P:=λs=>(s.d.norm/\s.d.ng=x.d.ng)/\(-330<=s.d.dp/\s.d.dp<=30)/\(s.e<=18900/\27*s.f<=s.e+162000)/\mB s.d<s.f/\dT x.lc x.d=pu x.lc (mr x.lc s.f s.d s.e),mu:=λs=>s.f,lv:=λs=>vi x++[(5,.bool false),(6,.int .i64 s.e)],st:=vj x F}
 |_=>none
def Lc:(T:Type)×(cV->T):=⟨cV,λs=>s⟩
def ahl(x:fR)(F:ag):Nat->Option Inv:=fun
 |16=>some {X:=cV,gh:=some Lc,P:=λs=>(s.d.norm/\s.d.ng=x.d.ng)/\(0<s.d.dp/\s.d.dp<=310)/\(0<=s.e/\s.e+27*s.f<=18900)/\mA s.d<s.f/\s.m=db s.d.dp/\dT x.lc x.d=pu x.lc (mr x.lc 6000 (nK x.lc s.f s.d s.e).1 (nK x.lc s.f s.d s.e).2),mu:=λs=>s.f,lv:=λs=>vi x++[(5,.bool false),(6,.int .i64 s.e),(8,.int .i64 s.m)],st:=vj x F}
 |23=>some {X:=cV,gh:=some Lc,P:=λs=>(s.d.norm/\s.d.ng=x.d.ng)/\(-330<=s.d.dp/\(decide (s.d.dp<0)||(s.d.dp==0&&decide (s.d.at_ 0<53)))=true)/\(s.e<=18900/\27*s.f<=s.e+162000)/\mB s.d<s.f/\s.m=db (0-s.d.dp)/\dT x.lc x.d=pu x.lc (mr x.lc s.f s.d s.e),mu:=λs=>s.f,lv:=λs=>vi x++[(5,.bool false),(6,.int .i64 s.e),(9,.int .i64 s.m)],st:=vj x F}
 |18=>some {X:=cV,P:=λs=>(s.d.norm/\s.d.ng=x.d.ng)/\(-330<=s.d.dp/\s.d.dp<=0)/\(0<=s.e/\s.e<=18900)/\dT x.lc x.d=pu x.lc (mr x.lc 6000 s.d s.e),mu:=λ_=>0,lv:=λs=>vi x++[(5,.bool false),(6,.int .i64 s.e)],st:=vj x F}
 |25=>some {X:=cV,P:=λs=>(s.d.norm/\s.d.ng=x.d.ng)/\(-330<=s.d.dp/\s.d.dp<=30)/\(-162000<=s.e/\s.e<=18900)/\dT x.lc x.d=D7 x.lc s.d s.e,mu:=λ_=>0,lv:=λs=>vi x++[(5,.bool false),(6,.int .i64 s.e)],st:=vj x F}
 |30=>some {X:=cV,P:=λs=>(s.d.norm/\s.d.ng=x.d.ng)/\(-50000000<=s.d.dp/\s.d.dp<=50000000)/\(-162001<=s.e/\s.e<=18900)/\dT x.lc x.d=D8 x.lc s.d s.e,mu:=λ_=>0,lv:=λs=>vi x++[(5,.bool false),(6,.int .i64 s.e)],st:=vj x F}
 |37=>some {X:=cV,P:=λs=>(s.d.ds.length=800/\s.d.ng=x.d.ng)/\(-162001<=s.e/\s.e<=18901)/\dT x.lc x.d=BE x.d.ng s.m s.e,mu:=λ_=>0,lv:=λs=>vi x++[(5,.bool false),(6,.int .i64 s.e),(7,.int .u64 s.m)],st:=vj x F}
 |39=>some {X:=cV,P:=λs=>(s.d.ds.length=800/\s.d.ng=x.d.ng)/\dT x.lc x.d=BF x.d.ng,mu:=λ_=>0,lv:=λs=>vi x,st:=vj x F}
 |42=>some {X:=cV,P:=λs=>(s.d.ds.length=800/\s.d.ng=x.d.ng)/\(-162001<=s.e/\s.e<=18901)/\dT x.lc x.d=tW x.d.ng s.m s.e s.o,mu:=λ_=>0,lv:=λs=>vi x++[(5,.bool s.o),(6,.int .i64 s.e),(7,.int .u64 s.m)],st:=vj x F}
 |_=>none
def Ec:OH:=.q [.ex 1 (.is (.int .u64 52))]
def Hk:OH:=.q [.ex 1 (.is (.int .u64 11))]
def xa:OH:=.q [.ex 1 (.is (.int .i64 (-1023)))]
def ahn(b:fR)(a:ag):List (Nat×Nat×OH):=[(3,3,iH 0),(5,3,xa),(6,3,iH 0),(7,3,iH 0),(9,3,xa),(11,3,iH 0),(13,3,iH 0),(13,4,.q [.ex 1 .slice]),(15,0,.q [.ex 1 .slice]),(15,4,iH 0),(15,5,.qo (dy 1)),(15,6,.q [.ex 1 (.int .i64)]),(16,3,q rI),
 (18,3,iH 0),(18,9,iH 0),(18,16,bH 0),(18,17,F),(20,3,iH 0),(20,5,.q [.ex 1 .slice]),(22,0,.q [.ex 1 .slice]),(22,4,iH 0),(22,6,.qo (dy 1)),(22,7,.q [.ex 1 (.int .i64)]),(23,2,q rI),
 (26,4,xa),(27,3,xa),(28,3,q rI),(30,4,xa),(30,9,Hk),(30,10,F),(30,11,F),(31,4,Ec),(31,5,F),(31,6,F),(31,7,q rI),(32,1,q yd),(33,4,Ec),(33,5,F),(33,6,F),(34,1,F),(36,4,xa),(36,9,Hk),(36,10,F),(36,11,F),(37,4,Ec),(37,5,F),(37,6,F),(37,7,F),(38,3,xa),
 (40,3,Hk),(40,4,F),(40,5,F),(40,9,xa),(40,10,F),(42,4,Ec),(42,5,F),(42,6,F),(42,7,F),(43,5,xa),(43,10,Hk),(43,11,F),(43,12,F),(43,13,F),(43,14,F),(43,18,Ec),(43,19,F),(43,20,F),(44,3,.q [.ex 0 .bool]),(45,4,Ec),(45,5,F),(45,9,Hk),(45,10,F),(45,11,F)]
noncomputable def YX(x:aF.X su)(F:ag):jZ where
 op:=U ((ahn x F)++[])
 BK:=ahm x F
 cut:=ahl x F
 B2:=(λ_=>[])
def Cr(z:cV)(a:fR):=z.d.ds.length=800/\z.d.ng=a.d.ng
def IF(z:cV):=(-162001:Int)<=z.e/\z.e<=18901
abbrev gJ(x:fR)(q:cV)(F:ag):=[(0,D x.b (A q.d) 171),(1,F)]
def Gz(a:fR)(e1:ag)(c d e:aD)(b:St):=∃(z:cV),(Cr z a/\IF z/\dT a.lc a.d=tW a.d.ng z.m z.e z.o)/\(W (jP a)=W (jP a)/\W eg=W eg/\c=H z.o/\d=Z z.e/\e=T z.m/\True)/\ay b (gJ a z e1)
def UJ(F:ag)(x:fR):=aH F ⟨14,2,none⟩ nY/\Gz x F cM nY (T 0) [(0,D x.b (A x.d) 171),(1,F)]
def JV(a:fR)(e1:ag)(b:St):=∃(z:cV),(Cr z a/\dT a.lc a.d=BF a.d.ng)/\(W (jP a)=W (jP a)/\W eg=W eg/\True)/\ay b (gJ a z e1)
def Ab(e:cV)(x:fR):=e.d.norm/\e.d.ng=x.d.ng
def Mj(a:cV)(x:fR):=Ab a x/\((-330:Int)<=a.d.dp/\a.d.dp<=310)/\(0<=a.e/\a.e+27*(a.f:Int)<=18900)/\mA a.d<a.f/\dT x.lc x.d=pu x.lc (mr x.lc 6000 (nK x.lc a.f a.d a.e).fst (nK x.lc a.f a.d a.e).snd)
abbrev vN(x:fR)(q:cV):=D x.b (A q.d) 171
def Tt(z:cV)(a:fR)(e1:cV):=(Ab z a/\(0<z.d.dp/\z.d.dp<=310)/\(0<=z.e/\z.e+27*(z.f:Int)<=18900)/\mA z.d<z.f/\z.m=db z.d.dp/\dT a.lc a.d=pu a.lc (mr a.lc 6000 (nK a.lc z.f z.d z.e).fst (nK a.lc z.f z.d z.e).snd))/\Lc.snd z=e1
def U5(a:fR)(b:aD)(z:cV)(c:aD):=W (jP a)=W (jP a)/\W eg=W eg/\H false=H false/\b=Z z.e/\c=Z z.m/\True
def P3(a:fR)(e1:cV)(b:ag)(d e:aD)(c:St):=∃(z:cV),Tt z a e1/\U5 a d z e/\ay c (gJ a z b)
def GA:=dP 162 rI (λa=>a.d.norm/\rU a.lc/\(-200000:Int)<=a.k/\a.k<=200000/\(-100000000:Int)<=a.d.dp/\a.d.dp<=100000000) (λa b=>io a.tb a.lc b) (λa c=>c=ek a.lc a.d a.k)
def Uj(a:cV)(x:fR):=Ab a x/\((-330:Int)<=a.d.dp/\a.d.dp<=0)/\(0<=a.e/\a.e<=18900)/\dT x.lc x.d=pu x.lc (mr x.lc 6000 a.d a.e)
def UK(x:fR)(o a:cV):=W (jP x)=W (jP x)/\W eg=W eg/\H false=H false/\Z o.e=Z a.e/\True
def Mv(z:cV)(a:fR):=Ab z a/\((-330:Int)<=z.d.dp/\z.d.dp<=30)/\(z.e<=18900/\27*z.f<=z.e+162000)/\mB z.d<z.f/\dT a.lc a.d=pu a.lc (mr a.lc z.f z.d z.e)
def Tk(e:cV)(x:fR)(l:cV):=(Ab e x/\((-330:Int)<=e.d.dp/\(decide (e.d.dp<0)||e.d.dp==0&&decide (e.d.at_ 0<53))=true)/\(e.e<=18900/\27*e.f<=e.e+162000)/\mB e.d<e.f/\e.m=db ((0:Int)-e.d.dp)/\dT x.lc x.d=pu x.lc (mr x.lc e.f e.d e.e))/\Lc.snd e=l
def P4(a:fR)(e1:cV)(b:ag)(d e:aD)(c:St):=∃(z:cV),Tk z a e1/\U5 a d z e/\ay c (gJ a z b)
def M8(a:fR)(b:aD)(z:cV):=W (jP a)=W (jP a)/\W eg=W eg/\H false=H false/\b=Z z.e/\True
def Xw(a:fR)(e1:ag)(c:aD)(b:St)(mm:Nat):=∃(z:cV),Mv z a/\M8 a c z/\ay b (gJ a z e1)/\z.f<mm
def TV(x:fR)(q:cV)(F:ag):=∃(l:cV),(true=true/\T1 (vN x q) ⟨x.b,801,none⟩ (λk=>dN F ⟨18,0,none⟩ (λj i h=>aK (bR ((0:Int)-k)>=(i:Int)) (P4 x l F (Z q.e) (Z 27) (gJ x q F)) (true=true/\dN F ⟨18,0,none⟩ (λa f e=>T1 (vN x q) ⟨x.b,801,none⟩ (λd=>b9 (aL K_ 22 6) [Q a f e,Z (bR ((0:Int)-d))] (λc=>T1 F ⟨c.b,c.o+c.n.toNat*1,none⟩ (λb=>P4 x l F (Z q.e) (Z b) (gJ x q F)))))))))/\aQ λ(e:cV)_=>Tk e x l->GA [W (jP x),Z e.m] [D x.b (A e.d) 171] (g (gJ x e F) [0]) (λc b=>aA (e.e-e.m)/\Xw x F (Z (e.e-e.m)) [(0,D c.b (A b) 171),(1,F)] q.f)
def Ur(z:cV)(a:fR):=Ab z a/\((-330:Int)<=z.d.dp/\z.d.dp<=30)/\((-162000:Int)<=z.e/\z.e<=18900)/\dT a.lc a.d=D7 a.lc z.d z.e
def P6(a:fR)(e1:ag)(c:aD)(b:St):=∃(z:cV),Ur z a/\M8 a c z/\ay b (gJ a z e1)
def TZ(z:cV)(a:fR):=Ab z a/\((-50000000:Int)<=z.d.dp/\z.d.dp<=50000000)/\((-162001:Int)<=z.e/\z.e<=18900)/\dT a.lc a.d=D8 a.lc z.d z.e
def P7(a:fR)(e1:ag)(c:aD)(b:St):=∃(z:cV),TZ z a/\M8 a c z/\ay b (gJ a z e1)
def P8(a:fR)(e1:ag)(c d:aD)(b:St):=∃(z:cV),(Cr z a/\IF z/\dT a.lc a.d=BE a.d.ng z.m z.e)/\(W (jP a)=W (jP a)/\W eg=W eg/\H false=H false/\c=Z z.e/\d=T z.m/\True)/\ay b (gJ a z e1)
theorem ahq(x:fR)(F:ag)(Y:su.cond x)(K:su.aE x F):(T1 (Fa x) ⟨x.b,800,none⟩ (λv=>Br (v==0) (UJ F x) (T1 (Fa x) ⟨x.b,801,none⟩ (λp=>aK (p>310) (JV x F [(0,D x.b (A x.d) 171),(1,F)]) (T1 (Fa x) ⟨x.b,801,none⟩ (λt=>aK (t<(-330:Int)) (UJ F x) (((∃(a:cV),Mj a x/\(W (jP x)=W (jP x)/\W eg=W eg/\H false=H false/\Z 0=Z a.e/\True)/\ay [(0,D x.b (A x.d) 171),(1,F)] (gJ x a F))/\aQ λ(o:cV)_=>Mj o x->T1 (vN x o) ⟨x.b,801,none⟩ (λm=>aK (m>0) (∃(r:cV),(true=true/\T1 (vN x o) ⟨x.b,801,none⟩ (λk=>dN F ⟨18,0,none⟩ (λj i h=>aK (k>=i) (P3 x r F (Z o.e) (Z 27) (gJ x o F)) (true=true/\dN F ⟨18,0,none⟩ (λw f e=>T1 (vN x o) ⟨x.b,801,none⟩ (λd=>b9 (aL K_ 15 5) [Q w f e,Z d] (λc=>T1 F ⟨c.b,c.o+c.n.toNat*1,none⟩ (λb=>P3 x r F (Z o.e) (Z b) (gJ x o F)))))))))/\aQ λ(e:cV)_=>Tt e x r->GA [W (jP x),Z (bR ((0:Int)-e.m))] [D x.b (A e.d) 171] (g (gJ x e F) [0]) (λc b=>aA (e.e+e.m)/\∃(a:cV),Mj a x/\(W (jP x)=W (jP x)/\W eg=W eg/\H false=H false/\Z (e.e+e.m)=Z a.e/\True)/\ay [(0,D c.b (A b) 171),(1,F)] (gJ x a F)/\a.f<o.f)) (∃(a:cV),Uj a x/\UK x o a/\ay (gJ x o F) (gJ x a F))))/\aQ λ(s:cV)_=>Uj s x->((∃(a:cV),Mv a x/\UK x s a/\ay (gJ x s F) (gJ x a F))/\aQ λ(q:cV)_=>Mv q x->T1 (vN x q) ⟨x.b,801,none⟩ (λo=>aK (o<0) (TV x q F) (T1 (vN x q) ⟨x.b,801,none⟩ (λn=>Br (n==0) (((0:Int)<=0/\0<(↑(800:Nat):Int))/\jD (vN x q) ⟨x.b,0,none⟩ (λm=>aK (m<53) (TV x q F) (P6 x F (Z q.e) (gJ x q F)))) (P6 x F (Z q.e) (gJ x q F))))))/\aQ λ(k:cV)_=>Ur k x->aA (k.e-1)/\(aH F ⟨14,2,none⟩ nY/\aA ((-1023:Int)+1)/\aK (k.e-1<(-1023:Int)+1) (aH F ⟨14,2,none⟩ nY/\aA ((-1023:Int)+1)/\aA ((-1023:Int)+1-(k.e-1))/\GA [W (jP x),Z (bR ((0:Int)-((-1023:Int)+1-(k.e-1))))] [D x.b (A k.d) 171] (g (gJ x k F) [0]) (λc b=>aA (k.e-1+((-1023:Int)+1-(k.e-1)))/\P7 x F (Z (k.e-1+((-1023:Int)+1-(k.e-1)))) [(0,D c.b (A b) 171),(1,F)])) (P7 x F (Z (k.e-1)) (gJ x k F)))/\aQ λ(i:cV)_=>TZ i x->true=true/\aH F ⟨14,2,none⟩ nY/\aA (i.e-(-1023:Int))/\aH F ⟨14,1,none⟩ vY/\aK (i.e-(-1023:Int)>=bR (bR ((1:Int)*(2:Int)^min (Int.toNat (11:Int)) i64.bits)-1)) (JV x F (gJ x i F)) (aH F ⟨14,0,none⟩ mI/\GA [W (jP x),Z (bR (aZ ((1:Int)+52)))] [D x.b (A i.d) 171] (g (gJ x i F) [0]) (λw f=>dK 235 yd (λe=>e.d.ok) [W (jP x)] [D w.b (A f) 171] (λe d=>(aH F ⟨14,0,none⟩ mI/\Br (nn e.d==aZ ((2:Int)*(2:Int)^min (Int.toNat (52:Int)) u64.bits)) (aA (i.e+1)/\true=true/\aH F ⟨14,2,none⟩ nY/\aA (i.e+1-(-1023:Int))/\aH F ⟨14,1,none⟩ vY/\aK (i.e+1-(-1023:Int)>=bR (bR ((1:Int)*(2:Int)^min (Int.toNat (11:Int)) i64.bits)-1)) (JV x F (nc e F)) (P8 x F (Z (i.e+1)) (T ((nn e.d).fdiv ((2:Int)^min (Int.toNat (1:Int)) u64.bits))) (nc e F))) (P8 x F (Z i.e) (T (nn e.d)) (nc e F)))/\aQ λ(c:cV)_=>(Cr c x/\IF c/\dT x.lc x.d=BE x.d.ng c.m c.e)->aH F ⟨14,0,none⟩ mI/\Br (aZ (↑(bU c.m&&& bU (aZ ((1:Int)*(2:Int)^min (Int.toNat (52:Int)) u64.bits))).toNat:Int)==0) (aH F ⟨14,2,none⟩ nY/\Gz x F cM nY (T c.m) (gJ x c F)) (Gz x F cM (Z c.e) (T c.m) (gJ x c F)))))))))))/\aQ λ(c:cV)_=>(Cr c x/\dT x.lc x.d=BF x.d.ng)->true=true/\aH F ⟨14,1,none⟩ vY/\aH F ⟨14,2,none⟩ nY/\Gz x F (H true) (Z (bR (bR (bR ((1:Int)*(2:Int)^min (Int.toNat (11:Int)) i64.bits)-1)+(-1023:Int)))) (T 0) (gJ x c F))/\aQ λ(c:cV)_=>(Cr c x/\IF c/\dT x.lc x.d=tW x.d.ng c.m c.e c.o)->aH F ⟨14,0,none⟩ mI/\true=true/\aH F ⟨14,2,none⟩ nY/\aA (c.e-(-1023:Int))/\aH F ⟨14,1,none⟩ vY/\aH F ⟨14,0,none⟩ mI/\yM (vN x c) ⟨x.b,802,none⟩ (λa=>Br a (true=true/\aH F ⟨14,0,none⟩ mI/\aH F ⟨14,1,none⟩ vY/\l su x F (al (tuple {toList:=[T (aZ (↑(bU (aZ (↑(bU (aZ (↑(bU c.m&&& bU (aZ (aZ ((1:Int)*(2:Int)^min (Int.toNat (52:Int)) u64.bits)-1))).toNat:Int))|||bU (aZ (aZ (bR (↑(ib (c.e-(-1023:Int))&&& ib (bR (bR ((1:Int)*(2:Int)^min (Int.toNat (11:Int)) i64.bits)-1))).toNat:Int))*2^min (Int.toNat (52:Int)) u64.bits))).toNat:Int))|||bU (aZ (aZ ((1:Int)*(2:Int)^min (Int.toNat (52:Int)) u64.bits)*2^min (Int.toNat (11:Int)) u64.bits))).toNat:Int)),H c.o]})) (gJ x c F)) (l su x F (al (tuple ⟨[T (aZ (↑(bU (aZ (↑(bU c.m&&& bU (aZ (aZ ((1:Int)*(2:Int)^min (Int.toNat (52:Int)) u64.bits)-1))).toNat:Int))|||bU (aZ (aZ (bR (↑(ib (c.e-(-1023:Int))&&& ib (bR (bR ((1:Int)*(2:Int)^min (Int.toNat (11:Int)) i64.bits)-1))).toNat:Int))*2^min (Int.toNat (52:Int)) u64.bits))).toNat:Int)),H c.o]⟩)) (gJ x c F))):=by
 delta T1 Fa nY Cr IF jP eg gJ Gz cM UJ JV Ab Mj vN dN Tt U5 P3 b9 GA Uj UK Mv Tk P4 M8 Xw TV jD Ur P6 TZ P7 vY mI nc P8 yM g aA dK dP Z u T H W Q D bU ib aZ bR aK al aQ;obtain⟨b,d,tb,lc⟩:=x;obtain⟨⟨hl,hd⟩,P,x5,x6⟩:=Y;replace K:io tb lc F:=K;dsimp only at hl hd P x5 x6⊢;obtain⟨pb,po,pc,t1,t2⟩:=K.pt;have J:∀v:bn,ay [(0,.cells b (A v) 171),(1,F)] [(0,.cells b (A v) 171),(1,F)]:=λv=>ao [0,1];have rr:∀v:bn,io tb lc (.cJ (rest [(0,.cells b (A v) 171),(1,F)] [0])):=λv=>K.sub (bB 1);have x2:i64.wrap (i64.wrap (1*2^min (Int.toNat 11) i64.bits)-1)=2047:=by decide
 refine⟨⟨⟨d.nd,kQ hl,ar (λq=>⟨K.i2,⟨d,-1023,0,false,0⟩,⟨⟨hl,rfl⟩,⟨by simp[*],by simp[*]⟩,by unfold dT;simp[*]⟩,aU,J _⟩) (λq=>?_)⟩, ?_⟩, ?_⟩;have x3:d.norm:=by{grind};refine⟨d.dp,my hl,bd (λq1=>⟨⟨d,0,0,true,0⟩,⟨⟨hl,rfl⟩,by unfold dT;simp[*]⟩,aU,J _⟩) (λq1=>⟨d.dp,my hl,bd (λq2=>⟨K.i2,⟨d,-1023,0,false,0⟩,⟨⟨hl,rfl⟩,⟨by simp[*],by simp[*]⟩,by unfold dT;simp[*]⟩,aU,J _⟩) (λq2=>?_)⟩)⟩;have x7:dT lc d=pu lc (mr lc 6000 (nK lc 700 d 0).1 (nK lc 700 d 0).2):=by{unfold dT YU;simp[*]};have x8:=Su d;refine⟨⟨⟨⟨d,0,0,false,700⟩,⟨⟨x3,rfl⟩,⟨by grind,by grind⟩,⟨cH _,by simp[*]⟩,by grind,x7⟩,aU,J _⟩, ?_⟩, ?_⟩;rintro⟨B,e,_,_,f⟩ X ⟨⟨E,G⟩,⟨S,U⟩,⟨M,N⟩,g7,I⟩;dsimp only at E G S U M N g7 I⊢;obtain⟨f,rfl⟩:∃j,f=j+1:=⟨f-1,O⟩;refine⟨B.dp,my E.len,bd (λq=>?_) (λq=>⟨⟨B,e,0,false,0⟩,⟨⟨E,G⟩,⟨S,by grind⟩,⟨M,by grind⟩,by rw[I,nK,bF q,y]⟩,aU,J _⟩)⟩;obtain⟨⟨w1,w2⟩,-⟩:=HH (z:=B.dp) O;have st:∀m:Int,m=db B.dp->((((B.norm/\B.ng=d.ng)/\(0<B.dp/\B.dp<=310)/\(0<=e/\e+27*((f+1:Nat):Int)<=18900)/\mA B<f+1/\m=db B.dp/\dT lc d=pu lc (mr lc 6000 (nK lc (f+1) B e).1 (nK lc (f+1) B e).2)))):=λm hm=>⟨⟨E,G⟩,⟨O,U⟩,⟨M,N⟩,g7,hm,I⟩;refine⟨⟨B,e,db B.dp,false,f+1⟩,⟨rfl,B.dp,my E.len,_,9,pc,t1,bd (λq1=>⟨⟨B,e,db B.dp,false,f+1⟩,⟨st _ rfl,rfl⟩,⟨rfl,rfl,rfl,rfl, ?_,ai⟩,J _⟩) (λq1=>⟨rfl,_,9,pc,t1,B.dp,my E.len,bZ 1 rfl rfl rfl rfl,⟨pb,po,9,pc,B.dp⟩,rfl,⟨by grind,by grind⟩,(rv B.dp.toNat:Nat), ?_,⟨B,e,db B.dp,false,f+1⟩,⟨st _ rfl,rfl⟩,⟨rfl,rfl,rfl,rfl, ?_,ai⟩,J _⟩)⟩, ?_⟩;unfold db;grind;grind;unfold db;grind;rintro⟨L,e2,m2,o2,f2⟩ X ⟨-,V⟩;obtain⟨rfl,rfl,rfl,rfl,rfl⟩:=cV.mk.inj V;obtain⟨s1,s2,s3,s4,s5⟩:=aoI (lc:=lc) E q;dsimp only;refine⟨I7,rfl,⟨b,L,0-db L.dp,tb,lc⟩,by rw[dw (i:=.i64) (n:=0-db L.dp) aC],rfl,⟨E,P,by grind,by grind,by grind,by grind⟩,rr L, ?_⟩;rintro C rfl;exact⟨aC,⟨ek lc L (0-db L.dp),e2+db L.dp,0,false,f⟩,⟨⟨s1,s2.trans G⟩,⟨by grind,by grind⟩,⟨by grind,by grind⟩,by grind,by rw[I,nK,bp q,aW]⟩,aU,J _,by simp[*]⟩;rintro⟨B,e,_,_,_⟩ X ⟨⟨E,G⟩,⟨S,U⟩,⟨M,N⟩,I⟩;dsimp only at E G S U M N I⊢;have x1:mB B<6000:=by{have h0:=E.h8 0 (by have:=E.au;omega);unfold mB;grind};refine⟨⟨⟨⟨B,e,0,false,6000⟩,⟨⟨E,G⟩,⟨S,by grind⟩,⟨N,by grind⟩,x1,I⟩,aU,J _⟩, ?_⟩, ?_⟩;clear E G S U M N I x1 B e;rintro⟨B,e,_,_,f⟩ X ⟨⟨E,G⟩,⟨S,U⟩,⟨M,N⟩,g7,I⟩;dsimp only at E G S U M N g7 I⊢;obtain⟨f,rfl⟩:∃j,f=j+1:=⟨f-1,O⟩;have out:(decide (B.dp<0)||(B.dp==0&&decide (B.at_ 0<53)))=false->dT lc d=D7 lc B e:=λh=>by{rw[I,mr,h,y] <;> rfl};refine⟨B.dp,my E.len,bd (λq=>?_) (λq=>⟨B.dp,my E.len,ar (λq1=>⟨⟨by decide,by decide⟩,B.at_ 0,zk E.len (by decide),bd (λq2=>?_) (λq2=>⟨⟨B,e,0,false,0⟩,⟨⟨E,G⟩,⟨S,U⟩,⟨by grind,O⟩,out (by simp[*])⟩,aU,J _⟩)⟩) (λq1=>⟨⟨B,e,0,false,0⟩,⟨⟨E,G⟩,⟨S,U⟩,⟨by grind,O⟩,out (by simp[*])⟩,aU,J _⟩)⟩)⟩;have Y:(decide (B.dp<0)||(B.dp==0&&decide (B.at_ 0<53)))=true:=by simp[*]
 have x4:B.dp<=0:=by{omega};obtain⟨⟨w1,w2⟩,-⟩:=HH (z:=0-B.dp) O;have st:(((B.norm/\B.ng=d.ng)/\(-330<=B.dp/\(decide (B.dp<0)||(B.dp==0&&decide (B.at_ 0<53)))=true)/\(e<=18900/\27*((f+1:Nat):Int)<=e+162000)/\mB B<f+1/\db (0-B.dp)=db (0-B.dp)/\dT lc d=pu lc (mr lc (f+1) B e))):=⟨⟨E,G⟩,⟨S,Y⟩,⟨M,N⟩,g7,rfl,I⟩;have R:i64.wrap (0-B.dp)=0-B.dp:=dw (i:=.i64) (n:=0-B.dp) aC;refine⟨⟨B,e,db (0-B.dp),false,f+1⟩,⟨rfl,B.dp,my E.len,_,9,pc,t1,bd (λq5=>⟨⟨B,e,db (0-B.dp),false,f+1⟩,⟨st,rfl⟩,⟨rfl,rfl,rfl,rfl, ?_,ai⟩,J _⟩) (λq5=>⟨rfl,_,9,pc,t1,B.dp,my E.len,bZ 1 rfl rfl rfl rfl,⟨pb,po,9,pc,0-B.dp⟩,by rw[R],⟨by simp[*],by grind⟩,(rv (0-B.dp).toNat:Nat), ?_,⟨B,e,db (0-B.dp),false,f+1⟩,⟨st,rfl⟩,⟨rfl,rfl,rfl,rfl, ?_,ai⟩,J _⟩)⟩, ?_⟩;rw[R]at q5;unfold db;grind;grind;rw[R]at q5;unfold db;grind;rintro⟨L,e2,m2,o2,f2⟩ X ⟨-,V⟩;obtain⟨rfl,rfl,rfl,rfl,rfl⟩:=cV.mk.inj V;obtain⟨s1,s2,s3,s4,s5⟩:=abo P E Y;dsimp only;refine ba I7 ⟨b,L,db (0-L.dp),tb,lc⟩ ⟨E,P,by grind,by grind,by grind,by grind⟩ (rr L) (?_);rintro C rfl;exact⟨aC,⟨ek lc L (db (0-L.dp)),e2-db (0-L.dp),0,false,f⟩,⟨⟨s1,s2.trans G⟩,⟨by grind,by grind⟩,⟨by grind,by grind⟩,by grind,by rw[I,mr,Y,aW]⟩,aU,J _,by simp[*]⟩;have Y:(decide (B.dp<0)||(B.dp==0&&decide (B.at_ 0<53)))=true:=by simp[*]
 have x4:B.dp<=0:=by{grind};obtain⟨⟨w1,w2⟩,-⟩:=HH (z:=0-B.dp) O;have st:(((B.norm/\B.ng=d.ng)/\(-330<=B.dp/\(decide (B.dp<0)||(B.dp==0&&decide (B.at_ 0<53)))=true)/\(e<=18900/\27*((f+1:Nat):Int)<=e+162000)/\mB B<f+1/\db (0-B.dp)=db (0-B.dp)/\dT lc d=pu lc (mr lc (f+1) B e))):=⟨⟨E,G⟩,⟨S,Y⟩,⟨M,N⟩,g7,rfl,I⟩;have R:i64.wrap (0-B.dp)=0-B.dp:=dw (i:=.i64) (n:=0-B.dp) aC;refine⟨⟨B,e,db (0-B.dp),false,f+1⟩,⟨rfl,B.dp,my E.len,_,9,pc,t1,bd (λq5=>⟨⟨B,e,db (0-B.dp),false,f+1⟩,⟨st,rfl⟩,⟨rfl,rfl,rfl,rfl, ?_,ai⟩,J _⟩) (λq5=>⟨rfl,_,9,pc,t1,B.dp,my E.len,bZ 1 rfl rfl rfl rfl,⟨pb,po,9,pc,0-B.dp⟩,by rw[R],⟨by simp[*],by grind⟩,(rv (0-B.dp).toNat:Nat), ?_,⟨B,e,db (0-B.dp),false,f+1⟩,⟨st,rfl⟩,⟨rfl,rfl,rfl,rfl, ?_,ai⟩,J _⟩)⟩, ?_⟩;omega;grind;rw[R]at q5;unfold db;grind;rintro⟨L,e2,m2,o2,f2⟩ X ⟨-,V⟩;obtain⟨rfl,rfl,rfl,rfl,rfl⟩:=cV.mk.inj V;obtain⟨s1,s2,s3,s4,s5⟩:=abo P E Y;dsimp only;refine ba I7 ⟨b,L,db (0-L.dp),tb,lc⟩ ⟨E,P,by grind,by grind,by grind,by grind⟩ (rr L) (?_);rintro C rfl;exact⟨aC,⟨ek lc L (db (0-L.dp)),e2-db (0-L.dp),0,false,f⟩,⟨⟨s1,s2.trans G⟩,⟨by grind,by grind⟩,⟨by grind,by grind⟩,by grind,by rw[I,mr,Y,aW]⟩,aU,J _,by simp[*]⟩;clear E G S U M N I x1 B e;rintro⟨B,e,_,_,_⟩ X ⟨⟨E,G⟩,⟨S,U⟩,⟨M,N⟩,I⟩;dsimp only at E G S U M N I⊢;refine⟨aC,⟨K.i2,⟨by decide,by decide⟩,bd (λq=>⟨K.i2,⟨by decide,by decide⟩,aC,I7,rfl,⟨b,B,0-(-1023+1-(e-1)),tb,lc⟩,by rw[dw (i:=.i64) (n:=0-(-1023+1-(e-1))) aC],rfl,⟨E,P,by grind,by grind,by grind,by grind⟩,rr B, ?_⟩) (λq=>⟨⟨B,e-1,0,false,0⟩,⟨⟨E,G⟩,⟨by grind,by grind⟩,⟨by grind,by grind⟩,by rw[I,D7,bF q,y]⟩,aU,J _⟩)⟩, ?_⟩;rintro C rfl;obtain⟨s1,s2,s3,s4⟩:=abg P E (k:=0-(-1023+1-(e-1))) O O;exact⟨aC,⟨ek lc B (0-(-1023+1-(e-1))),e-1+(-1023+1-(e-1)),0,false,0⟩,⟨⟨s1,s4.trans G⟩,⟨by grind,by grind⟩,⟨by grind,by grind⟩,by rw[I,D7,bp q,aW]⟩,aU,J _⟩;clear E G S U M N I B e;rintro⟨B,e,_,_,_⟩ X ⟨⟨E,G⟩,⟨S,U⟩,⟨M,N⟩,I⟩;dsimp only at E G S U M N I⊢;rw[x2];obtain⟨s1,s2,s3,s4⟩:=abg P E (k:=53) (by decide) (by decide);refine⟨rfl,K.i2,aC,K.i1,bd (λq=>⟨⟨B,0,0,true,0⟩,⟨⟨E.len,G⟩,by rw[I,D8,bp q,aW,G]⟩,aU,J _⟩) (λq=>⟨K.i0,I7,rfl,⟨b,B,53,tb,lc⟩,by rw[show i64.wrap (u64.wrap (1+52))=53 by decide],rfl,⟨E,P,by simp[*],by simp[*],by grind,by grind⟩,rr B, ?_⟩)⟩;rintro C rfl;have x0:dT lc d=Hd d.ng (nn (ek lc B 53)) e:=by rw[I,D8,bF q,y,G]
 refine bG ano ⟨b,ek lc B 53⟩ s1.ok λ_ _=>⟨⟨K.i0,ar (λq1=>⟨aC,rfl,K.i2,aC,K.i1,bd (λq2=>⟨⟨ek lc B 53,0,0,true,0⟩,⟨⟨s1.len,s4.trans G⟩,by rw[x0,Hd,q1,aW,bp q2,aW]⟩,aU,J _⟩) (λq2=>⟨⟨ek lc B 53,e+1,(nn (ek lc B 53)).fdiv (2^min (Int.toNat 1) u64.bits),false,0⟩,⟨⟨s1.len,s4.trans G⟩,⟨by grind,by grind⟩,by rw[x0,Hd,q1,aW,bF q2,y]⟩,aU,J _⟩)⟩) (λq1=>⟨⟨ek lc B 53,e,nn (ek lc B 53),false,0⟩,⟨⟨s1.len,s4.trans G⟩,⟨O,by grind⟩,by rw[x0,Hd,q1,y]⟩,aU,J _⟩)⟩, ?_⟩;rintro⟨B,e,m,_,_⟩ X ⟨⟨E,G⟩,⟨M,N⟩,I⟩;dsimp only at E G M N I⊢;exact⟨K.i0,ar (λq=>⟨K.i2,⟨B,-1023,m,false,0⟩,⟨⟨E,G⟩,⟨by simp[*],by simp[*]⟩,by rw[I,BE,q,aW]⟩,aU,J _⟩) (λq=>⟨⟨B,e,m,false,0⟩,⟨⟨E,G⟩,⟨M,N⟩,by rw[I,BE,q,y]⟩,aU,J _⟩)⟩;rintro⟨B,_,_,_,_⟩ X ⟨⟨E,G⟩,I⟩;dsimp only at E G I⊢;refine⟨rfl,K.i1,K.i2,⟨B,1024,0,true,0⟩,⟨⟨E,G⟩,⟨by simp[*],by simp[*]⟩, ?_⟩,⟨rfl,rfl,rfl,congrArg _ (show _=(1024:Int) by decide),rfl,ai⟩,J _⟩;rw[I,BF];rfl;rintro⟨B,e,m,o,_⟩ X ⟨⟨E,G⟩,⟨M,N⟩,I⟩;dsimp only at E G M N I⊢;refine⟨K.i0,rfl,K.i2,aC,K.i1,K.i0,B.ng,ajm E,ar (λq=>⟨rfl,K.i0,K.i1,B,E, ?_,J _⟩) (λq=>⟨B,E, ?_,J _⟩)⟩;show _=returned (.tuple #[.int .u64 (dT lc d).1,.bool (dT lc d).2]);rw[I,tW,<-G,q] <;> rfl;show _=returned (.tuple #[.int .u64 (dT lc d).1,.bool (dT lc d).2]);rw[I,tW,<-G,q] <;> rfl
theorem aho(x:aF.X su)(F:ag)(a:su.cond x)(b:su.aE x F):tH prog 243 K_ (YX x F) [] (iu K_) (lP (aF.args su x)) (bu (aF.pre su x++[F])) (YV x) (l su x F):=
 Eq.mpr bg (ahq x F a b)
theorem ahp:aG 227 su:=
 ahH (N:=243) (l1:=1) (l0:=0) bg (r:=ze (iu f227)) (c:=sc1 (iu f227)) func227 bg bg (λ_=>Nat.le_of_ble_eq_true rfl) bg bg bg bg bg bg bg bg bg bg YX [] YV (λ_ h=>nomatch h) aho
end
structure fU where
 i:Int
 sd:Bool
 sg:Bool
 d:bn
structure eS where
 i:Int
 d:bn
 sg:Int
 e:Int
 us:Bool
def dZ:bn:=⟨List.replicate 800 0,0,0,false,false⟩
def bn.m4(d:bn)(p:Int):bn:=⟨d.ds,d.nd,p,d.ng,d.tr⟩
def bn.Jm(d:bn)(t:Bool):bn:=⟨d.ds,d.nd,d.dp,d.ng,t⟩
def bn.push(d:bn)(c:Int):bn:=⟨d.ds.set d.nd.toNat c,d.nd+1,d.dp,d.ng,d.tr⟩
def pP(s:ah)(x:fU):Nat×fU:=
 bif B s x.i==95 then (0,⟨x.i+1,x.sd,x.sg,x.d⟩)
 else bif B s x.i==46 then (bif x.sd then (2,x) else (0,⟨x.i+1,true,x.sg,x.d.m4 x.d.nd⟩))
 else bif eP (B s x.i) then
  (bif (bif B s x.i==48 then x.d.nd==0 else false) then (0,⟨x.i+1,x.sd,true,x.d.m4 (x.d.dp-1)⟩)
  else bif decide (x.d.nd<800) then (0,⟨x.i+1,x.sd,true,x.d.push (B s x.i)⟩)
  else bif B s x.i !=48 then (0,⟨x.i+1,x.sd,true,x.d.Jm true⟩) else (0,⟨x.i+1,x.sd,true,x.d⟩))
 else (1,x)
def we(s:ah):Nat->fU->Option fU
 |0,x=>some x
 |f+1,x=>bif (pP s x).1==0 then we s f (pP s x).2 else bif (pP s x).1==1 then some x else none
def wc(s:ah)(i:Int)(d:bn):Option bn:=bif i !=(s.size:Int) then none else some d
def FP(s:ah)(f:Nat)(i e:Int)(us:Bool)(d:bn)(sg:Int):Option bn:=wc s (k8 s f i e us).1 (d.m4 (d.dp+(k8 s f i e us).2.1*sg))
def yj(s:ah)(i:Int)(d:bn)(sg:Int):Option bn:=
 bif (bif (bif decide (i>=s.size) then true else decide (B s i<48)) then true else decide (B s i>57)) then none
 else FP s ((s.size:Int)-i).toNat i 0 false d sg
def FO(s:ah)(i:Int)(d:bn):Option bn:=
 bif decide (i>=s.size) then none
 else bif B s i==43 then yj s (i+1) d 1
 else bif B s i==45 then yj s (i+1) d (-1) else yj s i d 1
def Ar(s:ah)(i:Int)(d:bn):Option bn:=
 bif (bif decide (i<s.size) then eI (B s i)==101 else false) then FO s (i+1) d else wc s i d
def ta(s:ah)(x:fU):Option bn:=
 bif !x.sg then none else bif !x.sd then Ar s x.i (x.d.m4 x.d.nd) else Ar s x.i x.d
def aa8(s:ah):Option bn:=(we s ((s.size:Int)-dd s).toNat ⟨dd s,false,false,⟨dZ.ds,0,0,bO s,false⟩⟩).bind (ta s)
def eM(s:ah):Option bn:=bif decide (0>=(s.size:Int)) then none else aa8 s
structure bn.je(d:bn):Prop where
 len:d.ds.length=800
 lo:0<=d.nd
 hi:d.nd<=800
 h8:∀i:Nat,(i:Int)<d.nd->48<=d.at_ i/\d.at_ i<=57
 fst:1<=d.nd->d.at_ 0≠48
def bn.je.or{d:bn}(h:d.je):d.nd=0\/d.norm:=by
 rcases Int.lt_or_le 0 d.nd with q|q;exact .inr ⟨h.len,O,h.hi,h.h8,h.fst O⟩;exact .inl (by have:=h.lo;omega)
def bn.je.m4{d:bn}(h:d.je)(p:Int):(d.m4 p).je:=⟨h.len,h.lo,h.hi,h.h8,h.fst⟩
def bn.je.Jm{d:bn}(h:d.je)(t:Bool):(d.Jm t).je:=⟨h.len,h.lo,h.hi,h.h8,h.fst⟩
def bn.je.push{d:bn}(h:d.je){c:Int}(hn:d.nd<800)(g:48<=c)(j:c<=57)(k:d.nd=0->c≠48):(d.push c).je:=by
 have f:=h.lo;have l:=h.len;have a:∀i,(d.push c).at_ i=if i=d.nd.toNat then c else d.at_ i:=λi=>by{show(d.ds.set d.nd.toNat c).getD i 0=_;rw[eG,List.getElem?_set];by_cases e:d.nd.toNat=i;grind;rw[if_neg e,if_neg (λh=>e h.symm),<-eG] <;> rfl};refine⟨?_, ?_, ?_,λi b=>?_,λ_=>?_⟩;show(d.ds.set d.nd.toNat c).length=800;simp[*];show 0<=d.nd+1;omega;show d.nd+1<=800;omega;have b:(i:Int)<d.nd+1:=b;rw[a];by_cases e:i=d.nd.toNat;omega;rw[if_neg e];exact h.h8 i O;rw[a];by_cases e:0=d.nd.toNat;omega;rw[if_neg e];exact h.fst O
def Yz(n t:Bool):(⟨dZ.ds,0,0,n,t⟩:bn).je:=⟨by unfold dZ;dsimp only;rw[List.length_replicate],cH _,bX,λi a=>by dsimp only at a;omega,λh=>by dsimp only at h;omega⟩
structure eC where
 b:Nat
 s:ah
 d:bn
abbrev lu(x:eC):bv:=some ⟨x.b,0,none⟩
abbrev yl:aF where
 X:=eC
 Y:=bn
 args x:=[W (lu x),C x.s]
 pre x:=[D x.b (A x.d) 171]
 cond x:=x.s.size<=1000000000/\x.d=dZ
 bS x y:=y.ds.length=800/\∀v,eM x.s=some v->y=v/\v.je/\ -3000000000<=v.dp/\v.dp<=3000000000
 val x _:=al (H (eM x.s).isSome)
 post x y:=[D x.b (A y) 171]
 eL _ _ _ _ h:=h
def At(s:ah)(x:fU):Prop:=(0<=x.i/\x.i<=s.size)/\x.d.je/\x.d.nd<=x.i/\ -x.i<=x.d.dp/\x.d.dp<=x.i
def seG:(T:Type)×(fU->T):=⟨fU,λd=>d⟩
def aa_:(T:Type)×(eS->T):=⟨eS,λd=>d⟩
def Wt(x:eC)(d:fU):List (Nat×aD):=[(0,.pointer (some ⟨x.b,0,none⟩)),(1,.string x.s),(4,.bool false),(5,.int .i64 d.i),(6,.bool d.sd),(7,.bool d.sg)]
def Wu(x:eC)(d:eS):List (Nat×aD):=[(0,.pointer (some ⟨x.b,0,none⟩)),(1,.string x.s),(4,.bool false),(5,.int .i64 d.i),(8,.int .i64 d.sg),(9,.int .i64 d.e)]
def rG(s:ah)(x:eS):Prop:=(0<=x.i/\x.i<=s.size)/\x.d.je/\ -1000000000<=x.d.dp/\x.d.dp<=1000000000
abbrev uq(x:eC)(d:fU):=D x.b (A d.d) 171
abbrev zP(x:eC)(d:eS):=D x.b (A d.d) 171
def an3(x:eC)(F:ag):Nat->Option Inv:=fun
 |1=>some {X:=fU,P:=λd=>At x.s d/\eM x.s=(we x.s ((x.s.size:Int)-d.i).toNat d).bind (ta x.s),mu:=λd=>((x.s.size:Int)-d.i).toNat,lv:=λd=>Wt x d,st:=λd=>[uq x d,F]}
 |5=>some {X:=eS,P:=λd=>rG x.s d/\(d.sg=1\/d.sg= -1)/\0<=d.e/\d.e<=100100/\eM x.s=FP x.s ((x.s.size:Int)-d.i).toNat d.i d.e d.us d.d d.sg,mu:=λd=>((x.s.size:Int)-d.i).toNat,lv:=λd=>Wu x d,st:=λd=>[zP x d,F]}
 |_=>none
def an2(x:eC)(F:ag):Nat->Option Inv:=fun
 |11=>some {X:=fU,P:=λd=>0<x.s.size/\d=⟨dd x.s,false,false,⟨dZ.ds,0,0,bO x.s,false⟩⟩,mu:=λ_=>0,lv:=λd=>[(0,W (lu x)),(1,C x.s),(4,cM),(5,Z d.i)],st:=λd=>[uq x d,F]}
 |24=>some {X:=fU,gh:=some seG,P:=λd=>At x.s d/\d.i<x.s.size/\d.sg=true/\(bif B x.s d.i==48 then d.d.nd==0 else false)=false,mu:=λ_=>0,lv:=λd=>Wt x d,st:=λd=>[uq x d,F]}
 |29=>some {X:=fU,P:=λd=>At x.s d/\eM x.s=ta x.s d,mu:=λ_=>0,lv:=λd=>Wt x d,st:=λd=>[uq x d,F]}
 |32=>some {X:=eS,P:=λd=>rG x.s d/\eM x.s=Ar x.s d.i d.d,mu:=λ_=>0,lv:=λd=>[(0,W (lu x)),(1,C x.s),(4,cM),(5,Z d.i)],st:=λd=>[zP x d,F]}
 |42=>some {X:=eS,P:=λd=>rG x.s d/\(d.sg=1\/d.sg= -1)/\eM x.s=yj x.s d.i d.d d.sg,mu:=λ_=>0,lv:=λd=>[(0,W (lu x)),(1,C x.s),(4,cM),(5,Z d.i),(8,Z d.sg)],st:=λd=>[zP x d,F]}
 |46=>some {X:=eS,gh:=some aa_,P:=λd=>rG x.s d/\d.i<x.s.size/\(B x.s d.i==95||eP (B x.s d.i))=true,mu:=λ_=>0,lv:=λd=>Wu x d,st:=λd=>[zP x d,F]}
 |49=>some {X:=eS,P:=λd=>rG x.s d/\(d.sg=1\/d.sg= -1)/\0<=d.e/\d.e<=100100/\eM x.s=wc x.s d.i (d.d.m4 (d.d.dp+d.e*d.sg)),mu:=λ_=>0,lv:=λd=>Wu x d,st:=λd=>[zP x d,F]}
 |50=>some {X:=eS,P:=λd=>((0<=d.i/\d.i<=x.s.size)/\d.d.je/\ -3000000000<=d.d.dp/\d.d.dp<=3000000000)/\eM x.s=wc x.s d.i d.d,mu:=λ_=>0,lv:=λd=>[(0,W (lu x)),(1,C x.s),(4,cM),(5,Z d.i)],st:=λd=>[zP x d,F]}
 |_=>none
abbrev NF(x:eC)(F:ag):=[(0,D x.b (((A x.d).set 802 cM).set 803 cM) 171),(1,F)]
def Vj(a:eC)(z:fU):=0<a.s.size/\z=⟨dd a.s,false,false,⟨dZ.ds,(0:Int),(0:Int),bO a.s,false⟩⟩
abbrev pK(a:eC)(z:fU)(e1:ag):=[(0,D a.b (A z.d) 171),(1,e1)]
def JW(a:eC)(e1:ag)(c:aD)(b:St):=∃(z:fU),Vj a z/\(W (lu a)=W (lu a)/\C a.s=C a.s/\H false=H false/\c=Z z.i/\True)/\ay b (pK a z e1)
def Nw(a:eC)(z:fU):=At a.s z/\eM a.s=(we a.s (a.s.size-z.i).toNat z).bind (ta a.s)
def zW(i:fU)(x:eC):=0<=i.i/\i.i<x.s.size
def MZ(a:eC)(b:aD)(z:fU)(c d:aD):=W (lu a)=W (lu a)/\C a.s=C a.s/\H false=H false/\b=Z z.i/\c=H z.sd/\d=H z.sg/\True
def A7(a:eC)(e1:ag)(c d e:aD)(b:St)(mm:Nat):=∃(z:fU),Nw a z/\MZ a c z d e/\ay b (pK a z e1)/\(a.s.size-z.i).toNat<mm
abbrev CG(i:fU):=Z (i.i+1)
def Oy(x:eC)(i:fU):=V x.b 801/\801<(A i.d).length
def UY(a:eC)(z e1:fU):=(At a.s z/\z.i<a.s.size/\z.sg=true/\(bif B a.s z.i==48 then z.d.nd==0 else false)=false)/\seG.snd z=e1
def P9(a:eC)(e1:fU)(b:ag)(d e f:aD)(c:St):=∃(z:fU),UY a z e1/\MZ a d z e f/\ay c (pK a z b)
def Xx(a:eC)(e1:ag)(c d e:aD)(b:St):=∃(z:fU),(At a.s z/\eM a.s=ta a.s z)/\MZ a c z d e/\ay b (pK a z e1)
def NY(x:eC)(F:ag)(i:fU):=Xx x F (Z i.i) (H i.sd) (H i.sg) (pK x i F)
def U6(a:eC)(b:aD)(z:eS):=W (lu a)=W (lu a)/\C a.s=C a.s/\H false=H false/\b=Z z.i/\True
abbrev kW(a:eC)(z:eS)(e1:ag):=[(0,D a.b (A z.d) 171),(1,e1)]
def P_(a:eC)(e1:ag)(c:aD)(b:St):=∃(z:eS),(rG a.s z/\eM a.s=Ar a.s z.i z.d)/\U6 a c z/\ay b (kW a z e1)
def xT(f:eS)(x:eC):=0<=f.i/\f.i<x.s.size
def Fo(x:eC)(F:ag)(a:eS):=l yl x F cm (kW x a F)
def V5(a:eC)(z:eS):=rG a.s z/\(z.sg=1\/z.sg=(-1:Int))/\eM a.s=yj a.s z.i z.d z.sg
def JX(a:eC)(e1:ag)(c d:aD)(b:St):=∃(z:eS),V5 a z/\(W (lu a)=W (lu a)/\C a.s=C a.s/\H false=H false/\c=Z z.i/\d=Z z.sg/\True)/\ay b (kW a z e1)
def MP(a:eC)(z:eS):=rG a.s z/\(z.sg=1\/z.sg=(-1:Int))/\0<=z.e/\z.e<=100100/\eM a.s=FP a.s (a.s.size-z.i).toNat z.i z.e z.us z.d z.sg
def VA(a:eC)(z e1:eS):=(rG a.s z/\z.i<a.s.size/\(B a.s z.i==95||eP (B a.s z.i))=true)/\aa_.snd z=e1
def MU(a:eC)(b:aD)(z:eS)(c d:aD):=W (lu a)=W (lu a)/\C a.s=C a.s/\H false=H false/\b=Z z.i/\c=Z z.sg/\d=Z z.e/\True
def Qb(a:eC)(e1:eS)(b:ag)(d e f:aD)(c:St):=∃(z:eS),VA a z e1/\MU a d z e f/\ay c (kW a z b)
def UH(a:eC)(z:eS):=rG a.s z/\(z.sg=1\/z.sg=(-1:Int))/\0<=z.e/\z.e<=100100/\eM a.s=wc a.s z.i (z.d.m4 (z.d.dp+z.e*z.sg))
def Qc(a:eC)(e1:ag)(c d e:aD)(b:St):=∃(z:eS),UH a z/\MU a c z d e/\ay b (kW a z e1)
def TI(f:eS)(x:eC)(d:eS)(F:ag):=xT f x/\Br (B x.s f.i==95) (Qb x d F (Z f.i) (Z f.sg) (Z f.e) (kW x f F)) (Qc x F (Z f.i) (Z f.sg) (Z f.e) (kW x f F))
def Qd(a:eC)(e1:ag)(c d e:aD)(b:St)(mm:Nat):=∃(z:eS),MP a z/\MU a c z d e/\ay b (kW a z e1)/\(a.s.size-z.i).toNat<mm
def Vc(c:eS)(x:eC)(F:ag)(f:eS):=aA (c.i+1)/\Qd x F (Z (c.i+1)) (Z c.sg) (Z c.e) (kW x c F) ((x.s.size-f.i).toNat)
def UG(z:eS)(a:eC):=((0<=z.i/\z.i<=a.s.size)/\z.d.je/\(-3000000000:Int)<=z.d.dp/\z.d.dp<=3000000000)/\eM a.s=wc a.s z.i z.d
def JY(a:eC)(e1:ag)(c:aD)(b:St):=∃(z:eS),UG z a/\U6 a c z/\ay b (kW a z e1)
def an6(x:eC)(F:ag)(hc:yl.cond x)(hr:yl.aE x F):(V x.b 802/\802<(A x.d).length)/\(V x.b 803/\803<((A x.d).set 802 cM).length)/\aK (0>=(x.s.size:Int)) (l yl x F cm (NF x F)) ((((0:Int)<=0/\0<(x.s.size:Int))/\Br (B x.s (0:Int)==(43:Int)) (aA ((0:Int)+1)/\JW x F Fg (NF x F)) (Br (B x.s (0:Int)==(45:Int)) (aA ((0:Int)+1)/\(V x.b 802/\802<(((A x.d).set 802 cM).set 803 cM).length)/\JW x F Fg [(0,D x.b ((((A x.d).set 802 cM).set 803 cM).set 802 (H true)) 171),(1,F)]) (JW x F (Z 0) (NF x F))))/\aQ λ(p:fU)_=>Vj x p->((∃(a:fU),Nw x a/\(W (lu x)=W (lu x)/\C x.s=C x.s/\H false=H false/\Z p.i=Z a.i/\H false=H a.sd/\H false=H a.sg/\True)/\ay (pK x p F) (pK x a F))/\aQ λ(i:fU)_=>Nw x i->aK (i.i<x.s.size) (zW i x/\Br (B x.s i.i==95) (aA (i.i+1)/\A7 x F (CG i) (H i.sd) (H i.sg) (pK x i F) ((x.s.size-i.i).toNat)) (zW i x/\Br (B x.s i.i==46) (Br i.sd (l yl x F cm (pK x i F)) (T1 (uq x i) ⟨x.b,800,none⟩ (λb=>Oy x i/\aA (i.i+1)/\A7 x F (CG i) (H true) (H i.sg) [(0,D x.b ((A i.d).set 801 (Z b)) 171),(1,F)] ((x.s.size-i.i).toNat)))) (zW i x/\aK (48<=B x.s i.i) (zW i x/\aK (B x.s i.i<=57) (∃(g:fU),(zW i x/\Br (B x.s i.i==48) (T1 (uq x i) ⟨x.b,800,none⟩ (λc=>Br (c==0) (T1 (uq x i) ⟨x.b,801,none⟩ (λb=>aA (b-1)/\Oy x i/\aA (i.i+1)/\A7 x F (CG i) (H i.sd) (H true) [(0,D x.b ((A i.d).set 801 (Z (b-1))) 171),(1,F)] ((x.s.size-i.i).toNat))) (P9 x g F (Z i.i) (H i.sd) (H true) (pK x i F)))) (P9 x g F (Z i.i) (H i.sd) (H true) (pK x i F)))/\aQ λ(f:fU)_=>UY x f g->T1 (uq x f) ⟨x.b,800,none⟩ (λd=>aK (d<800) (true=true/\T1 (uq x f) ⟨x.b,800,none⟩ (λc=>zW f x/\(0<=c/\c<(↑(800:Nat):Int))/\(d6 ⟨x.b,0+c.toNat*1,none⟩ x.b/\0+c.toNat*1<(A f.d).length)/\T1 (D x.b ((A f.d).set (0+c.toNat*1) (u (B x.s f.i))) 171) ⟨x.b,800,none⟩ (λb=>aA (b+1)/\(V x.b 800/\800<((A f.d).set (0+c.toNat*1) (u (B x.s f.i))).length)/\aA (f.i+1)/\A7 x F (CG f) (H f.sd) (H f.sg) [(0,D x.b (((A f.d).set (0+c.toNat*1) (u (B x.s f.i))).set 800 (Z (b+1))) 171),(1,F)] ((x.s.size-i.i).toNat)))) (zW f x/\Br (B x.s f.i !=48) ((V x.b 803/\803<(A f.d).length)/\aA (f.i+1)/\A7 x F (CG f) (H f.sd) (H f.sg) [(0,D x.b ((A f.d).set 803 (H true)) 171),(1,F)] ((x.s.size-i.i).toNat)) (aA (f.i+1)/\A7 x F (CG f) (H f.sd) (H f.sg) (pK x f F) ((x.s.size-i.i).toNat))))) (NY x F i)) (NY x F i)))) (NY x F i))/\aQ λ(n:fU)_=>(At x.s n/\eM x.s=ta x.s n)->Br (!n.sg) (l yl x F cm (pK x n F)) (Br (!n.sd) (T1 (uq x n) ⟨x.b,800,none⟩ (λb=>Oy x n/\P_ x F (Z n.i) [(0,D x.b ((A n.d).set 801 (Z b)) 171),(1,F)])) (P_ x F (Z n.i) (pK x n F))/\aQ λ(m:eS)_=>(rG x.s m/\eM x.s=Ar x.s m.i m.d)->aK (m.i<x.s.size) (xT m x/\pj [u (B x.s m.i)] (λj i=>Br (eI j.c==101) (aA (m.i+1)/\aK (m.i+1>=(x.s.size:Int)) (Fo x F m) (((0<=m.i+1/\m.i+1<(x.s.size:Int))/\Br (B x.s (m.i+1)==43) (aA (m.i+1+(1:Int))/\JX x F (Z (m.i+1+(1:Int))) (Z 1) (kW x m F)) (Br (B x.s (m.i+1)==45) (aA (m.i+1+(1:Int))/\JX x F (Z (m.i+1+(1:Int))) mN (kW x m F)) (JX x F (Z (m.i+1)) (Z 1) (kW x m F))))/\aQ λ(h:eS)_=>V5 x h->aK (h.i>=x.s.size) (Fo x F h) (xT h x/\aK (B x.s h.i<48) (Fo x F h) (xT h x/\aK (B x.s h.i>57) (Fo x F h) (((∃(a:eS),MP x a/\(W (lu x)=W (lu x)/\C x.s=C x.s/\H false=H false/\Z h.i=Z a.i/\Z h.sg=Z a.sg/\Z 0=Z a.e/\True)/\ay (kW x h F) (kW x a F))/\aQ λ(f:eS)_=>MP x f->∃(d:eS),aK (f.i<x.s.size) (xT f x/\aK (48<=B x.s f.i) (xT f x/\aK (B x.s f.i<=57) (Qb x d F (Z f.i) (Z f.sg) (Z f.e) (kW x f F)) (TI f x d F)) (TI f x d F)) (Qc x F (Z f.i) (Z f.sg) (Z f.e) (kW x f F))/\aQ λ(c:eS)_=>VA x c d->xT c x/\Br (B x.s c.i==95) (Vc c x F f) (aK (c.e<10000) (aA (c.e*10)/\xT c x/\aA (B x.s c.i)/\aA (c.e*10+B x.s c.i)/\aA (c.e*10+B x.s c.i-48)/\aA (c.i+1)/\Qd x F (Z (c.i+1)) (Z c.sg) (Z (c.e*10+B x.s c.i-48)) (kW x c F) ((x.s.size-f.i).toNat)) (Vc c x F f)))/\aQ λ(d:eS)_=>UH x d->T1 (zP x d) ⟨x.b,801,none⟩ (λb=>aA (d.e*d.sg)/\aA (b+d.e*d.sg)/\(V x.b 801/\801<(A d.d).length)/\JY x F (Z d.i) [(0,D x.b ((A d.d).set 801 (Z (b+d.e*d.sg))) 171),(1,F)])))))) (JY x F (Z m.i) (kW x m F)))) (JY x F (Z m.i) (kW x m F))/\aQ λ(b:eS)_=>UG b x->Br (b.i !=x.s.size) (Fo x F b) (l yl x F gc (kW x b F)))):=by
 delta cM cm NF Vj lu pK JW Fg Nw zW MZ A7 CG T1 uq Oy UY P9 Xx NY U6 kW P_ xT pj Fo V5 JX mN MP VA MU Qb UH Qc TI Qd Vc zP UG JY gc V aA fv Z u C H W D aK al aQ;obtain⟨b,s,d⟩:=x;obtain⟨hs,hd⟩:=hc;dsimp only at hs hd⊢;subst hd;have x0:dZ.ds.length=800:=(Yz false false).len;have E:∀v:bn,ay [(0,.cells b (A v) 171),(1,F)] [(0,.cells b (A v) 171),(1,F)]:=λv=>ao [0,1];have no:∀o:bn,o.ds.length=800->eM s=none->l yl ⟨b,s,dZ⟩ F (returned (bool false)) [(0,.cells b (A o) 171),(1,F)]:=λo hD e=>
  ⟨o,⟨hD,λv(h:eM s=some v)=>by rw[e]at h;cases h⟩,by show _=returned (.bool (eM s).isSome);simp[*],E o⟩
 have hB:∀i,0<=B s i/\B s i<=255:=λi=>by{rw[gR];have:=ir s i.toNat;omega};have hI:0<=dd s/\dd s<=1:=by{unfold dd;grind};have y1:((A dZ).set 802 (.bool false)).set 803 (.bool false)=A ⟨dZ.ds,0,0,false,false⟩:=by{rfl};refine⟨⟨Y,by rw[j7 x0];decide⟩,⟨Y,by rw[List.length_set,j7 x0];decide⟩, ?_⟩;rw[y1];refine bd (λh0=>no _ x0 (by unfold eM;grind)) (λh0=>?_);have hp:0<s.size:=O;have hV:eM s=aa8 s:=by unfold eM;grind
 have x4:(⟨dZ.ds,0,0,false,false⟩:bn).ds.length=800:=x0;refine⟨⟨⟨cH _,O⟩,ar (λh=>⟨aC,⟨dd s,false,false,⟨dZ.ds,0,0,bO s,false⟩⟩,⟨hp,rfl⟩, ?_, ?_⟩) (λh=>ar (λL=>⟨aC,⟨Y,by rw[j7 x4];decide⟩,⟨dd s,false,false,⟨dZ.ds,0,0,bO s,false⟩⟩,⟨hp,rfl⟩, ?_, ?_⟩) (λL=>⟨⟨dd s,false,false,⟨dZ.ds,0,0,bO s,false⟩⟩,⟨hp,rfl⟩, ?_, ?_⟩))⟩, ?_⟩;have b:dd s=1:=by unfold dd;simp[*]
 simp[*];have a:bO s=false:=by unfold bO;simp[*]
 simp[*];have b:dd s=1:=by unfold dd;simp[*]
 simp[*];have a:bO s=true:=by unfold bO;simp[*]
 rw[a,an4 x4];simp[*];have b:dd s=0:=by unfold dd;simp[*]
 simp[*];have a:bO s=false:=by unfold bO;simp[*]
 simp[*];rintro _ js ⟨-,rfl⟩;dsimp only;have x9:eM s=(we s ((s.size:Int)-dd s).toNat ⟨dd s,false,false,⟨dZ.ds,0,0,bO s,false⟩⟩).bind (ta s):=hV;refine⟨⟨⟨⟨dd s,false,false,⟨dZ.ds,0,0,bO s,false⟩⟩,⟨⟨⟨hI.1,by grind⟩,Yz _ _,hI.1,by simp[*],hI.1⟩,x9⟩,(by simp[*]),E _⟩, ?_⟩, ?_⟩;rintro⟨i,N,w,o⟩ js ⟨⟨⟨t,I⟩,r,k3,J,K⟩,y⟩;dsimp only at t I r k3 J K y⊢;have z:=r.len;refine bd (λP=>?_) (λy4=>⟨⟨i,N,w,o⟩,⟨⟨⟨t,I⟩,r,k3,J,K⟩,by rw[y,show((s.size:Int)-i).toNat=0 by omega,we] <;> rfl⟩,(by simp[*]),E _⟩);obtain⟨k,U⟩:∃k,((s.size:Int)-i).toNat=k+1:=⟨((s.size:Int)-i).toNat-1,O⟩;rw[U]at y;have M: -9223372036854775808<=i+1/\i+1<=9223372036854775807:=aC;have nx:∀y0:fU,pP s ⟨i,N,w,o⟩=(0,y0)->y0.i=i+1->eM s=(we s ((s.size:Int)-y0.i).toNat y0).bind (ta s):=λy0 e1 e2=>by{rw[y,we,e1,show((s.size:Int)-y0.i).toNat=k by omega] <;> rfl};have stop:pP s ⟨i,N,w,o⟩=(1,⟨i,N,w,o⟩)->eM s=ta s ⟨i,N,w,o⟩:=λe1=>by rw[y,we,e1] <;> rfl
 refine⟨⟨t,P⟩,ar (λh1=>⟨M,⟨i+1,N,w,o⟩,⟨⟨⟨by grind,by grind⟩,r,by grind,by grind,by grind⟩,nx _ (by unfold pP;simp[*]) rfl⟩,(by simp[*]),E _,by grind⟩) (λh1=>⟨⟨t,P⟩,ar (λL=>ar (λR=>no o z (by rw[y,we,show pP s ⟨i,N,w,o⟩=(2,⟨i,N,w,o⟩) by unfold pP;simp[*]] <;> rfl)) (λR=>⟨o.nd,kQ z,⟨Y,by rw[j7 z];decide⟩,M,⟨i+1,true,w,o.m4 o.nd⟩,⟨⟨⟨by grind,by grind⟩,r.m4 _, ?_, ?_, ?_⟩,nx _ (by unfold pP;simp[*]) rfl⟩,(by simp[*]), ?_,by grind⟩)) (λL=>⟨⟨t,P⟩,bd (λq=>⟨⟨t,P⟩,bd (λq2=>?_) (λq2=>⟨⟨i,N,w,o⟩,⟨⟨⟨t,I⟩,r,k3,J,K⟩,stop ?_⟩,(by simp[*]),E _⟩)⟩) (λq=>⟨⟨i,N,w,o⟩,⟨⟨⟨t,I⟩,r,k3,J,K⟩,stop ?_⟩,(by simp[*]),E _⟩)⟩)⟩)⟩;show o.nd<=i+1;omega;show-(i+1)<=o.nd;have:=r.lo;omega;show o.nd<=i+1;omega;rw[CS z];exact E _;have hD:eP (B s i)=true:=by unfold eP;simp[*]
 have x7:At s ⟨i,N,true,o⟩:=⟨⟨t,I⟩,r,k3,J,K⟩;refine⟨⟨i,N,true,o⟩,⟨⟨t,P⟩,ar (λR=>⟨o.nd,kQ z,ar (λh4=>⟨o.dp,my z,aC,⟨Y,by rw[j7 z];decide⟩,M,⟨i+1,N,true,o.m4 (o.dp-1)⟩,⟨⟨⟨by grind,by grind⟩,r.m4 _, ?_, ?_, ?_⟩,nx _ (by unfold pP;simp[*]) rfl⟩,(by simp[*]), ?_,by grind⟩) (λh4=>⟨⟨i,N,true,o⟩,⟨⟨x7,P,rfl,by simp[*]⟩,rfl⟩,(by simp[*]),E _⟩)⟩) (λR=>⟨⟨i,N,true,o⟩,⟨⟨x7,P,rfl,by rw[R] <;> rfl⟩,rfl⟩,(by simp[*]),E _⟩)⟩, ?_⟩;show o.nd<=i+1;omega;show-(i+1)<=o.dp-1;omega;show o.dp-1<=i+1;omega;rw[CS z];exact E _;rintro d' y2 ⟨⟨-,-,-,hz⟩,he⟩;have he:d'=⟨i,N,true,o⟩:=he;subst he;dsimp only at hz⊢;have x5:o.nd=0->B s i≠48:=λh1 L=>by{grind};refine⟨o.nd,kQ z,bd (λq5=>⟨rfl,o.nd,kQ z,⟨t,P⟩,⟨r.lo,O⟩,⟨Y,by rw[j7 z];omega⟩, ?_⟩) (λq5=>⟨⟨t,P⟩,ar (λq6=>⟨⟨Y,by rw[j7 z];decide⟩,M,⟨i+1,N,true,o.Jm true⟩,⟨⟨⟨by grind,by grind⟩,r.Jm _, ?_, ?_, ?_⟩,nx _ (by unfold pP;simp[*]) rfl⟩,(by simp[*]), ?_,by grind⟩) (λq6=>⟨M,⟨i+1,N,true,o⟩,⟨⟨⟨by grind,by grind⟩,r,by grind,by grind,by grind⟩,nx _ (by unfold pP;simp[*]) rfl⟩,(by simp[*]),E _,by grind⟩)⟩)⟩;have x6:(A o).set (0+o.nd.toNat*1) (.int .u8 (B s i))=A ⟨o.ds.set o.nd.toNat (B s i),o.nd,o.dp,o.ng,o.tr⟩:=by{rw[show 0+o.nd.toNat*1=o.nd.toNat by omega,WA z O]};rw[x6];have x2:(⟨o.ds.set o.nd.toNat (B s i),o.nd,o.dp,o.ng,o.tr⟩:bn).ds.length=800:=by{simp[*]};refine⟨o.nd,kQ x2,⟨by have:=r.lo;omega,O⟩,⟨Y,by rw[j7 x2];decide⟩,M,⟨i+1,N,true,o.push (B s i)⟩,⟨⟨⟨by grind,by grind⟩,r.push q5 q q2 x5, ?_, ?_, ?_⟩,nx _ (by unfold pP;simp[*]) rfl⟩,(by simp[*]), ?_,by grind⟩;show o.nd+1<=i+1;omega;show-(i+1)<=o.dp;omega;show o.dp<=i+1;omega;rw[I5 x2];exact E _;show o.nd<=i+1;omega;show-(i+1)<=o.dp;omega;show o.dp<=i+1;omega;rw[OV z];exact E _;unfold pP;rw[h1,L,show eP (B s i)=false by unfold eP;simp[*]] <;> rfl;unfold pP;rw[h1,L,show eP (B s i)=false by unfold eP;simp[*]] <;> rfl;rintro⟨i,N,w,o⟩ js ⟨⟨⟨t,I⟩,r,k3,J,K⟩,y⟩;dsimp only at t I r k3 J K y⊢;have z:=r.len;refine ar (λh=>no o z (by rw[y];unfold ta;simp[*])) (λh=>⟨ar (λL=>⟨o.nd,kQ z,⟨Y,by rw[j7 z];decide⟩,⟨i,o.m4 o.nd,0,0,false⟩,⟨⟨⟨t,I⟩,r.m4 _, ?_, ?_⟩,by rw[y];unfold ta;simp[*]⟩,(by simp[*]), ?_⟩) (λL=>⟨⟨i,o,0,0,false⟩,⟨⟨⟨t,I⟩,r,by grind,by grind⟩,by rw[y];unfold ta;simp[*]⟩,(by simp[*]),E _⟩), ?_⟩);show-1000000000<=o.nd;have:=r.lo;omega;show o.nd<=1000000000;have:=r.hi;omega;rw[CS z];exact E _;clear y t I r k3 J K h z o i;rintro⟨i,o,_,_,_⟩ js ⟨⟨⟨t,I⟩,r,J,K⟩,y⟩;dsimp only at t I r J K y⊢;have z:=r.len;refine⟨bd (λh=>⟨⟨t,h⟩,sF,rfl,⟨_⟩,rfl,rfl,ai,ai,λ_ _=>ar (λL=>?_) (λL=>⟨⟨i,o,0,0,false⟩,⟨⟨⟨t,I⟩,r,by grind,by grind⟩, ?_⟩,(by simp[*]),E _⟩)⟩) (λh=>⟨⟨i,o,0,0,false⟩,⟨⟨⟨t,I⟩,r,by grind,by grind⟩, ?_⟩,(by simp[*]),E _⟩), ?_⟩
 ·have X:eM s=FO s (i+1) o:=by
   rw[y];unfold Ar;rw[bp h,show(eI (B s i)==101)=true from L] <;> rfl
  have n5:∀j w,i+1<=j->j<=(s.size:Int)->rG s ⟨j,o,w,0,false⟩:=λj w a c=>⟨⟨by grind,c⟩,r,J,K⟩;refine⟨aC,bd (λR=>no o z (by rw[X];unfold FO;simp[*])) (λR=>⟨⟨aC,ar (λh4=>⟨aC,⟨i+1+1,o,1,0,false⟩,⟨n5 _ _ O O,.inl rfl, ?_⟩,(by simp[*]),E _⟩) (λh4=>ar (λh5=>⟨aC,⟨i+1+1,o,-1,0,false⟩,⟨n5 _ _ O O,.inr rfl, ?_⟩,(by simp[*]),E _⟩) (λh5=>⟨⟨i+1,o,1,0,false⟩,⟨n5 _ _ O O,.inl rfl, ?_⟩,(by simp[*]),E _⟩))⟩, ?_⟩)⟩;rw[X];unfold FO;simp[*];rw[X];unfold FO;simp[*];rw[X];unfold FO;simp[*];clear n5 R X L h y t I r J K z o i;rintro⟨i,o,w,_,_⟩ js ⟨⟨⟨t,I⟩,r,J,K⟩,G,y⟩;dsimp only at t I r J K G y⊢;have z:=r.len;refine bd (λh=>no o z (by rw[y];unfold yj;simp[*])) (λh=>⟨⟨t,O⟩,bd (λL=>no o z (by rw[y];unfold yj;simp[*])) (λL=>⟨⟨t,O⟩,bd (λR=>no o z (by rw[y];unfold yj;simp[*])) (λR=>⟨⟨⟨⟨i,o,w,0,false⟩,⟨⟨⟨t,I⟩,r,J,K⟩,G,cH _,by simp[*],by rw[y];unfold yj;simp[*]⟩,(by simp[*]),E _⟩, ?_⟩, ?_⟩)⟩)⟩)
  ·clear h L R y t I r J K G z o i;rintro⟨i,o,w,e,Q⟩ js ⟨⟨⟨t,I⟩,r,J,K⟩,G,S,T,y⟩;dsimp only at t I r J K G S T y⊢;have ok:rG s ⟨i,o,w,e,Q⟩:=⟨⟨t,I⟩,r,J,K⟩;have out:k8 s ((s.size:Int)-i).toNat i e Q=(i,e,Q)->eM s=wc s i (o.m4 (o.dp+e*w)):=λx=>by
    rw[y];unfold FP;rw[x]
   have un:∀k,k8 s (k+1) i e Q=bif B s i==95 then k8 s k (i+1) e true else bif eP (B s i) then k8 s k (i+1) (bif decide (e<10000) then e*10+B s i-48 else e) Q else (i,e,Q):=λk=>rfl
   have x1:i<(s.size:Int)->(B s i==95)=false->eP (B s i)=false->eM s=wc s i (o.m4 (o.dp+e*w)):=λh h1 L=>out (by
    rw[show((s.size:Int)-i).toNat=(((s.size:Int)-i).toNat-1)+1 by omega,un,h1,L] <;> rfl)
   have nD:(¬(48<=B s i/\B s i<=57))->eP (B s i)=false:=λh=>by{unfold eP;grind};refine⟨⟨i,o,w,e,Q⟩,bd (λh=>⟨⟨t,h⟩,bd (λh1=>⟨⟨t,h⟩,bd (λL=>⟨⟨i,o,w,e,Q⟩,⟨⟨ok,h, ?_⟩,rfl⟩,(by simp[*]),E _⟩) (λL=>⟨⟨t,h⟩,ar (λR=>⟨⟨i,o,w,e,Q⟩,⟨⟨ok,h, ?_⟩,rfl⟩,(by simp[*]),E _⟩) (λR=>⟨⟨i,o,w,e,Q⟩,⟨ok,G,S,T,x1 h R (nD (λc=>L c.2))⟩,(by simp[*]),E _⟩)⟩)⟩) (λh1=>⟨⟨t,h⟩,ar (λR=>⟨⟨i,o,w,e,Q⟩,⟨⟨ok,h, ?_⟩,rfl⟩,(by simp[*]),E _⟩) (λR=>⟨⟨i,o,w,e,Q⟩,⟨ok,G,S,T,x1 h R (nD (λc=>h1 c.1))⟩,(by simp[*]),E _⟩)⟩)⟩) (λh=>⟨⟨i,o,w,e,Q⟩,⟨ok,G,S,T,out (by rw[show((s.size:Int)-i).toNat=0 by omega] <;> rfl)⟩,(by simp[*]),E _⟩), ?_⟩;show(B s i==95||eP (B s i))=true;unfold eP;simp[*];simp[*];simp[*];rintro d' y2 ⟨⟨-,h,hc⟩,he⟩;have he:d'=⟨i,o,w,e,Q⟩:=he;subst he;dsimp only at h hc⊢;obtain⟨k,U⟩:∃k,((s.size:Int)-i).toNat=k+1:=⟨((s.size:Int)-i).toNat-1,O⟩;have x8:((s.size:Int)-(i+1)).toNat=k:=O;have M: -9223372036854775808<=i+1/\i+1<=9223372036854775807:=aC;have hb:=hB i;have nx:∀e2 x3,k8 s (k+1) i e Q=k8 s k (i+1) e2 x3->eM s=FP s ((s.size:Int)-(i+1)).toNat (i+1) e2 x3 o w:=λe2 x3 x=>by{rw[y,U,x8];unfold FP;rw[x]};have hD:(B s i==95)=false->eP (B s i)=true:=λh1=>by grind
   refine⟨⟨t,h⟩,ar (λh1=>⟨M,⟨i+1,o,w,e,true⟩,⟨⟨⟨by grind,by grind⟩,r,J,K⟩,G,S,T,nx _ _ (by simp[*])⟩,(by simp[*]),E _,by simp[*]⟩) (λh1=>bd (λL=>⟨aC,⟨t,h⟩,aC,aC,aC,M,⟨i+1,o,w,e*10+B s i-48,Q⟩,⟨⟨⟨by grind,by grind⟩,r,J,K⟩,G, ?_, ?_,nx _ _ (by simp[*])⟩,(by simp[*]),E _,by simp[*]⟩) (λL=>⟨M,⟨i+1,o,w,e,Q⟩,⟨⟨⟨by grind,by grind⟩,r,J,K⟩,G,S,T,nx _ _ (by simp[*])⟩,(by simp[*]),E _,by simp[*]⟩))⟩
   all_goals grind
  clear h L R y t I r J K G z o i;rintro⟨i,o,w,e,Q⟩ js ⟨⟨⟨t,I⟩,r,J,K⟩,G,S,T,y⟩;dsimp only at t I r J K G S T y⊢;have z:=r.len;have y3: -100100<=e*w/\e*w<=100100:=by rcases G with rfl|rfl <;> omega
  refine⟨o.dp,my z,aC,aC,⟨Y,by rw[j7 z];decide⟩,⟨i,o.m4 (o.dp+e*w),0,0,false⟩,⟨⟨⟨t,I⟩,r.m4 _, ?_, ?_⟩,y⟩,(by simp[*]), ?_⟩;show-3000000000<=o.dp+e*w;omega;show o.dp+e*w<=3000000000;omega;rw[CS z];exact E _
 rw[y];unfold Ar;rw[bp h,show(eI (B s i)==101)=false from L] <;> rfl;rw[y];unfold Ar;simp[*];clear y t I r J K z o i;rintro⟨i,o,_,_,_⟩ js ⟨⟨⟨t,I⟩,r,J,K⟩,y⟩;dsimp only at t I r J K y⊢;refine ar (λh=>no o r.len (by rw[y];unfold wc;simp[*])) (λh=>?_);have e:eM s=some o:=by rw[y];unfold wc;simp[*]
 refine⟨o,⟨r.len,λv(y5:eM s=some v)=>?_⟩,by show _=returned (.bool (eM s).isSome);grind,E o⟩;grind
def an5:aG 226 yl:=fo 224 func226 (λ_ _=>[(19,4,iH 0),(22,8,iH 0),(23,3,iH 0),(24,3,iH 0),(25,4,iH 0),(26,3,iH 0),(31,4,iH 0),(32,8,aI mz),(49,3,iH 0)]) [(2,3,.w [LH.ex (0:Nat) jr.any]),(3,3,.w [LH.ex (0:Nat) jr.any]),(10,3,.w [LH.ex (0:Nat) jr.any]),(19,7,.w [LH.ex (0:Nat) jr.any]),(23,7,.w [LH.ex (0:Nat) jr.any]),(25,11,.w [LH.ex (0:Nat) jr.any]),(28,3,.w [LH.ex (0:Nat) jr.any]),(31,7,.w [LH.ex (0:Nat) jr.any]),(49,10,.w [LH.ex (0:Nat) jr.any]),(26,7,.w [LH.ex (0:Nat) jr.any])] an3 an2 gj [] an6
section
section
variable{s:ah}{hx:Bool}
theorem aqf{x y:dC}(h:nz s x)(d:x.i<s.size)(e:ou s hx x=some y):nz s y/\y.i=x.i+1:=by
 obtain⟨f,g,b,c,i,j,k,l,m,a⟩:=h;unfold ou at e;simp only[cond_eq_ite]at e
 repeat' split at e
 all_goals first|cases e|skip
 all_goals
  refine⟨⟨?_, ?_, ?_, ?_, ?_, ?_, ?_, ?_, ?_, ?_⟩,rfl⟩
  all_goals first
   |exact b
   |exact c
   |exact(gA _).1
   |exact(gA _).2
   | (dsimp only;omega)
theorem acc:∀(f:Nat)(x:dC),nz s x->(f:Int)=s.size-x.i->nz s (rP s hx f x)
 |0,x,h,_=>h
 |f+1,x,h,e=>by
  rw[rP];cases b:ou s hx x with
  |none=>exact h
  |some y=>
   obtain⟨a,c⟩:=aqf h O b;exact acc f y a O
theorem Po:∀(f:Nat)(i e:Int)(us:Bool),0<=i->(f:Int)=s.size-i->0<=e->e<=100100->(0<=(k8 s f i e us).1/\(k8 s f i e us).1<=s.size)/\0<=(k8 s f i e us).2.1/\(k8 s f i e us).2.1<=100100
 |0,i,e,us,d,g,a,b=>⟨⟨d,by show i<=_;omega⟩,a,b⟩
 |f+1,i,e,us,d,g,a,b=>by
  rw[k8];cases B s i==95 with
  |true=>exact Po f (i+1) e true O O a b
  |false=>
   rw[y];cases c:eP (B s i)with
   |true=>
    rw[aW];have h:48<=B s i/\B s i<=57:=by{unfold eP at c;by_cases q:48<=B s i;rw[bp q,aW]at c;exact⟨q,kK c⟩;rw[bF q]at c;cases c};by_cases q:e<10000;rw[bp q,aW];exact Po f (i+1) _ us O O O O;rw[bF q,y];exact Po f (i+1) e us O O a b
   |false=>exact⟨⟨d,by show i<=_;omega⟩,a,b⟩
structure RB(s:ah)(r:r9):Prop where
 m0:0<=r.m
 m1:r.m<=18446744073709551615
 e0: -10000000000<=r.e
 e1:r.e<=10000000000
 i0:0<=r.i
 i1:r.i<=s.size
variable{ng tr us:Bool}{m i dp nm:Int}
theorem IX(a:0<=m)(b:m<=18446744073709551615)(c:0<=i)(d:i<=s.size):RB s (Dh ng hx m tr i):=⟨a,b,by show _<=(0:Int);omega,by show(0:Int)<=_;omega,c,d⟩
theorem aaM(e:0<=m)(f:m<=18446744073709551615)(g:0<=i)(h:i<=s.size)(a: -5000000000<=dp)(b:dp<=5000000000)(c:0<=nm)(d:nm<=5000000000):RB s (qw s ng hx m tr us i dp nm):=by
 refine⟨e,f, ?_, ?_,g,h⟩
 all_goals
  unfold qw;dsimp only;cases m !=0;rw[y];omega;rw[aW];omega
theorem Wg{sg:Int}(e:0<=m)(f:m<=18446744073709551615)(g:0<=i)(h:i<=s.size)(a: -4000000000<=dp)(b:dp<=4000000000)(c:0<=nm)(d:nm<=5000000000)(j:sg=1\/sg= -1):RB s (uQ s ng hx m tr us i dp nm sg):=by
 unfold uQ;generalize (bif (bif decide (i>=s.size) then true else decide (B s i<48)) then true else decide (B s i>57))=q;cases q with
 |true=>exact IX e f g h
 |false=>
  rw[y];obtain⟨⟨x1,x2⟩,x3,x4⟩:=Po (s:=s) ((s.size:Int)-i).toNat i 0 us g O O O;generalize k8 s ((s.size:Int)-i).toNat i 0 us=z at*;obtain⟨k,l,n⟩:=z;dsimp only at x1 x2 x3 x4⊢;refine aaM e f x1 x2 ?_ ?_ c d
  all_goals grind
theorem aaL(e:0<=m)(f:m<=18446744073709551615)(g:0<=i)(h:i<=s.size)(a: -4000000000<=dp)(b:dp<=4000000000)(c:0<=nm)(d:nm<=5000000000):RB s (wz s ng hx m tr us i dp nm):=by
 unfold wz;cases hp:rO s hx i with
 |false=>
  rw[y];cases fl hx==16;exact aaM e f g h O O c d;exact IX e f g h
 |true=>
  rw[aW];have j:i<s.size:=by{unfold rO at hp;grind};unfold Dg;by_cases q:i+1>=s.size;rw[bp q];exact IX e f O O;rw[bF q,y];cases B s (i+1)==43;rw[y];cases B s (i+1)==45;exact Wg e f O O a b c d (.inl rfl);exact Wg e f O O a b c d (.inr rfl);exact Wg e f O O a b c d (.inl rfl)
theorem aaK(e:0<=m)(f:m<=18446744073709551615)(g:0<=i)(h:i<=s.size)(a: -1000000000<=dp)(b:dp<=1000000000)(c:0<=nm)(d:nm<=1000000000):RB s (AP s ng hx m tr us i dp nm):=by
 unfold AP;cases fl hx==16;exact aaL e f g h O O c O;exact aaL e f g h O O O O
theorem anb{x:dC}(h:nz s x)(hs:s.size<=1000000000):RB s (qv s ng hx x):=by
 obtain⟨a,b,c,d,g,i,j,k,e,f⟩:=h;unfold qv;cases !x.sg;rw[y];cases !x.sd;exact aaK c d a b O O e O;exact aaK c d a b O O e O;exact IX c d a b
theorem aqg(hs:s.size<=1000000000):RB s (fC s):=by
 have d:0<=dd s/\dd s<=1:=by{unfold dd;grind};unfold fC;by_cases b:0>=(s.size:Int);rw[bp b];exact IX O O O O;rw[bF b,y];have a:0<=ny s/\ny s<=s.size:=by
  unfold ny;cases c:w s with
  |true=>
   unfold w at c;grind
  |false=>rw[y];omega
 exact anb (acc _ _ ⟨a.1,a.2,by simp[*],by simp[*],by simp[*],a.1,by simp[*],a.1,by simp[*],a.1⟩ (by grind)) hs
end
def aqt(s:ah):0<=(el s).2.1:=by
 have d:∀t b a,0<=a->0<=(tC t b a).2.1:=λt b a h=>by{unfold tC;grind};have c:(0:Int)<=((0,0,false):Nat×Int×Bool).2.1:=cH 0;unfold el;cases (s.size:Int)==0 with
 |true=>exact c
 |false=>
  grind
end
def gD.view{P:Program}{f:FuncId}{C D:aF}(h:gD P f C)(g:D.X->C.X)(l:∀x,C.args (g x)=D.args x)(hp:∀x,C.pre (g x)=D.pre x)(m:∀x,D.cond x->C.cond (g x))(o:∀x F,D.cond x->D.aE x F->C.aE (g x) F)
  (q:∀x y,D.cond x->C.bS (g x) y->∃z,D.bS x z/\C.val (g x) y=D.val x z/\C.post (g x) y=D.post x z):gD P f D:=⟨λx F I w a b p=>by
 have:=h.h (g x) F I w (m x a) (o x F a b) (by rw[hp];exact p);rw[l]at this;refine Calls.mono this (λe u n=>?_);obtain⟨y,J,c,d,i,j,k⟩:=n;obtain⟨z,r,s,t⟩:=q x y a c;exact⟨z,J,r,d.trans s,i,by rw[<-t];exact j,k⟩⟩
structure ZpR where
 v:Nat
 n:Nat
 b:Bool
abbrev W2:aF where
 X:=bN
 Y:=ZpR
 args x:=[C x.s]
 cond x:=x.s.size<=1000000000
 bS x y:=el x.s=(y.v,(y.n:Int),y.b)
 val _ y:=.returned (.tuple #[.float .f64 y.v,.int .i64 y.n,.bool y.b])
def aqr:aG 219 W2:=aqu.view (λx=>x) (λ_=>rfl) (λ_=>rfl) (λ_ h=>h) (λ_ _ _ h=>h) (λx _ _ _=>by
 have h:=aqt x.s;have e:(((el x.s).2.1.toNat:Nat):Int)=(el x.s).2.1:=by omega
 refine⟨⟨(el x.s).1,(el x.s).2.1.toNat,(el x.s).2.2⟩, ?_, ?_,rfl⟩;show el x.s=((el x.s).1,(((el x.s).2.1.toNat:Nat):Int),(el x.s).2.2);rw[e];show _=returned (.tuple #[.float .f64 (el x.s).1,.int .i64 ((el x.s).2.1.toNat:Nat),.bool (el x.s).2.2]);rw[e] <;> rfl)
structure r8 where
 m:Nat
 e:Int
 n:Bool
 t:Bool
 h:Bool
 i:Nat
 o:Bool
abbrev W1:aF where
 X:=bN
 Y:=r8
 args x:=[C x.s]
 cond x:=x.s.size<=1000000000
 bS x y:=fC x.s=⟨(y.m:Int),y.e,y.n,y.t,y.h,(y.i:Int),y.o⟩/\y.m<18446744073709551616/\ -10000000000<=y.e/\y.e<=10000000000/\y.i<=x.s.size
 val _ y:=.returned (.tuple #[.int .u64 y.m,.int .i64 y.e,.bool y.n,.bool y.t,.bool y.h,.int .i64 y.i,.bool y.o])
def aqh:aG 220 W1:=aqm.view (λx=>x) (λ_=>rfl) (λ_=>rfl) (λ_ h=>h) (λ_ _ _ h=>h) (λx _ q _=>by
 have d:=aqg (s:=x.s) q;have p:∃r,fC x.s=r:=⟨_,rfl⟩;obtain⟨⟨m,e,n,t,h,i,o⟩,a⟩:=p;rw[a]at d;obtain⟨f,g,b,c,j,l⟩:=d;dsimp only at f g b c j l;obtain⟨m,rfl⟩:∃k:Nat,m=(k:Int):=⟨m.toNat,O⟩;obtain⟨i,rfl⟩:∃k:Nat,i=(k:Int):=⟨i.toNat,O⟩;refine⟨⟨m,e,n,t,h,i,o⟩,⟨a,bX,b,c,bX⟩, ?_,rfl⟩;show returned (Pn (fC x.s))=_;rw[a] <;> rfl)
abbrev WY:aF where
 X:=hY
 Y:=Nat ⊕ Nat
 args x:=[C x.s,W eg,T x.m,Z x.e,H x.ng,H x.tr]
 cond x:=0<=x.m/\x.m<=18446744073709551615/\ -10000000000<=x.e/\x.e<=10000000000
 aE x F:=io x.tb x.lc F
 bS x y:=match y with
  | .inl v=>(du x).1=v/\((du x).2==0)=true
  | .inr v=>(du x).1=v/\((du x).2==0)=false
 val _ y:=match y with
  | .inl v=>.returned (.tuple #[.float .f64 v,.nilIface])
  | .inr v=>.returned (.tuple #[.float .f64 v,.iface 135 (.int .i64 1)])
 sum:=some (iL Nat Nat)
def ap6:aG 221 WY:=aqa.view (λx=>x) (λ_=>rfl) (λ_=>rfl) (λ_ h=>h) (λ_ _ _ h=>h) (λx _ _ _=>by
 cases h:(du x).2==0 with
 |true=>exact⟨.inl (du x).1,⟨rfl,h⟩,by show returned (.tuple #[.float .f64 (du x).1,yx (du x).2])=_;unfold yx;rw[h] <;> rfl,rfl⟩
 |false=>exact⟨.inr (du x).1,⟨rfl,h⟩,by show returned (.tuple #[.float .f64 (du x).1,yx (du x).2])=_;unfold yx;rw[h] <;> rfl,rfl⟩)
abbrev K9:aF where
 X:=lf
 Y:=Nat ⊕ Nat
 args x:=[T x.m,Z x.e,T x.g]
 cond x:=x.m<18446744073709551616/\ -348<=x.e/\x.e<348/\x.g<18446744073709551616/\∀i,x.tb i<18446744073709551616
 aE x F:=∀i,i<1392->aH F ⟨11,i,none⟩ (.int .u64 (x.tb i))
 bS x y:=match y with
  | .inl v=>gT x=(v,0)
  | .inr v=>gT x=(v,1)
 val _ y:=match y with
  | .inl v=>.returned (.tuple #[.float .f64 v,.nilIface])
  | .inr v=>.returned (.tuple #[.float .f64 v,.iface 135 (.int .i64 1)])
 eL _ _ _ b h:=λi a=>(h i a).sub b
 sum:=some (iL Nat Nat)
def RS:aG 230 K9:=ag_.view (λx=>x) (λ_=>rfl) (λ_=>rfl) (λ_ h=>h) (λ_ _ _ h=>h) (λx y _ h=>by
 cases y with
 |inl u=>exact⟨.inl (gT x).1,Prod.ext rfl h,rfl,rfl⟩
 |inr u=>exact⟨.inr (gT x).1,Prod.ext rfl h,rfl,rfl⟩)
structure AeR where
 v:Nat
 b:Bool
abbrev Rp:aF where
 X:=pS
 Y:=AeR
 args x:=[T x.m,Z x.e,H x.n]
 cond x:= -100000<=x.e/\x.e<=100000
 aE x F:=io x.tb x.lc F
 bS x y:=mU x=(y.v,y.b)
 val _ y:=.returned (.tuple #[.float .f64 y.v,.bool y.b])
def aeN:aG 229 Rp:=aeQ.view (λx=>x) (λ_=>rfl) (λ_=>rfl) (λ_ h=>h) (λ_ _ _ h=>h) (λx _ _ _=>⟨⟨(mU x).1,(mU x).2⟩,rfl,rfl,rfl⟩)
structure StR where
 d:bn
 ok:Bool
abbrev Wy:aF where
 X:=eC
 Y:=StR
 args x:=[W (lu x),C x.s]
 pre x:=[D x.b (A x.d) 171]
 cond x:=x.s.size<=1000000000/\x.d=dZ
 bS x y:=y.d.ds.length=800/\y.ok=(eM x.s).isSome/\∀v,eM x.s=some v->y.d=v/\v.je/\ -3000000000<=v.dp/\v.dp<=3000000000
 val _ y:=al (H y.ok)
 post x y:=[D x.b (A y.d) 171]
 eL _ _ _ _ h:=h
def an1:aG 226 Wy:=an5.view (λx=>x) (λ_=>rfl) (λ_=>rfl) (λ_ h=>h) (λ_ _ _ h=>h) (λx y _ h=>⟨⟨y,(eM x.s).isSome⟩,⟨h.1,rfl,h.2⟩,rfl,rfl⟩)
structure FbR where
 d:bn
 v:Int
 o:Bool
abbrev RV:aF where
 X:=fR
 Y:=FbR
 args x:=[W (jP x),W eg]
 pre x:=[Fa x]
 cond x:=(x.d.ds.length=800/\(x.d.nd=0\/x.d.norm))/\rU x.lc/\ -3000000000<=x.d.dp/\x.d.dp<=3000000000
 aE x F:=io x.tb x.lc F
 bS x y:=dT x.lc x.d=(y.v,y.o)
 val _ y:=.returned (.tuple #[.int .u64 y.v,.bool y.o])
 post x y:=[D x.b (A y.d) 171]
def ahk:aG 227 RV:=ahp.view (λx=>x) (λ_=>rfl) (λ_=>rfl) (λ_ h=>h) (λ_ _ _ h=>h) (λx y _ h=>⟨⟨y,(dT x.lc x.d).1,(dT x.lc x.d).2⟩,rfl,rfl,rfl⟩)
end Go.Proofs.YthhiffpfleacaaaGreatDoor
