/- Part of the proof that ParseParens answers true at every input. -/
import Derived.Test.YtdkchodgklpomaaGreatDoorPPag
set_option linter.all false
namespace Go.Proofs.YtdkchodgklpomaaGreatDoor
set_option maxRecDepth 100000
open Go.Value (int slice string bool pointer agg tuple func float iface nilIface)
open Go.IntKind (i64 u8 u64 i32 u32 u16 i8 i16)
open Go.FloatKind (f64)
open Go.Ending (returned panicked)
section
open Go
def c8(g:Nat->Nat):Nat->Nat
 |0=>0
 |n+1=>c8 g n*10+g n
theorem M9{g:Nat->Nat}:∀n,(∀i,i<n->g i<=9)->c8 g n<10^n
 |0,_=>by rw[c8];decide
 |n+1,h=>by
  have:=M9 n (fun i hi=>h i ae);have a:=h n (io n);rw[c8,Nat.pow_succ];omega
theorem GV{g:Nat->Nat}:∀n,1<=g 0->1<=n->10^(n-1)<=c8 g n
 |0,_,h=>ae
 |1,a,_=>by show 1<=0*10+g 0;omega
 |n+2,a,_=>by
  have:=GV (n+1) a ae;rw[c8,show n+2-1=n+1 by omega,Nat.pow_succ];rw[show n+1-1=n by omega]at this;omega
theorem AT{g:Nat->Nat}(m:Nat):∀k,(∀i,i<m+k->g i<=9)->c8 g m*10^k<=c8 g (m+k)/\c8 g (m+k)<(c8 g m+1)*10^k
 |0,_=>aL
 |k+1,h=>by
  obtain⟨a,b⟩:=AT m k (fun i hi=>h i ae);have c:=h (m+k) ae;rw[show m+(k+1)=m+k+1 by omega,c8,Nat.pow_succ,<-Nat.mul_assoc,<-Nat.mul_assoc];omega
theorem GU{g h:Nat->Nat}:∀n,(∀i,i<n->g i=h i)->c8 g n=c8 h n
 |0,_=>rfl
 |n+1,e=>by rw[c8,c8,GU n (fun i hi=>e i ae),e n (io n)]
theorem TU{g:Nat->Nat}:∀n r,(∀i,i<n->g i<=9)->r<n->c8 g n/10^(n-1-r)%10=g r
 |0,r,_,h=>ae
 |n+1,r,h,b=>by
  have a:=h n (io n);by_cases e:r=n
  ·subst e;rw[show r+1-1-r=0 by omega,Nat.pow_zero,Nat.div_one,c8];omega
  ·have:=TU n r (fun i hi=>h i ae) ae;rw[show n+1-1-r=(n-1-r)+1 by omega,Nat.pow_succ,Nat.mul_comm,<-Nat.div_div_eq_div_mul,c8,show(c8 g n*10+g n)/10=c8 g n by omega];exact this
def dE(d:bq)(i:Nat):Nat:=(d.at_ i-48).toNat
def jh(s:ByteArray)(i:Nat):Nat:=(aF s i-48).toNat
structure bq.norm(d:bq):Prop where
 len:d.ds.length=800
 pos:1<=d.nd
 max:d.nd<=800
 gP:∀i:Nat,(i:Int)<d.nd->48<=d.at_ i/\d.at_ i<=57
 fst:d.at_ 0≠48
variable{s:ByteArray}{d:bq}
theorem bq.norm.ok(h:d.norm):d.ok:=⟨h.len,by have:=h.pos;omega,h.max⟩
def bq.num(d:bq):Nat:=c8 (dE d) d.nd.toNat
theorem bq.norm.g9(h:d.norm):∀i,i<d.nd.toNat->dE d i<=9:=fun i hi=>by
 have:=h.gP i ae;unfold dE;omega
theorem bq.norm.lt(h:d.norm):d.num<10^d.nd.toNat:=M9 _ h.g9
theorem bq.norm.ge(h:d.norm):10^(d.nd.toNat-1)<=d.num:=GV _ (by
 have:=h.gP 0 (by have:=h.pos;omega);have:=h.fst;unfold dE;omega) (by have:=h.pos;omega)
structure FJ(s:ByteArray):Prop where
 gP:∀i:Nat,i<s.size->48<=aF s i/\aF s i<=57
 pos:1<=s.size
 ae7:aF s ((s.size-1:Nat):Int)≠48
def sD(s:ByteArray):Nat:=c8 (jh s) s.size
theorem FJ.g9(h:FJ s):∀i,i<s.size->jh s i<=9:=fun i hi=>by
 have:=h.gP i hi;unfold jh;omega
theorem qj(n:Nat):0<10^n:=Nat.pow_pos (by decide)
theorem ahy(hd:d.norm)(hs:FJ s):∀(f i:Nat),f+i=s.size->i<=d.nd.toNat->(∀j,j<i->dE d j=jh s j)->
  (rJ d s f i=true->d.num*10^s.size<sD s*10^d.nd.toNat)/\(rJ d s f i=false->sD s*10^d.nd.toNat<=d.num*10^s.size):=by
 intro f
 induction f with
 |zero=>
  intro i y hi l;have p:i=s.size:=ae;subst p;refine⟨fun h=>(by rw[rJ]at h;cases h),fun _=>?_⟩;have m:=AT (g:=dE d) s.size (d.nd.toNat-s.size) (fun j o=>hd.g9 j ae);rw[show s.size+(d.nd.toNat-s.size)=d.nd.toNat by omega,GU _ l]at m;have n:=Nat.mul_le_mul_right (10^s.size) m.1;rw[Nat.mul_assoc,<-Nat.pow_add,show d.nd.toNat-s.size+s.size=d.nd.toNat by omega]at n;exact n
 |succ f z=>
  intro i y hi l;rw[rJ];by_cases hn:(i:Int)>=d.nd
  ·rw[bv hn];refine⟨fun _=>?_,fun h=>(by cases h)⟩;have q:i=d.nd.toNat:=ae;subst q;have w:d.num=c8 (jh s) d.nd.toNat:=GU _ l;have m:=AT (g:=jh s) d.nd.toNat (s.size-1-d.nd.toNat) (fun j o=>hs.g9 j ae);rw[show d.nd.toNat+(s.size-1-d.nd.toNat)=s.size-1 by omega]at m;have n:sD s=c8 (jh s) (s.size-1)*10+jh s (s.size-1):=by
    unfold sD
    conv=>lhs;rw[show s.size=(s.size-1)+1 by omega,c8]
   have A:1<=jh s (s.size-1):=by
    have a:=hs.gP (s.size-1) ae;have b:=hs.ae7;unfold jh;omega
   have x:d.num*10^(s.size-d.nd.toNat)<sD s:=by
    rw[w,n,show s.size-d.nd.toNat=(s.size-1-d.nd.toNat)+1 by omega,Nat.pow_succ,<-Nat.mul_assoc];omega
   have r:=Nat.mul_lt_mul_of_pos_right x (qj d.nd.toNat);rw[Nat.mul_assoc,<-Nat.pow_add,show s.size-d.nd.toNat+d.nd.toNat=s.size by omega]at r;exact r
  ·rw[bF hn,aM];have a1:=hd.gP i ae;have a2:=hs.gP i ae;rw[cw];cases k:d.at_ i !=aF s (i:Int)with
   |false=>
    rw[aM];have k:d.at_ i=aF s (i:Int):=by simpa using k
    have:=z (i+1) ae ae (fun j o=>by
     by_cases e:j=i
     ·subst e;unfold dE jh;rw[k]
     ·exact l j ae)
    rw[show((i:Int)+1)=((i+1:Nat):Int) by omega];exact this
   |true=>
    rw[aU];have k:d.at_ i≠aF s (i:Int):=by simpa using k
    have e0:=GU i l;have t:c8 (dE d) (i+1)=c8 (jh s) i*10+dE d i:=by rw[c8,e0]
    have u:c8 (jh s) (i+1)=c8 (jh s) i*10+jh s i:=by rw[c8]
    have q1:=AT (g:=dE d) (i+1) (d.nd.toNat-(i+1)) (fun j o=>hd.g9 j ae);have q2:=AT (g:=jh s) (i+1) (s.size-(i+1)) (fun j o=>hs.g9 j ae);rw[show i+1+(d.nd.toNat-(i+1))=d.nd.toNat by omega]at q1;rw[show i+1+(s.size-(i+1))=s.size by omega]at q2;have v:10^(d.nd.toNat-(i+1))*10^s.size=10^(s.size-(i+1))*10^d.nd.toNat:=by
     rw[<-Nat.pow_add,<-Nat.pow_add];congr 1;omega
    refine⟨fun h=>?_,fun h=>?_⟩
    ·have h:=j7 h;have c:c8 (dE d) (i+1)+1<=c8 (jh s) (i+1):=by rw[t,u];unfold dE jh;omega
     calc d.num*10^s.size<(c8 (dE d) (i+1)+1)*10^(d.nd.toNat-(i+1))*10^s.size:=Nat.mul_lt_mul_of_pos_right q1.2 (qj _)
      _<=c8 (jh s) (i+1)*10^(d.nd.toNat-(i+1))*10^s.size:=Nat.mul_le_mul_right _ (Nat.mul_le_mul_right _ c)
      _=c8 (jh s) (i+1)*10^(s.size-(i+1))*10^d.nd.toNat:=by rw[Nat.mul_assoc,v,<-Nat.mul_assoc]
      _<=sD s*10^d.nd.toNat:=Nat.mul_le_mul_right _ q2.1
    ·have h:=Ns h;have c:c8 (jh s) (i+1)+1<=c8 (dE d) (i+1):=by rw[t,u];unfold dE jh;omega
     calc sD s*10^d.nd.toNat<=(c8 (jh s) (i+1)+1)*10^(s.size-(i+1))*10^d.nd.toNat:=Nat.mul_le_mul_right _ (Nat.le_of_lt q2.2)
      _<=c8 (dE d) (i+1)*10^(s.size-(i+1))*10^d.nd.toNat:=Nat.mul_le_mul_right _ (Nat.mul_le_mul_right _ c)
      _=c8 (dE d) (i+1)*10^(d.nd.toNat-(i+1))*10^s.size:=by rw[Nat.mul_assoc,<-v,<-Nat.mul_assoc]
      _<=d.num*10^s.size:=Nat.mul_le_mul_right _ q1.1
structure Ad(k:Nat)(c:Nat×ByteArray):Prop where
 gP:FJ c.2
 num:sD c.2=5^k
 Dz:c.1+c.2.size=k+1
 ye:10^(c.2.size-1)<=5^k
 one:1<=c.1
def lG(d:bq)(c:Nat×ByteArray):Nat:=bif rK d c.2 then c.1-1 else c.1
theorem Vl(hd:d.norm){k:Nat}{c:Nat×ByteArray}(f:Ad k c):10^(d.nd.toNat+lG d c-1)<=d.num*2^k/\d.num*2^k<10^(d.nd.toNat+lG d c):=by
 have hp:=ahy hd f.gP c.2.size 0 ae (df _) (fun j r=>ae);have p:1<=d.nd.toNat:=by have:=hd.pos;omega
 have b:sD c.2<10^c.2.size:=M9 _ f.gP.g9;have q:=f.one;have m:=f.Dz;have o:=f.gP.pos;rw[f.num]at hp b;have a:2^k*5^k=10^k:=by rw[<-Nat.mul_pow]
 have lo:10^(c.1-1)<=2^k:=by
  have e:10^(c.1-1)*10^c.2.size=2^k*5^k:=by rw[a,<-Nat.pow_add];congr 1;omega
  have:10^(c.1-1)*10^c.2.size<=2^k*10^c.2.size:=by rw[e];exact Nat.mul_le_mul_left _ (Nat.le_of_lt b)
  exact Nat.le_of_mul_le_mul_right this (qj _)
 have hi:2^k<=10^c.1:=by
  have e:10^c.1*10^(c.2.size-1)=2^k*5^k:=by rw[a,<-Nat.pow_add];congr 1;omega
  have:2^k*10^(c.2.size-1)<=10^c.1*10^(c.2.size-1):=by rw[e];exact Nat.mul_le_mul_left _ f.ye
  exact Nat.le_of_mul_le_mul_right this (qj _)
 unfold lG;cases l:rK d c.2 with
 |true=>
  rw[aU];have i:=hp.1 l;constructor
  ·calc 10^(d.nd.toNat+(c.1-1)-1)=10^(d.nd.toNat-1)*10^(c.1-1):=by rw[<-Nat.pow_add];congr 1;omega
    _<=d.num*2^k:=Nat.mul_le_mul hd.ge lo
  ·have g:=Nat.mul_lt_mul_of_pos_right i (Nat.pow_pos (n:=k) (show 0<2 by decide));have e1:d.num*10^c.2.size*2^k=d.num*2^k*10^c.2.size:=by rw[Nat.mul_right_comm]
   have h:5^k*10^d.nd.toNat*2^k=10^(d.nd.toNat+(c.1-1))*10^c.2.size:=by
    rw[Nat.mul_right_comm,Nat.mul_comm (5^k),a,<-Nat.pow_add,<-Nat.pow_add];congr 1;omega
   rw[e1,h]at g;exact Nat.lt_of_mul_lt_mul_right g
 |false=>
  rw[aM];have i:=hp.2 l;constructor
  ·have g:=Nat.mul_le_mul_right (2^k) i;have e1:d.num*10^c.2.size*2^k=d.num*2^k*10^c.2.size:=by rw[Nat.mul_right_comm]
   have h:5^k*10^d.nd.toNat*2^k=10^(d.nd.toNat+c.1-1)*10^c.2.size:=by
    rw[Nat.mul_right_comm,Nat.mul_comm (5^k),a,<-Nat.pow_add,<-Nat.pow_add];congr 1;omega
   rw[e1,h]at g;exact Nat.le_of_mul_le_mul_right g (qj _)
  ·calc d.num*2^k<10^d.nd.toNat*2^k:=Nat.mul_lt_mul_of_pos_right hd.lt (Nat.pow_pos (by decide))
    _<=10^d.nd.toNat*10^c.1:=Nat.mul_le_mul_left _ hi
    _=10^(d.nd.toNat+c.1):=(Nat.pow_add _ _ _).symm
end
section
open Go
def eB(f:Nat->Int):List Int:=(List.range 800).map f
def i7(d:bq)(M N w j:Nat):Int:=bif decide (w<=j)&&decide (j<N) then 48+(M/10^(N-1-j)%10:Nat) else d.at_ j
def jN(d:bq)(M N w:Nat):Bool:=d.tr||(M%10^(N-max w 800)!=0)
def gG(d:bq)(M N w:Nat):bq:=⟨eB (i7 d M N w),d.nd,d.dp,d.ng,jN d M N w⟩
def gV(d:bq)(c:Nat×ByteArray):Nat:=d.nd.toNat+lG d c
def oy(d:bq)(k:Nat)(c:Nat×ByteArray):bq:=kl ⟨eB (i7 d (d.num*2^k) (gV d c) 0),(min (gV d c) 800:Nat),d.dp+(lG d c:Nat),d.ng,jN d (d.num*2^k) (gV d c) 0⟩
theorem sX(f:Nat->Int):(eB f).length=800:=by unfold eB;simp
variable{i t:Nat}{f:Nat->Int}
theorem N8(h:i<800):(eB f).getD i 0=f i:=by
 unfold eB;rw[fg,fP,List.getElem?_range h];rfl
theorem Bn{g:Nat->Int}(h:∀i,i<800->f i=g i):eB f=eB g:=by
 unfold eB;exact List.map_congr_left fun i hi=>h i (List.mem_range.1 hi)
theorem VV(v:Int):(eB f).set i v=eB (fun j=>if j=i then v else f j):=by
 apply List.ext_getElem?;intro j;unfold eB;by_cases a:j<800
 ·rw[fP,List.getElem?_range a,List.getElem?_set,fP,List.getElem?_range a];by_cases e:i=j
  ·subst e;simp[a]
  ·simp[e,Ne.symm e]
 ·rw[ot (by simp;omega),ot (by simp;omega)]
theorem VU{l:List Int}(h:l.length=800):l=eB (fun i=>l.getD i 0):=by
 apply List.ext_getElem?;intro j;unfold eB;by_cases a:j<800
 ·rw[fP,List.getElem?_range a];show l[j]?=some (l.getD j 0);rw[fg,gy ae];rfl
 ·rw[ot ae,ot (by simp;omega)]
section
variable{d:bq}{M N w:Nat}
theorem Vj(b:1<=w)(a:w<=N)(j:Nat):i7 d M N (w-1) j=if j=w-1 then 48+((M/10^(N-w)%10:Nat):Int) else i7 d M N w j:=by
 unfold i7;grind
theorem afK(h:w<=800):jN d M N (w-1)=jN d M N w:=by
 unfold jN;grind
theorem afJ(b:800<w)(a:w<=N):jN d M N (w-1)=(jN d M N w||(M/10^(N-w)%10 !=0)):=by
 unfold jN;rw[show max (w-1) 800=w-1 by omega,show max w 800=w by omega,show N-(w-1)=N-w+1 by omega,Nat.mod_pow_succ,Bool.or_assoc];congr 1;rw[Bool.eq_iff_iff];simp only[bne_iff_ne,Bool.or_eq_true];have hp:=qj (N-w);constructor
 ·grind
 ·rintro(h|h) e
  ·omega
  ·have:0<M/10^(N-w)%10:=Nat.pos_of_ne_zero h;have:=Nat.mul_pos hp this;omega
theorem sU:(gG d M N w).ds.length=800:=by unfold gG;dsimp only;rw[sX]
theorem Vk(c:1<=w)(b:w<=N)(a:w<=800):(a7 (gG d M N w)).set (w-1) (.int .u8 (48+(M/10^(N-w)%10:Nat)))=a7 (gG d M N (w-1)):=by
 rw[R3 sU ae];unfold gG;dsimp only;rw[VV,afK a];exact congrArg (fun l=>a7 ⟨l,d.nd,d.dp,d.ng,jN d M N w⟩) (Bn fun i _=>(Vj c b i).symm)
theorem Hq(b:800<w)(a:w<=N):gG d M N (w-1)=⟨eB (i7 d M N w),d.nd,d.dp,d.ng,jN d M N w||(M/10^(N-w)%10 !=0)⟩:=by
 unfold gG;rw[afJ b a,show eB (i7 d M N (w-1))=eB (i7 d M N w)from Bn fun i hi=>by rw[Vj ae a,if_neg ae]]
theorem afI(hl:d.ds.length=800):gG d M N N=d:=by
 unfold gG;have a:jN d M N N=d.tr:=by
  unfold jN;rw[show N-max N 800=0 by omega,Nat.pow_zero,Nat.mod_one];cases d.tr <;> rfl
 have b:eB (i7 d M N N)=d.ds:=by
  rw[VU hl];refine Bn fun i _=>?_;unfold i7;by_cases h:N<=i
  ·rw[bF (show ¬i<N by omega),j5];rfl
  ·rw[bF h];rfl
 rw[a,b]
end
theorem Vu(D k p:Nat):((D%10^p)*2^k/10^p+D/10^p%10*2^k)/10=(D%10^(p+1))*2^k/10^(p+1)/\((D%10^p)*2^k/10^p+D/10^p%10*2^k)%10=D*2^k/10^p%10/\(D%10^p)*2^k/10^p<=2^k:=by
 have hp:=qj p;have e1:(D%10^(p+1))*2^k/10^p=(D%10^p)*2^k/10^p+D/10^p%10*2^k:=by
  rw[Nat.mod_pow_succ,Nat.add_mul,Nat.mul_assoc,Nat.add_mul_div_left _ _ hp]
 refine⟨?_,?_,?_⟩
 ·rw[<-e1,Nat.div_div_eq_div_mul,<-Nat.pow_succ]
 ·rw[<-e1];have a:D*2^k=(D%10^(p+1))*2^k+10^p*(10*(D/10^(p+1)*2^k)):=by
   conv=>lhs;rw[<-Nat.mod_add_div D (10^(p+1))]
   grind
  rw[a,Nat.add_mul_div_left _ _ hp,Nat.add_mul_mod_self_left]
 ·refine Nat.div_le_of_le_mul ?_;exact Nat.mul_le_mul_right _ (Nat.le_of_lt (Nat.mod_lt _ hp))
theorem jT{n:Nat}(h:n<18446744073709551616):u64.wrap (n:Int)=(n:Int):=dz (i:=.u64) aK
theorem RG(h:t<18446744073709551616):u64.wrap ((t:Int).tdiv 10)=((t/10:Nat):Int):=by
 rw[show(t:Int).tdiv 10=((t/10:Nat):Int)from rfl];exact jT ae
theorem Wn(h:t<18446744073709551616):u64.wrap ((t:Int)-u64.wrap (10*u64.wrap ((t:Int).tdiv 10)))=((t%10:Nat):Int):=by
 rw[RG h,show(10:Int)*((t/10:Nat):Int)=((10*(t/10):Nat):Int) by omega,jT ae,show(t:Int)-((10*(t/10):Nat):Int)=((t%10:Nat):Int) by omega];exact jT ae
theorem TO(t:Nat):u8.wrap (u64.wrap (((t%10:Nat):Int)+48))=48+((t%10:Nat):Int):=by
 rw[dz (i:=.u64) (n:=((t%10:Nat):Int)+48) aK,dz (i:=.u8) (n:=((t%10:Nat):Int)+48) aK];omega
def Ba(kk:IntKind)(k:Nat):kP where
 X:=tU
 args x:=[.slice (some ⟨x.b,x.o,none⟩) x.len x.cap,.int kk x.n]
 cond x:=0<=x.n/\x.n<x.len
 val x:=.pointer (some ⟨x.b,x.o+x.n.toNat*k,none⟩)
theorem UZ{P:Program}{o:Oper}{x i:Operand}{t e:TypeId}{a:TypeInfo}{kk:IntKind}(k:Nat)(g:o.op= .indexAddr t x i)(l:P.underlying t=some (.slice e))(hi:P.info? e=some a)(hk:a.size=k):dJ P o (Ba kk k):=by
 refine⟨fun X w ρ h j=>?_⟩;obtain⟨b,off,len,cap,n⟩:=X;obtain⟨d,f⟩:=j;dsimp only at d f;simp only[g,Op.operands,Ba]at h;obtain⟨hx,hn⟩:ρ x= .slice (some ⟨b,off,none⟩) len cap/\ρ i= .int kk n:=by grind
 have c:P.cellsOf e=a.size:=by unfold Program.cellsOf;simp[hi]
 subst hk;simp[execOp,g,hx,hn,Instr.indexAt,asIntOf,run_underlying l,run_sizeOf w hi,c,d,f,pa,Sem.run,Ba]
structure hX where
 b:Nat
 d:bq
 k:Nat
 tb:Nat->Nat
 lc:Nat->Nat×ByteArray
def BV(x:hX):=af x.b (a7 x.d) 158
def ju(x:hX):Option Addr:=some ⟨x.b,0,none⟩
def yG:aQ where
 X:=hX
 Y:=bq
 args x:=[ag (ju x),aA x.k]
 pre x:=[BV x]
 cond x:=x.d.norm/\1<=x.k/\x.k<=60/\Ad x.k (x.lc x.k)/\ -1000000000<=x.d.dp/\x.d.dp<=1000000000
 aO x F:=gF x.tb x.lc F
 bZ x y:=y=oy x.d x.k (x.lc x.k)
 val _ _:=.returned (.tuple #[])
 post x y:=[af x.b (a7 y) 158]
structure jY where
 r:Nat
 w:Nat
 d:bq
def hX.M(x:hX):Nat:=x.d.num*2^x.k
def hX.N(x:hX):Nat:=gV x.d (x.lc x.k)
def hX.e(x:hX):Nat:=lG x.d (x.lc x.k)
def hX.c(x:hX)(r:Nat):Nat:=(x.d.num%10^(x.d.nd.toNat-r))*2^x.k/10^(x.d.nd.toNat-r)
def wF(x:hX)(s:jY):=af x.b (a7 s.d) 158
def afM(x:hX)(F:ah):Nat->Option Inv:=fun
 |0=>some {X:=jY,P:=fun s=>s.r<=x.d.nd.toNat/\s.d=gG x.d x.M x.N (s.r+x.e),mu:=fun s=>s.r,lv:=fun s=>[(0,ag (ju x)),(1,aA x.k),(4,ad x.e),(5,ad ((s.r:Int)-1)),(6,ad ((s.r+x.e:Nat):Int)),(7,aA (x.c s.r:Nat))],st:=fun s=>[wF x s,F]}
 |2=>some {X:=jY,P:=fun s=>s.w<=x.e/\s.d=gG x.d x.M x.N s.w,mu:=fun s=>s.w,lv:=fun s=>[(0,ag (ju x)),(4,ad x.e),(6,ad (s.w:Int)),(7,aA (x.M/10^(x.N-s.w):Nat))],st:=fun s=>[wF x s,F]}
 |_=>none
def afL(x:hX)(F:ah):Nat->Option Inv:=fun
 |3=>some {X:=Unit,P:=fun _=>True,mu:=fun _=>0,lv:=fun _=>[(0,ag (ju x)),(1,aA x.k),(4,ad x.e)],st:=fun _=>[BV x,F]}
 |27=>some {X:=jY,P:=fun s=>s.d=gG x.d x.M x.N 0,mu:=fun _=>0,lv:=fun _=>[(0,ag (ju x)),(4,ad x.e)],st:=fun s=>[wF x s,F]}
 |30=>some {X:=jY,P:=fun s=>s.d=⟨eB (i7 x.d x.M x.N 0),(min x.N 800:Nat),x.d.dp,x.d.ng,jN x.d x.M x.N 0⟩,mu:=fun _=>0,lv:=fun _=>[(0,ag (ju x)),(4,ad x.e)],st:=fun s=>[wF x s,F]}
 |_=>none
def Ll(b:Oper)(aa:List Value)(a:tU->Prop):=dJ Tryz.prog b (Ba u64 2)/\∃(z:tU),aa=[au (some ⟨z.b,z.o,none⟩) z.len z.cap,aA z.n]/\(0<=z.n/\z.n<z.len)/\a z
def Lm(e0:hX)(e1:ah)(v0:Value)(a:St):=∃(z:Unit),True/\(ag (ju e0)=ag (ju e0)/\aA ↑e0.k=aA ↑e0.k/\v0=ad ↑e0.e/\True)/\aE a [(0,af e0.b (a7 e0.d) 158),(1,e1)]
def Jv(z:jY)(e0:hX):=z.r<=e0.d.nd.toNat/\z.d=gG e0.d e0.M e0.N (z.r+e0.e)
def rN(e0:hX)(z:jY)(e1:ah):=[(0,af e0.b (a7 z.d) 158),(1,e1)]
def Is(j:jY):=(-9223372036854775808:Int)<=(j.r:Int)-1-(1:Int)/\(j.r:Int)-1-(1:Int)<=(9223372036854775807:Int)
def FY(e0:hX)(e1:ah)(v0 v1 v2:Value)(a:St)(mm:Nat):=∃(z:jY),Jv z e0/\(ag (ju e0)=ag (ju e0)/\aA ↑e0.k=aA ↑e0.k/\ad ↑e0.e=ad ↑e0.e/\v0=ad ((z.r:Int)-1)/\v1=ad (↑(z.r+e0.e):Int)/\v2=aA (↑(e0.c z.r):Int)/\True)/\aE a (rN e0 z e1)/\z.r<mm
def JT(j:jY):=ad ((j.r:Int)-1-(1:Int))
def HW(x:hX)(j:jY)(b:Int):=aA (bf ((bf ((↑(x.c j.r):Int)+bf (bf (bf b-48)*2^min (x.k:Int).toNat u64.bits))).tdiv (10:Int)))
def FZ(e0:hX)(e1:ah)(v0 v1:Value)(a:St)(mm:Nat):=∃(z:jY),(z.w<=e0.e/\z.d=gG e0.d e0.M e0.N z.w)/\(ag (ju e0)=ag (ju e0)/\ad ↑e0.e=ad ↑e0.e/\v0=ad ↑z.w/\v1=aA (↑(e0.M/10^(e0.N-z.w)):Int)/\True)/\aE a (rN e0 z e1)/\z.w<mm
def IW(x:hX)(c:jY):=aA (bf ((↑(x.M/10^(x.N-c.w)):Int).tdiv (10:Int)))
def QY(e0:hX):=ag (ju e0)=ag (ju e0)/\ad ↑e0.e=ad ↑e0.e/\True
def Ln(e0:hX)(e1:ah)(a:St):=∃(z:jY),z.d=⟨eB (i7 e0.d e0.M e0.N 0),(↑(min e0.N 800):Int),e0.d.dp,e0.d.ng,jN e0.d e0.M e0.N 0⟩/\QY e0/\aE a (rN e0 z e1)
def F0(aa:List Value)(pp:List ah)(a:km->Unit->Prop):=aC 184 tI/\true=true/\∃(z:km),aa=[ag (iw z)]/\pp=[af z.b (a7 z.d) 158]/\z.d.ok/\True/\∀(b:Unit),True->a z b
theorem afN(x:hX)(F:ah)(hc:yG.cond x)(hr:yG.aO x F):eI F ⟨16,0,none⟩ (fun s r q=>Ll (ba Tryz.f168 0 2) [au s r q,aA ↑x.k] (fun p=>T1 F ⟨p.b,p.o+p.n.toNat*2,none⟩ (fun o=>(true=true/\T1 (BV x) ⟨x.b,800,none⟩ (fun j=>dJ Tryz.prog (ba Tryz.f168 1 7) (Dr 800)/\∃(i:Ss),[ag (ju x),ad 0,ad j]=[ag (some ⟨i.b,0,none⟩),ad 0,ad i.h]/\(0<=i.h/\i.h<=(↑(800:Nat):Int))/\eI F ⟨16,0,none⟩ (fun h g f=>Ll (ba Tryz.f168 1 10) [au h g f,aA ↑x.k] (fun e=>T2 F ⟨e.b,e.o+e.n.toNat*2+1,none⟩ (fun d=>aC 183 uA/\true=true/\∃(c:vE),[au (some ⟨i.b,0,none⟩) i.h.toNat 800,ai d]=[au (uT c) c.d.nd.toNat 800,ai c.s]/\[af x.b (a7 x.d) 158]=[af c.b (a7 c.d) 158]/\(c.d.ok/\c.s.size<=1000)/\True/\∀(b:Unit),True->Br (rK c.d c.s) (nR o/\Lm x F (ad (o-1)) (rM c F)) (Lm x F (ad o) (rM c F)))))))/\aT fun(n:Unit)_=>True->T1 (BV x) ⟨x.b,800,none⟩ (fun l=>T1 (BV x) ⟨x.b,800,none⟩ (fun k=>bM (k+x.e)/\nR l/\(∃(a:jY),Jv a x/\(ag (ju x)=ag (ju x)/\aA ↑x.k=aA ↑x.k/\ad ↑x.e=ad ↑x.e/\ad (l-1)=ad ((a.r:Int)-1)/\ad (k+x.e)=ad (↑(a.r+x.e):Int)/\aA 0=aA (↑(x.c a.r):Int)/\True)/\aE [(0,af x.b (a7 x.d) 158),(1,F)] (rN x a F))/\aT fun(j:jY)_=>Jv j x->aS ((j.r:Int)-1>=(0:Int)) ((0<=(j.r:Int)-1/\(j.r:Int)-1<(↑(800:Nat):Int))/\iR (wF x j) ⟨x.b,0+((j.r:Int)-1).toNat*1,none⟩ (fun b=>((-9223372036854775808:Int)<=(↑(j.r+x.e):Int)-1/\(↑(j.r+x.e):Int)-1<=(9223372036854775807:Int))/\aS ((↑(j.r+x.e):Int)-1<(800:Int)) ((0<=(↑(j.r+x.e):Int)-1/\(↑(j.r+x.e):Int)-1<(↑(800:Nat):Int))/\(d9 ⟨x.b,0+((↑(j.r+x.e):Int)-1).toNat*1,none⟩ x.b/\0+((↑(j.r+x.e):Int)-1).toNat*1<(a7 j.d).length)/\Is j/\FY x F (JT j) (ad ((↑(j.r+x.e):Int)-1)) (HW x j b) [(0,af x.b ((a7 j.d).set (0+((↑(j.r+x.e):Int)-1).toNat*1) (a8 (u8.wrap (bf (bf (bf ((↑(x.c j.r):Int)+bf (bf (bf b-48)*2^min (x.k:Int).toNat u64.bits))-bf (10*bf ((bf ((↑(x.c j.r):Int)+bf (bf (bf b-48)*2^min (x.k:Int).toNat u64.bits))).tdiv (10:Int))))+48))))) 158),(1,F)] j.r) (Br (bf (bf ((↑(x.c j.r):Int)+bf (bf (bf b-48)*2^min (x.k:Int).toNat u64.bits))-bf (10*bf ((bf ((↑(x.c j.r):Int)+bf (bf (bf b-48)*2^min (x.k:Int).toNat u64.bits))).tdiv (10:Int))))!=0) ((aw x.b 803/\803<(a7 j.d).length)/\Is j/\FY x F (JT j) (ad ((↑(j.r+x.e):Int)-1)) (HW x j b) [(0,af x.b ((a7 j.d).set 803 (aj true)) 158),(1,F)] j.r) (Is j/\FY x F (JT j) (ad ((↑(j.r+x.e):Int)-1)) (HW x j b) (rN x j F) j.r)))) (((∃(a:jY),(a.w<=x.e/\a.d=gG x.d x.M x.N a.w)/\(ag (ju x)=ag (ju x)/\ad ↑x.e=ad ↑x.e/\ad (↑(j.r+x.e):Int)=ad ↑a.w/\aA (↑(x.c j.r):Int)=aA (↑(x.M/10^(x.N-a.w)):Int)/\True)/\aE (rN x j F) (rN x a F))/\aT fun(c:jY)_=>(c.w<=x.e/\c.d=gG x.d x.M x.N c.w)->aS ((↑(x.M/10^(x.N-c.w)):Int)>0) (((-9223372036854775808:Int)<=(c.w:Int)-1/\(c.w:Int)-1<=(9223372036854775807:Int))/\aS ((c.w:Int)-1<(800:Int)) ((0<=(c.w:Int)-1/\(c.w:Int)-1<(↑(800:Nat):Int))/\(d9 ⟨x.b,0+((c.w:Int)-1).toNat*1,none⟩ x.b/\0+((c.w:Int)-1).toNat*1<(a7 c.d).length)/\FZ x F (ad ((c.w:Int)-1)) (IW x c) [(0,af x.b ((a7 c.d).set (0+((c.w:Int)-1).toNat*1) (a8 (u8.wrap (bf (bf ((↑(x.M/10^(x.N-c.w)):Int)-bf (10*bf ((↑(x.M/10^(x.N-c.w)):Int).tdiv (10:Int))))+48))))) 158),(1,F)] c.w) (Br (bf ((↑(x.M/10^(x.N-c.w)):Int)-bf (10*bf ((↑(x.M/10^(x.N-c.w)):Int).tdiv (10:Int))))!=0) ((aw x.b 803/\803<(a7 c.d).length)/\FZ x F (ad ((c.w:Int)-1)) (IW x c) [(0,af x.b ((a7 c.d).set 803 (aj true)) 158),(1,F)] c.w) (FZ x F (ad ((c.w:Int)-1)) (IW x c) (rN x c F) c.w))) (∃(a:jY),a.d=gG x.d x.M x.N 0/\QY x/\aE (rN x c F) (rN x a F)))/\aT fun(h:jY)_=>h.d=gG x.d x.M x.N 0->T1 (wF x h) ⟨x.b,800,none⟩ (fun f=>bM (f+x.e)/\(aw x.b 800/\800<(a7 h.d).length)/\T1 (af x.b ((a7 h.d).set 800 (ad (f+x.e))) 158) ⟨x.b,800,none⟩ (fun b=>aS (b>=800) ((aw x.b 800/\800<((a7 h.d).set 800 (ad (f+x.e))).length)/\Ln x F [(0,af x.b (((a7 h.d).set 800 (ad (f+x.e))).set 800 (ad 800)) 158),(1,F)]) (Ln x F [(0,af x.b ((a7 h.d).set 800 (ad (f+x.e))) 158),(1,F)]))/\aT fun(e:jY)_=>e.d=⟨eB (i7 x.d x.M x.N 0),(↑(min x.N 800):Int),x.d.dp,x.d.ng,jN x.d x.M x.N 0⟩->T1 (wF x e) ⟨x.b,801,none⟩ (fun c=>bM (c+x.e)/\(aw x.b 801/\801<(a7 e.d).length)/\F0 [ag (ju x)] [af x.b ((a7 e.d).set 801 (ad (c+x.e))) 158] (fun b a=>ar yG x F eC [(0,af b.b (a7 (kl b.d)) 158),(1,F)]))))))))):=by
 delta eI Ll T1 BV ju T2 uT nR Lm rM Jv rN iR wF Is FY JT HW FZ IW QY Ln iw F0 eC aw bM ad a8 aA ai aj ag au af bf aS ax aT;obtain⟨b,d,k,tb,lc⟩:=x;obtain⟨hd,x4,L,m,x6,x7⟩:=hc;replace hr:gF tb lc F:=hr;dsimp only at hd x4 L m x6 x7;have hl:=hd.len;have x5:1<=d.nd.toNat/\d.nd.toNat<=800/\((d.nd.toNat:Nat):Int)=d.nd:=by have:=hd.pos;have:=hd.max;omega
 have A:=Vl hd m;generalize hx:(⟨b,d,k,tb,lc⟩:hX)=x at*;have xb:x.b=b:=by rw[<-hx]
 have xd:x.d=d:=by rw[<-hx]
 have xk:x.k=k:=by rw[<-hx]
 have R:x.M=d.num*2^k:=by rw[<-hx];rfl
 have U:x.e=lG d (lc k):=by rw[<-hx];rfl
 have S:x.N=d.nd.toNat+x.e:=by rw[<-hx];rfl
 have T:∀r,x.c r=(d.num%10^(d.nd.toNat-r))*2^k/10^(d.nd.toNat-r):=by rw[<-hx];intro r;rfl
 rw[xb,xd,xk];have hel:x.e<=60:=by
  rw[U];have W:=m.Dz;have h2:=m.gP.pos;unfold lG;cases rK d (lc k).2 <;> simp only[aU,aM] <;> omega
 have X:2^k<=1152921504606846976:=by
  have:2^k<=2^60:=mN (by decide) L;exact this
 rw[<-R,<-U,<-S]at A;have Z:x.M<10^x.N:=A.2;obtain⟨B,o,cp,g1,g2⟩:=hr.lc;have u:∀v:bq,aE [(0,.cells b (a7 v) 158),(1,F)] [(0,.cells b (a7 v) 158),(1,F)]:=fun v=>az [0,1];refine⟨_,_,_,g1,UZ 2 rfl rfl rfl rfl,⟨B,o,61,cp,k⟩,rfl,hC,((lc k).1:Int),?_,⟨rfl,_,jM hl,aav rfl rfl rfl rfl rfl,⟨b,d.nd⟩,rfl,hC,_,_,_,g1,UZ 2 rfl rfl rfl rfl,⟨B,o,61,cp,k⟩,rfl,hC,(lc k).2,?_,ahz,rfl,⟨b,d,(lc k).2⟩,rfl,rfl,⟨hd.ok,?_⟩,ao,fun _ _=>aG (fun q=>⟨⟨?_,?_⟩,(),ao,⟨rfl,rfl,?_,ao⟩,u d⟩) (fun q=>⟨(),ao,⟨rfl,rfl,?_,ao⟩,u d⟩)⟩,fun _ P _=>?_⟩
 ·have:=(g2 k ae).1;rw[cw];exact this
 ·have:=(g2 k ae).2;rw[cw];exact this
 ·have W:=m.Dz;have h2:=m.one;dsimp only;omega
 ·have:=m.one;omega
 ·have:=m.Dz;omega
 ·rw[U];unfold lG;rw[show rK d (lc k).2=true from q];have:=m.one;exact congrArg (int .i64) (by rw[aU];omega)
 ·rw[U];unfold lG;rw[show rK d (lc k).2=false from q];rfl
 refine⟨_,jM hl,_,jM hl,aK,aK,⟨⟨d.nd.toNat,0,d⟩,⟨bT _,?_⟩,⟨rfl,rfl,rfl,?_,?_,?_,ao⟩,u d⟩,?_⟩
 ·rw[<-S];exact(afI hl).symm
 ·rw[x5.2.2]
 ·exact congrArg (int .i64) bg
 ·rw[T];dsimp only;rw[Nat.sub_self,Nat.pow_zero,Nat.mod_one,Nat.zero_mul];rfl
 rintro⟨r,_,D⟩ P ⟨NA,y⟩;dsimp only at NA y⊢;subst y;refine bo (fun q=>?_) (fun q=>?_)
 ·obtain⟨r,rfl⟩:∃j,r=j+1:=⟨r-1,ae⟩;have O:r<d.nd.toNat:=ae;obtain⟨m1,Q,m3⟩:=Vu d.num k (d.nd.toNat-1-r);have x3:d.num/10^(d.nd.toNat-1-r)%10=dE d r:=TU _ _ hd.g9 O;have x2:=hd.g9 r O;have hdd:=hd.gP r ae;rw[x3]at m1 Q;have c1:x.c (r+1)=(d.num%10^(d.nd.toNat-1-r))*2^k/10^(d.nd.toNat-1-r):=by rw[T,show d.nd.toNat-(r+1)=d.nd.toNat-1-r by omega]
  have c0:x.c r=(d.num%10^(d.nd.toNat-1-r+1))*2^k/10^(d.nd.toNat-1-r+1):=by rw[T,show d.nd.toNat-r=d.nd.toNat-1-r+1 by omega]
  rw[<-c1]at m1 Q m3;rw[<-c0]at m1;rw[<-R]at Q;have x0:d.at_ r=((48+dE d r:Nat):Int):=by unfold dE;omega
  have C:(r+1+x.e)-1=r+x.e:=ae;have H:x.N-(r+1+x.e)=d.nd.toNat-1-r:=ae;have lkr:aP (.cells b (a7 (gG d x.M x.N (r+1+x.e))) 158) ⟨b,0+(((r+1:Nat):Int)-1).toNat*1,none⟩ (.int .u8 (d.at_ r)):=by
   rw[show 0+(((r+1:Nat):Int)-1).toNat*1=r by omega];have:=wa (b:=b) (t:=158) (d:=gG d x.M x.N (r+1+x.e)) sU (i:=r) ae;have e:(gG d x.M x.N (r+1+x.e)).at_ r=d.at_ r:=by
    unfold bq.at_ gG;dsimp only;rw[N8 ae];unfold i7;rw[bF (show ¬r+1+x.e<=r by omega)];rfl
   rw[e]at this;exact this
  have amv:dE d r*2^k<=9*1152921504606846976:=Nat.mul_le_mul x2 X;have ht:x.c (r+1)+dE d r*2^k<18446744073709551616:=ae;have I:u64.wrap ((x.c (r+1):Int)+u64.wrap (u64.wrap (u64.wrap (d.at_ r)-48)*2^min (k:Int).toNat u64.bits))=((x.c (r+1)+dE d r*2^k:Nat):Int):=by
   rw[x0,jT ae,show((48+dE d r:Nat):Int)-48=((dE d r:Nat):Int) by omega,jT ae,cw,show min k u64.bits=k from Nat.min_eq_left (by show k<=64;omega)];rw[show((dE d r:Nat):Int)*2^k=((dE d r*2^k:Nat):Int) by rw[Int.natCast_mul,Int.natCast_pow];rfl,jT ae,<-Int.natCast_add];exact jT ht
  rw[show(((r+1+x.e:Nat):Int)-1)=((r+x.e:Nat):Int) by omega];have lo:(-9223372036854775808<=((r+1:Nat):Int)-1-1/\((r+1:Nat):Int)-1-1<=9223372036854775807):=aK;have E:(int .i64 (((r+1:Nat):Int)-1-1)=int .i64 ((r:Int)-1)):=congrArg _ ae;refine⟨aK,_,lkr,aK,?_⟩;rw[I,Wn ht,RG ht,TO,m1,Q];refine bo (fun q1=>⟨aK,⟨aq,by rw[jg sU];omega⟩,lo,⟨r,0,gG d x.M x.N (r+x.e)⟩,⟨bg,rfl⟩,⟨rfl,rfl,rfl,E,rfl,rfl,ao⟩,?_,bg⟩) (fun q1=>aG (fun q2=>⟨⟨aq,by rw[jg sU];decide⟩,lo,⟨r,0,gG d x.M x.N (r+x.e)⟩,⟨bg,rfl⟩,⟨rfl,rfl,rfl,E,rfl,rfl,ao⟩,?_,bg⟩) (fun q2=>⟨lo,⟨r,0,gG d x.M x.N (r+x.e)⟩,⟨bg,rfl⟩,⟨rfl,rfl,rfl,E,rfl,rfl,ao⟩,?_,bg⟩))
  ·have:=Vk (d:=d) (M:=x.M) (N:=x.N) (w:=r+1+x.e) ae ae ae;rw[C,H]at this;rw[show 0+((r+x.e:Nat):Int).toNat*1=r+x.e by omega,this];exact u _
  ·have:=Hq (d:=d) (M:=x.M) (N:=x.N) (w:=r+1+x.e) ae ae;rw[C,H]at this;rw[Kk sU,this];have q2:(((x.M/10^(d.nd.toNat-1-r)%10:Nat):Int)!=0)=true:=q2;have:(x.M/10^(d.nd.toNat-1-r)%10 !=0)=true:=by
    rw[bne_iff_ne]at q2⊢;omega
   rw[this,mc];exact u _
  ·have:=Hq (d:=d) (M:=x.M) (N:=x.N) (w:=r+1+x.e) ae ae;rw[C,H]at this;have q2:(((x.M/10^(d.nd.toNat-1-r)%10:Nat):Int)!=0)=false:=q2;have V:(x.M/10^(d.nd.toNat-1-r)%10 !=0)=false:=by
    rw[bne_eq_false_iff_eq]at q2⊢;omega
   rw[this,V,Bool.or_false];exact u _
 ·have hr0:r=0:=by omega
  subst hr0;rw[gT];have x1:x.c 0=x.M/10^(x.N-x.e):=by
   rw[T,Nat.sub_zero,Nat.mod_eq_of_lt hd.lt,<-R,show x.N-x.e=d.nd.toNat by omega]
  have hck:x.M/10^(x.N-x.e)<=2^k:=by
   have:=(Vu d.num k d.nd.toNat).2.2;rw[Nat.mod_eq_of_lt hd.lt,<-R]at this
   rwa [show x.N-x.e=d.nd.toNat by omega]
  refine⟨⟨⟨⟨0,x.e,gG d x.M x.N x.e⟩,⟨bT _,rfl⟩,⟨rfl,rfl,rfl,by rw[x1],ao⟩,u _⟩,?_⟩,?_⟩
  ·rintro⟨_,w,D⟩ P ⟨hw,y⟩;dsimp only at hw y⊢;subst y;have hn:x.M/10^(x.N-w)<18446744073709551616:=by
    have:x.M/10^(x.N-w)<=x.M/10^(x.N-x.e):=Nat.div_le_div_left (mN (by decide) ae) (qj _);omega
   refine bo (fun q=>?_) (fun q=>?_)
   ·have C:1<=w:=by
     rcases Nat.eq_zero_or_pos w with h|h
     ·subst h;rw[Nat.sub_zero,Nat.div_eq_of_lt Z]at q;omega
     ·exact h
    have hq:x.M/10^(x.N-w)/10=x.M/10^(x.N-(w-1)):=by
     rw[Nat.div_div_eq_div_mul,<-Nat.pow_succ,show x.N-(w-1)=x.N-w+1 by omega]
    rw[Wn hn,RG hn,TO,hq,show((w:Int)-1)=((w-1:Nat):Int) by omega];refine⟨aK,bo (fun q1=>⟨aK,⟨aq,by rw[jg sU];omega⟩,⟨0,w-1,gG d x.M x.N (w-1)⟩,⟨bg,rfl⟩,aV,?_,bg⟩) (fun q1=>aG (fun q2=>⟨⟨aq,by rw[jg sU];decide⟩,⟨0,w-1,gG d x.M x.N (w-1)⟩,⟨bg,rfl⟩,aV,?_,bg⟩) (fun q2=>⟨⟨0,w-1,gG d x.M x.N (w-1)⟩,⟨bg,rfl⟩,aV,?_,bg⟩))⟩
    ·have:=Vk (d:=d) (M:=x.M) (N:=x.N) (w:=w) ae ae ae;rw[show 0+((w-1:Nat):Int).toNat*1=w-1 by omega,this];exact u _
    ·have:=Hq (d:=d) (M:=x.M) (N:=x.N) (w:=w) ae ae;rw[Kk sU,this];have q2:(((x.M/10^(x.N-w)%10:Nat):Int)!=0)=true:=q2;have:(x.M/10^(x.N-w)%10 !=0)=true:=by
      rw[bne_iff_ne]at q2⊢;omega
     rw[this,mc];exact u _
    ·have:=Hq (d:=d) (M:=x.M) (N:=x.N) (w:=w) ae ae;have q2:(((x.M/10^(x.N-w)%10:Nat):Int)!=0)=false:=q2;have V:(x.M/10^(x.N-w)%10 !=0)=false:=by
      rw[bne_eq_false_iff_eq]at q2⊢;omega
     rw[this,V,Bool.or_false];exact u _
   ·have hw0:w=0:=by
     rcases Nat.eq_zero_or_pos w with h|h
     ·exact h
     ·have W:10^(x.N-w)<=x.M:=gR (mN (by decide) ae) A.1;have:=Nat.div_pos W (qj _);omega
    subst hw0;exact⟨⟨0,0,_⟩,rfl,aV,u _⟩
  rintro⟨_,_,D⟩ P y;dsimp only at y⊢;subst y;have hN0:x.N=(x.d.nd+(x.e:Int)).toNat:=by rw[S,xd];omega
  have e0:(gG d x.M x.N 0)=⟨eB (i7 d x.M x.N 0),d.nd,d.dp,d.ng,jN d x.M x.N 0⟩:=rfl;have K:∀z:bq,z=⟨eB (i7 d x.M x.N 0),(min x.N 800:Nat),d.dp,d.ng,jN d x.M x.N 0⟩->z.ds.length=800:=by
   rintro z rfl;exact sX _
  refine⟨_,jM sU,⟨by show _<=d.nd+(x.e:Int);omega,by show d.nd+(x.e:Int)<=_;omega⟩,⟨aq,by rw[jg sU];decide⟩,⟨?_,?_⟩⟩
  ·rw[e0];dsimp only;rw[Fg (sX _)];dsimp only;rw[show d.nd+(x.e:Int)=(x.N:Int) by rw[S];omega];refine⟨_,jM (sX _),bo (fun q=>⟨⟨aq,by rw[jg (sX _)];decide⟩,⟨0,0,_⟩,rfl,aV,?_⟩) (fun q=>⟨⟨0,0,_⟩,rfl,aV,?_⟩)⟩
   ·rw[Fg (sX _)];dsimp only at q⊢;rw[show min x.N 800=800 by omega];exact u _
   ·dsimp only at q⊢;rw[show min x.N 800=x.N by omega];exact u _
  ·rintro⟨_,_,D⟩ P y;dsimp only at y⊢;have G:=K D y;have J:D.dp=d.dp:=by rw[y]
   have Y:(a7 D).set 801 (.int .i64 (d.dp+(x.e:Int)))=a7 ⟨eB (i7 d x.M x.N 0),(min x.N 800:Nat),d.dp+(x.e:Nat),d.ng,jN d x.M x.N 0⟩:=by
    rw[zH G,y]
   refine⟨D.dp,kX G,?_,⟨aq,by rw[jg G];decide⟩,Xb,rfl,⟨b,⟨eB (i7 d x.M x.N 0),(min x.N 800:Nat),d.dp+(x.e:Nat),d.ng,jN d x.M x.N 0⟩⟩,rfl,by rw[J,Y],⟨sX _,bg,bg⟩,ao,fun _ _=>?_⟩
   ·rw[J];exact aK
   have hv:oy x.d x.k (x.lc x.k)=kl ⟨eB (i7 d x.M x.N 0),(min x.N 800:Nat),d.dp+(x.e:Nat),d.ng,jN d x.M x.N 0⟩:=by
    rw[<-hx];rfl
   refine⟨oy x.d x.k (x.lc x.k),rfl,rfl,?_⟩;rw[hv];show aE _ [(0,.cells x.b (a7 (kl _)) 158),(1,F)];rw[xb];exact u _
theorem Vm:aC 168 yG:=fo 137 Tryz.func168 (fun _ _=>[(0,0,.q [.ex 1 .slice]),(0,2,.qo (Ba .u64 2)),(0,4,iH 1),(1,6,iH 0),(1,7,.qo (Dr 800)),(1,8,.q [.ex 1 .slice]),(1,10,.qo (Ba .u64 2)),(1,12,.q [.ex 1 .str]),(1,13,bu uA),(3,3,iH 0),(4,3,iH 0),(9,6,bH 0),(9,7,aX),(9,8,aX),(9,10,aX),(9,11,aX),(10,1,aX),(11,2,aX),(11,3,aX),(14,3,aX),(14,4,aX),(14,8,.w [.ex 0 .any]),(16,3,.w [.ex 0 .any]),(19,1,aX),(20,2,aX),(20,3,aX),(23,3,aX),(23,4,aX),(23,8,.w [.ex 0 .any]),(25,3,.w [.ex 0 .any]),(27,3,iH 0),(27,8,.w [.ex 0 .any]),(28,3,iH 0),(29,3,.w [.ex 0 .any]),(30,3,iH 0),(30,8,.w [.ex 0 .any]),(31,1,bu tI)]) [] afM afL bA [] afN
end
section
open Go
def gI(d:bq)(i:Nat):Nat:=if i<d.nd.toNat then dE d i else 0
def u9(g:Nat->Nat)(k:Nat):Nat->Nat->Nat
 |0,r=>r
 |f+1,r=>bif decide (c8 g r<2^k) then u9 g k f (r+1) else r
def qy(g:Nat->Nat)(k R:Nat):Nat->Nat
 |0=>c8 g R
 |j+1=>qy g k R j%2^k*10+g (R+j)
def u7(n:Nat->Nat):Nat->Nat->Nat
 |0,j=>j
 |f+1,j=>bif n j==0 then j else u7 n f (j+1)
def qz(k:Nat)(n:Nat->Nat)(t:Bool):Nat->Bool
 |0=>t
 |j+1=>qz k n t j||(decide (800<=j)&&n j/2^k !=0)
def lQ(d:bq)(k:Nat)(n:Nat->Nat)(j i:Nat):Int:=bif decide (i<j) then 48+(n i/2^k:Nat) else d.at_ i
def jS(d:bq)(k:Nat)(n:Nat->Nat)(dp:Int)(j:Nat):bq:=⟨eB (lQ d k n j),d.nd,dp,d.ng,qz k n d.tr j⟩
def kH(d:bq)(k:Nat):Nat:=u9 (gI d) k 30 0
def kj(d:bq)(k:Nat):Nat->Nat:=qy (gI d) k (kH d k)
def nT(d:bq)(k:Nat):Nat:=u7 (kj d k) (k+2) (d.nd.toNat-kH d k)
def my(d:bq)(k:Nat):bq:=kl ⟨eB (lQ d k (kj d k) (nT d k)),(min (nT d k) 800:Nat),d.dp-((kH d k:Nat)-1),d.ng,qz k (kj d k) d.tr (nT d k)⟩
section
variable{g:Nat->Nat}{k:Nat}
theorem RP(a:1<=g 0)(b:∀i,g i<=9)(hk:k<=60):∀f r,f+r=30->(∀j,j<r->c8 g j<2^k)->r<=u9 g k f r/\u9 g k f r<=30/\2^k<=c8 g (u9 g k f r)/\(∀j,j<u9 g k f r->c8 g j<2^k)
 |0,r,e,h=>by
  exfalso;have d:=h 20 ae;have l:=GV (g:=g) 20 a (by decide);have:2^k<=2^60:=mN (by decide) hk;have e1:(2:Nat)^60=1152921504606846976:=by decide
  have c:(10:Nat)^(20-1)=10000000000000000000:=by decide
  omega
 |f+1,r,e,h=>by
  rw[u9];by_cases q:c8 g r<2^k
  ·rw[bv q,aU];have:=RP a b hk f (r+1) ae (fun j m=>by
    rcases Nat.lt_or_ge j r with h'|h'
    ·exact h j h'
    ·rw[show j=r by omega];exact q)
   exact⟨ae,this.2⟩
  ·rw[bF q,aM];exact⟨bT _,ae,ae,h⟩
variable{R:Nat}
theorem Wu(a:∀i,g i<=9)(b:1<=R)(c:c8 g (R-1)<2^k):∀j,qy g k R j<10*2^k
 |0=>by
  obtain⟨R,rfl⟩:∃m,R=m+1:=⟨R-1,ae⟩;rw[qy,c8];have:=a R;rw[show R+1-1=R by omega]at c;omega
 |j+1=>by
  rw[qy];have b:=a (R+j);have d:qy g k R j%2^k<2^k:=Nat.mod_lt _ (Nat.pow_pos (by decide));omega
theorem Wt{J:Nat}(a:∀i,J<=i->g (R+i)=0):∀i,i<=k->2^i ∣ qy g k R (J+i)
 |0,_=>by rw[Nat.pow_zero];exact Nat.one_dvd _
 |i+1,h=>by
  rw[show J+(i+1)=J+i+1 by omega,qy,a _ ae,Nat.add_zero];have b:=Wt a i ae;have c:2^i ∣ qy g k R (J+i)%2^k:=(Nat.dvd_mod_iff (Nat.pow_dvd_pow 2 ae)).2 b;rw[Nat.pow_succ];exact Nat.mul_dvd_mul c (by decide)
theorem Wv{J:Nat}(a:∀i,J<=i->g (R+i)=0):qy g k R (J+k+1)=0:=by
 rw[qy,a _ ae,Nat.mod_eq_zero_of_dvd (Wt a k (bT _))]
theorem RO{n:Nat->Nat}{J:Nat}(b:n (J+k+1)=0):∀f j,f+j=J+k+2->J<=j->(∀i,J<=i->i<j->n i≠0)->n (u7 n f j)=0/\j<=u7 n f j/\u7 n f j<=J+k+1/\∀i,J<=i->i<u7 n f j->n i≠0
 |0,j,e,c,a=>by
  exact absurd b (a _ ae ae)
 |f+1,j,e,c,a=>by
  rw[u7];cases q:(n j==0)with
  |true=>rw[aU];exact⟨beq_iff_eq.1 q,bT _,ae,a⟩
  |false=>
   have:=RO b f (j+1) ae ae (fun i hi d=>by
    rcases Nat.lt_or_ge i j with h'|h'
    ·exact a i hi h'
    ·rw[show i=j by omega];exact dU.1 q)
   rw[aM];exact⟨this.1,ae,this.2.2⟩
end
section
variable{d:bq}{k j:Nat}{n:Nat->Nat}{p:Int}
theorem u_:(jS d k n p j).ds.length=800:=by unfold jS;dsimp only;rw[sX]
theorem ai9(hl:d.ds.length=800):jS d k n p 0=⟨d.ds,d.nd,p,d.ng,d.tr⟩:=by
 unfold jS;rw[show eB (lQ d k n 0)=d.ds by
  conv=>rhs;rw[VU hl]
  exact Bn fun i _=>by unfold lQ;rw[bF (Nat.not_lt_zero i)];rfl]
 rfl
theorem Wx(h:j<800):(a7 (jS d k n p j)).set j (.int .u8 (48+(n j/2^k:Nat)))=a7 (jS d k n p (j+1)):=by
 rw[R3 u_ h];unfold jS;dsimp only;rw[VV,qz,bF (show ¬800<=j by omega),jk,Bool.or_false];refine congrArg (fun l=>a7 ⟨l,d.nd,p,d.ng,qz k n d.tr j⟩) (Bn fun i _=>?_);unfold lQ;by_cases e:i=j
 ·rw[if_pos e,e,bv (io j)];rfl
 ·rw[if_neg e];by_cases h:i<j
  ·rw[bv h,bv (show i<j+1 by omega)]
  ·rw[bF h,bF (show ¬i<j+1 by omega)]
theorem Ww(h:800<=j):jS d k n p (j+1)=⟨eB (lQ d k n j),d.nd,p,d.ng,qz k n d.tr j||(n j/2^k !=0)⟩:=by
 unfold jS;rw[qz,bv h,Bool.true_and,show eB (lQ d k n (j+1))=eB (lQ d k n j)from Bn fun i hi=>by
  unfold lQ;by_cases h:i<j
  ·rw[bv h,bv (show i<j+1 by omega)]
  ·omega]
theorem Kl{t k:Nat}(hk:k<=60):((t:Int).fdiv (2^min (k:Int).toNat u64.bits))=((t/2^k:Nat):Int):=by
 rw[cw,show min k u64.bits=k from Nat.min_eq_left (by show k<=64;omega),show(2:Int)^k=((2^k:Nat):Int) by rw[Int.natCast_pow];rfl,Int.fdiv_eq_ediv_of_nonneg _ (Int.natCast_nonneg _)];exact(Int.natCast_ediv _ _).symm
theorem Tg{t k:Nat}(c:t<18446744073709551616)(hk:k<=60):((BitVec.ofInt u64.bits (t:Int)&&& BitVec.ofInt u64.bits ((2^k-1:Nat):Int)).toNat)=t%2^k:=by
 have b:2^k<=2^60:=mN (by decide) hk;have e1:(2:Nat)^60=1152921504606846976:=by decide
 have a:(2:Nat)^64=18446744073709551616:=by decide
 rw[BitVec.ofInt_natCast,BitVec.ofInt_natCast,BitVec.toNat_and,BitVec.toNat_ofNat,BitVec.toNat_ofNat];rw[Nat.mod_eq_of_lt (show t<2^u64.bits by show t<2^64;omega),Nat.mod_eq_of_lt (show 2^k-1<2^u64.bits by show 2^k-1<2^64;omega),Nat.and_two_pow_sub_one_eq_mod]
theorem WY{a g:Nat}{c:Int}(d:a<1152921504606846976)(e:g<=9)(b:c=((48+g:Nat):Int)):u64.wrap (u64.wrap (u64.wrap ((a:Int)*10)+u64.wrap c)-48)=((a*10+g:Nat):Int):=by
 rw[b,jT ae,show(a:Int)*10=((a*10:Nat):Int) by omega,jT ae,<-Int.natCast_add,jT ae,show((a*10+(48+g):Nat):Int)-48=((a*10+g:Nat):Int) by omega,jT ae]
theorem Wh{q:Nat}(h:q<=9):u8.wrap (u64.wrap ((q:Int)+48))=48+(q:Int):=by
 rw[dz (i:=.u64) (n:=(q:Int)+48) aK,dz (i:=.u8) (n:=(q:Int)+48) aK];omega
theorem af5{k:Nat}(hk:k<=60):u64.wrap (u64.wrap (1*2^min (k:Int).toNat u64.bits)-1)=((2^k-1:Nat):Int):=by
 have b:2^k<=2^60:=mN (by decide) hk;have e1:(2:Nat)^60=1152921504606846976:=by decide
 have a:1<=2^k:=Nat.pow_pos (by decide);rw[cw,show min k u64.bits=k from Nat.min_eq_left (by show k<=64;omega),show 1*(2:Int)^k=((2^k:Nat):Int) by rw[Int.natCast_pow,Int.one_mul];rfl,jT ae,show((2^k:Nat):Int)-1=((2^k-1:Nat):Int) by omega,jT ae]
end
structure fU where
 b:Nat
 d:bq
 k:Nat
def hS(x:fU):Option Addr:=some ⟨x.b,0,none⟩
def wA(x:fU):=af x.b (a7 x.d) 158
def w7:aQ where
 X:=fU
 Y:=bq
 args x:=[ag (hS x),aA x.k]
 pre x:=[wA x]
 cond x:=x.d.norm/\1<=x.k/\x.k<=60/\ -1000000000<=x.d.dp/\x.d.dp<=1000000000
 bZ x y:=y=my x.d x.k
 val _ _:=.returned (.tuple #[])
 post x y:=[af x.b (a7 y) 158]
 eM _ _ _ _ h:=h
structure iQ where
 j:Nat
 d:bq
def fU.n(x:fU):Nat->Nat:=kj x.d x.k
def fU.R(x:fU):Nat:=kH x.d x.k
def fU.J(x:fU):Nat:=x.d.nd.toNat-kH x.d x.k
def fU.E(x:fU):Nat:=nT x.d x.k
def fU.p(x:fU):Int:=x.d.dp-((x.R:Nat)-1)
def fU.v(x:fU)(r:Nat):Nat:=c8 (gI x.d) r
def fU.m(x:fU):Nat:=2^x.k-1
def E2(x:fU)(s:iQ):=af x.b (a7 s.d) 158
def ajb(x:fU)(F:ah):Nat->Option Inv:=fun
 |0=>some {X:=iQ,P:=fun s=>s.j<=x.R/\s.j<=x.d.nd.toNat,mu:=fun s=>40-s.j,lv:=fun s=>[(0,ag (hS x)),(1,aA x.k),(4,ad (s.j:Nat)),(5,ad 0),(6,aA (x.v s.j:Nat))],st:=fun _=>[wA x,F]}
 |2=>some {X:=iQ,P:=fun s=>s.j<=x.R/\x.d.nd.toNat<=s.j,mu:=fun s=>40-s.j,lv:=fun s=>[(0,ag (hS x)),(1,aA x.k),(4,ad (s.j:Nat)),(5,ad 0),(6,aA (x.v s.j:Nat))],st:=fun _=>[wA x,F]}
 |4=>some {X:=iQ,P:=fun s=>s.j<=x.J/\s.d=jS x.d x.k x.n x.p s.j,mu:=fun s=>1000-s.j,lv:=fun s=>[(0,ag (hS x)),(1,aA x.k),(4,ad ((x.R+s.j:Nat):Int)),(5,ad (s.j:Nat)),(6,aA (x.n s.j:Nat)),(8,aA (x.m:Nat))],st:=fun s=>[E2 x s,F]}
 |6=>some {X:=iQ,P:=fun s=>x.J<=s.j/\s.j<=x.E/\s.d=jS x.d x.k x.n x.p s.j,mu:=fun s=>1000-s.j,lv:=fun s=>[(0,ag (hS x)),(1,aA x.k),(5,ad ((min s.j 800:Nat):Int)),(6,aA (x.n s.j:Nat)),(8,aA (x.m:Nat))],st:=fun s=>[E2 x s,F]}
 |_=>none
def aja(x:fU)(F:ah):Nat->Option Inv:=fun
 |13=>some {X:=Unit,P:=fun _=>True,mu:=fun _=>0,lv:=fun _=>[(0,ag (hS x)),(1,aA x.k),(4,ad (x.R:Nat)),(5,ad 0),(6,aA (x.n 0:Nat))],st:=fun _=>[wA x,F]}
 |_=>none
def ql(e0:fU)(e1:ah):=[(0,af e0.b (a7 e0.d) 158),(1,e1)]
def Q5(x:fU)(f:iQ):=(↑(x.v f.j):Int).fdiv ((2:Int)^min (x.k:Int).toNat u64.bits)==0
def Lo(e0:fU)(e1:ah)(v0 v1:Value)(a:St):=∃(z:Unit),True/\(ag (hS e0)=ag (hS e0)/\aA ↑e0.k=aA ↑e0.k/\v0=ad ↑e0.R/\ad 0=ad 0/\v1=aA (↑(e0.n 0):Int)/\True)/\aE a (ql e0 e1)
def JN(a:iQ)(x:fU):=a.j<=x.J/\a.d=jS x.d x.k x.n x.p a.j
def zj(e0:fU)(z:iQ)(e1:ah):=[(0,af e0.b (a7 z.d) 158),(1,e1)]
def PN(x:fU)(g:iQ):=a8 (u8.wrap (bf ((↑(x.n g.j):Int).fdiv ((2:Int)^min (x.k:Int).toNat u64.bits)+48)))
def Jx(e0:fU)(z:iQ):=e0.J<=z.j/\z.j<=e0.E/\z.d=jS e0.d e0.k e0.n e0.p z.j
def F1(e0:fU)(e1:ah)(v0 v1:Value)(a:St)(mm:Nat):=∃(z:iQ),Jx e0 z/\(ag (hS e0)=ag (hS e0)/\aA ↑e0.k=aA ↑e0.k/\v0=ad (↑(min z.j 800):Int)/\v1=aA (↑(e0.n z.j):Int)/\aA ↑e0.m=aA ↑e0.m/\True)/\aE a (zj e0 z e1)/\1000-z.j<mm
def HZ(x:fU)(d:iQ):=aA (bf (bf (↑(b7 (↑(x.n d.j):Int)&&& b7 (x.m:Int)).toNat:Int)*10))
def JP(d:iQ):=ad (↑(min d.j 800):Int)
theorem ajc(x:fU)(F:ah)(hc:w7.cond x)(hr:w7.aO x F):((∃(a:iQ),(a.j<=x.R/\a.j<=x.d.nd.toNat)/\(ag (hS x)=ag (hS x)/\aA ↑x.k=aA ↑x.k/\ad 0=ad ↑a.j/\ad 0=ad 0/\aA 0=aA (↑(x.v a.j):Int)/\True)/\aE (ql x F) (ql x F))/\aT fun(f:iQ)_=>(f.j<=x.R/\f.j<=x.d.nd.toNat)->Br (Q5 x f) (T1 (wA x) ⟨x.b,800,none⟩ (fun d=>aS (f.j>=d) (Br ((↑(x.v f.j):Int)==0) ((aw x.b 800/\800<(a7 x.d).length)/\ar w7 x F eC [(0,af x.b ((a7 x.d).set 800 (ad 0)) 158),(1,F)]) ((∃(a:iQ),(a.j<=x.R/\x.d.nd.toNat<=a.j)/\(ag (hS x)=ag (hS x)/\aA ↑x.k=aA ↑x.k/\ad ↑f.j=ad ↑a.j/\ad 0=ad 0/\aA (↑(x.v f.j):Int)=aA (↑(x.v a.j):Int)/\True)/\aE (ql x F) (ql x F))/\aT fun(c:iQ)_=>(c.j<=x.R/\x.d.nd.toNat<=c.j)->Br (Q5 x c) (∃(a:iQ),(a.j<=x.R/\x.d.nd.toNat<=a.j)/\(ag (hS x)=ag (hS x)/\aA ↑x.k=aA ↑x.k/\ad (bU ((c.j:Int)+1))=ad ↑a.j/\ad 0=ad 0/\aA (bf ((↑(x.v c.j):Int)*10))=aA (↑(x.v a.j):Int)/\True)/\aE (ql x F) (ql x F)/\40-a.j<40-c.j) (Lo x F (ad ↑c.j) (aA (↑(x.v c.j):Int)) (ql x F)))) ((0<=(f.j:Int)/\(f.j:Int)<(↑(800:Nat):Int))/\iR (wA x) ⟨x.b,0+(f.j:Int).toNat*1,none⟩ (fun b=>∃(a:iQ),(a.j<=x.R/\a.j<=x.d.nd.toNat)/\(ag (hS x)=ag (hS x)/\aA ↑x.k=aA ↑x.k/\ad (bU ((f.j:Int)+1))=ad ↑a.j/\ad 0=ad 0/\aA (bf (bf (bf ((↑(x.v f.j):Int)*10)+bf b)-48))=aA (↑(x.v a.j):Int)/\True)/\aE (ql x F) (ql x F)/\40-a.j<40-f.j)))) (Lo x F (ad ↑f.j) (aA (↑(x.v f.j):Int)) (ql x F)))/\aT fun(j:Unit)_=>True->T1 (wA x) ⟨x.b,801,none⟩ (fun h=>(aw x.b 801/\801<(a7 x.d).length)/\(∃(a:iQ),JN a x/\(ag (hS x)=ag (hS x)/\aA ↑x.k=aA ↑x.k/\ad ↑x.R=ad (↑(x.R+a.j):Int)/\ad 0=ad ↑a.j/\aA (↑(x.n 0):Int)=aA (↑(x.n a.j):Int)/\aA (bf (bf ((1:Int)*(2:Int)^min (x.k:Int).toNat u64.bits)-1))=aA ↑x.m/\True)/\aE [(0,af x.b ((a7 x.d).set 801 (ad (bU (h-bU ((x.R:Int)-1))))) 158),(1,F)] (zj x a F))/\aT fun(g:iQ)_=>JN g x->T1 (E2 x g) ⟨x.b,800,none⟩ (fun e=>aS ((↑(x.R+g.j):Int)<e) ((0<=(↑(x.R+g.j):Int)/\(↑(x.R+g.j):Int)<(↑(800:Nat):Int))/\iR (E2 x g) ⟨x.b,0+(↑(x.R+g.j):Int).toNat*1,none⟩ (fun b=>(0<=(g.j:Int)/\(g.j:Int)<(↑(800:Nat):Int))/\(d9 ⟨x.b,0+(g.j:Int).toNat*1,none⟩ x.b/\0+(g.j:Int).toNat*1<(a7 g.d).length)/\∃(a:iQ),JN a x/\(ag (hS x)=ag (hS x)/\aA ↑x.k=aA ↑x.k/\ad (bU ((↑(x.R+g.j):Int)+1))=ad (↑(x.R+a.j):Int)/\ad (bU ((g.j:Int)+1))=ad ↑a.j/\aA (bf (bf (bf (bf (↑(b7 (↑(x.n g.j):Int)&&& b7 (x.m:Int)).toNat:Int)*10)+bf b)-48))=aA (↑(x.n a.j):Int)/\aA ↑x.m=aA ↑x.m/\True)/\aE [(0,af x.b ((a7 g.d).set (0+(g.j:Int).toNat*1) (PN x g)) 158),(1,F)] (zj x a F)/\1000-a.j<1000-g.j)) ((∃(a:iQ),Jx x a/\(ag (hS x)=ag (hS x)/\aA ↑x.k=aA ↑x.k/\ad ↑g.j=ad (↑(min a.j 800):Int)/\aA (↑(x.n g.j):Int)=aA (↑(x.n a.j):Int)/\aA ↑x.m=aA ↑x.m/\True)/\aE (zj x g F) (zj x a F))/\aT fun(d:iQ)_=>Jx x d->aS ((↑(x.n d.j):Int)>0) (aS ((↑(min d.j 800):Int)<800) ((0<=(↑(min d.j 800):Int)/\(↑(min d.j 800):Int)<(↑(800:Nat):Int))/\(d9 ⟨x.b,0+(↑(min d.j 800):Int).toNat*1,none⟩ x.b/\0+(↑(min d.j 800):Int).toNat*1<(a7 d.d).length)/\F1 x F (ad (bU ((↑(min d.j 800):Int)+1))) (HZ x d) [(0,af x.b ((a7 d.d).set (0+(↑(min d.j 800):Int).toNat*1) (PN x d)) 158),(1,F)] (1000-d.j)) (aS ((↑(x.n d.j):Int).fdiv ((2:Int)^min (x.k:Int).toNat u64.bits)>0) ((aw x.b 803/\803<(a7 d.d).length)/\F1 x F (JP d) (HZ x d) [(0,af x.b ((a7 d.d).set 803 (aj true)) 158),(1,F)] (1000-d.j)) (F1 x F (JP d) (HZ x d) (zj x d F) (1000-d.j)))) ((aw x.b 800/\800<(a7 d.d).length)/\F0 [ag (hS x)] [af x.b ((a7 d.d).set 800 (JP d)) 158] (fun b a=>ar w7 x F eC [(0,af b.b (a7 (kl b.d)) 158),(1,F)]))))):=by
 delta hS ql Q5 T1 wA eC Lo iR JN zj E2 PN Jx F1 HZ JP iw F0 aw ad a8 aA aj ag af b7 bf bU aS ax aT;obtain⟨b,d,k⟩:=x;obtain⟨hd,X,l,Y,Z⟩:=hc;dsimp only at hd X l Y Z;have hl:=hd.len;have Ny:1<=d.nd.toNat/\d.nd.toNat<=800/\((d.nd.toNat:Nat):Int)=d.nd:=by have:=hd.pos;have:=hd.max;omega
 have y:∀i,gI d i<=9:=fun i=>by
  unfold gI;by_cases h:i<d.nd.toNat
  ·rw[if_pos h];exact hd.g9 i h
  ·rw[if_neg h];omega
 have H:1<=gI d 0:=by
  unfold gI;rw[if_pos ae];have:=hd.gP 0 ae;have:=hd.fst;unfold dE;omega
 have h2k:2^k<=1152921504606846976:=by
  have:2^k<=2^60:=mN (by decide) l;exact this
 have o:1<=2^k:=Nat.pow_pos (by decide);obtain⟨-,r2,r3,r4⟩:=RP H y l 30 0 (by decide) (fun j Q=>absurd Q (Nat.not_lt_zero j));generalize hx:(⟨b,d,k⟩:fU)=x at*;have xb:x.b=b:=by rw[<-hx]
 have xd:x.d=d:=by rw[<-hx]
 have xk:x.k=k:=by rw[<-hx]
 have xm:x.m=2^k-1:=by rw[<-hx];rfl
 have xR:u9 (gI d) k 30 0=x.R:=by rw[<-hx];rfl
 have E:∀r,x.v r=c8 (gI d) r:=by rw[<-hx];intro r;rfl
 have xJ:x.J=d.nd.toNat-x.R:=by rw[<-hx];rfl
 have xp:x.p=d.dp-((x.R:Nat)-1):=by rw[<-hx];rfl
 have S:x.n=qy (gI d) k x.R:=by rw[<-hx];rfl
 have xE:u7 x.n (k+2) x.J=x.E:=by rw[<-hx];rfl
 rw[xR]at r2 r3 r4;have U:1<=x.R:=by
  rcases Nat.eq_zero_or_pos x.R with h|h
  ·rw[h,c8]at r3;omega
  ·exact h
 have u:∀j,x.n j<10*2^k:=by rw[S];exact Wu y U (r4 _ ae)
 have A:∀i,d.nd.toNat<=i->gI d i=0:=fun i hi=>by unfold gI;rw[if_neg ae]
 have I:∀i,i<d.nd.toNat->gI d i=dE d i/\d.at_ i=((48+gI d i:Nat):Int):=fun i hi=>by
  have:=hd.gP i ae;unfold gI;rw[if_pos hi];exact⟨rfl,by unfold dE;omega⟩
 obtain⟨e1,e2,e3,e4⟩:=RO (n:=x.n) (k:=k) (J:=x.J) (by rw[S];exact Wv (fun i hi=>A _ ae)) (k+2) x.J ae (bT _) (fun i hi Q=>ae);rw[xE]at e1 e2 e3 e4;have w:∀j,x.n (j+1)=x.n j%2^k*10+gI d (x.R+j):=fun j=>by rw[S];rfl
 have O:∀r,x.v (r+1)=x.v r*10+gI d r:=fun r=>by rw[E,E];rfl
 have N:∀r,r<x.R->x.v r<2^k:=fun r hr=>by rw[E];exact r4 r hr
 have hv3:2^k<=x.v x.R:=by rw[E];exact r3
 have L:x.n 0=x.v x.R:=by rw[S,E];rfl
 rw[xb,xd,xk];have m:∀v:bq,aE [(0,.cells b (a7 v) 158),(1,F)] [(0,.cells b (a7 v) 158),(1,F)]:=fun v=>az [0,1];have P:∀a:Nat,a<=2000->int .i64 (i64.wrap ((a:Int)+1))= .int .i64 ((a+1:Nat):Int):=fun a ha=>congrArg _ (by rw[dz (i:=.i64) (n:=(a:Int)+1) aK];omega);refine⟨⟨⟨⟨0,d⟩,⟨df _,df _⟩,⟨rfl,rfl,rfl,rfl,by rw[E];rfl,ao⟩,m d⟩,?_⟩,?_⟩
 ·rintro⟨r,_⟩ R ⟨q1,q2⟩;dsimp only at q1 q2⊢;rw[Kl l];refine aG (fun q=>?_) (fun q=>?_)
  ·have B:x.v r<2^k:=by
    have:x.v r/2^k=0:=by have:=beq_iff_eq.1 q;omega
    exact(Nat.div_eq_zero_iff_lt o).1 this
   have x0:r+1<=x.R:=by
    rcases Nat.lt_or_ge r x.R with h|h
    ·exact h
    ·rw[show r=x.R by omega]at B;omega
   refine⟨_,jM hl,bo (fun q3=>aG (fun q4=>?_) (fun q4=>⟨⟨⟨r,d⟩,⟨q1,bg⟩,aV,m d⟩,?_⟩)) (fun q3=>⟨aK,d.at_ r,?_,⟨r+1,d⟩,⟨x0,bg⟩,⟨rfl,rfl,P r ae,rfl,?_,ao⟩,m d,bg⟩)⟩
   ·have:=GV (g:=gI d) r H ae;have h1:=Nat.pow_pos (n:=r-1) (show 0<10 by decide);have:=beq_iff_eq.1 q4;rw[E]at this;omega
   ·rintro⟨s,_⟩ R ⟨w1,w2⟩;dsimp only at w1 w2⊢;rw[Kl l];refine aG (fun q5=>?_) (fun q5=>?_)
    ·have B:x.v s<2^k:=by
      have:x.v s/2^k=0:=by have:=beq_iff_eq.1 q5;omega
      exact(Nat.div_eq_zero_iff_lt o).1 this
     have x2:s+1<=x.R:=by
      rcases Nat.lt_or_ge s x.R with h|h
      ·exact h
      ·rw[show s=x.R by omega]at B;omega
     refine⟨⟨s+1,d⟩,⟨x2,bg⟩,⟨rfl,rfl,P s ae,rfl,?_,ao⟩,m d,bg⟩;rw[O,A s w2,Nat.add_zero,show((x.v s:Nat):Int)*10=((x.v s*10:Nat):Int) by omega,jT ae]
    ·have hs:s=x.R:=by
      rcases Nat.lt_or_ge s x.R with h|h
      ·have:=N s h;rw[Nat.div_eq_of_lt this]at q5;exact absurd q5 (by decide)
      ·omega
     subst hs;exact⟨(),ao,⟨rfl,rfl,rfl,rfl,by rw[L],ao⟩,m d⟩
   ·rw[show 0+((r:Nat):Int).toNat*1=r by omega];exact wa hl (i:=r) ae
   ·obtain⟨g1,T⟩:=I r ae;rw[O,WY ae (y r) T]
  ·have hs:r=x.R:=by
    rcases Nat.lt_or_ge r x.R with h|h
    ·have:=N r h;rw[Nat.div_eq_of_lt this]at q;exact absurd q (by decide)
    ·omega
   subst hs;exact⟨(),ao,⟨rfl,rfl,rfl,rfl,by rw[L],ao⟩,m d⟩
 rintro _ R-;refine⟨_,kX hl,⟨aq,by rw[jg hl];decide⟩,⟨⟨0,jS d k x.n x.p 0⟩,⟨df _,rfl⟩,⟨rfl,rfl,rfl,rfl,rfl,?_,ao⟩,?_⟩,?_⟩
 ·rw[af5 l,xm]
 ·rw[zH hl,ai9 hl,xp];rw[dz (i:=.i64) (n:=(x.R:Int)-1) aK,dz (i:=.i64) (n:=d.dp-((x.R:Int)-1)) aK];exact m _
 rintro⟨j,D⟩ R ⟨Q,G⟩;dsimp only at Q G⊢;subst G;have M:∀j,x.n j/2^k<=9:=fun j=>by
  have:=u j;have:x.n j/2^k<10:=(Nat.div_lt_iff_lt_mul o).2 this;omega
 refine⟨d.nd,jM u_,bo (fun q=>?_) (fun q=>?_)⟩
 ·have x1:x.R+j<d.nd.toNat:=by omega
  obtain⟨g1,T⟩:=I (x.R+j) x1;rw[xm,Tg (by have:=u j;omega) l,Kl l,Wh (M j)];have hm:x.n j%2^k<2^k:=Nat.mod_lt _ o;rw[jT (n:=x.n j%2^k) ae];refine⟨aK,d.at_ (x.R+j),?_,aK,⟨aq,by rw[jg u_];omega⟩,⟨j+1,jS d k x.n x.p (j+1)⟩,⟨bg,rfl⟩,⟨rfl,rfl,?_,P j ae,?_,rfl,ao⟩,?_,bg⟩
  ·rw[show 0+((x.R+j:Nat):Int).toNat*1=x.R+j by omega];have:=wa (b:=b) (t:=158) (d:=jS d k x.n x.p j) u_ (i:=x.R+j) ae;have e:(jS d k x.n x.p j).at_ (x.R+j)=d.at_ (x.R+j):=by
    unfold bq.at_ jS;dsimp only;rw[N8 ae];unfold lQ;rw[bF (show ¬x.R+j<j by omega)];rfl
   rw[e]at this;exact this
  ·have:=P (x.R+j) ae;exact this
  ·rw[w,WY ae (y _) T]
  ·rw[show 0+((j:Nat):Int).toNat*1=j by omega,Wx ae];exact m _
 have W:j=x.J:=ae;subst W;refine⟨⟨⟨x.J,_⟩,⟨bT _,e2,rfl⟩,⟨rfl,rfl,?_,rfl,rfl,ao⟩,m _⟩,?_⟩
 ·rw[show min x.J 800=x.J by omega]
 rintro⟨j,D⟩ R ⟨K,V,G⟩;dsimp only at K V G⊢;subst G;refine bo (fun q=>?_) (fun q=>?_)
 ·have p:j+1<=x.E:=by
   rcases Nat.lt_or_ge j x.E with h|h
   ·exact h
   ·rw[show j=x.E by omega,e1]at q;omega
  have hz:gI d (x.R+j)=0:=A _ ae;rw[xm,Tg (by have:=u j;omega) l,Kl l,Wh (M j)];have hm:x.n j%2^k<2^k:=Nat.mod_lt _ o;have C:int .u64 (u64.wrap (u64.wrap ((x.n j%2^k:Nat):Int)*10))= .int .u64 (x.n (j+1):Nat):=by
   rw[jT (n:=x.n j%2^k) ae,show((x.n j%2^k:Nat):Int)*10=((x.n j%2^k*10:Nat):Int) by omega,jT ae,w,hz,Nat.add_zero]
  refine bo (fun q1=>⟨aK,⟨aq,by rw[jg u_];omega⟩,⟨j+1,jS d k x.n x.p (j+1)⟩,⟨bg,p,rfl⟩,⟨rfl,rfl,?_,C,rfl,ao⟩,?_,bg⟩) (fun q1=>bo (fun q2=>⟨⟨aq,by rw[jg u_];decide⟩,⟨j+1,jS d k x.n x.p (j+1)⟩,⟨bg,p,rfl⟩,⟨rfl,rfl,?_,C,rfl,ao⟩,?_,bg⟩) (fun q2=>⟨⟨j+1,jS d k x.n x.p (j+1)⟩,⟨bg,p,rfl⟩,⟨rfl,rfl,?_,C,rfl,ao⟩,?_,bg⟩))
  ·rw[show min j 800=j by omega,show min (j+1) 800=j+1 by omega];exact P j ae
  ·rw[show 0+((min j 800:Nat):Int).toNat*1=j by omega,Wx ae];exact m _
  ·rw[show min j 800=800 by omega,show min (j+1) 800=800 by omega]
  ·rw[Kk u_,Ww ae,show(x.n j/2^k !=0)=true by rw[bne_iff_ne];generalize x.n j/2^k=z at q2⊢;omega,mc];exact m _
  ·rw[show min j 800=800 by omega,show min (j+1) 800=800 by omega]
  ·rw[Ww ae,show(x.n j/2^k !=0)=false by rw[bne_eq_false_iff_eq];generalize x.n j/2^k=z at q2⊢;omega,Bool.or_false];exact m _
 have p:j=x.E:=by
  rcases Nat.lt_or_ge j x.E with h|h
  ·have:=e4 j K h;omega
  ·omega
 subst p;have hs:(a7 (jS d k x.n x.p x.E)).set 800 (.int .i64 ((min x.E 800:Nat):Int))=a7 ⟨eB (lQ d k x.n x.E),(min x.E 800:Nat),x.p,d.ng,qz k x.n d.tr x.E⟩:=by
  rw[Fg u_];rfl
 refine⟨⟨aq,by rw[jg u_];decide⟩,Xb,rfl,⟨b,⟨eB (lQ d k x.n x.E),(min x.E 800:Nat),x.p,d.ng,qz k x.n d.tr x.E⟩⟩,rfl,by rw[hs],⟨sX _,bg,bg⟩,ao,fun _ _=>?_⟩;have hv:my x.d x.k=kl ⟨eB (lQ d k x.n x.E),(min x.E 800:Nat),x.p,d.ng,qz k x.n d.tr x.E⟩:=by
  rw[<-hx];rfl
 refine⟨my x.d x.k,rfl,rfl,?_⟩;rw[hv];show aE _ [(0,.cells x.b (a7 (kl _)) 158),(1,F)];rw[xb];exact m _
theorem Wy:aC 169 w7:=fo 130 Tryz.func169 (fun _ _=>[(3,2,aX),(3,3,aX),(4,1,iH 0),(5,4,iH 0),(6,1,aX),(8,2,aX),(8,3,aX),(9,1,aX),(10,1,iH 0),(11,5,bH 0),(11,6,aX),(12,1,aX),(12,3,aX),(12,4,aX),(13,3,iH 0),(13,5,aX),(13,6,aX),(14,1,aX),(14,2,aX),(15,4,iH 0),(16,1,iH 0),(17,5,bH 0),(17,6,aX),(18,2,aX),(19,2,aX),(20,3,aX),(20,4,aX),(21,1,iH 0),(22,1,aX),(22,3,aX),(22,4,aX),(23,1,aX),(24,2,aX),(25,2,aX),(27,3,aX),(27,4,aX),(28,1,iH 0),(31,1,aX),(33,1,bu tI)]) [(7,3,.w [LH.ex (0:Nat) iE.any]),(13,9,.w [LH.ex (0:Nat) iE.any]),(20,8,.w [LH.ex (0:Nat) iE.any]),(27,8,.w [LH.ex (0:Nat) iE.any]),(30,3,.w [LH.ex (0:Nat) iE.any]),(32,4,.w [LH.ex (0:Nat) iE.any])] ajb aja bA [] ajc
end
section
open Go
def qM(l:Nat):Code->Code
 | .seq a b=>match a with
  | .label d=>bif Nat.beq d l then .skip else .seq (.label d) (qM l b)
  |a=>.seq a (qM l b)
 |c=>c
def after(l:Nat):Code->Code
 | .seq a b=>match a with
  | .label c=>bif Nat.beq c l then b else after l b
  |_=>after l b
 |_=>.skip
def uh(l:Nat):Code->Bool
 | .seq a b=>match a with
  | .label c=>Nat.beq c l||uh l b
  |_=>uh l b
 |_=>false
def JQ(P:Program)(c:Code)(Q:Exit->Act->World->Prop):Nat->Exit->Act->World->Prop
 |0=>fun e a w=>match e with
  | .goto _=>False
  |e=>Q e a w
 |n+1=>fun e a w=>match e with
  | .goto l=>∃rest,findLabel c l=some rest/\rest.wp P (JQ P c Q n) a w
  |e=>Q e a w
section
variable{P:Program}{N:Nat}
variable{a:Act}{c:Code}{Q:Exit->Act->World->Prop}{K:Exit->Tm->St->Prop}{I:a_}{ds:List Deferred}{key l0 l1:Nat}{S:St}{T:Tm}{w:World}
theorem SC{n:Nat}{e:Exit}(h:∀l,e≠.goto l)(b:Q e a w):JQ P c Q n e a w:=by
 cases e with
 |goto l=>exact absurd rfl (h l)
 |_=>cases n <;> exact b
theorem WH{c:Code}{Q:Exit->Act->World->Prop}{b:Frame}{k:List Item}{cs:List Frame}:∀(n:Nat)(a:Act)(w:World)(rest:Code),rest.wp P (JQ P c Q n) a w->
  ∃e s w',Q e s w'/\Arrives P (lone (b.at a (.code rest::.inScope c::k)) cs w) b k cs e s w'
 |n,a,w,rest,h=>by
  obtain⟨e,d,g,j,f⟩:=h b (.inScope c::k) cs;cases e with
  |normal=>exact⟨.normal,d,g,by cases n <;> exact j,Steps.trans f (.one step_inScope)⟩
  |exit id=>exact⟨.exit id,d,g,by cases n <;> exact j,fun k' hk=>f k' (by simp[exitTo,hk])⟩
  |goto l=>
   cases n with
   |zero=>exact j.elim
   |succ n=>
    obtain⟨o,u,v⟩:=j;obtain⟨q,p,r,m,i⟩:=WH n d g o v;exact⟨q,p,r,m,.of_steps (f _ (by simp[gotoIn,u])) i⟩
  |ret=>exact⟨.ret,d,g,by cases n <;> exact j,f⟩
  |panic t=>exact⟨.panic t,d,g,by cases n <;> exact j,f⟩
  |outgrown=>exact⟨.outgrown,d,g,by cases n <;> exact j,f⟩
theorem ale(n:Nat)(h:c.wp P (JQ P c Q n) a w):(Code.scope c).wp P Q a w:=by
 intro b k cs;obtain⟨e,d,g,i,f⟩:=WH (b:=b) (k:=k) (cs:=cs) n a w c h;cases e with
 |normal=>exact⟨.normal,d,g,i,.head step_scope f⟩
 |exit id=>exact⟨.exit id,d,g,i,fun k' hk=>.head step_scope (f k' hk)⟩
 |goto l=>exact⟨_,d,g,i,fun k' hk=>.head step_scope (f k' hk)⟩
 |ret=>exact⟨_,d,g,i,.of_steps (.one step_scope) f⟩
 |panic j=>exact⟨_,d,g,i,.of_steps (.one step_scope) f⟩
 |outgrown=>exact⟨_,d,g,i,.of_steps (.one step_scope) f⟩
theorem CJ{H:jc}{x y:Code}(h:E P N H (.seq x y) key T S K):
  ∃a:Exit->Tm->St->Prop,E P N H x key T S a/\(∀e,e≠.normal->a e=K e)/\∀I w ds b w',eZ N I w ds (a .normal) b w'->eZ N I w ds (fun T S=>E P N H y key T S K) b w':=by
 simp only[E]at h;split at h
 ·exact⟨_,h,fun e c=>by cases e <;> first|rfl|exact absurd rfl c,fun _ _ _ _ _ h=>h⟩
 ·rename_i V r
  have go:∀f:V.X->Prop,(E P N H x key T S fun e T S=>match e with| .normal=>∃x,f x/\jb T (V.lv x)/\aE S (bD (V.st x))|e=>K e T S)->
    (∀x q,f x->E P N H y key (jq q (V.lv x)) (bD (V.st x)) K)->∃a:Exit->Tm->St->Prop,E P N H x key T S a/\(∀e,e≠.normal->a e=K e)/\∀I w ds b w',eZ N I w ds (a .normal) b w'->eZ N I w ds (fun T S=>E P N H y key T S K) b w':=by
   intro f hx j;refine⟨_,hx,fun e c=>by cases e <;> first|rfl|exact absurd rfl c,?_⟩;rintro I w ds b w' ⟨T',S',J,l,m,n,o,p,x,hp,c,d⟩;obtain⟨k,g,i⟩:=d.h J w' o;exact⟨_,_,k,oB l c,m,a_.le_trans n g,i,p,j x T'.z00 hp⟩
  split at h
  ·exact go _ h.1 h.2
  ·obtain⟨_,hx,j⟩:=h;exact go _ hx j
def Hn:Exit->Prop
 | .exit i=>i<1000000
 |_=>True
def h_:Code->Bool
 | .seq a b=>h_ a&&h_ b
 | .cond _ a b=>h_ a&&h_ b
 | .block i c=>Nat.blt i 1000000&&h_ c
 | .loop c=>h_ c
 | .scope c=>h_ c
 | .exit i=>Nat.blt i 1000000
 |_=>true
theorem KZ(hm:P.follows .mixedOrders=true)(H:jc):∀(c:Code){ρ:Nat->Option Nat}{key:Nat}{T:Tm}{S:St}{K:Exit->Tm->St->Prop}{a:Act}{I:a_}{w:World}{ds:List Deferred}{Q:Exit->Act->World->Prop},
  E P N H (eF ρ c) key T S K->dR N T a->a.defers=ds->Sat I S w->(∀e k w',Hn e->eZ N I w ds (K e) k w'->Q e k w')->(∀l i,ρ l=some i->1000000<=i/\∀k w',eZ N I w ds (K (.exit i)) k w'->Q (.goto l) k w')->h_ c=true->c.wp P Q a w:=by
 intro c
 induction c with
 |skip=>
  intro ρ key T S K a I w ds Q h b hd hs f g hl;exact wp_skip (f _ _ _ trivial ⟨T,S,I,b,hd,a_.le_refl I,hs,cv.refl w,h⟩)
 |exit id=>
  intro ρ key T S K a I w ds Q h b hd hs f g hl;exact wp_exit (f (.exit id) _ _ (Nat.le_of_ble_eq_true hl) ⟨T,S,I,b,hd,a_.le_refl I,hs,cv.refl w,h⟩)
 |ret=>
  intro ρ key T S K a I w ds Q h b hd hs f g hl;exact wp_ret (f _ _ _ trivial ⟨T,S,I,b,hd,a_.le_refl I,hs,cv.refl w,h⟩)
 |seq x y x7 x8=>
  intro ρ key T S K a I w ds Q h b hd hs f g hl;simp only[eF]at h;obtain⟨K',hx,hK,hN⟩:=CJ h;have o:h_ x=true/\h_ y=true:=by simpa[h_]using hl
  refine wp_seq (x7 hx b hd hs (fun e k w' j d=>?_) (fun l i m=>⟨(g l i m).1,fun k w' d=>?_⟩) o.1)
  ·cases e with
   |normal=>
    obtain⟨T',S',J,G,O,L,R,M,h6⟩:=hN _ _ _ _ _ d;exact x8 h6 G O R (fun e a w j h=>f e a w j (h.from L M)) (fun l i m=>⟨(g l i m).1,fun a w h=>(g l i m).2 a w (h.from L M)⟩) o.2
   |_=>rw[hK _ (by intro h;cases h)]at d;exact f _ _ _ j d
  ·rw[hK _ (by intro h;cases h)]at d;exact(g l i m).2 k w' d
 |cond x c1 c2 x5 x6=>
  intro ρ key T S K a I w ds Q h b hd hs f g hl;simp only[eF,E]at h;split at h
  ·rename_i t ht
   have hc:a.eval x= .bool t:=by rw[b.eval];exact ht
   refine wp_cond hc ?_;have o:h_ c1=true/\h_ c2=true:=by simpa[h_]using hl
   rcases Br.cases h with⟨rfl,hk⟩| ⟨rfl,hk⟩
   ·exact x5 hk b hd hs f g o.1
   ·exact x6 hk b hd hs f g o.2
  grind
 |block id c D=>
  intro ρ key T S K a I w ds Q h b hd hs f g hl;simp only[eF,E]at h;have o:id<1000000/\h_ c=true:=by simpa[h_]using hl
  refine wp_block (D h b hd hs (fun e k w' j d=>?_) (fun l i m=>⟨(g l i m).1,fun k w' d=>?_⟩) o.2)
  ·cases e with
   |exit i=>
    simp only[Exit.inBlock];by_cases hi:i=id
    ·subst hi;simp only[if_true];refine f _ _ _ trivial (d.mono fun T S h=>?_);simpa using h
    ·simp only[hi,if_false];refine f _ _ _ j (d.mono fun T S h=>?_);simpa[sz hi]using h
   |_=>exact f _ _ _ j d
  ·have G:=(g l i m).1;refine(g l i m).2 k w' (d.mono fun T S h=>?_);simpa[sz (show i≠id by omega)]using h
 |scope c D=>
  intro ρ key T S K a I w ds Q h b hd hs f g hl;simp only[eF,E]at h;refine wp_scope_straight (D h b hd hs (fun e k w' j d=>?_) (fun l r m=>by cases m) hl);cases e with
  |goto l=>
   obtain⟨_,_,_,_,_,_,_,_,h6⟩:=d;grind
  |_=>exact f _ _ _ j d
 |loop c D=>
  intro ρ key T S K a I w ds Q h b hd hs f g hl;simp only[eF,E]at h;split at h
  ·grind
  ·rename_i V hV
   have go:∀A:V.X->Prop,(∃x,A x/\jb T (V.lv x)/\aE S (bD (V.st x)))->(∀x F,A x->E P N H (eF ρ c) key (jq F (V.lv x)) (bD (V.st x)) fun e T S=>match e with
     | .normal=>∃y,A y/\jb T (V.lv y)/\aE S (bD (V.st y))/\V.mu y<V.mu x
     |e=>K e T S)->Code.wp P (.loop c) Q a w:=by
    rintro A ⟨x0,Z,W,s⟩ q;obtain⟨J0,B,x3⟩:=s.h I w hs;refine wp_loop_ghost (fun n k w'=>∃x F J,V.mu x=n/\A x/\dR N (jq F (V.lv x)) k/\k.defers=ds/\a_.le I J/\Sat J (bD (V.st x)) w'/\cv w w') (V.mu x0)
     ⟨x0,T.z00,J0,rfl,Z,oB b W,hd,B,x3,cv.refl w⟩ ?_
    rintro n k w' ⟨x,F,J,rfl,hp,z,U,v,x2,p⟩;refine D (q x F hp) z U x2 (fun e a2 w2 j d=>?_) (fun l i m=>⟨(g l i m).1,fun a2 w2 d=>(g l i m).2 a2 w2 (d.from v p)⟩) hl;cases e with
    |normal=>
     obtain⟨T',S',J',G,O,L,R,M,y,x1,X,u,Y⟩:=d;obtain⟨J2,C,x4⟩:=u.h J' w2 R;exact⟨V.mu y,Y,y,T'.z00,J2,rfl,x1,oB G X,O,a_.le_trans v (a_.le_trans L C),x4,p.trans M⟩
    |_=>exact f _ _ _ j (d.from v p)
   split at h
   ·exact go _ h.1 h.2
   ·obtain⟨_,hx,hy⟩:=h;exact go _ hx hy
 |region id aN TT=>
  intro ρ key T S K a I w ds Q h b hd hs f g hl;simp only[eF,E]at h;split at h
  ·exact wp_region (RK _ h b hd hs (fun a w h=>f _ a w trivial h) (fun ch a w h=>f _ a w trivial h))
  ·exact wp_region_any hm (M7 h.1 h.2 b hd (hs.heap (w':={w with drawn:=w.drawn+1}) rfl) (fun a w h=>f _ a w trivial (h.from (a_.le_refl _) aq)) (fun ch a w h=>f _ a w trivial (h.from (a_.le_refl _) aq)))
 |label l=>
  intro ρ key T S K a I w ds Q h b hd hs f g hl;exact wp_label (f _ _ _ trivial ⟨T,S,I,b,hd,a_.le_refl I,hs,cv.refl w,h⟩)
 |goto l=>
  intro ρ key T S K a I w ds Q h b hd hs f g hl;simp only[eF]at h;split at h
  ·rename_i r m
   exact wp_goto ((g l r m).2 a w ⟨T,S,I,b,hd,a_.le_refl I,hs,cv.refl w,h⟩)
  ·exact h.elim
 |_=>intro ρ key T S K a I w ds Q h;exact h.elim
theorem Sz(M:P.follows .mixedOrders=true)(H:jc)(l:Nat){ρ:Nat->Option Nat}{w0:World}:∀(c:Code){T:Tm}{S:St}{a:Act}{w:World},
  uh l c=true->E P N H (eF ρ (qM l c)) key T S K->∀J,dR N T a->a.defers=ds->a_.le I J->Sat J S w->cv w0 w->(∀f w',eZ N I w0 ds (K .normal) f w'->(after l c).wp P Q f w')->(∀e f w',e≠.normal->Hn e->eZ N I w0 ds (K e) f w'->Q e f w')->
  (∀l i,ρ l=some i->1000000<=i/\∀f w',eZ N I w0 ds (K (.exit i)) f w'->Q (.goto l) f w')->h_ c=true->c.wp P Q a w:=by
 intro c
 induction c with
 |seq x y O q=>
  intro T S a w n h J j hd g hs d G s o hl;have m:h_ x=true/\h_ y=true:=by simpa[h_]using hl
  have go:uh l y=true->qM l (.seq x y)= .seq x (qM l y)->after l (.seq x y)=after l y->Code.wp P (.seq x y) Q a w:=fun e1 v V=>by
   rw[v]at h;simp only[eF]at h;obtain⟨U,hx,r,L⟩:=CJ h;refine wp_seq ?_;refine KZ M H x hx j hd hs (fun e f w' p b=>?_) (fun l i t=>⟨(o l i t).1,fun f w' b=>?_⟩) m.1
   ·cases e with
    |normal=>
     obtain⟨T',S',u,z,A,B,C,D,F⟩:=L _ _ _ _ _ (b.from g d);exact q e1 F u z A B C D (fun f w' h=>by grind) s o m.2
    |_=>rw[r _ (by intro h;cases h)]at b;exact s _ _ _ (by intro h;cases h) p (b.from g d)
   ·rw[r _ (by intro h;cases h)]at b;exact(o l i t).2 f w' (b.from g d)
  cases x with
  |label R=>
   cases k:Nat.beq R l with
   |true=>
    simp only[qM,k,aU,eF,E]at h;have:=G a w ⟨T,S,J,j,hd,g,hs,d,h⟩;simp only[after,k,aU]at this;exact wp_seq (wp_label this)
   |false=>exact go (by simpa only[uh,k,Bool.false_or]using n) (by simp only[qM,k,aM]) (by simp only[after,k,aM])
  |_=>exact go n rfl rfl
 |_=>intro T S a w n;cases n
def Kd(l1 l0:Nat):Nat->Option Nat:=fun l=>bif Nat.beq l l1 then some 1000001 else bif Nat.beq l l0 then some 1000000 else none
def RL(l0:Nat):Nat->Option Nat:=fun l=>bif Nat.beq l l0 then some 1000000 else none
def DM(l1 l0:Nat)(c:Code):Code:=.seq (.block 1000000 (.seq (.block 1000001 (eF (Kd l1 l0) (qM l1 c))) (eF (RL l0) (qM l0 (after l1 c))))) (eF (fun _=>none) (after l0 (after l1 c)))
theorem XQ(V:P.follows .mixedOrders=true)(H:jc)(c:Code)
  (O:findLabel c l1=some (.seq .skip (after l1 c))) (M:findLabel c l0=some (.seq .skip (after l0 (after l1 c)))) (U:uh l1 c=true) (R:uh l0 (after l1 c)=true) (hx:h_ c=true) (X:h_ (after l1 c)=true) (W:h_ (after l0 (after l1 c))=true)
  (h:E P N H (DM l1 l0 c) key T S K) (u:dR N T a) (hd:a.defers=ds) (hs:Sat I S w) (Z:∀e d w',Hn e->eZ N I w ds (K e) d w'->Q e d w') (F:∀l T S,¬K (.goto l) T S):(Code.scope c).wp P Q a w:=by
 unfold DM at h;obtain⟨m,C,s,G⟩:=CJ h;have C:E P N H (.seq (.block 1000001 (eF (Kd l1 l0) (qM l1 c))) (eF (RL l0) (qM l0 (after l1 c)))) 1000000 T S (fun e T S=>match e with| .exit i=>(bif Nat.beq i 1000000 then m .normal T S else m (.exit i) T S)|e=>m e T S):=C;obtain⟨q,D,o,L⟩:=CJ C;have D:E P N H (eF (Kd l1 l0) (qM l1 c)) 1000001 T S (fun e T S=>match e with| .exit i=>(bif Nat.beq i 1000001 then q .normal T S else q (.exit i) T S)|e=>q e T S):=D;have wC:∀n d w',eZ N I w ds (m .normal) d w'->(after l0 (after l1 c)).wp P (JQ P c Q n) d w':=by
  intro n d w' t;obtain⟨T',S',J,v,x,y,z,A,B⟩:=G _ _ _ _ _ t;refine KZ V H _ B v x z (fun e a w f b=>?_) (fun l r g=>by cases g) W;cases e with
  |goto l=>obtain⟨_,_,_,_,_,_,_,_,h⟩:=b;exact absurd h (F _ _ _)
  |_=>exact SC (fun _ h=>by cases h) (Z _ _ _ f (b.from y A))
 have g1:∀n d w',eZ N I w ds (m .normal) d w'->JQ P c Q (n+1) (.goto l0) d w':=fun n d w' t=>
  ⟨_,M,wp_seq (wp_skip (wC n d w' t))⟩
 have ng:∀l d w',eZ N I w ds (m (.goto l)) d w'->False:=fun l d w' b=>by
  rw[s _ (by intro h;cases h)]at b;obtain⟨_,_,_,_,_,_,_,_,h⟩:=b;grind
 have Y:∀i,i<1000000->Nat.beq i 1000000=false:=fun i hi=>sz ae;have b1:∀i,i<1000000->Nat.beq i 1000001=false:=fun i hi=>sz ae;have k:∀n(e:Exit)d w',e≠.normal->Hn e->eZ N I w ds (m e) d w'->JQ P c Q n e d w':=by
  intro n e d w' p f b;cases e with
  |goto l=>exact(ng l d w' b).elim
  |normal=>exact absurd rfl p
  |_=>rw[s _ (by intro h;cases h)]at b;exact SC (fun _ h=>by cases h) (Z _ _ _ f b)
 have wB:∀n d w',eZ N I w ds (q .normal) d w'->(after l1 c).wp P (JQ P c Q (n+1)) d w':=by
  intro n d w' t;obtain⟨T',S',J,v,x,y,z,A,B⟩:=L _ _ _ _ _ t;refine Sz (I:=I) (w0:=w) V H l0 _ R B J v x y z A (fun d w' b=>wC _ _ _ b) (fun e d w' p f b=>?_) (fun l i g=>?_) X
  ·refine k _ e d w' p f (b.mono fun T S h=>?_);cases e with
   |exit i=>dsimp only at h;rw[Y i f]at h;exact h
   |_=>exact h
  ·unfold RL at g;cases j:Nat.beq l l0 with
   |false=>rw[j]at g;cases g
   |true=>
    rw[j]at g;cases g;rw[Nat.eq_of_beq_eq_true j];exact⟨bT _,fun d w' b=>g1 n d w' (b.mono fun T S h=>h)⟩
 refine ale 2 (Sz (I:=I) (w0:=w) V H l1 c U D I u hd (a_.le_refl I) hs (cv.refl w) (fun d w' b=>wB 1 d w' b) (fun e d w' p f b=>?_) (fun l i g=>?_) hx)
 ·refine k _ e d w' p f (b.mono fun T S h=>?_);cases e with
  |exit i=>
   dsimp only at h;rw[b1 i f,aM,o _ (by intro h;cases h)]at h;dsimp only at h;rw[Y i f]at h;exact h
  |normal=>exact absurd rfl p
  |_=>dsimp only at h;rw[o _ (by intro h;cases h)]at h;exact h
 ·unfold Kd at g;cases j:Nat.beq l l1 with
  |true=>
   rw[j]at g;cases g;rw[Nat.eq_of_beq_eq_true j];exact⟨ae,fun d w' b=>⟨_,O,wp_seq (wp_skip (wB 0 d w' (b.mono fun T S h=>h)))⟩⟩
  |false=>
   rw[j]at g;cases j:Nat.beq l l0 with
   |false=>rw[j]at g;cases g
   |true=>
    rw[j]at g;cases g;rw[Nat.eq_of_beq_eq_true j];refine⟨bT _,fun d w' b=>g1 1 d w' (b.mono fun T S h=>?_)⟩;have h:q (.exit 1000000) T S:=h;rw[o _ (by intro h;cases h)]at h;exact h
def vZ:Code->Code
 | .seq a _=>a
 |c=>c
def WF:Code->Code
 | .seq _ (.scope c)=>c
 |_=>.skip
noncomputable def abR(l1 l0:Nat)(fn:Func):Code:=.seq (eF (fun _=>none) (vZ (g_ fn))) (DM l1 l0 (WF (g_ fn)))
def MV(P:Program)(fn:Func)(a:List LH)(lv:List (Nat×Value))(R:Ending->St->Prop):Exit->Tm->St->Prop:=fun e T S=>match e with
 | .normal=>match lv with| []=>True|_::_=>rd P S (jx fn T) a fun v=>R (.returned v) S
 | .ret=>rd P S (jx fn T) a fun v=>R (.returned v) S
 | .panic b=>jb T lv/\R (.panicked b) S
 |_=>False
theorem adg(Z:P.follows .mixedOrders=true){f:FuncId}{fn b:Func}{r:Code}{C:aQ}(hf:P.funcs[f]?=some fn)(hb:fn.body=some (.seq r (.scope c)))(hN:fn.ntmps=N)(hl:∀x,(C.args x).length<=N)
  (K:findLabel c l1=some (.seq .skip (after l1 c))) (G:findLabel c l0=some (.seq .skip (after l0 (after l1 c)))) (L:uh l1 c=true) (k:uh l0 (after l1 c)=true) (X:h_ r=true) (hx:h_ c=true) (W:h_ (after l1 c)=true) (V:h_ (after l0 (after l1 c))=true)
  (D:g_ b= .seq (eF (fun _=>none) r) (DM l1 l0 c)) (R:b.results=fn.results) (H:C.X->ah->jc) (s:List LH) (lv:C.X->List (Nat×Value)) (O:∀x,lv x≠[])
  (h:∀x F,C.cond x->C.aO x F->pW P N b (H x F) s (g_ b) (mK (C.args x)) (bD (C.pre x++[F])) (lv x) (ar C x F)):jW P f C:=by
 refine⟨fun x F I w hc Q hs=>?_⟩;have j:=h x F hc Q;rw[D]at j;refine calls_of_wp hf hb ?_;rw[hN];have j:E P N (H x F) (.seq (eF (fun _=>none) r) (DM l1 l0 c)) 0 (mK (C.args x)) (bD (C.pre x++[F])) (MV P b s (lv x) (ar C x F)):=j;have key:∀(e:Exit)t w',eZ N I w [] (MV P b s (lv x) (ar C x F) e) t w'->bodyPost P fn (fun e w'=>∃y J,C.bZ x y/\e=C.val x y/\a_.le I J/\Sat J (bD (C.post x y++[F])) w'/\cv w w') e t w':=by
  rintro e a w' ⟨T,S',J,A,q,B,Y,h5,i⟩;have p:jx b T=jx fn T:=by unfold jx;rw[R]
  have out:∀(z:Ending)(g:World),g=w'->ar C x F z S'->∃y J,C.bZ x y/\z=C.val x y/\a_.le I J/\Sat J (bD (C.post x y++[F])) g/\cv w g:=by
   rintro z g rfl ⟨y,o,rfl,m⟩;obtain⟨J',n,U⟩:=m.h J g Y;exact⟨y,J',o,rfl,a_.le_trans B n,U,h5⟩
  have fin:rd P S' (jx b T) s (fun v=>ar C x F (.returned v) S')->a.defers=[]/\∃v,(results fn a.tmps).run P w'= .ok v w'/\∃y J,C.bZ x y/\returned v=C.val x y/\a_.le I J/\Sat J (bD (C.post x y++[F])) w'/\cv w w':=fun i=>by
   rw[p]at i;obtain⟨v,x0,hR⟩:=uY Y _ _ _ i;exact⟨q,v,by rw[Ci A];omega,out _ _ rfl hR⟩
  cases e with
  |normal=>
   simp only[MV]at i;cases k:lv x with
   |nil=>exact absurd k (O x)
   |cons u l=>rw[k]at i;exact fin i
  |ret=>exact fin i
  |panic ch=>exact⟨q,out _ _ rfl i.2⟩
  |_=>exact i.elim
 obtain⟨K',A,q,B⟩:=CJ j;refine wp_seq (KZ Z (H x F) r A (Fa (C.args x) (hl x)) rfl hs (fun e t w' M d=>?_) (fun l r Q=>by cases Q) X);cases e with
 |normal=>
  obtain⟨T',S',J,k1,k2,k3,k4,k5,k6⟩:=B _ _ _ _ _ d;exact XQ Z (H x F) c K G L k hx W V k6 k1 k2 k4 (fun e a w M h=>key e a w (h.from k3 k5)) (fun l T S h=>h.elim)
 |_=>rw[q _ (by intro h;cases h)]at d;exact key _ _ _ d
end
end
section
open Go
variable{ng tr:Bool}{dp nd:Int}{c:Nat×ByteArray}
theorem VS{f:Nat->Int}{i:Nat}(h:i<800):(⟨eB f,nd,dp,ng,tr⟩:bq).at_ i=f i:=by
 unfold bq.at_;dsimp only;rw[N8 h]
theorem VT{f:Nat->Int}:(⟨eB f,nd,dp,ng,tr⟩:bq).ds.length=800:=by
 dsimp only;rw[sX]
theorem W_{ds:List Int}(a:ds.getD 0 0≠48):∀n,1<=n->1<=mD ds n
 |0,h=>h
 |n+1,_=>by
  rw[mD];cases b:ds.getD n 0==48 with
  |false=>rw[aM];omega
  |true=>
   rw[aU];rcases Nat.eq_zero_or_pos n with h|h
   ·subst h;exact absurd (beq_iff_eq.1 b) a
   ·exact W_ a n h
theorem Xa{d:bq}(hl:d.ds.length=800)(c:1<=d.nd)(e:d.nd<=800)(hd:∀i:Nat,(i:Int)<d.nd->48<=d.at_ i/\d.at_ i<=57)(a:d.at_ 0≠48):(kl d).norm/\(kl d).dp=d.dp/\(kl d).ng=d.ng/\(kl d).at_ 0=d.at_ 0:=by
 have hp:=W_ (ds:=d.ds) a d.nd.toNat ae;have b:=W9 d.ds d.nd.toNat;refine⟨⟨hl,?_,?_,?_,a⟩,?_,rfl,rfl⟩
 ·show 1<=((mD d.ds d.nd.toNat:Nat):Int);omega
 ·show((mD d.ds d.nd.toNat:Nat):Int)<=800;omega
 ·intro i hi;exact hd i (by have hi:(i:Int)<((mD d.ds d.nd.toNat:Nat):Int):=hi;omega)
 ·show(bif mD d.ds d.nd.toNat==0 then 0 else d.dp)=d.dp;grind
theorem Ho{d:bq}{k:Nat}(a:Ad k c):lG d c<=k:=by
 have b:=a.Dz;have e:=a.gP.pos;unfold lG;grind
theorem Hr{d:bq}(hd:d.norm){k:Nat}(hk:1<=k)(p:Ad k c):(oy d k c).norm/\(oy d k c).dp=d.dp+(lG d c:Nat)/\(oy d k c).ng=d.ng/\(lG d c=0->d.at_ 0<(oy d k c).at_ 0):=by
 have f:=Vl hd p;have q:1<=d.nd.toNat/\d.nd.toNat<=800:=by have:=hd.pos;have:=hd.max;omega
 rw[show d.nd.toNat+lG d c=gV d c from rfl]at f;have o:1<=gV d c:=by grind
 have r:1<=d.num*2^k/10^(gV d c-1)/\d.num*2^k/10^(gV d c-1)<10:=by
  refine⟨Nat.div_pos f.1 (qj _),(Nat.div_lt_iff_lt_mul (qj _)).2 ?_⟩;rw[show 10*10^(gV d c-1)=10^gV d c by rw[Nat.mul_comm,<-Nat.pow_succ,show(gV d c-1).succ=gV d c by omega]];omega
 have m:∀i,i<gV d c->i7 d (d.num*2^k) (gV d c) 0 i=48+(d.num*2^k/10^(gV d c-1-i)%10:Nat):=fun i hi=>by
  unfold i7;simp[*]
 have b:∀i,i<800->(⟨eB (i7 d (d.num*2^k) (gV d c) 0),(min (gV d c) 800:Nat),d.dp+(lG d c:Nat),d.ng,jN d (d.num*2^k) (gV d c) 0⟩:bq).at_ i=i7 d (d.num*2^k) (gV d c) 0 i:=fun i hi=>VS hi;have a:=m 0 o;rw[Nat.sub_zero,Nat.mod_eq_of_lt r.2]at a;obtain⟨t1,t2,t3,t4⟩:=Xa (d:=⟨eB (i7 d (d.num*2^k) (gV d c) 0),(min (gV d c) 800:Nat),d.dp+(lG d c:Nat),d.ng,jN d (d.num*2^k) (gV d c) 0⟩) VT (by grind) (by grind) (fun i hi=>by
  dsimp only at hi;rw[b i ae,m i ae];omega) (by rw[b 0 ae,a];omega)
 refine⟨t1,t2,t3,fun n=>?_⟩;have e:(oy d k c).at_ 0=48+((d.num*2^k/10^(gV d c-1):Nat):Int):=by
  show(kl _).at_ 0=_;rw[t4,b 0 ae,a]
 rw[e];have hn:gV d c=d.nd.toNat:=by unfold gV;rw[n];rfl
 have l:dE d 0*10^(gV d c-1)<=d.num:=by
  have:=(AT (g:=dE d) 1 (d.nd.toNat-1) (fun i hi=>hd.g9 i ae)).1;rw[show 1+(d.nd.toNat-1)=d.nd.toNat by omega,<-hn]at this;rw[show c8 (dE d) 1=dE d 0 by show 0*10+dE d 0=_;omega]at this;rw[hn]at this⊢;exact this
 have s:=hd.gP 0 (by have:=hd.pos;omega);have t:=hd.fst;have vZ:1<=dE d 0/\d.at_ 0=((48+dE d 0:Nat):Int):=by unfold dE;omega
 have h:2<=2^k:=by
  obtain⟨j,rfl⟩:∃j,k=j+1:=⟨k-1,ae⟩;rw[Nat.pow_succ];have:1<=2^j:=Nat.pow_pos (by decide);omega
 have:dE d 0*2<=d.num*2^k/10^(gV d c-1):=by
  rw[Nat.le_div_iff_mul_le (qj _)]
  calc dE d 0*2*10^(gV d c-1)=dE d 0*10^(gV d c-1)*2:=Nat.mul_right_comm _ _ _
   _<=d.num*2^k:=Nat.mul_le_mul l h
 rw[vZ.2];omega
theorem Kg{d:bq}(hd:d.norm){k:Nat}(C:1<=k)(q:k<=60):(my d k).norm/\1<=kH d k/\kH d k<=30/\(my d k).dp=d.dp-((kH d k:Nat)-1)/\(my d k).ng=d.ng/\(kH d k=1->2^k<=dE d 0/\(my d k).at_ 0=48+(dE d 0/2^k:Nat)):=by
 have D:1<=d.nd.toNat/\d.nd.toNat<=800/\((d.nd.toNat:Nat):Int)=d.nd:=by have:=hd.pos;have:=hd.max;omega
 have g:∀i,gI d i<=9:=fun i=>by
  unfold gI;by_cases h:i<d.nd.toNat
  ·rw[if_pos h];exact hd.g9 i h
  simp[*]
 have o:1<=gI d 0:=by
  unfold gI;rw[if_pos ae];have:=hd.gP 0 ae;have:=hd.fst;unfold dE;omega
 have b:1<=2^k:=Nat.pow_pos (by decide);obtain⟨-,u,v,w⟩:=RP o g q 30 0 (by decide) (fun j t=>absurd t (Nat.not_lt_zero j));rw[show u9 (gI d) k 30 0=kH d k from rfl]at u v w;have f:1<=kH d k:=by
  rcases Nat.eq_zero_or_pos (kH d k)with h|h
  ·rw[h,c8]at v;omega
  ·exact h
 have p:∀i,d.nd.toNat<=i->gI d i=0:=fun i hi=>by unfold gI;rw[if_neg ae]
 have l:∀j,kj d k j<10*2^k:=Wu g f (w _ ae);have s:∀j,kj d k j/2^k<=9:=fun j=>by
  have:=l j;have:kj d k j/2^k<10:=(Nat.div_lt_iff_lt_mul b).2 this;omega
 obtain⟨e1,x,y,A⟩:=RO (n:=kj d k) (k:=k) (J:=d.nd.toNat-kH d k) (Wv (fun i hi=>p _ ae)) (k+2) (d.nd.toNat-kH d k) ae (bT _) (fun i hi t=>ae);rw[show u7 (kj d k) (k+2) (d.nd.toNat-kH d k)=nT d k from rfl]at e1 x y A;have F:kj d k 0=c8 (gI d) (kH d k):=rfl;have c:1<=nT d k:=by
  grind
 have m:∀i,i<nT d k->lQ d k (kj d k) (nT d k) i=48+(kj d k i/2^k:Nat):=fun i hi=>by
  unfold lQ;simp[*]
 have a:∀i,i<800->(⟨eB (lQ d k (kj d k) (nT d k)),(min (nT d k) 800:Nat),d.dp-((kH d k:Nat)-1),d.ng,qz k (kj d k) d.tr (nT d k)⟩:bq).at_ i=lQ d k (kj d k) (nT d k) i:=fun i hi=>VS hi;have r:1<=kj d k 0/2^k:=Nat.div_pos ae b;obtain⟨t1,t2,t3,t4⟩:=Xa (d:=⟨eB (lQ d k (kj d k) (nT d k)),(min (nT d k) 800:Nat),d.dp-((kH d k:Nat)-1),d.ng,qz k (kj d k) d.tr (nT d k)⟩) VT (by grind) (by grind) (fun i hi=>by
  dsimp only at hi;rw[a i ae,m i ae];have:=s i;generalize kj d k i/2^k=z at this;omega) (by
  rw[a 0 ae,m 0 c];generalize kj d k 0/2^k=z at r;omega)
 refine⟨t1,f,u,t2,t3,fun B=>?_⟩;have e:(my d k).at_ 0=48+((kj d k 0/2^k:Nat):Int):=by
  show(kl _).at_ 0=_;rw[t4,a 0 ae,m 0 c]
 have E:c8 (gI d) (kH d k)=dE d 0:=by
  rw[B];show 0*10+gI d 0=_;unfold gI;grind
 grind
def pX(lc:Nat->Nat×ByteArray):Prop:=∀k,1<=k->k<=60->Ad k (lc k)
def qE(lc:Nat->Nat×ByteArray):Nat->bq->Nat->bq
 |0,d,_=>d
 |f+1,d,n=>bif decide (60<n) then qE lc f (oy d 60 (lc 60)) (n-60) else oy d n (lc n)
def qF:Nat->bq->Nat->bq
 |0,d,_=>d
 |f+1,d,n=>bif decide (60<n) then qF f (my d 60) (n-60) else my d n
def xf:Nat:=200000
theorem Co:xf=200000:=rfl
attribute [irreducible] xf
def eh(lc:Nat->Nat×ByteArray)(d:bq)(k:Int):bq:=bif decide (0<k) then qE lc xf d k.toNat else bif decide (k<0) then qF xf d (-k).toNat else d
theorem WN{lc:Nat->Nat×ByteArray}(a:pX lc):∀f(d:bq)n,d.norm->1<=n->n<=f->(qE lc f d n).norm/\d.dp<=(qE lc f d n).dp/\(qE lc f d n).dp<=d.dp+n/\(qE lc f d n).ng=d.ng
 |0,_,_,_,h,h'=>ae
 |f+1,d,n,hd,h,h'=>by
  rw[qE];by_cases q:60<n
  ·rw[bv q,aU];obtain⟨a1,a2,a3,-⟩:=Hr hd (by decide) (a 60 (by decide) (by decide));have:=Ho (d:=d) (a 60 (by decide) (by decide));obtain⟨b,c,b3,b4⟩:=WN a f _ (n-60) a1 ae ae;exact⟨b,ae,ae,b4.trans a3⟩
  ·rw[bF q,aM];obtain⟨a1,a2,a3,-⟩:=Hr hd h (a n h ae);have:=Ho (d:=d) (a n h ae);exact⟨a1,ae,ae,a3⟩
theorem WO:∀f(d:bq)n,d.norm->1<=n->n<=f->(qF f d n).norm/\(qF f d n).dp<=d.dp/\d.dp<=(qF f d n).dp+30*n/\(qF f d n).ng=d.ng
 |0,_,_,_,h,h'=>ae
 |f+1,d,n,hd,h,h'=>by
  rw[qF];by_cases q:60<n
  ·rw[bv q,aU];obtain⟨a1,a2,a3,a4,a5,-⟩:=Kg hd (k:=60) (by decide) (by decide);obtain⟨a,b,b3,b4⟩:=WO f _ (n-60) a1 ae ae;exact⟨a,ae,ae,b4.trans a5⟩
  ·rw[bF q,aM];obtain⟨a1,a2,a3,a4,a5,-⟩:=Kg hd h ae;exact⟨a1,ae,ae,a5⟩
theorem WQ{lc:Nat->Nat×ByteArray}(a:pX lc){d:bq}(hd:d.norm){k:Int}(e: -200000<=k)(f:k<=200000):(eh lc d k).norm/\d.dp-6000000<=(eh lc d k).dp/\(eh lc d k).dp<=d.dp+200000/\(eh lc d k).ng=d.ng:=by
 unfold eh;by_cases q:0<k
 ·rw[bv q,aU];obtain⟨b,c,b3,b4⟩:=WN a xf d k.toNat hd ae (by rw[Co];omega);grind
 ·rw[bF q,aM];by_cases q:k<0
  ·rw[bv q,aU];obtain⟨b,c,b3,b4⟩:=WO xf d (-k).toNat hd ae (by rw[Co];omega);grind
  grind
structure sn where
 b:Nat
 d:bq
 k:Int
 tb:Nat->Nat
 lc:Nat->Nat×ByteArray
def lK(x:sn):Option Addr:=some ⟨x.b,0,none⟩
def pL:aQ where
 X:=sn
 Y:=bq
 args x:=[ag (lK x),ad x.k]
 pre x:=[af x.b (a7 x.d) 158]
 cond x:=x.d.norm/\pX x.lc/\ -200000<=x.k/\x.k<=200000/\ -100000000<=x.d.dp/\x.d.dp<=100000000
 aO x F:=gF x.tb x.lc F
 bZ x y:=y=eh x.lc x.d x.k
 val _ _:=.returned (.tuple #[])
 post x y:=[af x.b (a7 y) 158]
structure q_ where
 n:Nat
 d:bq
 f:Nat
def ajI(x:sn)(F:ah):Nat->Option Inv:=fun
 |1=>some {X:=q_,P:=fun s=>1<=s.n/\s.n<=s.f/\s.n<=200000/\s.d.norm/\x.d.dp<=s.d.dp/\s.d.dp+s.n<=x.d.dp+200000/\eh x.lc x.d x.k=qE x.lc s.f s.d s.n,mu:=fun s=>s.n,lv:=fun s=>[(0,ag (lK x)),(1,ad (s.n:Nat))],st:=fun s=>[af x.b (a7 s.d) 158,F]}
 |3=>some {X:=q_,P:=fun s=>1<=s.n/\s.n<=s.f/\s.n<=200000/\s.d.norm/\s.d.dp<=x.d.dp/\x.d.dp-6000000<=s.d.dp-30*s.n/\eh x.lc x.d x.k=qF s.f s.d s.n,mu:=fun s=>s.n,lv:=fun s=>[(0,ag (lK x)),(1,ad (-((s.n:Nat):Int)))],st:=fun s=>[af x.b (a7 s.d) 158,F]}
 |_=>none
def EQ(x:sn)(F:ah):=[(0,af x.b (a7 x.d) 158),(1,F)]
def Ie(a:q_)(x:sn):=1<=a.n/\a.n<=a.f/\a.n<=200000/\a.d.norm/\x.d.dp<=a.d.dp/\a.d.dp+a.n<=x.d.dp+200000/\eh x.lc x.d x.k=qE x.lc a.f a.d a.n
def zf(x:sn)(a:q_)(F:ah):=[(0,af x.b (a7 a.d) 158),(1,F)]
def Lp(aa:List Value)(pp:List ah)(rr:ah)(b:hX->bq->Prop):=aC 168 yG/\true=true/\∃(z:hX),aa=[ag (ju z),aA ↑z.k]/\pp=[af z.b (a7 z.d) 158]/\(z.d.norm/\1<=z.k/\z.k<=60/\Ad z.k (z.lc z.k)/\(-1000000000:Int)<=z.d.dp/\z.d.dp<=1000000000)/\gF z.tb z.lc rr/\∀(a:bq),a=oy z.d z.k (z.lc z.k)->b z a
def Ia(a:q_)(x:sn):=1<=a.n/\a.n<=a.f/\a.n<=200000/\a.d.norm/\a.d.dp<=x.d.dp/\x.d.dp-6000000<=a.d.dp-30*(a.n:Int)/\eh x.lc x.d x.k=qF a.f a.d a.n
def Lq(aa:List Value)(pp:List ah)(b:fU->bq->Prop):=aC 169 w7/\true=true/\∃(z:fU),aa=[ag (hS z),aA ↑z.k]/\pp=[af z.b (a7 z.d) 158]/\(z.d.norm/\1<=z.k/\z.k<=60/\(-1000000000:Int)<=z.d.dp/\z.d.dp<=1000000000)/\True/\∀(a:bq),a=my z.d z.k->b z a
theorem ajJ(x:sn)(F:ah)(z:pL.cond x)(w:pL.aO x F):T1 (af x.b (a7 x.d) 158) ⟨x.b,800,none⟩ (fun f=>Br (f==0) (ar pL x F eC (EQ x F)) (aS (x.k>0) ((∃(a:q_),Ie a x/\(ag (lK x)=ag (lK x)/\ad x.k=ad ↑a.n/\True)/\aE (EQ x F) (zf x a F))/\aT fun(e:q_)_=>Ie e x->aS ((e.n:Int)>60) (Lp [ag (lK x),aA 60] [af x.b (a7 e.d) 158] (aH (zf x e F) [0]) (fun c b=>∃(a:q_),Ie a x/\(ag (lK x)=ag (lK x)/\ad (bU ((e.n:Int)-60))=ad ↑a.n/\True)/\aE [(0,af c.b (a7 b) 158),(1,F)] (zf x a F)/\a.n<e.n)) (Lp [ag (lK x),aA (bf (e.n:Int))] [af x.b (a7 e.d) 158] (aH (zf x e F) [0]) (fun b a=>ar pL x F eC [(0,af b.b (a7 a) 158),(1,F)]))) (aS (x.k<0) ((∃(a:q_),Ia a x/\(ag (lK x)=ag (lK x)/\ad x.k=ad (-(a.n:Int))/\True)/\aE (EQ x F) (zf x a F))/\aT fun(e:q_)_=>Ia e x->aS (-(e.n:Int)<(-60:Int)) (Lq [ag (lK x),aA 60] [af x.b (a7 e.d) 158] (fun c b=>∃(a:q_),Ia a x/\(ag (lK x)=ag (lK x)/\ad (bU (-(e.n:Int)+60))=ad (-(a.n:Int))/\True)/\aE [(0,af c.b (a7 b) 158),(1,F)] (zf x a F)/\a.n<e.n)) (Lq [ag (lK x),aA (bf (bU ((0:Int)- -(e.n:Int))))] [af x.b (a7 e.d) 158] (fun b a=>ar pL x F eC [(0,af b.b (a7 a) 158),(1,F)]))) (ar pL x F eC (EQ x F))))):=by
 delta T1 eC EQ Ie lK zf ju Lp Ia hS Lq aH ad aA ag af bf bU aS ax aT;obtain⟨b,d,k,tb,lc⟩:=x;obtain⟨hd,g,r,s,t,u⟩:=z;replace w:gF tb lc F:=w;dsimp only at hd g r s t u⊢;have hl:=hd.len;have l:∀v:bq,aE [(0,.cells b (a7 v) 158),(1,F)] [(0,.cells b (a7 v) 158),(1,F)]:=fun v=>az [0,1];have rr:∀v:bq,gF tb lc (.dq (rest [(0,.cells b (a7 v) 158),(1,F)] [0])):=fun v=>w.sub (bP 1);have fin:∀v:bq,eh lc d k=v->ar pL ⟨b,d,k,tb,lc⟩ F (returned (tuple #[])) [(0,.cells b (a7 v) 158),(1,F)]:=fun v e=>
  ⟨v,e.symm,rfl,l v⟩
 refine⟨d.nd,jM hl,aG (fun q=>absurd (beq_iff_eq.1 q) (by have:=hd.pos;omega)) (fun _=>bo (fun q=>⟨⟨⟨k.toNat,d,xf⟩,⟨by grind,by dsimp only;rw[Co];omega,by simp[*],hd,cD _,by grind,by unfold eh;rw[bv (show 0<k by omega),aU]⟩,⟨rfl,congrArg _ (by grind),ao⟩,l d⟩,?_⟩) (fun q=>bo (fun q1=>⟨⟨⟨(-k).toNat,d,xf⟩,⟨by grind,by dsimp only;rw[Co];omega,by grind,hd,cD _,by grind,by unfold eh;rw[bF (show ¬0<k by omega),bv q1,aM,aU]⟩,⟨rfl,congrArg _ (by grind),ao⟩,l d⟩,?_⟩) (fun q1=>fin d (by unfold eh;rw[bF (show ¬0<k by omega),bF q1,aM,aM]))))⟩
 ·rintro⟨n,D,f⟩ A ⟨g1,m,g3,g4,o,p,h⟩;dsimp only at g1 m g3 g4 o p h⊢;obtain⟨f,rfl⟩:∃j,f=j+1:=⟨f-1,ae⟩;refine bo (fun q1=>br Vm ⟨b,D,60,tb,lc⟩ ⟨g4,by simp[*],by simp[*],g 60 (by decide) (by decide),by grind,by grind⟩ (rr D) (?_)) (fun q1=>⟨Vm,rfl,⟨b,D,n,tb,lc⟩,?_,rfl,⟨g4,g1,by grind,g n g1 ae,by grind,by grind⟩,rr D,?_⟩)
  ·rintro y rfl;obtain⟨a1,a2,a3,-⟩:=Hr g4 (by decide) (g 60 (by decide) (by decide));have:=Ho (d:=D) (g 60 (by decide) (by decide));refine⟨⟨n-60,oy D 60 (lc 60),f⟩,⟨by grind,by grind,by grind,a1,by grind,by grind,by rw[h,qE,bv (show 60<n by omega),aU]⟩,⟨rfl,congrArg _ (by rw[dz (i:=.i64) (n:=(n:Int)-60) aK];dsimp only;omega),ao⟩,l _,by grind⟩
  ·rw[jT ae]
  ·rintro y rfl;exact fin _ (by rw[h,qE,bF (show ¬60<n by omega),aM])
 ·rintro⟨n,D,f⟩ A ⟨g1,m,g3,g4,o,p,h⟩;dsimp only at g1 m g3 g4 o p h⊢;obtain⟨f,rfl⟩:∃j,f=j+1:=⟨f-1,ae⟩;refine bo (fun q1=>bO Wy ⟨b,D,60⟩ ⟨g4,by simp[*],by simp[*],by grind,by grind⟩ (?_)) (fun q1=>⟨Wy,rfl,⟨b,D,n⟩,?_,rfl,⟨g4,g1,by grind,by grind,by grind⟩,ao,?_⟩)
  ·rintro y rfl;obtain⟨a1,a2,a3,a4,a5,-⟩:=Kg g4 (k:=60) (by decide) (by decide);refine⟨⟨n-60,my D 60,f⟩,⟨by grind,by grind,by grind,a1,by grind,by grind,by rw[h,qF,bv (show 60<n by omega),aU]⟩,⟨rfl,congrArg _ (by rw[dz (i:=.i64) (n:= -(n:Int)+60) aK];dsimp only;omega),ao⟩,l _,by grind⟩
  ·have e:u64.wrap (i64.wrap (0-(-(n:Int))))=(n:Int):=by
    rw[show 0-(-(n:Int))=(n:Int) by omega,dz (i:=.i64) (n:=(n:Int)) aK,jT ae]
   rw[e]
  ·rintro y rfl;exact fin _ (by rw[h,qF,bF (show ¬60<n by omega),aM])
theorem Fh:aC 156 pL:=fo 37 Tryz.func156 (fun _ _=>[(0,3,iH 0),(3,1,bu yG),(4,1,iH 0),(5,2,aX),(5,3,bu yG),(8,1,bu w7),(9,1,iH 0),(10,2,iH 0),(10,3,aX),(10,4,bu w7)]) [] ajI aY bA [] ajJ
end
end Go.Proofs.YtdkchodgklpomaaGreatDoor
