/- Part of the proof that ParseJoins answers true at every input. -/
import Derived.Test.YtdkchodgklpomaaGreatDoorPJag
set_option linter.all false
namespace Go.Proofs.YtdkchodgklpomaaGreatDoor
set_option maxRecDepth 100000
open Go.Value (int slice string bool pointer agg tuple func float iface nilIface)
open Go.IntKind (i64 u8 u64 i32 u32 u16 i8 i16)
open Go.FloatKind (f64)
open Go.Ending (returned panicked)
section
open Go
def dc(g:Nat->Nat):Nat->Nat
 |0=>0
 |n+1=>dc g n*10+g n
theorem Ns{g:Nat->Nat}:∀n,(∀i,i<n->g i<=9)->dc g n<10^n
 |0,_=>by rw[dc];decide
 |n+1,h=>by
  have:=Ns n (fun i hi=>h i ae);have a:=h n (gZ n);rw[dc,Nat.pow_succ];omega
theorem G1{g:Nat->Nat}:∀n,1<=g 0->1<=n->10^(n-1)<=dc g n
 |0,_,h=>ae
 |1,a,_=>by show 1<=0*10+g 0;omega
 |n+2,a,_=>by
  have:=G1 (n+1) a ae;rw[dc,show n+2-1=n+1 by omega,Nat.pow_succ];rw[show n+1-1=n by omega]at this;omega
theorem A5{g:Nat->Nat}(m:Nat):∀k,(∀i,i<m+k->g i<=9)->dc g m*10^k<=dc g (m+k)/\dc g (m+k)<(dc g m+1)*10^k
 |0,_=>aL
 |k+1,h=>by
  obtain⟨a,b⟩:=A5 m k (fun i hi=>h i ae);have c:=h (m+k) ae;rw[show m+(k+1)=m+k+1 by omega,dc,Nat.pow_succ,<-Nat.mul_assoc,<-Nat.mul_assoc];omega
theorem G0{g h:Nat->Nat}:∀n,(∀i,i<n->g i=h i)->dc g n=dc h n
 |0,_=>rfl
 |n+1,e=>by rw[dc,dc,G0 n (fun i hi=>e i ae),e n (gZ n)]
theorem Up{g:Nat->Nat}:∀n r,(∀i,i<n->g i<=9)->r<n->dc g n/10^(n-1-r)%10=g r
 |0,r,_,h=>ae
 |n+1,r,h,b=>by
  have a:=h n (gZ n);by_cases e:r=n
  ·subst e;rw[show r+1-1-r=0 by omega,Nat.pow_zero,Nat.div_one,dc];omega
  ·have:=Up n r (fun i hi=>h i ae) ae;rw[show n+1-1-r=(n-1-r)+1 by omega,Nat.pow_succ,Nat.mul_comm,<-Nat.div_div_eq_div_mul,dc,show(dc g n*10+g n)/10=dc g n by omega];exact this
def dI(d:bq)(i:Nat):Nat:=(d.at_ i-48).toNat
def jn(s:ByteArray)(i:Nat):Nat:=(aF s i-48).toNat
structure bq.norm(d:bq):Prop where
 len:d.ds.length=800
 pos:1<=d.nd
 max:d.nd<=800
 gV:∀i:Nat,(i:Int)<d.nd->48<=d.at_ i/\d.at_ i<=57
 fst:d.at_ 0≠48
variable{s:ByteArray}{d:bq}
theorem bq.norm.ok(h:d.norm):d.ok:=⟨h.len,by have:=h.pos;omega,h.max⟩
def bq.num(d:bq):Nat:=dc (dI d) d.nd.toNat
theorem bq.norm.g9(h:d.norm):∀i,i<d.nd.toNat->dI d i<=9:=fun i hi=>by
 have:=h.gV i ae;unfold dI;omega
theorem bq.norm.lt(h:d.norm):d.num<10^d.nd.toNat:=Ns _ h.g9
theorem bq.norm.ge(h:d.norm):10^(d.nd.toNat-1)<=d.num:=G1 _ (by
 have:=h.gV 0 (by have:=h.pos;omega);have:=h.fst;unfold dI;omega) (by have:=h.pos;omega)
structure FP(s:ByteArray):Prop where
 gV:∀i:Nat,i<s.size->48<=aF s i/\aF s i<=57
 pos:1<=s.size
 N5:aF s ((s.size-1:Nat):Int)≠48
def th(s:ByteArray):Nat:=dc (jn s) s.size
theorem FP.g9(h:FP s):∀i,i<s.size->jn s i<=9:=fun i hi=>by
 have:=h.gV i hi;unfold jn;omega
theorem qO(n:Nat):0<10^n:=Nat.pow_pos (by decide)
theorem ahU(hd:d.norm)(hs:FP s):∀(f i:Nat),f+i=s.size->i<=d.nd.toNat->(∀j,j<i->dI d j=jn s j)->
  (ss d s f i=true->d.num*10^s.size<th s*10^d.nd.toNat)/\(ss d s f i=false->th s*10^d.nd.toNat<=d.num*10^s.size):=by
 intro f
 induction f with
 |zero=>
  intro i y hi l;have p:i=s.size:=ae;subst p;refine⟨fun h=>(by rw[ss]at h;cases h),fun _=>?_⟩;have m:=A5 (g:=dI d) s.size (d.nd.toNat-s.size) (fun j o=>hd.g9 j ae);rw[show s.size+(d.nd.toNat-s.size)=d.nd.toNat by omega,G0 _ l]at m;have n:=Nat.mul_le_mul_right (10^s.size) m.1;rw[Nat.mul_assoc,<-Nat.pow_add,show d.nd.toNat-s.size+s.size=d.nd.toNat by omega]at n;exact n
 |succ f z=>
  intro i y hi l;rw[ss];by_cases hn:(i:Int)>=d.nd
  ·rw[bw hn];refine⟨fun _=>?_,fun h=>(by cases h)⟩;have q:i=d.nd.toNat:=ae;subst q;have w:d.num=dc (jn s) d.nd.toNat:=G0 _ l;have m:=A5 (g:=jn s) d.nd.toNat (s.size-1-d.nd.toNat) (fun j o=>hs.g9 j ae);rw[show d.nd.toNat+(s.size-1-d.nd.toNat)=s.size-1 by omega]at m;have n:th s=dc (jn s) (s.size-1)*10+jn s (s.size-1):=by
    unfold th
    conv=>lhs;rw[show s.size=(s.size-1)+1 by omega,dc]
   have A:1<=jn s (s.size-1):=by
    have a:=hs.gV (s.size-1) ae;have b:=hs.N5;unfold jn;omega
   have x:d.num*10^(s.size-d.nd.toNat)<th s:=by
    rw[w,n,show s.size-d.nd.toNat=(s.size-1-d.nd.toNat)+1 by omega,Nat.pow_succ,<-Nat.mul_assoc];omega
   have r:=Nat.mul_lt_mul_of_pos_right x (qO d.nd.toNat);rw[Nat.mul_assoc,<-Nat.pow_add,show s.size-d.nd.toNat+d.nd.toNat=s.size by omega]at r;exact r
  ·rw[bF hn,aN];have a1:=hd.gV i ae;have a2:=hs.gV i ae;rw[cy];cases k:d.at_ i !=aF s (i:Int)with
   |false=>
    rw[aN];have k:d.at_ i=aF s (i:Int):=by simpa using k
    have:=z (i+1) ae ae (fun j o=>by
     by_cases e:j=i
     ·subst e;unfold dI jn;rw[k]
     ·exact l j ae)
    rw[show((i:Int)+1)=((i+1:Nat):Int) by omega];exact this
   |true=>
    rw[aU];have k:d.at_ i≠aF s (i:Int):=by simpa using k
    have e0:=G0 i l;have t:dc (dI d) (i+1)=dc (jn s) i*10+dI d i:=by rw[dc,e0]
    have u:dc (jn s) (i+1)=dc (jn s) i*10+jn s i:=by rw[dc]
    have q1:=A5 (g:=dI d) (i+1) (d.nd.toNat-(i+1)) (fun j o=>hd.g9 j ae);have q2:=A5 (g:=jn s) (i+1) (s.size-(i+1)) (fun j o=>hs.g9 j ae);rw[show i+1+(d.nd.toNat-(i+1))=d.nd.toNat by omega]at q1;rw[show i+1+(s.size-(i+1))=s.size by omega]at q2;have v:10^(d.nd.toNat-(i+1))*10^s.size=10^(s.size-(i+1))*10^d.nd.toNat:=by
     rw[<-Nat.pow_add,<-Nat.pow_add];congr 1;omega
    refine⟨fun h=>?_,fun h=>?_⟩
    ·have h:=jS h;have c:dc (dI d) (i+1)+1<=dc (jn s) (i+1):=by rw[t,u];unfold dI jn;omega
     calc d.num*10^s.size<(dc (dI d) (i+1)+1)*10^(d.nd.toNat-(i+1))*10^s.size:=Nat.mul_lt_mul_of_pos_right q1.2 (qO _)
      _<=dc (jn s) (i+1)*10^(d.nd.toNat-(i+1))*10^s.size:=Nat.mul_le_mul_right _ (Nat.mul_le_mul_right _ c)
      _=dc (jn s) (i+1)*10^(s.size-(i+1))*10^d.nd.toNat:=by rw[Nat.mul_assoc,v,<-Nat.mul_assoc]
      _<=th s*10^d.nd.toNat:=Nat.mul_le_mul_right _ q2.1
    ·have h:=G_ h;have c:dc (jn s) (i+1)+1<=dc (dI d) (i+1):=by rw[t,u];unfold dI jn;omega
     calc th s*10^d.nd.toNat<=(dc (jn s) (i+1)+1)*10^(s.size-(i+1))*10^d.nd.toNat:=Nat.mul_le_mul_right _ (Nat.le_of_lt q2.2)
      _<=dc (dI d) (i+1)*10^(s.size-(i+1))*10^d.nd.toNat:=Nat.mul_le_mul_right _ (Nat.mul_le_mul_right _ c)
      _=dc (dI d) (i+1)*10^(d.nd.toNat-(i+1))*10^s.size:=by rw[Nat.mul_assoc,<-v,<-Nat.mul_assoc]
      _<=d.num*10^s.size:=Nat.mul_le_mul_right _ q1.1
structure Ax(k:Nat)(c:Nat×ByteArray):Prop where
 gV:FP c.2
 num:th c.2=5^k
 DD:c.1+c.2.size=k+1
 yK:10^(c.2.size-1)<=5^k
 one:1<=c.1
def l9(d:bq)(c:Nat×ByteArray):Nat:=bif su d c.2 then c.1-1 else c.1
theorem VK(hd:d.norm){k:Nat}{c:Nat×ByteArray}(f:Ax k c):10^(d.nd.toNat+l9 d c-1)<=d.num*2^k/\d.num*2^k<10^(d.nd.toNat+l9 d c):=by
 have hp:=ahU hd f.gV c.2.size 0 ae (dq _) (fun j r=>ae);have p:1<=d.nd.toNat:=by have:=hd.pos;omega
 have b:th c.2<10^c.2.size:=Ns _ f.gV.g9;have q:=f.one;have m:=f.DD;have o:=f.gV.pos;rw[f.num]at hp b;have a:2^k*5^k=10^k:=by rw[<-Nat.mul_pow]
 have lo:10^(c.1-1)<=2^k:=by
  have e:10^(c.1-1)*10^c.2.size=2^k*5^k:=by rw[a,<-Nat.pow_add];congr 1;omega
  have:10^(c.1-1)*10^c.2.size<=2^k*10^c.2.size:=by rw[e];exact Nat.mul_le_mul_left _ (Nat.le_of_lt b)
  exact Nat.le_of_mul_le_mul_right this (qO _)
 have hi:2^k<=10^c.1:=by
  have e:10^c.1*10^(c.2.size-1)=2^k*5^k:=by rw[a,<-Nat.pow_add];congr 1;omega
  have:2^k*10^(c.2.size-1)<=10^c.1*10^(c.2.size-1):=by rw[e];exact Nat.mul_le_mul_left _ f.yK
  exact Nat.le_of_mul_le_mul_right this (qO _)
 unfold l9;cases l:su d c.2 with
 |true=>
  rw[aU];have i:=hp.1 l;constructor
  ·calc 10^(d.nd.toNat+(c.1-1)-1)=10^(d.nd.toNat-1)*10^(c.1-1):=by rw[<-Nat.pow_add];congr 1;omega
    _<=d.num*2^k:=Nat.mul_le_mul hd.ge lo
  ·have g:=Nat.mul_lt_mul_of_pos_right i (Nat.pow_pos (n:=k) (show 0<2 by decide));have e1:d.num*10^c.2.size*2^k=d.num*2^k*10^c.2.size:=by rw[Nat.mul_right_comm]
   have h:5^k*10^d.nd.toNat*2^k=10^(d.nd.toNat+(c.1-1))*10^c.2.size:=by
    rw[Nat.mul_right_comm,Nat.mul_comm (5^k),a,<-Nat.pow_add,<-Nat.pow_add];congr 1;omega
   rw[e1,h]at g;exact Nat.lt_of_mul_lt_mul_right g
 |false=>
  rw[aN];have i:=hp.2 l;constructor
  ·have g:=Nat.mul_le_mul_right (2^k) i;have e1:d.num*10^c.2.size*2^k=d.num*2^k*10^c.2.size:=by rw[Nat.mul_right_comm]
   have h:5^k*10^d.nd.toNat*2^k=10^(d.nd.toNat+c.1-1)*10^c.2.size:=by
    rw[Nat.mul_right_comm,Nat.mul_comm (5^k),a,<-Nat.pow_add,<-Nat.pow_add];congr 1;omega
   rw[e1,h]at g;exact Nat.le_of_mul_le_mul_right g (qO _)
  ·calc d.num*2^k<10^d.nd.toNat*2^k:=Nat.mul_lt_mul_of_pos_right hd.lt (Nat.pow_pos (by decide))
    _<=10^d.nd.toNat*10^c.1:=Nat.mul_le_mul_left _ hi
    _=10^(d.nd.toNat+c.1):=(Nat.pow_add _ _ _).symm
end
section
open Go
def eL(f:Nat->Int):List Int:=(List.range 800).map f
def jf(d:bq)(M N w j:Nat):Int:=bif decide (w<=j)&&decide (j<N) then 48+(M/10^(N-1-j)%10:Nat) else d.at_ j
def j0(d:bq)(M N w:Nat):Bool:=d.tr||(M%10^(N-max w 800)!=0)
def gN(d:bq)(M N w:Nat):bq:=⟨eL (jf d M N w),d.nd,d.dp,d.ng,j0 d M N w⟩
def g0(d:bq)(c:Nat×ByteArray):Nat:=d.nd.toNat+l9 d c
def oV(d:bq)(k:Nat)(c:Nat×ByteArray):bq:=kI ⟨eL (jf d (d.num*2^k) (g0 d c) 0),(min (g0 d c) 800:Nat),d.dp+(l9 d c:Nat),d.ng,j0 d (d.num*2^k) (g0 d c) 0⟩
theorem tG(f:Nat->Int):(eL f).length=800:=by unfold eL;simp
variable{i t:Nat}{f:Nat->Int}
theorem Ot(h:i<800):(eL f).getD i 0=f i:=by
 unfold eL;rw[ft,fV,List.getElem?_range h];rfl
theorem Bv{g:Nat->Int}(h:∀i,i<800->f i=g i):eL f=eL g:=by
 unfold eL;exact List.map_congr_left fun i hi=>h i (List.mem_range.1 hi)
theorem We(v:Int):(eL f).set i v=eL (fun j=>if j=i then v else f j):=by
 apply List.ext_getElem?;intro j;unfold eL;by_cases a:j<800
 ·rw[fV,List.getElem?_range a,List.getElem?_set,fV,List.getElem?_range a];by_cases e:i=j
  ·subst e;simp[a]
  ·simp[e,Ne.symm e]
 ·rw[pN (by simp;omega),pN (by simp;omega)]
theorem Wd{l:List Int}(h:l.length=800):l=eL (fun i=>l.getD i 0):=by
 apply List.ext_getElem?;intro j;unfold eL;by_cases a:j<800
 ·rw[fV,List.getElem?_range a];show l[j]?=some (l.getD j 0);rw[ft,fg ae];rfl
 ·rw[pN ae,pN (by simp;omega)]
section
variable{d:bq}{M N w:Nat}
theorem VI(b:1<=w)(a:w<=N)(j:Nat):jf d M N (w-1) j=if j=w-1 then 48+((M/10^(N-w)%10:Nat):Int) else jf d M N w j:=by
 unfold jf;grind
theorem af7(h:w<=800):j0 d M N (w-1)=j0 d M N w:=by
 unfold j0;grind
theorem af6(b:800<w)(a:w<=N):j0 d M N (w-1)=(j0 d M N w||(M/10^(N-w)%10 !=0)):=by
 unfold j0;rw[show max (w-1) 800=w-1 by omega,show max w 800=w by omega,show N-(w-1)=N-w+1 by omega,Nat.mod_pow_succ,Bool.or_assoc];congr 1;rw[Bool.eq_iff_iff];simp only[bne_iff_ne,Bool.or_eq_true];have hp:=qO (N-w);constructor
 ·grind
 ·rintro(h|h) e
  ·omega
  ·have:0<M/10^(N-w)%10:=Nat.pos_of_ne_zero h;have:=Nat.mul_pos hp this;omega
theorem tD:(gN d M N w).ds.length=800:=by unfold gN;dsimp only;rw[tG]
theorem VJ(c:1<=w)(b:w<=N)(a:w<=800):(aZ (gN d M N w)).set (w-1) (.int .u8 (48+(M/10^(N-w)%10:Nat)))=aZ (gN d M N (w-1)):=by
 rw[Sp tD ae];unfold gN;dsimp only;rw[We,af7 a];exact congrArg (fun l=>aZ ⟨l,d.nd,d.dp,d.ng,j0 d M N w⟩) (Bv fun i _=>(VI c b i).symm)
theorem Hz(b:800<w)(a:w<=N):gN d M N (w-1)=⟨eL (jf d M N w),d.nd,d.dp,d.ng,j0 d M N w||(M/10^(N-w)%10 !=0)⟩:=by
 unfold gN;rw[af6 b a,show eL (jf d M N (w-1))=eL (jf d M N w)from Bv fun i hi=>by rw[VI ae a,if_neg ae]]
theorem af5(hl:d.ds.length=800):gN d M N N=d:=by
 unfold gN;have a:j0 d M N N=d.tr:=by
  unfold j0;rw[show N-max N 800=0 by omega,Nat.pow_zero,Nat.mod_one];cases d.tr <;> rfl
 have b:eL (jf d M N N)=d.ds:=by
  rw[Wd hl];refine Bv fun i _=>?_;unfold jf;by_cases h:N<=i
  ·rw[bF (show ¬i<N by omega),lB];rfl
  ·rw[bF h];rfl
 rw[a,b]
end
theorem VT(D k p:Nat):((D%10^p)*2^k/10^p+D/10^p%10*2^k)/10=(D%10^(p+1))*2^k/10^(p+1)/\((D%10^p)*2^k/10^p+D/10^p%10*2^k)%10=D*2^k/10^p%10/\(D%10^p)*2^k/10^p<=2^k:=by
 have hp:=qO p;have e1:(D%10^(p+1))*2^k/10^p=(D%10^p)*2^k/10^p+D/10^p%10*2^k:=by
  rw[Nat.mod_pow_succ,Nat.add_mul,Nat.mul_assoc,Nat.add_mul_div_left _ _ hp]
 refine⟨?_,?_,?_⟩
 ·rw[<-e1,Nat.div_div_eq_div_mul,<-Nat.pow_succ]
 ·rw[<-e1];have a:D*2^k=(D%10^(p+1))*2^k+10^p*(10*(D/10^(p+1)*2^k)):=by
   conv=>lhs;rw[<-Nat.mod_add_div D (10^(p+1))]
   grind
  rw[a,Nat.add_mul_div_left _ _ hp,Nat.add_mul_mod_self_left]
 ·refine Nat.div_le_of_le_mul ?_;exact Nat.mul_le_mul_right _ (Nat.le_of_lt (Nat.mod_lt _ hp))
theorem j9{n:Nat}(h:n<18446744073709551616):u64.wrap (n:Int)=(n:Int):=dG (i:=.u64) aK
theorem R5(h:t<18446744073709551616):u64.wrap ((t:Int).tdiv 10)=((t/10:Nat):Int):=by
 rw[show(t:Int).tdiv 10=((t/10:Nat):Int)from rfl];exact j9 ae
theorem WJ(h:t<18446744073709551616):u64.wrap ((t:Int)-u64.wrap (10*u64.wrap ((t:Int).tdiv 10)))=((t%10:Nat):Int):=by
 rw[R5 h,show(10:Int)*((t/10:Nat):Int)=((10*(t/10):Nat):Int) by omega,j9 ae,show(t:Int)-((10*(t/10):Nat):Int)=((t%10:Nat):Int) by omega];exact j9 ae
theorem Ul(t:Nat):u8.wrap (u64.wrap (((t%10:Nat):Int)+48))=48+((t%10:Nat):Int):=by
 rw[dG (i:=.u64) (n:=((t%10:Nat):Int)+48) aK,dG (i:=.u8) (n:=((t%10:Nat):Int)+48) aK];omega
def Bh(kk:IntKind)(k:Nat):ln where
 X:=ux
 args x:=[.slice (some ⟨x.b,x.o,none⟩) x.len x.cap,.int kk x.n]
 cond x:=0<=x.n/\x.n<x.len
 val x:=.pointer (some ⟨x.b,x.o+x.n.toNat*k,none⟩)
theorem Vj{P:Program}{o:Oper}{x i:Operand}{t e:TypeId}{a:TypeInfo}{kk:IntKind}(k:Nat)(g:o.op= .indexAddr t x i)(l:P.underlying t=some (.slice e))(hi:P.info? e=some a)(hk:a.size=k):dR P o (Bh kk k):=by
 refine⟨fun X w ρ h j=>?_⟩;obtain⟨b,off,len,cap,n⟩:=X;obtain⟨d,f⟩:=j;dsimp only at d f;simp only[g,Op.operands,Bh]at h;obtain⟨hx,hn⟩:ρ x= .slice (some ⟨b,off,none⟩) len cap/\ρ i= .int kk n:=by grind
 have c:P.cellsOf e=a.size:=by unfold Program.cellsOf;simp[hi]
 subst hk;simp[execOp,g,hx,hn,Instr.indexAt,asIntOf,run_underlying l,run_sizeOf w hi,c,d,f,pE,Sem.run,Bh]
structure ic where
 b:Nat
 d:bq
 k:Nat
 tb:Nat->Nat
 lc:Nat->Nat×ByteArray
def B5(x:ic):=af x.b (aZ x.d) 158
def jD(x:ic):Option Addr:=some ⟨x.b,0,none⟩
def zd:aR where
 X:=ic
 Y:=bq
 args x:=[ag (jD x),az x.k]
 pre x:=[B5 x]
 cond x:=x.d.norm/\1<=x.k/\x.k<=60/\Ax x.k (x.lc x.k)/\ -1000000000<=x.d.dp/\x.d.dp<=1000000000
 aO x F:=gL x.tb x.lc F
 b_ x y:=y=oV x.d x.k (x.lc x.k)
 val _ _:=.returned (.tuple #[])
 post x y:=[af x.b (aZ y) 158]
structure kh where
 r:Nat
 w:Nat
 d:bq
def ic.M(x:ic):Nat:=x.d.num*2^x.k
def ic.N(x:ic):Nat:=g0 x.d (x.lc x.k)
def ic.e(x:ic):Nat:=l9 x.d (x.lc x.k)
def ic.c(x:ic)(r:Nat):Nat:=(x.d.num%10^(x.d.nd.toNat-r))*2^x.k/10^(x.d.nd.toNat-r)
def w7(x:ic)(s:kh):=af x.b (aZ s.d) 158
def af9(x:ic)(F:ah):Nat->Option Inv:=fun
 |0=>some {X:=kh,P:=fun s=>s.r<=x.d.nd.toNat/\s.d=gN x.d x.M x.N (s.r+x.e),mu:=fun s=>s.r,lv:=fun s=>[(0,ag (jD x)),(1,az x.k),(4,ad x.e),(5,ad ((s.r:Int)-1)),(6,ad ((s.r+x.e:Nat):Int)),(7,az (x.c s.r:Nat))],st:=fun s=>[w7 x s,F]}
 |2=>some {X:=kh,P:=fun s=>s.w<=x.e/\s.d=gN x.d x.M x.N s.w,mu:=fun s=>s.w,lv:=fun s=>[(0,ag (jD x)),(4,ad x.e),(6,ad (s.w:Int)),(7,az (x.M/10^(x.N-s.w):Nat))],st:=fun s=>[w7 x s,F]}
 |_=>none
def af8(x:ic)(F:ah):Nat->Option Inv:=fun
 |3=>some {X:=Unit,P:=fun _=>True,mu:=fun _=>0,lv:=fun _=>[(0,ag (jD x)),(1,az x.k),(4,ad x.e)],st:=fun _=>[B5 x,F]}
 |27=>some {X:=kh,P:=fun s=>s.d=gN x.d x.M x.N 0,mu:=fun _=>0,lv:=fun _=>[(0,ag (jD x)),(4,ad x.e)],st:=fun s=>[w7 x s,F]}
 |30=>some {X:=kh,P:=fun s=>s.d=⟨eL (jf x.d x.M x.N 0),(min x.N 800:Nat),x.d.dp,x.d.ng,j0 x.d x.M x.N 0⟩,mu:=fun _=>0,lv:=fun _=>[(0,ag (jD x)),(4,ad x.e)],st:=fun s=>[w7 x s,F]}
 |_=>none
def LA(b:Oper)(aa:List Value)(a:ux->Prop):=dR Tryz.prog b (Bh u64 2)/\∃(z:ux),aa=[au (some ⟨z.b,z.o,none⟩) z.len z.cap,az z.n]/\(0<=z.n/\z.n<z.len)/\a z
def LB(e0:ic)(e1:ah)(v0:Value)(a:St):=∃(z:Unit),True/\(ag (jD e0)=ag (jD e0)/\az ↑e0.k=az ↑e0.k/\v0=ad ↑e0.e/\True)/\aE a [(0,af e0.b (aZ e0.d) 158),(1,e1)]
def JK(z:kh)(e0:ic):=z.r<=e0.d.nd.toNat/\z.d=gN e0.d e0.M e0.N (z.r+e0.e)
def sx(e0:ic)(z:kh)(e1:ah):=[(0,af e0.b (aZ z.d) 158),(1,e1)]
def IG(j:kh):=(-9223372036854775808:Int)<=(j.r:Int)-1-(1:Int)/\(j.r:Int)-1-(1:Int)<=(9223372036854775807:Int)
def F4(e0:ic)(e1:ah)(v0 v1 v2:Value)(a:St)(mm:Nat):=∃(z:kh),JK z e0/\(ag (jD e0)=ag (jD e0)/\az ↑e0.k=az ↑e0.k/\ad ↑e0.e=ad ↑e0.e/\v0=ad ((z.r:Int)-1)/\v1=ad (↑(z.r+e0.e):Int)/\v2=az (↑(e0.c z.r):Int)/\True)/\aE a (sx e0 z e1)/\z.r<mm
def Kb(j:kh):=ad ((j.r:Int)-1-(1:Int))
def H9(x:ic)(j:kh)(b:Int):=az (bd ((bd ((↑(x.c j.r):Int)+bd (bd (bd b-48)*2^min (x.k:Int).toNat u64.bits))).tdiv (10:Int)))
def F5(e0:ic)(e1:ah)(v0 v1:Value)(a:St)(mm:Nat):=∃(z:kh),(z.w<=e0.e/\z.d=gN e0.d e0.M e0.N z.w)/\(ag (jD e0)=ag (jD e0)/\ad ↑e0.e=ad ↑e0.e/\v0=ad ↑z.w/\v1=az (↑(e0.M/10^(e0.N-z.w)):Int)/\True)/\aE a (sx e0 z e1)/\z.w<mm
def Ja(x:ic)(c:kh):=az (bd ((↑(x.M/10^(x.N-c.w)):Int).tdiv (10:Int)))
def Rj(e0:ic):=ag (jD e0)=ag (jD e0)/\ad ↑e0.e=ad ↑e0.e/\True
def LC(e0:ic)(e1:ah)(a:St):=∃(z:kh),z.d=⟨eL (jf e0.d e0.M e0.N 0),(↑(min e0.N 800):Int),e0.d.dp,e0.d.ng,j0 e0.d e0.M e0.N 0⟩/\Rj e0/\aE a (sx e0 z e1)
def F6(aa:List Value)(pp:List ah)(a:kJ->Unit->Prop):=aD 184 uh/\true=true/\∃(z:kJ),aa=[ag (iD z)]/\pp=[af z.b (aZ z.d) 158]/\z.d.ok/\True/\∀(b:Unit),True->a z b
theorem af_(x:ic)(F:ah)(hc:zd.cond x)(hr:zd.aO x F):eA F ⟨16,0,none⟩ (fun s r q=>LA (a7 Tryz.f168 0 2) [au s r q,az ↑x.k] (fun p=>T1 F ⟨p.b,p.o+p.n.toNat*2,none⟩ (fun o=>(true=true/\T1 (B5 x) ⟨x.b,800,none⟩ (fun j=>dR Tryz.prog (a7 Tryz.f168 1 7) (Dw 800)/\∃(i:SO),[ag (jD x),ad 0,ad j]=[ag (some ⟨i.b,0,none⟩),ad 0,ad i.h]/\(0<=i.h/\i.h<=(↑(800:Nat):Int))/\eA F ⟨16,0,none⟩ (fun h g f=>LA (a7 Tryz.f168 1 10) [au h g f,az ↑x.k] (fun e=>T2 F ⟨e.b,e.o+e.n.toNat*2+1,none⟩ (fun d=>aD 183 u4/\true=true/\∃(c:v_),[au (some ⟨i.b,0,none⟩) i.h.toNat 800,ai d]=[au (vn c) c.d.nd.toNat 800,ai c.s]/\[af x.b (aZ x.d) 158]=[af c.b (aZ c.d) 158]/\(c.d.ok/\c.s.size<=1000)/\True/\∀(b:Unit),True->Br (su c.d c.s) (ou o/\LB x F (ad (o-1)) (sw c F)) (LB x F (ad o) (sw c F)))))))/\aT fun(n:Unit)_=>True->T1 (B5 x) ⟨x.b,800,none⟩ (fun l=>T1 (B5 x) ⟨x.b,800,none⟩ (fun k=>bK (k+x.e)/\ou l/\(∃(a:kh),JK a x/\(ag (jD x)=ag (jD x)/\az ↑x.k=az ↑x.k/\ad ↑x.e=ad ↑x.e/\ad (l-1)=ad ((a.r:Int)-1)/\ad (k+x.e)=ad (↑(a.r+x.e):Int)/\az 0=az (↑(x.c a.r):Int)/\True)/\aE [(0,af x.b (aZ x.d) 158),(1,F)] (sx x a F))/\aT fun(j:kh)_=>JK j x->aS ((j.r:Int)-1>=(0:Int)) ((0<=(j.r:Int)-1/\(j.r:Int)-1<(↑(800:Nat):Int))/\iZ (w7 x j) ⟨x.b,0+((j.r:Int)-1).toNat*1,none⟩ (fun b=>((-9223372036854775808:Int)<=(↑(j.r+x.e):Int)-1/\(↑(j.r+x.e):Int)-1<=(9223372036854775807:Int))/\aS ((↑(j.r+x.e):Int)-1<(800:Int)) ((0<=(↑(j.r+x.e):Int)-1/\(↑(j.r+x.e):Int)-1<(↑(800:Nat):Int))/\(ed ⟨x.b,0+((↑(j.r+x.e):Int)-1).toNat*1,none⟩ x.b/\0+((↑(j.r+x.e):Int)-1).toNat*1<(aZ j.d).length)/\IG j/\F4 x F (Kb j) (ad ((↑(j.r+x.e):Int)-1)) (H9 x j b) [(0,af x.b ((aZ j.d).set (0+((↑(j.r+x.e):Int)-1).toNat*1) (ba (u8.wrap (bd (bd (bd ((↑(x.c j.r):Int)+bd (bd (bd b-48)*2^min (x.k:Int).toNat u64.bits))-bd (10*bd ((bd ((↑(x.c j.r):Int)+bd (bd (bd b-48)*2^min (x.k:Int).toNat u64.bits))).tdiv (10:Int))))+48))))) 158),(1,F)] j.r) (Br (bd (bd ((↑(x.c j.r):Int)+bd (bd (bd b-48)*2^min (x.k:Int).toNat u64.bits))-bd (10*bd ((bd ((↑(x.c j.r):Int)+bd (bd (bd b-48)*2^min (x.k:Int).toNat u64.bits))).tdiv (10:Int))))!=0) ((aw x.b 803/\803<(aZ j.d).length)/\IG j/\F4 x F (Kb j) (ad ((↑(j.r+x.e):Int)-1)) (H9 x j b) [(0,af x.b ((aZ j.d).set 803 (aj true)) 158),(1,F)] j.r) (IG j/\F4 x F (Kb j) (ad ((↑(j.r+x.e):Int)-1)) (H9 x j b) (sx x j F) j.r)))) (((∃(a:kh),(a.w<=x.e/\a.d=gN x.d x.M x.N a.w)/\(ag (jD x)=ag (jD x)/\ad ↑x.e=ad ↑x.e/\ad (↑(j.r+x.e):Int)=ad ↑a.w/\az (↑(x.c j.r):Int)=az (↑(x.M/10^(x.N-a.w)):Int)/\True)/\aE (sx x j F) (sx x a F))/\aT fun(c:kh)_=>(c.w<=x.e/\c.d=gN x.d x.M x.N c.w)->aS ((↑(x.M/10^(x.N-c.w)):Int)>0) (((-9223372036854775808:Int)<=(c.w:Int)-1/\(c.w:Int)-1<=(9223372036854775807:Int))/\aS ((c.w:Int)-1<(800:Int)) ((0<=(c.w:Int)-1/\(c.w:Int)-1<(↑(800:Nat):Int))/\(ed ⟨x.b,0+((c.w:Int)-1).toNat*1,none⟩ x.b/\0+((c.w:Int)-1).toNat*1<(aZ c.d).length)/\F5 x F (ad ((c.w:Int)-1)) (Ja x c) [(0,af x.b ((aZ c.d).set (0+((c.w:Int)-1).toNat*1) (ba (u8.wrap (bd (bd ((↑(x.M/10^(x.N-c.w)):Int)-bd (10*bd ((↑(x.M/10^(x.N-c.w)):Int).tdiv (10:Int))))+48))))) 158),(1,F)] c.w) (Br (bd ((↑(x.M/10^(x.N-c.w)):Int)-bd (10*bd ((↑(x.M/10^(x.N-c.w)):Int).tdiv (10:Int))))!=0) ((aw x.b 803/\803<(aZ c.d).length)/\F5 x F (ad ((c.w:Int)-1)) (Ja x c) [(0,af x.b ((aZ c.d).set 803 (aj true)) 158),(1,F)] c.w) (F5 x F (ad ((c.w:Int)-1)) (Ja x c) (sx x c F) c.w))) (∃(a:kh),a.d=gN x.d x.M x.N 0/\Rj x/\aE (sx x c F) (sx x a F)))/\aT fun(h:kh)_=>h.d=gN x.d x.M x.N 0->T1 (w7 x h) ⟨x.b,800,none⟩ (fun f=>bK (f+x.e)/\(aw x.b 800/\800<(aZ h.d).length)/\T1 (af x.b ((aZ h.d).set 800 (ad (f+x.e))) 158) ⟨x.b,800,none⟩ (fun b=>aS (b>=800) ((aw x.b 800/\800<((aZ h.d).set 800 (ad (f+x.e))).length)/\LC x F [(0,af x.b (((aZ h.d).set 800 (ad (f+x.e))).set 800 (ad 800)) 158),(1,F)]) (LC x F [(0,af x.b ((aZ h.d).set 800 (ad (f+x.e))) 158),(1,F)]))/\aT fun(e:kh)_=>e.d=⟨eL (jf x.d x.M x.N 0),(↑(min x.N 800):Int),x.d.dp,x.d.ng,j0 x.d x.M x.N 0⟩->T1 (w7 x e) ⟨x.b,801,none⟩ (fun c=>bK (c+x.e)/\(aw x.b 801/\801<(aZ e.d).length)/\F6 [ag (jD x)] [af x.b ((aZ e.d).set 801 (ad (c+x.e))) 158] (fun b a=>ar zd x F eM [(0,af b.b (aZ (kI b.d)) 158),(1,F)]))))))))):=by
 delta eA LA T1 B5 jD T2 vn ou LB sw JK sx iZ w7 IG F4 Kb H9 F5 Ja Rj LC iD F6 eM aw bK ad ba az ai aj ag au af bd aS ay aT;obtain⟨b,d,k,tb,lc⟩:=x;obtain⟨hd,x4,L,m,x6,x7⟩:=hc;replace hr:gL tb lc F:=hr;dsimp only at hd x4 L m x6 x7;have hl:=hd.len;have x5:1<=d.nd.toNat/\d.nd.toNat<=800/\((d.nd.toNat:Nat):Int)=d.nd:=by have:=hd.pos;have:=hd.max;omega
 have A:=VK hd m;generalize hx:(⟨b,d,k,tb,lc⟩:ic)=x at*;have xb:x.b=b:=by rw[<-hx]
 have xd:x.d=d:=by rw[<-hx]
 have xk:x.k=k:=by rw[<-hx]
 have R:x.M=d.num*2^k:=by rw[<-hx];rfl
 have U:x.e=l9 d (lc k):=by rw[<-hx];rfl
 have S:x.N=d.nd.toNat+x.e:=by rw[<-hx];rfl
 have T:∀r,x.c r=(d.num%10^(d.nd.toNat-r))*2^k/10^(d.nd.toNat-r):=by rw[<-hx];intro r;rfl
 rw[xb,xd,xk];have hel:x.e<=60:=by
  rw[U];have W:=m.DD;have h2:=m.gV.pos;unfold l9;cases su d (lc k).2 <;> simp only[aU,aN] <;> omega
 have X:2^k<=1152921504606846976:=by
  have:2^k<=2^60:=nn (by decide) L;exact this
 rw[<-R,<-U,<-S]at A;have Z:x.M<10^x.N:=A.2;obtain⟨B,o,cp,g1,g2⟩:=hr.lc;have u:∀v:bq,aE [(0,.cells b (aZ v) 158),(1,F)] [(0,.cells b (aZ v) 158),(1,F)]:=fun v=>aA [0,1];refine⟨_,_,_,g1,Vj 2 rfl rfl rfl rfl,⟨B,o,61,cp,k⟩,rfl,hS,((lc k).1:Int),?_,⟨rfl,_,jZ hl,aaI rfl rfl rfl rfl rfl,⟨b,d.nd⟩,rfl,hS,_,_,_,g1,Vj 2 rfl rfl rfl rfl,⟨B,o,61,cp,k⟩,rfl,hS,(lc k).2,?_,ahV,rfl,⟨b,d,(lc k).2⟩,rfl,rfl,⟨hd.ok,?_⟩,ao,fun _ _=>aG (fun q=>⟨⟨?_,?_⟩,(),ao,⟨rfl,rfl,?_,ao⟩,u d⟩) (fun q=>⟨(),ao,⟨rfl,rfl,?_,ao⟩,u d⟩)⟩,fun _ P _=>?_⟩
 ·have:=(g2 k ae).1;rw[cy];exact this
 ·have:=(g2 k ae).2;rw[cy];exact this
 ·have W:=m.DD;have h2:=m.one;dsimp only;omega
 ·have:=m.one;omega
 ·have:=m.DD;omega
 ·rw[U];unfold l9;rw[show su d (lc k).2=true from q];have:=m.one;exact congrArg (int .i64) (by rw[aU];omega)
 ·rw[U];unfold l9;rw[show su d (lc k).2=false from q];rfl
 refine⟨_,jZ hl,_,jZ hl,aK,aK,⟨⟨d.nd.toNat,0,d⟩,⟨bZ _,?_⟩,⟨rfl,rfl,rfl,?_,?_,?_,ao⟩,u d⟩,?_⟩
 ·rw[<-S];exact(af5 hl).symm
 ·rw[x5.2.2]
 ·exact congrArg (int .i64) a_
 ·rw[T];dsimp only;rw[Nat.sub_self,Nat.pow_zero,Nat.mod_one,Nat.zero_mul];rfl
 rintro⟨r,_,D⟩ P ⟨NU,y⟩;dsimp only at NU y⊢;subst y;refine bo (fun q=>?_) (fun q=>?_)
 ·obtain⟨r,rfl⟩:∃j,r=j+1:=⟨r-1,ae⟩;have O:r<d.nd.toNat:=ae;obtain⟨m1,Q,m3⟩:=VT d.num k (d.nd.toNat-1-r);have x3:d.num/10^(d.nd.toNat-1-r)%10=dI d r:=Up _ _ hd.g9 O;have x2:=hd.g9 r O;have hdd:=hd.gV r ae;rw[x3]at m1 Q;have c1:x.c (r+1)=(d.num%10^(d.nd.toNat-1-r))*2^k/10^(d.nd.toNat-1-r):=by rw[T,show d.nd.toNat-(r+1)=d.nd.toNat-1-r by omega]
  have c0:x.c r=(d.num%10^(d.nd.toNat-1-r+1))*2^k/10^(d.nd.toNat-1-r+1):=by rw[T,show d.nd.toNat-r=d.nd.toNat-1-r+1 by omega]
  rw[<-c1]at m1 Q m3;rw[<-c0]at m1;rw[<-R]at Q;have x0:d.at_ r=((48+dI d r:Nat):Int):=by unfold dI;omega
  have C:(r+1+x.e)-1=r+x.e:=ae;have H:x.N-(r+1+x.e)=d.nd.toNat-1-r:=ae;have lkr:aQ (.cells b (aZ (gN d x.M x.N (r+1+x.e))) 158) ⟨b,0+(((r+1:Nat):Int)-1).toNat*1,none⟩ (.int .u8 (d.at_ r)):=by
   rw[show 0+(((r+1:Nat):Int)-1).toNat*1=r by omega];have:=wG (b:=b) (t:=158) (d:=gN d x.M x.N (r+1+x.e)) tD (i:=r) ae;have e:(gN d x.M x.N (r+1+x.e)).at_ r=d.at_ r:=by
    unfold bq.at_ gN;dsimp only;rw[Ot ae];unfold jf;rw[bF (show ¬r+1+x.e<=r by omega)];rfl
   rw[e]at this;exact this
  have amK:dI d r*2^k<=9*1152921504606846976:=Nat.mul_le_mul x2 X;have ht:x.c (r+1)+dI d r*2^k<18446744073709551616:=ae;have I:u64.wrap ((x.c (r+1):Int)+u64.wrap (u64.wrap (u64.wrap (d.at_ r)-48)*2^min (k:Int).toNat u64.bits))=((x.c (r+1)+dI d r*2^k:Nat):Int):=by
   rw[x0,j9 ae,show((48+dI d r:Nat):Int)-48=((dI d r:Nat):Int) by omega,j9 ae,cy,show min k u64.bits=k from Nat.min_eq_left (by show k<=64;omega)];rw[show((dI d r:Nat):Int)*2^k=((dI d r*2^k:Nat):Int) by rw[Int.natCast_mul,Int.natCast_pow];rfl,j9 ae,<-Int.natCast_add];exact j9 ht
  rw[show(((r+1+x.e:Nat):Int)-1)=((r+x.e:Nat):Int) by omega];have lo:(-9223372036854775808<=((r+1:Nat):Int)-1-1/\((r+1:Nat):Int)-1-1<=9223372036854775807):=aK;have E:(int .i64 (((r+1:Nat):Int)-1-1)=int .i64 ((r:Int)-1)):=congrArg _ ae;refine⟨aK,_,lkr,aK,?_⟩;rw[I,WJ ht,R5 ht,Ul,m1,Q];refine bo (fun q1=>⟨aK,⟨al,by rw[jm tD];omega⟩,lo,⟨r,0,gN d x.M x.N (r+x.e)⟩,⟨a_,rfl⟩,⟨rfl,rfl,rfl,E,rfl,rfl,ao⟩,?_,a_⟩) (fun q1=>aG (fun q2=>⟨⟨al,by rw[jm tD];decide⟩,lo,⟨r,0,gN d x.M x.N (r+x.e)⟩,⟨a_,rfl⟩,⟨rfl,rfl,rfl,E,rfl,rfl,ao⟩,?_,a_⟩) (fun q2=>⟨lo,⟨r,0,gN d x.M x.N (r+x.e)⟩,⟨a_,rfl⟩,⟨rfl,rfl,rfl,E,rfl,rfl,ao⟩,?_,a_⟩))
  ·have:=VJ (d:=d) (M:=x.M) (N:=x.N) (w:=r+1+x.e) ae ae ae;rw[C,H]at this;rw[show 0+((r+x.e:Nat):Int).toNat*1=r+x.e by omega,this];exact u _
  ·have:=Hz (d:=d) (M:=x.M) (N:=x.N) (w:=r+1+x.e) ae ae;rw[C,H]at this;rw[Ky tD,this];have q2:(((x.M/10^(d.nd.toNat-1-r)%10:Nat):Int)!=0)=true:=q2;have:(x.M/10^(d.nd.toNat-1-r)%10 !=0)=true:=by
    rw[bne_iff_ne]at q2⊢;omega
   rw[this,mJ];exact u _
  ·have:=Hz (d:=d) (M:=x.M) (N:=x.N) (w:=r+1+x.e) ae ae;rw[C,H]at this;have q2:(((x.M/10^(d.nd.toNat-1-r)%10:Nat):Int)!=0)=false:=q2;have V:(x.M/10^(d.nd.toNat-1-r)%10 !=0)=false:=by
    rw[bne_eq_false_iff_eq]at q2⊢;omega
   rw[this,V,Bool.or_false];exact u _
 ·have hr0:r=0:=by omega
  subst hr0;rw[hU];have x1:x.c 0=x.M/10^(x.N-x.e):=by
   rw[T,Nat.sub_zero,Nat.mod_eq_of_lt hd.lt,<-R,show x.N-x.e=d.nd.toNat by omega]
  have hck:x.M/10^(x.N-x.e)<=2^k:=by
   have:=(VT d.num k d.nd.toNat).2.2;rw[Nat.mod_eq_of_lt hd.lt,<-R]at this
   rwa [show x.N-x.e=d.nd.toNat by omega]
  refine⟨⟨⟨⟨0,x.e,gN d x.M x.N x.e⟩,⟨bZ _,rfl⟩,⟨rfl,rfl,rfl,by rw[x1],ao⟩,u _⟩,?_⟩,?_⟩
  ·rintro⟨_,w,D⟩ P ⟨hw,y⟩;dsimp only at hw y⊢;subst y;have hn:x.M/10^(x.N-w)<18446744073709551616:=by
    have:x.M/10^(x.N-w)<=x.M/10^(x.N-x.e):=Nat.div_le_div_left (nn (by decide) ae) (qO _);omega
   refine bo (fun q=>?_) (fun q=>?_)
   ·have C:1<=w:=by
     rcases Nat.eq_zero_or_pos w with h|h
     ·subst h;rw[Nat.sub_zero,Nat.div_eq_of_lt Z]at q;omega
     ·exact h
    have hq:x.M/10^(x.N-w)/10=x.M/10^(x.N-(w-1)):=by
     rw[Nat.div_div_eq_div_mul,<-Nat.pow_succ,show x.N-(w-1)=x.N-w+1 by omega]
    rw[WJ hn,R5 hn,Ul,hq,show((w:Int)-1)=((w-1:Nat):Int) by omega];refine⟨aK,bo (fun q1=>⟨aK,⟨al,by rw[jm tD];omega⟩,⟨0,w-1,gN d x.M x.N (w-1)⟩,⟨a_,rfl⟩,aV,?_,a_⟩) (fun q1=>aG (fun q2=>⟨⟨al,by rw[jm tD];decide⟩,⟨0,w-1,gN d x.M x.N (w-1)⟩,⟨a_,rfl⟩,aV,?_,a_⟩) (fun q2=>⟨⟨0,w-1,gN d x.M x.N (w-1)⟩,⟨a_,rfl⟩,aV,?_,a_⟩))⟩
    ·have:=VJ (d:=d) (M:=x.M) (N:=x.N) (w:=w) ae ae ae;rw[show 0+((w-1:Nat):Int).toNat*1=w-1 by omega,this];exact u _
    ·have:=Hz (d:=d) (M:=x.M) (N:=x.N) (w:=w) ae ae;rw[Ky tD,this];have q2:(((x.M/10^(x.N-w)%10:Nat):Int)!=0)=true:=q2;have:(x.M/10^(x.N-w)%10 !=0)=true:=by
      rw[bne_iff_ne]at q2⊢;omega
     rw[this,mJ];exact u _
    ·have:=Hz (d:=d) (M:=x.M) (N:=x.N) (w:=w) ae ae;have q2:(((x.M/10^(x.N-w)%10:Nat):Int)!=0)=false:=q2;have V:(x.M/10^(x.N-w)%10 !=0)=false:=by
      rw[bne_eq_false_iff_eq]at q2⊢;omega
     rw[this,V,Bool.or_false];exact u _
   ·have hw0:w=0:=by
     rcases Nat.eq_zero_or_pos w with h|h
     ·exact h
     ·have W:10^(x.N-w)<=x.M:=hO (nn (by decide) ae) A.1;have:=Nat.div_pos W (qO _);omega
    subst hw0;exact⟨⟨0,0,_⟩,rfl,aV,u _⟩
  rintro⟨_,_,D⟩ P y;dsimp only at y⊢;subst y;have hN0:x.N=(x.d.nd+(x.e:Int)).toNat:=by rw[S,xd];omega
  have e0:(gN d x.M x.N 0)=⟨eL (jf d x.M x.N 0),d.nd,d.dp,d.ng,j0 d x.M x.N 0⟩:=rfl;have K:∀z:bq,z=⟨eL (jf d x.M x.N 0),(min x.N 800:Nat),d.dp,d.ng,j0 d x.M x.N 0⟩->z.ds.length=800:=by
   rintro z rfl;exact tG _
  refine⟨_,jZ tD,⟨by show _<=d.nd+(x.e:Int);omega,by show d.nd+(x.e:Int)<=_;omega⟩,⟨al,by rw[jm tD];decide⟩,⟨?_,?_⟩⟩
  ·rw[e0];dsimp only;rw[Fl (tG _)];dsimp only;rw[show d.nd+(x.e:Int)=(x.N:Int) by rw[S];omega];refine⟨_,jZ (tG _),bo (fun q=>⟨⟨al,by rw[jm (tG _)];decide⟩,⟨0,0,_⟩,rfl,aV,?_⟩) (fun q=>⟨⟨0,0,_⟩,rfl,aV,?_⟩)⟩
   ·rw[Fl (tG _)];dsimp only at q⊢;rw[show min x.N 800=800 by omega];exact u _
   ·dsimp only at q⊢;rw[show min x.N 800=x.N by omega];exact u _
  ·rintro⟨_,_,D⟩ P y;dsimp only at y⊢;have G:=K D y;have J:D.dp=d.dp:=by rw[y]
   have Y:(aZ D).set 801 (.int .i64 (d.dp+(x.e:Int)))=aZ ⟨eL (jf d x.M x.N 0),(min x.N 800:Nat),d.dp+(x.e:Nat),d.ng,j0 d x.M x.N 0⟩:=by
    rw[Ac G,y]
   refine⟨D.dp,lE G,?_,⟨al,by rw[jm G];decide⟩,Xu,rfl,⟨b,⟨eL (jf d x.M x.N 0),(min x.N 800:Nat),d.dp+(x.e:Nat),d.ng,j0 d x.M x.N 0⟩⟩,rfl,by rw[J,Y],⟨tG _,a_,a_⟩,ao,fun _ _=>?_⟩
   ·rw[J];exact aK
   have hv:oV x.d x.k (x.lc x.k)=kI ⟨eL (jf d x.M x.N 0),(min x.N 800:Nat),d.dp+(x.e:Nat),d.ng,j0 d x.M x.N 0⟩:=by
    rw[<-hx];rfl
   refine⟨oV x.d x.k (x.lc x.k),rfl,rfl,?_⟩;rw[hv];show aE _ [(0,.cells x.b (aZ (kI _)) 158),(1,F)];rw[xb];exact u _
theorem VL:aD 168 zd:=fo 137 Tryz.func168 (fun _ _=>[(0,0,.q [.ex 1 .slice]),(0,2,.qo (Bh .u64 2)),(0,4,iH 1),(1,6,iH 0),(1,7,.qo (Dw 800)),(1,8,.q [.ex 1 .slice]),(1,10,.qo (Bh .u64 2)),(1,12,.q [.ex 1 .str]),(1,13,bv u4),(3,3,iH 0),(4,3,iH 0),(9,6,bH 0),(9,7,aW),(9,8,aW),(9,10,aW),(9,11,aW),(10,1,aW),(11,2,aW),(11,3,aW),(14,3,aW),(14,4,aW),(14,8,.w [.ex 0 .any]),(16,3,.w [.ex 0 .any]),(19,1,aW),(20,2,aW),(20,3,aW),(23,3,aW),(23,4,aW),(23,8,.w [.ex 0 .any]),(25,3,.w [.ex 0 .any]),(27,3,iH 0),(27,8,.w [.ex 0 .any]),(28,3,iH 0),(29,3,.w [.ex 0 .any]),(30,3,iH 0),(30,8,.w [.ex 0 .any]),(31,1,bv uh)]) [] af9 af8 bA [] af_
end
section
open Go
def gP(d:bq)(i:Nat):Nat:=if i<d.nd.toNat then dI d i else 0
def vC(g:Nat->Nat)(k:Nat):Nat->Nat->Nat
 |0,r=>r
 |f+1,r=>bif decide (dc g r<2^k) then vC g k f (r+1) else r
def rh(g:Nat->Nat)(k R:Nat):Nat->Nat
 |0=>dc g R
 |j+1=>rh g k R j%2^k*10+g (R+j)
def vB(n:Nat->Nat):Nat->Nat->Nat
 |0,j=>j
 |f+1,j=>bif n j==0 then j else vB n f (j+1)
def ri(k:Nat)(n:Nat->Nat)(t:Bool):Nat->Bool
 |0=>t
 |j+1=>ri k n t j||(decide (800<=j)&&n j/2^k !=0)
def mn(d:bq)(k:Nat)(n:Nat->Nat)(j i:Nat):Int:=bif decide (i<j) then 48+(n i/2^k:Nat) else d.at_ i
def j7(d:bq)(k:Nat)(n:Nat->Nat)(dp:Int)(j:Nat):bq:=⟨eL (mn d k n j),d.nd,dp,d.ng,ri k n d.tr j⟩
def k_(d:bq)(k:Nat):Nat:=vC (gP d) k 30 0
def kF(d:bq)(k:Nat):Nat->Nat:=rh (gP d) k (k_ d k)
def ow(d:bq)(k:Nat):Nat:=vB (kF d k) (k+2) (d.nd.toNat-k_ d k)
def mX(d:bq)(k:Nat):bq:=kI ⟨eL (mn d k (kF d k) (ow d k)),(min (ow d k) 800:Nat),d.dp-((k_ d k:Nat)-1),d.ng,ri k (kF d k) d.tr (ow d k)⟩
section
variable{g:Nat->Nat}{k:Nat}
theorem Se(a:1<=g 0)(b:∀i,g i<=9)(hk:k<=60):∀f r,f+r=30->(∀j,j<r->dc g j<2^k)->r<=vC g k f r/\vC g k f r<=30/\2^k<=dc g (vC g k f r)/\(∀j,j<vC g k f r->dc g j<2^k)
 |0,r,e,h=>by
  exfalso;have d:=h 20 ae;have l:=G1 (g:=g) 20 a (by decide);have:2^k<=2^60:=nn (by decide) hk;have e1:(2:Nat)^60=1152921504606846976:=by decide
  have c:(10:Nat)^(20-1)=10000000000000000000:=by decide
  omega
 |f+1,r,e,h=>by
  rw[vC];by_cases q:dc g r<2^k
  ·rw[bw q,aU];have:=Se a b hk f (r+1) ae (fun j m=>by
    rcases Nat.lt_or_ge j r with h'|h'
    ·exact h j h'
    ·rw[show j=r by omega];exact q)
   exact⟨ae,this.2⟩
  ·rw[bF q,aN];exact⟨bZ _,ae,ae,h⟩
variable{R:Nat}
theorem WR(a:∀i,g i<=9)(b:1<=R)(c:dc g (R-1)<2^k):∀j,rh g k R j<10*2^k
 |0=>by
  obtain⟨R,rfl⟩:∃m,R=m+1:=⟨R-1,ae⟩;rw[rh,dc];have:=a R;rw[show R+1-1=R by omega]at c;omega
 |j+1=>by
  rw[rh];have b:=a (R+j);have d:rh g k R j%2^k<2^k:=Nat.mod_lt _ (Nat.pow_pos (by decide));omega
theorem WQ{J:Nat}(a:∀i,J<=i->g (R+i)=0):∀i,i<=k->2^i ∣ rh g k R (J+i)
 |0,_=>by rw[Nat.pow_zero];exact Nat.one_dvd _
 |i+1,h=>by
  rw[show J+(i+1)=J+i+1 by omega,rh,a _ ae,Nat.add_zero];have b:=WQ a i ae;have c:2^i ∣ rh g k R (J+i)%2^k:=(Nat.dvd_mod_iff (Nat.pow_dvd_pow 2 ae)).2 b;rw[Nat.pow_succ];exact Nat.mul_dvd_mul c (by decide)
theorem WS{J:Nat}(a:∀i,J<=i->g (R+i)=0):rh g k R (J+k+1)=0:=by
 rw[rh,a _ ae,Nat.mod_eq_zero_of_dvd (WQ a k (bZ _))]
theorem Sd{n:Nat->Nat}{J:Nat}(b:n (J+k+1)=0):∀f j,f+j=J+k+2->J<=j->(∀i,J<=i->i<j->n i≠0)->n (vB n f j)=0/\j<=vB n f j/\vB n f j<=J+k+1/\∀i,J<=i->i<vB n f j->n i≠0
 |0,j,e,c,a=>by
  exact absurd b (a _ ae ae)
 |f+1,j,e,c,a=>by
  rw[vB];cases q:(n j==0)with
  |true=>rw[aU];exact⟨beq_iff_eq.1 q,bZ _,ae,a⟩
  |false=>
   have:=Sd b f (j+1) ae ae (fun i hi d=>by
    rcases Nat.lt_or_ge i j with h'|h'
    ·exact a i hi h'
    ·rw[show i=j by omega];exact ff.1 q)
   rw[aN];exact⟨this.1,ae,this.2.2⟩
end
section
variable{d:bq}{k j:Nat}{n:Nat->Nat}{p:Int}
theorem vD:(j7 d k n p j).ds.length=800:=by unfold j7;dsimp only;rw[tG]
theorem ajr(hl:d.ds.length=800):j7 d k n p 0=⟨d.ds,d.nd,p,d.ng,d.tr⟩:=by
 unfold j7;rw[show eL (mn d k n 0)=d.ds by
  conv=>rhs;rw[Wd hl]
  exact Bv fun i _=>by unfold mn;rw[bF (Nat.not_lt_zero i)];rfl]
 rfl
theorem WU(h:j<800):(aZ (j7 d k n p j)).set j (.int .u8 (48+(n j/2^k:Nat)))=aZ (j7 d k n p (j+1)):=by
 rw[Sp vD h];unfold j7;dsimp only;rw[We,ri,bF (show ¬800<=j by omega),jp,Bool.or_false];refine congrArg (fun l=>aZ ⟨l,d.nd,p,d.ng,ri k n d.tr j⟩) (Bv fun i _=>?_);unfold mn;by_cases e:i=j
 ·rw[if_pos e,e,bw (gZ j)];rfl
 ·rw[if_neg e];by_cases h:i<j
  ·rw[bw h,bw (show i<j+1 by omega)]
  ·rw[bF h,bF (show ¬i<j+1 by omega)]
theorem WT(h:800<=j):j7 d k n p (j+1)=⟨eL (mn d k n j),d.nd,p,d.ng,ri k n d.tr j||(n j/2^k !=0)⟩:=by
 unfold j7;rw[ri,bw h,Bool.true_and,show eL (mn d k n (j+1))=eL (mn d k n j)from Bv fun i hi=>by
  unfold mn;by_cases h:i<j
  ·rw[bw h,bw (show i<j+1 by omega)]
  ·omega]
theorem Kz{t k:Nat}(hk:k<=60):((t:Int).fdiv (2^min (k:Int).toNat u64.bits))=((t/2^k:Nat):Int):=by
 rw[cy,show min k u64.bits=k from Nat.min_eq_left (by show k<=64;omega),show(2:Int)^k=((2^k:Nat):Int) by rw[Int.natCast_pow];rfl,Int.fdiv_eq_ediv_of_nonneg _ (Int.natCast_nonneg _)];exact(Int.natCast_ediv _ _).symm
theorem TD{t k:Nat}(c:t<18446744073709551616)(hk:k<=60):((BitVec.ofInt u64.bits (t:Int)&&& BitVec.ofInt u64.bits ((2^k-1:Nat):Int)).toNat)=t%2^k:=by
 have b:2^k<=2^60:=nn (by decide) hk;have e1:(2:Nat)^60=1152921504606846976:=by decide
 have a:(2:Nat)^64=18446744073709551616:=by decide
 rw[BitVec.ofInt_natCast,BitVec.ofInt_natCast,BitVec.toNat_and,BitVec.toNat_ofNat,BitVec.toNat_ofNat];rw[Nat.mod_eq_of_lt (show t<2^u64.bits by show t<2^64;omega),Nat.mod_eq_of_lt (show 2^k-1<2^u64.bits by show 2^k-1<2^64;omega),Nat.and_two_pow_sub_one_eq_mod]
theorem Xi{a g:Nat}{c:Int}(d:a<1152921504606846976)(e:g<=9)(b:c=((48+g:Nat):Int)):u64.wrap (u64.wrap (u64.wrap ((a:Int)*10)+u64.wrap c)-48)=((a*10+g:Nat):Int):=by
 rw[b,j9 ae,show(a:Int)*10=((a*10:Nat):Int) by omega,j9 ae,<-Int.natCast_add,j9 ae,show((a*10+(48+g):Nat):Int)-48=((a*10+g:Nat):Int) by omega,j9 ae]
theorem WD{q:Nat}(h:q<=9):u8.wrap (u64.wrap ((q:Int)+48))=48+(q:Int):=by
 rw[dG (i:=.u64) (n:=(q:Int)+48) aK,dG (i:=.u8) (n:=(q:Int)+48) aK];omega
theorem ags{k:Nat}(hk:k<=60):u64.wrap (u64.wrap (1*2^min (k:Int).toNat u64.bits)-1)=((2^k-1:Nat):Int):=by
 have b:2^k<=2^60:=nn (by decide) hk;have e1:(2:Nat)^60=1152921504606846976:=by decide
 have a:1<=2^k:=Nat.pow_pos (by decide);rw[cy,show min k u64.bits=k from Nat.min_eq_left (by show k<=64;omega),show 1*(2:Int)^k=((2^k:Nat):Int) by rw[Int.natCast_pow,Int.one_mul];rfl,j9 ae,show((2^k:Nat):Int)-1=((2^k-1:Nat):Int) by omega,j9 ae]
end
structure gb where
 b:Nat
 d:bq
 k:Nat
def h8(x:gb):Option Addr:=some ⟨x.b,0,none⟩
def wZ(x:gb):=af x.b (aZ x.d) 158
def xD:aR where
 X:=gb
 Y:=bq
 args x:=[ag (h8 x),az x.k]
 pre x:=[wZ x]
 cond x:=x.d.norm/\1<=x.k/\x.k<=60/\ -1000000000<=x.d.dp/\x.d.dp<=1000000000
 b_ x y:=y=mX x.d x.k
 val _ _:=.returned (.tuple #[])
 post x y:=[af x.b (aZ y) 158]
 eT _ _ _ _ h:=h
structure iY where
 j:Nat
 d:bq
def gb.n(x:gb):Nat->Nat:=kF x.d x.k
def gb.R(x:gb):Nat:=k_ x.d x.k
def gb.J(x:gb):Nat:=x.d.nd.toNat-k_ x.d x.k
def gb.E(x:gb):Nat:=ow x.d x.k
def gb.p(x:gb):Int:=x.d.dp-((x.R:Nat)-1)
def gb.v(x:gb)(r:Nat):Nat:=dc (gP x.d) r
def gb.m(x:gb):Nat:=2^x.k-1
def E7(x:gb)(s:iY):=af x.b (aZ s.d) 158
def aju(x:gb)(F:ah):Nat->Option Inv:=fun
 |0=>some {X:=iY,P:=fun s=>s.j<=x.R/\s.j<=x.d.nd.toNat,mu:=fun s=>40-s.j,lv:=fun s=>[(0,ag (h8 x)),(1,az x.k),(4,ad (s.j:Nat)),(5,ad 0),(6,az (x.v s.j:Nat))],st:=fun _=>[wZ x,F]}
 |2=>some {X:=iY,P:=fun s=>s.j<=x.R/\x.d.nd.toNat<=s.j,mu:=fun s=>40-s.j,lv:=fun s=>[(0,ag (h8 x)),(1,az x.k),(4,ad (s.j:Nat)),(5,ad 0),(6,az (x.v s.j:Nat))],st:=fun _=>[wZ x,F]}
 |4=>some {X:=iY,P:=fun s=>s.j<=x.J/\s.d=j7 x.d x.k x.n x.p s.j,mu:=fun s=>1000-s.j,lv:=fun s=>[(0,ag (h8 x)),(1,az x.k),(4,ad ((x.R+s.j:Nat):Int)),(5,ad (s.j:Nat)),(6,az (x.n s.j:Nat)),(8,az (x.m:Nat))],st:=fun s=>[E7 x s,F]}
 |6=>some {X:=iY,P:=fun s=>x.J<=s.j/\s.j<=x.E/\s.d=j7 x.d x.k x.n x.p s.j,mu:=fun s=>1000-s.j,lv:=fun s=>[(0,ag (h8 x)),(1,az x.k),(5,ad ((min s.j 800:Nat):Int)),(6,az (x.n s.j:Nat)),(8,az (x.m:Nat))],st:=fun s=>[E7 x s,F]}
 |_=>none
def ajt(x:gb)(F:ah):Nat->Option Inv:=fun
 |13=>some {X:=Unit,P:=fun _=>True,mu:=fun _=>0,lv:=fun _=>[(0,ag (h8 x)),(1,az x.k),(4,ad (x.R:Nat)),(5,ad 0),(6,az (x.n 0:Nat))],st:=fun _=>[wZ x,F]}
 |_=>none
def qQ(e0:gb)(e1:ah):=[(0,af e0.b (aZ e0.d) 158),(1,e1)]
def Rr(x:gb)(f:iY):=(↑(x.v f.j):Int).fdiv ((2:Int)^min (x.k:Int).toNat u64.bits)==0
def LD(e0:gb)(e1:ah)(v0 v1:Value)(a:St):=∃(z:Unit),True/\(ag (h8 e0)=ag (h8 e0)/\az ↑e0.k=az ↑e0.k/\v0=ad ↑e0.R/\ad 0=ad 0/\v1=az (↑(e0.n 0):Int)/\True)/\aE a (qQ e0 e1)
def J6(a:iY)(x:gb):=a.j<=x.J/\a.d=j7 x.d x.k x.n x.p a.j
def zI(e0:gb)(z:iY)(e1:ah):=[(0,af e0.b (aZ z.d) 158),(1,e1)]
def P8(x:gb)(g:iY):=ba (u8.wrap (bd ((↑(x.n g.j):Int).fdiv ((2:Int)^min (x.k:Int).toNat u64.bits)+48)))
def JM(e0:gb)(z:iY):=e0.J<=z.j/\z.j<=e0.E/\z.d=j7 e0.d e0.k e0.n e0.p z.j
def F7(e0:gb)(e1:ah)(v0 v1:Value)(a:St)(mm:Nat):=∃(z:iY),JM e0 z/\(ag (h8 e0)=ag (h8 e0)/\az ↑e0.k=az ↑e0.k/\v0=ad (↑(min z.j 800):Int)/\v1=az (↑(e0.n z.j):Int)/\az ↑e0.m=az ↑e0.m/\True)/\aE a (zI e0 z e1)/\1000-z.j<mm
def Ic(x:gb)(d:iY):=az (bd (bd (↑(ce (↑(x.n d.j):Int)&&& ce (x.m:Int)).toNat:Int)*10))
def J8(d:iY):=ad (↑(min d.j 800):Int)
theorem ajv(x:gb)(F:ah)(hc:xD.cond x)(hr:xD.aO x F):((∃(a:iY),(a.j<=x.R/\a.j<=x.d.nd.toNat)/\(ag (h8 x)=ag (h8 x)/\az ↑x.k=az ↑x.k/\ad 0=ad ↑a.j/\ad 0=ad 0/\az 0=az (↑(x.v a.j):Int)/\True)/\aE (qQ x F) (qQ x F))/\aT fun(f:iY)_=>(f.j<=x.R/\f.j<=x.d.nd.toNat)->Br (Rr x f) (T1 (wZ x) ⟨x.b,800,none⟩ (fun d=>aS (f.j>=d) (Br ((↑(x.v f.j):Int)==0) ((aw x.b 800/\800<(aZ x.d).length)/\ar xD x F eM [(0,af x.b ((aZ x.d).set 800 (ad 0)) 158),(1,F)]) ((∃(a:iY),(a.j<=x.R/\x.d.nd.toNat<=a.j)/\(ag (h8 x)=ag (h8 x)/\az ↑x.k=az ↑x.k/\ad ↑f.j=ad ↑a.j/\ad 0=ad 0/\az (↑(x.v f.j):Int)=az (↑(x.v a.j):Int)/\True)/\aE (qQ x F) (qQ x F))/\aT fun(c:iY)_=>(c.j<=x.R/\x.d.nd.toNat<=c.j)->Br (Rr x c) (∃(a:iY),(a.j<=x.R/\x.d.nd.toNat<=a.j)/\(ag (h8 x)=ag (h8 x)/\az ↑x.k=az ↑x.k/\ad (bV ((c.j:Int)+1))=ad ↑a.j/\ad 0=ad 0/\az (bd ((↑(x.v c.j):Int)*10))=az (↑(x.v a.j):Int)/\True)/\aE (qQ x F) (qQ x F)/\40-a.j<40-c.j) (LD x F (ad ↑c.j) (az (↑(x.v c.j):Int)) (qQ x F)))) ((0<=(f.j:Int)/\(f.j:Int)<(↑(800:Nat):Int))/\iZ (wZ x) ⟨x.b,0+(f.j:Int).toNat*1,none⟩ (fun b=>∃(a:iY),(a.j<=x.R/\a.j<=x.d.nd.toNat)/\(ag (h8 x)=ag (h8 x)/\az ↑x.k=az ↑x.k/\ad (bV ((f.j:Int)+1))=ad ↑a.j/\ad 0=ad 0/\az (bd (bd (bd ((↑(x.v f.j):Int)*10)+bd b)-48))=az (↑(x.v a.j):Int)/\True)/\aE (qQ x F) (qQ x F)/\40-a.j<40-f.j)))) (LD x F (ad ↑f.j) (az (↑(x.v f.j):Int)) (qQ x F)))/\aT fun(j:Unit)_=>True->T1 (wZ x) ⟨x.b,801,none⟩ (fun h=>(aw x.b 801/\801<(aZ x.d).length)/\(∃(a:iY),J6 a x/\(ag (h8 x)=ag (h8 x)/\az ↑x.k=az ↑x.k/\ad ↑x.R=ad (↑(x.R+a.j):Int)/\ad 0=ad ↑a.j/\az (↑(x.n 0):Int)=az (↑(x.n a.j):Int)/\az (bd (bd ((1:Int)*(2:Int)^min (x.k:Int).toNat u64.bits)-1))=az ↑x.m/\True)/\aE [(0,af x.b ((aZ x.d).set 801 (ad (bV (h-bV ((x.R:Int)-1))))) 158),(1,F)] (zI x a F))/\aT fun(g:iY)_=>J6 g x->T1 (E7 x g) ⟨x.b,800,none⟩ (fun e=>aS ((↑(x.R+g.j):Int)<e) ((0<=(↑(x.R+g.j):Int)/\(↑(x.R+g.j):Int)<(↑(800:Nat):Int))/\iZ (E7 x g) ⟨x.b,0+(↑(x.R+g.j):Int).toNat*1,none⟩ (fun b=>(0<=(g.j:Int)/\(g.j:Int)<(↑(800:Nat):Int))/\(ed ⟨x.b,0+(g.j:Int).toNat*1,none⟩ x.b/\0+(g.j:Int).toNat*1<(aZ g.d).length)/\∃(a:iY),J6 a x/\(ag (h8 x)=ag (h8 x)/\az ↑x.k=az ↑x.k/\ad (bV ((↑(x.R+g.j):Int)+1))=ad (↑(x.R+a.j):Int)/\ad (bV ((g.j:Int)+1))=ad ↑a.j/\az (bd (bd (bd (bd (↑(ce (↑(x.n g.j):Int)&&& ce (x.m:Int)).toNat:Int)*10)+bd b)-48))=az (↑(x.n a.j):Int)/\az ↑x.m=az ↑x.m/\True)/\aE [(0,af x.b ((aZ g.d).set (0+(g.j:Int).toNat*1) (P8 x g)) 158),(1,F)] (zI x a F)/\1000-a.j<1000-g.j)) ((∃(a:iY),JM x a/\(ag (h8 x)=ag (h8 x)/\az ↑x.k=az ↑x.k/\ad ↑g.j=ad (↑(min a.j 800):Int)/\az (↑(x.n g.j):Int)=az (↑(x.n a.j):Int)/\az ↑x.m=az ↑x.m/\True)/\aE (zI x g F) (zI x a F))/\aT fun(d:iY)_=>JM x d->aS ((↑(x.n d.j):Int)>0) (aS ((↑(min d.j 800):Int)<800) ((0<=(↑(min d.j 800):Int)/\(↑(min d.j 800):Int)<(↑(800:Nat):Int))/\(ed ⟨x.b,0+(↑(min d.j 800):Int).toNat*1,none⟩ x.b/\0+(↑(min d.j 800):Int).toNat*1<(aZ d.d).length)/\F7 x F (ad (bV ((↑(min d.j 800):Int)+1))) (Ic x d) [(0,af x.b ((aZ d.d).set (0+(↑(min d.j 800):Int).toNat*1) (P8 x d)) 158),(1,F)] (1000-d.j)) (aS ((↑(x.n d.j):Int).fdiv ((2:Int)^min (x.k:Int).toNat u64.bits)>0) ((aw x.b 803/\803<(aZ d.d).length)/\F7 x F (J8 d) (Ic x d) [(0,af x.b ((aZ d.d).set 803 (aj true)) 158),(1,F)] (1000-d.j)) (F7 x F (J8 d) (Ic x d) (zI x d F) (1000-d.j)))) ((aw x.b 800/\800<(aZ d.d).length)/\F6 [ag (h8 x)] [af x.b ((aZ d.d).set 800 (J8 d)) 158] (fun b a=>ar xD x F eM [(0,af b.b (aZ (kI b.d)) 158),(1,F)]))))):=by
 delta h8 qQ Rr T1 wZ eM LD iZ J6 zI E7 P8 JM F7 Ic J8 iD F6 aw ad ba az aj ag af ce bd bV aS ay aT;obtain⟨b,d,k⟩:=x;obtain⟨hd,X,l,Y,Z⟩:=hc;dsimp only at hd X l Y Z;have hl:=hd.len;have NS:1<=d.nd.toNat/\d.nd.toNat<=800/\((d.nd.toNat:Nat):Int)=d.nd:=by have:=hd.pos;have:=hd.max;omega
 have y:∀i,gP d i<=9:=fun i=>by
  unfold gP;by_cases h:i<d.nd.toNat
  ·rw[if_pos h];exact hd.g9 i h
  ·rw[if_neg h];omega
 have H:1<=gP d 0:=by
  unfold gP;rw[if_pos ae];have:=hd.gV 0 ae;have:=hd.fst;unfold dI;omega
 have h2k:2^k<=1152921504606846976:=by
  have:2^k<=2^60:=nn (by decide) l;exact this
 have o:1<=2^k:=Nat.pow_pos (by decide);obtain⟨-,r2,r3,r4⟩:=Se H y l 30 0 (by decide) (fun j Q=>absurd Q (Nat.not_lt_zero j));generalize hx:(⟨b,d,k⟩:gb)=x at*;have xb:x.b=b:=by rw[<-hx]
 have xd:x.d=d:=by rw[<-hx]
 have xk:x.k=k:=by rw[<-hx]
 have xm:x.m=2^k-1:=by rw[<-hx];rfl
 have xR:vC (gP d) k 30 0=x.R:=by rw[<-hx];rfl
 have E:∀r,x.v r=dc (gP d) r:=by rw[<-hx];intro r;rfl
 have xJ:x.J=d.nd.toNat-x.R:=by rw[<-hx];rfl
 have xp:x.p=d.dp-((x.R:Nat)-1):=by rw[<-hx];rfl
 have S:x.n=rh (gP d) k x.R:=by rw[<-hx];rfl
 have xE:vB x.n (k+2) x.J=x.E:=by rw[<-hx];rfl
 rw[xR]at r2 r3 r4;have U:1<=x.R:=by
  rcases Nat.eq_zero_or_pos x.R with h|h
  ·rw[h,dc]at r3;omega
  ·exact h
 have u:∀j,x.n j<10*2^k:=by rw[S];exact WR y U (r4 _ ae)
 have A:∀i,d.nd.toNat<=i->gP d i=0:=fun i hi=>by unfold gP;rw[if_neg ae]
 have I:∀i,i<d.nd.toNat->gP d i=dI d i/\d.at_ i=((48+gP d i:Nat):Int):=fun i hi=>by
  have:=hd.gV i ae;unfold gP;rw[if_pos hi];exact⟨rfl,by unfold dI;omega⟩
 obtain⟨e1,e2,e3,e4⟩:=Sd (n:=x.n) (k:=k) (J:=x.J) (by rw[S];exact WS (fun i hi=>A _ ae)) (k+2) x.J ae (bZ _) (fun i hi Q=>ae);rw[xE]at e1 e2 e3 e4;have w:∀j,x.n (j+1)=x.n j%2^k*10+gP d (x.R+j):=fun j=>by rw[S];rfl
 have O:∀r,x.v (r+1)=x.v r*10+gP d r:=fun r=>by rw[E,E];rfl
 have N:∀r,r<x.R->x.v r<2^k:=fun r hr=>by rw[E];exact r4 r hr
 have hv3:2^k<=x.v x.R:=by rw[E];exact r3
 have L:x.n 0=x.v x.R:=by rw[S,E];rfl
 rw[xb,xd,xk];have m:∀v:bq,aE [(0,.cells b (aZ v) 158),(1,F)] [(0,.cells b (aZ v) 158),(1,F)]:=fun v=>aA [0,1];have P:∀a:Nat,a<=2000->int .i64 (i64.wrap ((a:Int)+1))= .int .i64 ((a+1:Nat):Int):=fun a ha=>congrArg _ (by rw[dG (i:=.i64) (n:=(a:Int)+1) aK];omega);refine⟨⟨⟨⟨0,d⟩,⟨dq _,dq _⟩,⟨rfl,rfl,rfl,rfl,by rw[E];rfl,ao⟩,m d⟩,?_⟩,?_⟩
 ·rintro⟨r,_⟩ R ⟨q1,q2⟩;dsimp only at q1 q2⊢;rw[Kz l];refine aG (fun q=>?_) (fun q=>?_)
  ·have B:x.v r<2^k:=by
    have:x.v r/2^k=0:=by have:=beq_iff_eq.1 q;omega
    exact(Nat.div_eq_zero_iff_lt o).1 this
   have x0:r+1<=x.R:=by
    rcases Nat.lt_or_ge r x.R with h|h
    ·exact h
    ·rw[show r=x.R by omega]at B;omega
   refine⟨_,jZ hl,bo (fun q3=>aG (fun q4=>?_) (fun q4=>⟨⟨⟨r,d⟩,⟨q1,a_⟩,aV,m d⟩,?_⟩)) (fun q3=>⟨aK,d.at_ r,?_,⟨r+1,d⟩,⟨x0,a_⟩,⟨rfl,rfl,P r ae,rfl,?_,ao⟩,m d,a_⟩)⟩
   ·have:=G1 (g:=gP d) r H ae;have h1:=Nat.pow_pos (n:=r-1) (show 0<10 by decide);have:=beq_iff_eq.1 q4;rw[E]at this;omega
   ·rintro⟨s,_⟩ R ⟨w1,w2⟩;dsimp only at w1 w2⊢;rw[Kz l];refine aG (fun q5=>?_) (fun q5=>?_)
    ·have B:x.v s<2^k:=by
      have:x.v s/2^k=0:=by have:=beq_iff_eq.1 q5;omega
      exact(Nat.div_eq_zero_iff_lt o).1 this
     have x2:s+1<=x.R:=by
      rcases Nat.lt_or_ge s x.R with h|h
      ·exact h
      ·rw[show s=x.R by omega]at B;omega
     refine⟨⟨s+1,d⟩,⟨x2,a_⟩,⟨rfl,rfl,P s ae,rfl,?_,ao⟩,m d,a_⟩;rw[O,A s w2,Nat.add_zero,show((x.v s:Nat):Int)*10=((x.v s*10:Nat):Int) by omega,j9 ae]
    ·have hs:s=x.R:=by
      rcases Nat.lt_or_ge s x.R with h|h
      ·have:=N s h;rw[Nat.div_eq_of_lt this]at q5;exact absurd q5 (by decide)
      ·omega
     subst hs;exact⟨(),ao,⟨rfl,rfl,rfl,rfl,by rw[L],ao⟩,m d⟩
   ·rw[show 0+((r:Nat):Int).toNat*1=r by omega];exact wG hl (i:=r) ae
   ·obtain⟨g1,T⟩:=I r ae;rw[O,Xi ae (y r) T]
  ·have hs:r=x.R:=by
    rcases Nat.lt_or_ge r x.R with h|h
    ·have:=N r h;rw[Nat.div_eq_of_lt this]at q;exact absurd q (by decide)
    ·omega
   subst hs;exact⟨(),ao,⟨rfl,rfl,rfl,rfl,by rw[L],ao⟩,m d⟩
 rintro _ R-;refine⟨_,lE hl,⟨al,by rw[jm hl];decide⟩,⟨⟨0,j7 d k x.n x.p 0⟩,⟨dq _,rfl⟩,⟨rfl,rfl,rfl,rfl,rfl,?_,ao⟩,?_⟩,?_⟩
 ·rw[ags l,xm]
 ·rw[Ac hl,ajr hl,xp];rw[dG (i:=.i64) (n:=(x.R:Int)-1) aK,dG (i:=.i64) (n:=d.dp-((x.R:Int)-1)) aK];exact m _
 rintro⟨j,D⟩ R ⟨Q,G⟩;dsimp only at Q G⊢;subst G;have M:∀j,x.n j/2^k<=9:=fun j=>by
  have:=u j;have:x.n j/2^k<10:=(Nat.div_lt_iff_lt_mul o).2 this;omega
 refine⟨d.nd,jZ vD,bo (fun q=>?_) (fun q=>?_)⟩
 ·have x1:x.R+j<d.nd.toNat:=by omega
  obtain⟨g1,T⟩:=I (x.R+j) x1;rw[xm,TD (by have:=u j;omega) l,Kz l,WD (M j)];have hm:x.n j%2^k<2^k:=Nat.mod_lt _ o;rw[j9 (n:=x.n j%2^k) ae];refine⟨aK,d.at_ (x.R+j),?_,aK,⟨al,by rw[jm vD];omega⟩,⟨j+1,j7 d k x.n x.p (j+1)⟩,⟨a_,rfl⟩,⟨rfl,rfl,?_,P j ae,?_,rfl,ao⟩,?_,a_⟩
  ·rw[show 0+((x.R+j:Nat):Int).toNat*1=x.R+j by omega];have:=wG (b:=b) (t:=158) (d:=j7 d k x.n x.p j) vD (i:=x.R+j) ae;have e:(j7 d k x.n x.p j).at_ (x.R+j)=d.at_ (x.R+j):=by
    unfold bq.at_ j7;dsimp only;rw[Ot ae];unfold mn;rw[bF (show ¬x.R+j<j by omega)];rfl
   rw[e]at this;exact this
  ·have:=P (x.R+j) ae;exact this
  ·rw[w,Xi ae (y _) T]
  ·rw[show 0+((j:Nat):Int).toNat*1=j by omega,WU ae];exact m _
 have W:j=x.J:=ae;subst W;refine⟨⟨⟨x.J,_⟩,⟨bZ _,e2,rfl⟩,⟨rfl,rfl,?_,rfl,rfl,ao⟩,m _⟩,?_⟩
 ·rw[show min x.J 800=x.J by omega]
 rintro⟨j,D⟩ R ⟨K,V,G⟩;dsimp only at K V G⊢;subst G;refine bo (fun q=>?_) (fun q=>?_)
 ·have p:j+1<=x.E:=by
   rcases Nat.lt_or_ge j x.E with h|h
   ·exact h
   ·rw[show j=x.E by omega,e1]at q;omega
  have hz:gP d (x.R+j)=0:=A _ ae;rw[xm,TD (by have:=u j;omega) l,Kz l,WD (M j)];have hm:x.n j%2^k<2^k:=Nat.mod_lt _ o;have C:int .u64 (u64.wrap (u64.wrap ((x.n j%2^k:Nat):Int)*10))= .int .u64 (x.n (j+1):Nat):=by
   rw[j9 (n:=x.n j%2^k) ae,show((x.n j%2^k:Nat):Int)*10=((x.n j%2^k*10:Nat):Int) by omega,j9 ae,w,hz,Nat.add_zero]
  refine bo (fun q1=>⟨aK,⟨al,by rw[jm vD];omega⟩,⟨j+1,j7 d k x.n x.p (j+1)⟩,⟨a_,p,rfl⟩,⟨rfl,rfl,?_,C,rfl,ao⟩,?_,a_⟩) (fun q1=>bo (fun q2=>⟨⟨al,by rw[jm vD];decide⟩,⟨j+1,j7 d k x.n x.p (j+1)⟩,⟨a_,p,rfl⟩,⟨rfl,rfl,?_,C,rfl,ao⟩,?_,a_⟩) (fun q2=>⟨⟨j+1,j7 d k x.n x.p (j+1)⟩,⟨a_,p,rfl⟩,⟨rfl,rfl,?_,C,rfl,ao⟩,?_,a_⟩))
  ·rw[show min j 800=j by omega,show min (j+1) 800=j+1 by omega];exact P j ae
  ·rw[show 0+((min j 800:Nat):Int).toNat*1=j by omega,WU ae];exact m _
  ·rw[show min j 800=800 by omega,show min (j+1) 800=800 by omega]
  ·rw[Ky vD,WT ae,show(x.n j/2^k !=0)=true by rw[bne_iff_ne];generalize x.n j/2^k=z at q2⊢;omega,mJ];exact m _
  ·rw[show min j 800=800 by omega,show min (j+1) 800=800 by omega]
  ·rw[WT ae,show(x.n j/2^k !=0)=false by rw[bne_eq_false_iff_eq];generalize x.n j/2^k=z at q2⊢;omega,Bool.or_false];exact m _
 have p:j=x.E:=by
  rcases Nat.lt_or_ge j x.E with h|h
  ·have:=e4 j K h;omega
  ·omega
 subst p;have hs:(aZ (j7 d k x.n x.p x.E)).set 800 (.int .i64 ((min x.E 800:Nat):Int))=aZ ⟨eL (mn d k x.n x.E),(min x.E 800:Nat),x.p,d.ng,ri k x.n d.tr x.E⟩:=by
  rw[Fl vD];rfl
 refine⟨⟨al,by rw[jm vD];decide⟩,Xu,rfl,⟨b,⟨eL (mn d k x.n x.E),(min x.E 800:Nat),x.p,d.ng,ri k x.n d.tr x.E⟩⟩,rfl,by rw[hs],⟨tG _,a_,a_⟩,ao,fun _ _=>?_⟩;have hv:mX x.d x.k=kI ⟨eL (mn d k x.n x.E),(min x.E 800:Nat),x.p,d.ng,ri k x.n d.tr x.E⟩:=by
  rw[<-hx];rfl
 refine⟨mX x.d x.k,rfl,rfl,?_⟩;rw[hv];show aE _ [(0,.cells x.b (aZ (kI _)) 158),(1,F)];rw[xb];exact m _
theorem WV:aD 169 xD:=fo 130 Tryz.func169 (fun _ _=>[(3,2,aW),(3,3,aW),(4,1,iH 0),(5,4,iH 0),(6,1,aW),(8,2,aW),(8,3,aW),(9,1,aW),(10,1,iH 0),(11,5,bH 0),(11,6,aW),(12,1,aW),(12,3,aW),(12,4,aW),(13,3,iH 0),(13,5,aW),(13,6,aW),(14,1,aW),(14,2,aW),(15,4,iH 0),(16,1,iH 0),(17,5,bH 0),(17,6,aW),(18,2,aW),(19,2,aW),(20,3,aW),(20,4,aW),(21,1,iH 0),(22,1,aW),(22,3,aW),(22,4,aW),(23,1,aW),(24,2,aW),(25,2,aW),(27,3,aW),(27,4,aW),(28,1,iH 0),(31,1,aW),(33,1,bv uh)]) [(7,3,.w [LH.ex (0:Nat) iN.any]),(13,9,.w [LH.ex (0:Nat) iN.any]),(20,8,.w [LH.ex (0:Nat) iN.any]),(27,8,.w [LH.ex (0:Nat) iN.any]),(30,3,.w [LH.ex (0:Nat) iN.any]),(32,4,.w [LH.ex (0:Nat) iN.any])] aju ajt bA [] ajv
end
section
open Go
def rC(l:Nat):Code->Code
 | .seq a b=>match a with
  | .label d=>bif Nat.beq d l then .skip else .seq (.label d) (rC l b)
  |a=>.seq a (rC l b)
 |c=>c
def after(l:Nat):Code->Code
 | .seq a b=>match a with
  | .label c=>bif Nat.beq c l then b else after l b
  |_=>after l b
 |_=>.skip
def uQ(l:Nat):Code->Bool
 | .seq a b=>match a with
  | .label c=>Nat.beq c l||uQ l b
  |_=>uQ l b
 |_=>false
def JQ(P:Program)(c:Code)(Q:Exit->Act->World->Prop):Nat->Exit->Act->World->Prop
 |0=>fun e a w=>match e with
  | .goto _=>False
  |e=>Q e a w
 |n+1=>fun e a w=>match e with
  | .goto l=>∃rest,findLabel c l=some rest/\rest.wp P (JQ P c Q n) a w
  |e=>Q e a w
section
variable{P:Program}{N:Nat}
variable{a:Act}{c:Code}{Q:Exit->Act->World->Prop}{K:Exit->Tm->St->Prop}{I:a8}{ds:List Deferred}{key l0 l1:Nat}{S:St}{T:Tm}{w:World}
theorem SY{n:Nat}{e:Exit}(h:∀l,e≠.goto l)(b:Q e a w):JQ P c Q n e a w:=by
 cases e with
 |goto l=>exact absurd rfl (h l)
 |_=>cases n <;> exact b
theorem W3{c:Code}{Q:Exit->Act->World->Prop}{b:Frame}{k:List Item}{cs:List Frame}:∀(n:Nat)(a:Act)(w:World)(rest:Code),rest.wp P (JQ P c Q n) a w->
  ∃e s w',Q e s w'/\Arrives P (lone (b.at a (.code rest::.inScope c::k)) cs w) b k cs e s w'
 |n,a,w,rest,h=>by
  obtain⟨e,d,g,j,f⟩:=h b (.inScope c::k) cs;cases e with
  |normal=>exact⟨.normal,d,g,by cases n <;> exact j,Steps.trans f (.one step_inScope)⟩
  |exit id=>exact⟨.exit id,d,g,by cases n <;> exact j,fun k' hk=>f k' (by simp[exitTo,hk])⟩
  |goto l=>
   cases n with
   |zero=>exact j.elim
   |succ n=>
    obtain⟨o,u,v⟩:=j;obtain⟨q,p,r,m,i⟩:=W3 n d g o v;exact⟨q,p,r,m,.of_steps (f _ (by simp[gotoIn,u])) i⟩
  |ret=>exact⟨.ret,d,g,by cases n <;> exact j,f⟩
  |panic t=>exact⟨.panic t,d,g,by cases n <;> exact j,f⟩
  |outgrown=>exact⟨.outgrown,d,g,by cases n <;> exact j,f⟩
theorem alw(n:Nat)(h:c.wp P (JQ P c Q n) a w):(Code.scope c).wp P Q a w:=by
 intro b k cs;obtain⟨e,d,g,i,f⟩:=W3 (b:=b) (k:=k) (cs:=cs) n a w c h;cases e with
 |normal=>exact⟨.normal,d,g,i,.head step_scope f⟩
 |exit id=>exact⟨.exit id,d,g,i,fun k' hk=>.head step_scope (f k' hk)⟩
 |goto l=>exact⟨_,d,g,i,fun k' hk=>.head step_scope (f k' hk)⟩
 |ret=>exact⟨_,d,g,i,.of_steps (.one step_scope) f⟩
 |panic j=>exact⟨_,d,g,i,.of_steps (.one step_scope) f⟩
 |outgrown=>exact⟨_,d,g,i,.of_steps (.one step_scope) f⟩
theorem CQ{H:jj}{x y:Code}(h:E P N H (.seq x y) key T S K):
  ∃a:Exit->Tm->St->Prop,E P N H x key T S a/\(∀e,e≠.normal->a e=K e)/\∀I w ds b w',e9 N I w ds (a .normal) b w'->e9 N I w ds (fun T S=>E P N H y key T S K) b w':=by
 simp only[E]at h;split at h
 ·exact⟨_,h,fun e c=>by cases e <;> first|rfl|exact absurd rfl c,fun _ _ _ _ _ h=>h⟩
 ·rename_i V r
  have go:∀f:V.X->Prop,(E P N H x key T S fun e T S=>match e with| .normal=>∃x,f x/\ji T (V.lv x)/\aE S (bC (V.st x))|e=>K e T S)->
    (∀x q,f x->E P N H y key (jy q (V.lv x)) (bC (V.st x)) K)->∃a:Exit->Tm->St->Prop,E P N H x key T S a/\(∀e,e≠.normal->a e=K e)/\∀I w ds b w',e9 N I w ds (a .normal) b w'->e9 N I w ds (fun T S=>E P N H y key T S K) b w':=by
   intro f hx j;refine⟨_,hx,fun e c=>by cases e <;> first|rfl|exact absurd rfl c,?_⟩;rintro I w ds b w' ⟨T',S',J,l,m,n,o,p,x,hp,c,d⟩;obtain⟨k,g,i⟩:=d.h J w' o;exact⟨_,_,k,oY l c,m,a8.le_trans n g,i,p,j x T'.z00 hp⟩
  split at h
  ·exact go _ h.1 h.2
  ·obtain⟨_,hx,j⟩:=h;exact go _ hx j
def Hx:Exit->Prop
 | .exit i=>i<1000000
 |_=>True
def ij:Code->Bool
 | .seq a b=>ij a&&ij b
 | .cond _ a b=>ij a&&ij b
 | .block i c=>Nat.blt i 1000000&&ij c
 | .loop c=>ij c
 | .scope c=>ij c
 | .exit i=>Nat.blt i 1000000
 |_=>true
theorem Lc(hm:P.follows .mixedOrders=true)(H:jj):∀(c:Code){ρ:Nat->Option Nat}{key:Nat}{T:Tm}{S:St}{K:Exit->Tm->St->Prop}{a:Act}{I:a8}{w:World}{ds:List Deferred}{Q:Exit->Act->World->Prop},
  E P N H (eO ρ c) key T S K->dY N T a->a.defers=ds->Sat I S w->(∀e k w',Hx e->e9 N I w ds (K e) k w'->Q e k w')->(∀l i,ρ l=some i->1000000<=i/\∀k w',e9 N I w ds (K (.exit i)) k w'->Q (.goto l) k w')->ij c=true->c.wp P Q a w:=by
 intro c
 induction c with
 |skip=>
  intro ρ key T S K a I w ds Q h b hd hs f g hl;exact wp_skip (f _ _ _ trivial ⟨T,S,I,b,hd,a8.le_refl I,hs,cv.refl w,h⟩)
 |exit id=>
  intro ρ key T S K a I w ds Q h b hd hs f g hl;exact wp_exit (f (.exit id) _ _ (Nat.le_of_ble_eq_true hl) ⟨T,S,I,b,hd,a8.le_refl I,hs,cv.refl w,h⟩)
 |ret=>
  intro ρ key T S K a I w ds Q h b hd hs f g hl;exact wp_ret (f _ _ _ trivial ⟨T,S,I,b,hd,a8.le_refl I,hs,cv.refl w,h⟩)
 |seq x y x7 x8=>
  intro ρ key T S K a I w ds Q h b hd hs f g hl;simp only[eO]at h;obtain⟨K',hx,hK,hN⟩:=CQ h;have o:ij x=true/\ij y=true:=by simpa[ij]using hl
  refine wp_seq (x7 hx b hd hs (fun e k w' j d=>?_) (fun l i m=>⟨(g l i m).1,fun k w' d=>?_⟩) o.1)
  ·cases e with
   |normal=>
    obtain⟨T',S',J,G,O,L,R,M,h6⟩:=hN _ _ _ _ _ d;exact x8 h6 G O R (fun e a w j h=>f e a w j (h.from L M)) (fun l i m=>⟨(g l i m).1,fun a w h=>(g l i m).2 a w (h.from L M)⟩) o.2
   |_=>rw[hK _ (by intro h;cases h)]at d;exact f _ _ _ j d
  ·rw[hK _ (by intro h;cases h)]at d;exact(g l i m).2 k w' d
 |cond x c1 c2 x5 x6=>
  intro ρ key T S K a I w ds Q h b hd hs f g hl;simp only[eO,E]at h;split at h
  ·rename_i t ht
   have hc:a.eval x= .bool t:=by rw[b.eval];exact ht
   refine wp_cond hc ?_;have o:ij c1=true/\ij c2=true:=by simpa[ij]using hl
   rcases Br.cases h with⟨rfl,hk⟩| ⟨rfl,hk⟩
   ·exact x5 hk b hd hs f g o.1
   ·exact x6 hk b hd hs f g o.2
  grind
 |block id c D=>
  intro ρ key T S K a I w ds Q h b hd hs f g hl;simp only[eO,E]at h;have o:id<1000000/\ij c=true:=by simpa[ij]using hl
  refine wp_block (D h b hd hs (fun e k w' j d=>?_) (fun l i m=>⟨(g l i m).1,fun k w' d=>?_⟩) o.2)
  ·cases e with
   |exit i=>
    simp only[Exit.inBlock];by_cases hi:i=id
    ·subst hi;simp only[if_true];refine f _ _ _ trivial (d.mono fun T S h=>?_);simpa using h
    ·simp only[hi,if_false];refine f _ _ _ j (d.mono fun T S h=>?_);simpa[tf hi]using h
   |_=>exact f _ _ _ j d
  ·have G:=(g l i m).1;refine(g l i m).2 k w' (d.mono fun T S h=>?_);simpa[tf (show i≠id by omega)]using h
 |scope c D=>
  intro ρ key T S K a I w ds Q h b hd hs f g hl;simp only[eO,E]at h;refine wp_scope_straight (D h b hd hs (fun e k w' j d=>?_) (fun l r m=>by cases m) hl);cases e with
  |goto l=>
   obtain⟨_,_,_,_,_,_,_,_,h6⟩:=d;grind
  |_=>exact f _ _ _ j d
 |loop c D=>
  intro ρ key T S K a I w ds Q h b hd hs f g hl;simp only[eO,E]at h;split at h
  ·grind
  ·rename_i V hV
   have go:∀A:V.X->Prop,(∃x,A x/\ji T (V.lv x)/\aE S (bC (V.st x)))->(∀x F,A x->E P N H (eO ρ c) key (jy F (V.lv x)) (bC (V.st x)) fun e T S=>match e with
     | .normal=>∃y,A y/\ji T (V.lv y)/\aE S (bC (V.st y))/\V.mu y<V.mu x
     |e=>K e T S)->Code.wp P (.loop c) Q a w:=by
    rintro A ⟨x0,Z,W,s⟩ q;obtain⟨J0,B,x3⟩:=s.h I w hs;refine wp_loop_ghost (fun n k w'=>∃x F J,V.mu x=n/\A x/\dY N (jy F (V.lv x)) k/\k.defers=ds/\a8.le I J/\Sat J (bC (V.st x)) w'/\cv w w') (V.mu x0)
     ⟨x0,T.z00,J0,rfl,Z,oY b W,hd,B,x3,cv.refl w⟩ ?_
    rintro n k w' ⟨x,F,J,rfl,hp,z,U,v,x2,p⟩;refine D (q x F hp) z U x2 (fun e a2 w2 j d=>?_) (fun l i m=>⟨(g l i m).1,fun a2 w2 d=>(g l i m).2 a2 w2 (d.from v p)⟩) hl;cases e with
    |normal=>
     obtain⟨T',S',J',G,O,L,R,M,y,x1,X,u,Y⟩:=d;obtain⟨J2,C,x4⟩:=u.h J' w2 R;exact⟨V.mu y,Y,y,T'.z00,J2,rfl,x1,oY G X,O,a8.le_trans v (a8.le_trans L C),x4,p.trans M⟩
    |_=>exact f _ _ _ j (d.from v p)
   split at h
   ·exact go _ h.1 h.2
   ·obtain⟨_,hx,hy⟩:=h;exact go _ hx hy
 |region id aM Uo=>
  intro ρ key T S K a I w ds Q h b hd hs f g hl;simp only[eO,E]at h;split at h
  ·exact wp_region (R9 _ h b hd hs (fun a w h=>f _ a w trivial h) (fun ch a w h=>f _ a w trivial h))
  ·exact wp_region_any hm (Nq h.1 h.2 b hd (hs.heap (w':={w with drawn:=w.drawn+1}) rfl) (fun a w h=>f _ a w trivial (h.from (a8.le_refl _) al)) (fun ch a w h=>f _ a w trivial (h.from (a8.le_refl _) al)))
 |label l=>
  intro ρ key T S K a I w ds Q h b hd hs f g hl;exact wp_label (f _ _ _ trivial ⟨T,S,I,b,hd,a8.le_refl I,hs,cv.refl w,h⟩)
 |goto l=>
  intro ρ key T S K a I w ds Q h b hd hs f g hl;simp only[eO]at h;split at h
  ·rename_i r m
   exact wp_goto ((g l r m).2 a w ⟨T,S,I,b,hd,a8.le_refl I,hs,cv.refl w,h⟩)
  ·exact h.elim
 |_=>intro ρ key T S K a I w ds Q h;exact h.elim
theorem SV(M:P.follows .mixedOrders=true)(H:jj)(l:Nat){ρ:Nat->Option Nat}{w0:World}:∀(c:Code){T:Tm}{S:St}{a:Act}{w:World},
  uQ l c=true->E P N H (eO ρ (rC l c)) key T S K->∀J,dY N T a->a.defers=ds->a8.le I J->Sat J S w->cv w0 w->(∀f w',e9 N I w0 ds (K .normal) f w'->(after l c).wp P Q f w')->(∀e f w',e≠.normal->Hx e->e9 N I w0 ds (K e) f w'->Q e f w')->
  (∀l i,ρ l=some i->1000000<=i/\∀f w',e9 N I w0 ds (K (.exit i)) f w'->Q (.goto l) f w')->ij c=true->c.wp P Q a w:=by
 intro c
 induction c with
 |seq x y O q=>
  intro T S a w n h J j hd g hs d G s o hl;have m:ij x=true/\ij y=true:=by simpa[ij]using hl
  have go:uQ l y=true->rC l (.seq x y)= .seq x (rC l y)->after l (.seq x y)=after l y->Code.wp P (.seq x y) Q a w:=fun e1 v V=>by
   rw[v]at h;simp only[eO]at h;obtain⟨U,hx,r,L⟩:=CQ h;refine wp_seq ?_;refine Lc M H x hx j hd hs (fun e f w' p b=>?_) (fun l i t=>⟨(o l i t).1,fun f w' b=>?_⟩) m.1
   ·cases e with
    |normal=>
     obtain⟨T',S',u,z,A,B,C,D,F⟩:=L _ _ _ _ _ (b.from g d);exact q e1 F u z A B C D (fun f w' h=>by grind) s o m.2
    |_=>rw[r _ (by intro h;cases h)]at b;exact s _ _ _ (by intro h;cases h) p (b.from g d)
   ·rw[r _ (by intro h;cases h)]at b;exact(o l i t).2 f w' (b.from g d)
  cases x with
  |label R=>
   cases k:Nat.beq R l with
   |true=>
    simp only[rC,k,aU,eO,E]at h;have:=G a w ⟨T,S,J,j,hd,g,hs,d,h⟩;simp only[after,k,aU]at this;exact wp_seq (wp_label this)
   |false=>exact go (by simpa only[uQ,k,Bool.false_or]using n) (by simp only[rC,k,aN]) (by simp only[after,k,aN])
  |_=>exact go n rfl rfl
 |_=>intro T S a w n;cases n
def Kr(l1 l0:Nat):Nat->Option Nat:=fun l=>bif Nat.beq l l1 then some 1000001 else bif Nat.beq l l0 then some 1000000 else none
def R_(l0:Nat):Nat->Option Nat:=fun l=>bif Nat.beq l l0 then some 1000000 else none
def DR(l1 l0:Nat)(c:Code):Code:=.seq (.block 1000000 (.seq (.block 1000001 (eO (Kr l1 l0) (rC l1 c))) (eO (R_ l0) (rC l0 (after l1 c))))) (eO (fun _=>none) (after l0 (after l1 c)))
theorem X5(V:P.follows .mixedOrders=true)(H:jj)(c:Code)
  (O:findLabel c l1=some (.seq .skip (after l1 c))) (M:findLabel c l0=some (.seq .skip (after l0 (after l1 c)))) (U:uQ l1 c=true) (R:uQ l0 (after l1 c)=true) (hx:ij c=true) (X:ij (after l1 c)=true) (W:ij (after l0 (after l1 c))=true)
  (h:E P N H (DR l1 l0 c) key T S K) (u:dY N T a) (hd:a.defers=ds) (hs:Sat I S w) (Z:∀e d w',Hx e->e9 N I w ds (K e) d w'->Q e d w') (F:∀l T S,¬K (.goto l) T S):(Code.scope c).wp P Q a w:=by
 unfold DR at h;obtain⟨m,C,s,G⟩:=CQ h;have C:E P N H (.seq (.block 1000001 (eO (Kr l1 l0) (rC l1 c))) (eO (R_ l0) (rC l0 (after l1 c)))) 1000000 T S (fun e T S=>match e with| .exit i=>(bif Nat.beq i 1000000 then m .normal T S else m (.exit i) T S)|e=>m e T S):=C;obtain⟨q,D,o,L⟩:=CQ C;have D:E P N H (eO (Kr l1 l0) (rC l1 c)) 1000001 T S (fun e T S=>match e with| .exit i=>(bif Nat.beq i 1000001 then q .normal T S else q (.exit i) T S)|e=>q e T S):=D;have wC:∀n d w',e9 N I w ds (m .normal) d w'->(after l0 (after l1 c)).wp P (JQ P c Q n) d w':=by
  intro n d w' t;obtain⟨T',S',J,v,x,y,z,A,B⟩:=G _ _ _ _ _ t;refine Lc V H _ B v x z (fun e a w f b=>?_) (fun l r g=>by cases g) W;cases e with
  |goto l=>obtain⟨_,_,_,_,_,_,_,_,h⟩:=b;exact absurd h (F _ _ _)
  |_=>exact SY (fun _ h=>by cases h) (Z _ _ _ f (b.from y A))
 have g1:∀n d w',e9 N I w ds (m .normal) d w'->JQ P c Q (n+1) (.goto l0) d w':=fun n d w' t=>
  ⟨_,M,wp_seq (wp_skip (wC n d w' t))⟩
 have ng:∀l d w',e9 N I w ds (m (.goto l)) d w'->False:=fun l d w' b=>by
  rw[s _ (by intro h;cases h)]at b;obtain⟨_,_,_,_,_,_,_,_,h⟩:=b;grind
 have Y:∀i,i<1000000->Nat.beq i 1000000=false:=fun i hi=>tf ae;have b1:∀i,i<1000000->Nat.beq i 1000001=false:=fun i hi=>tf ae;have k:∀n(e:Exit)d w',e≠.normal->Hx e->e9 N I w ds (m e) d w'->JQ P c Q n e d w':=by
  intro n e d w' p f b;cases e with
  |goto l=>exact(ng l d w' b).elim
  |normal=>exact absurd rfl p
  |_=>rw[s _ (by intro h;cases h)]at b;exact SY (fun _ h=>by cases h) (Z _ _ _ f b)
 have wB:∀n d w',e9 N I w ds (q .normal) d w'->(after l1 c).wp P (JQ P c Q (n+1)) d w':=by
  intro n d w' t;obtain⟨T',S',J,v,x,y,z,A,B⟩:=L _ _ _ _ _ t;refine SV (I:=I) (w0:=w) V H l0 _ R B J v x y z A (fun d w' b=>wC _ _ _ b) (fun e d w' p f b=>?_) (fun l i g=>?_) X
  ·refine k _ e d w' p f (b.mono fun T S h=>?_);cases e with
   |exit i=>dsimp only at h;rw[Y i f]at h;exact h
   |_=>exact h
  ·unfold R_ at g;cases j:Nat.beq l l0 with
   |false=>rw[j]at g;cases g
   |true=>
    rw[j]at g;cases g;rw[Nat.eq_of_beq_eq_true j];exact⟨bZ _,fun d w' b=>g1 n d w' (b.mono fun T S h=>h)⟩
 refine alw 2 (SV (I:=I) (w0:=w) V H l1 c U D I u hd (a8.le_refl I) hs (cv.refl w) (fun d w' b=>wB 1 d w' b) (fun e d w' p f b=>?_) (fun l i g=>?_) hx)
 ·refine k _ e d w' p f (b.mono fun T S h=>?_);cases e with
  |exit i=>
   dsimp only at h;rw[b1 i f,aN,o _ (by intro h;cases h)]at h;dsimp only at h;rw[Y i f]at h;exact h
  |normal=>exact absurd rfl p
  |_=>dsimp only at h;rw[o _ (by intro h;cases h)]at h;exact h
 ·unfold Kr at g;cases j:Nat.beq l l1 with
  |true=>
   rw[j]at g;cases g;rw[Nat.eq_of_beq_eq_true j];exact⟨ae,fun d w' b=>⟨_,O,wp_seq (wp_skip (wB 0 d w' (b.mono fun T S h=>h)))⟩⟩
  |false=>
   rw[j]at g;cases j:Nat.beq l l0 with
   |false=>rw[j]at g;cases g
   |true=>
    rw[j]at g;cases g;rw[Nat.eq_of_beq_eq_true j];refine⟨bZ _,fun d w' b=>g1 1 d w' (b.mono fun T S h=>?_)⟩;have h:q (.exit 1000000) T S:=h;rw[o _ (by intro h;cases h)]at h;exact h
def wy:Code->Code
 | .seq a _=>a
 |c=>c
def W1:Code->Code
 | .seq _ (.scope c)=>c
 |_=>.skip
noncomputable def ab6(l1 l0:Nat)(fn:Func):Code:=.seq (eO (fun _=>none) (wy (hH fn))) (DR l1 l0 (W1 (hH fn)))
def Nd(P:Program)(fn:Func)(a:List LH)(lv:List (Nat×Value))(R:Ending->St->Prop):Exit->Tm->St->Prop:=fun e T S=>match e with
 | .normal=>match lv with| []=>True|_::_=>rd P S (jG fn T) a fun v=>R (.returned v) S
 | .ret=>rd P S (jG fn T) a fun v=>R (.returned v) S
 | .panic b=>ji T lv/\R (.panicked b) S
 |_=>False
theorem ady(Z:P.follows .mixedOrders=true){f:FuncId}{fn b:Func}{r:Code}{C:aR}(hf:P.funcs[f]?=some fn)(hb:fn.body=some (.seq r (.scope c)))(hN:fn.ntmps=N)(hl:∀x,(C.args x).length<=N)
  (K:findLabel c l1=some (.seq .skip (after l1 c))) (G:findLabel c l0=some (.seq .skip (after l0 (after l1 c)))) (L:uQ l1 c=true) (k:uQ l0 (after l1 c)=true) (X:ij r=true) (hx:ij c=true) (W:ij (after l1 c)=true) (V:ij (after l0 (after l1 c))=true)
  (D:hH b= .seq (eO (fun _=>none) r) (DR l1 l0 c)) (R:b.results=fn.results) (H:C.X->ah->jj) (s:List LH) (lv:C.X->List (Nat×Value)) (O:∀x,lv x≠[])
  (h:∀x F,C.cond x->C.aO x F->qp P N b (H x F) s (hH b) (nh (C.args x)) (bC (C.pre x++[F])) (lv x) (ar C x F)):kf P f C:=by
 refine⟨fun x F I w hc Q hs=>?_⟩;have j:=h x F hc Q;rw[D]at j;refine calls_of_wp hf hb ?_;rw[hN];have j:E P N (H x F) (.seq (eO (fun _=>none) r) (DR l1 l0 c)) 0 (nh (C.args x)) (bC (C.pre x++[F])) (Nd P b s (lv x) (ar C x F)):=j;have key:∀(e:Exit)t w',e9 N I w [] (Nd P b s (lv x) (ar C x F) e) t w'->bodyPost P fn (fun e w'=>∃y J,C.b_ x y/\e=C.val x y/\a8.le I J/\Sat J (bC (C.post x y++[F])) w'/\cv w w') e t w':=by
  rintro e a w' ⟨T,S',J,A,q,B,Y,h5,i⟩;have p:jG b T=jG fn T:=by unfold jG;rw[R]
  have out:∀(z:Ending)(g:World),g=w'->ar C x F z S'->∃y J,C.b_ x y/\z=C.val x y/\a8.le I J/\Sat J (bC (C.post x y++[F])) g/\cv w g:=by
   rintro z g rfl ⟨y,o,rfl,m⟩;obtain⟨J',n,U⟩:=m.h J g Y;exact⟨y,J',o,rfl,a8.le_trans B n,U,h5⟩
  have fin:rd P S' (jG b T) s (fun v=>ar C x F (.returned v) S')->a.defers=[]/\∃v,(results fn a.tmps).run P w'= .ok v w'/\∃y J,C.b_ x y/\returned v=C.val x y/\a8.le I J/\Sat J (bC (C.post x y++[F])) w'/\cv w w':=fun i=>by
   rw[p]at i;obtain⟨v,x0,hR⟩:=vu Y _ _ _ i;exact⟨q,v,by rw[Cr A];omega,out _ _ rfl hR⟩
  cases e with
  |normal=>
   simp only[Nd]at i;cases k:lv x with
   |nil=>exact absurd k (O x)
   |cons u l=>rw[k]at i;exact fin i
  |ret=>exact fin i
  |panic ch=>exact⟨q,out _ _ rfl i.2⟩
  |_=>exact i.elim
 obtain⟨K',A,q,B⟩:=CQ j;refine wp_seq (Lc Z (H x F) r A (Ff (C.args x) (hl x)) rfl hs (fun e t w' M d=>?_) (fun l r Q=>by cases Q) X);cases e with
 |normal=>
  obtain⟨T',S',J,k1,k2,k3,k4,k5,k6⟩:=B _ _ _ _ _ d;exact X5 Z (H x F) c K G L k hx W V k6 k1 k2 k4 (fun e a w M h=>key e a w (h.from k3 k5)) (fun l T S h=>h.elim)
 |_=>rw[q _ (by intro h;cases h)]at d;exact key _ _ _ d
end
end
section
open Go
variable{ng tr:Bool}{dp nd:Int}{c:Nat×ByteArray}
theorem Wb{f:Nat->Int}{i:Nat}(h:i<800):(⟨eL f,nd,dp,ng,tr⟩:bq).at_ i=f i:=by
 unfold bq.at_;dsimp only;rw[Ot h]
theorem Wc{f:Nat->Int}:(⟨eL f,nd,dp,ng,tr⟩:bq).ds.length=800:=by
 dsimp only;rw[tG]
theorem Xs{ds:List Int}(a:ds.getD 0 0≠48):∀n,1<=n->1<=m7 ds n
 |0,h=>h
 |n+1,_=>by
  rw[m7];cases b:ds.getD n 0==48 with
  |false=>rw[aN];omega
  |true=>
   rw[aU];rcases Nat.eq_zero_or_pos n with h|h
   ·subst h;exact absurd (beq_iff_eq.1 b) a
   ·exact Xs a n h
theorem Xt{d:bq}(hl:d.ds.length=800)(c:1<=d.nd)(e:d.nd<=800)(hd:∀i:Nat,(i:Int)<d.nd->48<=d.at_ i/\d.at_ i<=57)(a:d.at_ 0≠48):(kI d).norm/\(kI d).dp=d.dp/\(kI d).ng=d.ng/\(kI d).at_ 0=d.at_ 0:=by
 have hp:=Xs (ds:=d.ds) a d.nd.toNat ae;have b:=Xr d.ds d.nd.toNat;refine⟨⟨hl,?_,?_,?_,a⟩,?_,rfl,rfl⟩
 ·show 1<=((m7 d.ds d.nd.toNat:Nat):Int);omega
 ·show((m7 d.ds d.nd.toNat:Nat):Int)<=800;omega
 ·intro i hi;exact hd i (by have hi:(i:Int)<((m7 d.ds d.nd.toNat:Nat):Int):=hi;omega)
 ·show(bif m7 d.ds d.nd.toNat==0 then 0 else d.dp)=d.dp;grind
theorem Hy{d:bq}{k:Nat}(a:Ax k c):l9 d c<=k:=by
 have b:=a.DD;have e:=a.gV.pos;unfold l9;grind
theorem HA{d:bq}(hd:d.norm){k:Nat}(hk:1<=k)(p:Ax k c):(oV d k c).norm/\(oV d k c).dp=d.dp+(l9 d c:Nat)/\(oV d k c).ng=d.ng/\(l9 d c=0->d.at_ 0<(oV d k c).at_ 0):=by
 have f:=VK hd p;have q:1<=d.nd.toNat/\d.nd.toNat<=800:=by have:=hd.pos;have:=hd.max;omega
 rw[show d.nd.toNat+l9 d c=g0 d c from rfl]at f;have o:1<=g0 d c:=by grind
 have r:1<=d.num*2^k/10^(g0 d c-1)/\d.num*2^k/10^(g0 d c-1)<10:=by
  refine⟨Nat.div_pos f.1 (qO _),(Nat.div_lt_iff_lt_mul (qO _)).2 ?_⟩;rw[show 10*10^(g0 d c-1)=10^g0 d c by rw[Nat.mul_comm,<-Nat.pow_succ,show(g0 d c-1).succ=g0 d c by omega]];omega
 have m:∀i,i<g0 d c->jf d (d.num*2^k) (g0 d c) 0 i=48+(d.num*2^k/10^(g0 d c-1-i)%10:Nat):=fun i hi=>by
  unfold jf;simp[*]
 have b:∀i,i<800->(⟨eL (jf d (d.num*2^k) (g0 d c) 0),(min (g0 d c) 800:Nat),d.dp+(l9 d c:Nat),d.ng,j0 d (d.num*2^k) (g0 d c) 0⟩:bq).at_ i=jf d (d.num*2^k) (g0 d c) 0 i:=fun i hi=>Wb hi;have a:=m 0 o;rw[Nat.sub_zero,Nat.mod_eq_of_lt r.2]at a;obtain⟨t1,t2,t3,t4⟩:=Xt (d:=⟨eL (jf d (d.num*2^k) (g0 d c) 0),(min (g0 d c) 800:Nat),d.dp+(l9 d c:Nat),d.ng,j0 d (d.num*2^k) (g0 d c) 0⟩) Wc (by grind) (by grind) (fun i hi=>by
  dsimp only at hi;rw[b i ae,m i ae];omega) (by rw[b 0 ae,a];omega)
 refine⟨t1,t2,t3,fun n=>?_⟩;have e:(oV d k c).at_ 0=48+((d.num*2^k/10^(g0 d c-1):Nat):Int):=by
  show(kI _).at_ 0=_;rw[t4,b 0 ae,a]
 rw[e];have hn:g0 d c=d.nd.toNat:=by unfold g0;rw[n];rfl
 have l:dI d 0*10^(g0 d c-1)<=d.num:=by
  have:=(A5 (g:=dI d) 1 (d.nd.toNat-1) (fun i hi=>hd.g9 i ae)).1;rw[show 1+(d.nd.toNat-1)=d.nd.toNat by omega,<-hn]at this;rw[show dc (dI d) 1=dI d 0 by show 0*10+dI d 0=_;omega]at this;rw[hn]at this⊢;exact this
 have s:=hd.gV 0 (by have:=hd.pos;omega);have t:=hd.fst;have wy:1<=dI d 0/\d.at_ 0=((48+dI d 0:Nat):Int):=by unfold dI;omega
 have h:2<=2^k:=by
  obtain⟨j,rfl⟩:∃j,k=j+1:=⟨k-1,ae⟩;rw[Nat.pow_succ];have:1<=2^j:=Nat.pow_pos (by decide);omega
 have:dI d 0*2<=d.num*2^k/10^(g0 d c-1):=by
  rw[Nat.le_div_iff_mul_le (qO _)]
  calc dI d 0*2*10^(g0 d c-1)=dI d 0*10^(g0 d c-1)*2:=Nat.mul_right_comm _ _ _
   _<=d.num*2^k:=Nat.mul_le_mul l h
 rw[wy.2];omega
theorem Ku{d:bq}(hd:d.norm){k:Nat}(C:1<=k)(q:k<=60):(mX d k).norm/\1<=k_ d k/\k_ d k<=30/\(mX d k).dp=d.dp-((k_ d k:Nat)-1)/\(mX d k).ng=d.ng/\(k_ d k=1->2^k<=dI d 0/\(mX d k).at_ 0=48+(dI d 0/2^k:Nat)):=by
 have D:1<=d.nd.toNat/\d.nd.toNat<=800/\((d.nd.toNat:Nat):Int)=d.nd:=by have:=hd.pos;have:=hd.max;omega
 have g:∀i,gP d i<=9:=fun i=>by
  unfold gP;by_cases h:i<d.nd.toNat
  ·rw[if_pos h];exact hd.g9 i h
  simp[*]
 have o:1<=gP d 0:=by
  unfold gP;rw[if_pos ae];have:=hd.gV 0 ae;have:=hd.fst;unfold dI;omega
 have b:1<=2^k:=Nat.pow_pos (by decide);obtain⟨-,u,v,w⟩:=Se o g q 30 0 (by decide) (fun j t=>absurd t (Nat.not_lt_zero j));rw[show vC (gP d) k 30 0=k_ d k from rfl]at u v w;have f:1<=k_ d k:=by
  rcases Nat.eq_zero_or_pos (k_ d k)with h|h
  ·rw[h,dc]at v;omega
  ·exact h
 have p:∀i,d.nd.toNat<=i->gP d i=0:=fun i hi=>by unfold gP;rw[if_neg ae]
 have l:∀j,kF d k j<10*2^k:=WR g f (w _ ae);have s:∀j,kF d k j/2^k<=9:=fun j=>by
  have:=l j;have:kF d k j/2^k<10:=(Nat.div_lt_iff_lt_mul b).2 this;omega
 obtain⟨e1,x,y,A⟩:=Sd (n:=kF d k) (k:=k) (J:=d.nd.toNat-k_ d k) (WS (fun i hi=>p _ ae)) (k+2) (d.nd.toNat-k_ d k) ae (bZ _) (fun i hi t=>ae);rw[show vB (kF d k) (k+2) (d.nd.toNat-k_ d k)=ow d k from rfl]at e1 x y A;have F:kF d k 0=dc (gP d) (k_ d k):=rfl;have c:1<=ow d k:=by
  grind
 have m:∀i,i<ow d k->mn d k (kF d k) (ow d k) i=48+(kF d k i/2^k:Nat):=fun i hi=>by
  unfold mn;simp[*]
 have a:∀i,i<800->(⟨eL (mn d k (kF d k) (ow d k)),(min (ow d k) 800:Nat),d.dp-((k_ d k:Nat)-1),d.ng,ri k (kF d k) d.tr (ow d k)⟩:bq).at_ i=mn d k (kF d k) (ow d k) i:=fun i hi=>Wb hi;have r:1<=kF d k 0/2^k:=Nat.div_pos ae b;obtain⟨t1,t2,t3,t4⟩:=Xt (d:=⟨eL (mn d k (kF d k) (ow d k)),(min (ow d k) 800:Nat),d.dp-((k_ d k:Nat)-1),d.ng,ri k (kF d k) d.tr (ow d k)⟩) Wc (by grind) (by grind) (fun i hi=>by
  dsimp only at hi;rw[a i ae,m i ae];have:=s i;generalize kF d k i/2^k=z at this;omega) (by
  rw[a 0 ae,m 0 c];generalize kF d k 0/2^k=z at r;omega)
 refine⟨t1,f,u,t2,t3,fun B=>?_⟩;have e:(mX d k).at_ 0=48+((kF d k 0/2^k:Nat):Int):=by
  show(kI _).at_ 0=_;rw[t4,a 0 ae,m 0 c]
 have E:dc (gP d) (k_ d k)=dI d 0:=by
  rw[B];show 0*10+gP d 0=_;unfold gP;grind
 grind
def qq(lc:Nat->Nat×ByteArray):Prop:=∀k,1<=k->k<=60->Ax k (lc k)
def rn(lc:Nat->Nat×ByteArray):Nat->bq->Nat->bq
 |0,d,_=>d
 |f+1,d,n=>bif decide (60<n) then rn lc f (oV d 60 (lc 60)) (n-60) else oV d n (lc n)
def rq:Nat->bq->Nat->bq
 |0,d,_=>d
 |f+1,d,n=>bif decide (60<n) then rq f (mX d 60) (n-60) else mX d n
def xM:Nat:=200000
theorem Cw:xM=200000:=rfl
attribute [irreducible] xM
def ep(lc:Nat->Nat×ByteArray)(d:bq)(k:Int):bq:=bif decide (0<k) then rn lc xM d k.toNat else bif decide (k<0) then rq xM d (-k).toNat else d
theorem W9{lc:Nat->Nat×ByteArray}(a:qq lc):∀f(d:bq)n,d.norm->1<=n->n<=f->(rn lc f d n).norm/\d.dp<=(rn lc f d n).dp/\(rn lc f d n).dp<=d.dp+n/\(rn lc f d n).ng=d.ng
 |0,_,_,_,h,h'=>ae
 |f+1,d,n,hd,h,h'=>by
  rw[rn];by_cases q:60<n
  ·rw[bw q,aU];obtain⟨a1,a2,a3,-⟩:=HA hd (by decide) (a 60 (by decide) (by decide));have:=Hy (d:=d) (a 60 (by decide) (by decide));obtain⟨b1,b2,b3,b4⟩:=W9 a f _ (n-60) a1 ae ae;exact⟨b1,ae,ae,b4.trans a3⟩
  ·rw[bF q,aN];obtain⟨a1,a2,a3,-⟩:=HA hd h (a n h ae);have:=Hy (d:=d) (a n h ae);exact⟨a1,ae,ae,a3⟩
theorem W_:∀f(d:bq)n,d.norm->1<=n->n<=f->(rq f d n).norm/\(rq f d n).dp<=d.dp/\d.dp<=(rq f d n).dp+30*n/\(rq f d n).ng=d.ng
 |0,_,_,_,h,h'=>ae
 |f+1,d,n,hd,h,h'=>by
  rw[rq];by_cases q:60<n
  ·rw[bw q,aU];obtain⟨a1,a2,a3,a4,a5,-⟩:=Ku hd (k:=60) (by decide) (by decide);obtain⟨b1,b2,b3,b4⟩:=W_ f _ (n-60) a1 ae ae;exact⟨b1,ae,ae,b4.trans a5⟩
  ·rw[bF q,aN];obtain⟨a1,a2,a3,a4,a5,-⟩:=Ku hd h ae;exact⟨a1,ae,ae,a5⟩
theorem Xa{lc:Nat->Nat×ByteArray}(a:qq lc){d:bq}(hd:d.norm){k:Int}(b: -200000<=k)(c:k<=200000):(ep lc d k).norm/\d.dp-6000000<=(ep lc d k).dp/\(ep lc d k).dp<=d.dp+200000/\(ep lc d k).ng=d.ng:=by
 unfold ep;by_cases q:0<k
 ·rw[bw q,aU];obtain⟨b1,b2,b3,b4⟩:=W9 a xM d k.toNat hd ae (by rw[Cw];omega);grind
 ·rw[bF q,aN];by_cases q:k<0
  ·rw[bw q,aU];obtain⟨b1,b2,b3,b4⟩:=W_ xM d (-k).toNat hd ae (by rw[Cw];omega);grind
  grind
structure sX where
 b:Nat
 d:bq
 k:Int
 tb:Nat->Nat
 lc:Nat->Nat×ByteArray
def me(x:sX):Option Addr:=some ⟨x.b,0,none⟩
def qd:aR where
 X:=sX
 Y:=bq
 args x:=[ag (me x),ad x.k]
 pre x:=[af x.b (aZ x.d) 158]
 cond x:=x.d.norm/\qq x.lc/\ -200000<=x.k/\x.k<=200000/\ -100000000<=x.d.dp/\x.d.dp<=100000000
 aO x F:=gL x.tb x.lc F
 b_ x y:=y=ep x.lc x.d x.k
 val _ _:=.returned (.tuple #[])
 post x y:=[af x.b (aZ y) 158]
structure rQ where
 n:Nat
 d:bq
 f:Nat
def aj1(x:sX)(F:ah):Nat->Option Inv:=fun
 |1=>some {X:=rQ,P:=fun s=>1<=s.n/\s.n<=s.f/\s.n<=200000/\s.d.norm/\x.d.dp<=s.d.dp/\s.d.dp+s.n<=x.d.dp+200000/\ep x.lc x.d x.k=rn x.lc s.f s.d s.n,mu:=fun s=>s.n,lv:=fun s=>[(0,ag (me x)),(1,ad (s.n:Nat))],st:=fun s=>[af x.b (aZ s.d) 158,F]}
 |3=>some {X:=rQ,P:=fun s=>1<=s.n/\s.n<=s.f/\s.n<=200000/\s.d.norm/\s.d.dp<=x.d.dp/\x.d.dp-6000000<=s.d.dp-30*s.n/\ep x.lc x.d x.k=rq s.f s.d s.n,mu:=fun s=>s.n,lv:=fun s=>[(0,ag (me x)),(1,ad (-((s.n:Nat):Int)))],st:=fun s=>[af x.b (aZ s.d) 158,F]}
 |_=>none
def EW(x:sX)(F:ah):=[(0,af x.b (aZ x.d) 158),(1,F)]
def Is(a:rQ)(x:sX):=1<=a.n/\a.n<=a.f/\a.n<=200000/\a.d.norm/\x.d.dp<=a.d.dp/\a.d.dp+a.n<=x.d.dp+200000/\ep x.lc x.d x.k=rn x.lc a.f a.d a.n
def zG(x:sX)(a:rQ)(F:ah):=[(0,af x.b (aZ a.d) 158),(1,F)]
def LF(aa:List Value)(pp:List ah)(rr:ah)(b:ic->bq->Prop):=aD 168 zd/\true=true/\∃(z:ic),aa=[ag (jD z),az ↑z.k]/\pp=[af z.b (aZ z.d) 158]/\(z.d.norm/\1<=z.k/\z.k<=60/\Ax z.k (z.lc z.k)/\(-1000000000:Int)<=z.d.dp/\z.d.dp<=1000000000)/\gL z.tb z.lc rr/\∀(a:bq),a=oV z.d z.k (z.lc z.k)->b z a
def Io(a:rQ)(x:sX):=1<=a.n/\a.n<=a.f/\a.n<=200000/\a.d.norm/\a.d.dp<=x.d.dp/\x.d.dp-6000000<=a.d.dp-30*(a.n:Int)/\ep x.lc x.d x.k=rq a.f a.d a.n
def LG(aa:List Value)(pp:List ah)(b:gb->bq->Prop):=aD 169 xD/\true=true/\∃(z:gb),aa=[ag (h8 z),az ↑z.k]/\pp=[af z.b (aZ z.d) 158]/\(z.d.norm/\1<=z.k/\z.k<=60/\(-1000000000:Int)<=z.d.dp/\z.d.dp<=1000000000)/\True/\∀(a:bq),a=mX z.d z.k->b z a
theorem aj2(x:sX)(F:ah)(z:qd.cond x)(w:qd.aO x F):T1 (af x.b (aZ x.d) 158) ⟨x.b,800,none⟩ (fun f=>Br (f==0) (ar qd x F eM (EW x F)) (aS (x.k>0) ((∃(a:rQ),Is a x/\(ag (me x)=ag (me x)/\ad x.k=ad ↑a.n/\True)/\aE (EW x F) (zG x a F))/\aT fun(e:rQ)_=>Is e x->aS ((e.n:Int)>60) (LF [ag (me x),az 60] [af x.b (aZ e.d) 158] (aH (zG x e F) [0]) (fun c b=>∃(a:rQ),Is a x/\(ag (me x)=ag (me x)/\ad (bV ((e.n:Int)-60))=ad ↑a.n/\True)/\aE [(0,af c.b (aZ b) 158),(1,F)] (zG x a F)/\a.n<e.n)) (LF [ag (me x),az (bd (e.n:Int))] [af x.b (aZ e.d) 158] (aH (zG x e F) [0]) (fun b a=>ar qd x F eM [(0,af b.b (aZ a) 158),(1,F)]))) (aS (x.k<0) ((∃(a:rQ),Io a x/\(ag (me x)=ag (me x)/\ad x.k=ad (-(a.n:Int))/\True)/\aE (EW x F) (zG x a F))/\aT fun(e:rQ)_=>Io e x->aS (-(e.n:Int)<(-60:Int)) (LG [ag (me x),az 60] [af x.b (aZ e.d) 158] (fun c b=>∃(a:rQ),Io a x/\(ag (me x)=ag (me x)/\ad (bV (-(e.n:Int)+60))=ad (-(a.n:Int))/\True)/\aE [(0,af c.b (aZ b) 158),(1,F)] (zG x a F)/\a.n<e.n)) (LG [ag (me x),az (bd (bV ((0:Int)- -(e.n:Int))))] [af x.b (aZ e.d) 158] (fun b a=>ar qd x F eM [(0,af b.b (aZ a) 158),(1,F)]))) (ar qd x F eM (EW x F))))):=by
 delta T1 eM EW Is me zG jD LF Io h8 LG aH ad az ag af bd bV aS ay aT;obtain⟨b,d,k,tb,lc⟩:=x;obtain⟨hd,g,r,s,t,u⟩:=z;replace w:gL tb lc F:=w;dsimp only at hd g r s t u⊢;have hl:=hd.len;have l:∀v:bq,aE [(0,.cells b (aZ v) 158),(1,F)] [(0,.cells b (aZ v) 158),(1,F)]:=fun v=>aA [0,1];have rr:∀v:bq,gL tb lc (.du (rest [(0,.cells b (aZ v) 158),(1,F)] [0])):=fun v=>w.sub (bU 1);have fin:∀v:bq,ep lc d k=v->ar qd ⟨b,d,k,tb,lc⟩ F (returned (tuple #[])) [(0,.cells b (aZ v) 158),(1,F)]:=fun v e=>
  ⟨v,e.symm,rfl,l v⟩
 refine⟨d.nd,jZ hl,aG (fun q=>absurd (beq_iff_eq.1 q) (by have:=hd.pos;omega)) (fun _=>bo (fun q=>⟨⟨⟨k.toNat,d,xM⟩,⟨by grind,by dsimp only;rw[Cw];omega,by simp[*],hd,cE _,by grind,by unfold ep;rw[bw (show 0<k by omega),aU]⟩,⟨rfl,congrArg _ (by grind),ao⟩,l d⟩,?_⟩) (fun q=>bo (fun q1=>⟨⟨⟨(-k).toNat,d,xM⟩,⟨by grind,by dsimp only;rw[Cw];omega,by grind,hd,cE _,by grind,by unfold ep;rw[bF (show ¬0<k by omega),bw q1,aN,aU]⟩,⟨rfl,congrArg _ (by grind),ao⟩,l d⟩,?_⟩) (fun q1=>fin d (by unfold ep;rw[bF (show ¬0<k by omega),bF q1,aN,aN]))))⟩
 ·rintro⟨n,D,f⟩ A ⟨g1,m,g3,g4,o,p,h⟩;dsimp only at g1 m g3 g4 o p h⊢;obtain⟨f,rfl⟩:∃j,f=j+1:=⟨f-1,ae⟩;refine bo (fun q1=>bs VL ⟨b,D,60,tb,lc⟩ ⟨g4,by simp[*],by simp[*],g 60 (by decide) (by decide),by grind,by grind⟩ (rr D) (?_)) (fun q1=>⟨VL,rfl,⟨b,D,n,tb,lc⟩,?_,rfl,⟨g4,g1,by grind,g n g1 ae,by grind,by grind⟩,rr D,?_⟩)
  ·rintro y rfl;obtain⟨a1,a2,a3,-⟩:=HA g4 (by decide) (g 60 (by decide) (by decide));have:=Hy (d:=D) (g 60 (by decide) (by decide));refine⟨⟨n-60,oV D 60 (lc 60),f⟩,⟨by grind,by grind,by grind,a1,by grind,by grind,by rw[h,rn,bw (show 60<n by omega),aU]⟩,⟨rfl,congrArg _ (by rw[dG (i:=.i64) (n:=(n:Int)-60) aK];dsimp only;omega),ao⟩,l _,by grind⟩
  ·rw[j9 ae]
  ·rintro y rfl;exact fin _ (by rw[h,rn,bF (show ¬60<n by omega),aN])
 ·rintro⟨n,D,f⟩ A ⟨g1,m,g3,g4,o,p,h⟩;dsimp only at g1 m g3 g4 o p h⊢;obtain⟨f,rfl⟩:∃j,f=j+1:=⟨f-1,ae⟩;refine bo (fun q1=>bO WV ⟨b,D,60⟩ ⟨g4,by simp[*],by simp[*],by grind,by grind⟩ (?_)) (fun q1=>⟨WV,rfl,⟨b,D,n⟩,?_,rfl,⟨g4,g1,by grind,by grind,by grind⟩,ao,?_⟩)
  ·rintro y rfl;obtain⟨a1,a2,a3,a4,a5,-⟩:=Ku g4 (k:=60) (by decide) (by decide);refine⟨⟨n-60,mX D 60,f⟩,⟨by grind,by grind,by grind,a1,by grind,by grind,by rw[h,rq,bw (show 60<n by omega),aU]⟩,⟨rfl,congrArg _ (by rw[dG (i:=.i64) (n:= -(n:Int)+60) aK];dsimp only;omega),ao⟩,l _,by grind⟩
  ·have e:u64.wrap (i64.wrap (0-(-(n:Int))))=(n:Int):=by
    rw[show 0-(-(n:Int))=(n:Int) by omega,dG (i:=.i64) (n:=(n:Int)) aK,j9 ae]
   rw[e]
  ·rintro y rfl;exact fin _ (by rw[h,rq,bF (show ¬60<n by omega),aN])
theorem Fm:aD 156 qd:=fo 37 Tryz.func156 (fun _ _=>[(0,3,iH 0),(3,1,bv zd),(4,1,iH 0),(5,2,aW),(5,3,bv zd),(8,1,bv xD),(9,1,iH 0),(10,2,iH 0),(10,3,aW),(10,4,bv xD)]) [] aj1 aY bA [] aj2
end
end Go.Proofs.YtdkchodgklpomaaGreatDoor
