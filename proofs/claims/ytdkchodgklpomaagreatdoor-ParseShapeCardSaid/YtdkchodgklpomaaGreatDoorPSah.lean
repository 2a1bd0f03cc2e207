/- Part of the proof that ParseShape answers true at every input. -/
import Derived.Test.YtdkchodgklpomaaGreatDoorPSag
set_option linter.all false
namespace Go.Proofs.YtdkchodgklpomaaGreatDoor
set_option maxRecDepth 100000
open Go.Value (int slice string bool pointer agg tuple func float iface nilIface)
open Go.IntKind (i64 u8 u64 i32 u32 u16 i8 i16)
open Go.FloatKind (f64)
open Go.Ending (returned panicked)
section
open Go
structure Xi where
 b:Nat
 h:Int
def Gj(n:Nat):mw where
 X:=Xi
 args x:=[.pointer (some ⟨x.b,0,none⟩),.int .i64 0,.int .i64 x.h]
 cond x:=0<=x.h/\x.h<=n
 val x:=.slice (some ⟨x.b,0,none⟩) x.h.toNat n
theorem ae_{P:Program}{o:Oper}{t e:TypeId}{n:Nat}{x l h:Operand}{cy:TypeInfo}(ho:o.op= .slice t x (some l) (some h) none)(ht:P.underlying t=some (.array (P.arrayLen t) (P.elem t)))(hn:P.arrayLen t=n)(he:P.elem t=e)(hi:P.info? e=some cy):dH P o (Gj n):=by
 refine⟨fun q w ρ ha hc=>?_⟩;obtain⟨b,hh⟩:=q;obtain⟨h0,h1⟩:=hc;dsimp only at h0 h1;simp only[ho,Op.operands,Gj]at ha;have c5:ρ x= .pointer (some ⟨b,0,none⟩)/\ρ l= .int .i64 0/\ρ h= .int .i64 hh:=by simpa using ha
 obtain⟨hx,hl,hhh⟩:=c5;have hr:=run_sliceAt_array_lh (P:=P) w t ⟨b,0,none⟩ ht .i64 .i64 0 hh (cN _) h0 (by rw[hn];exact h1);rw[he,run_sizeOf w hi,hn]at hr;simp[execOp,ho,hx,hl,hhh,hr,slicedAt,Gj,Addr.add]
structure zd where
 b:Nat
 d:bn
 s:ByteArray
def uQ(d:bn)(s:ByteArray):Nat->Int->Bool
 |0,_=>false
 |f+1,i=>bif decide (i>=d.nd) then true else bif d.at_ i.toNat !=aE s i then decide (d.at_ i.toNat<aE s i) else uQ d s f (i+1)
def uR(d:bn)(s:ByteArray):Bool:=uQ d s s.size 0
def yx(x:zd):Option Addr:=some ⟨x.b,0,none⟩
def ER(x:zd):=ag x.b (aZ x.d) 158
def ye:aR where
 X:=zd
 args x:=[au (yx x) x.d.nd.toNat 800,aj x.s]
 pre x:=[ER x]
 cond x:=x.d.ok/\x.s.size<=1000
 val x _:=az (ak (uR x.d x.s))
 post x _:=[ER x]
def amH(x:zd)(F:ai):Nat->Option Inv:=fun
 |0=>some {X:=Nat,P:=fun i=>i<=x.s.size/\uR x.d x.s=uQ x.d x.s (x.s.size-i) i,mu:=fun i=>x.s.size-i,lv:=fun i=>[(0,au (yx x) x.d.nd.toNat 800),(1,aj x.s),(5,ae i)],st:=fun _=>[ER x,F]}
 |_=>none
def M8(a:Nat)(x:zd):=a<=x.s.size/\uR x.d x.s=uQ x.d x.s (x.s.size-a) (a:Int)
def uT(x:zd)(F:ai):=[(0,ag x.b (aZ x.d) 158),(1,F)]
theorem amK(x:zd)(F:ai)(hc:ye.cond x)(hr:ye.aQ x F):(∃(a:Nat),M8 a x/\(au (yx x) x.d.nd.toNat 800=au (yx x) x.d.nd.toNat 800/\aj x.s=aj x.s/\ae 0=ae ↑a/\True)/\aD (uT x F) (uT x F))/\aS fun(d:Nat)_=>M8 d x->aP ((d:Int)<(x.s.size:Int)) (aP ((d:Int)>=(x.d.nd.toNat:Int)) (aq ye x F jv (uT x F)) (true=true/\(0<=(d:Int)/\(d:Int)<(x.d.nd.toNat:Int))/\jP (ER x) ⟨x.b,0+(d:Int).toNat*1,none⟩ (fun b=>(0<=(d:Int)/\(d:Int)<(x.s.size:Int))/\Br (b !=aE x.s (d:Int)) (true=true/\(0<=(d:Int)/\(d:Int)<(x.d.nd.toNat:Int))/\jP (ER x) ⟨x.b,0+(d:Int).toNat*1,none⟩ (fun a=>(0<=(d:Int)/\(d:Int)<(x.s.size:Int))/\aq ye x F (az (ak (decide (a<aE x.s (d:Int))))) (uT x F))) (((-9223372036854775808:Int)<=(d:Int)+(1:Int)/\(d:Int)+(1:Int)<=(9223372036854775807:Int))/\∃(a:Nat),M8 a x/\(au (yx x) x.d.nd.toNat 800=au (yx x) x.d.nd.toNat 800/\aj x.s=aj x.s/\ae ((d:Int)+(1:Int))=ae ↑a/\True)/\aD (uT x F) (uT x F)/\x.s.size-a<x.s.size-d)))) (aq ye x F c7 (uT x F)):=by
 delta M8 yx uT jv jP ER dq c7 ae a_ aj ak au ag aP az aS;obtain⟨b,d,s⟩:=x;obtain⟨⟨hl,h0,h1⟩,hs⟩:=hc;dsimp only at hl h0 h1 hs⊢;have P1:aD [(0,.cells b (aZ d) 158),(1,F)] [(0,.cells b (aZ d) 158),(1,F)]:=aB [0,1];have fin:∀v:Bool,uR d s=v->aq ye ⟨b,d,s⟩ F (returned (bool v)) [(0,.cells b (aZ d) 158),(1,F)]:=fun v e=>
  ⟨(),ao,by show _=returned (.bool (uR d s));rw[e],P1⟩
 have hn:((d.nd.toNat:Nat):Int)=d.nd:=af;refine⟨⟨0,⟨dC _,rfl⟩,aV,P1⟩,?_⟩;rintro i js ⟨hi,hv⟩;refine bl (fun q=>?_) (fun q=>fin _ ?_)
 ·obtain⟨f,hf⟩:∃f,s.size-i=f+1:=⟨s.size-i-1,af⟩;rw[hf]at hv;rw[hn];refine bl (fun q2=>fin _ (by rw[hv,uQ,bG q2];rfl)) (fun q2=>?_);have lk:aO (.cells b (aZ d) 158) ⟨b,0+(i:Int).toNat*1,none⟩ (.int .u8 (d.at_ (i:Int).toNat)):=by
   rw[show 0+(i:Int).toNat*1=i by omega,cB];exact zI hl af
  refine⟨rfl,aJ,_,lk,aJ,aG (fun q3=>⟨rfl,aJ,_,lk,aJ,fin _ ?_⟩) (fun q3=>⟨aJ,i+1,⟨af,?_⟩,⟨rfl,rfl,by rfl,ao⟩,P1,af⟩)⟩
  ·rw[hv,uQ,bK q2,show(d.at_ (i:Int).toNat !=aE s i)=true from q3];rfl
  ·rw[hv,uQ,bK q2,show(d.at_ (i:Int).toNat !=aE s i)=false from q3,show s.size-(i+1)=f by omega];rfl
 ·rw[hv,show s.size-i=0 by omega];rfl
theorem amJ:aC 183 ye:=fo 32 Tryz.func183 (fun _ _=>[(6,3,bH 0),(7,3,bH 0)]) [] amH aY bz [] amK
end
section
open Go
def de(g:Nat->Nat):Nat->Nat
 |0=>0
 |n+1=>de g n*10+g n
theorem Q1{g:Nat->Nat}:∀n,(∀i,i<n->g i<=9)->de g n<10^n
 |0,_=>by rw[de];decide
 |n+1,h=>by
  have:=Q1 n (fun i hi=>h i af);have h2:=h n (jj n);rw[de,Nat.pow_succ];omega
theorem Kg{g:Nat->Nat}:∀n,1<=g 0->1<=n->10^(n-1)<=de g n
 |0,_,h=>af
 |1,h0,_=>by show 1<=0*10+g 0;omega
 |n+2,h0,_=>by
  have:=Kg (n+1) h0 af;rw[de,show n+2-1=n+1 by omega,Nat.pow_succ];rw[show n+1-1=n by omega]at this;omega
theorem DG{g:Nat->Nat}(m:Nat):∀k,(∀i,i<m+k->g i<=9)->de g m*10^k<=de g (m+k)/\de g (m+k)<(de g m+1)*10^k
 |0,_=>aM
 |k+1,h=>by
  obtain⟨h1,h2⟩:=DG m k (fun i hi=>h i af);have h3:=h (m+k) af;rw[show m+(k+1)=m+k+1 by omega,de,Nat.pow_succ,<-Nat.mul_assoc,<-Nat.mul_assoc];omega
theorem Ke{g h:Nat->Nat}:∀n,(∀i,i<n->g i=h i)->de g n=de h n
 |0,_=>rfl
 |n+1,e=>by rw[de,de,Ke n (fun i hi=>e i af),e n (jj n)]
theorem YJ{g:Nat->Nat}:∀n r,(∀i,i<n->g i<=9)->r<n->de g n/10^(n-1-r)%10=g r
 |0,r,_,h=>af
 |n+1,r,h,hr=>by
  have h9:=h n (jj n);by_cases e:r=n
  ·subst e;rw[show r+1-1-r=0 by omega,Nat.pow_zero,Nat.div_one,de];omega
  ·have:=YJ n r (fun i hi=>h i af) af;rw[show n+1-1-r=(n-1-r)+1 by omega,Nat.pow_succ,Nat.mul_comm,<-Nat.div_div_eq_div_mul,de,show(de g n*10+g n)/10=de g n by omega];exact this
def dB(d:bn)(i:Nat):Nat:=(d.at_ i-48).toNat
def ku(s:ByteArray)(i:Nat):Nat:=(aE s i-48).toNat
structure bn.norm(d:bn):Prop where
 len:d.ds.length=800
 pos:1<=d.nd
 max:d.nd<=800
 iA:∀i:Nat,(i:Int)<d.nd->48<=d.at_ i/\d.at_ i<=57
 fst:d.at_ 0≠48
variable{s:ByteArray}{d:bn}
theorem bn.norm.ok(h:d.norm):d.ok:=⟨h.len,by have:=h.pos;omega,h.max⟩
def bn.num(d:bn):Nat:=de (dB d) d.nd.toNat
theorem bn.norm.g9(h:d.norm):∀i,i<d.nd.toNat->dB d i<=9:=fun i hi=>by
 have:=h.iA i af;unfold dB;omega
theorem bn.norm.lt(h:d.norm):d.num<10^d.nd.toNat:=Q1 _ h.g9
theorem bn.norm.ge(h:d.norm):10^(d.nd.toNat-1)<=d.num:=Kg _ (by
 have:=h.iA 0 (by have:=h.pos;omega);have:=h.fst;unfold dB;omega) (by have:=h.pos;omega)
structure I3(s:ByteArray):Prop where
 iA:∀i:Nat,i<s.size->48<=aE s i/\aE s i<=57
 pos:1<=s.size
 x7:aE s ((s.size-1:Nat):Int)≠48
def vE(s:ByteArray):Nat:=de (ku s) s.size
theorem I3.g9(h:I3 s):∀i,i<s.size->ku s i<=9:=fun i hi=>by
 have:=h.iA i hi;unfold ku;omega
theorem tm(n:Nat):0<10^n:=Nat.pow_pos (by decide)
theorem amI(hd:d.norm)(hs:I3 s):∀(f i:Nat),f+i=s.size->i<=d.nd.toNat->(∀j,j<i->dB d j=ku s j)->
  (uQ d s f i=true->d.num*10^s.size<vE s*10^d.nd.toNat)/\(uQ d s f i=false->vE s*10^d.nd.toNat<=d.num*10^s.size):=by
 intro f
 induction f with
 |zero=>
  intro i hf hi he;have jY:i=s.size:=af;subst jY;refine⟨fun h=>(by rw[uQ]at h;cases h),fun _=>?_⟩;have h1:=DG (g:=dB d) s.size (d.nd.toNat-s.size) (fun j hj=>hd.g9 j af);rw[show s.size+(d.nd.toNat-s.size)=d.nd.toNat by omega,Ke _ he]at h1;have h2:=Nat.mul_le_mul_right (10^s.size) h1.1;rw[Nat.mul_assoc,<-Nat.pow_add,show d.nd.toNat-s.size+s.size=d.nd.toNat by omega]at h2;exact h2
 |succ f ih=>
  intro i hf hi he;rw[uQ];by_cases hn:(i:Int)>=d.nd
  ·rw[bG hn];refine⟨fun _=>?_,fun h=>(by cases h)⟩;have ZE:i=d.nd.toNat:=af;subst ZE;have h0:d.num=de (ku s) d.nd.toNat:=Ke _ he;have h1:=DG (g:=ku s) d.nd.toNat (s.size-1-d.nd.toNat) (fun j hj=>hs.g9 j af);rw[show d.nd.toNat+(s.size-1-d.nd.toNat)=s.size-1 by omega]at h1;have h2:vE s=de (ku s) (s.size-1)*10+ku s (s.size-1):=by
    unfold vE
    conv=>lhs;rw[show s.size=(s.size-1)+1 by omega,de]
   have h3:1<=ku s (s.size-1):=by
    have a:=hs.iA (s.size-1) af;have b:=hs.x7;unfold ku;omega
   have h4:d.num*10^(s.size-d.nd.toNat)<vE s:=by
    rw[h0,h2,show s.size-d.nd.toNat=(s.size-1-d.nd.toNat)+1 by omega,Nat.pow_succ,<-Nat.mul_assoc];omega
   have h5:=Nat.mul_lt_mul_of_pos_right h4 (tm d.nd.toNat);rw[Nat.mul_assoc,<-Nat.pow_add,show s.size-d.nd.toNat+d.nd.toNat=s.size by omega]at h5;exact h5
  ·rw[bK hn,aU];have a1:=hd.iA i af;have a2:=hs.iA i af;rw[cB];cases hb:d.at_ i !=aE s (i:Int)with
   |false=>
    rw[aU];have hb:d.at_ i=aE s (i:Int):=by simpa using hb
    have:=ih (i+1) af af (fun j hj=>by
     by_cases e:j=i
     ·subst e;unfold dB ku;rw[hb]
     ·exact he j af)
    rw[show((i:Int)+1)=((i+1:Nat):Int) by omega];exact this
   |true=>
    rw[bf];have hb:d.at_ i≠aE s (i:Int):=by simpa using hb
    have e0:=Ke i he;have p1:de (dB d) (i+1)=de (ku s) i*10+dB d i:=by rw[de,e0]
    have p2:de (ku s) (i+1)=de (ku s) i*10+ku s i:=by rw[de]
    have q1:=DG (g:=dB d) (i+1) (d.nd.toNat-(i+1)) (fun j hj=>hd.g9 j af);have q2:=DG (g:=ku s) (i+1) (s.size-(i+1)) (fun j hj=>hs.g9 j af);rw[show i+1+(d.nd.toNat-(i+1))=d.nd.toNat by omega]at q1;rw[show i+1+(s.size-(i+1))=s.size by omega]at q2;have pw:10^(d.nd.toNat-(i+1))*10^s.size=10^(s.size-(i+1))*10^d.nd.toNat:=by
     rw[<-Nat.pow_add,<-Nat.pow_add];congr 1;omega
    refine⟨fun h=>?_,fun h=>?_⟩
    ·have h:=l7 h;have bP:de (dB d) (i+1)+1<=de (ku s) (i+1):=by rw[p1,p2];unfold dB ku;omega
     calc d.num*10^s.size<(de (dB d) (i+1)+1)*10^(d.nd.toNat-(i+1))*10^s.size:=Nat.mul_lt_mul_of_pos_right q1.2 (tm _)
      _<=de (ku s) (i+1)*10^(d.nd.toNat-(i+1))*10^s.size:=Nat.mul_le_mul_right _ (Nat.mul_le_mul_right _ bP)
      _=de (ku s) (i+1)*10^(s.size-(i+1))*10^d.nd.toNat:=by rw[Nat.mul_assoc,pw,<-Nat.mul_assoc]
      _<=vE s*10^d.nd.toNat:=Nat.mul_le_mul_right _ q2.1
    ·have h:=Ro h;have bP:de (ku s) (i+1)+1<=de (dB d) (i+1):=by rw[p1,p2];unfold dB ku;omega
     calc vE s*10^d.nd.toNat<=(de (ku s) (i+1)+1)*10^(s.size-(i+1))*10^d.nd.toNat:=Nat.mul_le_mul_right _ (Nat.le_of_lt q2.2)
      _<=de (dB d) (i+1)*10^(s.size-(i+1))*10^d.nd.toNat:=Nat.mul_le_mul_right _ (Nat.mul_le_mul_right _ bP)
      _=de (dB d) (i+1)*10^(d.nd.toNat-(i+1))*10^s.size:=by rw[Nat.mul_assoc,<-pw,<-Nat.mul_assoc]
      _<=d.num*10^s.size:=Nat.mul_le_mul_right _ q1.1
structure C7(k:Nat)(c:Nat×ByteArray):Prop where
 iA:I3 c.2
 num:vE c.2=5^k
 Gt:c.1+c.2.size=k+1
 Bj:10^(c.2.size-1)<=5^k
 one:1<=c.1
def np(d:bn)(c:Nat×ByteArray):Nat:=bif uR d c.2 then c.1-1 else c.1
theorem aay(hd:d.norm){k:Nat}{c:Nat×ByteArray}(hc:C7 k c):10^(d.nd.toNat+np d c-1)<=d.num*2^k/\d.num*2^k<10^(d.nd.toNat+np d c):=by
 have hp:=amI hd hc.iA c.2.size 0 af (dC _) (fun j hj=>af);have hY:1<=d.nd.toNat:=by have:=hd.pos;omega
 have jo:vE c.2<10^c.2.size:=Q1 _ hc.iA.g9;have h1:=hc.one;have arq:=hc.Gt;have ZT:=hc.iA.pos;rw[hc.num]at hp jo;have Kw:2^k*5^k=10^k:=by rw[<-Nat.mul_pow]
 have lo:10^(c.1-1)<=2^k:=by
  have e:10^(c.1-1)*10^c.2.size=2^k*5^k:=by rw[Kw,<-Nat.pow_add];congr 1;omega
  have:10^(c.1-1)*10^c.2.size<=2^k*10^c.2.size:=by rw[e];exact Nat.mul_le_mul_left _ (Nat.le_of_lt jo)
  exact Nat.le_of_mul_le_mul_right this (tm _)
 have hi:2^k<=10^c.1:=by
  have e:10^c.1*10^(c.2.size-1)=2^k*5^k:=by rw[Kw,<-Nat.pow_add];congr 1;omega
  have:2^k*10^(c.2.size-1)<=10^c.1*10^(c.2.size-1):=by rw[e];exact Nat.mul_le_mul_left _ hc.Bj
  exact Nat.le_of_mul_le_mul_right this (tm _)
 unfold np;cases hb:uR d c.2 with
 |true=>
  rw[bf];have h2:=hp.1 hb;constructor
  ·calc 10^(d.nd.toNat+(c.1-1)-1)=10^(d.nd.toNat-1)*10^(c.1-1):=by rw[<-Nat.pow_add];congr 1;omega
    _<=d.num*2^k:=Nat.mul_le_mul hd.ge lo
  ·have h3:=Nat.mul_lt_mul_of_pos_right h2 (Nat.pow_pos (n:=k) (show 0<2 by decide));have e1:d.num*10^c.2.size*2^k=d.num*2^k*10^c.2.size:=by rw[Nat.mul_right_comm]
   have e2:5^k*10^d.nd.toNat*2^k=10^(d.nd.toNat+(c.1-1))*10^c.2.size:=by
    rw[Nat.mul_right_comm,Nat.mul_comm (5^k),Kw,<-Nat.pow_add,<-Nat.pow_add];congr 1;omega
   rw[e1,e2]at h3;exact Nat.lt_of_mul_lt_mul_right h3
 |false=>
  rw[aU];have h2:=hp.2 hb;constructor
  ·have h3:=Nat.mul_le_mul_right (2^k) h2;have e1:d.num*10^c.2.size*2^k=d.num*2^k*10^c.2.size:=by rw[Nat.mul_right_comm]
   have e2:5^k*10^d.nd.toNat*2^k=10^(d.nd.toNat+c.1-1)*10^c.2.size:=by
    rw[Nat.mul_right_comm,Nat.mul_comm (5^k),Kw,<-Nat.pow_add,<-Nat.pow_add];congr 1;omega
   rw[e1,e2]at h3;exact Nat.le_of_mul_le_mul_right h3 (tm _)
  ·calc d.num*2^k<10^d.nd.toNat*2^k:=Nat.mul_lt_mul_of_pos_right hd.lt (Nat.pow_pos (by decide))
    _<=10^d.nd.toNat*10^c.1:=Nat.mul_le_mul_left _ hi
    _=10^(d.nd.toNat+c.1):=(Nat.pow_add _ _ _).symm
end
section
open Go
def eL(f:Nat->Int):List Int:=(List.range 800).map f
def j8(d:bn)(M N w j:Nat):Int:=bif decide (w<=j)&&decide (j<N) then 48+(M/10^(N-1-j)%10:Nat) else d.at_ j
def lh(d:bn)(M N w:Nat):Bool:=d.tr||(M%10^(N-max w 800)!=0)
def ik(d:bn)(M N w:Nat):bn:=⟨eL (j8 d M N w),d.nd,d.dp,d.ng,lh d M N w⟩
def iF(d:bn)(c:Nat×ByteArray):Nat:=d.nd.toNat+np d c
def qy(d:bn)(k:Nat)(c:Nat×ByteArray):bn:=lW ⟨eL (j8 d (d.num*2^k) (iF d c) 0),(min (iF d c) 800:Nat),d.dp+(np d c:Nat),d.ng,lh d (d.num*2^k) (iF d c) 0⟩
theorem we(f:Nat->Int):(eL f).length=800:=by unfold eL;simp
variable{i t:Nat}{f:Nat->Int}
theorem SQ(h:i<800):(eL f).getD i 0=f i:=by
 unfold eL;rw[fD,gw,List.getElem?_range h];rfl
theorem El{g:Nat->Int}(h:∀i,i<800->f i=g i):eL f=eL g:=by
 unfold eL;exact List.map_congr_left fun i hi=>h i (List.mem_range.1 hi)
theorem aaY(v:Int):(eL f).set i v=eL (fun j=>if j=i then v else f j):=by
 apply List.ext_getElem?;intro j;unfold eL;by_cases hj:j<800
 ·rw[gw,List.getElem?_range hj,List.getElem?_set,gw,List.getElem?_range hj];by_cases e:i=j
  ·subst e;simp[hj]
  ·simp[e,Ne.symm e]
 ·rw[sQ (by simp;omega),sQ (by simp;omega)]
theorem aaX{l:List Int}(h:l.length=800):l=eL (fun i=>l.getD i 0):=by
 apply List.ext_getElem?;intro j;unfold eL;by_cases hj:j<800
 ·rw[gw,List.getElem?_range hj];show l[j]?=some (l.getD j 0);rw[fD,gv af];rfl
 ·rw[sQ af,sQ (by simp;omega)]
section
variable{d:bn}{M N w:Nat}
theorem aaw(hw:1<=w)(hN:w<=N)(j:Nat):j8 d M N (w-1) j=if j=w-1 then 48+((M/10^(N-w)%10:Nat):Int) else j8 d M N w j:=by
 unfold j8;grind
theorem ak3(h:w<=800):lh d M N (w-1)=lh d M N w:=by
 unfold lh;grind
theorem ak2(hw:800<w)(hN:w<=N):lh d M N (w-1)=(lh d M N w||(M/10^(N-w)%10 !=0)):=by
 unfold lh;rw[show max (w-1) 800=w-1 by omega,show max w 800=w by omega,show N-(w-1)=N-w+1 by omega,Nat.mod_pow_succ,Bool.or_assoc];congr 1;rw[Bool.eq_iff_iff];simp only[bne_iff_ne,Bool.or_eq_true];have hp:=tm (N-w);constructor
 ·grind
 ·rintro(h|h) e
  ·omega
  ·have:0<M/10^(N-w)%10:=Nat.pos_of_ne_zero h;have:=Nat.mul_pos hp this;omega
theorem wa:(ik d M N w).ds.length=800:=by unfold ik;dsimp only;rw[we]
theorem aax(hw:1<=w)(hN:w<=N)(h8:w<=800):(aZ (ik d M N w)).set (w-1) (.int .u8 (48+(M/10^(N-w)%10:Nat)))=aZ (ik d M N (w-1)):=by
 rw[WS wa af];unfold ik;dsimp only;rw[aaY,ak3 h8];exact congrArg (fun l=>aZ ⟨l,d.nd,d.dp,d.ng,lh d M N w⟩) (El fun i _=>(aaw hw hN i).symm)
theorem Lc(hw:800<w)(hN:w<=N):ik d M N (w-1)=⟨eL (j8 d M N w),d.nd,d.dp,d.ng,lh d M N w||(M/10^(N-w)%10 !=0)⟩:=by
 unfold ik;rw[ak2 hw hN,show eL (j8 d M N (w-1))=eL (j8 d M N w)from El fun i hi=>by rw[aaw af hN,if_neg af]]
theorem ak1(hl:d.ds.length=800):ik d M N N=d:=by
 unfold ik;have h1:lh d M N N=d.tr:=by
  unfold lh;rw[show N-max N 800=0 by omega,Nat.pow_zero,Nat.mod_one];cases d.tr <;> rfl
 have h2:eL (j8 d M N N)=d.ds:=by
  rw[aaX hl];refine El fun i _=>?_;unfold j8;by_cases h:N<=i
  ·rw[bK (show ¬i<N by omega),n6];rfl
  ·rw[bK h];rfl
 rw[h1,h2]
end
theorem aaE(D k p:Nat):((D%10^p)*2^k/10^p+D/10^p%10*2^k)/10=(D%10^(p+1))*2^k/10^(p+1)/\((D%10^p)*2^k/10^p+D/10^p%10*2^k)%10=D*2^k/10^p%10/\(D%10^p)*2^k/10^p<=2^k:=by
 have hp:=tm p;have e1:(D%10^(p+1))*2^k/10^p=(D%10^p)*2^k/10^p+D/10^p%10*2^k:=by
  rw[Nat.mod_pow_succ,Nat.add_mul,Nat.mul_assoc,Nat.add_mul_div_left _ _ hp]
 refine⟨?_,?_,?_⟩
 ·rw[<-e1,Nat.div_div_eq_div_mul,<-Nat.pow_succ]
 ·rw[<-e1];have e2:D*2^k=(D%10^(p+1))*2^k+10^p*(10*(D/10^(p+1)*2^k)):=by
   conv=>lhs;rw[<-Nat.mod_add_div D (10^(p+1))]
   grind
  rw[e2,Nat.add_mul_div_left _ _ hp,Nat.add_mul_mod_self_left]
 ·refine Nat.div_le_of_le_mul ?_;exact Nat.mul_le_mul_right _ (Nat.le_of_lt (Nat.mod_lt _ hp))
theorem lu{n:Nat}(h:n<18446744073709551616):u64.wrap (n:Int)=(n:Int):=dA (i:=.u64) aJ
theorem Ww(h:t<18446744073709551616):u64.wrap ((t:Int).tdiv 10)=((t/10:Nat):Int):=by
 rw[show(t:Int).tdiv 10=((t/10:Nat):Int)from rfl];exact lu af
theorem abx(h:t<18446744073709551616):u64.wrap ((t:Int)-u64.wrap (10*u64.wrap ((t:Int).tdiv 10)))=((t%10:Nat):Int):=by
 rw[Ww h,show(10:Int)*((t/10:Nat):Int)=((10*(t/10):Nat):Int) by omega,lu af,show(t:Int)-((10*(t/10):Nat):Int)=((t%10:Nat):Int) by omega];exact lu af
theorem YG(t:Nat):u8.wrap (u64.wrap (((t%10:Nat):Int)+48))=48+((t%10:Nat):Int):=by
 rw[dA (i:=.u64) (n:=((t%10:Nat):Int)+48) aJ,dA (i:=.u8) (n:=((t%10:Nat):Int)+48) aJ];omega
def D7(kk:IntKind)(k:Nat):mw where
 X:=w6
 args x:=[.slice (some ⟨x.b,x.o,none⟩) x.len x.cap,.int kk x.n]
 cond x:=0<=x.n/\x.n<x.len
 val x:=.pointer (some ⟨x.b,x.o+x.n.toNat*k,none⟩)
theorem aaa{P:Program}{o:Oper}{x i:Operand}{t e:TypeId}{cy:TypeInfo}{kk:IntKind}(k:Nat)(ho:o.op= .indexAddr t x i)(ht:P.underlying t=some (.slice e))(hi:P.info? e=some cy)(hk:cy.size=k):dH P o (D7 kk k):=by
 refine⟨fun X w ρ ha hc=>?_⟩;obtain⟨b,off,len,cap,n⟩:=X;obtain⟨h0,h1⟩:=hc;dsimp only at h0 h1;simp only[ho,Op.operands,D7]at ha;obtain⟨hx,hn⟩:ρ x= .slice (some ⟨b,off,none⟩) len cap/\ρ i= .int kk n:=by grind
 have gx:P.cellsOf e=cy.size:=by unfold Program.cellsOf;simp[hi]
 subst hk;simp[execOp,ho,hx,hn,Instr.indexAt,asIntOf,run_underlying ht,run_sizeOf w hi,gx,h0,h1,sD,Sem.run,D7]
structure iZ where
 b:Nat
 d:bn
 k:Nat
 tb:Nat->Nat
 lc:Nat->Nat×ByteArray
def EQ(x:iZ):=ag x.b (aZ x.d) 158
def kH(x:iZ):Option Addr:=some ⟨x.b,0,none⟩
def BT:aR where
 X:=iZ
 Y:=bn
 args x:=[ah (kH x),aA x.k]
 pre x:=[EQ x]
 cond x:=x.d.norm/\1<=x.k/\x.k<=60/\C7 x.k (x.lc x.k)/\ -1000000000<=x.d.dp/\x.d.dp<=1000000000
 aQ x F:=ic x.tb x.lc F
 cd x y:=y=qy x.d x.k (x.lc x.k)
 val _ _:=.returned (.tuple #[])
 post x y:=[ag x.b (aZ y) 158]
structure lD where
 r:Nat
 w:Nat
 d:bn
def iZ.M(x:iZ):Nat:=x.d.num*2^x.k
def iZ.N(x:iZ):Nat:=iF x.d (x.lc x.k)
def iZ.e(x:iZ):Nat:=np x.d (x.lc x.k)
def iZ.c(x:iZ)(r:Nat):Nat:=(x.d.num%10^(x.d.nd.toNat-r))*2^x.k/10^(x.d.nd.toNat-r)
def z8(x:iZ)(s:lD):=ag x.b (aZ s.d) 158
def ak5(x:iZ)(F:ai):Nat->Option Inv:=fun
 |0=>some {X:=lD,P:=fun s=>s.r<=x.d.nd.toNat/\s.d=ik x.d x.M x.N (s.r+x.e),mu:=fun s=>s.r,lv:=fun s=>[(0,ah (kH x)),(1,aA x.k),(4,ae x.e),(5,ae ((s.r:Int)-1)),(6,ae ((s.r+x.e:Nat):Int)),(7,aA (x.c s.r:Nat))],st:=fun s=>[z8 x s,F]}
 |2=>some {X:=lD,P:=fun s=>s.w<=x.e/\s.d=ik x.d x.M x.N s.w,mu:=fun s=>s.w,lv:=fun s=>[(0,ah (kH x)),(4,ae x.e),(6,ae (s.w:Int)),(7,aA (x.M/10^(x.N-s.w):Nat))],st:=fun s=>[z8 x s,F]}
 |_=>none
def ak4(x:iZ)(F:ai):Nat->Option Inv:=fun
 |3=>some {X:=Unit,P:=fun _=>True,mu:=fun _=>0,lv:=fun _=>[(0,ah (kH x)),(1,aA x.k),(4,ae x.e)],st:=fun _=>[EQ x,F]}
 |27=>some {X:=lD,P:=fun s=>s.d=ik x.d x.M x.N 0,mu:=fun _=>0,lv:=fun _=>[(0,ah (kH x)),(4,ae x.e)],st:=fun s=>[z8 x s,F]}
 |30=>some {X:=lD,P:=fun s=>s.d=⟨eL (j8 x.d x.M x.N 0),(min x.N 800:Nat),x.d.dp,x.d.ng,lh x.d x.M x.N 0⟩,mu:=fun _=>0,lv:=fun _=>[(0,ah (kH x)),(4,ae x.e)],st:=fun s=>[z8 x s,F]}
 |_=>none
def O9(oo:Oper)(aa:List Value)(k0:w6->Prop):=dH Tryz.prog oo (D7 u64 2)/\∃(z:w6),aa=[au (some ⟨z.b,z.o,none⟩) z.len z.cap,aA z.n]/\(0<=z.n/\z.n<z.len)/\k0 z
def O_(e0:iZ)(e1:ai)(v0:Value)(ss:St):=∃(z:Unit),True/\(ah (kH e0)=ah (kH e0)/\aA ↑e0.k=aA ↑e0.k/\v0=ae ↑e0.e/\True)/\aD ss [(0,ag e0.b (aZ e0.d) 158),(1,e1)]
def Np(z:lD)(e0:iZ):=z.r<=e0.d.nd.toNat/\z.d=ik e0.d e0.M e0.N (z.r+e0.e)
def uU(e0:iZ)(z:lD)(e1:ai):=[(0,ag e0.b (aZ z.d) 158),(1,e1)]
def Mm(j:lD):=(-9223372036854775808:Int)<=(j.r:Int)-1-(1:Int)/\(j.r:Int)-1-(1:Int)<=(9223372036854775807:Int)
def Jf(e0:iZ)(e1:ai)(v0 v1 v2:Value)(ss:St)(mm:Nat):=∃(z:lD),Np z e0/\(ah (kH e0)=ah (kH e0)/\aA ↑e0.k=aA ↑e0.k/\ae ↑e0.e=ae ↑e0.e/\v0=ae ((z.r:Int)-1)/\v1=ae (↑(z.r+e0.e):Int)/\v2=aA (↑(e0.c z.r):Int)/\True)/\aD ss (uU e0 z e1)/\z.r<mm
def NL(j:lD):=ae ((j.r:Int)-1-(1:Int))
def LO(x:iZ)(j:lD)(b:Int):=aA (bc ((bc ((↑(x.c j.r):Int)+bc (bc (bc b-48)*2^min (x.k:Int).toNat u64.bits))).tdiv (10:Int)))
def Jg(e0:iZ)(e1:ai)(v0 v1:Value)(ss:St)(mm:Nat):=∃(z:lD),(z.w<=e0.e/\z.d=ik e0.d e0.M e0.N z.w)/\(ah (kH e0)=ah (kH e0)/\ae ↑e0.e=ae ↑e0.e/\v0=ae ↑z.w/\v1=aA (↑(e0.M/10^(e0.N-z.w)):Int)/\True)/\aD ss (uU e0 z e1)/\z.w<mm
def MR(x:iZ)(c:lD):=aA (bc ((↑(x.M/10^(x.N-c.w)):Int).tdiv (10:Int)))
def VN(e0:iZ):=ah (kH e0)=ah (kH e0)/\ae ↑e0.e=ae ↑e0.e/\True
def Pa(e0:iZ)(e1:ai)(ss:St):=∃(z:lD),z.d=⟨eL (j8 e0.d e0.M e0.N 0),(↑(min e0.N 800):Int),e0.d.dp,e0.d.ng,lh e0.d e0.M e0.N 0⟩/\VN e0/\aD ss (uU e0 z e1)
def Jh(aa:List Value)(pp:List ai)(k0:lY->Unit->Prop):=aC 184 wQ/\true=true/\∃(z:lY),aa=[ah (ju z)]/\pp=[ag z.b (aZ z.d) 158]/\z.d.ok/\True/\∀(u0:Unit),True->k0 z u0
theorem ak6(x:iZ)(F:ai)(hc:BT.cond x)(hr:BT.aQ x F):e8 F ⟨16,0,none⟩ (fun s r q=>O9 (a8 Tryz.f168 0 2) [au s r q,aA ↑x.k] (fun p=>T1 F ⟨p.b,p.o+p.n.toNat*2,none⟩ (fun o=>(true=true/\T1 (EQ x) ⟨x.b,800,none⟩ (fun j=>dH Tryz.prog (a8 Tryz.f168 1 7) (Gj 800)/\∃(i:Xi),[ah (kH x),ae 0,ae j]=[ah (some ⟨i.b,0,none⟩),ae 0,ae i.h]/\(0<=i.h/\i.h<=(↑(800:Nat):Int))/\e8 F ⟨16,0,none⟩ (fun h g f=>O9 (a8 Tryz.f168 1 10) [au h g f,aA ↑x.k] (fun e=>T2 F ⟨e.b,e.o+e.n.toNat*2+1,none⟩ (fun d=>aC 183 ye/\true=true/\∃(c:zd),[au (some ⟨i.b,0,none⟩) i.h.toNat 800,aj d]=[au (yx c) c.d.nd.toNat 800,aj c.s]/\[ag x.b (aZ x.d) 158]=[ag c.b (aZ c.d) 158]/\(c.d.ok/\c.s.size<=1000)/\True/\∀(b:Unit),True->Br (uR c.d c.s) (pY o/\O_ x F (ae (o-1)) (uT c F)) (O_ x F (ae o) (uT c F)))))))/\aS fun(n:Unit)_=>True->T1 (EQ x) ⟨x.b,800,none⟩ (fun l=>T1 (EQ x) ⟨x.b,800,none⟩ (fun k=>bT (k+x.e)/\pY l/\(∃(a:lD),Np a x/\(ah (kH x)=ah (kH x)/\aA ↑x.k=aA ↑x.k/\ae ↑x.e=ae ↑x.e/\ae (l-1)=ae ((a.r:Int)-1)/\ae (k+x.e)=ae (↑(a.r+x.e):Int)/\aA 0=aA (↑(x.c a.r):Int)/\True)/\aD [(0,ag x.b (aZ x.d) 158),(1,F)] (uU x a F))/\aS fun(j:lD)_=>Np j x->aP ((j.r:Int)-1>=(0:Int)) ((0<=(j.r:Int)-1/\(j.r:Int)-1<(↑(800:Nat):Int))/\jP (z8 x j) ⟨x.b,0+((j.r:Int)-1).toNat*1,none⟩ (fun b=>((-9223372036854775808:Int)<=(↑(j.r+x.e):Int)-1/\(↑(j.r+x.e):Int)-1<=(9223372036854775807:Int))/\aP ((↑(j.r+x.e):Int)-1<(800:Int)) ((0<=(↑(j.r+x.e):Int)-1/\(↑(j.r+x.e):Int)-1<(↑(800:Nat):Int))/\(dS ⟨x.b,0+((↑(j.r+x.e):Int)-1).toNat*1,none⟩ x.b/\0+((↑(j.r+x.e):Int)-1).toNat*1<(aZ j.d).length)/\Mm j/\Jf x F (NL j) (ae ((↑(j.r+x.e):Int)-1)) (LO x j b) [(0,ag x.b ((aZ j.d).set (0+((↑(j.r+x.e):Int)-1).toNat*1) (a_ (u8.wrap (bc (bc (bc ((↑(x.c j.r):Int)+bc (bc (bc b-48)*2^min (x.k:Int).toNat u64.bits))-bc (10*bc ((bc ((↑(x.c j.r):Int)+bc (bc (bc b-48)*2^min (x.k:Int).toNat u64.bits))).tdiv (10:Int))))+48))))) 158),(1,F)] j.r) (Br (bc (bc ((↑(x.c j.r):Int)+bc (bc (bc b-48)*2^min (x.k:Int).toNat u64.bits))-bc (10*bc ((bc ((↑(x.c j.r):Int)+bc (bc (bc b-48)*2^min (x.k:Int).toNat u64.bits))).tdiv (10:Int))))!=0) ((ax x.b 803/\803<(aZ j.d).length)/\Mm j/\Jf x F (NL j) (ae ((↑(j.r+x.e):Int)-1)) (LO x j b) [(0,ag x.b ((aZ j.d).set 803 (ak true)) 158),(1,F)] j.r) (Mm j/\Jf x F (NL j) (ae ((↑(j.r+x.e):Int)-1)) (LO x j b) (uU x j F) j.r)))) (((∃(a:lD),(a.w<=x.e/\a.d=ik x.d x.M x.N a.w)/\(ah (kH x)=ah (kH x)/\ae ↑x.e=ae ↑x.e/\ae (↑(j.r+x.e):Int)=ae ↑a.w/\aA (↑(x.c j.r):Int)=aA (↑(x.M/10^(x.N-a.w)):Int)/\True)/\aD (uU x j F) (uU x a F))/\aS fun(c:lD)_=>(c.w<=x.e/\c.d=ik x.d x.M x.N c.w)->aP ((↑(x.M/10^(x.N-c.w)):Int)>0) (((-9223372036854775808:Int)<=(c.w:Int)-1/\(c.w:Int)-1<=(9223372036854775807:Int))/\aP ((c.w:Int)-1<(800:Int)) ((0<=(c.w:Int)-1/\(c.w:Int)-1<(↑(800:Nat):Int))/\(dS ⟨x.b,0+((c.w:Int)-1).toNat*1,none⟩ x.b/\0+((c.w:Int)-1).toNat*1<(aZ c.d).length)/\Jg x F (ae ((c.w:Int)-1)) (MR x c) [(0,ag x.b ((aZ c.d).set (0+((c.w:Int)-1).toNat*1) (a_ (u8.wrap (bc (bc ((↑(x.M/10^(x.N-c.w)):Int)-bc (10*bc ((↑(x.M/10^(x.N-c.w)):Int).tdiv (10:Int))))+48))))) 158),(1,F)] c.w) (Br (bc ((↑(x.M/10^(x.N-c.w)):Int)-bc (10*bc ((↑(x.M/10^(x.N-c.w)):Int).tdiv (10:Int))))!=0) ((ax x.b 803/\803<(aZ c.d).length)/\Jg x F (ae ((c.w:Int)-1)) (MR x c) [(0,ag x.b ((aZ c.d).set 803 (ak true)) 158),(1,F)] c.w) (Jg x F (ae ((c.w:Int)-1)) (MR x c) (uU x c F) c.w))) (∃(a:lD),a.d=ik x.d x.M x.N 0/\VN x/\aD (uU x c F) (uU x a F)))/\aS fun(h:lD)_=>h.d=ik x.d x.M x.N 0->T1 (z8 x h) ⟨x.b,800,none⟩ (fun f=>bT (f+x.e)/\(ax x.b 800/\800<(aZ h.d).length)/\T1 (ag x.b ((aZ h.d).set 800 (ae (f+x.e))) 158) ⟨x.b,800,none⟩ (fun b=>aP (b>=800) ((ax x.b 800/\800<((aZ h.d).set 800 (ae (f+x.e))).length)/\Pa x F [(0,ag x.b (((aZ h.d).set 800 (ae (f+x.e))).set 800 (ae 800)) 158),(1,F)]) (Pa x F [(0,ag x.b ((aZ h.d).set 800 (ae (f+x.e))) 158),(1,F)]))/\aS fun(e:lD)_=>e.d=⟨eL (j8 x.d x.M x.N 0),(↑(min x.N 800):Int),x.d.dp,x.d.ng,lh x.d x.M x.N 0⟩->T1 (z8 x e) ⟨x.b,801,none⟩ (fun c=>bT (c+x.e)/\(ax x.b 801/\801<(aZ e.d).length)/\Jh [ah (kH x)] [ag x.b ((aZ e.d).set 801 (ae (c+x.e))) 158] (fun b a=>aq BT x F eM [(0,ag b.b (aZ (lW b.d)) 158),(1,F)]))))))))):=by
 delta e8 O9 T1 EQ kH T2 yx pY O_ uT Np uU jP z8 Mm Jf NL LO Jg MR VN Pa ju Jh eM ax bT ae a_ aA aj ak ah au ag bc aP az aS;obtain⟨b,d,k,tb,lc⟩:=x;obtain⟨hd,s_,lK,xF,vR,iE⟩:=hc;replace hr:ic tb lc F:=hr;dsimp only at hd s_ lK xF vR iE;have hl:=hd.len;have hY:1<=d.nd.toNat/\d.nd.toNat<=800/\((d.nd.toNat:Nat):Int)=d.nd:=by have:=hd.pos;have:=hd.max;omega
 have RJ:=aay hd xF;generalize hx:(⟨b,d,k,tb,lc⟩:iZ)=x at*;have xb:x.b=b:=by rw[<-hx]
 have xd:x.d=d:=by rw[<-hx]
 have xk:x.k=k:=by rw[<-hx]
 have xM:x.M=d.num*2^k:=by rw[<-hx];rfl
 have xe:x.e=np d (lc k):=by rw[<-hx];rfl
 have xN:x.N=d.nd.toNat+x.e:=by rw[<-hx];rfl
 have xc:∀r,x.c r=(d.num%10^(d.nd.toNat-r))*2^k/10^(d.nd.toNat-r):=by rw[<-hx];intro r;rfl
 rw[xb,xd,xk];have RK:x.e<=60:=by
  rw[xe];have h1:=xF.Gt;have h2:=xF.iA.pos;unfold np;cases uR d (lc k).2 <;> simp only[bf,aU] <;> omega
 have Kx:2^k<=1152921504606846976:=by
  have:2^k<=2^60:=oV (by decide) lK;exact this
 rw[<-xM,<-xe,<-xN]at RJ;have hMN:x.M<10^x.N:=RJ.2;obtain⟨B,o,cp,g1,g2⟩:=hr.lc;have P1:∀v:bn,aD [(0,.cells b (aZ v) 158),(1,F)] [(0,.cells b (aZ v) 158),(1,F)]:=fun v=>aB [0,1];refine⟨_,_,_,g1,aaa 2 rfl rfl rfl rfl,⟨B,o,61,cp,k⟩,rfl,iP,((lc k).1:Int),?_,⟨rfl,_,lg hl,ae_ rfl rfl rfl rfl rfl,⟨b,d.nd⟩,rfl,iP,_,_,_,g1,aaa 2 rfl rfl rfl rfl,⟨B,o,61,cp,k⟩,rfl,iP,(lc k).2,?_,amJ,rfl,⟨b,d,(lc k).2⟩,rfl,rfl,⟨hd.ok,?_⟩,ao,fun _ _=>aG (fun q=>⟨⟨?_,?_⟩,(),ao,⟨rfl,rfl,?_,ao⟩,P1 d⟩) (fun q=>⟨(),ao,⟨rfl,rfl,?_,ao⟩,P1 d⟩)⟩,fun _ js _=>?_⟩
 ·have:=(g2 k af).1;rw[cB];exact this
 ·have:=(g2 k af).2;rw[cB];exact this
 ·have h1:=xF.Gt;have h2:=xF.one;dsimp only;omega
 ·have:=xF.one;omega
 ·have:=xF.Gt;omega
 ·rw[xe];unfold np;rw[show uR d (lc k).2=true from q];have:=xF.one;exact congrArg (int .i64) (by rw[bf];omega)
 ·rw[xe];unfold np;rw[show uR d (lc k).2=false from q];rfl
 refine⟨_,lg hl,_,lg hl,aJ,aJ,⟨⟨d.nd.toNat,0,d⟩,⟨cr _,?_⟩,⟨rfl,rfl,rfl,?_,?_,?_,ao⟩,P1 d⟩,?_⟩
 ·rw[<-xN];exact(ak1 hl).symm
 ·rw[hY.2.2]
 ·exact congrArg (int .i64) bd
 ·rw[xc];dsimp only;rw[Nat.sub_self,Nat.pow_zero,Nat.mod_one,Nat.zero_mul];rfl
 rintro⟨r,_,D⟩ js ⟨xQ,hD⟩;dsimp only at xQ hD⊢;subst hD;refine bl (fun q=>?_) (fun q=>?_)
 ·obtain⟨r,rfl⟩:∃j,r=j+1:=⟨r-1,af⟩;have oX:r<d.nd.toNat:=af;obtain⟨m1,m2,m3⟩:=aaE d.num k (d.nd.toNat-1-r);have sX:d.num/10^(d.nd.toNat-1-r)%10=dB d r:=YJ _ _ hd.g9 oX;have hd9:=hd.g9 r oX;have hdd:=hd.iA r af;rw[sX]at m1 m2;have c1:x.c (r+1)=(d.num%10^(d.nd.toNat-1-r))*2^k/10^(d.nd.toNat-1-r):=by rw[xc,show d.nd.toNat-(r+1)=d.nd.toNat-1-r by omega]
  have c0:x.c r=(d.num%10^(d.nd.toNat-1-r+1))*2^k/10^(d.nd.toNat-1-r+1):=by rw[xc,show d.nd.toNat-r=d.nd.toNat-1-r+1 by omega]
  rw[<-c1]at m1 m2 m3;rw[<-c0]at m1;rw[<-xM]at m2;have uD:d.at_ r=((48+dB d r:Nat):Int):=by unfold dB;omega
  have K0:(r+1+x.e)-1=r+x.e:=af;have Rz:x.N-(r+1+x.e)=d.nd.toNat-1-r:=af;have lkr:aO (.cells b (aZ (ik d x.M x.N (r+1+x.e))) 158) ⟨b,0+(((r+1:Nat):Int)-1).toNat*1,none⟩ (.int .u8 (d.at_ r)):=by
   rw[show 0+(((r+1:Nat):Int)-1).toNat*1=r by omega];have:=zI (b:=b) (t:=158) (d:=ik d x.M x.N (r+1+x.e)) wa (i:=r) af;have e:(ik d x.M x.N (r+1+x.e)).at_ r=d.at_ r:=by
    unfold bn.at_ ik;dsimp only;rw[SQ af];unfold j8;rw[bK (show ¬r+1+x.e<=r by omega)];rfl
   rw[e]at this;exact this
  have arE:dB d r*2^k<=9*1152921504606846976:=Nat.mul_le_mul hd9 Kx;have ht:x.c (r+1)+dB d r*2^k<18446744073709551616:=af;have ajp:u64.wrap ((x.c (r+1):Int)+u64.wrap (u64.wrap (u64.wrap (d.at_ r)-48)*2^min (k:Int).toNat u64.bits))=((x.c (r+1)+dB d r*2^k:Nat):Int):=by
   rw[uD,lu af,show((48+dB d r:Nat):Int)-48=((dB d r:Nat):Int) by omega,lu af,cB,show min k u64.bits=k from Nat.min_eq_left (by show k<=64;omega)];rw[show((dB d r:Nat):Int)*2^k=((dB d r*2^k:Nat):Int) by rw[Int.natCast_mul,Int.natCast_pow];rfl,lu af,<-Int.natCast_add];exact lu ht
  rw[show(((r+1+x.e:Nat):Int)-1)=((r+x.e:Nat):Int) by omega];have lo:(-9223372036854775808<=((r+1:Nat):Int)-1-1/\((r+1:Nat):Int)-1-1<=9223372036854775807):=aJ;have Q7:(int .i64 (((r+1:Nat):Int)-1-1)=int .i64 ((r:Int)-1)):=congrArg _ af;refine⟨aJ,_,lkr,aJ,?_⟩;rw[ajp,abx ht,Ww ht,YG,m1,m2];refine bl (fun q1=>⟨aJ,⟨ap,by rw[kq wa];omega⟩,lo,⟨r,0,ik d x.M x.N (r+x.e)⟩,⟨bd,rfl⟩,⟨rfl,rfl,rfl,Q7,rfl,rfl,ao⟩,?_,bd⟩) (fun q1=>aG (fun q2=>⟨⟨ap,by rw[kq wa];decide⟩,lo,⟨r,0,ik d x.M x.N (r+x.e)⟩,⟨bd,rfl⟩,⟨rfl,rfl,rfl,Q7,rfl,rfl,ao⟩,?_,bd⟩) (fun q2=>⟨lo,⟨r,0,ik d x.M x.N (r+x.e)⟩,⟨bd,rfl⟩,⟨rfl,rfl,rfl,Q7,rfl,rfl,ao⟩,?_,bd⟩))
  ·have:=aax (d:=d) (M:=x.M) (N:=x.N) (w:=r+1+x.e) af af af;rw[K0,Rz]at this;rw[show 0+((r+x.e:Nat):Int).toNat*1=r+x.e by omega,this];exact P1 _
  ·have:=Lc (d:=d) (M:=x.M) (N:=x.N) (w:=r+1+x.e) af af;rw[K0,Rz]at this;rw[N6 wa,this];have q2:(((x.M/10^(d.nd.toNat-1-r)%10:Nat):Int)!=0)=true:=q2;have:(x.M/10^(d.nd.toNat-1-r)%10 !=0)=true:=by
    rw[bne_iff_ne]at q2⊢;omega
   rw[this,n7];exact P1 _
  ·have:=Lc (d:=d) (M:=x.M) (N:=x.N) (w:=r+1+x.e) af af;rw[K0,Rz]at this;have q2:(((x.M/10^(d.nd.toNat-1-r)%10:Nat):Int)!=0)=false:=q2;have h0:(x.M/10^(d.nd.toNat-1-r)%10 !=0)=false:=by
    rw[bne_eq_false_iff_eq]at q2⊢;omega
   rw[this,h0,Bool.or_false];exact P1 _
 ·have hr0:r=0:=by omega
  subst hr0;rw[jk];have hc0:x.c 0=x.M/10^(x.N-x.e):=by
   rw[xc,Nat.sub_zero,Nat.mod_eq_of_lt hd.lt,<-xM,show x.N-x.e=d.nd.toNat by omega]
  have hck:x.M/10^(x.N-x.e)<=2^k:=by
   have:=(aaE d.num k d.nd.toNat).2.2;rw[Nat.mod_eq_of_lt hd.lt,<-xM]at this
   rwa [show x.N-x.e=d.nd.toNat by omega]
  refine⟨⟨⟨⟨0,x.e,ik d x.M x.N x.e⟩,⟨cr _,rfl⟩,⟨rfl,rfl,rfl,by rw[hc0],ao⟩,P1 _⟩,?_⟩,?_⟩
  ·rintro⟨_,w,D⟩ js ⟨hw,hD⟩;dsimp only at hw hD⊢;subst hD;have hn:x.M/10^(x.N-w)<18446744073709551616:=by
    have:x.M/10^(x.N-w)<=x.M/10^(x.N-x.e):=Nat.div_le_div_left (oV (by decide) af) (tm _);omega
   refine bl (fun q=>?_) (fun q=>?_)
   ·have K0:1<=w:=by
     rcases Nat.eq_zero_or_pos w with h|h
     ·subst h;rw[Nat.sub_zero,Nat.div_eq_of_lt hMN]at q;omega
     ·exact h
    have hq:x.M/10^(x.N-w)/10=x.M/10^(x.N-(w-1)):=by
     rw[Nat.div_div_eq_div_mul,<-Nat.pow_succ,show x.N-(w-1)=x.N-w+1 by omega]
    rw[abx hn,Ww hn,YG,hq,show((w:Int)-1)=((w-1:Nat):Int) by omega];refine⟨aJ,bl (fun q1=>⟨aJ,⟨ap,by rw[kq wa];omega⟩,⟨0,w-1,ik d x.M x.N (w-1)⟩,⟨bd,rfl⟩,aV,?_,bd⟩) (fun q1=>aG (fun q2=>⟨⟨ap,by rw[kq wa];decide⟩,⟨0,w-1,ik d x.M x.N (w-1)⟩,⟨bd,rfl⟩,aV,?_,bd⟩) (fun q2=>⟨⟨0,w-1,ik d x.M x.N (w-1)⟩,⟨bd,rfl⟩,aV,?_,bd⟩))⟩
    ·have:=aax (d:=d) (M:=x.M) (N:=x.N) (w:=w) af af af;rw[show 0+((w-1:Nat):Int).toNat*1=w-1 by omega,this];exact P1 _
    ·have:=Lc (d:=d) (M:=x.M) (N:=x.N) (w:=w) af af;rw[N6 wa,this];have q2:(((x.M/10^(x.N-w)%10:Nat):Int)!=0)=true:=q2;have:(x.M/10^(x.N-w)%10 !=0)=true:=by
      rw[bne_iff_ne]at q2⊢;omega
     rw[this,n7];exact P1 _
    ·have:=Lc (d:=d) (M:=x.M) (N:=x.N) (w:=w) af af;have q2:(((x.M/10^(x.N-w)%10:Nat):Int)!=0)=false:=q2;have h0:(x.M/10^(x.N-w)%10 !=0)=false:=by
      rw[bne_eq_false_iff_eq]at q2⊢;omega
     rw[this,h0,Bool.or_false];exact P1 _
   ·have hw0:w=0:=by
     rcases Nat.eq_zero_or_pos w with h|h
     ·exact h
     ·have h1:10^(x.N-w)<=x.M:=i_ (oV (by decide) af) RJ.1;have:=Nat.div_pos h1 (tm _);omega
    subst hw0;exact⟨⟨0,0,_⟩,rfl,aV,P1 _⟩
  rintro⟨_,_,D⟩ js hD;dsimp only at hD⊢;subst hD;have hN0:x.N=(x.d.nd+(x.e:Int)).toNat:=by rw[xN,xd];omega
  have e0:(ik d x.M x.N 0)=⟨eL (j8 d x.M x.N 0),d.nd,d.dp,d.ng,lh d x.M x.N 0⟩:=rfl;have aix:∀z:bn,z=⟨eL (j8 d x.M x.N 0),(min x.N 800:Nat),d.dp,d.ng,lh d x.M x.N 0⟩->z.ds.length=800:=by
   rintro z rfl;exact we _
  refine⟨_,lg wa,⟨by show _<=d.nd+(x.e:Int);omega,by show d.nd+(x.e:Int)<=_;omega⟩,⟨ap,by rw[kq wa];decide⟩,⟨?_,?_⟩⟩
  ·rw[e0];dsimp only;rw[Iz (we _)];dsimp only;rw[show d.nd+(x.e:Int)=(x.N:Int) by rw[xN];omega];refine⟨_,lg (we _),bl (fun q=>⟨⟨ap,by rw[kq (we _)];decide⟩,⟨0,0,_⟩,rfl,aV,?_⟩) (fun q=>⟨⟨0,0,_⟩,rfl,aV,?_⟩)⟩
   ·rw[Iz (we _)];dsimp only at q⊢;rw[show min x.N 800=800 by omega];exact P1 _
   ·dsimp only at q⊢;rw[show min x.N 800=x.N by omega];exact P1 _
  ·rintro⟨_,_,D⟩ js hD;dsimp only at hD⊢;have Rw:=aix D hD;have Zj:D.dp=d.dp:=by rw[hD]
   have hDs:(aZ D).set 801 (.int .i64 (d.dp+(x.e:Int)))=aZ ⟨eL (j8 d x.M x.N 0),(min x.N 800:Nat),d.dp+(x.e:Nat),d.ng,lh d x.M x.N 0⟩:=by
    rw[CH Rw,hD]
   refine⟨D.dp,mL Rw,?_,⟨ap,by rw[kq Rw];decide⟩,ack,rfl,⟨b,⟨eL (j8 d x.M x.N 0),(min x.N 800:Nat),d.dp+(x.e:Nat),d.ng,lh d x.M x.N 0⟩⟩,rfl,by rw[Zj,hDs],⟨we _,bd,bd⟩,ao,fun _ _=>?_⟩
   ·rw[Zj];exact aJ
   have hv:qy x.d x.k (x.lc x.k)=lW ⟨eL (j8 d x.M x.N 0),(min x.N 800:Nat),d.dp+(x.e:Nat),d.ng,lh d x.M x.N 0⟩:=by
    rw[<-hx];rfl
   refine⟨qy x.d x.k (x.lc x.k),rfl,rfl,?_⟩;rw[hv];show aD _ [(0,.cells x.b (aZ (lW _)) 158),(1,F)];rw[xb];exact P1 _
theorem aaz:aC 168 BT:=fo 137 Tryz.func168 (fun _ _=>[(0,0,.q [.ex 1 .slice]),(0,2,.qo (D7 .u64 2)),(0,4,iH 1),(1,6,iH 0),(1,7,.qo (Gj 800)),(1,8,.q [.ex 1 .slice]),(1,10,.qo (D7 .u64 2)),(1,12,.q [.ex 1 .str]),(1,13,bq ye),(3,3,iH 0),(4,3,iH 0),(9,6,bH 0),(9,7,aW),(9,8,aW),(9,10,aW),(9,11,aW),(10,1,aW),(11,2,aW),(11,3,aW),(14,3,aW),(14,4,aW),(14,8,.w [.ex 0 .any]),(16,3,.w [.ex 0 .any]),(19,1,aW),(20,2,aW),(20,3,aW),(23,3,aW),(23,4,aW),(23,8,.w [.ex 0 .any]),(25,3,.w [.ex 0 .any]),(27,3,iH 0),(27,8,.w [.ex 0 .any]),(28,3,iH 0),(29,3,.w [.ex 0 .any]),(30,3,iH 0),(30,8,.w [.ex 0 .any]),(31,1,bq wQ)]) [] ak5 ak4 bz [] ak6
end
section
open Go
def io(d:bn)(i:Nat):Nat:=if i<d.nd.toNat then dB d i else 0
def yK(g:Nat->Nat)(k:Nat):Nat->Nat->Nat
 |0,r=>r
 |f+1,r=>bif decide (de g r<2^k) then yK g k f (r+1) else r
def tI(g:Nat->Nat)(k R:Nat):Nat->Nat
 |0=>de g R
 |j+1=>tI g k R j%2^k*10+g (R+j)
def yJ(n:Nat->Nat):Nat->Nat->Nat
 |0,j=>j
 |f+1,j=>bif n j==0 then j else yJ n f (j+1)
def tJ(k:Nat)(n:Nat->Nat)(t:Bool):Nat->Bool
 |0=>t
 |j+1=>tJ k n t j||(decide (800<=j)&&n j/2^k !=0)
def nG(d:bn)(k:Nat)(n:Nat->Nat)(j i:Nat):Int:=bif decide (i<j) then 48+(n i/2^k:Nat) else d.at_ i
def lr(d:bn)(k:Nat)(n:Nat->Nat)(dp:Int)(j:Nat):bn:=⟨eL (nG d k n j),d.nd,dp,d.ng,tJ k n d.tr j⟩
def mi(d:bn)(k:Nat):Nat:=yK (io d) k 30 0
def lU(d:bn)(k:Nat):Nat->Nat:=tI (io d) k (mi d k)
def p0(d:bn)(k:Nat):Nat:=yJ (lU d k) (k+2) (d.nd.toNat-mi d k)
def oG(d:bn)(k:Nat):bn:=lW ⟨eL (nG d k (lU d k) (p0 d k)),(min (p0 d k) 800:Nat),d.dp-((mi d k:Nat)-1),d.ng,tJ k (lU d k) d.tr (p0 d k)⟩
section
variable{g:Nat->Nat}{k:Nat}
theorem WF(h0:1<=g 0)(hg:∀i,g i<=9)(hk:k<=60):∀f r,f+r=30->(∀j,j<r->de g j<2^k)->r<=yK g k f r/\yK g k f r<=30/\2^k<=de g (yK g k f r)/\(∀j,j<yK g k f r->de g j<2^k)
 |0,r,e,h=>by
  exfalso;have h1:=h 20 af;have h2:=Kg (g:=g) 20 h0 (by decide);have:2^k<=2^60:=oV (by decide) hk;have e1:(2:Nat)^60=1152921504606846976:=by decide
  have e2:(10:Nat)^(20-1)=10000000000000000000:=by decide
  omega
 |f+1,r,e,h=>by
  rw[yK];by_cases q:de g r<2^k
  ·rw[bG q,bf];have:=WF h0 hg hk f (r+1) af (fun j hj=>by
    rcases Nat.lt_or_ge j r with h'|h'
    ·exact h j h'
    ·rw[show j=r by omega];exact q)
   exact⟨af,this.2⟩
  ·rw[bK q,aU];exact⟨cr _,af,af,h⟩
variable{R:Nat}
theorem abE(hg:∀i,g i<=9)(h1:1<=R)(hR:de g (R-1)<2^k):∀j,tI g k R j<10*2^k
 |0=>by
  obtain⟨R,rfl⟩:∃m,R=m+1:=⟨R-1,af⟩;rw[tI,de];have:=hg R;rw[show R+1-1=R by omega]at hR;omega
 |j+1=>by
  rw[tI];have h1:=hg (R+j);have h2:tI g k R j%2^k<2^k:=Nat.mod_lt _ (Nat.pow_pos (by decide));omega
theorem abD{J:Nat}(hz:∀i,J<=i->g (R+i)=0):∀i,i<=k->2^i ∣ tI g k R (J+i)
 |0,_=>by rw[Nat.pow_zero];exact Nat.one_dvd _
 |i+1,h=>by
  rw[show J+(i+1)=J+i+1 by omega,tI,hz _ af,Nat.add_zero];have h1:=abD hz i af;have h2:2^i ∣ tI g k R (J+i)%2^k:=(Nat.dvd_mod_iff (Nat.pow_dvd_pow 2 af)).2 h1;rw[Nat.pow_succ];exact Nat.mul_dvd_mul h2 (by decide)
theorem abF{J:Nat}(hz:∀i,J<=i->g (R+i)=0):tI g k R (J+k+1)=0:=by
 rw[tI,hz _ af,Nat.mod_eq_zero_of_dvd (abD hz k (cr _))]
theorem WE{n:Nat->Nat}{J:Nat}(hz:n (J+k+1)=0):∀f j,f+j=J+k+2->J<=j->(∀i,J<=i->i<j->n i≠0)->n (yJ n f j)=0/\j<=yJ n f j/\yJ n f j<=J+k+1/\∀i,J<=i->i<yJ n f j->n i≠0
 |0,j,e,h1,h2=>by
  exact absurd hz (h2 _ af af)
 |f+1,j,e,h1,h2=>by
  rw[yJ];cases q:(n j==0)with
  |true=>rw[bf];exact⟨beq_iff_eq.1 q,cr _,af,h2⟩
  |false=>
   have:=WE hz f (j+1) af af (fun i hi hj=>by
    rcases Nat.lt_or_ge i j with h'|h'
    ·exact h2 i hi h'
    ·rw[show i=j by omega];exact ga.1 q)
   rw[aU];exact⟨this.1,af,this.2.2⟩
end
section
variable{d:bn}{k j:Nat}{n:Nat->Nat}{p:Int}
theorem yL:(lr d k n p j).ds.length=800:=by unfold lr;dsimp only;rw[we]
theorem aoi(hl:d.ds.length=800):lr d k n p 0=⟨d.ds,d.nd,p,d.ng,d.tr⟩:=by
 unfold lr;rw[show eL (nG d k n 0)=d.ds by
  conv=>rhs;rw[aaX hl]
  exact El fun i _=>by unfold nG;rw[bK (Nat.not_lt_zero i)];rfl]
 rfl
theorem abH(h:j<800):(aZ (lr d k n p j)).set j (.int .u8 (48+(n j/2^k:Nat)))=aZ (lr d k n p (j+1)):=by
 rw[WS yL h];unfold lr;dsimp only;rw[aaY,tJ,bK (show ¬800<=j by omega),nh,Bool.or_false];refine congrArg (fun l=>aZ ⟨l,d.nd,p,d.ng,tJ k n d.tr j⟩) (El fun i _=>?_);unfold nG;by_cases e:i=j
 ·rw[if_pos e,e,bG (jj j)];rfl
 ·rw[if_neg e];by_cases h:i<j
  ·rw[bG h,bG (show i<j+1 by omega)]
  ·rw[bK h,bK (show ¬i<j+1 by omega)]
theorem abG(h:800<=j):lr d k n p (j+1)=⟨eL (nG d k n j),d.nd,p,d.ng,tJ k n d.tr j||(n j/2^k !=0)⟩:=by
 unfold lr;rw[tJ,bG h,Bool.true_and,show eL (nG d k n (j+1))=eL (nG d k n j)from El fun i hi=>by
  unfold nG;by_cases h:i<j
  ·rw[bG h,bG (show i<j+1 by omega)]
  ·omega]
theorem N7{t k:Nat}(hk:k<=60):((t:Int).fdiv (2^min (k:Int).toNat u64.bits))=((t/2^k:Nat):Int):=by
 rw[cB,show min k u64.bits=k from Nat.min_eq_left (by show k<=64;omega),show(2:Int)^k=((2^k:Nat):Int) by rw[Int.natCast_pow];rfl,Int.fdiv_eq_ediv_of_nonneg _ (Int.natCast_nonneg _)];exact(Int.natCast_ediv _ _).symm
theorem X5{t k:Nat}(ht:t<18446744073709551616)(hk:k<=60):((BitVec.ofInt u64.bits (t:Int)&&& BitVec.ofInt u64.bits ((2^k-1:Nat):Int)).toNat)=t%2^k:=by
 have h2:2^k<=2^60:=oV (by decide) hk;have e1:(2:Nat)^60=1152921504606846976:=by decide
 have e2:(2:Nat)^64=18446744073709551616:=by decide
 rw[BitVec.ofInt_natCast,BitVec.ofInt_natCast,BitVec.toNat_and,BitVec.toNat_ofNat,BitVec.toNat_ofNat];rw[Nat.mod_eq_of_lt (show t<2^u64.bits by show t<2^64;omega),Nat.mod_eq_of_lt (show 2^k-1<2^u64.bits by show 2^k-1<2^64;omega),Nat.and_two_pow_sub_one_eq_mod]
theorem ab6{a g:Nat}{c:Int}(ha:a<1152921504606846976)(hg:g<=9)(hc:c=((48+g:Nat):Int)):u64.wrap (u64.wrap (u64.wrap ((a:Int)*10)+u64.wrap c)-48)=((a*10+g:Nat):Int):=by
 rw[hc,lu af,show(a:Int)*10=((a*10:Nat):Int) by omega,lu af,<-Int.natCast_add,lu af,show((a*10+(48+g):Nat):Int)-48=((a*10+g:Nat):Int) by omega,lu af]
theorem abq{q:Nat}(h:q<=9):u8.wrap (u64.wrap ((q:Int)+48))=48+(q:Int):=by
 rw[dA (i:=.u64) (n:=(q:Int)+48) aJ,dA (i:=.u8) (n:=(q:Int)+48) aJ];omega
theorem alm{k:Nat}(hk:k<=60):u64.wrap (u64.wrap (1*2^min (k:Int).toNat u64.bits)-1)=((2^k-1:Nat):Int):=by
 have h2:2^k<=2^60:=oV (by decide) hk;have e1:(2:Nat)^60=1152921504606846976:=by decide
 have h1:1<=2^k:=Nat.pow_pos (by decide);rw[cB,show min k u64.bits=k from Nat.min_eq_left (by show k<=64;omega),show 1*(2:Int)^k=((2^k:Nat):Int) by rw[Int.natCast_pow,Int.one_mul];rfl,lu af,show((2^k:Nat):Int)-1=((2^k-1:Nat):Int) by omega,lu af]
end
structure gr where
 b:Nat
 d:bn
 k:Nat
def iU(x:gr):Option Addr:=some ⟨x.b,0,none⟩
def zZ(x:gr):=ag x.b (aZ x.d) 158
def Aw:aR where
 X:=gr
 Y:=bn
 args x:=[ah (iU x),aA x.k]
 pre x:=[zZ x]
 cond x:=x.d.norm/\1<=x.k/\x.k<=60/\ -1000000000<=x.d.dp/\x.d.dp<=1000000000
 cd x y:=y=oG x.d x.k
 val _ _:=.returned (.tuple #[])
 post x y:=[ag x.b (aZ y) 158]
 eX _ _ _ _ h:=h
structure jO where
 j:Nat
 d:bn
def gr.n(x:gr):Nat->Nat:=lU x.d x.k
def gr.R(x:gr):Nat:=mi x.d x.k
def gr.J(x:gr):Nat:=x.d.nd.toNat-mi x.d x.k
def gr.E(x:gr):Nat:=p0 x.d x.k
def gr.p(x:gr):Int:=x.d.dp-((x.R:Nat)-1)
def gr.v(x:gr)(r:Nat):Nat:=de (io x.d) r
def gr.m(x:gr):Nat:=2^x.k-1
def Ih(x:gr)(s:jO):=ag x.b (aZ s.d) 158
def aol(x:gr)(F:ai):Nat->Option Inv:=fun
 |0=>some {X:=jO,P:=fun s=>s.j<=x.R/\s.j<=x.d.nd.toNat,mu:=fun s=>40-s.j,lv:=fun s=>[(0,ah (iU x)),(1,aA x.k),(4,ae (s.j:Nat)),(5,ae 0),(6,aA (x.v s.j:Nat))],st:=fun _=>[zZ x,F]}
 |2=>some {X:=jO,P:=fun s=>s.j<=x.R/\x.d.nd.toNat<=s.j,mu:=fun s=>40-s.j,lv:=fun s=>[(0,ah (iU x)),(1,aA x.k),(4,ae (s.j:Nat)),(5,ae 0),(6,aA (x.v s.j:Nat))],st:=fun _=>[zZ x,F]}
 |4=>some {X:=jO,P:=fun s=>s.j<=x.J/\s.d=lr x.d x.k x.n x.p s.j,mu:=fun s=>1000-s.j,lv:=fun s=>[(0,ah (iU x)),(1,aA x.k),(4,ae ((x.R+s.j:Nat):Int)),(5,ae (s.j:Nat)),(6,aA (x.n s.j:Nat)),(8,aA (x.m:Nat))],st:=fun s=>[Ih x s,F]}
 |6=>some {X:=jO,P:=fun s=>x.J<=s.j/\s.j<=x.E/\s.d=lr x.d x.k x.n x.p s.j,mu:=fun s=>1000-s.j,lv:=fun s=>[(0,ah (iU x)),(1,aA x.k),(5,ae ((min s.j 800:Nat):Int)),(6,aA (x.n s.j:Nat)),(8,aA (x.m:Nat))],st:=fun s=>[Ih x s,F]}
 |_=>none
def aok(x:gr)(F:ai):Nat->Option Inv:=fun
 |13=>some {X:=Unit,P:=fun _=>True,mu:=fun _=>0,lv:=fun _=>[(0,ah (iU x)),(1,aA x.k),(4,ae (x.R:Nat)),(5,ae 0),(6,aA (x.n 0:Nat))],st:=fun _=>[zZ x,F]}
 |_=>none
def tu(e0:gr)(e1:ai):=[(0,ag e0.b (aZ e0.d) 158),(1,e1)]
def VV(x:gr)(f:jO):=(↑(x.v f.j):Int).fdiv ((2:Int)^min (x.k:Int).toNat u64.bits)==0
def Pb(e0:gr)(e1:ai)(v0 v1:Value)(ss:St):=∃(z:Unit),True/\(ah (iU e0)=ah (iU e0)/\aA ↑e0.k=aA ↑e0.k/\v0=ae ↑e0.R/\ae 0=ae 0/\v1=aA (↑(e0.n 0):Int)/\True)/\aD ss (tu e0 e1)
def NG(a:jO)(x:gr):=a.j<=x.J/\a.d=lr x.d x.k x.n x.p a.j
def Cl(e0:gr)(z:jO)(e1:ai):=[(0,ag e0.b (aZ z.d) 158),(1,e1)]
def UD(x:gr)(g:jO):=a_ (u8.wrap (bc ((↑(x.n g.j):Int).fdiv ((2:Int)^min (x.k:Int).toNat u64.bits)+48)))
def Nr(e0:gr)(z:jO):=e0.J<=z.j/\z.j<=e0.E/\z.d=lr e0.d e0.k e0.n e0.p z.j
def Ji(e0:gr)(e1:ai)(v0 v1:Value)(ss:St)(mm:Nat):=∃(z:jO),Nr e0 z/\(ah (iU e0)=ah (iU e0)/\aA ↑e0.k=aA ↑e0.k/\v0=ae (↑(min z.j 800):Int)/\v1=aA (↑(e0.n z.j):Int)/\aA ↑e0.m=aA ↑e0.m/\True)/\aD ss (Cl e0 z e1)/\1000-z.j<mm
def LR(x:gr)(d:jO):=aA (bc (bc (↑(cf (↑(x.n d.j):Int)&&& cf (x.m:Int)).toNat:Int)*10))
def NI(d:jO):=ae (↑(min d.j 800):Int)
theorem aom(x:gr)(F:ai)(hc:Aw.cond x)(hr:Aw.aQ x F):((∃(a:jO),(a.j<=x.R/\a.j<=x.d.nd.toNat)/\(ah (iU x)=ah (iU x)/\aA ↑x.k=aA ↑x.k/\ae 0=ae ↑a.j/\ae 0=ae 0/\aA 0=aA (↑(x.v a.j):Int)/\True)/\aD (tu x F) (tu x F))/\aS fun(f:jO)_=>(f.j<=x.R/\f.j<=x.d.nd.toNat)->Br (VV x f) (T1 (zZ x) ⟨x.b,800,none⟩ (fun d=>aP (f.j>=d) (Br ((↑(x.v f.j):Int)==0) ((ax x.b 800/\800<(aZ x.d).length)/\aq Aw x F eM [(0,ag x.b ((aZ x.d).set 800 (ae 0)) 158),(1,F)]) ((∃(a:jO),(a.j<=x.R/\x.d.nd.toNat<=a.j)/\(ah (iU x)=ah (iU x)/\aA ↑x.k=aA ↑x.k/\ae ↑f.j=ae ↑a.j/\ae 0=ae 0/\aA (↑(x.v f.j):Int)=aA (↑(x.v a.j):Int)/\True)/\aD (tu x F) (tu x F))/\aS fun(c:jO)_=>(c.j<=x.R/\x.d.nd.toNat<=c.j)->Br (VV x c) (∃(a:jO),(a.j<=x.R/\x.d.nd.toNat<=a.j)/\(ah (iU x)=ah (iU x)/\aA ↑x.k=aA ↑x.k/\ae (bY ((c.j:Int)+1))=ae ↑a.j/\ae 0=ae 0/\aA (bc ((↑(x.v c.j):Int)*10))=aA (↑(x.v a.j):Int)/\True)/\aD (tu x F) (tu x F)/\40-a.j<40-c.j) (Pb x F (ae ↑c.j) (aA (↑(x.v c.j):Int)) (tu x F)))) ((0<=(f.j:Int)/\(f.j:Int)<(↑(800:Nat):Int))/\jP (zZ x) ⟨x.b,0+(f.j:Int).toNat*1,none⟩ (fun b=>∃(a:jO),(a.j<=x.R/\a.j<=x.d.nd.toNat)/\(ah (iU x)=ah (iU x)/\aA ↑x.k=aA ↑x.k/\ae (bY ((f.j:Int)+1))=ae ↑a.j/\ae 0=ae 0/\aA (bc (bc (bc ((↑(x.v f.j):Int)*10)+bc b)-48))=aA (↑(x.v a.j):Int)/\True)/\aD (tu x F) (tu x F)/\40-a.j<40-f.j)))) (Pb x F (ae ↑f.j) (aA (↑(x.v f.j):Int)) (tu x F)))/\aS fun(j:Unit)_=>True->T1 (zZ x) ⟨x.b,801,none⟩ (fun h=>(ax x.b 801/\801<(aZ x.d).length)/\(∃(a:jO),NG a x/\(ah (iU x)=ah (iU x)/\aA ↑x.k=aA ↑x.k/\ae ↑x.R=ae (↑(x.R+a.j):Int)/\ae 0=ae ↑a.j/\aA (↑(x.n 0):Int)=aA (↑(x.n a.j):Int)/\aA (bc (bc ((1:Int)*(2:Int)^min (x.k:Int).toNat u64.bits)-1))=aA ↑x.m/\True)/\aD [(0,ag x.b ((aZ x.d).set 801 (ae (bY (h-bY ((x.R:Int)-1))))) 158),(1,F)] (Cl x a F))/\aS fun(g:jO)_=>NG g x->T1 (Ih x g) ⟨x.b,800,none⟩ (fun e=>aP ((↑(x.R+g.j):Int)<e) ((0<=(↑(x.R+g.j):Int)/\(↑(x.R+g.j):Int)<(↑(800:Nat):Int))/\jP (Ih x g) ⟨x.b,0+(↑(x.R+g.j):Int).toNat*1,none⟩ (fun b=>(0<=(g.j:Int)/\(g.j:Int)<(↑(800:Nat):Int))/\(dS ⟨x.b,0+(g.j:Int).toNat*1,none⟩ x.b/\0+(g.j:Int).toNat*1<(aZ g.d).length)/\∃(a:jO),NG a x/\(ah (iU x)=ah (iU x)/\aA ↑x.k=aA ↑x.k/\ae (bY ((↑(x.R+g.j):Int)+1))=ae (↑(x.R+a.j):Int)/\ae (bY ((g.j:Int)+1))=ae ↑a.j/\aA (bc (bc (bc (bc (↑(cf (↑(x.n g.j):Int)&&& cf (x.m:Int)).toNat:Int)*10)+bc b)-48))=aA (↑(x.n a.j):Int)/\aA ↑x.m=aA ↑x.m/\True)/\aD [(0,ag x.b ((aZ g.d).set (0+(g.j:Int).toNat*1) (UD x g)) 158),(1,F)] (Cl x a F)/\1000-a.j<1000-g.j)) ((∃(a:jO),Nr x a/\(ah (iU x)=ah (iU x)/\aA ↑x.k=aA ↑x.k/\ae ↑g.j=ae (↑(min a.j 800):Int)/\aA (↑(x.n g.j):Int)=aA (↑(x.n a.j):Int)/\aA ↑x.m=aA ↑x.m/\True)/\aD (Cl x g F) (Cl x a F))/\aS fun(d:jO)_=>Nr x d->aP ((↑(x.n d.j):Int)>0) (aP ((↑(min d.j 800):Int)<800) ((0<=(↑(min d.j 800):Int)/\(↑(min d.j 800):Int)<(↑(800:Nat):Int))/\(dS ⟨x.b,0+(↑(min d.j 800):Int).toNat*1,none⟩ x.b/\0+(↑(min d.j 800):Int).toNat*1<(aZ d.d).length)/\Ji x F (ae (bY ((↑(min d.j 800):Int)+1))) (LR x d) [(0,ag x.b ((aZ d.d).set (0+(↑(min d.j 800):Int).toNat*1) (UD x d)) 158),(1,F)] (1000-d.j)) (aP ((↑(x.n d.j):Int).fdiv ((2:Int)^min (x.k:Int).toNat u64.bits)>0) ((ax x.b 803/\803<(aZ d.d).length)/\Ji x F (NI d) (LR x d) [(0,ag x.b ((aZ d.d).set 803 (ak true)) 158),(1,F)] (1000-d.j)) (Ji x F (NI d) (LR x d) (Cl x d F) (1000-d.j)))) ((ax x.b 800/\800<(aZ d.d).length)/\Jh [ah (iU x)] [ag x.b ((aZ d.d).set 800 (NI d)) 158] (fun b a=>aq Aw x F eM [(0,ag b.b (aZ (lW b.d)) 158),(1,F)]))))):=by
 delta iU tu VV T1 zZ eM Pb jP NG Cl Ih UD Nr Ji LR NI ju Jh ax ae a_ aA ak ah ag cf bc bY aP az aS;obtain⟨b,d,k⟩:=x;obtain⟨hd,s_,lK,vR,iE⟩:=hc;dsimp only at hd s_ lK vR iE;have hl:=hd.len;have hY:1<=d.nd.toNat/\d.nd.toNat<=800/\((d.nd.toNat:Nat):Int)=d.nd:=by have:=hd.pos;have:=hd.max;omega
 have BF:∀i,io d i<=9:=fun i=>by
  unfold io;by_cases h:i<d.nd.toNat
  ·rw[if_pos h];exact hd.g9 i h
  ·rw[if_neg h];omega
 have vO:1<=io d 0:=by
  unfold io;rw[if_pos af];have:=hd.iA 0 af;have:=hd.fst;unfold dB;omega
 have Kx:2^k<=1152921504606846976:=by
  have:2^k<=2^60:=oV (by decide) lK;exact this
 have zy:1<=2^k:=Nat.pow_pos (by decide);obtain⟨-,r2,r3,r4⟩:=WF vO BF lK 30 0 (by decide) (fun j hj=>absurd hj (Nat.not_lt_zero j));generalize hx:(⟨b,d,k⟩:gr)=x at*;have xb:x.b=b:=by rw[<-hx]
 have xd:x.d=d:=by rw[<-hx]
 have xk:x.k=k:=by rw[<-hx]
 have xm:x.m=2^k-1:=by rw[<-hx];rfl
 have xR:yK (io d) k 30 0=x.R:=by rw[<-hx];rfl
 have xv:∀r,x.v r=de (io d) r:=by rw[<-hx];intro r;rfl
 have xJ:x.J=d.nd.toNat-x.R:=by rw[<-hx];rfl
 have xp:x.p=d.dp-((x.R:Nat)-1):=by rw[<-hx];rfl
 have xn:x.n=tI (io d) k x.R:=by rw[<-hx];rfl
 have xE:yJ x.n (k+2) x.J=x.E:=by rw[<-hx];rfl
 rw[xR]at r2 r3 r4;have Kz:1<=x.R:=by
  rcases Nat.eq_zero_or_pos x.R with h|h
  ·rw[h,de]at r3;omega
  ·exact h
 have GR:∀j,x.n j<10*2^k:=by rw[xn];exact abE BF Kz (r4 _ af)
 have GL:∀i,d.nd.toNat<=i->io d i=0:=fun i hi=>by unfold io;rw[if_neg af]
 have ZA:∀i,i<d.nd.toNat->io d i=dB d i/\d.at_ i=((48+io d i:Nat):Int):=fun i hi=>by
  have:=hd.iA i af;unfold io;rw[if_pos hi];exact⟨rfl,by unfold dB;omega⟩
 obtain⟨e1,e2,e3,e4⟩:=WE (n:=x.n) (k:=k) (J:=x.J) (by rw[xn];exact abF (fun i hi=>GL _ af)) (k+2) x.J af (cr _) (fun i hi hj=>af);rw[xE]at e1 e2 e3 e4;have ZY:∀j,x.n (j+1)=x.n j%2^k*10+io d (x.R+j):=fun j=>by rw[xn];rfl
 have G1:∀r,x.v (r+1)=x.v r*10+io d r:=fun r=>by rw[xv,xv];rfl
 have KY:∀r,r<x.R->x.v r<2^k:=fun r hr=>by rw[xv];exact r4 r hr
 have hv3:2^k<=x.v x.R:=by rw[xv];exact r3
 have ZN:x.n 0=x.v x.R:=by rw[xn,xv];rfl
 rw[xb,xd,xk];have P1:∀v:bn,aD [(0,.cells b (aZ v) 158),(1,F)] [(0,.cells b (aZ v) 158),(1,F)]:=fun v=>aB [0,1];have i6:∀a:Nat,a<=2000->int .i64 (i64.wrap ((a:Int)+1))= .int .i64 ((a+1:Nat):Int):=fun a ha=>congrArg _ (by rw[dA (i:=.i64) (n:=(a:Int)+1) aJ];omega);refine⟨⟨⟨⟨0,d⟩,⟨dC _,dC _⟩,⟨rfl,rfl,rfl,rfl,by rw[xv];rfl,ao⟩,P1 d⟩,?_⟩,?_⟩
 ·rintro⟨r,_⟩ js ⟨q1,q2⟩;dsimp only at q1 q2⊢;rw[N7 lK];refine aG (fun q=>?_) (fun q=>?_)
  ·have bP:x.v r<2^k:=by
    have:x.v r/2^k=0:=by have:=beq_iff_eq.1 q;omega
    exact(Nat.div_eq_zero_iff_lt zy).1 this
   have hrR:r+1<=x.R:=by
    rcases Nat.lt_or_ge r x.R with h|h
    ·exact h
    ·rw[show r=x.R by omega]at bP;omega
   refine⟨_,lg hl,bl (fun q3=>aG (fun q4=>?_) (fun q4=>⟨⟨⟨r,d⟩,⟨q1,bd⟩,aV,P1 d⟩,?_⟩)) (fun q3=>⟨aJ,d.at_ r,?_,⟨r+1,d⟩,⟨hrR,bd⟩,⟨rfl,rfl,i6 r af,rfl,?_,ao⟩,P1 d,bd⟩)⟩
   ·have:=Kg (g:=io d) r vO af;have h1:=Nat.pow_pos (n:=r-1) (show 0<10 by decide);have:=beq_iff_eq.1 q4;rw[xv]at this;omega
   ·rintro⟨s,_⟩ js ⟨w1,w2⟩;dsimp only at w1 w2⊢;rw[N7 lK];refine aG (fun q5=>?_) (fun q5=>?_)
    ·have bP:x.v s<2^k:=by
      have:x.v s/2^k=0:=by have:=beq_iff_eq.1 q5;omega
      exact(Nat.div_eq_zero_iff_lt zy).1 this
     have hsR:s+1<=x.R:=by
      rcases Nat.lt_or_ge s x.R with h|h
      ·exact h
      ·rw[show s=x.R by omega]at bP;omega
     refine⟨⟨s+1,d⟩,⟨hsR,bd⟩,⟨rfl,rfl,i6 s af,rfl,?_,ao⟩,P1 d,bd⟩;rw[G1,GL s w2,Nat.add_zero,show((x.v s:Nat):Int)*10=((x.v s*10:Nat):Int) by omega,lu af]
    ·have hs:s=x.R:=by
      rcases Nat.lt_or_ge s x.R with h|h
      ·have:=KY s h;rw[Nat.div_eq_of_lt this]at q5;exact absurd q5 (by decide)
      ·omega
     subst hs;exact⟨(),ao,⟨rfl,rfl,rfl,rfl,by rw[ZN],ao⟩,P1 d⟩
   ·rw[show 0+((r:Nat):Int).toNat*1=r by omega];exact zI hl (i:=r) af
   ·obtain⟨g1,g2⟩:=ZA r af;rw[G1,ab6 af (BF r) g2]
  ·have hs:r=x.R:=by
    rcases Nat.lt_or_ge r x.R with h|h
    ·have:=KY r h;rw[Nat.div_eq_of_lt this]at q;exact absurd q (by decide)
    ·omega
   subst hs;exact⟨(),ao,⟨rfl,rfl,rfl,rfl,by rw[ZN],ao⟩,P1 d⟩
 rintro _ js-;refine⟨_,mL hl,⟨ap,by rw[kq hl];decide⟩,⟨⟨0,lr d k x.n x.p 0⟩,⟨dC _,rfl⟩,⟨rfl,rfl,rfl,rfl,rfl,?_,ao⟩,?_⟩,?_⟩
 ·rw[alm lK,xm]
 ·rw[CH hl,aoi hl,xp];rw[dA (i:=.i64) (n:=(x.R:Int)-1) aJ,dA (i:=.i64) (n:=d.dp-((x.R:Int)-1)) aJ];exact P1 _
 rintro⟨j,D⟩ js ⟨hj,hD⟩;dsimp only at hj hD⊢;subst hD;have KT:∀j,x.n j/2^k<=9:=fun j=>by
  have:=GR j;have:x.n j/2^k<10:=(Nat.div_lt_iff_lt_mul zy).2 this;omega
 refine⟨d.nd,lg yL,bl (fun q=>?_) (fun q=>?_)⟩
 ·have oX:x.R+j<d.nd.toNat:=by omega
  obtain⟨g1,g2⟩:=ZA (x.R+j) oX;rw[xm,X5 (by have:=GR j;omega) lK,N7 lK,abq (KT j)];have hm:x.n j%2^k<2^k:=Nat.mod_lt _ zy;rw[lu (n:=x.n j%2^k) af];refine⟨aJ,d.at_ (x.R+j),?_,aJ,⟨ap,by rw[kq yL];omega⟩,⟨j+1,lr d k x.n x.p (j+1)⟩,⟨bd,rfl⟩,⟨rfl,rfl,?_,i6 j af,?_,rfl,ao⟩,?_,bd⟩
  ·rw[show 0+((x.R+j:Nat):Int).toNat*1=x.R+j by omega];have:=zI (b:=b) (t:=158) (d:=lr d k x.n x.p j) yL (i:=x.R+j) af;have e:(lr d k x.n x.p j).at_ (x.R+j)=d.at_ (x.R+j):=by
    unfold bn.at_ lr;dsimp only;rw[SQ af];unfold nG;rw[bK (show ¬x.R+j<j by omega)];rfl
   rw[e]at this;exact this
  ·have:=i6 (x.R+j) af;exact this
  ·rw[ZY,ab6 af (BF _) g2]
  ·rw[show 0+((j:Nat):Int).toNat*1=j by omega,abH af];exact P1 _
 have hjJ:j=x.J:=af;subst hjJ;refine⟨⟨⟨x.J,_⟩,⟨cr _,e2,rfl⟩,⟨rfl,rfl,?_,rfl,rfl,ao⟩,P1 _⟩,?_⟩
 ·rw[show min x.J 800=x.J by omega]
 rintro⟨j,D⟩ js ⟨GM,s8,hD⟩;dsimp only at GM s8 hD⊢;subst hD;refine bl (fun q=>?_) (fun q=>?_)
 ·have GN:j+1<=x.E:=by
   rcases Nat.lt_or_ge j x.E with h|h
   ·exact h
   ·rw[show j=x.E by omega,e1]at q;omega
  have hz:io d (x.R+j)=0:=GL _ af;rw[xm,X5 (by have:=GR j;omega) lK,N7 lK,abq (KT j)];have hm:x.n j%2^k<2^k:=Nat.mod_lt _ zy;have fu:int .u64 (u64.wrap (u64.wrap ((x.n j%2^k:Nat):Int)*10))= .int .u64 (x.n (j+1):Nat):=by
   rw[lu (n:=x.n j%2^k) af,show((x.n j%2^k:Nat):Int)*10=((x.n j%2^k*10:Nat):Int) by omega,lu af,ZY,hz,Nat.add_zero]
  refine bl (fun q1=>⟨aJ,⟨ap,by rw[kq yL];omega⟩,⟨j+1,lr d k x.n x.p (j+1)⟩,⟨bd,GN,rfl⟩,⟨rfl,rfl,?_,fu,rfl,ao⟩,?_,bd⟩) (fun q1=>bl (fun q2=>⟨⟨ap,by rw[kq yL];decide⟩,⟨j+1,lr d k x.n x.p (j+1)⟩,⟨bd,GN,rfl⟩,⟨rfl,rfl,?_,fu,rfl,ao⟩,?_,bd⟩) (fun q2=>⟨⟨j+1,lr d k x.n x.p (j+1)⟩,⟨bd,GN,rfl⟩,⟨rfl,rfl,?_,fu,rfl,ao⟩,?_,bd⟩))
  ·rw[show min j 800=j by omega,show min (j+1) 800=j+1 by omega];exact i6 j af
  ·rw[show 0+((min j 800:Nat):Int).toNat*1=j by omega,abH af];exact P1 _
  ·rw[show min j 800=800 by omega,show min (j+1) 800=800 by omega]
  ·rw[N6 yL,abG af,show(x.n j/2^k !=0)=true by rw[bne_iff_ne];generalize x.n j/2^k=z at q2⊢;omega,n7];exact P1 _
  ·rw[show min j 800=800 by omega,show min (j+1) 800=800 by omega]
  ·rw[abG af,show(x.n j/2^k !=0)=false by rw[bne_eq_false_iff_eq];generalize x.n j/2^k=z at q2⊢;omega,Bool.or_false];exact P1 _
 have GN:j=x.E:=by
  rcases Nat.lt_or_ge j x.E with h|h
  ·have:=e4 j GM h;omega
  ·omega
 subst GN;have hs:(aZ (lr d k x.n x.p x.E)).set 800 (.int .i64 ((min x.E 800:Nat):Int))=aZ ⟨eL (nG d k x.n x.E),(min x.E 800:Nat),x.p,d.ng,tJ k x.n d.tr x.E⟩:=by
  rw[Iz yL];rfl
 refine⟨⟨ap,by rw[kq yL];decide⟩,ack,rfl,⟨b,⟨eL (nG d k x.n x.E),(min x.E 800:Nat),x.p,d.ng,tJ k x.n d.tr x.E⟩⟩,rfl,by rw[hs],⟨we _,bd,bd⟩,ao,fun _ _=>?_⟩;have hv:oG x.d x.k=lW ⟨eL (nG d k x.n x.E),(min x.E 800:Nat),x.p,d.ng,tJ k x.n d.tr x.E⟩:=by
  rw[<-hx];rfl
 refine⟨oG x.d x.k,rfl,rfl,?_⟩;rw[hv];show aD _ [(0,.cells x.b (aZ (lW _)) 158),(1,F)];rw[xb];exact P1 _
theorem abI:aC 169 Aw:=fo 130 Tryz.func169 (fun _ _=>[(3,2,aW),(3,3,aW),(4,1,iH 0),(5,4,iH 0),(6,1,aW),(8,2,aW),(8,3,aW),(9,1,aW),(10,1,iH 0),(11,5,bH 0),(11,6,aW),(12,1,aW),(12,3,aW),(12,4,aW),(13,3,iH 0),(13,5,aW),(13,6,aW),(14,1,aW),(14,2,aW),(15,4,iH 0),(16,1,iH 0),(17,5,bH 0),(17,6,aW),(18,2,aW),(19,2,aW),(20,3,aW),(20,4,aW),(21,1,iH 0),(22,1,aW),(22,3,aW),(22,4,aW),(23,1,aW),(24,2,aW),(25,2,aW),(27,3,aW),(27,4,aW),(28,1,iH 0),(31,1,aW),(33,1,bq wQ)]) [(7,3,.w [LH.ex (0:Nat) jE.any]),(13,9,.w [LH.ex (0:Nat) jE.any]),(20,8,.w [LH.ex (0:Nat) jE.any]),(27,8,.w [LH.ex (0:Nat) jE.any]),(30,3,.w [LH.ex (0:Nat) jE.any]),(32,4,.w [LH.ex (0:Nat) jE.any])] aol aok bz [] aom
end
section
open Go
def tY(l:Nat):Code->Code
 | .seq a b=>match a with
  | .label l'=>bif Nat.beq l' l then .skip else .seq (.label l') (tY l b)
  |a=>.seq a (tY l b)
 |c=>c
def after(l:Nat):Code->Code
 | .seq a b=>match a with
  | .label l'=>bif Nat.beq l' l then b else after l b
  |_=>after l b
 |_=>.skip
def xB(l:Nat):Code->Bool
 | .seq a b=>match a with
  | .label l'=>Nat.beq l' l||xB l b
  |_=>xB l b
 |_=>false
def JQ(P:Program)(c:Code)(Q:Exit->Act->World->Prop):Nat->Exit->Act->World->Prop
 |0=>fun e a w=>match e with
  | .goto _=>False
  |e=>Q e a w
 |n+1=>fun e a w=>match e with
  | .goto l=>∃rest,findLabel c l=some rest/\rest.wp P (JQ P c Q n) a w
  |e=>Q e a w
section
variable{P:Program}{N:Nat}
variable{a:Act}{c:Code}{Q:Exit->Act->World->Prop}{K:Exit->Tm->St->Prop}{I:a7}{ds:List Deferred}{key l0 l1:Nat}{S:St}{T:Tm}{w:World}
theorem Xr{n:Nat}{e:Exit}(h:∀l,e≠.goto l)(hq:Q e a w):JQ P c Q n e a w:=by
 cases e with
 |goto l=>exact absurd rfl (h l)
 |_=>cases n <;> exact hq
theorem abP{c:Code}{Q:Exit->Act->World->Prop}{b:Frame}{k:List Item}{cs:List Frame}:∀(n:Nat)(a:Act)(w:World)(rest:Code),rest.wp P (JQ P c Q n) a w->
  ∃e a' w',Q e a' w'/\Arrives P (lone (b.at a (.code rest::.inScope c::k)) cs w) b k cs e a' w'
 |n,a,w,rest,h=>by
  obtain⟨e,a₁,w₁,hq,rD⟩:=h b (.inScope c::k) cs;cases e with
  |normal=>exact⟨.normal,a₁,w₁,by cases n <;> exact hq,Steps.trans rD (.one step_inScope)⟩
  |exit id=>exact⟨.exit id,a₁,w₁,by cases n <;> exact hq,fun k' hk=>rD k' (by simp[exitTo,hk])⟩
  |goto l=>
   cases n with
   |zero=>exact hq.elim
   |succ n=>
    obtain⟨an0,hf,hw⟩:=hq;obtain⟨e₂,a₂,w₂,hq₂,harr₂⟩:=abP n a₁ w₁ an0 hw;exact⟨e₂,a₂,w₂,hq₂,.of_steps (rD _ (by simp[gotoIn,hf])) harr₂⟩
  |ret=>exact⟨.ret,a₁,w₁,by cases n <;> exact hq,rD⟩
  |panic ch=>exact⟨.panic ch,a₁,w₁,by cases n <;> exact hq,rD⟩
  |outgrown=>exact⟨.outgrown,a₁,w₁,by cases n <;> exact hq,rD⟩
theorem aql(n:Nat)(h:c.wp P (JQ P c Q n) a w):(Code.scope c).wp P Q a w:=by
 intro b k cs;obtain⟨e,a₁,w₁,hq,rD⟩:=abP (b:=b) (k:=k) (cs:=cs) n a w c h;cases e with
 |normal=>exact⟨.normal,a₁,w₁,hq,.head step_scope rD⟩
 |exit id=>exact⟨.exit id,a₁,w₁,hq,fun k' hk=>.head step_scope (rD k' hk)⟩
 |goto l=>exact⟨_,a₁,w₁,hq,fun k' hk=>.head step_scope (rD k' hk)⟩
 |ret=>exact⟨_,a₁,w₁,hq,.of_steps (.one step_scope) rD⟩
 |panic ch=>exact⟨_,a₁,w₁,hq,.of_steps (.one step_scope) rD⟩
 |outgrown=>exact⟨_,a₁,w₁,hq,.of_steps (.one step_scope) rD⟩
theorem FF{H:kj}{x y:Code}(h:E P N H (.seq x y) key T S K):
  ∃K':Exit->Tm->St->Prop,E P N H x key T S K'/\(∀e,e≠.normal->K' e=K e)/\∀I w ds a' w',fh N I w ds (K' .normal) a' w'->fh N I w ds (fun T S=>E P N H y key T S K) a' w':=by
 simp only[E]at h;split at h
 ·exact⟨_,h,fun e he=>by cases e <;> first|rfl|exact absurd rfl he,fun _ _ _ _ _ h=>h⟩
 ·rename_i V hV
  have go:∀Pr:V.X->Prop,(E P N H x key T S fun e T S=>match e with| .normal=>∃x,Pr x/\ki T (V.lv x)/\aD S (bD (V.st x))|e=>K e T S)->
    (∀x js,Pr x->E P N H y key (kE js (V.lv x)) (bD (V.st x)) K)->∃K':Exit->Tm->St->Prop,E P N H x key T S K'/\(∀e,e≠.normal->K' e=K e)/\∀I w ds a' w',fh N I w ds (K' .normal) a' w'->fh N I w ds (fun T S=>E P N H y key T S K) a' w':=by
   intro Pr hx hy;refine⟨_,hx,fun e he=>by cases e <;> first|rfl|exact absurd rfl he,?_⟩;rintro I w ds a' w' ⟨T',S',J,h1,h2,h3,h4,h5,x,hp,he,jW⟩;obtain⟨J',bS,el⟩:=jW.h J w' h4;exact⟨_,_,J',qB h1 he,h2,a7.le_trans h3 bS,el,h5,hy x T'.z00 hp⟩
  split at h
  ·exact go _ h.1 h.2
  ·obtain⟨_,hx,hy⟩:=h;exact go _ hx hy
def La:Exit->Prop
 | .exit i=>i<1000000
 |_=>True
def jc:Code->Bool
 | .seq a b=>jc a&&jc b
 | .cond _ a b=>jc a&&jc b
 | .block i c=>Nat.blt i 1000000&&jc c
 | .loop c=>jc c
 | .scope c=>jc c
 | .exit i=>Nat.blt i 1000000
 |_=>true
theorem OM(hm:P.follows .mixedOrders=true)(H:kj):∀(c:Code){ρ:Nat->Option Nat}{key:Nat}{T:Tm}{S:St}{K:Exit->Tm->St->Prop}{a:Act}{I:a7}{w:World}{ds:List Deferred}{Q:Exit->Act->World->Prop},
  E P N H (eP ρ c) key T S K->dM N T a->a.defers=ds->Sat I S w->(∀e a' w',La e->fh N I w ds (K e) a' w'->Q e a' w')->(∀l i,ρ l=some i->1000000<=i/\∀a' w',fh N I w ds (K (.exit i)) a' w'->Q (.goto l) a' w')->jc c=true->c.wp P Q a w:=by
 intro c
 induction c with
 |skip=>
  intro ρ key T S K a I w ds Q h bw hd hs hQ hG hl;exact wp_skip (hQ _ _ _ trivial ⟨T,S,I,bw,hd,a7.le_refl I,hs,cE.refl w,h⟩)
 |exit id=>
  intro ρ key T S K a I w ds Q h bw hd hs hQ hG hl;exact wp_exit (hQ (.exit id) _ _ (Nat.le_of_ble_eq_true hl) ⟨T,S,I,bw,hd,a7.le_refl I,hs,cE.refl w,h⟩)
 |ret=>
  intro ρ key T S K a I w ds Q h bw hd hs hQ hG hl;exact wp_ret (hQ _ _ _ trivial ⟨T,S,I,bw,hd,a7.le_refl I,hs,cE.refl w,h⟩)
 |seq x y zF xX=>
  intro ρ key T S K a I w ds Q h bw hd hs hQ hG hl;simp only[eP]at h;obtain⟨K',hx,hK,hN⟩:=FF h;have iD:jc x=true/\jc y=true:=by simpa[jc]using hl
  refine wp_seq (zF hx bw hd hs (fun e a' w' cJ bN=>?_) (fun l i hr=>⟨(hG l i hr).1,fun a' w' bN=>?_⟩) iD.1)
  ·cases e with
   |normal=>
    obtain⟨T',S',J,h1,h2,h3,h4,h5,h6⟩:=hN _ _ _ _ _ bN;exact xX h6 h1 h2 h4 (fun e a w cJ h=>hQ e a w cJ (h.from h3 h5)) (fun l i hr=>⟨(hG l i hr).1,fun a w h=>(hG l i hr).2 a w (h.from h3 h5)⟩) iD.2
   |_=>rw[hK _ (by intro h;cases h)]at bN;exact hQ _ _ _ cJ bN
  ·rw[hK _ (by intro h;cases h)]at bN;exact(hG l i hr).2 a' w' bN
 |cond x c1 c2 Sq Sr=>
  intro ρ key T S K a I w ds Q h bw hd hs hQ hG hl;simp only[eP,E]at h;split at h
  ·rename_i t ht
   have hc:a.eval x= .bool t:=by rw[bw.eval];exact ht
   refine wp_cond hc ?_;have iD:jc c1=true/\jc c2=true:=by simpa[jc]using hl
   rcases Br.cases h with⟨rfl,hk⟩| ⟨rfl,hk⟩
   ·exact Sq hk bw hd hs hQ hG iD.1
   ·exact Sr hk bw hd hs hQ hG iD.2
  grind
 |block id c ih=>
  intro ρ key T S K a I w ds Q h bw hd hs hQ hG hl;simp only[eP,E]at h;have iD:id<1000000/\jc c=true:=by simpa[jc]using hl
  refine wp_block (ih h bw hd hs (fun e a' w' cJ bN=>?_) (fun l i hr=>⟨(hG l i hr).1,fun a' w' bN=>?_⟩) iD.2)
  ·cases e with
   |exit i=>
    simp only[Exit.inBlock];by_cases hi:i=id
    ·subst hi;simp only[if_true];refine hQ _ _ _ trivial (bN.mono fun T S h=>?_);simpa using h
    ·simp only[hi,if_false];refine hQ _ _ _ cJ (bN.mono fun T S h=>?_);simpa[vB hi]using h
   |_=>exact hQ _ _ _ cJ bN
  ·have h1:=(hG l i hr).1;refine(hG l i hr).2 a' w' (bN.mono fun T S h=>?_);simpa[vB (show i≠id by omega)]using h
 |scope c ih=>
  intro ρ key T S K a I w ds Q h bw hd hs hQ hG hl;simp only[eP,E]at h;refine wp_scope_straight (ih h bw hd hs (fun e a' w' cJ bN=>?_) (fun l r hr=>by cases hr) hl);cases e with
  |goto l=>
   obtain⟨_,_,_,_,_,_,_,_,h6⟩:=bN;grind
  |_=>exact hQ _ _ _ cJ bN
 |loop c ih=>
  intro ρ key T S K a I w ds Q h bw hd hs hQ hG hl;simp only[eP,E]at h;split at h
  ·grind
  ·rename_i V hV
   have go:∀Pr:V.X->Prop,(∃x,Pr x/\ki T (V.lv x)/\aD S (bD (V.st x)))->(∀x js,Pr x->E P N H (eP ρ c) key (kE js (V.lv x)) (bD (V.st x)) fun e T S=>match e with
     | .normal=>∃y,Pr y/\ki T (V.lv y)/\aD S (bD (V.st y))/\V.mu y<V.mu x
     |e=>K e T S)->Code.wp P (.loop c) Q a w:=by
    rintro Pr ⟨x0,vQ,GF,GG⟩ GW;obtain⟨J0,BG,BJ⟩:=GG.h I w hs;refine wp_loop_ghost (fun n a' w'=>∃x js J,V.mu x=n/\Pr x/\dM N (kE js (V.lv x)) a'/\a'.defers=ds/\a7.le I J/\Sat J (bD (V.st x)) w'/\cE w w') (V.mu x0)
     ⟨x0,T.z00,J0,rfl,vQ,qB bw GF,hd,BG,BJ,cE.refl w⟩ ?_
    rintro n a' w' ⟨x,js,J,rfl,hp,oY,uE,bS,el,ft⟩;refine ih (GW x js hp) oY uE el (fun e a2 w2 cJ bN=>?_) (fun l i hr=>⟨(hG l i hr).1,fun a2 w2 bN=>(hG l i hr).2 a2 w2 (bN.from bS ft)⟩) hl;cases e with
    |normal=>
     obtain⟨T',S',J',h1,h2,h3,h4,h5,y,GU,GI,GH,GQ⟩:=bN;obtain⟨J2,og,dD⟩:=GH.h J' w2 h4;exact⟨V.mu y,GQ,y,T'.z00,J2,rfl,GU,qB h1 GI,h2,a7.le_trans bS (a7.le_trans h3 og),dD,ft.trans h5⟩
    |_=>exact hQ _ _ _ cJ (bN.from bS ft)
   split at h
   ·exact go _ h.1 h.2
   ·obtain⟨_,hx,hy⟩:=h;exact go _ hx hy
 |region id aN Kd=>
  intro ρ key T S K a I w ds Q h bw hd hs hQ hG hl;simp only[eP,E]at h;split at h
  ·exact wp_region (WA _ h bw hd hs (fun a w h=>hQ _ a w trivial h) (fun ch a w h=>hQ _ a w trivial h))
  ·exact wp_region_any hm (QY h.1 h.2 bw hd (hs.heap (w':={w with drawn:=w.drawn+1}) rfl) (fun a w h=>hQ _ a w trivial (h.from (a7.le_refl _) ap)) (fun ch a w h=>hQ _ a w trivial (h.from (a7.le_refl _) ap)))
 |label l=>
  intro ρ key T S K a I w ds Q h bw hd hs hQ hG hl;exact wp_label (hQ _ _ _ trivial ⟨T,S,I,bw,hd,a7.le_refl I,hs,cE.refl w,h⟩)
 |goto l=>
  intro ρ key T S K a I w ds Q h bw hd hs hQ hG hl;simp only[eP]at h;split at h
  ·rename_i r hr
   exact wp_goto ((hG l r hr).2 a w ⟨T,S,I,bw,hd,a7.le_refl I,hs,cE.refl w,h⟩)
  ·exact h.elim
 |_=>intro ρ key T S K a I w ds Q h;exact h.elim
theorem Xo(hm:P.follows .mixedOrders=true)(H:kj)(l:Nat){ρ:Nat->Option Nat}{w0:World}:∀(c:Code){T:Tm}{S:St}{a:Act}{w:World},
  xB l c=true->E P N H (eP ρ (tY l c)) key T S K->∀J,dM N T a->a.defers=ds->a7.le I J->Sat J S w->cE w0 w->(∀a' w',fh N I w0 ds (K .normal) a' w'->(after l c).wp P Q a' w')->(∀e a' w',e≠.normal->La e->fh N I w0 ds (K e) a' w'->Q e a' w')->
  (∀l i,ρ l=some i->1000000<=i/\∀a' w',fh N I w0 ds (K (.exit i)) a' w'->Q (.goto l) a' w')->jc c=true->c.wp P Q a w:=by
 intro c
 induction c with
 |seq x y zF xX=>
  intro T S a w hh h J bw hd bS hs ft hA hQ hG hl;have iD:jc x=true/\jc y=true:=by simpa[jc]using hl
  have go:xB l y=true->tY l (.seq x y)= .seq x (tY l y)->after l (.seq x y)=after l y->Code.wp P (.seq x y) Q a w:=fun e1 e2 e3=>by
   rw[e2]at h;simp only[eP]at h;obtain⟨K',hx,hK,hN⟩:=FF h;refine wp_seq ?_;refine OM hm H x hx bw hd hs (fun e a' w' cJ bN=>?_) (fun l i hr=>⟨(hG l i hr).1,fun a' w' bN=>?_⟩) iD.1
   ·cases e with
    |normal=>
     obtain⟨T',S',J',h1,h2,h3,h4,h5,h6⟩:=hN _ _ _ _ _ (bN.from bS ft);exact xX e1 h6 J' h1 h2 h3 h4 h5 (fun a' w' h=>by grind) hQ hG iD.2
    |_=>rw[hK _ (by intro h;cases h)]at bN;exact hQ _ _ _ (by intro h;cases h) cJ (bN.from bS ft)
   ·rw[hK _ (by intro h;cases h)]at bN;exact(hG l i hr).2 a' w' (bN.from bS ft)
  cases x with
  |label l'=>
   cases hb:Nat.beq l' l with
   |true=>
    simp only[tY,hb,bf,eP,E]at h;have:=hA a w ⟨T,S,J,bw,hd,bS,hs,ft,h⟩;simp only[after,hb,bf]at this;exact wp_seq (wp_label this)
   |false=>exact go (by simpa only[xB,hb,Bool.false_or]using hh) (by simp only[tY,hb,aU]) (by simp only[after,hb,aU])
  |_=>exact go hh rfl rfl
 |_=>intro T S a w hh;cases hh
def N2(l1 l0:Nat):Nat->Option Nat:=fun l=>bif Nat.beq l l1 then some 1000001 else bif Nat.beq l l0 then some 1000000 else none
def WB(l0:Nat):Nat->Option Nat:=fun l=>bif Nat.beq l l0 then some 1000000 else none
def G9(l1 l0:Nat)(c:Code):Code:=.seq (.block 1000000 (.seq (.block 1000001 (eP (N2 l1 l0) (tY l1 c))) (eP (WB l0) (tY l0 (after l1 c))))) (eP (fun _=>none) (after l0 (after l1 c)))
theorem acW(hm:P.follows .mixedOrders=true)(H:kj)(c:Code)
  (RN:findLabel c l1=some (.seq .skip (after l1 c))) (qr:findLabel c l0=some (.seq .skip (after l0 (after l1 c)))) (uF:xB l1 c=true) (ta:xB l0 (after l1 c)=true) (hx:jc c=true) (rH:jc (after l1 c)=true) (Sh:jc (after l0 (after l1 c))=true)
  (h:E P N H (G9 l1 l0 c) key T S K) (bw:dM N T a) (hd:a.defers=ds) (hs:Sat I S w) (hQ:∀e a' w',La e->fh N I w ds (K e) a' w'->Q e a' w') (hKg:∀l T S,¬K (.goto l) T S):(Code.scope c).wp P Q a w:=by
 unfold G9 at h;obtain⟨K1,hA,Zn,hN1⟩:=FF h;have hA:E P N H (.seq (.block 1000001 (eP (N2 l1 l0) (tY l1 c))) (eP (WB l0) (tY l0 (after l1 c)))) 1000000 T S (fun e T S=>match e with| .exit i=>(bif Nat.beq i 1000000 then K1 .normal T S else K1 (.exit i) T S)|e=>K1 e T S):=hA;obtain⟨K2,hB,Rx,hN2⟩:=FF hA;have hB:E P N H (eP (N2 l1 l0) (tY l1 c)) 1000001 T S (fun e T S=>match e with| .exit i=>(bif Nat.beq i 1000001 then K2 .normal T S else K2 (.exit i) T S)|e=>K2 e T S):=hB;have wC:∀n a' w',fh N I w ds (K1 .normal) a' w'->(after l0 (after l1 c)).wp P (JQ P c Q n) a' w':=by
  intro n a' w' hh;obtain⟨T',S',J,h1,h2,h3,h4,h5,h6⟩:=hN1 _ _ _ _ _ hh;refine OM hm H _ h6 h1 h2 h4 (fun e a w cJ bN=>?_) (fun l r hr=>by cases hr) Sh;cases e with
  |goto l=>obtain⟨_,_,_,_,_,_,_,_,h⟩:=bN;exact absurd h (hKg _ _ _)
  |_=>exact Xr (fun _ h=>by cases h) (hQ _ _ _ cJ (bN.from h3 h5))
 have g1:∀n a' w',fh N I w ds (K1 .normal) a' w'->JQ P c Q (n+1) (.goto l0) a' w':=fun n a' w' hh=>
  ⟨_,qr,wp_seq (wp_skip (wC n a' w' hh))⟩
 have ng:∀l a' w',fh N I w ds (K1 (.goto l)) a' w'->False:=fun l a' w' bN=>by
  rw[Zn _ (by intro h;cases h)]at bN;obtain⟨_,_,_,_,_,_,_,_,h⟩:=bN;grind
 have b0:∀i,i<1000000->Nat.beq i 1000000=false:=fun i hi=>vB af;have b1:∀i,i<1000000->Nat.beq i 1000001=false:=fun i hi=>vB af;have aav:∀n(e:Exit)a' w',e≠.normal->La e->fh N I w ds (K1 e) a' w'->JQ P c Q n e a' w':=by
  intro n e a' w' he cJ bN;cases e with
  |goto l=>exact(ng l a' w' bN).elim
  |normal=>exact absurd rfl he
  |_=>rw[Zn _ (by intro h;cases h)]at bN;exact Xr (fun _ h=>by cases h) (hQ _ _ _ cJ bN)
 have wB:∀n a' w',fh N I w ds (K2 .normal) a' w'->(after l1 c).wp P (JQ P c Q (n+1)) a' w':=by
  intro n a' w' hh;obtain⟨T',S',J,h1,h2,h3,h4,h5,h6⟩:=hN2 _ _ _ _ _ hh;refine Xo (I:=I) (w0:=w) hm H l0 _ ta h6 J h1 h2 h3 h4 h5 (fun a' w' bN=>wC _ _ _ bN) (fun e a' w' he cJ bN=>?_) (fun l i hr=>?_) rH
  ·refine aav _ e a' w' he cJ (bN.mono fun T S h=>?_);cases e with
   |exit i=>dsimp only at h;rw[b0 i cJ]at h;exact h
   |_=>exact h
  ·unfold WB at hr;cases hb:Nat.beq l l0 with
   |false=>rw[hb]at hr;cases hr
   |true=>
    rw[hb]at hr;cases hr;rw[Nat.eq_of_beq_eq_true hb];exact⟨cr _,fun a' w' bN=>g1 n a' w' (bN.mono fun T S h=>h)⟩
 refine aql 2 (Xo (I:=I) (w0:=w) hm H l1 c uF hB I bw hd (a7.le_refl I) hs (cE.refl w) (fun a' w' bN=>wB 1 a' w' bN) (fun e a' w' he cJ bN=>?_) (fun l i hr=>?_) hx)
 ·refine aav _ e a' w' he cJ (bN.mono fun T S h=>?_);cases e with
  |exit i=>
   dsimp only at h;rw[b1 i cJ,aU,Rx _ (by intro h;cases h)]at h;dsimp only at h;rw[b0 i cJ]at h;exact h
  |normal=>exact absurd rfl he
  |_=>dsimp only at h;rw[Rx _ (by intro h;cases h)]at h;exact h
 ·unfold N2 at hr;cases hb:Nat.beq l l1 with
  |true=>
   rw[hb]at hr;cases hr;rw[Nat.eq_of_beq_eq_true hb];exact⟨af,fun a' w' bN=>⟨_,RN,wp_seq (wp_skip (wB 0 a' w' (bN.mono fun T S h=>h)))⟩⟩
  |false=>
   rw[hb]at hr;cases hb:Nat.beq l l0 with
   |false=>rw[hb]at hr;cases hr
   |true=>
    rw[hb]at hr;cases hr;rw[Nat.eq_of_beq_eq_true hb];refine⟨cr _,fun a' w' bN=>g1 1 a' w' (bN.mono fun T S h=>?_)⟩;have h:K2 (.exit 1000000) T S:=h;rw[Rx _ (by intro h;cases h)]at h;exact h
def zA:Code->Code
 | .seq a _=>a
 |c=>c
def sc1:Code->Code
 | .seq _ (.scope c)=>c
 |_=>.skip
noncomputable def agr(l1 l0:Nat)(fn:Func):Code:=.seq (eP (fun _=>none) (zA (iN fn))) (G9 l1 l0 (sc1 (iN fn)))
def QP(P:Program)(fn:Func)(rh:List LH)(lv:List (Nat×Value))(R:Ending->St->Prop):Exit->Tm->St->Prop:=fun e T S=>match e with
 | .normal=>match lv with| []=>True|_::_=>rd P S (kK fn T) rh fun v=>R (.returned v) S
 | .ret=>rd P S (kK fn T) rh fun v=>R (.returned v) S
 | .panic ch=>ki T lv/\R (.panicked ch) S
 |_=>False
theorem ahQ(hm:P.follows .mixedOrders=true){f:FuncId}{fn n5:Func}{r:Code}{C:aR}(hf:P.funcs[f]?=some fn)(hb:fn.body=some (.seq r (.scope c)))(hN:fn.ntmps=N)(hl:∀x,(C.args x).length<=N)
  (RN:findLabel c l1=some (.seq .skip (after l1 c))) (qr:findLabel c l0=some (.seq .skip (after l0 (after l1 c)))) (uF:xB l1 c=true) (ta:xB l0 (after l1 c)=true) (hxr:jc r=true) (hx:jc c=true) (rH:jc (after l1 c)=true) (Sh:jc (after l0 (after l1 c))=true)
  (mI:iN n5= .seq (eP (fun _=>none) r) (G9 l1 l0 c)) (vS:n5.results=fn.results) (H:C.X->ai->kj) (rh:List LH) (lv:C.X->List (Nat×Value)) (RW:∀x,lv x≠[])
  (h:∀x F,C.cond x->C.aQ x F->su P N n5 (H x F) rh (iN n5) (oS (C.args x)) (bD (C.pre x++[F])) (lv x) (aq C x F)):lB P f C:=by
 refine⟨fun x F I w hc hr hs=>?_⟩;have zz:=h x F hc hr;rw[mI]at zz;refine calls_of_wp hf hb ?_;rw[hN];have zz:E P N (H x F) (.seq (eP (fun _=>none) r) (G9 l1 l0 c)) 0 (oS (C.args x)) (bD (C.pre x++[F])) (QP P n5 rh (lv x) (aq C x F)):=zz;have key:∀(e:Exit)a' w',fh N I w [] (QP P n5 rh (lv x) (aq C x F) e) a' w'->bodyPost P fn (fun e w'=>∃y J,C.cd x y/\e=C.val x y/\a7.le I J/\Sat J (bD (C.post x y++[F])) w'/\cE w w') e a' w':=by
  rintro e a w' ⟨T,S',J,h1,h2,h3,h4,h5,h6⟩;have td:kK n5 T=kK fn T:=by unfold kK;rw[vS]
  have out:∀(en:Ending)(vf:World),vf=w'->aq C x F en S'->∃y J,C.cd x y/\en=C.val x y/\a7.le I J/\Sat J (bD (C.post x y++[F])) vf/\cE w vf:=by
   rintro en vf rfl ⟨y,bw,rfl,jW⟩;obtain⟨J',xK,dD⟩:=jW.h J vf h4;exact⟨y,J',bw,rfl,a7.le_trans h3 xK,dD,h5⟩
  have fin:rd P S' (kK n5 T) rh (fun v=>aq C x F (.returned v) S')->a.defers=[]/\∃v,(results fn a.tmps).run P w'= .ok v w'/\∃y J,C.cd x y/\returned v=C.val x y/\a7.le I J/\Sat J (bD (C.post x y++[F])) w'/\cE w w':=fun h6=>by
   rw[td]at h6;obtain⟨v,cm,hR⟩:=yC h4 _ _ _ h6;exact⟨h2,v,by rw[Fe h1];omega,out _ _ rfl hR⟩
  cases e with
  |normal=>
   simp only[QP]at h6;cases ta:lv x with
   |nil=>exact absurd ta (RW x)
   |cons u l=>rw[ta]at h6;exact fin h6
  |ret=>exact fin h6
  |panic ch=>exact⟨h2,out _ _ rfl h6.2⟩
  |_=>exact h6.elim
 obtain⟨K',h1,h2,h3⟩:=FF zz;refine wp_seq (OM hm (H x F) r h1 (Is (C.args x) (hl x)) rfl hs (fun e a' w' cJ bN=>?_) (fun l r hr=>by cases hr) hxr);cases e with
 |normal=>
  obtain⟨T',S',J,k1,k2,k3,k4,k5,k6⟩:=h3 _ _ _ _ _ bN;exact acW hm (H x F) c RN qr uF ta hx rH Sh k6 k1 k2 k4 (fun e a w cJ h=>key e a w (h.from k3 k5)) (fun l T S h=>h.elim)
 |_=>rw[h2 _ (by intro h;cases h)]at bN;exact key _ _ _ bN
end
end
section
open Go
variable{ng tr:Bool}{dp nd:Int}{c:Nat×ByteArray}
theorem aaV{f:Nat->Int}{i:Nat}(h:i<800):(⟨eL f,nd,dp,ng,tr⟩:bn).at_ i=f i:=by
 unfold bn.at_;dsimp only;rw[SQ h]
theorem aaW{f:Nat->Int}:(⟨eL f,nd,dp,ng,tr⟩:bn).ds.length=800:=by
 dsimp only;rw[we]
theorem aci{ds:List Int}(h0:ds.getD 0 0≠48):∀n,1<=n->1<=oJ ds n
 |0,h=>h
 |n+1,_=>by
  rw[oJ];cases hb:ds.getD n 0==48 with
  |false=>rw[aU];omega
  |true=>
   rw[bf];rcases Nat.eq_zero_or_pos n with h|h
   ·subst h;exact absurd (beq_iff_eq.1 hb) h0
   ·exact aci h0 n h
theorem acj{d:bn}(hl:d.ds.length=800)(h1:1<=d.nd)(h2:d.nd<=800)(hd:∀i:Nat,(i:Int)<d.nd->48<=d.at_ i/\d.at_ i<=57)(h0:d.at_ 0≠48):(lW d).norm/\(lW d).dp=d.dp/\(lW d).ng=d.ng/\(lW d).at_ 0=d.at_ 0:=by
 have hp:=aci (ds:=d.ds) h0 d.nd.toNat af;have bS:=ach d.ds d.nd.toNat;refine⟨⟨hl,?_,?_,?_,h0⟩,?_,rfl,rfl⟩
 ·show 1<=((oJ d.ds d.nd.toNat:Nat):Int);omega
 ·show((oJ d.ds d.nd.toNat:Nat):Int)<=800;omega
 ·intro i hi;exact hd i (by have hi:(i:Int)<((oJ d.ds d.nd.toNat:Nat):Int):=hi;omega)
 ·show(bif oJ d.ds d.nd.toNat==0 then 0 else d.dp)=d.dp;grind
theorem Lb{d:bn}{k:Nat}(hc:C7 k c):np d c<=k:=by
 have h1:=hc.Gt;have h2:=hc.iA.pos;unfold np;grind
theorem Ld{d:bn}(hd:d.norm){k:Nat}(hk:1<=k)(hc:C7 k c):(qy d k c).norm/\(qy d k c).dp=d.dp+(np d c:Nat)/\(qy d k c).ng=d.ng/\(np d c=0->d.at_ 0<(qy d k c).at_ 0):=by
 have sX:=aay hd hc;have hY:1<=d.nd.toNat/\d.nd.toNat<=800:=by have:=hd.pos;have:=hd.max;omega
 rw[show d.nd.toNat+np d c=iF d c from rfl]at sX;have hN:1<=iF d c:=by grind
 have hq:1<=d.num*2^k/10^(iF d c-1)/\d.num*2^k/10^(iF d c-1)<10:=by
  refine⟨Nat.div_pos sX.1 (tm _),(Nat.div_lt_iff_lt_mul (tm _)).2 ?_⟩;rw[show 10*10^(iF d c-1)=10^iF d c by rw[Nat.mul_comm,<-Nat.pow_succ,show(iF d c-1).succ=iF d c by omega]];omega
 have hF:∀i,i<iF d c->j8 d (d.num*2^k) (iF d c) 0 i=48+(d.num*2^k/10^(iF d c-1-i)%10:Nat):=fun i hi=>by
  unfold j8;simp[*]
 have uD:∀i,i<800->(⟨eL (j8 d (d.num*2^k) (iF d c) 0),(min (iF d c) 800:Nat),d.dp+(np d c:Nat),d.ng,lh d (d.num*2^k) (iF d c) 0⟩:bn).at_ i=j8 d (d.num*2^k) (iF d c) 0 i:=fun i hi=>aaV hi;have Rt:=hF 0 hN;rw[Nat.sub_zero,Nat.mod_eq_of_lt hq.2]at Rt;obtain⟨t1,t2,t3,t4⟩:=acj (d:=⟨eL (j8 d (d.num*2^k) (iF d c) 0),(min (iF d c) 800:Nat),d.dp+(np d c:Nat),d.ng,lh d (d.num*2^k) (iF d c) 0⟩) aaW (by grind) (by grind) (fun i hi=>by
  dsimp only at hi;rw[uD i af,hF i af];omega) (by rw[uD 0 af,Rt];omega)
 refine⟨t1,t2,t3,fun h0=>?_⟩;have e:(qy d k c).at_ 0=48+((d.num*2^k/10^(iF d c-1):Nat):Int):=by
  show(lW _).at_ 0=_;rw[t4,uD 0 af,Rt]
 rw[e];have hn:iF d c=d.nd.toNat:=by unfold iF;rw[h0];rfl
 have RH:dB d 0*10^(iF d c-1)<=d.num:=by
  have:=(DG (g:=dB d) 1 (d.nd.toNat-1) (fun i hi=>hd.g9 i af)).1;rw[show 1+(d.nd.toNat-1)=d.nd.toNat by omega,<-hn]at this;rw[show de (dB d) 1=dB d 0 by show 0*10+dB d 0=_;omega]at this;rw[hn]at this⊢;exact this
 have h1:=hd.iA 0 (by have:=hd.pos;omega);have h2:=hd.fst;have zA:1<=dB d 0/\d.at_ 0=((48+dB d 0:Nat):Int):=by unfold dB;omega
 have Kx:2<=2^k:=by
  obtain⟨j,rfl⟩:∃j,k=j+1:=⟨k-1,af⟩;rw[Nat.pow_succ];have:1<=2^j:=Nat.pow_pos (by decide);omega
 have:dB d 0*2<=d.num*2^k/10^(iF d c-1):=by
  rw[Nat.le_div_iff_mul_le (tm _)]
  calc dB d 0*2*10^(iF d c-1)=dB d 0*10^(iF d c-1)*2:=Nat.mul_right_comm _ _ _
   _<=d.num*2^k:=Nat.mul_le_mul RH Kx
 rw[zA.2];omega
theorem N3{d:bn}(hd:d.norm){k:Nat}(s_:1<=k)(lK:k<=60):(oG d k).norm/\1<=mi d k/\mi d k<=30/\(oG d k).dp=d.dp-((mi d k:Nat)-1)/\(oG d k).ng=d.ng/\(mi d k=1->2^k<=dB d 0/\(oG d k).at_ 0=48+(dB d 0/2^k:Nat)):=by
 have hY:1<=d.nd.toNat/\d.nd.toNat<=800/\((d.nd.toNat:Nat):Int)=d.nd:=by have:=hd.pos;have:=hd.max;omega
 have BF:∀i,io d i<=9:=fun i=>by
  unfold io;by_cases h:i<d.nd.toNat
  ·rw[if_pos h];exact hd.g9 i h
  simp[*]
 have vO:1<=io d 0:=by
  unfold io;rw[if_pos af];have:=hd.iA 0 af;have:=hd.fst;unfold dB;omega
 have zy:1<=2^k:=Nat.pow_pos (by decide);obtain⟨-,r2,r3,r4⟩:=WF vO BF lK 30 0 (by decide) (fun j hj=>absurd hj (Nat.not_lt_zero j));rw[show yK (io d) k 30 0=mi d k from rfl]at r2 r3 r4;have Kz:1<=mi d k:=by
  rcases Nat.eq_zero_or_pos (mi d k)with h|h
  ·rw[h,de]at r3;omega
  ·exact h
 have GL:∀i,d.nd.toNat<=i->io d i=0:=fun i hi=>by unfold io;rw[if_neg af]
 have GR:∀j,lU d k j<10*2^k:=abE BF Kz (r4 _ af);have KT:∀j,lU d k j/2^k<=9:=fun j=>by
  have:=GR j;have:lU d k j/2^k<10:=(Nat.div_lt_iff_lt_mul zy).2 this;omega
 obtain⟨e1,e2,e3,e4⟩:=WE (n:=lU d k) (k:=k) (J:=d.nd.toNat-mi d k) (abF (fun i hi=>GL _ af)) (k+2) (d.nd.toNat-mi d k) af (cr _) (fun i hi hj=>af);rw[show yJ (lU d k) (k+2) (d.nd.toNat-mi d k)=p0 d k from rfl]at e1 e2 e3 e4;have h0:lU d k 0=de (io d) (mi d k):=rfl;have Ky:1<=p0 d k:=by
  grind
 have hF:∀i,i<p0 d k->nG d k (lU d k) (p0 d k) i=48+(lU d k i/2^k:Nat):=fun i hi=>by
  unfold nG;simp[*]
 have uD:∀i,i<800->(⟨eL (nG d k (lU d k) (p0 d k)),(min (p0 d k) 800:Nat),d.dp-((mi d k:Nat)-1),d.ng,tJ k (lU d k) d.tr (p0 d k)⟩:bn).at_ i=nG d k (lU d k) (p0 d k) i:=fun i hi=>aaV hi;have hq0:1<=lU d k 0/2^k:=Nat.div_pos af zy;obtain⟨t1,t2,t3,t4⟩:=acj (d:=⟨eL (nG d k (lU d k) (p0 d k)),(min (p0 d k) 800:Nat),d.dp-((mi d k:Nat)-1),d.ng,tJ k (lU d k) d.tr (p0 d k)⟩) aaW (by grind) (by grind) (fun i hi=>by
  dsimp only at hi;rw[uD i af,hF i af];have:=KT i;generalize lU d k i/2^k=z at this;omega) (by
  rw[uD 0 af,hF 0 Ky];generalize lU d k 0/2^k=z at hq0;omega)
 refine⟨t1,Kz,r2,t2,t3,fun h1=>?_⟩;have e:(oG d k).at_ 0=48+((lU d k 0/2^k:Nat):Int):=by
  show(lW _).at_ 0=_;rw[t4,uD 0 af,hF 0 Ky]
 have e5:de (io d) (mi d k)=dB d 0:=by
  rw[h1];show 0*10+io d 0=_;unfold io;grind
 grind
def sv(lc:Nat->Nat×ByteArray):Prop:=∀k,1<=k->k<=60->C7 k (lc k)
def tP(lc:Nat->Nat×ByteArray):Nat->bn->Nat->bn
 |0,d,_=>d
 |f+1,d,n=>bif decide (60<n) then tP lc f (qy d 60 (lc 60)) (n-60) else qy d n (lc n)
def tQ:Nat->bn->Nat->bn
 |0,d,_=>d
 |f+1,d,n=>bif decide (60<n) then tQ f (oG d 60) (n-60) else oG d n
def AD:Nat:=200000
theorem Fi:AD=200000:=rfl
attribute [irreducible] AD
def ec(lc:Nat->Nat×ByteArray)(d:bn)(k:Int):bn:=bif decide (0<k) then tP lc AD d k.toNat else bif decide (k<0) then tQ AD d (-k).toNat else d
theorem abV{lc:Nat->Nat×ByteArray}(hU:sv lc):∀f(d:bn)n,d.norm->1<=n->n<=f->(tP lc f d n).norm/\d.dp<=(tP lc f d n).dp/\(tP lc f d n).dp<=d.dp+n/\(tP lc f d n).ng=d.ng
 |0,_,_,_,h,h'=>af
 |f+1,d,n,hd,h,h'=>by
  rw[tP];by_cases q:60<n
  ·rw[bG q,bf];obtain⟨a1,a2,a3,-⟩:=Ld hd (by decide) (hU 60 (by decide) (by decide));have:=Lb (d:=d) (hU 60 (by decide) (by decide));obtain⟨b1,b2,b3,b4⟩:=abV hU f _ (n-60) a1 af af;exact⟨b1,af,af,b4.trans a3⟩
  ·rw[bK q,aU];obtain⟨a1,a2,a3,-⟩:=Ld hd h (hU n h af);have:=Lb (d:=d) (hU n h af);exact⟨a1,af,af,a3⟩
theorem abW:∀f(d:bn)n,d.norm->1<=n->n<=f->(tQ f d n).norm/\(tQ f d n).dp<=d.dp/\d.dp<=(tQ f d n).dp+30*n/\(tQ f d n).ng=d.ng
 |0,_,_,_,h,h'=>af
 |f+1,d,n,hd,h,h'=>by
  rw[tQ];by_cases q:60<n
  ·rw[bG q,bf];obtain⟨a1,a2,a3,a4,a5,-⟩:=N3 hd (k:=60) (by decide) (by decide);obtain⟨b1,b2,b3,b4⟩:=abW f _ (n-60) a1 af af;exact⟨b1,af,af,b4.trans a5⟩
  ·rw[bK q,aU];obtain⟨a1,a2,a3,a4,a5,-⟩:=N3 hd h af;exact⟨a1,af,af,a5⟩
theorem abX{lc:Nat->Nat×ByteArray}(hU:sv lc){d:bn}(hd:d.norm){k:Int}(h1: -200000<=k)(h2:k<=200000):(ec lc d k).norm/\d.dp-6000000<=(ec lc d k).dp/\(ec lc d k).dp<=d.dp+200000/\(ec lc d k).ng=d.ng:=by
 unfold ec;by_cases q:0<k
 ·rw[bG q,bf];obtain⟨b1,b2,b3,b4⟩:=abV hU AD d k.toNat hd af (by rw[Fi];omega);grind
 ·rw[bK q,aU];by_cases q:k<0
  ·rw[bG q,bf];obtain⟨b1,b2,b3,b4⟩:=abW AD d (-k).toNat hd af (by rw[Fi];omega);grind
  grind
structure vp where
 b:Nat
 d:bn
 k:Int
 tb:Nat->Nat
 lc:Nat->Nat×ByteArray
def nz(x:vp):Option Addr:=some ⟨x.b,0,none⟩
def rZ:aR where
 X:=vp
 Y:=bn
 args x:=[ah (nz x),ae x.k]
 pre x:=[ag x.b (aZ x.d) 158]
 cond x:=x.d.norm/\sv x.lc/\ -200000<=x.k/\x.k<=200000/\ -100000000<=x.d.dp/\x.d.dp<=100000000
 aQ x F:=ic x.tb x.lc F
 cd x y:=y=ec x.lc x.d x.k
 val _ _:=.returned (.tuple #[])
 post x y:=[ag x.b (aZ y) 158]
structure uj where
 n:Nat
 d:bn
 f:Nat
def aoV(x:vp)(F:ai):Nat->Option Inv:=fun
 |1=>some {X:=uj,P:=fun s=>1<=s.n/\s.n<=s.f/\s.n<=200000/\s.d.norm/\x.d.dp<=s.d.dp/\s.d.dp+s.n<=x.d.dp+200000/\ec x.lc x.d x.k=tP x.lc s.f s.d s.n,mu:=fun s=>s.n,lv:=fun s=>[(0,ah (nz x)),(1,ae (s.n:Nat))],st:=fun s=>[ag x.b (aZ s.d) 158,F]}
 |3=>some {X:=uj,P:=fun s=>1<=s.n/\s.n<=s.f/\s.n<=200000/\s.d.norm/\s.d.dp<=x.d.dp/\x.d.dp-6000000<=s.d.dp-30*s.n/\ec x.lc x.d x.k=tQ s.f s.d s.n,mu:=fun s=>s.n,lv:=fun s=>[(0,ah (nz x)),(1,ae (-((s.n:Nat):Int)))],st:=fun s=>[ag x.b (aZ s.d) 158,F]}
 |_=>none
def H7(x:vp)(F:ai):=[(0,ag x.b (aZ x.d) 158),(1,F)]
def L8(a:uj)(x:vp):=1<=a.n/\a.n<=a.f/\a.n<=200000/\a.d.norm/\x.d.dp<=a.d.dp/\a.d.dp+a.n<=x.d.dp+200000/\ec x.lc x.d x.k=tP x.lc a.f a.d a.n
def Ci(x:vp)(a:uj)(F:ai):=[(0,ag x.b (aZ a.d) 158),(1,F)]
def Pc(aa:List Value)(pp:List ai)(rr:ai)(k0:iZ->bn->Prop):=aC 168 BT/\true=true/\∃(z:iZ),aa=[ah (kH z),aA ↑z.k]/\pp=[ag z.b (aZ z.d) 158]/\(z.d.norm/\1<=z.k/\z.k<=60/\C7 z.k (z.lc z.k)/\(-1000000000:Int)<=z.d.dp/\z.d.dp<=1000000000)/\ic z.tb z.lc rr/\∀(u0:bn),u0=qy z.d z.k (z.lc z.k)->k0 z u0
def L4(a:uj)(x:vp):=1<=a.n/\a.n<=a.f/\a.n<=200000/\a.d.norm/\a.d.dp<=x.d.dp/\x.d.dp-6000000<=a.d.dp-30*(a.n:Int)/\ec x.lc x.d x.k=tQ a.f a.d a.n
def Pd(aa:List Value)(pp:List ai)(k0:gr->bn->Prop):=aC 169 Aw/\true=true/\∃(z:gr),aa=[ah (iU z),aA ↑z.k]/\pp=[ag z.b (aZ z.d) 158]/\(z.d.norm/\1<=z.k/\z.k<=60/\(-1000000000:Int)<=z.d.dp/\z.d.dp<=1000000000)/\True/\∀(u0:bn),u0=oG z.d z.k->k0 z u0
theorem aoW(x:vp)(F:ai)(hc:rZ.cond x)(hr:rZ.aQ x F):T1 (ag x.b (aZ x.d) 158) ⟨x.b,800,none⟩ (fun f=>Br (f==0) (aq rZ x F eM (H7 x F)) (aP (x.k>0) ((∃(a:uj),L8 a x/\(ah (nz x)=ah (nz x)/\ae x.k=ae ↑a.n/\True)/\aD (H7 x F) (Ci x a F))/\aS fun(e:uj)_=>L8 e x->aP ((e.n:Int)>60) (Pc [ah (nz x),aA 60] [ag x.b (aZ e.d) 158] (aH (Ci x e F) [0]) (fun c b=>∃(a:uj),L8 a x/\(ah (nz x)=ah (nz x)/\ae (bY ((e.n:Int)-60))=ae ↑a.n/\True)/\aD [(0,ag c.b (aZ b) 158),(1,F)] (Ci x a F)/\a.n<e.n)) (Pc [ah (nz x),aA (bc (e.n:Int))] [ag x.b (aZ e.d) 158] (aH (Ci x e F) [0]) (fun b a=>aq rZ x F eM [(0,ag b.b (aZ a) 158),(1,F)]))) (aP (x.k<0) ((∃(a:uj),L4 a x/\(ah (nz x)=ah (nz x)/\ae x.k=ae (-(a.n:Int))/\True)/\aD (H7 x F) (Ci x a F))/\aS fun(e:uj)_=>L4 e x->aP (-(e.n:Int)<(-60:Int)) (Pd [ah (nz x),aA 60] [ag x.b (aZ e.d) 158] (fun c b=>∃(a:uj),L4 a x/\(ah (nz x)=ah (nz x)/\ae (bY (-(e.n:Int)+60))=ae (-(a.n:Int))/\True)/\aD [(0,ag c.b (aZ b) 158),(1,F)] (Ci x a F)/\a.n<e.n)) (Pd [ah (nz x),aA (bc (bY ((0:Int)- -(e.n:Int))))] [ag x.b (aZ e.d) 158] (fun b a=>aq rZ x F eM [(0,ag b.b (aZ a) 158),(1,F)]))) (aq rZ x F eM (H7 x F))))):=by
 delta T1 eM H7 L8 nz Ci kH Pc L4 iU Pd aH ae aA ah ag bc bY aP az aS;obtain⟨b,d,k,tb,lc⟩:=x;obtain⟨hd,hU,s_,lK,vR,iE⟩:=hc;replace hr:ic tb lc F:=hr;dsimp only at hd hU s_ lK vR iE⊢;have hl:=hd.len;have P1:∀v:bn,aD [(0,.cells b (aZ v) 158),(1,F)] [(0,.cells b (aZ v) 158),(1,F)]:=fun v=>aB [0,1];have rr:∀v:bn,ic tb lc (.dv (rest [(0,.cells b (aZ v) 158),(1,F)] [0])):=fun v=>hr.sub (b_ 1);have fin:∀v:bn,ec lc d k=v->aq rZ ⟨b,d,k,tb,lc⟩ F (returned (tuple #[])) [(0,.cells b (aZ v) 158),(1,F)]:=fun v e=>
  ⟨v,e.symm,rfl,P1 v⟩
 refine⟨d.nd,lg hl,aG (fun q=>absurd (beq_iff_eq.1 q) (by have:=hd.pos;omega)) (fun _=>bl (fun q=>⟨⟨⟨k.toNat,d,AD⟩,⟨by grind,by dsimp only;rw[Fi];omega,by simp[*],hd,cN _,by grind,by unfold ec;rw[bG (show 0<k by omega),bf]⟩,⟨rfl,congrArg _ (by grind),ao⟩,P1 d⟩,?_⟩) (fun q=>bl (fun q1=>⟨⟨⟨(-k).toNat,d,AD⟩,⟨by grind,by dsimp only;rw[Fi];omega,by grind,hd,cN _,by grind,by unfold ec;rw[bK (show ¬0<k by omega),bG q1,aU,bf]⟩,⟨rfl,congrArg _ (by grind),ao⟩,P1 d⟩,?_⟩) (fun q1=>fin d (by unfold ec;rw[bK (show ¬0<k by omega),bK q1,aU,aU]))))⟩
 ·rintro⟨n,D,f⟩ js ⟨g1,g2,g3,g4,g5,g6,g7⟩;dsimp only at g1 g2 g3 g4 g5 g6 g7⊢;obtain⟨f,rfl⟩:∃j,f=j+1:=⟨f-1,af⟩;refine bl (fun q1=>bp aaz ⟨b,D,60,tb,lc⟩ ⟨g4,by simp[*],by simp[*],hU 60 (by decide) (by decide),by grind,by grind⟩ (rr D) (?_)) (fun q1=>⟨aaz,rfl,⟨b,D,n,tb,lc⟩,?_,rfl,⟨g4,g1,by grind,hU n g1 af,by grind,by grind⟩,rr D,?_⟩)
  ·rintro y rfl;obtain⟨a1,a2,a3,-⟩:=Ld g4 (by decide) (hU 60 (by decide) (by decide));have:=Lb (d:=D) (hU 60 (by decide) (by decide));refine⟨⟨n-60,qy D 60 (lc 60),f⟩,⟨by grind,by grind,by grind,a1,by grind,by grind,by rw[g7,tP,bG (show 60<n by omega),bf]⟩,⟨rfl,congrArg _ (by rw[dA (i:=.i64) (n:=(n:Int)-60) aJ];dsimp only;omega),ao⟩,P1 _,by grind⟩
  ·rw[lu af]
  ·rintro y rfl;exact fin _ (by rw[g7,tP,bK (show ¬60<n by omega),aU])
 ·rintro⟨n,D,f⟩ js ⟨g1,g2,g3,g4,g5,g6,g7⟩;dsimp only at g1 g2 g3 g4 g5 g6 g7⊢;obtain⟨f,rfl⟩:∃j,f=j+1:=⟨f-1,af⟩;refine bl (fun q1=>bV abI ⟨b,D,60⟩ ⟨g4,by simp[*],by simp[*],by grind,by grind⟩ (?_)) (fun q1=>⟨abI,rfl,⟨b,D,n⟩,?_,rfl,⟨g4,g1,by grind,by grind,by grind⟩,ao,?_⟩)
  ·rintro y rfl;obtain⟨a1,a2,a3,a4,a5,-⟩:=N3 g4 (k:=60) (by decide) (by decide);refine⟨⟨n-60,oG D 60,f⟩,⟨by grind,by grind,by grind,a1,by grind,by grind,by rw[g7,tQ,bG (show 60<n by omega),bf]⟩,⟨rfl,congrArg _ (by rw[dA (i:=.i64) (n:= -(n:Int)+60) aJ];dsimp only;omega),ao⟩,P1 _,by grind⟩
  ·have e:u64.wrap (i64.wrap (0-(-(n:Int))))=(n:Int):=by
    rw[show 0-(-(n:Int))=(n:Int) by omega,dA (i:=.i64) (n:=(n:Int)) aJ,lu af]
   rw[e]
  ·rintro y rfl;exact fin _ (by rw[g7,tQ,bK (show ¬60<n by omega),aU])
theorem IA:aC 156 rZ:=fo 37 Tryz.func156 (fun _ _=>[(0,3,iH 0),(3,1,bq BT),(4,1,iH 0),(5,2,aW),(5,3,bq BT),(8,1,bq Aw),(9,1,iH 0),(10,2,iH 0),(10,3,aW),(10,4,bq Aw)]) [] aoV aY bz [] aoW
end
end Go.Proofs.YtdkchodgklpomaaGreatDoor
