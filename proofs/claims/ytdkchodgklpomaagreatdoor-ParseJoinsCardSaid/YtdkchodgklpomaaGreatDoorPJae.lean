/- Part of the proof that ParseJoins answers true at every input. -/
import Derived.Test.YtdkchodgklpomaaGreatDoorPJad
set_option linter.all false
namespace Go.Proofs.YtdkchodgklpomaaGreatDoor
set_option maxRecDepth 100000
open Go.Value (int slice string bool pointer agg tuple func float iface nilIface)
open Go.IntKind (i64 u8 u64 i32 u32 u16 i8 i16)
open Go.FloatKind (f64)
open Go.Ending (returned panicked)
section
open Go
theorem DV(s:ByteArray):∀(f i:Nat),i<=s.size->i<=(fT s f i).1/\(fT s f i).1<=s.size:=by
 intro f
 induction f with
 |zero=>intro i h;exact⟨bZ _,h⟩
 |succ f d=>
  intro i h;rw[fT];by_cases hi:i<s.size
  ·rw[bw hi,aU];cases hn:c7 s i with
   |none=>exact⟨bZ _,h⟩
   |some a=>
    obtain⟨c,n⟩:=a;obtain⟨b,f2,f3⟩:=kV hn;grind
  simp[*]
variable{s:ByteArray}{i:Nat}
theorem DN{t:List Nat}(h:dx s i t=true):i+t.length<=s.size:=by
 unfold dx at h;grind
theorem NX(s:ByteArray)(t:List Nat):∀(f i k:Nat),n9 s t f i=some k->k+t.length<=s.size:=by
 intro f
 induction f with
 |zero=>intro i k h;cases h
 |succ f a=>
  intro i k h;rw[n9]at h;cases hp:dx s i t with
  |true=>rw[hp]at h;cases h;exact DN hp
  |false=>
   grind
theorem Na(s:ByteArray):∀(f i:Nat)(aI:Bool),i<=s.size->i<=(cT s f i aI).2.1/\(cT s f i aI).2.1<=s.size:=by
 intro f
 induction f with
 |zero=>intro i aI h;exact⟨bZ _,h⟩
 |succ f g=>
  intro i aI h;rw[cT];by_cases hi:i<s.size
  ·rw[bw hi,aU];cases hn:c7 s i with
   |none=>exact⟨bZ _,h⟩
   |some d=>
    obtain⟨c,n⟩:=d;obtain⟨a,f2,f3⟩:=kV hn;have step:∀(j:Nat)(l:Bool),i<=j->j<=s.size->i<=(cT s f j l).2.1/\(cT s f j l).2.1<=s.size:=fun j l e b=>by
     grind
    dsimp only;cases hX c with
    |true=>exact step _ _ ae a
    |false=>
     rw[aN];cases sh c with
     |true=>exact step _ _ ae a
     |false=>
      rw[aN];cases e:dx s i [47,47]with
      |true=>
       rw[aU];have hl:=DV s (s.size+1) i h;grind
      |false=>
       rw[aN];cases b:dx s i [47,42]with
       |true=>
        rw[aU];have hp:=DN b;have hp:i+2<=s.size:=hp;cases hx:n9 (s.extract (i+2) s.size) [42,47] (s.size+1) 0 with
        |none=>exact⟨bZ _,h⟩
        |some k=>
         have hk:=NX _ _ _ _ _ hx;rw[hT,Nat.min_self]at hk;grind
       |false=>exact⟨bZ _,h⟩
  simp[*]
theorem WX{p:Nat->Bool}(hi:i<s.size)(hp:p (bt s i)=true):i+1<=bE s p i/\bE s p i<=s.size:=by
 unfold bE;rw[gv,bw hi,hp];exact WZ s p _ (i+1) hi
theorem Xo(s:ByteArray)(mark:Nat):∀(f i:Nat)(o:List Nat),i<=s.size->i<=(kH s mark f i o).1/\(kH s mark f i o).1<=s.size:=by
 intro f
 induction f with
 |zero=>intro i o h;exact⟨bZ _,h⟩
 |succ f e=>
  intro i o h;rw[kH];cases hn:c7 s i with
  |none=>exact⟨bZ _,h⟩
  |some d=>
   obtain⟨c,n⟩:=d;obtain⟨a,f2,f3⟩:=kV hn;dsimp only;cases c==10||c==13 with
   |true=>exact⟨bZ _,h⟩
   |false=>
    rw[aN];cases c==mark with
    |true=>exact⟨by simp[*],a⟩
    |false=>
     rw[aN];cases c==92 with
     |true=>
      rw[aU];rcases b:eI s (i+n)with⟨j,_|u⟩
      ·obtain⟨q1,q2,_⟩:=DG b a;grind
      ·obtain⟨q1,q2,_⟩:=DG b a;grind
     |false=>
      grind
theorem V_{j:Nat}(h:j<=s.size)(ok:(pT s j).2=true):j<=(pT s j).1/\(pT s j).1<=s.size:=by
 unfold pT at ok⊢;cases a:(bt s j|||32)==101 with
 |true=>
  rw[a,aU]at ok;rw[aU];have d:j<s.size:=by
   rcases Nat.lt_or_ge j s.size with h'|h'
   ·exact h'
   ·rw[uL h']at a;cases a
  cases b:(bt s (j+1)==43||bt s (j+1)==45)with
  |true=>
   rw[aU];have c:j+1<s.size:=uK (by
    intro e;rw[e]at b;cases b)
   have:=mY s bM (show j+2<=s.size by omega);exact⟨by show j<=bE s bM (j+2);omega,this.2⟩
  |false=>
   rw[aN];have:=mY s bM (show j+1<=s.size by omega);exact⟨by show j<=bE s bM (j+1);omega,this.2⟩
 |false=>exact⟨bZ _,h⟩
theorem Wa(hi:i<s.size)(h:iA s i=true)(ok:(ea s i).2=true):i+1<=(ea s i).1/\(ea s i).1<=s.size:=by
 rw[zk]at ok⊢;cases c:(bt s i==48&&(decide (i+1<s.size)&&(bt s (i+1)|||32)==120))with
 |true=>
  rw[aU];have a:i+1<s.size:=by
   grind
  have:=mY s fC (show i+2<=s.size by omega);omega
 |false=>
  rw[c,aN]at ok;rw[aN];unfold HK wL at ok⊢;have r:=mY s bM (Nat.le_of_lt hi);cases b:(decide (bE s bM i-i>1)&&bt s i==48)with
  |true=>rw[b]at ok;cases ok
  |false=>
   rw[b,aN]at ok;rw[aN];unfold zj at ok⊢;cases a:bt s (bE s bM i)==46 with
   |true=>
    rw[a,aU]at ok;rw[aU];have f:bE s bM i<s.size:=uK (by intro e;rw[e]at a;cases a);have d:=mY s bM (show bE s bM i+1<=s.size by omega);have:=V_ d.2 ok;omega
   |false=>
    rw[a,aN]at ok;rw[aN];have:=V_ r.2 ok;have hd:i+1<=bE s bM i:=by
     unfold iA at h;cases hd:bM (bt s i)with
     |true=>exact(WX hi hd).1
     |false=>
      grind
    omega
theorem Ou{num:Nat->Nat}{k:Nat}{aI:Bool}{d:bh}(hi:i<s.size)(h:gn num s i aI=(k,some d)):i+1<=k/\k<=s.size:=by
 cases hl:fX (bt s i)with
 |true=>
  rw[D0 hl]at h;cases h;exact WX hi (by unfold gM;simp[*])
 |false=>
  cases hn:iA s i with
  |true=>
   rw[D1 hl hn]at h;cases b:(ea s i).2 with
   |false=>rw[b]at h;cases h
   |true=>
    rw[b]at h;have:=Wa hi hn b;grind
  |false=>
   cases c:(bt s i==34||bt s i==39)with
   |true=>
    rw[D2 hl hn c]at h;have:=Xo s (bt s i) (s.size+1) (i+1) [] hi;unfold lh at h;grind
   |false=>
    rw[Bx hl hn c]at h;cases a:fh.find? (fun m=>dx s i (dP m))with
    |none=>rw[a]at h;cases h
    |some m=>
     rw[a]at h;cases h;have e:dx s i (dP m)=true:=List.find?_some (p:=fun m=>dx s i (dP m)) a;have f:=DN e;have g:(dP m).length=m.size:=by unfold dP;simp
     have j:∀m∈fh,1<=m.size:=by decide+kernel
     grind
end
section
open Go
theorem Hw(l:List bh):(hY l).length=l.length*5:=by
 induction l with
 |nil=>rfl
 |cons d l a=>
  have:hY (d::l)=kS d++hY l:=rfl;rw[this,dJ,a,qH];show 5+l.length*5=_;omega
structure uy where
 K:bR
 src:ByteArray
def cH(K:bR)(s:ByteArray):List bh×Int:=uY (il K s) s
def iU(K:bR)(s:ByteArray):Int×Int:=bif decide (s.size>8192) then (0,2) else ((cH K s).2,50)
def tE:aR where
 X:=uy
 Y:=Row ⊕ Unit
 args x:=[ai x.src]
 cond x:=aD 72 (oe x.K)
 aO x F:=eQ x.K F
 b_ x y:=match y with
  | .inl r=>x.src.size<=8192/\(cH x.K x.src).2= -1/\bz 53 5 (hY (cH x.K x.src).1) r/\(cH x.K x.src).1.length<=x.src.size
  | .inr _=>x.src.size>8192\/0<=(cH x.K x.src).2
 val x y:=match y with
  | .inl r=>.returned (.tuple #[.slice r.a r.n r.cap,.int .i64 0,.int .i64 0])
  | .inr _=>.returned (.tuple #[.slice none 0 0,.int .i64 (iU x.K x.src).1,.int .i64 (iU x.K x.src).2])
 post _ y:=match y with
  | .inl r=>[r.A]
  | .inr _=>[.d8]
 sum:=some (ia Row Unit)
structure v7 where
 b:Nat
 i:Nat
 f:Nat
 aI:Bool
 r:Row
 ls:List bh
def Ch(d:v7):Option Addr:=some ⟨d.b,0,none⟩
def agc(x:uy)(F:ah):Nat->Option Inv:=fun
 |0=>some {X:=v7,P:=fun d=>x.src.size<=8192/\d.i<=x.src.size/\x.src.size<d.i+d.f/\bz 53 5 (hY d.ls) d.r/\d.ls.length<=d.i/\cH x.K x.src=jv (il x.K x.src) x.src d.f d.i d.aI d.ls,mu:=fun d=>x.src.size-d.i,lv:=fun d=>[(0,ai x.src),(5,ag (Ch d))],st:=fun d=>[F,af d.b [ai x.src,ad d.i,aj d.aI,au d.r.a d.r.n d.r.cap] 68,d.r.A]}
 |_=>none
structure AA where
 b:Nat
 j:Nat
 m:Nat
 f:Nat
 aI:Bool
 r:Row
 ls:List bh
def VO:(T:Type)×(AA->T):=⟨Nat,fun d=>d.m⟩
def N_(num:Nat->Nat)(s:ByteArray)(f j:Nat)(aI:Bool)(o:List bh):List bh×Int:=
 bif j==s.size then (o,-1) else match gn num s j aI with
  | (_,none)=>([],j)
  | (k,some x)=>jv num s f k false (o++[x])
def agb(x:uy)(F:ah):Nat->Option Inv:=fun
 |7=>some {X:=AA,P:=fun d=>x.src.size<=8192/\d.j<=x.src.size/\d.m<=d.j/\x.src.size<d.m+(d.f+1)/\bz 53 5 (hY d.ls) d.r/\d.ls.length<=d.j/\cH x.K x.src=N_ (il x.K x.src) x.src d.f d.j d.aI d.ls,mu:=fun _=>0,lv:=fun d=>[(0,ai x.src),(5,ag (some ⟨d.b,0,none⟩))],st:=fun d=>[F,af d.b [ai x.src,ad d.j,aj d.aI,au d.r.a d.r.n d.r.cap] 68,d.r.A],gh:=some VO}
 |_=>none
def Ia(x:uy)(a:v7):=x.src.size<=8192/\a.i<=x.src.size/\x.src.size<a.i+a.f/\bz 53 5 (hY a.ls) a.r/\a.ls.length<=a.i/\cH x.K x.src=jv (il x.K x.src) x.src a.f a.i a.aI a.ls
def IT(F:ah)(a:v7)(x:uy):=[(0,F),(1,af a.b [ai x.src,ad ↑a.i,aj a.aI,au a.r.a a.r.n a.r.cap] 68),(2,a.r.A)]
def Pj(F:ah)(c:cD)(i:v7):=[(0,F),(1,af c.b [ai c.src,ad (↑(cT c.src (c.src.size+1) c.i.toNat c.aI).snd.fst:Int),aj (cT c.src (c.src.size+1) c.i.toNat c.aI).snd.snd,au c.oa c.on c.oc] 68),(2,i.r.A)]
def Pi(x:uy)(a:AA)(g:Nat):=(x.src.size<=8192/\a.j<=x.src.size/\a.m<=a.j/\x.src.size<a.m+(a.f+1)/\bz 53 5 (hY a.ls) a.r/\a.ls.length<=a.j/\cH x.K x.src=N_ (il x.K x.src) x.src a.f a.j a.aI a.ls)/\VO.snd a=g
def IU(F:ah)(a:AA)(x:uy):=[(0,F),(1,af a.b [ai x.src,ad ↑a.j,aj a.aI,au a.r.a a.r.n a.r.cap] 68),(2,a.r.A)]
theorem age(x:uy)(F:ah)(H:tE.cond x)(v:tE.aO x F):aS ((x.src.size:Int)>8192) (ar tE x F (ay (tuple ⟨[au none 0 0,ad 0,ad 2]⟩)) [(0,F)]) (∀(j:Nat),(∃(a:v7),Ia x a/\(ai x.src=ai x.src/\ag (bI j)=ag (Ch a)/\True)/\aE [(0,F),(4020,af j [ai x.src,ad 0,aj false,au none 0 0] 68)] (IT F a x))/\aT fun(i:v7)_=>Ia x i->∃(g:Nat),(aD 35 pH/\true=true/\∃(c:cD),[ag (Ch i)]=[ag (gu c)]/\[af i.b [ai x.src,ad ↑i.i,aj i.aI,au i.r.a i.r.n i.r.cap] 68]=[af c.b (oZ c) 68]/\tQ c/\Gl (aH (IT F i x) [1])/\∀(b:Unit),True->aS ((cT c.src (c.src.size+1) c.i.toNat c.aI).fst>=0) (ar tE x F (ay (tuple ⟨[au none 0 0,ad (cT c.src (c.src.size+1) c.i.toNat c.aI).fst,ad 50]⟩)) (Pj F c i)) (∃(a:AA),Pi x a g/\(ai x.src=ai x.src/\ag (Ch i)=ag (some ⟨a.b,0,none⟩)/\True)/\aE (Pj F c i) (IU F a x)))/\aT fun(f:AA)_=>Pi x f g->aw f.b 1/\Br ((f.j:Int)==(x.src.size:Int)) (aw f.b 3/\ar tE x F (ay (tuple ⟨[au f.r.a f.r.n f.r.cap,ad 0,ad 0]⟩)) (IU F f x)) (aw f.b 1/\aD 36 wN/\true=true/\∃(d:oG),[ag (some ⟨f.b,0,none⟩)]=(mj d)/\[af f.b [ai x.src,ad ↑f.j,aj f.aI,au f.r.a f.r.n f.r.cap] 68,f.r.A]=[af d.b [ai d.src,ad ↑d.i,aj d.aI,au d.r.a d.r.n d.r.cap] 68,d.r.A]/\(d.i<d.src.size/\d.src.size<=1048570/\aD 72 (oe d.K)/\bz 53 5 (hY d.ls) d.r/\d.r.n<=1048576)/\eQ d.K (aH (IU F f x) [1,2])/\(∀(c:Row),(∃(b:Nat),∃(a:bh),gn (il d.K d.src) d.src d.i d.aI=(b,some a)/\bz 53 5 (hY (d.ls++[a])) c)->∃(a:v7),Ia x a/\(ai x.src=ai x.src/\ag (some ⟨f.b,0,none⟩)=ag (Ch a)/\True)/\aE [(0,F),(1,af d.b [ai d.src,ad (↑(gn (il d.K d.src) d.src d.i d.aI).fst:Int),aj false,au c.a c.n c.cap] 68),(2,c.A)] (IT F a x)/\x.src.size-a.i<x.src.size-i.i)/\∀(a:Nat×Row),(gn (il d.K d.src) d.src d.i d.aI).snd=none->ar tE x F (ay (tuple ⟨[au none 0 0,ad ↑f.j,ad 50]⟩)) [(0,F),(1,af d.b [ai d.src,ad ↑a.1,aj false,au a.snd.a a.2.n a.2.cap] 68),(2,a.snd.A)])):=by
 delta Ia bI Ch IT gu oZ tQ Pj Pi IU mj aH aw ad ai aj ag au af aS ay aT;have G:aD 72 (oe x.K):=H;replace v:eQ x.K F:=v;refine bo (fun h=>⟨.inr (),.inl ae,?_,aA [9,0]⟩) (fun h=>?_)
 ·show returned _=returned (.tuple #[.slice none 0 0,.int .i64 (iU x.K x.src).1,.int .i64 (iU x.K x.src).2]);unfold iU;grind
 have hs:x.src.size<=8192:=ae;have fail:∀(p:Int)(A B:ah),(cH x.K x.src).2=p->0<=p->ar tE x F (returned (tuple #[slice none 0 0,int i64 p,int i64 50])) [(0,F),(1,A),(2,B)]:=fun p A B e hp=>
  ⟨.inr (),.inr ae,by show returned _=returned (.tuple #[.slice none 0 0,.int .i64 (iU x.K x.src).1,.int .i64 (iU x.K x.src).2]);unfold iU;rw[bF (show ¬x.src.size>8192 by omega),e];rfl,aA [9,0]⟩
 intro b;refine⟨⟨⟨b,0,x.src.size+1,false,⟨none,0,0,.d8⟩,[]⟩,⟨hs,dq _,by simp[*],.nil rfl,dq _,rfl⟩,aV,aA [0,4020,9]⟩,?_⟩;rintro⟨b,i,f,aI,r,ls⟩ N ⟨g1,C,g3,g4,E,s⟩;dsimp only at g1 C g3 g4 E s⊢;obtain⟨w,rfl⟩:∃w,f=w+1:=⟨f-1,ae⟩;have t:=Na x.src (x.src.size+1) i aI C;refine⟨i,bs abp ⟨b,x.src,(i:Int),aI,r.a,r.n,r.cap⟩ ⟨by simp[*],by simp[*],by grind⟩ (Gl.rest (j:=0) aL v.gl) fun _ _=>?_,?_⟩
 ·dsimp only;rw[cy];rw[jv]at s;revert t s;generalize cT x.src (x.src.size+1) i aI=B;obtain⟨at_,j,o⟩:=B;intro s t;dsimp only at t s⊢;refine bo (fun h=>fail at_ _ _ ?_ h) (fun h=>⟨⟨b,j,i,w,o,r,ls⟩,⟨⟨hs,t.2,t.1,g3,g4,by grind,?_⟩,rfl⟩,aV,aA [0,1,2]⟩)
  ·simp[*]
  ·rw[s,bF h];rfl
 ·rintro⟨b,j,m,f2,l,z,q⟩ K ⟨⟨k1,k2,k3,L,y,M,n⟩,D⟩;have D:m=i:=D;dsimp only at k2 k3 L y M n⊢;have J:z.n=q.length:=by have:=y.len;rw[Hw]at this;omega
  unfold N_ at n;refine⟨al,aG (fun h=>?_) (fun h=>?_)⟩
  ·rw[fS x.src.size h,aU]at n;exact⟨al,.inl z,⟨hs,by rw[n],by grind,by grind⟩,rfl,aA [2,0]⟩
  ·have I:=ff.1 (fS x.src.size h);rw[fS x.src.size h,aN]at n;refine⟨al,ahc,rfl,⟨x.K,b,x.src,j,l,z,q⟩,rfl,rfl,⟨by grind,by grind,G,y,by grind⟩,eQ.rest (j:=0) aL v,?_,?_⟩
   ·rintro a ⟨k,d,e,u⟩;replace e:gn (il x.K x.src) x.src j l=(k,some d):=e;obtain⟨o1,o2⟩:=Ou (show j<x.src.size by omega) e;rw[e]at n;exact⟨⟨b,k,f2,false,a,q++[d]⟩,⟨hs,o2,by grind,u,by grind,n⟩,aV,aE.pick [0,1,2] rfl (by dsimp only;rw[e];rfl),by grind⟩
   grind
theorem agd:aD 20 tE:=fo 38 Tryz.func20 (fun _ _=>[(3,2,.n 4020),(4,1,.c pH [1] [1]),(10,1,.c wN [1,2] [1,2])]) [(7,3,aP 1),(8,3,aP 1),(9,3,aP 1)] agc agb bA [] age
end
section
open Go
def da(set:ByteArray)(b:Nat):Bool:=decide (Lib.indexByte set.data.toList (UInt8.ofNat b)>=0)
def rf:aR where
 X:=gz
 args x:=[ai x.a,ai x.b]
 cond x:=x.a.size<=1099511627776
 val x _:=ay (ad (bE x.a (da x.b) 0:Nat))
structure C7 where
 i:Nat
 f:Nat
def aji(x:gz)(F:ah):Nat->Option Inv:=fun
 |0=>some {X:=C7,P:=fun d=>d.i<=x.a.size/\x.a.size<d.i+d.f/\bE x.a (da x.b) 0=gv x.a (da x.b) d.f d.i,mu:=fun d=>x.a.size-d.i,lv:=fun d=>[(0,ai x.a),(1,ai x.b),(5,ad d.i)],st:=fun _=>[F]}
 |_=>none
def I2(a:C7)(x:gz):=a.i<=x.a.size/\x.a.size<a.i+a.f/\bE x.a (da x.b) 0=gv x.a (da x.b) a.f a.i
theorem ajj(x:gz)(F:ah)(l:rf.cond x)(n:rf.aO x F):(∃(a:C7),I2 a x/\(ai x.a=ai x.a/\ai x.b=ai x.b/\ad 0=ad ↑a.i/\True)/\aE [(0,F)] [(0,F)])/\aT fun(e:C7)_=>I2 e x->aS ((e.i:Int)<(x.a.size:Int)) ((0<=(e.i:Int)/\(e.i:Int)<(x.a.size:Int))/\yB 100 [ai x.b,ba (aF x.a (e.i:Int))] (fun c b=>aS (Lib.indexByte c.s.data.toList (UInt8.ofNat c.c)>=0) (((-9223372036854775808:Int)<=(e.i:Int)+1/\(e.i:Int)+1<=(9223372036854775807:Int))/\∃(a:C7),I2 a x/\(ai x.a=ai x.a/\ai x.b=ai x.b/\ad ((e.i:Int)+1)=ad ↑a.i/\True)/\aE [(0,F)] [(0,F)]/\x.a.size-a.i<x.a.size-e.i) (ar rf x F (ay (ad ↑e.i)) [(0,F)]))) (ar rf x F (ay (ad ↑e.i)) [(0,F)]):=by
 delta I2 yB ad ba ai aS ay aT;obtain⟨s,set⟩:=x;have hs:s.size<=1099511627776:=l;dsimp only;refine⟨⟨⟨0,s.size+1⟩,⟨dq _,by simp[*],rfl⟩,aV,aA [0]⟩,?_⟩;rintro⟨i,f⟩ o ⟨j,k,h⟩;dsimp only at j k h⊢;obtain⟨d,rfl⟩:∃d,f=d+1:=⟨f-1,ae⟩;have fin:gv s (da set) (d+1) i=i->ar rf ⟨s,set⟩ F (returned (int i64 (i:Int))) [(0,F)]:=fun e=>
  ⟨(),ao,by show returned _=returned (.int .i64 (bE s (da set) 0:Nat));simp[*],aA [0]⟩
 refine bo (fun g=>⟨⟨ae,g⟩,NW,rfl,⟨set,bt s i⟩,by rw[gB,cy],rfl,hF _ _,ao,fun _ _=>aG (fun e=>?_) (fun e=>?_)⟩) (fun m=>fin ?_)
 ·have e:da set (bt s i)=true:=e;exact⟨aK,⟨i+1,d⟩,⟨by grind,by grind,h.trans (by rw[gv,bw (show i<s.size by omega),e];rfl)⟩,aV,aA [0],by grind⟩
 ·have e:da set (bt s i)=false:=e;exact fin (by rw[gv,bw (show i<s.size by omega),e];rfl)
 ·rw[gv,bF (show ¬i<s.size by omega)];rfl
theorem Kq:aD 85 rf:=fo 21 Tryz.func85 (fun _ _=>[(2,9,aX sc)]) [] aji aY bA [] ajj
def tg(u:Int):Bool:=(decide (u>=9)&&decide (u<=13))||(u==32||(u==160||u==65279))
structure CX where
 u:Int
def r7:aR where
 X:=CX
 args x:=[ad x.u]
 val x _:=ay (aj (tg x.u))
def PK(x:CX)(F:ah):=Br (x.u==32) (ar r7 x F gH [(0,F)]) (Br (x.u==160) (ar r7 x F gH [(0,F)]) (ar r7 x F (ay (aj (x.u==65279))) [(0,F)]))
theorem abn(x:CX)(F:ah)(a:r7.cond x)(c:r7.aO x F):aS (x.u>=9) (aS (x.u<=13) (ar r7 x F gH [(0,F)]) (PK x F)) (PK x F):=by
 delta gH PK aj aS ay;obtain⟨u⟩:=x;dsimp only;have fin:∀b,tg u=b->ar r7 ⟨u⟩ F (returned (bool b)) [(0,F)]:=fun b e=>
  ⟨(),ao,by show returned _=returned (.bool (tg u));rw[e],aA [0]⟩
 repeat (first
  |exact fin _ (by unfold tg;simp only[*,bw,bF,Bool.true_and,Bool.true_or,jp,Bool.false_or,not_false_eq_true])
  |refine aG (fun _=>?_) (fun _=>?_))
theorem TM:aD 98 r7:=fo 21 Tryz.func98 (fun _ _=>[]) [] aY aY bA [] abn
def iR:ByteArray:=⟨#[48,49,50,51,52,53,54,55,56,57]⟩
def fq(s:ByteArray)(n:Nat):ByteArray:=s.extract n s.size
def qB(s:ByteArray):Bool:=decide (bE s (da iR) 0>0)&&bE s (da iR) 0==s.size
def DC(s:ByteArray):ByteArray:=bif decide (s.size>0)&&(bt s 0==43||bt s 0==45) then fq s 1 else s
def A4(s:ByteArray):Bool:=bif decide (s.size>0)&&(bt s 0==101||bt s 0==69) then qB (DC (fq s 1)) else s.size==0
def iQ(s:ByteArray):Bool:=
 let a:=bE s (da iR) 0
 let s1:=fq s a
 bif jt s1 ⟨#[46]⟩ then
  let b:=bE (fq s1 1) (da iR) 0
  bif a+b==0 then false else A4 (fq s1 (1+b))
 else bif a==0 then false else A4 s1
def pI:aR where
 X:=gz
 args x:=[ai x.a]
 cond x:=x.a.size<=1099511627776
 val x _:=ay (aj (iQ x.a))
theorem yP(s:ByteArray)(n:Nat):(fq s n).size=s.size-n:=by unfold fq;rw[hT];omega
theorem Bq(a b:Nat):(a==b)=((a:Int)==(b:Int)):=by
 grind
theorem KL(s:ByteArray):(s.toList==(ByteArray.mk #[]).toList)=(s.size==0):=by
 have a:=xQ s;grind
structure oB where
 a:Nat
 b:Nat
 t:ByteArray
def acf(x:gz)(F:ah):Nat->Option Inv:=fun
 |7=>some {X:=oB,P:=fun d=>d.t.size<=x.a.size/\d.a<=x.a.size/\d.b<=x.a.size/\iQ x.a=bif d.a+d.b==0 then false else A4 d.t,mu:=fun _=>0,lv:=fun d=>[(0,ai d.t),(3,ad d.a),(4,ad d.b)],st:=fun _=>[F]}
 |11=>some {X:=oB,P:=fun d=>d.t.size<=x.a.size/\iQ x.a=qB (DC d.t),mu:=fun _=>0,lv:=fun d=>[(0,ai d.t)],st:=fun _=>[F]}
 |13=>some {X:=oB,P:=fun d=>d.t.size<=x.a.size/\iQ x.a=qB d.t,mu:=fun _=>0,lv:=fun d=>[(0,ai d.t)],st:=fun _=>[F]}
 |_=>none
def AO(aa:List Value)(a:gz->Unit->Prop):=aD 85 rf/\true=true/\∃(z:gz),aa=[ai z.a,ai z.b]/\([]:List ah)=[]/\z.a.size<=1099511627776/\True/\∀(b:Unit),True->a z b
def QB(z:oB)(e0:gz):=z.t.size<=e0.a.size/\z.a<=e0.a.size/\z.b<=e0.a.size/\(iQ e0.a=bif z.a+z.b==0 then false else A4 z.t)
def MF(e0:gz)(e1:ah)(v0 v1 v2:Value)(a:St):=∃(z:oB),QB z e0/\(v0=ai z.t/\v1=ad ↑z.a/\v2=ad ↑z.b/\True)/\aE a [(0,e1)]
def JL(j:gz):=ad (↑(bE j.a (da j.b) 0):Int)
def EU(f:oB):=(0:Int)<=(0:Int)/\0<(f.t.size:Int)
def I6(h:oB):=(0:Int)<=(1:Int)/\1<=(h.t.size:Int)/\(h.t.size:Int)<=(h.t.size:Int)
def Tq(e0:gz)(e1:ah)(v0:Value)(a:St):=∃(z:oB),(z.t.size<=e0.a.size/\iQ e0.a=qB (DC z.t))/\(v0=ai z.t/\True)/\aE a [(0,e1)]
def Jf(h:oB):=ai (h.t.extract (Int.toNat (1:Int)) (h.t.size:Int).toNat)
def Dh(e0:gz)(e1:ah)(v0:Value)(a:St):=∃(z:oB),(z.t.size<=e0.a.size/\iQ e0.a=qB z.t)/\(v0=ai z.t/\True)/\aE a [(0,e1)]
def PI(h:oB)(x:gz)(F:ah):=(I6 h/\Tq x F (Jf h) [(0,F)])/\aT fun(f:oB)_=>(f.t.size<=x.a.size/\iQ x.a=qB (DC f.t))->Br (!f.t.toList==qY.toList) (EU f/\Br (aF f.t (0:Int)==(43:Int)) (I6 f/\Dh x F (Jf f) [(0,F)]) (EU f/\Br (aF f.t (0:Int)==(45:Int)) (I6 f/\Dh x F (Jf f) [(0,F)]) (Dh x F (ai f.t) [(0,F)]))) (Dh x F (ai f.t) [(0,F)])/\aT fun(d:oB)_=>(d.t.size<=x.a.size/\iQ x.a=qB d.t)->AO [ai d.t,ai ⟨#[48,49,50,51,52,53,54,55,56,57]⟩] (fun b a=>aS ((↑(bE b.a (da b.b) 0):Int)>0) (ar pI x F (ay (aj ((↑(bE b.a (da b.b) 0):Int)==(d.t.size:Int)))) [(0,F)]) (ar pI x F cQ [(0,F)]))
theorem ach(x:gz)(F:ah)(N:pI.cond x)(P:pI.aO x F):AO [ai x.a,ai ⟨#[48,49,50,51,52,53,54,55,56,57]⟩] (fun j i=>(0<=(↑(bE j.a (da j.b) 0):Int)/\(↑(bE j.a (da j.b) 0):Int)<=(x.a.size:Int)/\(x.a.size:Int)<=(x.a.size:Int))/\uB 50 [ai (x.a.extract (↑(bE j.a (da j.b) 0):Int).toNat (x.a.size:Int).toNat),ai ⟨#[46]⟩] (fun e d=>Br (jt e.a e.b) (((0:Int)<=(1:Int)/\1<=(↑(x.a.extract (↑(bE j.a (da j.b) 0):Int).toNat (x.a.size:Int).toNat).size:Int)/\(↑(x.a.extract (↑(bE j.a (da j.b) 0):Int).toNat (x.a.size:Int).toNat).size:Int)<=(↑(x.a.extract (↑(bE j.a (da j.b) 0):Int).toNat (x.a.size:Int).toNat).size:Int))/\AO [ai ((x.a.extract (↑(bE j.a (da j.b) 0):Int).toNat (x.a.size:Int).toNat).extract (Int.toNat (1:Int)) (↑(x.a.extract (↑(bE j.a (da j.b) 0):Int).toNat (x.a.size:Int).toNat).size:Int).toNat),ai ⟨#[48,49,50,51,52,53,54,55,56,57]⟩] (fun c b=>bK (1+(↑(bE c.a (da c.b) 0):Int))/\((0:Int)<=1+(↑(bE c.a (da c.b) 0):Int)/\1+(↑(bE c.a (da c.b) 0):Int)<=(↑(x.a.extract (↑(bE j.a (da j.b) 0):Int).toNat (x.a.size:Int).toNat).size:Int)/\(↑(x.a.extract (↑(bE j.a (da j.b) 0):Int).toNat (x.a.size:Int).toNat).size:Int)<=(↑(x.a.extract (↑(bE j.a (da j.b) 0):Int).toNat (x.a.size:Int).toNat).size:Int))/\MF x F (ai ((x.a.extract (↑(bE j.a (da j.b) 0):Int).toNat (x.a.size:Int).toNat).extract (1+(↑(bE c.a (da c.b) 0):Int)).toNat (↑(x.a.extract (↑(bE j.a (da j.b) 0):Int).toNat (x.a.size:Int).toNat).size:Int).toNat)) (JL j) (JL c) [(0,F)])) (MF x F (ai (x.a.extract (↑(bE j.a (da j.b) 0):Int).toNat (x.a.size:Int).toNat)) (JL j) (ad 0) [(0,F)]))/\aT fun(h:oB)_=>QB h x->bK ((h.a:Int)+(h.b:Int))/\Br ((h.a:Int)+(h.b:Int)==0) (ar pI x F cQ [(0,F)]) (Br (!h.t.toList==qY.toList) (EU h/\Br (aF h.t (0:Int)==(101:Int)) (PI h x F) (EU h/\Br (aF h.t (0:Int)==(69:Int)) (PI h x F) (ar pI x F (ay (aj (h.t.toList==qY.toList))) [(0,F)]))) (ar pI x F (ay (aj (h.t.toList==qY.toList))) [(0,F)]))):=by
 delta AO uB QB MF JL dk cQ qY EU I6 Tq Jf Dh PI bK ad ai aj aS ay aT;obtain⟨s,s'⟩:=x;have hs:s.size<=1099511627776:=N;dsimp only;have fin:∀b,iQ s=b->ar pI ⟨s,s'⟩ F (returned (bool b)) [(0,F)]:=fun b e=>
  ⟨(),ao,by show returned _=returned (.bool (iQ s));rw[e],aA [0]⟩
 have H:=mY s (da iR) (dq s.size);have m:(s.extract (bE s (da iR) 0:Int).toNat (s.size:Int).toNat)=fq s (bE s (da iR) 0):=by rfl
 refine bO Kq ⟨s,iR⟩ hs fun _ _=>⟨⟨ae,by simp[*],cE _⟩,?_,?_⟩
 ·dsimp only;rw[m];have o:=yP s (bE s (da iR) 0);have e0:iQ s=bif jt (fq s (bE s (da iR) 0)) ⟨#[46]⟩ then
    (bif bE s (da iR) 0+bE (fq (fq s (bE s (da iR) 0)) 1) (da iR) 0==0 then false else A4 (fq (fq s (bE s (da iR) 0)) (1+bE (fq (fq s (bE s (da iR) 0)) 1) (da iR) 0)))
   else bif bE s (da iR) 0==0 then false else A4 (fq s (bE s (da iR) 0)):=rfl
  generalize fq s (bE s (da iR) 0)=s1 at o e0⊢;generalize bE s (da iR) 0=a at o e0 H⊢;clear m;refine l6 DO ⟨s1,⟨#[46]⟩⟩ fun _ _=>aG (fun h=>?_) (fun h=>?_)
  ·have h:jt s1 ⟨#[46]⟩=true:=h;have n:1<=s1.size:=by
    unfold jt at h;rw[gX,decide_eq_true_eq]at h;exact h.1
   rw[h,aU]at e0;have B:(s1.extract (Int.toNat 1) (s1.size:Int).toNat)=fq s1 1:=by rfl
   rw[B];have I:=mY (fq s1 1) (da iR) (dq _);have J:=yP s1 1;generalize fq s1 1=s2 at I J e0⊢;refine⟨⟨ae,ae,cE _⟩,Kq,rfl,⟨s2,iR⟩,rfl,rfl,by grind,ao,fun _ _=>?_⟩;dsimp only;generalize bE s2 (da iR) 0=b at I e0⊢;have K:=yP s1 (1+b);have C:s1.extract (1+(b:Int)).toNat (s1.size:Int).toNat=fq s1 (1+b):=by
    rfl
   rw[C];generalize fq s1 (1+b)=O at K e0⊢;exact⟨aK,⟨ae,ae,cE _⟩,⟨a,b,O⟩,⟨by grind,by simp[*],by grind,e0⟩,aV,aA [0]⟩
  ·have h:jt s1 ⟨#[46]⟩=false:=h;rw[h,aN]at e0;exact⟨⟨a,0,s1⟩,⟨by simp[*],by simp[*],dq _,e0⟩,aV,aA [0]⟩
 clear H m;rintro⟨a,b,t⟩ G ⟨n,g,M,q⟩;dsimp only at n g M q⊢;have tail:∀t:ByteArray,t.size<=s.size->iQ s=qB t->aD 85 rf/\true=true/\∃x:gz,[string t,string iR]=[string x.a,string x.b]/\([]:List ah)=[]/\x.a.size<=1099511627776/\True/\∀_:Unit,True->Br (decide ((bE x.a (da x.b) 0:Int)>0)) (ar pI ⟨s,s'⟩ F (returned (bool ((bE x.a (da x.b) 0:Int)==(t.size:Int)))) [(0,F)]) (ar pI ⟨s,s'⟩ F (returned (bool false)) [(0,F)]):=by
  intro t Q e;refine bO Kq ⟨t,iR⟩ (by grind) fun _ _=>bo (fun h=>fin _ ?_) (fun h=>fin _ ?_)
  ·rw[e];unfold qB;grind
  ·rw[e];unfold qB;grind
 have p:(a+b==0)=((a:Int)+(b:Int)==0):=by grind
 rw[p]at q;refine⟨aK,aG (fun D=>fin _ (by simp[*])) (fun D=>?_)⟩;rw[D,aN]at q;have l:iQ s=bif decide (t.size>0)&&(bt t 0==101||bt t 0==69) then qB (DC (fq t 1)) else t.size==0:=q
 clear q D p;refine aG (fun f=>?_) (fun f=>fin _ ?_)
 ·rw[xQ]at f;have r:=jS f;rw[f,Bool.true_and]at l;have w:∀c:Nat,((bt t 0:Int)==(c:Int))=(bt t 0==c):=fun c=>(Bq _ _).symm;refine⟨⟨cE _,ae⟩,lj (A:=(bt t 0==101||bt t 0==69)=true) (fun k=>aG (fun h=>k ?_) (fun h=>⟨⟨cE _,ae⟩,aG (fun g=>k ?_) (fun g=>fin _ ?_)⟩)) (fun y=>?_)⟩
  ·rw[gB,Int.toNat_zero]at h;grind
  ·rw[gB,Int.toNat_zero]at g;grind
  ·rw[gB,Int.toNat_zero]at h g;rw[show(bt t 0==101)=false from(w 101).symm.trans h,show(bt t 0==69)=false from(w 69).symm.trans g,Bool.or_self,aN]at l;rw[l,KL]
  rw[y,aU]at l;have o:=yP t 1;have m:t.extract (Int.toNat 1) (t.size:Int).toNat=fq t 1:=by rfl
  rw[m];generalize fq t 1=u at o l⊢;refine⟨⟨⟨ae,ae,cE _⟩,⟨0,0,u⟩,⟨by grind,l⟩,⟨rfl,ao⟩,aA [0]⟩,?_⟩;clear m o l y w r f n u;rintro⟨_,_,u⟩ G ⟨n,E⟩;dsimp only at n E⊢;have z:iQ s=qB (bif decide (u.size>0)&&(bt u 0==43||bt u 0==45) then fq u 1 else u):=E;have w:∀c:Nat,((bt u 0:Int)==(c:Int))=(bt u 0==c):=fun c=>(Bq _ _).symm;have o:=yP u 1;have m:u.extract (Int.toNat 1) (u.size:Int).toNat=fq u 1:=by rfl
  rw[m];refine⟨aG (fun f=>?_) (fun f=>⟨⟨0,0,u⟩,⟨n,?_⟩,⟨rfl,ao⟩,aA [0]⟩),?_⟩
  ·rw[xQ]at f;have r:=jS f;rw[f,Bool.true_and]at z;refine⟨⟨cE _,ae⟩,lj (A:=(bt u 0==43||bt u 0==45)=true) (fun k=>aG (fun h=>k ?_) (fun h=>⟨⟨cE _,ae⟩,aG (fun g=>k ?_) (fun g=>⟨⟨0,0,u⟩,⟨n,?_⟩,⟨rfl,ao⟩,aA [0]⟩)⟩)) (fun y=>?_)⟩
   ·rw[gB,Int.toNat_zero]at h;grind
   ·rw[gB,Int.toNat_zero]at g;grind
   ·rw[gB,Int.toNat_zero]at h g;grind
   ·rw[y,aU]at z;exact⟨⟨ae,ae,cE _⟩,⟨0,0,fq u 1⟩,⟨by grind,z⟩,⟨rfl,ao⟩,aA [0]⟩
  ·rw[xQ]at f;grind
  ·rintro⟨_,_,v⟩ G ⟨g,L⟩;exact tail v g L
 ·rw[xQ]at f;rw[f,jp,aN]at l;rw[l,KL]
theorem acg:aD 87 pI:=fo 64 Tryz.func87 (fun _ _=>[(1,1,aX rf),(4,1,aX n8),(5,2,aX rf),(13,1,aX rf)]) [] aY acf bA [] ach
end
section
open Go
theorem or8{a b:Nat}(e:a<256)(f:b<256):i64.wrap (↑(BitVec.ofInt i64.bits (i64.wrap ((a:Int)*2^min (Int.toNat 8) i64.bits))|||BitVec.ofInt i64.bits (b:Int)).toNat:Int)=((a*256+b:Nat):Int):=by
 have e1:((a:Int)*2^min (Int.toNat 8) i64.bits)=((a*256:Nat):Int):=by
  show(a:Int)*256=_;omega
 rw[e1,dG (i:=.i64) (n:=((a*256:Nat):Int)) (by simp only[ty];omega),BitVec.ofInt_natCast,BitVec.ofInt_natCast,BitVec.toNat_or,BitVec.toNat_ofNat,BitVec.toNat_ofNat];have c:i64.bits=64:=rfl;rw[c,Nat.mod_eq_of_lt ae,Nat.mod_eq_of_lt ae];have d:a*256|||b=a*256+b:=by
  have:=Nat.shiftLeft_add_eq_or_of_lt (i:=8) (b:=b) ae a;rw[Nat.shiftLeft_eq]at this;exact this.symm
 rw[d];exact dG (by simp only[ty];omega)
def ib(s:ByteArray)(i:Nat):Nat:=bif decide (i<s.size/2) then bt s (2*i)*256+bt s (2*i+1) else 0
def zc:aR where
 X:=gz
 args x:=[ai x.a]
 cond x:=x.a.size<=1099511627776
 val x _:=ay (ad (x.a.size/2:Nat))
theorem afH(x:gz)(F:ah)(a:zc.cond x)(c:zc.aO x F):(2:Int)≠(0:Int)/\((-9223372036854775808:Int)<=(x.a.size:Int).tdiv (2:Int)/\(x.a.size:Int).tdiv (2:Int)<=(9223372036854775807:Int))/\ar zc x F (ay (ad ((x.a.size:Int).tdiv (2:Int)))) [(0,F)]:=by
 delta ad ay;have e:(x.a.size:Int).tdiv 2=((x.a.size/2:Nat):Int):=by
  rw[Int.tdiv_eq_ediv_of_nonneg ae];omega
 have b:(x.a.size/2:Nat)<=9223372036854775807:=by
  have:x.a.size<=1099511627776:=a;omega
 exact⟨by decide,aK,(),ao,by rw[e];rfl,aA [0]⟩
theorem Vx:aD 95 zc:=fo 6 Tryz.func95 (fun _ _=>[]) [] aY aY bA [] afH
structure K2 where
 s:ByteArray
 i:Nat
def wl:aR where
 X:=K2
 args x:=[ai x.s,ad x.i]
 cond x:=x.s.size<=1099511627776/\x.i<=1099511627776
 val x _:=.returned (.tuple #[.int .i64 (ib x.s x.i),.bool (decide (x.i<x.s.size/2))])
def Gv(aa:List Value)(a:gz->Unit->Prop):=aD 95 zc/\true=true/\∃(z:gz),aa=[ai z.a]/\([]:List ah)=[]/\z.a.size<=1099511627776/\True/\∀(b:Unit),True->a z b
def Kc:=ay (tuple ⟨[ad 0,aj false]⟩)
theorem aa0(x:K2)(F:ah)(g:wl.cond x)(j:wl.aO x F):Gv [ai x.s] (fun b a=>aS ((x.i:Int)>=(↑(b.a.size/2):Int)) (ar wl x F Kc [(0,F)]) (true=true/\bK (2*(x.i:Int))/\((0:Int)<=2*(x.i:Int)/\2*(x.i:Int)<(x.s.size:Int))/\bK (aF x.s (2*(x.i:Int)))/\bK (2*(x.i:Int))/\((-9223372036854775808:Int)<=2*(x.i:Int)+1/\2*(x.i:Int)+1<=(9223372036854775807:Int))/\((0:Int)<=2*(x.i:Int)+1/\2*(x.i:Int)+1<(x.s.size:Int))/\bK (aF x.s (2*(x.i:Int)+1))/\ar wl x F (ay (tuple ⟨[ad (bV (↑(gY (bV (aF x.s (2*(x.i:Int))*2^min (Int.toNat (8:Int)) i64.bits))|||gY (aF x.s (2*(x.i:Int)+1))).toNat:Int)),aj true]⟩)) [(0,F)])):=by
 delta Gv Kc bK ad ai aj gY bV aS ay;obtain⟨s,i⟩:=x;obtain⟨c,f⟩:=g;dsimp only at c f⊢;have fin:∀(u:Int)(b:Bool),u=(ib s i:Int)->b=decide (i<s.size/2)->ar wl ⟨s,i⟩ F (returned (tuple #[int i64 u,bool b])) [(0,F)]:=fun u b e1 e=>
  ⟨(),ao,by subst e1 e;rfl,aA [0]⟩
 refine bO Vx ⟨s,s⟩ c fun _ _=>bo (fun h=>fin _ _ ?_ ?_) (fun h=>?_)
 ·dsimp only at h;unfold ib;rw[bF (show ¬i<s.size/2 by omega)];rfl
 ·dsimp only at h;exact(bF (show ¬i<s.size/2 by omega)).symm
 ·dsimp only at h;have e0:aF s (2*(i:Int))=(bt s (2*i):Int):=by rw[gB,show(2*(i:Int)).toNat=2*i by omega]
  have e1:aF s (2*(i:Int)+1)=(bt s (2*i+1):Int):=by rw[gB,show(2*(i:Int)+1).toNat=2*i+1 by omega]
  have d:=hF s (2*i);have b1:=hF s (2*i+1);rw[e0,e1];refine⟨rfl,aK,aK,aK,aK,aK,aK,aK,fin _ _ ?_ ?_⟩
  ·rw[or8 d b1];unfold ib;rw[bw (show i<s.size/2 by omega)];rfl
  ·exact(bw (show i<s.size/2 by omega)).symm
theorem aaZ:aD 97 wl:=fo 27 Tryz.func97 (fun _ _=>[(1,5,aX zc)]) [] aY aY bA [] aa0
end
section
open Go
structure FV where
 b:Nat
 s:ByteArray
 i:Nat
def u3:aR where
 X:=FV
 args x:=[ad x.i,ag (some ⟨x.b,0,none⟩)]
 cond x:=x.s.size<=1099511627776/\x.i<=1099511627776
 aO x F:=aQ F ⟨x.b,0,none⟩ (.string x.s)
 val x _:=ay (ad (ib x.s x.i))
theorem ahj(x:FV)(F:ah)(d:u3.cond x)(e:u3.aO x F):T2 F ⟨x.b,0,none⟩ (fun c=>aD 97 wl/\true=true/\∃(b:K2),[ai c,ad ↑x.i]=[ai b.s,ad ↑b.i]/\([]:List ah)=[]/\(b.s.size<=1099511627776/\b.i<=1099511627776)/\True/\∀(a:Unit),True->ar u3 x F (ay (ad (↑(ib b.s b.i):Int))) [(0,F)]):=by
 delta T2 ad ai ay;exact⟨x.s,e,aaZ,rfl,⟨x.s,x.i⟩,rfl,rfl,d,ao,fun _ _=>iS⟩
theorem HR:aD 96 u3:=fo 13 Tryz.func96 (fun _ _=>[(1,0,.q [.ex 0 .str]),(1,2,aX wl)]) [] aY aY bA [] ahj
def ei(s:ByteArray):Nat:=s.size/2
def Al(s:ByteArray)(e:Nat):Nat->Nat->Nat
 |0,i=>i
 |f+1,i=>bif decide (i<e)&&tg (ib s i) then Al s e f (i+1) else i
def yS(s:ByteArray)(b:Nat):Nat->Nat->Nat
 |0,e=>e
 |f+1,e=>bif decide (b<e)&&tg (ib s (e-1)) then yS s b f (e-1) else e
def zp(s:ByteArray)(e:Nat):Nat->Nat->List Nat->Option (List Nat)
 |0,_,o=>some o
 |f+1,i,o=>bif decide (i<e) then (bif decide (ib s i>127) then none else zp s e f (i+1) (o++[ib s i])) else some o
def nb(s:ByteArray):Nat:=Al s (ei s) (ei s+1) 0
def qC(s:ByteArray):Nat:=yS s (nb s) (ei s+1) (ei s)
def nz(s:ByteArray):Option (List Nat):=zp s (qC s) (qC s+1) (nb s) []
theorem XA(s:ByteArray)(i:Nat):ib s i<65536:=by
 unfold ib;have a:=hF s (2*i);have b1:=hF s (2*i+1);grind
def zt:aR where
 X:=fe
 args x:=[ai x.s]
 cond x:=x.s.size<=8388608
 val x _:=.returned (.tuple #[.string (cJ ((nz x.s).getD [])),.bool (nz x.s).isSome])
structure gy where
 b:Nat
 i:Nat
 e:Nat
 f:Nat
 o:List Nat
 r:Row
def E1(d:gy)(x:fe):=af d.b [ai x.s] 9
def ah2(x:fe)(F:ah):Nat->Option Inv:=fun
 |0=>some {X:=gy,P:=fun d=>d.i<=ei x.s/\ei x.s<d.i+d.f/\nb x.s=Al x.s (ei x.s) d.f d.i,mu:=fun d=>ei x.s-d.i,lv:=fun d=>[(4,.int .i64 d.i),(5,.int .i64 (ei x.s:Nat)),(6,.func (.func 96) #[] #[.pointer (some ⟨d.b,0,none⟩)])],st:=fun d=>[F,E1 d x]}
 |2=>some {X:=gy,P:=fun d=>d.i=nb x.s/\d.i<=d.e/\d.e<=ei x.s/\d.e<d.f/\qC x.s=yS x.s d.i d.f d.e,mu:=fun d=>d.e,lv:=fun d=>[(4,.int .i64 d.i),(5,.int .i64 d.e),(6,.func (.func 96) #[] #[.pointer (some ⟨d.b,0,none⟩)])],st:=fun d=>[F,E1 d x]}
 |4=>some {X:=gy,P:=fun d=>d.e=qC x.s/\d.i<=d.e/\d.e<=ei x.s/\d.e<d.i+d.f/\bz 5 1 (bX d.o) d.r/\d.r.n<=d.i/\nz x.s=zp x.s d.e d.f d.i d.o,mu:=fun d=>d.e-d.i,lv:=fun d=>[(4,.int .i64 d.i),(5,.int .i64 d.e),(6,.func (.func 96) #[] #[.pointer (some ⟨d.b,0,none⟩)]),(7,.slice d.r.a d.r.n d.r.cap)],st:=fun d=>[F,E1 d x,d.r.A]}
 |_=>none
def ah1(x:fe)(F:ah):Nat->Option Inv:=fun
 |5=>some {X:=gy,P:=fun d=>d.i=nb x.s/\d.i<=ei x.s,mu:=fun _=>0,lv:=fun d=>[(4,.int .i64 d.i),(5,.int .i64 (ei x.s:Nat)),(6,.func (.func 96) #[] #[.pointer (some ⟨d.b,0,none⟩)])],st:=fun d=>[F,E1 d x]}
 |7=>some {X:=gy,P:=fun d=>d.i=nb x.s/\d.e=qC x.s/\d.i<=d.e/\d.e<=ei x.s,mu:=fun _=>0,lv:=fun d=>[(4,.int .i64 d.i),(5,.int .i64 d.e),(6,.func (.func 96) #[] #[.pointer (some ⟨d.b,0,none⟩)])],st:=fun d=>[F,E1 d x]}
 |_=>none
def Jj(a:gy)(x:fe):=a.i<=ei x.s/\ei x.s<a.i+a.f/\nb x.s=Al x.s (ei x.s) a.f a.i
def oj(z:gy):List Value:=[ag (some ⟨z.b,0,none⟩)]
def nA(e1:ah)(z:gy)(e0:fe):=[(0,e1),(1,af z.b [ai e0.s] 9)]
def Di(aa:List Value)(rr:ah)(a:FV->Unit->Prop):=aD 96 u3/\true=true/\∃(z:FV),aa=[ad ↑z.i,ag (some ⟨z.b,0,none⟩)]/\([]:List ah)=[]/\(z.s.size<=1099511627776/\z.i<=1099511627776)/\aQ rr ⟨z.b,0,none⟩ (ai z.s)/\∀(b:Unit),True->a z b
def JE(g:gy):List Value:=[ad ↑g.i,ag (some ⟨g.b,0,none⟩)]
def MG(aa:List Value)(a:CX->Unit->Prop):=aD 98 r7/\true=true/\∃(z:CX),aa=[ad z.u]/\([]:List ah)=[]/\True/\True/\∀(b:Unit),True->a z b
def QN(g:gy):=(-9223372036854775808:Int)<=(g.i:Int)+1/\(g.i:Int)+1<=(9223372036854775807:Int)
def MH(e0:fe)(e1:ah)(v0 v1:Value)(a:St):=∃(z:gy),(z.i=nb e0.s/\z.i<=ei e0.s)/\(v0=ad ↑z.i/\ad (↑(ei e0.s):Int)=ad (↑(ei e0.s):Int)/\v1=func (Fn.func 96) ⟨[]⟩ ⟨oj z⟩/\True)/\aE a (nA e1 z e0)
def EQ(g:gy):=func (Fn.func 96) ⟨[]⟩ ⟨oj g⟩
def I5(a:gy)(x:fe):=a.i=nb x.s/\a.i<=a.e/\a.e<=ei x.s/\a.e<a.f/\qC x.s=yS x.s a.i a.f a.e
def QJ(g:gy):=(-9223372036854775808:Int)<=(g.e:Int)-1/\(g.e:Int)-1<=(9223372036854775807:Int)
def MI(e0:fe)(e1:ah)(v0 v1 v2:Value)(a:St):=∃(z:gy),(z.i=nb e0.s/\z.e=qC e0.s/\z.i<=z.e/\z.e<=ei e0.s)/\(v0=ad ↑z.i/\v1=ad ↑z.e/\v2=func (Fn.func 96) ⟨[]⟩ ⟨oj z⟩/\True)/\aE a (nA e1 z e0)
def Ip(a:gy)(x:fe):=a.e=qC x.s/\a.i<=a.e/\a.e<=ei x.s/\a.e<a.i+a.f/\bz 5 1 (bX a.o) a.r/\a.r.n<=a.i/\nz x.s=zp x.s a.e a.f a.i a.o
def wU(F:ah)(a:gy)(x:fe):=[(0,F),(1,af a.b [ai x.s] 9),(2,a.r.A)]
theorem ah4(x:fe)(F:ah)(N:zt.cond x)(R:zt.aO x F):∀(s:Nat),aw s 0/\Gv [ai x.s] (fun r q=>((∃(a:gy),Jj a x/\(ad 0=ad ↑a.i/\ad (↑(r.a.size/2):Int)=ad (↑(ei x.s):Int)/\func (Fn.func 96) ⟨[]⟩ ⟨[ag (bI s)]⟩=func (Fn.func 96) ⟨[]⟩ ⟨oj a⟩/\True)/\aE [(0,F),(1000,af s [ai x.s] 9)] (nA F a x))/\aT fun(g:gy)_=>Jj g x->aS ((g.i:Int)<(↑(ei x.s):Int)) (Di (JE g) (aH (nA F g x) []) (fun e d=>MG [ad (↑(ib e.s e.i):Int)] (fun c b=>Br (tg c.u) (QN g/\∃(a:gy),Jj a x/\(ad ((g.i:Int)+1)=ad ↑a.i/\ad (↑(ei x.s):Int)=ad (↑(ei x.s):Int)/\func (Fn.func 96) ⟨[]⟩ ⟨oj g⟩=func (Fn.func 96) ⟨[]⟩ ⟨oj a⟩/\True)/\aE (nA F g x) (nA F a x)/\ei x.s-a.i<ei x.s-g.i) (MH x F (ad ↑g.i) (EQ g) (nA F g x))))) (MH x F (ad ↑g.i) (EQ g) (nA F g x)))/\aT fun(p:gy)_=>(p.i=nb x.s/\p.i<=ei x.s)->((∃(a:gy),I5 a x/\(ad ↑p.i=ad ↑a.i/\ad (↑(ei x.s):Int)=ad ↑a.e/\func (Fn.func 96) ⟨[]⟩ ⟨oj p⟩=func (Fn.func 96) ⟨[]⟩ ⟨oj a⟩/\True)/\aE (nA F p x) (nA F a x))/\aT fun(g:gy)_=>I5 g x->aS ((g.i:Int)<(g.e:Int)) (QJ g/\Di [ad ((g.e:Int)-1),ag (some ⟨g.b,0,none⟩)] (aH (nA F g x) []) (fun e d=>MG [ad (↑(ib e.s e.i):Int)] (fun c b=>Br (tg c.u) (QJ g/\∃(a:gy),I5 a x/\(ad ↑g.i=ad ↑a.i/\ad ((g.e:Int)-1)=ad ↑a.e/\func (Fn.func 96) ⟨[]⟩ ⟨oj g⟩=func (Fn.func 96) ⟨[]⟩ ⟨oj a⟩/\True)/\aE (nA F g x) (nA F a x)/\a.e<g.e) (MI x F (ad ↑g.i) (ad ↑g.e) (EQ g) (nA F g x))))) (MI x F (ad ↑g.i) (ad ↑g.e) (EQ g) (nA F g x)))/\aT fun(n:gy)_=>(n.i=nb x.s/\n.e=qC x.s/\n.i<=n.e/\n.e<=ei x.s)->bK ((n.e:Int)-(n.i:Int))/\T4 (a7 Tryz.f83 7 3) [ad 0,ad ((n.e:Int)-(n.i:Int))] (fun l k=>(∃(a:gy),Ip a x/\(ad ↑n.i=ad ↑a.i/\ad ↑n.e=ad ↑a.e/\func (Fn.func 96) ⟨[]⟩ ⟨oj n⟩=func (Fn.func 96) ⟨[]⟩ ⟨oj a⟩/\au (bI k) l.n.toNat l.c.toNat=au a.r.a a.r.n a.r.cap/\True)/\aE [(0,F),(1,af n.b [ai x.s] 9),(8030,af k (iu [ba 0] l.c.toNat) 5)] (wU F a x))/\aT fun(j:gy)_=>Ip j x->aS ((j.i:Int)<(j.e:Int)) (Di (JE j) (aH (wU F j x) []) (fun h g=>aS ((↑(ib h.s h.i):Int)>127) (ar zt x F qP (wU F j x)) (Di (JE j) (aH (wU F j x) []) (fun f e=>(0<=(↑(ib f.s f.i):Int)/\(↑(ib f.s f.i):Int)<=255)/\∀(d:Nat),T3 (a7 Tryz.f83 12 6) [au j.r.a j.r.n j.r.cap,au (bI d) 1 1] [j.r.A] (aH [(0,F),(1,af j.b [ai x.s] 9),(2,j.r.A),(13050,af d [ba (↑(ib f.s f.i):Int)] 5)] [2]) (fun c b=>QN j/\∃(a:gy),Ip a x/\(ad ((j.i:Int)+1)=ad ↑a.i/\ad ↑j.e=ad ↑a.e/\func (Fn.func 96) ⟨[]⟩ ⟨oj j⟩=func (Fn.func 96) ⟨[]⟩ ⟨oj a⟩/\au b.a b.n b.cap=au a.r.a a.r.n a.r.cap/\True)/\aE [(0,F),(1,af j.b [ai x.s] 9),(2,b.A),(13050,af d [ba (↑(ib f.s f.i):Int)] 5)] (wU F a x)/\a.e-a.i<j.e-j.i))))) (T8 (a7 Tryz.f83 13 1) [au j.r.a j.r.n j.r.cap] (aH (wU F j x) []) (fun b a=>ar zt x F (ay (tuple ⟨[ai (cJ b.l),aj true]⟩)) (wU F j x))))):=by
 delta Gv Jj bI oj nA Di JE MG QN MH EQ I5 QJ MI T4 Ip wU qP k7 T3 T8 aH aw bK ad ba ai aj ag au af aS ay aT;obtain⟨s⟩:=x;have hs:s.size<=8388608:=N;dsimp only;have Q:ei s=s.size/2:=rfl;intro b;refine⟨al,Vx,rfl,⟨s,s⟩,rfl,rfl,by grind,ao,fun _ _=>⟨⟨⟨⟨b,0,0,ei s+1,[],dL⟩,⟨dq _,by simp[*],rfl⟩,aV,aA [0,1000]⟩,?_⟩,?_⟩⟩
 ·rintro⟨b,i,_,f,_,_⟩ G ⟨m,t,v⟩;dsimp only at m t v⊢;obtain⟨z,rfl⟩:∃z,f=z+1:=⟨f-1,ae⟩;have J:=XA s i;have done:nb s=i->∃x:gy,(x.i=nb s/\x.i<=ei s)/\(int .i64 (i:Int)= .int .i64 (x.i:Int)/\int .i64 (ei s:Int)= .int .i64 (ei s:Int)/\func (.func 96) #[] #[.pointer (some ⟨b,0,none⟩)]=func (.func 96) #[] #[.pointer (some ⟨x.b,0,none⟩)]/\True)/\aE (bC [F,.cells b [.string s] 9]) (bC [F,.cells x.b [.string s] 9]):=fun e=>
   ⟨⟨b,i,0,0,[],dL⟩,⟨e.symm,m⟩,aV,aE.refl _⟩
  rw[Al]at v;refine bo (fun E=>bs HR ⟨b,s,i⟩ ⟨by grind,by grind⟩ (aQ.rest (j:=1) aL (aQ.cells rfl)) fun _ _=>l6 TM ⟨ib s i⟩ fun _ _=>aG (fun w=>?_) (fun w=>done ?_)) (fun D=>done ?_)
  ·have w:tg (ib s i)=true:=w;rw[bw (show i<ei s by omega),w]at v;exact⟨aK,⟨b,i+1,0,z,[],dL⟩,⟨by grind,by grind,v⟩,aV,aA [0,1],by grind⟩
  all_goals grind
 clear b;rintro⟨b,i,_,_,_,_⟩ G ⟨m,t⟩;dsimp only at m t⊢;refine⟨⟨⟨⟨b,i,ei s,ei s+1,[],dL⟩,⟨m,t,bZ _,gZ _,by dsimp only;rw[m];rfl⟩,aV,aA [0,1]⟩,?_⟩,?_⟩
 ·clear m t;rintro⟨b,i,e,f,_,_⟩ G ⟨m,t,v,C,A⟩;dsimp only at m t v C A⊢;obtain⟨z,rfl⟩:∃z,f=z+1:=⟨f-1,ae⟩;have J:=XA s (e-1);have done:qC s=e->∃x:gy,(x.i=nb s/\x.e=qC s/\x.i<=x.e/\x.e<=ei s)/\(int .i64 (i:Int)= .int .i64 (x.i:Int)/\int .i64 (e:Int)= .int .i64 (x.e:Int)/\func (.func 96) #[] #[.pointer (some ⟨b,0,none⟩)]=func (.func 96) #[] #[.pointer (some ⟨x.b,0,none⟩)]/\True)/\aE (bC [F,.cells b [.string s] 9]) (bC [F,.cells x.b [.string s] 9]):=fun K=>
   ⟨⟨b,i,e,0,[],dL⟩,⟨m,K.symm,t,v⟩,aV,aE.refl _⟩
  rw[yS]at A;refine bo (fun E=>⟨aK,HR,rfl,⟨b,s,e-1⟩,by rw[show((e-1:Nat):Int)=(e:Int)-1 by omega],rfl,⟨by grind,by grind⟩,aQ.rest (j:=1) aL (aQ.cells rfl),fun _ _=>l6 TM ⟨ib s (e-1)⟩ fun _ _=>aG (fun w=>?_) (fun w=>done ?_)⟩) (fun D=>done ?_)
  ·have w:tg (ib s (e-1))=true:=w;rw[bw (show i<e by omega),w]at A;exact⟨aK,⟨b,i,e-1,z,[],dL⟩,⟨m,by grind,by grind,by grind,A⟩,⟨rfl,by rw[show((e-1:Nat):Int)=(e:Int)-1 by omega],rfl,ao⟩,aA [0,1],by grind⟩
  all_goals grind
 clear m t;rintro⟨b,i,e,_,_,_⟩ G ⟨m,t,v,C⟩;dsimp only at m t v C⊢;have e0:((e:Int)-(i:Int))=((e-i:Nat):Int):=ae;rw[e0];refine⟨aK,DW (P:=Tryz.prog) [.int .u8 0] 1 rfl rfl rfl rfl rfl rfl aL rfl,rfl,⟨0,(e-i:Nat)⟩,rfl,rfl,⟨cE 0,by simp[*],by grind,by grind⟩,ao,fun H _=>⟨⟨⟨b,i,e,e+1,[],⟨some ⟨H,0,none⟩,0,((e-i:Nat):Int).toNat,.cells H (iu [.int .u8 0] ((e-i:Nat):Int).toNat) 5⟩⟩,⟨t,v,C,by grind,.fU H 0 _ (iu [.int .u8 0] _) rfl (by rw[dJ,SH];simp[bX]) (dq _),dq _,?_⟩,aV,aA [0,1,8030]⟩,?_⟩⟩
 ·dsimp only;rw[m,t];rfl
 clear m t v C e0;rintro⟨b,i,e,f,o,r⟩ G ⟨m,t,v,C,A,L,B⟩;dsimp only at m t v C A L B⊢;obtain⟨z,rfl⟩:∃z,f=z+1:=⟨f-1,ae⟩;rw[zp]at B;have I:∀{S:St}{bG:List Nat},(1:Nat)∉bG->gt S 1= .cells b [.string s] 9->aQ (.du (rest S bG)) ⟨b,0,none⟩ (.string s):=fun h e=>aQ.rest h (by rw[e];exact aQ.cells rfl);refine bo (fun E=>?_) (fun D=>?_)
 ·rw[bw (show i<e by omega),aU]at B;refine bs HR ⟨b,s,i⟩ ⟨by grind,by grind⟩ (I aL rfl) fun _ _=>bo (fun w=>?_) (fun w=>?_)
  ·dsimp only at w;rw[bw (show ib s i>127 by omega),aU]at B;exact⟨(),ao,by show returned _=returned (.tuple #[.string (cJ ((nz s).getD [])),.bool (nz s).isSome]);rw[B];rfl,aA [0]⟩
  ·dsimp only at w;rw[bF (show ¬ib s i>127 by omega),aN]at B;refine bs HR ⟨b,s,i⟩ ⟨by grind,by grind⟩ (I aL rfl) fun _ _=>⟨⟨ae,by grind⟩,fun lb=>bs (jN (P:=Tryz.prog) 1 1 rfl rfl rfl rfl rfl rfl rfl (by decide)) ⟨r,bX o,some ⟨lb,0,none⟩,1,1,bX [ib s i]⟩ ⟨A,rfl,fun _ h=>Sz h,by grind,by grind,aL⟩ (?_) (?_)⟩
   ·intro a M;cases M;exact c_.rest (j:=13050) aL (c_.cells (fun j u O=>by rw[hU];exact O))
   ·rintro y ⟨y1,y2,-⟩;dsimp only at y1 y2;exact⟨aK,⟨b,i+1,e,z,o++[ib s i],y⟩,⟨m,by grind,v,by grind,by rw[KR];exact y1,by simp[*],B⟩,aV,aA [0,1,2],by grind⟩
 ·rw[bF (show ¬i<e by omega),aN]at B;exact bs (GN rfl rfl rfl rfl) ⟨r.a,r.n,r.cap,o⟩ A.src (Sa 2 aL rfl A) fun _ _=>⟨(),ao,by show returned _=returned (.tuple #[.string (cJ ((nz s).getD [])),.bool (nz s).isSome]);simp[*],aA [0]⟩
theorem ah3:aD 83 zt:=fo 56 Tryz.func83 (fun _ _=>[(0,0,.n 1000),(1,0,aP 1000),(1,1,aX zc),(3,6,aX u3),(3,7,aX r7),(5,7,aX u3),(5,8,aX r7),(7,3,.o (u0 5 [.int .u8 0] 1) [] [8030]),(10,2,aX u3),(12,3,aX u3),(12,5,.n 13050),(12,6,.o (dm 5 1 1) [2] [2]),(13,1,.o yJ [] [])]) [] ah2 ah1 bA [] ah4
end
section
open Go
def wK:Nat:=9221120237041090561
def zf:aR where
 X:=Unit
 args _:=[]
 val _ _:=ay (float f64 9221120237041090561)
def zH:=ay (float f64 9221120237041090561)
theorem agz(x:PUnit)(F:ah)(a:zf.cond x)(b:zf.aO x F):ar zf x F zH [(0,F)]:=by
 delta zH ay;exact iS
theorem VW:aD 84 zf:=fo 2 Tryz.func84 (fun _ _=>[(1,0,aW)]) [] aY aY bA [] agz
def D5(pf:ByteArray->Nat)(K:bR):aR where
 X:=fe
 Y:=Value
 args x:=[ai x.s,ad 64]
 cond x:=x.s.size<=8388610
 aO _ F:=K.rd F
 val x y:=.returned (.tuple #[.float .f64 (pf x.s),y])
 eT _ _ _ hs h:=K.mono h hs
def Hi:ByteArray:=⟨#[48,49,50,51,52,53,54,55,56,57,97,98,99,100,101,102,65,66,67,68,69,70]⟩
def HQ:ByteArray:=⟨#[112,48]⟩
def tz:ByteArray:=⟨#[73,110,102,105,110,105,116,121]⟩
def Hq(s:ByteArray):Bool:=decide (s.size>2)&&(bt s 0==48&&((bt s 1|||32)==120&&bE (fq s 2) (da Hi) 0==s.size-2))
def mE(s:ByteArray):ByteArray:=bif bt s 0==43||bt s 0==45 then fq s 1 else s
def Bu(pf:ByteArray->Nat)(s:ByteArray):Nat:=
 bif s.size==0 then 0
 else bif Hq s then pf (s++HQ)
 else bif !(bD (mE s) tz)&& !iQ (mE s) then wK
 else pf s
def kX(pf:ByteArray->Nat)(w:ByteArray):Nat:=match nz w with
 |none=>wK
 |some l=>Bu pf (cJ l)
theorem VD(a b:ByteArray):(a.toList==b.toList)=bD a b:=by
 have e:bD a b=(a.data==b.data):=by unfold bD;cases a;cases b;rfl
 rw[e,Bool.eq_iff_iff,beq_iff_eq,beq_iff_eq,ByteArray.toList_eq,ByteArray.toList_eq];simp[*]
theorem ahi(s:ByteArray)(e:Nat):∀(f i:Nat)(o l:List Nat),zp s e f i o=some l->l.length+i<=o.length+max e i:=by
 intro f
 induction f with
 |zero=>intro i o l h;cases h;omega
 |succ f c=>
  intro i o l h;rw[zp]at h;by_cases b:i<e
  ·rw[bw b,aU]at h;cases a:decide (ib s i>127)with
   |true=>rw[a]at h;cases h
   |false=>
    rw[a,aN]at h;have:=c _ _ _ h;grind
  grind
theorem acy(s:ByteArray)(b:Nat):∀(f e:Nat),yS s b f e<=e:=by
 intro f
 induction f with
 |zero=>intro e;exact bZ _
 |succ f a=>
  intro e;rw[yS];grind
theorem akV(s:ByteArray)(e:Nat):∀(f i:Nat),i<=e->Al s e f i<=e:=by
 intro f
 induction f with
 |zero=>intro i h;exact h
 |succ f a=>
  intro i h;rw[Al];grind
theorem ahY{s:ByteArray}{l:List Nat}(h:nz s=some l):(cJ l).size<=s.size:=by
 have a:=ahi _ _ _ _ _ _ h;have b:qC s<=ei s:=acy _ _ _ _;have c:nb s<=ei s:=akV _ _ _ _ (dq _);have d:ei s=s.size/2:=rfl;rw[r8];grind
structure rO where
 K:bR
 pf:ByteArray->Nat
 w:ByteArray
def u2:aR where
 X:=rO
 args x:=[ai x.w]
 cond x:=x.w.size<=8388608/\aD 86 (D5 x.pf x.K)
 aO x F:=x.K.rd F
 val x _:=ay (float f64 (kX x.pf x.w))
 eT x _ _ hs h:=x.K.mono h hs
structure lT where
 t:ByteArray
 u:ByteArray
def agW(x:rO)(F:ah):Nat->Option Inv:=fun
 |4=>some {X:=lT,P:=fun d=>d.t.size<=8388608/\kX x.pf x.w=Bu x.pf d.t,mu:=fun _=>0,lv:=fun d=>[(3,ai d.t)],st:=fun _=>[F]}
 |9=>some {X:=lT,P:=fun d=>d.t.size<=8388608/\0<d.t.size/\kX x.pf x.w=(bif !(bD (mE d.t) tz)&& !iQ (mE d.t) then wK else x.pf d.t),mu:=fun _=>0,lv:=fun d=>[(3,ai d.t)],st:=fun _=>[F]}
 |12=>some {X:=lT,P:=fun d=>d.t.size<=8388608/\d.u=mE d.t/\d.u.size<=d.t.size/\kX x.pf x.w=(bif !(bD (mE d.t) tz)&& !iQ (mE d.t) then wK else x.pf d.t),mu:=fun _=>0,lv:=fun d=>[(3,ai d.t),(7,ai d.u)],st:=fun _=>[F]}
 |14=>some {X:=lT,P:=fun d=>d.t.size<=8388608/\kX x.pf x.w=x.pf d.t,mu:=fun _=>0,lv:=fun d=>[(3,ai d.t)],st:=fun _=>[F]}
 |_=>none
def agX(x:rO)(a:ah):List (Nat×Nat×OH):=[(1,1,aX zt),(3,0,aX zf),(6,17,aX rf),(7,2,aX (D5 x.pf x.K)),(12,4,aX pI),(13,0,aX zf),(14,1,aX (D5 x.pf x.K))]
def MJ(a:Unit->Unit->Prop):=aD 84 zf/\true=true/\∃(z:Unit),([]:List Value)=[]/\([]:List ah)=[]/\True/\True/\∀(b:Unit),True->a z b
def JP(j:lT):=(0:Int)<=(0:Int)/\0<(j.t.size:Int)
def MK(e0:rO)(aa:List Value)(rr:ah)(a:fe->Value->Prop):=aD 86 (D5 e0.pf e0.K)/\true=true/\∃(z:fe),aa=[ai z.s,ad 64]/\([]:List ah)=[]/\z.s.size<=8388610/\e0.K.3 rr/\∀(b:Value),True->a z b
def Qh(z:lT)(e0:rO):=z.t.size<=8388608/\0<z.t.size/\(kX e0.pf e0.w=bif !bD (mE z.t) tz&& !iQ (mE z.t) then wK else e0.pf z.t)
def Dj(e0:rO)(e1:ah)(v0:Value)(a:St):=∃(z:lT),Qh z e0/\(v0=ai z.t/\True)/\aE a [(0,e1)]
def PO(z:lT)(e0:rO):=z.t.size<=8388608/\z.u=mE z.t/\z.u.size<=z.t.size/\(kX e0.pf e0.w=bif !bD (mE z.t) tz&& !iQ (mE z.t) then wK else e0.pf z.t)
def ML(e0:rO)(e1:ah)(v0 v1:Value)(a:St):=∃(z:lT),PO z e0/\(v0=ai z.t/\v1=ai z.u/\True)/\aE a [(0,e1)]
def Pv(h:lT)(x:rO)(F:ah):=((0:Int)<=(1:Int)/\1<=(h.t.size:Int)/\(h.t.size:Int)<=(h.t.size:Int))/\ML x F (ai h.t) (ai (h.t.extract (Int.toNat (1:Int)) (h.t.size:Int).toNat)) [(0,F)]
def MM(e0:rO)(e1:ah)(v0:Value)(a:St):=∃(z:lT),(z.t.size<=8388608/\kX e0.pf e0.w=e0.pf z.t)/\(v0=ai z.t/\True)/\aE a [(0,e1)]
theorem agZ(x:rO)(F:ah)(L:u2.cond x)(z:u2.aO x F):aD 83 zt/\true=true/\∃(l:fe),[ai x.w]=[ai l.s]/\([]:List ah)=[]/\l.s.size<=8388608/\True/\∀(k:Unit),True->Br (!(nz l.s).isSome) (MJ (fun b a=>ar u2 x F zH [(0,F)])) (∃(a:lT),(a.t.size<=8388608/\kX x.pf x.w=Bu x.pf a.t)/\(ai (cJ ((nz l.s).getD []))=ai a.t/\True)/\aE [(0,F)] [(0,F)])/\aT fun(j:lT)_=>(j.t.size<=8388608/\kX x.pf x.w=Bu x.pf j.t)->Br (j.t.toList==qY.toList) (ar u2 x F (ay (float f64 0)) [(0,F)]) (aS ((j.t.size:Int)>2) (JP j/\Br (aF j.t (0:Int)==(48:Int)) (((0:Int)<=(1:Int)/\1<(j.t.size:Int))/\Br (u8.wrap (↑(BitVec.ofInt u8.bits (aF j.t (1:Int))|||BitVec.ofInt u8.bits (32:Int)).toNat:Int)==120) (((0:Int)<=(2:Int)/\2<=(j.t.size:Int)/\(j.t.size:Int)<=(j.t.size:Int))/\AO [ai (j.t.extract (Int.toNat (2:Int)) (j.t.size:Int).toNat),ai ⟨#[48,49,50,51,52,53,54,55,56,57,97,98,99,100,101,102,65,66,67,68,69,70]⟩] (fun d c=>((-9223372036854775808:Int)<=(j.t.size:Int)-2/\(j.t.size:Int)-2<=(9223372036854775807:Int))/\Br ((↑(bE d.a (da d.b) 0):Int)==(j.t.size:Int)-2) (j.t.size+2<=9223372036854775807/\MK x [ai (j.t++(ByteArray.mk #[112,48])),ad 64] (cP F) (fun b a=>ar u2 x F (ay (float f64 (x.pf b.s))) [(0,F)])) (Dj x F (ai j.t) [(0,F)]))) (Dj x F (ai j.t) [(0,F)])) (Dj x F (ai j.t) [(0,F)])) (Dj x F (ai j.t) [(0,F)])/\aT fun(h:lT)_=>Qh h x->(JP h/\Br (aF h.t (0:Int)==(43:Int)) (Pv h x F) (JP h/\Br (aF h.t (0:Int)==(45:Int)) (Pv h x F) (ML x F (ai h.t) (ai h.t) [(0,F)])))/\aT fun(f:lT)_=>PO f x->Br (!f.u.toList==(ByteArray.mk #[73,110,102,105,110,105,116,121]).toList) (aD 87 pI/\true=true/\∃(d:gz),[ai f.u]=[ai d.a]/\([]:List ah)=[]/\d.a.size<=1099511627776/\True/\∀(c:Unit),True->Br (!iQ d.a) (MJ (fun b a=>ar u2 x F zH [(0,F)])) (MM x F (ai f.t) [(0,F)])) (MM x F (ai f.t) [(0,F)])/\aT fun(d:lT)_=>(d.t.size<=8388608/\kX x.pf x.w=x.pf d.t)->MK x [ai d.t,ad 64] (cP F) (fun b a=>ar u2 x F (ay (float f64 (x.pf b.s))) [(0,F)])):=by
 delta MJ zH qY JP AO MK cP Qh Dj PO ML Pv MM aH ad ai aS ay aT;obtain⟨K,pf,w⟩:=x;obtain⟨I,s⟩:=L;replace z:K.rd F:=z;dsimp only at I s⊢;have fin:∀n,kX pf w=n->ar u2 ⟨K,pf,w⟩ F (returned (float .f64 n)) [(0,F)]:=fun n e=>
  ⟨(),ao,by show returned _=returned (.float .f64 (kX pf w));rw[e],aA [0]⟩
 refine bO ah3 ⟨w⟩ I fun _ _=>⟨aG (fun h=>?_) (fun h=>?_),?_⟩
 ·have hn:nz w=none:=by
   cases hp:nz w with
   |none=>rfl
   |some l=>rw[hp]at h;cases h
  exact l6 VW () fun _ _=>fin _ (by unfold kX;rw[hn];rfl)
 ·obtain⟨l,hp⟩:∃l,nz w=some l:=by
   cases hp:nz w with
   |none=>rw[hp]at h;cases h
   |some l=>exact⟨l,rfl⟩
  have:=ahY hp;exact⟨⟨cJ l,⟨#[]⟩⟩,⟨by grind,by unfold kX;rw[hp]⟩,⟨by rw[hp];rfl,ao⟩,aA [0]⟩
 rintro⟨t,_⟩ G ⟨m,o⟩;dsimp only at m o⊢;refine aG (fun M=>fin _ ?_) (fun D=>⟨?_,?_⟩)
 ·rw[KL]at M;rw[o];unfold Bu;simp[*]
 ·rw[KL]at D;have E:0<t.size:=by
   grind
  have r:kX pf w=bif Hq t then pf (t++HQ) else bif !(bD (mE t) tz)&& !iQ (mE t) then wK else pf t:=by
   rw[o];unfold Bu;simp[*]
  have done:Hq t=false->∃i:lT,(i.t.size<=8388608/\0<i.t.size/\kX pf w=bif !bD (mE i.t) tz&& !iQ (mE i.t) then wK else pf i.t)/\(string t=string i.t/\True)/\aE (bC [F]) (bC [F]):=fun e=>
   ⟨⟨t,⟨#[]⟩⟩,⟨m,E,by grind⟩,⟨rfl,ao⟩,aE.refl _⟩
  have hx:Hq t=(decide (t.size>2)&&(bt t 0==48&&((bt t 1|||32)==120&&bE (fq t 2) (da Hi) 0==t.size-2))):=rfl;have H:=yP t 2;have y:t.extract (Int.toNat 2) (t.size:Int).toNat=fq t 2:=by rfl
  refine bo (fun N=>⟨⟨cE _,ae⟩,aG (fun g=>⟨⟨by decide,ae⟩,aG (fun p=>?_) (fun p=>done ?_)⟩) (fun g=>done ?_)⟩) (fun N=>done ?_)
  ·rw[gB,Int.toNat_zero]at g;rw[gB,show(1:Int).toNat=1 from rfl,zn (hF t 1)]at p;have g:(bt t 0==48)=true:=(Bq _ _).trans g;have p:((bt t 1|||32)==120)=true:=(Bq _ _).trans p;rw[y];refine⟨⟨by decide,ae,cE _⟩,Kq,rfl,⟨fq t 2,Hi⟩,rfl,rfl,by grind,ao,fun _ _=>⟨aK,aG (fun C=>?_) (fun C=>done ?_)⟩⟩
   ·have C:(bE (fq t 2) (da Hi) 0==t.size-2)=true:=by
     grind
    have O:(t++HQ).size=t.size+2:=by rw[kQ];rfl
    rw[hx,bw (show t.size>2 by omega),g,p,C]at r;exact⟨ae,s,rfl,⟨t++HQ⟩,rfl,rfl,by simp[*],K.rest (j:=0) aL z,fun _ _=>fin _ r⟩
   grind
  ·rw[gB,show(1:Int).toNat=1 from rfl,zn (hF t 1)]at p;grind
  ·rw[gB,Int.toNat_zero]at g;grind
  grind
 clear o;rintro⟨t,_⟩ G ⟨m,o,r⟩;dsimp only at m o r⊢;have B:∀c:Nat,((bt t 0:Int)==(c:Int))=(bt t 0==c):=fun c=>(Bq _ _).symm;have H:=yP t 1;have y:t.extract (Int.toNat 1) (t.size:Int).toNat=fq t 1:=by rfl
 have q:mE t=bif bt t 0==43||bt t 0==45 then fq t 1 else t:=rfl
 rw[y];refine⟨⟨⟨cE _,ae⟩,?_⟩,?_⟩
 ·refine lj (A:=(bt t 0==43||bt t 0==45)=true) (fun k=>aG (fun h=>k ?_) (fun h=>⟨⟨cE _,ae⟩,aG (fun g=>k ?_) (fun g=>?_)⟩)) (fun J=>?_)
  ·rw[gB,Int.toNat_zero]at h;grind
  ·rw[gB,Int.toNat_zero]at g;grind
  ·rw[gB,Int.toNat_zero]at h g;rw[show(bt t 0==43)=false from(B 43).symm.trans h,show(bt t 0==45)=false from(B 45).symm.trans g,Bool.or_self,aN]at q;exact⟨⟨t,t⟩,⟨m,q.symm,bZ _,r⟩,aV,aE.refl _⟩
  ·rw[J,aU]at q;exact⟨⟨by decide,ae,cE _⟩,⟨t,fq t 1⟩,⟨m,q.symm,by simp[*],r⟩,aV,aE.refl _⟩
 clear q y H B r o m;rintro⟨t,u⟩ G ⟨m,o,r,g⟩;dsimp only at m o r g⊢;rw[<-o]at g;have go:(!(bD u tz)&& !iQ u)=false->∃v:lT,(v.t.size<=8388608/\kX pf w=pf v.t)/\(string t=string v.t/\True)/\aE (bC [F]) (bC [F]):=fun e=>
  ⟨⟨t,t⟩,⟨m,by grind⟩,⟨rfl,ao⟩,aE.refl _⟩
 refine⟨aG (fun h=>?_) (fun h=>go ?_),?_⟩
 ·rw[VD]at h;have h:(!bD u tz)=true:=h;refine bO acg ⟨u,u⟩ (by grind) fun _ _=>aG (fun p=>?_) (fun p=>go ?_)
  ·have p:(!iQ u)=true:=p;exact l6 VW () fun _ _=>fin _ (by rw[g,h,p];rfl)
  grind
 ·rw[VD]at h;have h:(!bD u tz)=false:=h;grind
 ·rintro⟨t,_⟩ G ⟨m,o⟩;exact bs s ⟨t⟩ (hO m (by decide)) (K.rest (j:=0) aL z) fun _ _=>fin _ o
theorem agY:aD 72 u2:=fo 75 Tryz.func72 agX [] aY agW bA [] agZ
end
section
open Go
structure sR where
 v:Nat
 n:Nat
 e:Nat
structure rG where
 K:bR
 av:ByteArray->sR
 s:ByteArray
def wi(av:ByteArray->sR)(K:bR):aR where
 X:=fe
 Y:=Unit ⊕ Unit
 args x:=[ai x.s]
 cond x:=x.s.size<=8388610
 aO _ F:=K.rd F
 b_ x y:=match y with
  | .inl _=>(av x.s).e=0
  | .inr _=>(av x.s).e≠0/\(av x.s).e<=2
 val x y:=match y with
  | .inl _=>.returned (.tuple #[.float .f64 (av x.s).v,.int .i64 (av x.s).n,.nilIface])
  | .inr _=>.returned (.tuple #[.float .f64 (av x.s).v,.int .i64 (av x.s).n,.iface 128 (.int .i64 (av x.s).e)])
 eT _ _ _ hs h:=K.mono h hs
 sum:=some (ia Unit Unit)
def zr:aR where
 X:=rG
 Y:=Unit ⊕ Unit
 args x:=[ai x.s,ad 64]
 cond x:=x.s.size<=8388610/\aD 117 (wi x.av x.K)
 aO x F:=x.K.rd F
 b_ x y:=match y with
  | .inl _=>(x.av x.s).e=0
  | .inr _=>(x.av x.s).e≠0/\(x.av x.s).e<=2
 val x y:=match y with
  | .inl _=>.returned (.tuple #[.float .f64 (x.av x.s).v,.int .i64 (x.av x.s).n,.nilIface])
  | .inr _=>.returned (.tuple #[.float .f64 (x.av x.s).v,.int .i64 (x.av x.s).n,.iface 128 (.int .i64 (x.av x.s).e)])
 eT x _ _ hs h:=x.K.mono h hs
 sum:=some (ia Unit Unit)
def ahQ(x:rG)(a:ah):List (Nat×Nat×OH):=[(4,1,aX (wi x.av x.K))]
theorem ahS(x:rG)(F:ah)(f:zr.cond x)(c:zr.aO x F):aD 117 (wi x.av x.K)/\true=true/\∃(b:fe),[ai x.s]=[ai b.s]/\([]:List ah)=[]/\b.s.size<=8388610/\x.K.3 (cP F)/\(∀(a:Unit),(x.av b.s).e=0->ar zr x F (ay (tuple ⟨[float f64 (x.av b.s).v,ad (↑(x.av b.s).n:Int),nilIface]⟩)) [(0,F)])/\∀(a:Unit),((x.av b.s).e≠0/\(x.av b.s).e<=2)->ar zr x F (ay (tuple ⟨[float f64 (x.av b.s).v,ad (↑(x.av b.s).n:Int),fu 128 (ad (↑(x.av b.s).e:Int))]⟩)) [(0,F)]:=by
 delta cP aH ad ai fu ay;obtain⟨K,av,s⟩:=x;obtain⟨d,e⟩:=f;replace c:K.rd F:=c;exact bs e ⟨s⟩ d (K.rest (j:=0) aL c) ⟨fun _ q=>⟨.inl (),q,rfl,aA [0]⟩,fun _ q=>⟨.inr (),q,rfl,aA [0]⟩⟩
theorem ahR:aD 107 zr:=fo 27 Tryz.func107 ahQ [] aY aY bA [] ahS
def hW(d:sR)(n:Nat):Nat×Nat:=bif d.n==n then (d.v,d.e) else (0,2)
def uW:aR where
 X:=rG
 Y:=Unit ⊕ Unit
 args x:=[ai x.s,ad 64]
 cond x:=x.s.size<=8388610/\aD 117 (wi x.av x.K)
 aO x F:=x.K.rd F
 b_ x y:=match y with
  | .inl _=>(hW (x.av x.s) x.s.size).2=0
  | .inr _=>(hW (x.av x.s) x.s.size).2≠0/\(hW (x.av x.s) x.s.size).2<=2
 val x y:=match y with
  | .inl _=>.returned (.tuple #[.float .f64 (hW (x.av x.s) x.s.size).1,.nilIface])
  | .inr _=>.returned (.tuple #[.float .f64 (hW (x.av x.s) x.s.size).1,.iface 128 (.int .i64 (hW (x.av x.s) x.s.size).2)])
 eT x _ _ hs h:=x.K.mono h hs
 sum:=some (ia Unit Unit)
def Kd(b:rG):=b.s.size<=8388610/\aD 117 (wi b.av b.K)
def Q7(x:rG)(F:ah):=ar uW x F (ay (tuple ⟨[float f64 0,fu 128 (ad 2)]⟩)) [(0,F)]
theorem aeY(x:rG)(F:ah)(i:uW.cond x)(d:uW.aO x F):aD 107 zr/\true=true/\∃(b:rG),[ai x.s,ad 64]=[ai b.s,ad 64]/\([]:List ah)=[]/\Kd b/\b.K.3 (cP F)/\(∀(a:Unit),(b.av b.s).e=0->Br ((↑(b.av b.s).n:Int)!=(x.s.size:Int)) (Q7 x F) (ar uW x F (ay (tuple ⟨[float f64 (b.av b.s).v,nilIface]⟩)) [(0,F)]))/\∀(a:Unit),((b.av b.s).e≠0/\(b.av b.s).e<=2)->Br ((↑(b.av b.s).n:Int)!=(x.s.size:Int)) (Q7 x F) (ar uW x F (ay (tuple ⟨[float f64 (b.av b.s).v,fu 128 (ad (↑(b.av b.s).e:Int))]⟩)) [(0,F)]):=by
 delta Kd cP Q7 aH ad ai fu ay;obtain⟨K,av,s⟩:=x;obtain⟨f,g⟩:=i;replace d:K.rd F:=d;have c:((av s).n==s.size)=(((av s).n:Int)==(s.size:Int)):=Bq _ _;have i0:((av s).n==s.size)=true->hW (av s) s.size=((av s).v,(av s).e):=fun e=>by unfold hW;rw[e];rfl
 have i1:((av s).n==s.size)=false->hW (av s) s.size=(0,2):=fun e=>by unfold hW;rw[e];rfl
 have dN:((av s).n==s.size)=false->ar uW ⟨K,av,s⟩ F (returned (tuple #[float .f64 0,iface 128 (int .i64 2)])) [(0,F)]:=fun e=>
  ⟨.inr (),by show(hW (av s) s.size).2≠0/\(hW (av s) s.size).2<=2;rw[i1 e];exact⟨by decide,bZ _⟩,by show _=returned (.tuple #[.float .f64 (hW (av s) s.size).1,.iface _ (.int .i64 (hW (av s) s.size).2)]);rw[i1 e];rfl,aA [0]⟩
 refine bs ahR ⟨K,av,s⟩ ⟨f,g⟩ (K.rest (j:=0) aL d) ⟨fun _ q=>aG (fun h=>dN ?_) (fun h=>?_),fun _ q=>aG (fun h=>dN ?_) (fun h=>?_)⟩
 ·have h:(((av s).n:Int)!=(s.size:Int))=true:=h;rw[c];simpa using h
 ·have h:(((av s).n:Int)!=(s.size:Int))=false:=h;have e:((av s).n==s.size)=true:=by rw[c];simpa using h
  have q:(av s).e=0:=q;exact⟨.inl (),by show(hW (av s) s.size).2=0;rw[i0 e];exact q,by show _=returned (.tuple #[.float .f64 (hW (av s) s.size).1,.nilIface]);rw[i0 e],aA [0]⟩
 ·have h:(((av s).n:Int)!=(s.size:Int))=true:=h;rw[c];simpa using h
 ·have h:(((av s).n:Int)!=(s.size:Int))=false:=h;have e:((av s).n==s.size)=true:=by rw[c];simpa using h
  have q:(av s).e≠0/\(av s).e<=2:=q;exact⟨.inr (),by show(hW (av s) s.size).2≠0/\(hW (av s) s.size).2<=2;rw[i0 e];exact q,by show _=returned (.tuple #[.float .f64 (hW (av s) s.size).1,.iface _ (.int .i64 (hW (av s) s.size).2)]);rw[i0 e],aA [0]⟩
theorem aeX:aD 101 uW:=fo 23 Tryz.func101 (fun _ _=>[(1,2,aX zr)]) [] aY aY bA [] aeY
def sS(F:ah):Prop:=(∃t a,aQ F ⟨7,0,none⟩ (.iface t (.pointer (some a))))/\(∃t a,aQ F ⟨8,0,none⟩ (.iface t (.pointer (some a))))
theorem sS.sub{A B:ah}(h:sS A)(hs:Sub A B):sS B:=⟨let ⟨t,a,q⟩:=h.1;⟨t,a,q.sub hs⟩,let ⟨t,a,q⟩:=h.2;⟨t,a,q.sub hs⟩⟩
structure Tw where
 f:ByteArray
 s:ByteArray
 e:Nat
def FB:aR where
 X:=Tw
 Y:=Value
 args x:=[ai x.f,ai x.s,ad 0,ad 64,fu 128 (ad x.e)]
 cond x:=x.s.size<=8388610/\x.e≠0/\x.e<=2
 aO _ F:=sS F
 val _ y:=ay y
def Fp:aR where
 X:=rG
 Y:=Value
 args x:=[ai x.s,ad 64]
 cond x:=x.s.size<=8388610/\aD 117 (wi x.av x.K)/\aD 102 FB/\(∀F,x.K.rd F->sS F)
 aO x F:=x.K.rd F
 val x y:=.returned (.tuple #[.float .f64 (hW (x.av x.s) x.s.size).1,y])
 eT x _ _ hs h:=x.K.mono h hs
theorem ake(x:rG)(F:ah)(l:Fp.cond x)(f:Fp.aO x F):aD 101 uW/\true=true/\∃(d:rG),[ai x.s,ad 64]=[ai d.s,ad 64]/\([]:List ah)=[]/\Kd d/\d.K.3 (cP F)/\(∀(a:Unit),(hW (d.av d.s) d.s.size).snd=0->ar Fp x F (ay (tuple ⟨[float f64 (hW (d.av d.s) d.s.size).fst,nilIface]⟩)) [(0,F)])/\∀(c:Unit),((hW (d.av d.s) d.s.size).snd≠0/\(hW (d.av d.s) d.s.size).snd<=2)->aD 102 FB/\true=true/\∃(b:Tw),[ai ⟨#[80,97,114,115,101,70,108,111,97,116]⟩,ai x.s,ad 0,ad 64,fu 128 (ad (↑(hW (d.av d.s) d.s.size).snd:Int))]=[ai b.f,ai b.s,ad 0,ad 64,fu 128 (ad ↑b.e)]/\([]:List ah)=[]/\(b.s.size<=8388610/\b.e≠0/\b.e<=2)/\sS (cP F)/\∀(a:Value),True->ar Fp x F (ay (tuple ⟨[float f64 (hW (d.av d.s) d.s.size).fst,a]⟩)) [(0,F)]:=by
 delta Kd cP aH ad ai fu ay;obtain⟨K,av,s⟩:=x;obtain⟨g,i,j,k⟩:=l;replace f:K.rd F:=f;have kr:∀{S:St}{bG:List Nat},(0:Nat)∉bG->gt S 0=F->K.rd (.du (rest S bG)):=fun h e=>K.rest h (by rw[e];exact f);exact bs aeX ⟨K,av,s⟩ ⟨g,i⟩ (kr aL rfl) ⟨fun _ q=>⟨.nilIface,ao,rfl,aA [0]⟩,fun _ q=>⟨j,rfl,⟨_,s,_⟩,rfl,rfl,⟨g,q⟩,(k F f).sub (bU 0),fun y _=>⟨y,ao,rfl,aA [0]⟩⟩⟩
theorem akd:aD 86 Fp:=fo 22 Tryz.func86 (fun _ _=>[(1,2,aX uW),(3,4,aX FB)]) [] aY aY bA [] ake
def HT(av:ByteArray->sR)(s:ByteArray):Nat:=(hW (av s) s.size).1
theorem ahE{av:ByteArray->sR}{K:bR}(a:aD 117 (wi av K))(b:aD 102 FB)(c:∀F,K.rd F->sS F):aD 86 (D5 (HT av) K):=akd.A3 fun q F I w d e hs=>
 ⟨⟨K,av,q.s⟩,I,a8.le_refl I,⟨d,a,b,c⟩,e,rfl,hs,fun y _=>⟨y,ao,rfl,aE.refl _⟩⟩
end
section
open Go
structure qw where
 u:Int
structure uw where
 b:Bool
def uJ:aR where
 X:=uw
 args x:=[aj x.b]
 val x _:=.returned (.int .u64 (bif x.b then 1 else 0))
def yI:aR where
 X:=uw
 args x:=[aj x.b]
 val x _:=.returned (.int .i64 (bif x.b then 1 else 0))
theorem abc(x:uw)(F:ah)(a:uJ.cond x)(b:uJ.aO x F):Br x.b (ar uJ x F (ay (az 1)) [(0,F)]) (ar uJ x F (ay (az 0)) [(0,F)]):=by
 delta az ay;exact aG (fun h=>⟨(),ao,by show _=returned (.int .u64 (bif x.b then 1 else 0));rw[h];rfl,aA [0]⟩) (fun h=>⟨(),ao,by show _=returned (.int .u64 (bif x.b then 1 else 0));rw[h];rfl,aA [0]⟩)
theorem M8:aD 132 uJ:=fo 4 Tryz.func132 (fun _ _=>[]) [] aY aY bA [] abc
theorem abb(x:uw)(F:ah)(a:yI.cond x)(b:yI.aO x F):Br x.b (ar yI x F (ay (ad 1)) [(0,F)]) (ar yI x F (ay (ad 0)) [(0,F)]):=by
 delta ad ay;exact aG (fun h=>⟨(),ao,by show _=returned (.int .i64 (bif x.b then 1 else 0));rw[h];rfl,aA [0]⟩) (fun h=>⟨(),ao,by show _=returned (.int .i64 (bif x.b then 1 else 0));rw[h];rfl,aA [0]⟩)
theorem aba:aD 152 yI:=fo 4 Tryz.func152 (fun _ _=>[]) [] aY aY bA [] abb
def iV(f:Int->Int):aR where
 X:=qw
 args x:=[az x.u]
 cond x:=0<=x.u/\x.u<=18446744073709551615
 val x _:=ay (az (f x.u))
def xZ(u:Int):Int:=u64.wrap (u64.wrap (u*2^min (Int.toNat 2) u64.bits)-2)
theorem akT(x:qw)(F:ah)(a:(iV xZ).cond x)(b:(iV xZ).aO x F):ar (iV xZ) x F (ay (az (bd (bd (x.u*2^min (Int.toNat (2:Int)) u64.bits)-2)))) [(0,F)]:=by
 delta az bd ay;exact iS
theorem akS:aD 153 (iV xZ):=fo 6 Tryz.func153 (fun _ _=>[(1,1,aW),(1,2,aW)]) [] aY aY bA [] akT
def ov(u:Int):Int:=(u64.wrap (u64.wrap (u+1)+u64.wrap (↑(BitVec.ofInt u64.bits (u.fdiv (2^min (Int.toNat 2) u64.bits))&&& BitVec.ofInt u64.bits 1).toNat:Int))).fdiv (2^min (Int.toNat 2) u64.bits)
theorem ajm(x:qw)(F:ah)(a:(iV ov).cond x)(b:(iV ov).aO x F):ar (iV ov) x F (ay (az ((bd (bd (x.u+1)+bd (↑(ce (x.u.fdiv ((2:Int)^min (Int.toNat (2:Int)) u64.bits))&&& ce (1:Int)).toNat:Int))).fdiv ((2:Int)^min (Int.toNat (2:Int)) u64.bits)))) [(0,F)]:=by
 delta az ce bd ay;exact iS
theorem WL:aD 155 (iV ov):=fo 10 Tryz.func155 (fun _ _=>[(1,1,aW),(1,3,aW),(1,4,aW),(1,5,aW),(1,6,aW)]) [] aY aY bA [] ajm
structure mC where
 i:Int
def zb:aR where
 X:=mC
 args x:=[ad x.i]
 cond x:= -100000<=x.i/\x.i<=100000
 val x _:=ay (ad ((x.i*108853).fdiv (2^min (Int.toNat 15) i64.bits)))
theorem afx(x:mC)(F:ah)(a:zb.cond x)(c:zb.aO x F):((-9223372036854775808:Int)<=x.i*108853/\x.i*108853<=(9223372036854775807:Int))/\ar zb x F (ay (ad ((x.i*108853).fdiv ((2:Int)^min (Int.toNat (15:Int)) i64.bits)))) [(0,F)]:=by
 delta ad ay;have b: -100000<=x.i/\x.i<=100000:=a;exact⟨aK,(),ao,rfl,aA [0]⟩
theorem Vr:aD 149 zb:=fo 6 Tryz.func149 (fun _ _=>[]) [] aY aY bA [] afx
structure yq where
 u:Int
 e:Int
def HS(x:yq):Bool:=u64.wrap (↑(BitVec.ofInt u64.bits x.u&&& BitVec.ofInt u64.bits 4503599627370496).toNat:Int)==0
def ahm(x:yq):Nat:=(u64.wrap (↑(BitVec.ofInt u64.bits (u64.wrap (↑(BitVec.ofInt u64.bits x.u&&& BitVec.ofInt u64.bits 9223372036854775808).toNat:Int))|||BitVec.ofInt u64.bits 9218868437227405312).toNat:Int)).toNat
def ahn(x:yq):Nat:=(u64.wrap (↑(BitVec.ofInt u64.bits (u64.wrap (↑(BitVec.ofInt u64.bits x.u&&& ~~~BitVec.ofInt u64.bits 4503599627370496).toNat:Int))|||BitVec.ofInt u64.bits (u64.wrap (u64.wrap (1075+x.e)*2^min (Int.toNat 52) u64.bits))).toNat:Int)).toNat
def lI(x:yq):Nat×Nat:=bif HS x then (x.u.toNat,0) else bif decide (x.e>=972) then (ahm x,1) else (ahn x,0)
def tH:aR where
 X:=yq
 Y:=Unit ⊕ Unit
 args x:=[az x.u,ad x.e]
 cond x:=0<=x.u/\x.u<=18446744073709551615/\ -1075<=x.e/\x.e<=100000
 b_ x y:=match y with
  | .inl _=>(lI x).2=0
  | .inr _=>(lI x).2=1
 val x y:=match y with
  | .inl _=>.returned (.tuple #[.float .f64 (lI x).1,.nilIface])
  | .inr _=>.returned (.tuple #[.float .f64 (lI x).1,.iface 128 (.int .i64 1)])
 sum:=some (ia Unit Unit)
theorem ahl(x:yq)(F:ah)(b:tH.cond x)(d:tH.aO x F):Br (bd (↑(ce x.u&&& ce (4503599627370496:Int)).toNat:Int)==0) (ar tH x F (ay (tuple ⟨[float f64 x.u.toNat,nilIface]⟩)) [(0,F)]) (aS (x.e>=972) (ar tH x F (ay (tuple ⟨[float f64 (bd (↑(ce (bd (↑(ce x.u&&& ce (9223372036854775808:Int)).toNat:Int))|||ce (9218868437227405312:Int)).toNat:Int)).toNat,fu 128 (ad 1)]⟩)) [(0,F)]) (bK (1075+x.e)/\ar tH x F (ay (tuple ⟨[float f64 (bd (↑(ce (bd (↑(ce x.u&&& ~~~ce (4503599627370496:Int)).toNat:Int))|||ce (bd (bd (1075+x.e)*2^min (Int.toNat (52:Int)) u64.bits))).toNat:Int)).toNat,nilIface]⟩)) [(0,F)])):=by
 delta bK ad fu ce bd aS ay;have c:0<=x.u/\x.u<=18446744073709551615/\ -1075<=x.e/\x.e<=100000:=b;have ok:∀v:Nat,lI x=(v,0)->ar tH x F (returned (tuple #[float .f64 v,nilIface])) [(0,F)]:=fun v e=>
  ⟨.inl (),by show(lI x).2=0;rw[e],by show _=returned (.tuple #[.float .f64 (lI x).1,.nilIface]);rw[e],aA [0]⟩
 have no:∀v:Nat,lI x=(v,1)->ar tH x F (returned (tuple #[float .f64 v,iface 128 (int .i64 1)])) [(0,F)]:=fun v e=>
  ⟨.inr (),by show(lI x).2=1;rw[e],by show _=returned (.tuple #[.float .f64 (lI x).1,.iface _ (.int .i64 1)]);rw[e],aA [0]⟩
 refine aG (fun h=>ok _ ?_) (fun h=>aG (fun a=>no _ ?_) (fun a=>⟨aK,ok _ ?_⟩))
 ·unfold lI;rw[show HS x=true from h];rfl
 ·unfold lI;rw[show HS x=false from h,a];rfl
 ·unfold lI;rw[show HS x=false from h,a];rfl
theorem ahk:aD 158 tH:=fo 26 Tryz.func158 (fun _ _=>[(2,1,aW),(4,3,aW),(5,4,aW),(5,5,aW),(5,7,aW)]) [] aY aY bA [] ahl
end
end Go.Proofs.YtdkchodgklpomaaGreatDoor
namespace Go.Proofs
section
open Go.Shelf
def Z5:Go.Shelf.Ren:=⟨fun|129=>148|n=>n,fun|53=>64|3=>3|4=>4|46=>101|5=>5|9=>9|n=>n,fun|n=>n⟩
theorem Z4:Go.Proofs.Lays.n129 Tryz.prog Z5:={
 mixed:=by kernel_rfl
 f129:=Tryz.func148.trans (congrArg some (by kernel_rfl))
 t3:=Tryz.underlying3
 a3:=Tryz.isAgg3
 z3:=Tryz.sizeOf3
 v3:=Tryz.zeroValue3
 t4:=Tryz.underlying4
 a4:=Tryz.isAgg4
 z4:=Tryz.sizeOf4
 v4:=Tryz.zeroValue4
 t5:=Tryz.underlying5
 a5:=Tryz.isAgg5
 z5:=Tryz.sizeOf5
 v5:=Tryz.zeroValue5
 t9:=Tryz.underlying9
 a9:=Tryz.isAgg9
 z9:=Tryz.sizeOf9
 v9:=Tryz.zeroValue9
 t46:=Tryz.underlying101
 a46:=Tryz.isAgg101
 z46:=Tryz.sizeOf101
 v46:=Tryz.zeroValue101
 t53:=Tryz.underlying64
 a53:=Tryz.isAgg64
 z53:=Tryz.sizeOf64
 v53:=Tryz.zeroValue64}
theorem Tryz.bits_Len64(x:Int)(w:World)(a:0<=x)(b:x<=18446744073709551615):
  Calls Tryz.prog 148 #[.int .u64 x] w fun e w'=>e= .returned (.int .i64 (Lib.bitLen x.toNat))/\w'=w:=Any.bits_Len64 Z4 x w a b
def aah:Go.Shelf.Ren:=⟨fun|264=>167|n=>n,fun|53=>64|46=>101|n=>n,fun|n=>n⟩
theorem aag:Go.Proofs.Lays.n264 Tryz.prog aah:={
 mixed:=by kernel_rfl
 f264:=Tryz.func167.trans (congrArg some (by kernel_rfl))
 t46:=Tryz.underlying101
 a46:=Tryz.isAgg101
 z46:=Tryz.sizeOf101
 v46:=Tryz.zeroValue101
 t53:=Tryz.underlying64
 a53:=Tryz.isAgg64
 z53:=Tryz.sizeOf64
 v53:=Tryz.zeroValue64}
open Go.RowKit Go.Lib in
theorem Tryz.bits_Mul64(x y:Nat)(hx:x<18446744073709551616)(a:y<18446744073709551616)(w:World):
  Calls Tryz.prog 167 #[.int .u64 x,.int .u64 y] w fun e w'=>e= .returned (.tuple #[.int .u64 ((x*y/18446744073709551616:Nat):Int),.int .u64 ((x*y%18446744073709551616:Nat):Int)])/\w'=w:=Any.bits_Mul64 aag x y hx a w
end
end Go.Proofs
namespace Go.Proofs.YtdkchodgklpomaaGreatDoor
set_option maxRecDepth 100000
open Go.Value (int slice string bool pointer agg tuple func float iface nilIface)
open Go.IntKind (i64 u8 u64 i32 u32 u16 i8 i16)
open Go.FloatKind (f64)
open Go.Ending (returned panicked)
section
open Go
structure Lh where
 u:Nat
def DS:aR where
 X:=Lh
 args x:=[az x.u]
 cond x:=x.u<=18446744073709551615
 val x _:=ay (ad (Lib.bitLen x.u))
theorem Vs:aD 148 DS:=rK DS (fun _=>rfl) (fun _ _=>()) (fun _ _=>ao) (fun _ _=>rfl) fun x F I w a b hs=>
 (Go.Proofs.Tryz.bits_Len64 (x.u:Int) w (Int.natCast_nonneg _) (by have:x.u<=18446744073709551615:=a;omega)).mono fun e w' h=>⟨by rw[h.1,cy];rfl,RowKit.Below.of_eq h.2⟩
structure rN where
 u:Nat
 v:Nat
def Bn:aR where
 X:=rN
 args x:=[az x.u,az x.v]
 cond x:=x.u<18446744073709551616/\x.v<18446744073709551616
 val x _:=.returned (.tuple #[.int .u64 (x.u*x.v/18446744073709551616:Nat),.int .u64 (x.u*x.v%18446744073709551616:Nat)])
theorem Oe:aD 167 Bn:=rK Bn (fun _=>rfl) (fun _ _=>()) (fun _ _=>ao) (fun _ _=>rfl) fun x F I w a b hs=>
 (Go.Proofs.Tryz.bits_Mul64 x.u x.v a.1 a.2 w).mono fun e w' h=>⟨h.1,RowKit.Below.of_eq h.2⟩
end
section
open Go
structure na where
 u:Nat
 b:Nat
 hi:Nat
 lo:Nat
 s:Nat
def FF(x:na):Int:=(x.u*x.hi/18446744073709551616:Nat)
def KT(x:na):Int:=(x.u*x.hi%18446744073709551616:Nat)
def KU(x:na):Int:=(x.u*x.lo/18446744073709551616:Nat)
def FG(x:na):Bool:=u64.wrap ((FF x).fdiv (2^min (↑x.s:Int).toNat u64.bits)*2^min (↑x.s:Int).toNat u64.bits)!=FF x
def XB(x:na):Int:=u64.wrap (↑(BitVec.ofInt u64.bits ((FF x).fdiv (2^min (↑x.s:Int).toNat u64.bits))|||BitVec.ofInt u64.bits 1).toNat:Int)
def XC(x:na):Int:=u64.wrap (↑(BitVec.ofInt u64.bits ((u64.wrap (FF x-bif decide (KT x<KU x) then 1 else 0)).fdiv (2^min (↑x.s:Int).toNat u64.bits))|||BitVec.ofInt u64.bits (bif decide (u64.wrap (KT x-KU x)>1) then 1 else 0)).toNat:Int)
def iq(x:na):Int:=bif FG x then XB x else XC x
theorem aaP{d:Nat}(h:d<64):i64.wrap (↑(BitVec.ofInt i64.bits (d:Int)&&& BitVec.ofInt i64.bits 63).toNat:Int)=(d:Int):=by
 show i64.wrap (↑((BitVec.ofNat 64 d&&& BitVec.ofNat 64 63:BitVec 64).toNat):Int)=_;have:(BitVec.ofNat 64 d&&& BitVec.ofNat 64 63).toNat=d:=by
  rw[BitVec.toNat_and,BitVec.toNat_ofNat,BitVec.toNat_ofNat];have b:d%2^64=d:=Nat.mod_eq_of_lt ae;rw[b];have a:=Nat.and_two_pow_sub_one_eq_mod d 6;rw[Nat.mod_eq_of_lt (show d<2^6 by omega)]at a;exact a
 rw[this];exact dG (i:=.i64) aK
def xu(x:na):Option Addr:=some ⟨x.b,0,none⟩
def sN:aR where
 X:=na
 args x:=[az x.u,ag (xu x)]
 cond x:=x.u<18446744073709551616/\x.hi<18446744073709551616/\x.lo<18446744073709551616/\x.s<64
 aO x F:=aQ F ⟨x.b,0,none⟩ (.int .u64 x.hi)/\aQ F ⟨x.b,1,none⟩ (.int .u64 x.lo)/\aQ F ⟨x.b,2,none⟩ (.int .i64 x.s)
 val x _:=ay (az (iq x))
 eT _ _ _ hs h:=⟨h.1.sub hs,h.2.1.sub hs,h.2.2.sub hs⟩
def akX(x:na)(F:ah):Nat->Option Inv:=fun
 |3=>some {X:=Unit,P:=fun _=>True,mu:=fun _=>0,lv:=fun _=>[(0,az x.u),(1,ag (xu x)),(5,az (x.u*x.hi/18446744073709551616:Nat)),(6,az (x.u*x.hi%18446744073709551616:Nat)),(7,ad x.s)],st:=fun _=>[F]}
 |_=>none
def AP(aa:ah)(a:Addr)(b:Int->Prop):=∃(z0:Int),aQ aa a (az z0)/\b z0
def Dl(aa:List Value)(a:rN->Unit->Prop):=aD 167 Bn/\true=true/\∃(z:rN),aa=[az ↑z.u,az ↑z.v]/\([]:List ah)=[]/\(z.u<18446744073709551616/\z.v<18446744073709551616)/\True/\∀(b:Unit),True->a z b
def Dm(aa:List Value)(a:uw->Unit->Prop):=aD 132 uJ/\true=true/\∃(z:uw),aa=[aj z.b]/\([]:List ah)=[]/\True/\True/\∀(b:Unit),True->a z b
theorem akY(x:na)(F:ah)(q:sN.cond x)(r:sN.aO x F):AP F ⟨x.b,0,none⟩ (fun l=>Dl [az ↑x.u,az l] (fun k j=>T1 F ⟨x.b,2,none⟩ (fun b=>∃(a:Unit),True/\(az ↑x.u=az ↑x.u/\ag (xu x)=ag (xu x)/\az (↑(k.u*k.v/18446744073709551616):Int)=az (↑(x.u*x.hi/18446744073709551616):Int)/\az (↑(k.u*k.v%18446744073709551616):Int)=az (↑(x.u*x.hi%18446744073709551616):Int)/\ad (bV (↑(gY b&&& gY (63:Int)).toNat:Int))=ad ↑x.s/\True)/\aE [(0,F)] [(0,F)])/\aT fun(i:Unit)_=>True->Br (bd ((↑(x.u*x.hi/18446744073709551616):Int).fdiv ((2:Int)^min (x.s:Int).toNat u64.bits)*2^min (x.s:Int).toNat u64.bits)!=(↑(x.u*x.hi/18446744073709551616):Int)) (ar sN x F (ay (az (bd (↑(ce ((↑(x.u*x.hi/18446744073709551616):Int).fdiv ((2:Int)^min (x.s:Int).toNat u64.bits))|||ce (1:Int)).toNat:Int)))) [(0,F)]) (AP F ⟨x.b,1,none⟩ (fun g=>Dl [az ↑x.u,az g] (fun f e=>Dm [aj (decide ((↑(x.u*x.hi%18446744073709551616):Int)<(↑(f.u*f.v/18446744073709551616):Int)))] (fun d c=>true=true/\Dm [aj (decide (bd ((↑(x.u*x.hi%18446744073709551616):Int)-(↑(f.u*f.v/18446744073709551616):Int))>1))] (fun b a=>ar sN x F (ay (az (bd (↑(ce ((bd ((↑(x.u*x.hi/18446744073709551616):Int)-bif d.b then (1:Int) else (0:Int))).fdiv ((2:Int)^min (x.s:Int).toNat u64.bits))|||ce (bif b.b then (1:Int) else (0:Int))).toNat:Int)))) [(0,F)]))))))):=by
 delta AP Dl T1 xu Dm ad az aj ag ce gY bd bV ay aT;obtain⟨m,n,o,p⟩:=q;obtain⟨l0,l1,l2⟩:=r;have fin:∀v,iq x=v->ar sN x F (returned (int .u64 v)) [(0,F)]:=fun v e=>
  ⟨(),ao,by show _=returned (.int .u64 (iq x));rw[e],aA [0]⟩
 refine⟨x.hi,l0,Oe,rfl,⟨x.u,x.hi⟩,rfl,rfl,⟨m,n⟩,ao,fun _ _=>⟨⟨x.s,l2,(),ao,⟨rfl,rfl,rfl,rfl,by rw[aaP p],ao⟩,aA [0]⟩,fun _ s _=>aG (fun h=>fin _ ?_) (fun h=>?_)⟩⟩
 ·unfold iq;rw[show FG x=true from h];rfl
 ·refine⟨x.lo,l1,Oe,rfl,⟨x.u,x.lo⟩,rfl,rfl,⟨m,o⟩,ao,fun _ _=>⟨M8,rfl,⟨_⟩,rfl,rfl,ao,ao,fun _ _=>⟨rfl,M8,rfl,⟨_⟩,rfl,rfl,ao,ao,fun _ _=>fin _ ?_⟩⟩⟩;unfold iq;rw[show FG x=false from h];rfl
theorem KV:aD 151 sN:=fo 59 Tryz.func151 (fun _ _=>[(1,4,.q [.ex 0 (.int .u64)]),(1,5,aX Bn),(2,3,dd),(2,4,aW),(3,2,aW),(3,4,aW),(4,2,aW),(4,3,aW),(5,4,.q [.ex 0 (.int .u64)]),(5,5,aX Bn),(6,4,aX uJ),(6,5,aW),(7,2,aW),(7,5,aW),(7,7,aX uJ),(7,8,aW)]) [] aY akX bA [] akY
end
section
open Go
structure yr where
 b:Nat
 v0:Value
 v1:Value
 v2:Value
 e:Int
 p:Int
 l:Int
 tb:Nat->Nat
def zu:aR where
 X:=yr
 args x:=[ag (some ⟨x.b,0,none⟩),ad x.e,ad x.p,ad x.l]
 pre x:=[af x.b [x.v0,x.v1,x.v2] 178]
 cond x:= -348<=x.p/\x.p<348/\ -1000000<=x.e/\x.e<=1000000/\ -1000000<=x.l/\x.l<=1000000
 aO x F:=∀i,i<1392->aQ F ⟨15,i,none⟩ (.int .u64 (x.tb i))
 val x _:=.returned (.tuple #[])
 post x _:=[af x.b [az (x.tb ((x.p+348).toNat*2)),az (x.tb ((x.p+348).toNat*2+1)),ad (-(x.e+x.l+3))] 178]
 eT _ _ _ hs h:=fun i hi=>(h i hi).sub hs
def Qw(x:yr):=(-9223372036854775808:Int)<=x.p-(-348:Int)/\x.p-(-348:Int)<=(9223372036854775807:Int)
def RN(x:yr):=0<=x.p-(-348:Int)/\x.p-(-348:Int)<(↑(696:Nat):Int)
theorem aiG(x:yr)(F:ah)(o:zu.cond x)(c:zu.aO x F):Qw x/\RN x/\AP F ⟨15,0+(x.p-(-348:Int)).toNat*2,none⟩ (fun b=>aw x.b 0/\Qw x/\RN x/\AP F ⟨15,0+(x.p-(-348:Int)).toNat*2+1,none⟩ (fun a=>aw x.b 1/\bK (x.e+x.l)/\((-9223372036854775808:Int)<=x.e+x.l+3/\x.e+x.l+3<=(9223372036854775807:Int))/\aw x.b 2/\ar zu x F eM [(0,af x.b [az b,az a,ad (bV ((0:Int)-(x.e+x.l+3)))] 178),(1,F)])):=by
 delta Qw RN AP eM aw bK ad az af bV ay;obtain⟨b,v0,v1,v2,e,p,l,tb⟩:=x;obtain⟨f,g,h,j,k,m⟩:=o;replace c:∀i,i<1392->aQ F ⟨15,i,none⟩ (.int .u64 (tb i)):=c;dsimp only at f g h j k m⊢;have e1:0+(p- -348).toNat*2=(p+348).toNat*2:=by rw[show p- -348=p+348 by omega,hU]
 have d:i64.wrap (0-(e+l+3))= -(e+l+3):=by
  rw[dG (i:=.i64) (n:=0-(e+l+3)) aK];omega
 rw[e1];refine⟨aK,aK,tb _,c _ ae,al,aK,aK,tb _,c _ ae,al,aK,aK,al,(),ao,rfl,?_⟩
 first
  |exact aA [0,1]
  | (rw[d];exact aA [0,1])
theorem Wy:aD 150 zu:=fo 32 Tryz.func150 (fun _ _=>[(0,5,.q [.ex 1 (.int .u64)]),(0,8,.w [.z00 0]),(1,5,.q [.ex 1 (.int .u64)]),(1,8,.w [.z00 0]),(2,8,.w [.z00 0])]) [] aY aY bA [] aiG
end
section
open Go
def m5(k kn:IntKind):ln where
 X:=Int×Int
 args x:=[.int k x.1,.int kn x.2]
 cond x:=0<=x.2
 val x:=.int k (k.wrap (x.1*2^min x.2.toNat k.bits))
def ud(k kn:IntKind):ln where
 X:=Int×Int
 args x:=[.int k x.1,.int kn x.2]
 cond x:=0<=x.2
 val x:=.int k (x.1.fdiv (2^min x.2.toNat k.bits))
variable{k kn:IntKind}{o:Oper}{x y:Operand}{P:Program}{t tn:TypeId}
theorem nG(e:o.op= .binOp .shl t x y tn):dR P o (m5 k kn):=by
 refine⟨fun q w ρ f d=>?_⟩;obtain⟨a,b⟩:=q;have d:0<=b:=d;simp only[e,Op.operands,m5]at f;have c:ρ x= .int k a/\ρ y= .int kn b:=by grind
 obtain⟨hx,h⟩:=c;have g:¬b<0:=ae;simp[execOp,e,hx,h,eqGuard,binOp,Op.shift,m5,g,Sem.run]
theorem xN(e:o.op= .binOp .shr t x y tn):dR P o (ud k kn):=by
 refine⟨fun q w ρ f d=>?_⟩;obtain⟨a,b⟩:=q;have d:0<=b:=d;simp only[e,Op.operands,ud]at f;have c:ρ x= .int k a/\ρ y= .int kn b:=by grind
 obtain⟨hx,h⟩:=c;have g:¬b<0:=ae;simp[execOp,e,hx,h,eqGuard,binOp,Op.shift,ud,g,Sem.run]
structure ke where
 m:Nat
 e:Int
 g:Nat
 tb:Nat->Nat
def dV(e:Int):Int:=(e*108853).fdiv (2^min (Int.toNat 15) i64.bits)
def hL(x:ke):Int:=Lib.bitLen x.m
def iw(x:ke):Int:=min 1074 (53-hL x-dV x.e)
def jR(x:ke):Int:= -(iw x-(64-hL x)+dV x.e+3)
def DI(x:ke):Int:=u64.wrap (x.m*2^min (64-hL x).toNat u64.bits)
def qD(x:ke):Int:=iq ⟨(DI x).toNat,0,x.tb ((x.e+348).toNat*2),x.tb ((x.e+348).toNat*2+1),(jR x).toNat⟩
def oQ(x:ke):Int:=bif decide (qD x>=xZ 9007199254740992) then 1 else 0
def UA(x:ke):Int:=u64.wrap (↑(BitVec.ofInt u64.bits ((qD x).fdiv (2^min (oQ x).toNat u64.bits))|||BitVec.ofInt u64.bits (u64.wrap (↑(BitVec.ofInt u64.bits (qD x)&&& BitVec.ofInt u64.bits 1).toNat:Int))).toNat:Int)
def NA(x:ke):Int:=u64.wrap (↑(BitVec.ofInt u64.bits (↑x.g:Int)|||BitVec.ofInt u64.bits (ov (UA x))).toNat:Int)
def UB(x:ke):Nat:=(u64.wrap (↑(BitVec.ofInt u64.bits (↑x.g:Int)|||BitVec.ofInt u64.bits 0).toNat:Int)).toNat
def gE(x:ke):Nat×Nat:=bif decide (jR x>=64) then (UB x,0) else lI ⟨NA x,i64.wrap (0-(iw x-oQ x))⟩
theorem gf(z:Int):0<=u64.wrap z/\u64.wrap z<=18446744073709551615:=by
 have:u64.wrap z=z%18446744073709551616:=by rfl
 omega
theorem XE(x:na):0<=iq x/\iq x<=18446744073709551615:=by
 unfold iq;cases FG x
 ·exact gf _
 ·exact gf _
theorem af2(e:Int):dV e=e*108853/32768:=by
 unfold dV;rw[show min (Int.toNat 15) i64.bits=15 from rfl];grind
theorem ac0{x:ke}(b:x.m<18446744073709551616)(c: -348<=x.e)(d:x.e<348):0<=hL x/\hL x<=64/\ -1157<=dV x.e/\dV x.e<=1153/\iw x<=1074/\ -1200<=iw x/\8<=jR x:=by
 have e:hL x<=64:=by
  unfold hL;have:=Lib.bitLen_le x.m 64 ae ae;omega
 have a:0<=hL x:=Int.natCast_nonneg _;have hl:=af2 x.e;have f:iw x=min 1074 (53-hL x-dV x.e):=rfl;have hs:jR x= -(iw x-(64-hL x)+dV x.e+3):=rfl;omega
def A8:aR where
 X:=ke
 Y:=Unit ⊕ Unit
 args x:=[az x.m,ad x.e,az x.g]
 cond x:=x.m<18446744073709551616/\ -348<=x.e/\x.e<348/\x.g<18446744073709551616/\∀i,x.tb i<18446744073709551616
 aO x F:=∀i,i<1392->aQ F ⟨15,i,none⟩ (.int .u64 (x.tb i))
 b_ x y:=match y with
  | .inl _=>(gE x).2=0
  | .inr _=>(gE x).2=1
 val x y:=match y with
  | .inl _=>.returned (.tuple #[.float .f64 (gE x).1,.nilIface])
  | .inr _=>.returned (.tuple #[.float .f64 (gE x).1,.iface 128 (.int .i64 1)])
 eT _ _ _ hs h:=fun i hi=>(h i hi).sub hs
 sum:=some (ia Unit Unit)
structure sT where
 b:Nat
 u:Int
 g:Int
def acY(x:ke)(F:ah):Nat->Option Inv:=fun
 |4=>some {X:=Unit,P:=fun _=>True,mu:=fun _=>0,lv:=fun _=>[(0,az x.m),(1,ad x.e),(2,az x.g),(8,ad (hL x)),(9,ad (dV x.e)),(10,ad (iw x))],st:=fun _=>[F]}
 |8=>some {X:=sT,P:=fun _=>jR x<64,mu:=fun _=>0,lv:=fun d=>[(0,az x.m),(2,az x.g),(8,ad (hL x)),(10,ad (iw x)),(11,ag (some ⟨d.b,0,none⟩))],st:=fun d=>[F,af d.b [az (x.tb ((x.e+348).toNat*2)),az (x.tb ((x.e+348).toNat*2+1)),ad (jR x)] 178]}
 |9=>some {X:=sT,P:=fun d=>jR x<64/\d.u=qD x,mu:=fun _=>0,lv:=fun d=>[(2,az x.g),(10,ad (iw x)),(12,az d.u)],st:=fun _=>[F]}
 |10=>some {X:=sT,P:=fun d=>jR x<64/\d.u=qD x/\d.g=oQ x,mu:=fun _=>0,lv:=fun d=>[(2,az x.g),(10,ad (iw x)),(12,az d.u),(13,ad d.g)],st:=fun _=>[F]}
 |_=>none
def Gw(aa:List Value)(a:Lh->Unit->Prop):=aD 148 DS/\true=true/\∃(z:Lh),aa=[az ↑z.u]/\([]:List ah)=[]/\z.u<=18446744073709551615/\True/\∀(b:Unit),True->a z b
def E8(z:mC):=(-100000:Int)<=z.i/\z.i<=100000
def Gx(aa:List Value)(a:mC->Unit->Prop):=aD 149 zb/\true=true/\∃(z:mC),aa=[ad z.i]/\([]:List ah)=[]/\E8 z/\True/\∀(b:Unit),True->a z b
def Gy(aa:List Value)(pp:List ah)(rr:ah)(a:yr->Unit->Prop):=aD 150 zu/\true=true/\∃(z:yr),aa=[ag (some ⟨z.b,0,none⟩),ad z.e,ad z.p,ad z.l]/\pp=[af z.b [z.v0,z.v1,z.v2] 178]/\((-348:Int)<=z.p/\z.p<348/\(-1000000:Int)<=z.e/\z.e<=1000000/\(-1000000:Int)<=z.l/\z.l<=1000000)/\(∀(w0:Nat),w0<1392->aQ rr ⟨15,w0,none⟩ (az (↑(z.tb w0):Int)))/\∀(b:Unit),True->a z b
def B7:List Value:=[az 0,az 0,ad 0]
def Ei(F:ah)(m:yr):=[(0,F),(5000,af m.b [az (↑(m.tb ((m.p+348).toNat*2)):Int),az (↑(m.tb ((m.p+348).toNat*2+1)):Int),ad (-(m.e+m.l+3))] 178)]
def Ir(F:ah)(a:sT)(x:ke):=[(0,F),(1,af a.b [az (↑(x.tb ((x.e+348).toNat*2)):Int),az (↑(x.tb ((x.e+348).toNat*2+1)):Int),ad (jR x)] 178)]
def pC(b:Oper)(aa:List Value)(a:Int×Int->Prop):=dR Tryz.prog b (m5 u64 i64)/\∃(z:Int×Int),aa=[az z.fst,ad z.snd]/\0<=z.snd/\a z
def AQ(aa:List Value)(rr:ah)(a:na->Unit->Prop):=aD 151 sN/\true=true/\∃(z:na),aa=[az ↑z.u,ag (xu z)]/\([]:List ah)=[]/\(z.u<18446744073709551616/\z.hi<18446744073709551616/\z.lo<18446744073709551616/\z.s<64)/\(aQ rr ⟨z.b,0,none⟩ (az ↑z.hi)/\aQ rr ⟨z.b,1,none⟩ (az ↑z.lo)/\aQ rr ⟨z.b,2,none⟩ (ad ↑z.s))/\∀(b:Unit),True->a z b
def B8(z:qw):=0<=z.u/\z.u<=18446744073709551615
def uC(b:Oper)(aa:List Value)(a:Int×Int->Prop):=dR Tryz.prog b (ud u64 i64)/\∃(z:Int×Int),aa=[az z.fst,ad z.snd]/\0<=z.snd/\a z
def Gz(aa:List Value)(a:qw->Unit->Prop):=aD 155 (iV ov)/\true=true/\∃(z:qw),aa=[az z.u]/\([]:List ah)=[]/\B8 z/\True/\∀(b:Unit),True->a z b
theorem ac1(x:ke)(F:ah)(H:A8.cond x)(E:A8.aO x F):Gw [az ↑x.m] (fun t s=>Gx [ad x.e] (fun r q=>(bK ((53:Int)-(↑(Lib.bitLen t.u):Int))/\bK ((53:Int)-(↑(Lib.bitLen t.u):Int)-(r.i*108853).fdiv ((2:Int)^min (Int.toNat (15:Int)) i64.bits))/\∃(a:Unit),True/\(az ↑x.m=az ↑x.m/\ad x.e=ad x.e/\az ↑x.g=az ↑x.g/\ad (↑(Lib.bitLen t.u):Int)=ad (hL x)/\ad ((r.i*108853).fdiv ((2:Int)^min (Int.toNat (15:Int)) i64.bits))=ad (dV x.e)/\ad (if (53:Int)-(↑(Lib.bitLen t.u):Int)-(r.i*108853).fdiv ((2:Int)^min (Int.toNat (15:Int)) i64.bits)<1074 then (53:Int)-(↑(Lib.bitLen t.u):Int)-(r.i*108853).fdiv ((2:Int)^min (Int.toNat (15:Int)) i64.bits) else (1074:Int))=ad (iw x)/\True)/\aE [(0,F)] [(0,F)])/\aT fun(p:Unit)_=>True->∀(n:Nat),bK ((64:Int)-hL x)/\bK (iw x-((64:Int)-hL x))/\Gy [ag (bI n),ad (iw x-((64:Int)-hL x)),ad x.e,ad (dV x.e)] [af n B7 178] (aH [(0,F),(5000,af n B7 178)] [5000]) (fun m l=>(ed ⟨n,2,none⟩ m.b/\aS (-(m.e+m.l+3)>=64) (ar A8 x F (ay (tuple ⟨[float f64 (bd (↑(ce (x.g:Int)|||ce (0:Int)).toNat:Int)).toNat,nilIface]⟩)) (Ei F m)) (∃(a:sT),jR x<64/\(az ↑x.m=az ↑x.m/\az ↑x.g=az ↑x.g/\ad (hL x)=ad (hL x)/\ad (iw x)=ad (iw x)/\ag (bI n)=ag (some ⟨a.b,0,none⟩)/\True)/\aE (Ei F m) (Ir F a x)))/\aT fun(k:sT)_=>jR x<64->(bK ((64:Int)-hL x)/\pC (a7 Tryz.f135 8 3) [az ↑x.m,ad ((64:Int)-hL x)] (fun d=>AQ [az (bd (d.fst*2^min d.snd.toNat u64.bits)),ag (some ⟨k.b,0,none⟩)] (aH (Ir F k x) []) (fun c b=>∃(a:sT),(jR x<64/\a.u=qD x)/\(az ↑x.g=az ↑x.g/\ad (iw x)=ad (iw x)/\az (iq c)=az a.u/\True)/\aE (Ir F k x) [(0,F)])))/\aT fun(i:sT)_=>(jR x<64/\i.u=qD x)->(aD 153 (iV xZ)/\true=true/\∃(e:qw),[az 9007199254740992]=[az e.u]/\([]:List ah)=[]/\B8 e/\True/\∀(d:Unit),True->aD 152 yI/\true=true/\∃(c:uw),[aj (decide (i.u>=xZ e.u))]=[aj c.b]/\([]:List ah)=[]/\True/\True/\∀(b:Unit),True->∃(a:sT),(jR x<64/\a.u=qD x/\a.g=oQ x)/\(az ↑x.g=az ↑x.g/\ad (iw x)=ad (iw x)/\az i.u=az a.u/\ad (bif c.b then (1:Int) else (0:Int))=ad a.g/\True)/\aE [(0,F)] [(0,F)])/\aT fun(g:sT)_=>(jR x<64/\g.u=qD x/\g.g=oQ x)->uC (a7 Tryz.f135 10 2) [az g.u,ad g.g] (fun e=>bK (iw x-g.g)/\Gz [az (bd (↑(ce (e.fst.fdiv ((2:Int)^min e.snd.toNat u64.bits))|||ce (bd (↑(ce g.u&&& ce (1:Int)).toNat:Int))).toNat:Int))] (fun d c=>aD 158 tH/\true=true/\∃(b:yq),[az (bd (↑(ce (x.g:Int)|||ce (ov d.u)).toNat:Int)),ad (bV ((0:Int)-(iw x-g.g)))]=[az b.u,ad b.e]/\([]:List ah)=[]/\(0<=b.u/\b.u<=18446744073709551615/\(-1075:Int)<=b.e/\b.e<=100000)/\True/\(∀(a:Unit),(lI b).snd=0->ar A8 x F (ay (tuple ⟨[float f64 (lI b).fst,nilIface]⟩)) [(0,F)])/\∀(a:Unit),(lI b).snd=1->ar A8 x F (ay (tuple ⟨[float f64 (lI b).fst,fu 128 (ad 1)]⟩)) [(0,F)]))))):=by
 delta Gw E8 Gx Gy bI B7 Ei Ir pC xu AQ B8 uC Gz aH bK ad az aj ag fu af ce bd bV aS ay aT;obtain⟨G,B,C,N,D⟩:=H;replace E:∀i,i<1392->aQ F ⟨15,i,none⟩ (.int .u64 (x.tb i)):=E;obtain⟨P,Q,R,T,U,V,W⟩:=ac0 G B C;have L:∀a b:Int,(if b<a then b else a)=min a b:=fun a b=>ae;have K:∀{S:St}{bG:List Nat},(0:Nat)∉bG->gt S 0=F->∀i,i<1392->aQ (.du (rest S bG)) ⟨15,i,none⟩ (.int .u64 (x.tb i)):=fun J e i hi=>aQ.rest (j:=0) J (by simp[*]);refine bO Vs ⟨x.m⟩ (by grind) fun _ _=>bO Vr ⟨x.e⟩ ⟨by grind,by grind⟩ fun _ _=>⟨?_,fun _ y _ b=>?_⟩
 ·change((-9223372036854775808<=53-hL x/\53-hL x<=9223372036854775807)/\(-9223372036854775808<=53-hL x-dV x.e/\53-hL x-dV x.e<=9223372036854775807)/\_);refine⟨aK,aK,(),ao,⟨rfl,rfl,rfl,rfl,rfl,?_,ao⟩,aA [0]⟩;exact congrArg _ (L 1074 (53-hL x-dV x.e))
 refine⟨aK,aK,Wy,rfl,⟨b,_,_,_,iw x-(64-hL x),x.e,dV x.e,x.tb⟩,rfl,rfl,⟨B,C,by grind,by grind,by grind,by grind⟩,K aL rfl,fun _ _=>⟨⟨al,bo (fun o=>?_) (fun f=>⟨⟨b,0,0⟩,by have f:¬jR x>=64:=f;omega,aV,aA [0,5000]⟩)⟩,?_⟩⟩
 ·have o:jR x>=64:=o;have e:gE x=(UB x,0):=by unfold gE;simp[*]
  exact⟨.inl (),by show(gE x).2=0;rw[e],by show _=returned (.tuple #[.float .f64 (gE x).1,.nilIface]);rw[e];rfl,aA [0]⟩
 rintro⟨b,_,_⟩ y f;have f:jR x<64:=f;dsimp only;have O:0<=DI x/\DI x<=18446744073709551615:=gf (x.m*2^min (64-hL x).toNat u64.bits);refine⟨⟨aK,nG rfl,(x.m,64-hL x),rfl,ae,KV,rfl,⟨(DI x).toNat,b,x.tb ((x.e+348).toNat*2),x.tb ((x.e+348).toNat*2+1),(jR x).toNat⟩,?_,rfl,⟨?_,D _,D _,?_⟩,?_,fun _ _=>⟨⟨0,qD x,0⟩,⟨f,rfl⟩,aV,aA [0]⟩⟩,?_⟩
 ·rfl
 ·grind
 ·simp[*]
 ·have h:∀(i:Nat)(v:Value),[int .u64 (x.tb ((x.e+348).toNat*2):Nat),.int .u64 (x.tb ((x.e+348).toNat*2+1):Nat),.int .i64 (jR x)][i]?=some v->aQ (.du (rest [(0,F),(1,ah.cells b [int .u64 (x.tb ((x.e+348).toNat*2):Nat),.int .u64 (x.tb ((x.e+348).toNat*2+1):Nat),.int .i64 (jR x)] 178)] [])) ⟨b,i,none⟩ v:=fun i v e=>aQ.rest (j:=1) aL (aQ.cells (by exact e));refine⟨h 0 _ rfl,h 1 _ rfl,h 2 _ ?_⟩;grind
 rintro⟨_,u,_⟩ y ⟨_,w⟩;dsimp only at w⊢;subst w;have w:=XE ⟨(DI x).toNat,0,x.tb ((x.e+348).toNat*2),x.tb ((x.e+348).toNat*2+1),(jR x).toNat⟩;refine⟨bO akS ⟨9007199254740992⟩ ⟨by decide,by decide⟩ fun _ _=>⟨aba,rfl,⟨_⟩,rfl,rfl,ao,ao,fun _ _=>⟨⟨0,qD x,oQ x⟩,⟨f,rfl,rfl⟩,aV,aA [0]⟩⟩,?_⟩;rintro⟨_,u,g⟩ y ⟨_,e1,z⟩;dsimp only at e1 z⊢;subst e1 z;have I:0<=oQ x/\oQ x<=1:=by
  unfold oQ;grind
 have M:i64.wrap (0-(iw x-oQ x))=0-(iw x-oQ x):=dG (i:=.i64) aK;have A:gE x=lI ⟨NA x,i64.wrap (0-(iw x-oQ x))⟩:=by unfold gE;rw[bF ae];rfl
 refine⟨xN rfl,(qD x,oQ x),rfl,I.1,aK,WL,rfl,⟨UA x⟩,rfl,rfl,gf _,ao,fun _ _=>bO ahk ⟨NA x,i64.wrap (0-(iw x-oQ x))⟩ ⟨(gf _).1,(gf _).2,by grind,by grind⟩ ⟨fun _ q=>⟨.inl (),by show(gE x).2=0;grind,by show _=returned (.tuple #[.float .f64 (gE x).1,.nilIface]);rw[A],aA [0]⟩,fun _ q=>⟨.inr (),by show(gE x).2=1;grind,by show _=returned (.tuple #[.float .f64 (gE x).1,.iface _ (.int .i64 1)]);rw[A],aA [0]⟩⟩⟩
theorem acZ:aD 135 A8:=fo 63 Tryz.func135 (fun _ _=>[(1,1,aX DS),(2,1,aX zb),(3,4,aW),(4,0,.n 5000),(5,6,.c zu [5000] [5000]),(6,1,aP 5000),(7,1,aW),(7,2,aW),(8,3,.qo (m5 .u64 .i64)),(8,4,aX sN),(9,1,aX (iV xZ)),(9,3,aX yI),(10,2,.qo (ud .u64 .i64)),(10,4,aW),(10,5,aW),(12,2,aX (iV ov)),(12,3,aW),(12,6,aX tH)]) [] aY acY bA [] ac1
end
end Go.Proofs.YtdkchodgklpomaaGreatDoor
