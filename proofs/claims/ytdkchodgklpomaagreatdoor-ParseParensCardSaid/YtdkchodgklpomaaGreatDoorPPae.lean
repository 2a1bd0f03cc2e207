/- Part of the proof that ParseParens answers true at every input. -/
import Derived.Test.YtdkchodgklpomaaGreatDoorPPad
set_option linter.all false
namespace Go.Proofs.YtdkchodgklpomaaGreatDoor
set_option maxRecDepth 100000
open Go.Value (int slice string bool pointer agg tuple func float iface nilIface)
open Go.IntKind (i64 u8 u64 i32 u32 u16 i8 i16)
open Go.FloatKind (f64)
open Go.Ending (returned panicked)
section
open Go
theorem DR(s:ByteArray):∀(f i:Nat),i<=s.size->i<=(fN s f i).1/\(fN s f i).1<=s.size:=by
 intro f
 induction f with
 |zero=>intro i h;exact⟨bT _,h⟩
 |succ f d=>
  intro i h;rw[fN];by_cases hi:i<s.size
  ·rw[bv hi,aU];cases hn:cS s i with
   |none=>exact⟨bT _,h⟩
   |some a=>
    obtain⟨c,n⟩:=a;obtain⟨b,f2,f3⟩:=jO hn;grind
  simp[*]
variable{s:ByteArray}{i:Nat}
theorem DI{t:List Nat}(h:cY s i t=true):i+t.length<=s.size:=by
 unfold cY at h;grind
theorem ND(s:ByteArray)(t:List Nat):∀(f i k:Nat),nG s t f i=some k->k+t.length<=s.size:=by
 intro f
 induction f with
 |zero=>intro i k h;cases h
 |succ f a=>
  intro i k h;rw[nG]at h;cases hp:cY s i t with
  |true=>rw[hp]at h;cases h;exact DI hp
  |false=>
   grind
theorem Dt(s:ByteArray):∀(f i:Nat)(aD:Bool),i<=s.size->i<=(cF s f i aD).2.1/\(cF s f i aD).2.1<=s.size:=by
 intro f
 induction f with
 |zero=>intro i aD h;exact⟨bT _,h⟩
 |succ f g=>
  intro i aD h;rw[cF];by_cases hi:i<s.size
  ·rw[bv hi,aU];cases hn:cS s i with
   |none=>exact⟨bT _,h⟩
   |some d=>
    obtain⟨c,n⟩:=d;obtain⟨a,f2,f3⟩:=jO hn;have step:∀(j:Nat)(l:Bool),i<=j->j<=s.size->i<=(cF s f j l).2.1/\(cF s f j l).2.1<=s.size:=fun j l e b=>by
     grind
    dsimp only;cases hL c with
    |true=>exact step _ _ ae a
    |false=>
     rw[aM];cases rE c with
     |true=>exact step _ _ ae a
     |false=>
      rw[aM];cases e:cY s i [47,47]with
      |true=>
       rw[aU];have hl:=DR s (s.size+1) i h;grind
      |false=>
       rw[aM];cases b:cY s i [47,42]with
       |true=>
        rw[aU];have hp:=DI b;have hp:i+2<=s.size:=hp;cases hx:nG (s.extract (i+2) s.size) [42,47] (s.size+1) 0 with
        |none=>exact⟨bT _,h⟩
        |some k=>
         have hk:=ND _ _ _ _ _ hx;rw[gS,Nat.min_self]at hk;grind
       |false=>exact⟨bT _,h⟩
  simp[*]
theorem WA{p:Nat->Bool}(hi:i<s.size)(hp:p (bt s i)=true):i+1<=bE s p i/\bE s p i<=s.size:=by
 unfold bE;rw[gj,bv hi,hp];exact WC s p _ (i+1) hi
theorem W6(s:ByteArray)(mark:Nat):∀(f i:Nat)(o:List Nat),i<=s.size->i<=(gJ s mark f i o).1/\(gJ s mark f i o).1<=s.size:=by
 intro f
 induction f with
 |zero=>intro i o h;exact⟨bT _,h⟩
 |succ f e=>
  intro i o h;rw[gJ];cases hn:cS s i with
  |none=>exact⟨bT _,h⟩
  |some d=>
   obtain⟨c,n⟩:=d;obtain⟨a,f2,f3⟩:=jO hn;dsimp only;cases c==10||c==13 with
   |true=>exact⟨bT _,h⟩
   |false=>
    rw[aM];cases c==mark with
    |true=>exact⟨by simp[*],a⟩
    |false=>
     rw[aM];cases c==92 with
     |true=>
      rw[aU];rcases b:eo s (i+n)with⟨j,_|u⟩
      ·obtain⟨q1,q2,_⟩:=AV b a;grind
      ·obtain⟨q1,q2,_⟩:=AV b a;grind
     |false=>
      grind
theorem VO{j:Nat}(h:j<=s.size)(ok:(ps s j).2=true):j<=(ps s j).1/\(ps s j).1<=s.size:=by
 unfold ps at ok⊢;cases a:(bt s j|||32)==101 with
 |true=>
  rw[a,aU]at ok;rw[aU];have d:j<s.size:=by
   rcases Nat.lt_or_ge j s.size with h'|h'
   ·exact h'
   ·rw[ud h']at a;cases a
  cases b:(bt s (j+1)==43||bt s (j+1)==45)with
  |true=>
   rw[aU];have c:j+1<s.size:=uc (by
    intro e;rw[e]at b;cases b)
   have:=lR s bL (show j+2<=s.size by omega);exact⟨by show j<=bE s bL (j+2);omega,this.2⟩
  |false=>
   rw[aM];have:=lR s bL (show j+1<=s.size by omega);exact⟨by show j<=bE s bL (j+1);omega,this.2⟩
 |false=>exact⟨bT _,h⟩
theorem VP(hi:i<s.size)(h:gU s i=true)(ok:(dX s i).2=true):i+1<=(dX s i).1/\(dX s i).1<=s.size:=by
 rw[yN]at ok⊢;cases c:(bt s i==48&&(decide (i+1<s.size)&&(bt s (i+1)|||32)==120))with
 |true=>
  rw[aU];have a:i+1<s.size:=by
   grind
  have:=lR s fv (show i+2<=s.size by omega);omega
 |false=>
  rw[c,aM]at ok;rw[aM];unfold HA wg at ok⊢;have r:=lR s bL (Nat.le_of_lt hi);cases b:(decide (bE s bL i-i>1)&&bt s i==48)with
  |true=>rw[b]at ok;cases ok
  |false=>
   rw[b,aM]at ok;rw[aM];unfold yM at ok⊢;cases a:bt s (bE s bL i)==46 with
   |true=>
    rw[a,aU]at ok;rw[aU];have f:bE s bL i<s.size:=uc (by intro e;rw[e]at a;cases a);have d:=lR s bL (show bE s bL i+1<=s.size by omega);have:=VO d.2 ok;omega
   |false=>
    rw[a,aM]at ok;rw[aM];have:=VO r.2 ok;have hd:i+1<=bE s bL i:=by
     unfold gU at h;cases hd:bL (bt s i)with
     |true=>exact(WA hi hd).1
     |false=>
      grind
    omega
theorem DX{num:Nat->Nat}{k:Nat}{aD:Bool}{d:bh}(hi:i<s.size)(h:fl num s i aD=(k,some d)):i+1<=k/\k<=s.size:=by
 cases hl:fi (bt s i)with
 |true=>
  rw[yQ hl]at h;cases h;exact WA hi (by unfold gA;simp[*])
 |false=>
  cases hn:gU s i with
  |true=>
   rw[wj hl hn]at h;cases b:(dX s i).2 with
   |false=>rw[b]at h;cases h
   |true=>
    rw[b]at h;have:=VP hi hn b;grind
  |false=>
   cases c:(bt s i==34||bt s i==39)with
   |true=>
    rw[wk hl hn c]at h;have:=W6 s (bt s i) (s.size+1) (i+1) [] hi;unfold jA at h;grind
   |false=>
    rw[uy hl hn c]at h;cases a:eV.find? (fun m=>cY s i (dj m))with
    |none=>rw[a]at h;cases h
    |some m=>
     rw[a]at h;cases h;have e:cY s i (dj m)=true:=List.find?_some (p:=fun m=>cY s i (dj m)) a;have f:=DI e;have g:(dj m).length=m.size:=by unfold dj;simp
     have j:∀m∈eV,1<=m.size:=by decide+kernel
     grind
end
section
open Go
theorem Hk(l:List bh):(hO l).length=l.length*5:=by
 induction l with
 |nil=>rfl
 |cons d l a=>
  have:hO (d::l)=kA d++hO l:=rfl;rw[this,eS,a,sJ];show 5+l.length*5=_;omega
structure tV where
 K:bQ
 src:ByteArray
def co(K:bQ)(s:ByteArray):List bh×Int:=sT (iu K s) s
def i6(K:bQ)(s:ByteArray):Int×Int:=bif decide (s.size>8192) then (0,2) else ((co K s).2,50)
def sV:aQ where
 X:=tV
 Y:=Row ⊕ Unit
 args x:=[ai x.src]
 cond x:=aC 72 (nJ x.K)
 aO x F:=eH x.K F
 bZ x y:=match y with
  | .inl r=>x.src.size<=8192/\(co x.K x.src).2= -1/\bz 53 5 (hO (co x.K x.src).1) r/\(co x.K x.src).1.length<=x.src.size
  | .inr _=>x.src.size>8192\/0<=(co x.K x.src).2
 val x y:=match y with
  | .inl r=>.returned (.tuple #[.slice r.a r.n r.cap,.int .i64 0,.int .i64 0])
  | .inr _=>.returned (.tuple #[.slice none 0 0,.int .i64 (i6 x.K x.src).1,.int .i64 (i6 x.K x.src).2])
 post _ y:=match y with
  | .inl r=>[r.A]
  | .inr _=>[.d0]
 sum:=some (hU Row Unit)
structure vB where
 b:Nat
 i:Nat
 f:Nat
 aD:Bool
 r:Row
 ls:List bh
def B8(d:vB):Option Addr:=some ⟨d.b,0,none⟩
def afQ(x:tV)(F:ah):Nat->Option Inv:=fun
 |0=>some {X:=vB,P:=fun d=>x.src.size<=8192/\d.i<=x.src.size/\x.src.size<d.i+d.f/\bz 53 5 (hO d.ls) d.r/\d.ls.length<=d.i/\co x.K x.src=gB (iu x.K x.src) x.src d.f d.i d.aD d.ls,mu:=fun d=>x.src.size-d.i,lv:=fun d=>[(0,ai x.src),(5,ag (B8 d))],st:=fun d=>[F,af d.b [ai x.src,ad d.i,aj d.aD,au d.r.a d.r.n d.r.cap] 68,d.r.A]}
 |_=>none
structure Ag where
 b:Nat
 j:Nat
 m:Nat
 f:Nat
 aD:Bool
 r:Row
 ls:List bh
def Vp:(T:Type)×(Ag->T):=⟨Nat,fun d=>d.m⟩
def NQ(num:Nat->Nat)(s:ByteArray)(f j:Nat)(aD:Bool)(o:List bh):List bh×Int:=
 bif j==s.size then (o,-1) else match fl num s j aD with
  | (_,none)=>([],j)
  | (k,some x)=>gB num s f k false (o++[x])
def afP(x:tV)(F:ah):Nat->Option Inv:=fun
 |7=>some {X:=Ag,P:=fun d=>x.src.size<=8192/\d.j<=x.src.size/\d.m<=d.j/\x.src.size<d.m+(d.f+1)/\bz 53 5 (hO d.ls) d.r/\d.ls.length<=d.j/\co x.K x.src=NQ (iu x.K x.src) x.src d.f d.j d.aD d.ls,mu:=fun _=>0,lv:=fun d=>[(0,ai x.src),(5,ag (some ⟨d.b,0,none⟩))],st:=fun d=>[F,af d.b [ai x.src,ad d.j,aj d.aD,au d.r.a d.r.n d.r.cap] 68,d.r.A],gh:=some Vp}
 |_=>none
def HX(x:tV)(a:vB):=x.src.size<=8192/\a.i<=x.src.size/\x.src.size<a.i+a.f/\bz 53 5 (hO a.ls) a.r/\a.ls.length<=a.i/\co x.K x.src=gB (iu x.K x.src) x.src a.f a.i a.aD a.ls
def IE(F:ah)(a:vB)(x:tV):=[(0,F),(1,af a.b [ai x.src,ad ↑a.i,aj a.aD,au a.r.a a.r.n a.r.cap] 68),(2,a.r.A)]
def OZ(F:ah)(c:cC)(i:vB):=[(0,F),(1,af c.b [ai c.src,ad (↑(cF c.src (c.src.size+1) c.i.toNat c.aD).snd.fst:Int),aj (cF c.src (c.src.size+1) c.i.toNat c.aD).snd.snd,au c.oa c.on c.oc] 68),(2,i.r.A)]
def OY(x:tV)(a:Ag)(g:Nat):=(x.src.size<=8192/\a.j<=x.src.size/\a.m<=a.j/\x.src.size<a.m+(a.f+1)/\bz 53 5 (hO a.ls) a.r/\a.ls.length<=a.j/\co x.K x.src=NQ (iu x.K x.src) x.src a.f a.j a.aD a.ls)/\Vp.snd a=g
def IF(F:ah)(a:Ag)(x:tV):=[(0,F),(1,af a.b [ai x.src,ad ↑a.j,aj a.aD,au a.r.a a.r.n a.r.cap] 68),(2,a.r.A)]
theorem afS(x:tV)(F:ah)(G:sV.cond x)(u:sV.aO x F):aS ((x.src.size:Int)>8192) (ar sV x F (ax (tuple ⟨[au none 0 0,ad 0,ad 2]⟩)) [(0,F)]) (∀(j:Nat),(∃(a:vB),HX x a/\(ai x.src=ai x.src/\ag (bI j)=ag (B8 a)/\True)/\aE [(0,F),(4020,af j [ai x.src,ad 0,aj false,au none 0 0] 68)] (IE F a x))/\aT fun(i:vB)_=>HX x i->∃(g:Nat),(aC 35 pg/\true=true/\∃(c:cC),[ag (B8 i)]=[ag (gi c)]/\[af i.b [ai x.src,ad ↑i.i,aj i.aD,au i.r.a i.r.n i.r.cap] 68]=[af c.b (oC c) 68]/\tf c/\Gl (aH (IE F i x) [1])/\∀(b:Unit),True->aS ((cF c.src (c.src.size+1) c.i.toNat c.aD).fst>=0) (ar sV x F (ax (tuple ⟨[au none 0 0,ad (cF c.src (c.src.size+1) c.i.toNat c.aD).fst,ad 50]⟩)) (OZ F c i)) (∃(a:Ag),OY x a g/\(ai x.src=ai x.src/\ag (B8 i)=ag (some ⟨a.b,0,none⟩)/\True)/\aE (OZ F c i) (IF F a x)))/\aT fun(f:Ag)_=>OY x f g->aw f.b 1/\Br ((f.j:Int)==(x.src.size:Int)) (aw f.b 3/\ar sV x F (ax (tuple ⟨[au f.r.a f.r.n f.r.cap,ad 0,ad 0]⟩)) (IF F f x)) (aw f.b 1/\aC 36 wi/\true=true/\∃(d:n7),[ag (some ⟨f.b,0,none⟩)]=(lO d)/\[af f.b [ai x.src,ad ↑f.j,aj f.aD,au f.r.a f.r.n f.r.cap] 68,f.r.A]=[af d.b [ai d.src,ad ↑d.i,aj d.aD,au d.r.a d.r.n d.r.cap] 68,d.r.A]/\(d.i<d.src.size/\d.src.size<=1048570/\aC 72 (nJ d.K)/\bz 53 5 (hO d.ls) d.r/\d.r.n<=1048576)/\eH d.K (aH (IF F f x) [1,2])/\(∀(c:Row),(∃(b:Nat),∃(a:bh),fl (iu d.K d.src) d.src d.i d.aD=(b,some a)/\bz 53 5 (hO (d.ls++[a])) c)->∃(a:vB),HX x a/\(ai x.src=ai x.src/\ag (some ⟨f.b,0,none⟩)=ag (B8 a)/\True)/\aE [(0,F),(1,af d.b [ai d.src,ad (↑(fl (iu d.K d.src) d.src d.i d.aD).fst:Int),aj false,au c.a c.n c.cap] 68),(2,c.A)] (IE F a x)/\x.src.size-a.i<x.src.size-i.i)/\∀(a:Nat×Row),(fl (iu d.K d.src) d.src d.i d.aD).snd=none->ar sV x F (ax (tuple ⟨[au none 0 0,ad ↑f.j,ad 50]⟩)) [(0,F),(1,af d.b [ai d.src,ad ↑a.1,aj false,au a.snd.a a.2.n a.2.cap] 68),(2,a.snd.A)])):=by
 delta HX bI B8 IE gi oC tf OZ OY IF lO aH aw ad ai aj ag au af aS ax aT;have E:aC 72 (nJ x.K):=G;replace u:eH x.K F:=u;refine bo (fun h=>⟨.inr (),.inl ae,?_,az [9,0]⟩) (fun h=>?_)
 ·show returned _=returned (.tuple #[.slice none 0 0,.int .i64 (i6 x.K x.src).1,.int .i64 (i6 x.K x.src).2]);unfold i6;grind
 have hs:x.src.size<=8192:=ae;have fail:∀(p:Int)(A B:ah),(co x.K x.src).2=p->0<=p->ar sV x F (returned (tuple #[slice none 0 0,int i64 p,int i64 50])) [(0,F),(1,A),(2,B)]:=fun p A B e hp=>
  ⟨.inr (),.inr ae,by show returned _=returned (.tuple #[.slice none 0 0,.int .i64 (i6 x.K x.src).1,.int .i64 (i6 x.K x.src).2]);unfold i6;rw[bF (show ¬x.src.size>8192 by omega),e];rfl,az [9,0]⟩
 intro b;refine⟨⟨⟨b,0,x.src.size+1,false,⟨none,0,0,.d0⟩,[]⟩,⟨hs,df _,by simp[*],.nil rfl,df _,rfl⟩,aV,az [0,4020,9]⟩,?_⟩;rintro⟨b,i,f,aD,r,ls⟩ P ⟨g1,z,g3,g4,D,q⟩;dsimp only at g1 z g3 g4 D q⊢;obtain⟨v,rfl⟩:∃v,f=v+1:=⟨f-1,ae⟩;have s:=Dt x.src (x.src.size+1) i aD z;refine⟨i,br abc ⟨b,x.src,(i:Int),aD,r.a,r.n,r.cap⟩ ⟨by simp[*],by simp[*],by grind⟩ (Gl.rest (j:=0) aL u.gl) fun _ _=>?_,?_⟩
 ·dsimp only;rw[cw];rw[gB]at q;revert s q;generalize cF x.src (x.src.size+1) i aD=B;obtain⟨at_,j,Hm⟩:=B;intro q s;dsimp only at s q⊢;refine bo (fun h=>fail at_ _ _ ?_ h) (fun h=>⟨⟨b,j,i,v,Hm,r,ls⟩,⟨⟨hs,s.2,s.1,g3,g4,by grind,?_⟩,rfl⟩,aV,az [0,1,2]⟩)
  ·simp[*]
  ·rw[q,bF h];rfl
 ·rintro⟨b,j,m,f2,l,y,o⟩ J ⟨⟨Q,K,L,M,w,N,n⟩,C⟩;have C:m=i:=C;dsimp only at K L M w N n⊢;have I:y.n=o.length:=by have:=w.len;rw[Hk]at this;omega
  unfold NQ at n;refine⟨aq,aG (fun h=>?_) (fun h=>?_)⟩
  ·rw[fL x.src.size h,aU]at n;exact⟨aq,.inl y,⟨hs,by rw[n],by grind,by grind⟩,rfl,az [2,0]⟩
  ·have H:=dU.1 (fL x.src.size h);rw[fL x.src.size h,aM]at n;refine⟨aq,agM,rfl,⟨x.K,b,x.src,j,l,y,o⟩,rfl,rfl,⟨by grind,by grind,E,w,by grind⟩,eH.rest (j:=0) aL u,?_,?_⟩
   ·rintro a ⟨k,d,e,t⟩;replace e:fl (iu x.K x.src) x.src j l=(k,some d):=e;obtain⟨R,O⟩:=DX (show j<x.src.size by omega) e;rw[e]at n;exact⟨⟨b,k,f2,false,a,o++[d]⟩,⟨hs,O,by grind,t,by grind,n⟩,aV,aE.pick [0,1,2] rfl (by dsimp only;rw[e];rfl),by grind⟩
   grind
theorem afR:aC 20 sV:=fo 38 Tryz.func20 (fun _ _=>[(3,2,.n 4020),(4,1,.c pg [1] [1]),(10,1,.c wi [1,2] [1,2])]) [(7,3,aR 1),(8,3,aR 1),(9,3,aR 1)] afQ afP bA [] afS
end
section
open Go
def c5(set:ByteArray)(b:Nat):Bool:=decide (Lib.indexByte set.data.toList (UInt8.ofNat b)>=0)
def qx:aQ where
 X:=gq
 args x:=[ai x.a,ai x.b]
 cond x:=x.a.size<=1099511627776
 val x _:=ax (ad (bE x.a (c5 x.b) 0:Nat))
structure C1 where
 i:Nat
 f:Nat
def ai2(x:gq)(F:ah):Nat->Option Inv:=fun
 |0=>some {X:=C1,P:=fun d=>d.i<=x.a.size/\x.a.size<d.i+d.f/\bE x.a (c5 x.b) 0=gj x.a (c5 x.b) d.f d.i,mu:=fun d=>x.a.size-d.i,lv:=fun d=>[(0,ai x.a),(1,ai x.b),(5,ad d.i)],st:=fun _=>[F]}
 |_=>none
def IM(a:C1)(x:gq):=a.i<=x.a.size/\x.a.size<a.i+a.f/\bE x.a (c5 x.b) 0=gj x.a (c5 x.b) a.f a.i
theorem ai3(x:gq)(F:ah)(l:qx.cond x)(n:qx.aO x F):(∃(a:C1),IM a x/\(ai x.a=ai x.a/\ai x.b=ai x.b/\ad 0=ad ↑a.i/\True)/\aE [(0,F)] [(0,F)])/\aT fun(e:C1)_=>IM e x->aS ((e.i:Int)<(x.a.size:Int)) ((0<=(e.i:Int)/\(e.i:Int)<(x.a.size:Int))/\xW 100 [ai x.b,a8 (aF x.a (e.i:Int))] (fun c b=>aS (Lib.indexByte c.s.data.toList (UInt8.ofNat c.c)>=0) (((-9223372036854775808:Int)<=(e.i:Int)+1/\(e.i:Int)+1<=(9223372036854775807:Int))/\∃(a:C1),IM a x/\(ai x.a=ai x.a/\ai x.b=ai x.b/\ad ((e.i:Int)+1)=ad ↑a.i/\True)/\aE [(0,F)] [(0,F)]/\x.a.size-a.i<x.a.size-e.i) (ar qx x F (ax (ad ↑e.i)) [(0,F)]))) (ar qx x F (ax (ad ↑e.i)) [(0,F)]):=by
 delta IM xW ad a8 ai aS ax aT;obtain⟨s,set⟩:=x;have hs:s.size<=1099511627776:=l;dsimp only;refine⟨⟨⟨0,s.size+1⟩,⟨df _,by simp[*],rfl⟩,aV,az [0]⟩,?_⟩;rintro⟨i,f⟩ o ⟨j,k,h⟩;dsimp only at j k h⊢;obtain⟨d,rfl⟩:∃d,f=d+1:=⟨f-1,ae⟩;have fin:gj s (c5 set) (d+1) i=i->ar qx ⟨s,set⟩ F (returned (int i64 (i:Int))) [(0,F)]:=fun e=>
  ⟨(),ao,by show returned _=returned (.int .i64 (bE s (c5 set) 0:Nat));simp[*],az [0]⟩
 refine bo (fun g=>⟨⟨ae,g⟩,NC,rfl,⟨set,bt s i⟩,by rw[f_,cw],rfl,g0 _ _,ao,fun _ _=>aG (fun e=>?_) (fun e=>?_)⟩) (fun m=>fin ?_)
 ·have e:c5 set (bt s i)=true:=e;exact⟨aK,⟨i+1,d⟩,⟨by grind,by grind,h.trans (by rw[gj,bv (show i<s.size by omega),e];rfl)⟩,aV,az [0],by grind⟩
 ·have e:c5 set (bt s i)=false:=e;exact fin (by rw[gj,bv (show i<s.size by omega),e];rfl)
 ·rw[gj,bF (show ¬i<s.size by omega)];rfl
theorem Kc:aC 85 qx:=fo 21 Tryz.func85 (fun _ _=>[(2,9,aW rC)]) [] ai2 aY bA [] ai3
def sB(u:Int):Bool:=(decide (u>=9)&&decide (u<=13))||(u==32||(u==160||u==65279))
structure CQ where
 u:Int
def rv:aQ where
 X:=CQ
 args x:=[ad x.u]
 val x _:=ax (aj (sB x.u))
def Pm(x:CQ)(F:ah):=Br (x.u==32) (ar rv x F fm [(0,F)]) (Br (x.u==160) (ar rv x F fm [(0,F)]) (ar rv x F (ax (aj (x.u==65279))) [(0,F)]))
theorem aba(x:CQ)(F:ah)(a:rv.cond x)(c:rv.aO x F):aS (x.u>=9) (aS (x.u<=13) (ar rv x F fm [(0,F)]) (Pm x F)) (Pm x F):=by
 delta fm Pm aj aS ax;obtain⟨u⟩:=x;dsimp only;have fin:∀b,sB u=b->ar rv ⟨u⟩ F (returned (bool b)) [(0,F)]:=fun b e=>
  ⟨(),ao,by show returned _=returned (.bool (sB u));rw[e],az [0]⟩
 repeat (first
  |exact fin _ (by unfold sB;simp only[*,bv,bF,Bool.true_and,Bool.true_or,jk,Bool.false_or,not_false_eq_true])
  |refine aG (fun _=>?_) (fun _=>?_))
theorem Tp:aC 98 rv:=fo 21 Tryz.func98 (fun _ _=>[]) [] aY aY bA [] aba
def iI:ByteArray:=⟨#[48,49,50,51,52,53,54,55,56,57]⟩
def ff(s:ByteArray)(n:Nat):ByteArray:=s.extract n s.size
def p7(s:ByteArray):Bool:=decide (bE s (c5 iI) 0>0)&&bE s (c5 iI) 0==s.size
def Dy(s:ByteArray):ByteArray:=bif decide (s.size>0)&&(bt s 0==43||bt s 0==45) then ff s 1 else s
def AS(s:ByteArray):Bool:=bif decide (s.size>0)&&(bt s 0==101||bt s 0==69) then p7 (Dy (ff s 1)) else s.size==0
def iG(s:ByteArray):Bool:=
 let a:=bE s (c5 iI) 0
 let s1:=ff s a
 bif jm s1 ⟨#[46]⟩ then
  let b:=bE (ff s1 1) (c5 iI) 0
  bif a+b==0 then false else AS (ff s1 (1+b))
 else bif a==0 then false else AS s1
def ph:aQ where
 X:=gq
 args x:=[ai x.a]
 cond x:=x.a.size<=1099511627776
 val x _:=ax (aj (iG x.a))
theorem yj(s:ByteArray)(n:Nat):(ff s n).size=s.size-n:=by unfold ff;rw[gS];omega
theorem Bi(a b:Nat):(a==b)=((a:Int)==(b:Int)):=by
 grind
theorem Kz(s:ByteArray):(s.toList==(ByteArray.mk #[]).toList)=(s.size==0):=by
 have a:=xj s;grind
structure nZ where
 a:Nat
 b:Nat
 t:ByteArray
def ab1(x:gq)(F:ah):Nat->Option Inv:=fun
 |7=>some {X:=nZ,P:=fun d=>d.t.size<=x.a.size/\d.a<=x.a.size/\d.b<=x.a.size/\iG x.a=bif d.a+d.b==0 then false else AS d.t,mu:=fun _=>0,lv:=fun d=>[(0,ai d.t),(3,ad d.a),(4,ad d.b)],st:=fun _=>[F]}
 |11=>some {X:=nZ,P:=fun d=>d.t.size<=x.a.size/\iG x.a=p7 (Dy d.t),mu:=fun _=>0,lv:=fun d=>[(0,ai d.t)],st:=fun _=>[F]}
 |13=>some {X:=nZ,P:=fun d=>d.t.size<=x.a.size/\iG x.a=p7 d.t,mu:=fun _=>0,lv:=fun d=>[(0,ai d.t)],st:=fun _=>[F]}
 |_=>none
def Ax(aa:List Value)(a:gq->Unit->Prop):=aC 85 qx/\true=true/\∃(z:gq),aa=[ai z.a,ai z.b]/\([]:List ah)=[]/\z.a.size<=1099511627776/\True/\∀(b:Unit),True->a z b
def Qg(z:nZ)(e0:gq):=z.t.size<=e0.a.size/\z.a<=e0.a.size/\z.b<=e0.a.size/\(iG e0.a=bif z.a+z.b==0 then false else AS z.t)
def Mo(e0:gq)(e1:ah)(v0 v1 v2:Value)(a:St):=∃(z:nZ),Qg z e0/\(v0=ai z.t/\v1=ad ↑z.a/\v2=ad ↑z.b/\True)/\aE a [(0,e1)]
def Jw(j:gq):=ad (↑(bE j.a (c5 j.b) 0):Int)
def EO(f:nZ):=(0:Int)<=(0:Int)/\0<(f.t.size:Int)
def IR(h:nZ):=(0:Int)<=(1:Int)/\1<=(h.t.size:Int)/\(h.t.size:Int)<=(h.t.size:Int)
def S5(e0:gq)(e1:ah)(v0:Value)(a:St):=∃(z:nZ),(z.t.size<=e0.a.size/\iG e0.a=p7 (Dy z.t))/\(v0=ai z.t/\True)/\aE a [(0,e1)]
def I2(h:nZ):=ai (h.t.extract (Int.toNat (1:Int)) (h.t.size:Int).toNat)
def Dc(e0:gq)(e1:ah)(v0:Value)(a:St):=∃(z:nZ),(z.t.size<=e0.a.size/\iG e0.a=p7 z.t)/\(v0=ai z.t/\True)/\aE a [(0,e1)]
def Pe(h:nZ)(x:gq)(F:ah):=(IR h/\S5 x F (I2 h) [(0,F)])/\aT fun(f:nZ)_=>(f.t.size<=x.a.size/\iG x.a=p7 (Dy f.t))->Br (!f.t.toList==oJ.toList) (EO f/\Br (aF f.t (0:Int)==(43:Int)) (IR f/\Dc x F (I2 f) [(0,F)]) (EO f/\Br (aF f.t (0:Int)==(45:Int)) (IR f/\Dc x F (I2 f) [(0,F)]) (Dc x F (ai f.t) [(0,F)]))) (Dc x F (ai f.t) [(0,F)])/\aT fun(d:nZ)_=>(d.t.size<=x.a.size/\iG x.a=p7 d.t)->Ax [ai d.t,ai ⟨#[48,49,50,51,52,53,54,55,56,57]⟩] (fun b a=>aS ((↑(bE b.a (c5 b.b) 0):Int)>0) (ar ph x F (ax (aj ((↑(bE b.a (c5 b.b) 0):Int)==(d.t.size:Int)))) [(0,F)]) (ar ph x F cV [(0,F)]))
theorem ab3(x:gq)(F:ah)(N:ph.cond x)(P:ph.aO x F):Ax [ai x.a,ai ⟨#[48,49,50,51,52,53,54,55,56,57]⟩] (fun j i=>(0<=(↑(bE j.a (c5 j.b) 0):Int)/\(↑(bE j.a (c5 j.b) 0):Int)<=(x.a.size:Int)/\(x.a.size:Int)<=(x.a.size:Int))/\tY 50 [ai (x.a.extract (↑(bE j.a (c5 j.b) 0):Int).toNat (x.a.size:Int).toNat),ai ⟨#[46]⟩] (fun e d=>Br (jm e.a e.b) (((0:Int)<=(1:Int)/\1<=(↑(x.a.extract (↑(bE j.a (c5 j.b) 0):Int).toNat (x.a.size:Int).toNat).size:Int)/\(↑(x.a.extract (↑(bE j.a (c5 j.b) 0):Int).toNat (x.a.size:Int).toNat).size:Int)<=(↑(x.a.extract (↑(bE j.a (c5 j.b) 0):Int).toNat (x.a.size:Int).toNat).size:Int))/\Ax [ai ((x.a.extract (↑(bE j.a (c5 j.b) 0):Int).toNat (x.a.size:Int).toNat).extract (Int.toNat (1:Int)) (↑(x.a.extract (↑(bE j.a (c5 j.b) 0):Int).toNat (x.a.size:Int).toNat).size:Int).toNat),ai ⟨#[48,49,50,51,52,53,54,55,56,57]⟩] (fun c b=>bM (1+(↑(bE c.a (c5 c.b) 0):Int))/\((0:Int)<=1+(↑(bE c.a (c5 c.b) 0):Int)/\1+(↑(bE c.a (c5 c.b) 0):Int)<=(↑(x.a.extract (↑(bE j.a (c5 j.b) 0):Int).toNat (x.a.size:Int).toNat).size:Int)/\(↑(x.a.extract (↑(bE j.a (c5 j.b) 0):Int).toNat (x.a.size:Int).toNat).size:Int)<=(↑(x.a.extract (↑(bE j.a (c5 j.b) 0):Int).toNat (x.a.size:Int).toNat).size:Int))/\Mo x F (ai ((x.a.extract (↑(bE j.a (c5 j.b) 0):Int).toNat (x.a.size:Int).toNat).extract (1+(↑(bE c.a (c5 c.b) 0):Int)).toNat (↑(x.a.extract (↑(bE j.a (c5 j.b) 0):Int).toNat (x.a.size:Int).toNat).size:Int).toNat)) (Jw j) (Jw c) [(0,F)])) (Mo x F (ai (x.a.extract (↑(bE j.a (c5 j.b) 0):Int).toNat (x.a.size:Int).toNat)) (Jw j) (ad 0) [(0,F)]))/\aT fun(h:nZ)_=>Qg h x->bM ((h.a:Int)+(h.b:Int))/\Br ((h.a:Int)+(h.b:Int)==0) (ar ph x F cV [(0,F)]) (Br (!h.t.toList==oJ.toList) (EO h/\Br (aF h.t (0:Int)==(101:Int)) (Pe h x F) (EO h/\Br (aF h.t (0:Int)==(69:Int)) (Pe h x F) (ar ph x F (ax (aj (h.t.toList==oJ.toList))) [(0,F)]))) (ar ph x F (ax (aj (h.t.toList==oJ.toList))) [(0,F)]))):=by
 delta Ax tY Qg Mo Jw c6 cV oJ EO IR S5 I2 Dc Pe bM ad ai aj aS ax aT;obtain⟨s,s'⟩:=x;have hs:s.size<=1099511627776:=N;dsimp only;have fin:∀b,iG s=b->ar ph ⟨s,s'⟩ F (returned (bool b)) [(0,F)]:=fun b e=>
  ⟨(),ao,by show returned _=returned (.bool (iG s));rw[e],az [0]⟩
 have H:=lR s (c5 iI) (df s.size);have m:(s.extract (bE s (c5 iI) 0:Int).toNat (s.size:Int).toNat)=ff s (bE s (c5 iI) 0):=by rfl
 refine bO Kc ⟨s,iI⟩ hs fun _ _=>⟨⟨ae,by simp[*],cD _⟩,?_,?_⟩
 ·dsimp only;rw[m];have o:=yj s (bE s (c5 iI) 0);have e0:iG s=bif jm (ff s (bE s (c5 iI) 0)) ⟨#[46]⟩ then
    (bif bE s (c5 iI) 0+bE (ff (ff s (bE s (c5 iI) 0)) 1) (c5 iI) 0==0 then false else AS (ff (ff s (bE s (c5 iI) 0)) (1+bE (ff (ff s (bE s (c5 iI) 0)) 1) (c5 iI) 0)))
   else bif bE s (c5 iI) 0==0 then false else AS (ff s (bE s (c5 iI) 0)):=rfl
  generalize ff s (bE s (c5 iI) 0)=s1 at o e0⊢;generalize bE s (c5 iI) 0=a at o e0 H⊢;clear m;refine kV DJ ⟨s1,⟨#[46]⟩⟩ fun _ _=>aG (fun h=>?_) (fun h=>?_)
  ·have h:jm s1 ⟨#[46]⟩=true:=h;have n:1<=s1.size:=by
    unfold jm at h;rw[gx,decide_eq_true_eq]at h;exact h.1
   rw[h,aU]at e0;have B:(s1.extract (Int.toNat 1) (s1.size:Int).toNat)=ff s1 1:=by rfl
   rw[B];have I:=lR (ff s1 1) (c5 iI) (df _);have J:=yj s1 1;generalize ff s1 1=s2 at I J e0⊢;refine⟨⟨ae,ae,cD _⟩,Kc,rfl,⟨s2,iI⟩,rfl,rfl,by grind,ao,fun _ _=>?_⟩;dsimp only;generalize bE s2 (c5 iI) 0=b at I e0⊢;have K:=yj s1 (1+b);have C:s1.extract (1+(b:Int)).toNat (s1.size:Int).toNat=ff s1 (1+b):=by
    rfl
   rw[C];generalize ff s1 (1+b)=O at K e0⊢;exact⟨aK,⟨ae,ae,cD _⟩,⟨a,b,O⟩,⟨by grind,by simp[*],by grind,e0⟩,aV,az [0]⟩
  ·have h:jm s1 ⟨#[46]⟩=false:=h;rw[h,aM]at e0;exact⟨⟨a,0,s1⟩,⟨by simp[*],by simp[*],df _,e0⟩,aV,az [0]⟩
 clear H m;rintro⟨a,b,t⟩ G ⟨n,g,M,q⟩;dsimp only at n g M q⊢;have tail:∀t:ByteArray,t.size<=s.size->iG s=p7 t->aC 85 qx/\true=true/\∃x:gq,[string t,string iI]=[string x.a,string x.b]/\([]:List ah)=[]/\x.a.size<=1099511627776/\True/\∀_:Unit,True->Br (decide ((bE x.a (c5 x.b) 0:Int)>0)) (ar ph ⟨s,s'⟩ F (returned (bool ((bE x.a (c5 x.b) 0:Int)==(t.size:Int)))) [(0,F)]) (ar ph ⟨s,s'⟩ F (returned (bool false)) [(0,F)]):=by
  intro t Q e;refine bO Kc ⟨t,iI⟩ (by grind) fun _ _=>bo (fun h=>fin _ ?_) (fun h=>fin _ ?_)
  ·rw[e];unfold p7;grind
  ·rw[e];unfold p7;grind
 have p:(a+b==0)=((a:Int)+(b:Int)==0):=by grind
 rw[p]at q;refine⟨aK,aG (fun D=>fin _ (by simp[*])) (fun D=>?_)⟩;rw[D,aM]at q;have l:iG s=bif decide (t.size>0)&&(bt t 0==101||bt t 0==69) then p7 (Dy (ff t 1)) else t.size==0:=q
 clear q D p;refine aG (fun f=>?_) (fun f=>fin _ ?_)
 ·rw[xj]at f;have r:=j7 f;rw[f,Bool.true_and]at l;have w:∀c:Nat,((bt t 0:Int)==(c:Int))=(bt t 0==c):=fun c=>(Bi _ _).symm;refine⟨⟨cD _,ae⟩,kL (A:=(bt t 0==101||bt t 0==69)=true) (fun k=>aG (fun h=>k ?_) (fun h=>⟨⟨cD _,ae⟩,aG (fun g=>k ?_) (fun g=>fin _ ?_)⟩)) (fun y=>?_)⟩
  ·rw[f_,Int.toNat_zero]at h;grind
  ·rw[f_,Int.toNat_zero]at g;grind
  ·rw[f_,Int.toNat_zero]at h g;rw[show(bt t 0==101)=false from(w 101).symm.trans h,show(bt t 0==69)=false from(w 69).symm.trans g,Bool.or_self,aM]at l;rw[l,Kz]
  rw[y,aU]at l;have o:=yj t 1;have m:t.extract (Int.toNat 1) (t.size:Int).toNat=ff t 1:=by rfl
  rw[m];generalize ff t 1=u at o l⊢;refine⟨⟨⟨ae,ae,cD _⟩,⟨0,0,u⟩,⟨by grind,l⟩,⟨rfl,ao⟩,az [0]⟩,?_⟩;clear m o l y w r f n u;rintro⟨_,_,u⟩ G ⟨n,E⟩;dsimp only at n E⊢;have z:iG s=p7 (bif decide (u.size>0)&&(bt u 0==43||bt u 0==45) then ff u 1 else u):=E;have w:∀c:Nat,((bt u 0:Int)==(c:Int))=(bt u 0==c):=fun c=>(Bi _ _).symm;have o:=yj u 1;have m:u.extract (Int.toNat 1) (u.size:Int).toNat=ff u 1:=by rfl
  rw[m];refine⟨aG (fun f=>?_) (fun f=>⟨⟨0,0,u⟩,⟨n,?_⟩,⟨rfl,ao⟩,az [0]⟩),?_⟩
  ·rw[xj]at f;have r:=j7 f;rw[f,Bool.true_and]at z;refine⟨⟨cD _,ae⟩,kL (A:=(bt u 0==43||bt u 0==45)=true) (fun k=>aG (fun h=>k ?_) (fun h=>⟨⟨cD _,ae⟩,aG (fun g=>k ?_) (fun g=>⟨⟨0,0,u⟩,⟨n,?_⟩,⟨rfl,ao⟩,az [0]⟩)⟩)) (fun y=>?_)⟩
   ·rw[f_,Int.toNat_zero]at h;grind
   ·rw[f_,Int.toNat_zero]at g;grind
   ·rw[f_,Int.toNat_zero]at h g;grind
   ·rw[y,aU]at z;exact⟨⟨ae,ae,cD _⟩,⟨0,0,ff u 1⟩,⟨by grind,z⟩,⟨rfl,ao⟩,az [0]⟩
  ·rw[xj]at f;grind
  ·rintro⟨_,_,v⟩ G ⟨g,L⟩;exact tail v g L
 ·rw[xj]at f;rw[f,jk,aM]at l;rw[l,Kz]
theorem ab2:aC 87 ph:=fo 64 Tryz.func87 (fun _ _=>[(1,1,aW qx),(4,1,aW nF),(5,2,aW qx),(13,1,aW qx)]) [] aY ab1 bA [] ab3
end
section
open Go
theorem or8{a b:Nat}(e:a<256)(f:b<256):i64.wrap (↑(BitVec.ofInt i64.bits (i64.wrap ((a:Int)*2^min (Int.toNat 8) i64.bits))|||BitVec.ofInt i64.bits (b:Int)).toNat:Int)=((a*256+b:Nat):Int):=by
 have e1:((a:Int)*2^min (Int.toNat 8) i64.bits)=((a*256:Nat):Int):=by
  show(a:Int)*256=_;omega
 rw[e1,dz (i:=.i64) (n:=((a*256:Nat):Int)) (by simp only[sO];omega),BitVec.ofInt_natCast,BitVec.ofInt_natCast,BitVec.toNat_or,BitVec.toNat_ofNat,BitVec.toNat_ofNat];have c:i64.bits=64:=rfl;rw[c,Nat.mod_eq_of_lt ae,Nat.mod_eq_of_lt ae];have d:a*256|||b=a*256+b:=by
  have:=Nat.shiftLeft_add_eq_or_of_lt (i:=8) (b:=b) ae a;rw[Nat.shiftLeft_eq]at this;exact this.symm
 rw[d];exact dz (by simp only[sO];omega)
def hW(s:ByteArray)(i:Nat):Nat:=bif decide (i<s.size/2) then bt s (2*i)*256+bt s (2*i+1) else 0
def yF:aQ where
 X:=gq
 args x:=[ai x.a]
 cond x:=x.a.size<=1099511627776
 val x _:=ax (ad (x.a.size/2:Nat))
theorem afe(x:gq)(F:ah)(a:yF.cond x)(c:yF.aO x F):(2:Int)≠(0:Int)/\((-9223372036854775808:Int)<=(x.a.size:Int).tdiv (2:Int)/\(x.a.size:Int).tdiv (2:Int)<=(9223372036854775807:Int))/\ar yF x F (ax (ad ((x.a.size:Int).tdiv (2:Int)))) [(0,F)]:=by
 delta ad ax;have e:(x.a.size:Int).tdiv 2=((x.a.size/2:Nat):Int):=by
  rw[Int.tdiv_eq_ediv_of_nonneg ae];omega
 have b:(x.a.size/2:Nat)<=9223372036854775807:=by
  have:x.a.size<=1099511627776:=a;omega
 exact⟨by decide,aK,(),ao,by rw[e];rfl,az [0]⟩
theorem U8:aC 95 yF:=fo 6 Tryz.func95 (fun _ _=>[]) [] aY aY bA [] afe
structure KQ where
 s:ByteArray
 i:Nat
def vQ:aQ where
 X:=KQ
 args x:=[ai x.s,ad x.i]
 cond x:=x.s.size<=1099511627776/\x.i<=1099511627776
 val x _:=.returned (.tuple #[.int .i64 (hW x.s x.i),.bool (decide (x.i<x.s.size/2))])
def Gq(aa:List Value)(a:gq->Unit->Prop):=aC 95 yF/\true=true/\∃(z:gq),aa=[ai z.a]/\([]:List ah)=[]/\z.a.size<=1099511627776/\True/\∀(b:Unit),True->a z b
def JU:=ax (tuple ⟨[ad 0,aj false]⟩)
theorem aaN(x:KQ)(F:ah)(j:vQ.cond x)(k:vQ.aO x F):Gq [ai x.s] (fun b a=>aS ((x.i:Int)>=(↑(b.a.size/2):Int)) (ar vQ x F JU [(0,F)]) (true=true/\bM (2*(x.i:Int))/\((0:Int)<=2*(x.i:Int)/\2*(x.i:Int)<(x.s.size:Int))/\bM (aF x.s (2*(x.i:Int)))/\bM (2*(x.i:Int))/\((-9223372036854775808:Int)<=2*(x.i:Int)+1/\2*(x.i:Int)+1<=(9223372036854775807:Int))/\((0:Int)<=2*(x.i:Int)+1/\2*(x.i:Int)+1<(x.s.size:Int))/\bM (aF x.s (2*(x.i:Int)+1))/\ar vQ x F (ax (tuple ⟨[ad (bU (↑(gQ (bU (aF x.s (2*(x.i:Int))*2^min (Int.toNat (8:Int)) i64.bits))|||gQ (aF x.s (2*(x.i:Int)+1))).toNat:Int)),aj true]⟩)) [(0,F)])):=by
 delta Gq JU bM ad ai aj gQ bU aS ax;obtain⟨s,i⟩:=x;obtain⟨c,g⟩:=j;dsimp only at c g⊢;have fin:∀(u:Int)(b:Bool),u=(hW s i:Int)->b=decide (i<s.size/2)->ar vQ ⟨s,i⟩ F (returned (tuple #[int i64 u,bool b])) [(0,F)]:=fun u b e1 f=>
  ⟨(),ao,by subst e1 f;rfl,az [0]⟩
 refine bO U8 ⟨s,s⟩ c fun _ _=>bo (fun h=>fin _ _ ?_ ?_) (fun h=>?_)
 ·dsimp only at h;unfold hW;rw[bF (show ¬i<s.size/2 by omega)];rfl
 ·dsimp only at h;exact(bF (show ¬i<s.size/2 by omega)).symm
 ·dsimp only at h;have e0:aF s (2*(i:Int))=(bt s (2*i):Int):=by rw[f_,show(2*(i:Int)).toNat=2*i by omega]
  have e1:aF s (2*(i:Int)+1)=(bt s (2*i+1):Int):=by rw[f_,show(2*(i:Int)+1).toNat=2*i+1 by omega]
  have d:=g0 s (2*i);have e:=g0 s (2*i+1);rw[e0,e1];refine⟨rfl,aK,aK,aK,aK,aK,aK,aK,fin _ _ ?_ ?_⟩
  ·rw[or8 d e];unfold hW;rw[bv (show i<s.size/2 by omega)];rfl
  ·exact(bv (show i<s.size/2 by omega)).symm
theorem aaM:aC 97 vQ:=fo 27 Tryz.func97 (fun _ _=>[(1,5,aW yF)]) [] aY aY bA [] aaN
end
section
open Go
structure FO where
 b:Nat
 s:ByteArray
 i:Nat
def uz:aQ where
 X:=FO
 args x:=[ad x.i,ag (some ⟨x.b,0,none⟩)]
 cond x:=x.s.size<=1099511627776/\x.i<=1099511627776
 aO x F:=aP F ⟨x.b,0,none⟩ (.string x.s)
 val x _:=ax (ad (hW x.s x.i))
theorem agU(x:FO)(F:ah)(d:uz.cond x)(e:uz.aO x F):T2 F ⟨x.b,0,none⟩ (fun c=>aC 97 vQ/\true=true/\∃(b:KQ),[ai c,ad ↑x.i]=[ai b.s,ad ↑b.i]/\([]:List ah)=[]/\(b.s.size<=1099511627776/\b.i<=1099511627776)/\True/\∀(a:Unit),True->ar uz x F (ax (ad (↑(hW b.s b.i):Int))) [(0,F)]):=by
 delta T2 ad ai ax;exact⟨x.s,e,aaM,rfl,⟨x.s,x.i⟩,rfl,rfl,d,ao,fun _ _=>im⟩
theorem HG:aC 96 uz:=fo 13 Tryz.func96 (fun _ _=>[(1,0,.q [.ex 0 .str]),(1,2,aW vQ)]) [] aY aY bA [] agU
def ed(s:ByteArray):Nat:=s.size/2
def zV(s:ByteArray)(e:Nat):Nat->Nat->Nat
 |0,i=>i
 |f+1,i=>bif decide (i<e)&&sB (hW s i) then zV s e f (i+1) else i
def ym(s:ByteArray)(b:Nat):Nat->Nat->Nat
 |0,e=>e
 |f+1,e=>bif decide (b<e)&&sB (hW s (e-1)) then ym s b f (e-1) else e
def yU(s:ByteArray)(e:Nat):Nat->Nat->List Nat->Option (List Nat)
 |0,_,o=>some o
 |f+1,i,o=>bif decide (i<e) then (bif decide (hW s i>127) then none else yU s e f (i+1) (o++[hW s i])) else some o
def mH(s:ByteArray):Nat:=zV s (ed s) (ed s+1) 0
def p9(s:ByteArray):Nat:=ym s (mH s) (ed s+1) (ed s)
def mV(s:ByteArray):Option (List Nat):=yU s (p9 s) (p9 s+1) (mH s) []
theorem Xi(s:ByteArray)(i:Nat):hW s i<65536:=by
 unfold hW;have a:=g0 s (2*i);have b:=g0 s (2*i+1);grind
def yZ:aQ where
 X:=e8
 args x:=[ai x.s]
 cond x:=x.s.size<=8388608
 val x _:=.returned (.tuple #[.string (cL ((mV x.s).getD [])),.bool (mV x.s).isSome])
structure gn where
 b:Nat
 i:Nat
 e:Nat
 f:Nat
 o:List Nat
 r:Row
def EV(d:gn)(x:e8):=af d.b [ai x.s] 9
def ahG(x:e8)(F:ah):Nat->Option Inv:=fun
 |0=>some {X:=gn,P:=fun d=>d.i<=ed x.s/\ed x.s<d.i+d.f/\mH x.s=zV x.s (ed x.s) d.f d.i,mu:=fun d=>ed x.s-d.i,lv:=fun d=>[(4,.int .i64 d.i),(5,.int .i64 (ed x.s:Nat)),(6,.func (.func 96) #[] #[.pointer (some ⟨d.b,0,none⟩)])],st:=fun d=>[F,EV d x]}
 |2=>some {X:=gn,P:=fun d=>d.i=mH x.s/\d.i<=d.e/\d.e<=ed x.s/\d.e<d.f/\p9 x.s=ym x.s d.i d.f d.e,mu:=fun d=>d.e,lv:=fun d=>[(4,.int .i64 d.i),(5,.int .i64 d.e),(6,.func (.func 96) #[] #[.pointer (some ⟨d.b,0,none⟩)])],st:=fun d=>[F,EV d x]}
 |4=>some {X:=gn,P:=fun d=>d.e=p9 x.s/\d.i<=d.e/\d.e<=ed x.s/\d.e<d.i+d.f/\bz 5 1 (bW d.o) d.r/\d.r.n<=d.i/\mV x.s=yU x.s d.e d.f d.i d.o,mu:=fun d=>d.e-d.i,lv:=fun d=>[(4,.int .i64 d.i),(5,.int .i64 d.e),(6,.func (.func 96) #[] #[.pointer (some ⟨d.b,0,none⟩)]),(7,.slice d.r.a d.r.n d.r.cap)],st:=fun d=>[F,EV d x,d.r.A]}
 |_=>none
def ahF(x:e8)(F:ah):Nat->Option Inv:=fun
 |5=>some {X:=gn,P:=fun d=>d.i=mH x.s/\d.i<=ed x.s,mu:=fun _=>0,lv:=fun d=>[(4,.int .i64 d.i),(5,.int .i64 (ed x.s:Nat)),(6,.func (.func 96) #[] #[.pointer (some ⟨d.b,0,none⟩)])],st:=fun d=>[F,EV d x]}
 |7=>some {X:=gn,P:=fun d=>d.i=mH x.s/\d.e=p9 x.s/\d.i<=d.e/\d.e<=ed x.s,mu:=fun _=>0,lv:=fun d=>[(4,.int .i64 d.i),(5,.int .i64 d.e),(6,.func (.func 96) #[] #[.pointer (some ⟨d.b,0,none⟩)])],st:=fun d=>[F,EV d x]}
 |_=>none
def I6(a:gn)(x:e8):=a.i<=ed x.s/\ed x.s<a.i+a.f/\mH x.s=zV x.s (ed x.s) a.f a.i
def nN(z:gn):List Value:=[ag (some ⟨z.b,0,none⟩)]
def mX(e1:ah)(z:gn)(e0:e8):=[(0,e1),(1,af z.b [ai e0.s] 9)]
def Dd(aa:List Value)(rr:ah)(a:FO->Unit->Prop):=aC 96 uz/\true=true/\∃(z:FO),aa=[ad ↑z.i,ag (some ⟨z.b,0,none⟩)]/\([]:List ah)=[]/\(z.s.size<=1099511627776/\z.i<=1099511627776)/\aP rr ⟨z.b,0,none⟩ (ai z.s)/\∀(b:Unit),True->a z b
def Jo(g:gn):List Value:=[ad ↑g.i,ag (some ⟨g.b,0,none⟩)]
def Mp(aa:List Value)(a:CQ->Unit->Prop):=aC 98 rv/\true=true/\∃(z:CQ),aa=[ad z.u]/\([]:List ah)=[]/\True/\True/\∀(b:Unit),True->a z b
def Qr(g:gn):=(-9223372036854775808:Int)<=(g.i:Int)+1/\(g.i:Int)+1<=(9223372036854775807:Int)
def Mq(e0:e8)(e1:ah)(v0 v1:Value)(a:St):=∃(z:gn),(z.i=mH e0.s/\z.i<=ed e0.s)/\(v0=ad ↑z.i/\ad (↑(ed e0.s):Int)=ad (↑(ed e0.s):Int)/\v1=func (Fn.func 96) ⟨[]⟩ ⟨nN z⟩/\True)/\aE a (mX e1 z e0)
def EK(g:gn):=func (Fn.func 96) ⟨[]⟩ ⟨nN g⟩
def IQ(a:gn)(x:e8):=a.i=mH x.s/\a.i<=a.e/\a.e<=ed x.s/\a.e<a.f/\p9 x.s=ym x.s a.i a.f a.e
def Qo(g:gn):=(-9223372036854775808:Int)<=(g.e:Int)-1/\(g.e:Int)-1<=(9223372036854775807:Int)
def Mr(e0:e8)(e1:ah)(v0 v1 v2:Value)(a:St):=∃(z:gn),(z.i=mH e0.s/\z.e=p9 e0.s/\z.i<=z.e/\z.e<=ed e0.s)/\(v0=ad ↑z.i/\v1=ad ↑z.e/\v2=func (Fn.func 96) ⟨[]⟩ ⟨nN z⟩/\True)/\aE a (mX e1 z e0)
def Ib(a:gn)(x:e8):=a.e=p9 x.s/\a.i<=a.e/\a.e<=ed x.s/\a.e<a.i+a.f/\bz 5 1 (bW a.o) a.r/\a.r.n<=a.i/\mV x.s=yU x.s a.e a.f a.i a.o
def wv(F:ah)(a:gn)(x:e8):=[(0,F),(1,af a.b [ai x.s] 9),(2,a.r.A)]
theorem ahI(x:e8)(F:ah)(O:yZ.cond x)(U:yZ.aO x F):∀(s:Nat),aw s 0/\Gq [ai x.s] (fun r q=>((∃(a:gn),I6 a x/\(ad 0=ad ↑a.i/\ad (↑(r.a.size/2):Int)=ad (↑(ed x.s):Int)/\func (Fn.func 96) ⟨[]⟩ ⟨[ag (bI s)]⟩=func (Fn.func 96) ⟨[]⟩ ⟨nN a⟩/\True)/\aE [(0,F),(1000,af s [ai x.s] 9)] (mX F a x))/\aT fun(g:gn)_=>I6 g x->aS ((g.i:Int)<(↑(ed x.s):Int)) (Dd (Jo g) (aH (mX F g x) []) (fun e d=>Mp [ad (↑(hW e.s e.i):Int)] (fun c b=>Br (sB c.u) (Qr g/\∃(a:gn),I6 a x/\(ad ((g.i:Int)+1)=ad ↑a.i/\ad (↑(ed x.s):Int)=ad (↑(ed x.s):Int)/\func (Fn.func 96) ⟨[]⟩ ⟨nN g⟩=func (Fn.func 96) ⟨[]⟩ ⟨nN a⟩/\True)/\aE (mX F g x) (mX F a x)/\ed x.s-a.i<ed x.s-g.i) (Mq x F (ad ↑g.i) (EK g) (mX F g x))))) (Mq x F (ad ↑g.i) (EK g) (mX F g x)))/\aT fun(p:gn)_=>(p.i=mH x.s/\p.i<=ed x.s)->((∃(a:gn),IQ a x/\(ad ↑p.i=ad ↑a.i/\ad (↑(ed x.s):Int)=ad ↑a.e/\func (Fn.func 96) ⟨[]⟩ ⟨nN p⟩=func (Fn.func 96) ⟨[]⟩ ⟨nN a⟩/\True)/\aE (mX F p x) (mX F a x))/\aT fun(g:gn)_=>IQ g x->aS ((g.i:Int)<(g.e:Int)) (Qo g/\Dd [ad ((g.e:Int)-1),ag (some ⟨g.b,0,none⟩)] (aH (mX F g x) []) (fun e d=>Mp [ad (↑(hW e.s e.i):Int)] (fun c b=>Br (sB c.u) (Qo g/\∃(a:gn),IQ a x/\(ad ↑g.i=ad ↑a.i/\ad ((g.e:Int)-1)=ad ↑a.e/\func (Fn.func 96) ⟨[]⟩ ⟨nN g⟩=func (Fn.func 96) ⟨[]⟩ ⟨nN a⟩/\True)/\aE (mX F g x) (mX F a x)/\a.e<g.e) (Mr x F (ad ↑g.i) (ad ↑g.e) (EK g) (mX F g x))))) (Mr x F (ad ↑g.i) (ad ↑g.e) (EK g) (mX F g x)))/\aT fun(n:gn)_=>(n.i=mH x.s/\n.e=p9 x.s/\n.i<=n.e/\n.e<=ed x.s)->bM ((n.e:Int)-(n.i:Int))/\T4 (ba Tryz.f83 7 3) [ad 0,ad ((n.e:Int)-(n.i:Int))] (fun l k=>(∃(a:gn),Ib a x/\(ad ↑n.i=ad ↑a.i/\ad ↑n.e=ad ↑a.e/\func (Fn.func 96) ⟨[]⟩ ⟨nN n⟩=func (Fn.func 96) ⟨[]⟩ ⟨nN a⟩/\au (bI k) l.n.toNat l.c.toNat=au a.r.a a.r.n a.r.cap/\True)/\aE [(0,F),(1,af n.b [ai x.s] 9),(8030,af k (ik [a8 0] l.c.toNat) 5)] (wv F a x))/\aT fun(j:gn)_=>Ib j x->aS ((j.i:Int)<(j.e:Int)) (Dd (Jo j) (aH (wv F j x) []) (fun h g=>aS ((↑(hW h.s h.i):Int)>127) (ar yZ x F qk (wv F j x)) (Dd (Jo j) (aH (wv F j x) []) (fun f e=>(0<=(↑(hW f.s f.i):Int)/\(↑(hW f.s f.i):Int)<=255)/\∀(d:Nat),T3 (ba Tryz.f83 12 6) [au j.r.a j.r.n j.r.cap,au (bI d) 1 1] [j.r.A] (aH [(0,F),(1,af j.b [ai x.s] 9),(2,j.r.A),(13050,af d [a8 (↑(hW f.s f.i):Int)] 5)] [2]) (fun c b=>Qr j/\∃(a:gn),Ib a x/\(ad ((j.i:Int)+1)=ad ↑a.i/\ad ↑j.e=ad ↑a.e/\func (Fn.func 96) ⟨[]⟩ ⟨nN j⟩=func (Fn.func 96) ⟨[]⟩ ⟨nN a⟩/\au b.a b.n b.cap=au a.r.a a.r.n a.r.cap/\True)/\aE [(0,F),(1,af j.b [ai x.s] 9),(2,b.A),(13050,af d [a8 (↑(hW f.s f.i):Int)] 5)] (wv F a x)/\a.e-a.i<j.e-j.i))))) (T8 (ba Tryz.f83 13 1) [au j.r.a j.r.n j.r.cap] (aH (wv F j x) []) (fun b a=>ar yZ x F (ax (tuple ⟨[ai (cL b.l),aj true]⟩)) (wv F j x))))):=by
 delta Gq I6 bI nN mX Dd Jo Mp Qr Mq EK IQ Qo Mr T4 Ib wv qk kF T3 T8 aH aw bM ad a8 ai aj ag au af aS ax aT;obtain⟨s⟩:=x;have hs:s.size<=8388608:=O;dsimp only;have T:ed s=s.size/2:=rfl;intro b;refine⟨aq,U8,rfl,⟨s,s⟩,rfl,rfl,by grind,ao,fun _ _=>⟨⟨⟨⟨b,0,0,ed s+1,[],dG⟩,⟨df _,by simp[*],rfl⟩,aV,az [0,1000]⟩,?_⟩,?_⟩⟩
 ·rintro⟨b,i,_,f,_,_⟩ G ⟨m,t,v⟩;dsimp only at m t v⊢;obtain⟨z,rfl⟩:∃z,f=z+1:=⟨f-1,ae⟩;have K:=Xi s i;have done:mH s=i->∃x:gn,(x.i=mH s/\x.i<=ed s)/\(int .i64 (i:Int)= .int .i64 (x.i:Int)/\int .i64 (ed s:Int)= .int .i64 (ed s:Int)/\func (.func 96) #[] #[.pointer (some ⟨b,0,none⟩)]=func (.func 96) #[] #[.pointer (some ⟨x.b,0,none⟩)]/\True)/\aE (bD [F,.cells b [.string s] 9]) (bD [F,.cells x.b [.string s] 9]):=fun e=>
   ⟨⟨b,i,0,0,[],dG⟩,⟨e.symm,m⟩,aV,aE.refl _⟩
  rw[zV]at v;refine bo (fun E=>br HG ⟨b,s,i⟩ ⟨by grind,by grind⟩ (aP.rest (j:=1) aL (aP.cells rfl)) fun _ _=>kV Tp ⟨hW s i⟩ fun _ _=>aG (fun w=>?_) (fun w=>done ?_)) (fun D=>done ?_)
  ·have w:sB (hW s i)=true:=w;rw[bv (show i<ed s by omega),w]at v;exact⟨aK,⟨b,i+1,0,z,[],dG⟩,⟨by grind,by grind,v⟩,aV,az [0,1],by grind⟩
  all_goals grind
 clear b;rintro⟨b,i,_,_,_,_⟩ G ⟨m,t⟩;dsimp only at m t⊢;refine⟨⟨⟨⟨b,i,ed s,ed s+1,[],dG⟩,⟨m,t,bT _,io _,by dsimp only;rw[m];rfl⟩,aV,az [0,1]⟩,?_⟩,?_⟩
 ·clear m t;rintro⟨b,i,e,f,_,_⟩ G ⟨m,t,v,C,A⟩;dsimp only at m t v C A⊢;obtain⟨z,rfl⟩:∃z,f=z+1:=⟨f-1,ae⟩;have K:=Xi s (e-1);have done:p9 s=e->∃x:gn,(x.i=mH s/\x.e=p9 s/\x.i<=x.e/\x.e<=ed s)/\(int .i64 (i:Int)= .int .i64 (x.i:Int)/\int .i64 (e:Int)= .int .i64 (x.e:Int)/\func (.func 96) #[] #[.pointer (some ⟨b,0,none⟩)]=func (.func 96) #[] #[.pointer (some ⟨x.b,0,none⟩)]/\True)/\aE (bD [F,.cells b [.string s] 9]) (bD [F,.cells x.b [.string s] 9]):=fun L=>
   ⟨⟨b,i,e,0,[],dG⟩,⟨m,L.symm,t,v⟩,aV,aE.refl _⟩
  rw[ym]at A;refine bo (fun E=>⟨aK,HG,rfl,⟨b,s,e-1⟩,by rw[show((e-1:Nat):Int)=(e:Int)-1 by omega],rfl,⟨by grind,by grind⟩,aP.rest (j:=1) aL (aP.cells rfl),fun _ _=>kV Tp ⟨hW s (e-1)⟩ fun _ _=>aG (fun w=>?_) (fun w=>done ?_)⟩) (fun D=>done ?_)
  ·have w:sB (hW s (e-1))=true:=w;rw[bv (show i<e by omega),w]at A;exact⟨aK,⟨b,i,e-1,z,[],dG⟩,⟨m,by grind,by grind,by grind,A⟩,⟨rfl,by rw[show((e-1:Nat):Int)=(e:Int)-1 by omega],rfl,ao⟩,az [0,1],by grind⟩
  all_goals grind
 clear m t;rintro⟨b,i,e,_,_,_⟩ G ⟨m,t,v,C⟩;dsimp only at m t v C⊢;have e0:((e:Int)-(i:Int))=((e-i:Nat):Int):=ae;rw[e0];refine⟨aK,DS (P:=Tryz.prog) [.int .u8 0] 1 rfl rfl rfl rfl rfl rfl aL rfl,rfl,⟨0,(e-i:Nat)⟩,rfl,rfl,⟨cD 0,by simp[*],by grind,by grind⟩,ao,fun H _=>⟨⟨⟨b,i,e,e+1,[],⟨some ⟨H,0,none⟩,0,((e-i:Nat):Int).toNat,.cells H (ik [.int .u8 0] ((e-i:Nat):Int).toNat) 5⟩⟩,⟨t,v,C,by grind,.fO H 0 _ (ik [.int .u8 0] _) rfl (by rw[eS,Sl];simp[bW]) (df _),df _,?_⟩,aV,az [0,1,8030]⟩,?_⟩⟩
 ·dsimp only;rw[m,t];rfl
 clear m t v C e0;rintro⟨b,i,e,f,o,r⟩ G ⟨m,t,v,C,A,M,B⟩;dsimp only at m t v C A M B⊢;obtain⟨z,rfl⟩:∃z,f=z+1:=⟨f-1,ae⟩;rw[yU]at B;have I:∀{S:St}{bG:List Nat},(1:Nat)∉bG->gt S 1= .cells b [.string s] 9->aP (.dq (rest S bG)) ⟨b,0,none⟩ (.string s):=fun h e=>aP.rest h (by rw[e];exact aP.cells rfl);refine bo (fun E=>?_) (fun D=>?_)
 ·rw[bv (show i<e by omega),aU]at B;refine br HG ⟨b,s,i⟩ ⟨by grind,by grind⟩ (I aL rfl) fun _ _=>bo (fun w=>?_) (fun w=>?_)
  ·dsimp only at w;rw[bv (show hW s i>127 by omega),aU]at B;exact⟨(),ao,by show returned _=returned (.tuple #[.string (cL ((mV s).getD [])),.bool (mV s).isSome]);rw[B];rfl,az [0]⟩
  ·dsimp only at w;rw[bF (show ¬hW s i>127 by omega),aM]at B;refine br HG ⟨b,s,i⟩ ⟨by grind,by grind⟩ (I aL rfl) fun _ _=>⟨⟨ae,by grind⟩,fun lb=>br (jE (P:=Tryz.prog) 1 1 rfl rfl rfl rfl rfl rfl rfl (by decide)) ⟨r,bW o,some ⟨lb,0,none⟩,1,1,bW [hW s i]⟩ ⟨A,rfl,fun _ h=>Sb h,by grind,by grind,aL⟩ (?_) (?_)⟩
   ·intro a N;cases N;exact c4.rest (j:=13050) aL (c4.cells (fun j u Q=>by rw[gT];exact Q))
   ·rintro y ⟨J,R,-⟩;dsimp only at J R;exact⟨aK,⟨b,i+1,e,z,o++[hW s i],y⟩,⟨m,by grind,v,by grind,by rw[KF];exact J,by simp[*],B⟩,aV,az [0,1,2],by grind⟩
 ·rw[bF (show ¬i<e by omega),aM]at B;exact br (GI rfl rfl rfl rfl) ⟨r.a,r.n,r.cap,o⟩ A.src (RM 2 aL rfl A) fun _ _=>⟨(),ao,by show returned _=returned (.tuple #[.string (cL ((mV s).getD [])),.bool (mV s).isSome]);simp[*],az [0]⟩
theorem ahH:aC 83 yZ:=fo 56 Tryz.func83 (fun _ _=>[(0,0,.n 1000),(1,0,aR 1000),(1,1,aW yF),(3,6,aW uz),(3,7,aW rv),(5,7,aW uz),(5,8,aW rv),(7,3,.o (uw 5 [.int .u8 0] 1) [] [8030]),(10,2,aW uz),(12,3,aW uz),(12,5,.n 13050),(12,6,.o (de 5 1 1) [2] [2]),(13,1,.o yd [] [])]) [] ahG ahF bA [] ahI
end
section
open Go
def wd:Nat:=9221120237041090561
def yI:aQ where
 X:=Unit
 args _:=[]
 val _ _:=ax (float f64 9221120237041090561)
def zi:=ax (float f64 9221120237041090561)
theorem agb(x:PUnit)(F:ah)(a:yI.cond x)(b:yI.aO x F):ar yI x F zi [(0,F)]:=by
 delta zi ax;exact im
theorem Vy:aC 84 yI:=fo 2 Tryz.func84 (fun _ _=>[(1,0,aX)]) [] aY aY bA [] agb
def D0(pf:ByteArray->Nat)(K:bQ):aQ where
 X:=e8
 Y:=Value
 args x:=[ai x.s,ad 64]
 cond x:=x.s.size<=8388610
 aO _ F:=K.rd F
 val x y:=.returned (.tuple #[.float .f64 (pf x.s),y])
 eM _ _ _ hs h:=K.mono h hs
def Hb:ByteArray:=⟨#[48,49,50,51,52,53,54,55,56,57,97,98,99,100,101,102,65,66,67,68,69,70]⟩
def HF:ByteArray:=⟨#[112,48]⟩
def sP:ByteArray:=⟨#[73,110,102,105,110,105,116,121]⟩
def Hg(s:ByteArray):Bool:=decide (s.size>2)&&(bt s 0==48&&((bt s 1|||32)==120&&bE (ff s 2) (c5 Hb) 0==s.size-2))
def l7(s:ByteArray):ByteArray:=bif bt s 0==43||bt s 0==45 then ff s 1 else s
def Bm(pf:ByteArray->Nat)(s:ByteArray):Nat:=
 bif s.size==0 then 0
 else bif Hg s then pf (s++HF)
 else bif !(bC (l7 s) sP)&& !iG (l7 s) then wd
 else pf s
def kD(pf:ByteArray->Nat)(w:ByteArray):Nat:=match mV w with
 |none=>wd
 |some l=>Bm pf (cL l)
theorem Vd(a b:ByteArray):(a.toList==b.toList)=bC a b:=by
 have e:bC a b=(a.data==b.data):=by unfold bC;cases a;cases b;rfl
 rw[e,Bool.eq_iff_iff,beq_iff_eq,beq_iff_eq,ByteArray.toList_eq,ByteArray.toList_eq];simp[*]
theorem agT(s:ByteArray)(e:Nat):∀(f i:Nat)(o l:List Nat),yU s e f i o=some l->l.length+i<=o.length+max e i:=by
 intro f
 induction f with
 |zero=>intro i o l h;cases h;omega
 |succ f c=>
  intro i o l h;rw[yU]at h;by_cases b:i<e
  ·rw[bv b,aU]at h;cases a:decide (hW s i>127)with
   |true=>rw[a]at h;cases h
   |false=>
    rw[a,aM]at h;have:=c _ _ _ h;grind
  grind
theorem aci(s:ByteArray)(b:Nat):∀(f e:Nat),ym s b f e<=e:=by
 intro f
 induction f with
 |zero=>intro e;exact bT _
 |succ f a=>
  intro e;rw[ym];grind
theorem akE(s:ByteArray)(e:Nat):∀(f i:Nat),i<=e->zV s e f i<=e:=by
 intro f
 induction f with
 |zero=>intro i h;exact h
 |succ f a=>
  intro i h;rw[zV];grind
theorem ahC{s:ByteArray}{l:List Nat}(h:mV s=some l):(cL l).size<=s.size:=by
 have a:=agT _ _ _ _ _ _ h;have b:p9 s<=ed s:=aci _ _ _ _;have c:mH s<=ed s:=akE _ _ _ _ (df _);have d:ed s=s.size/2:=rfl;rw[rx];grind
structure qY where
 K:bQ
 pf:ByteArray->Nat
 w:ByteArray
def ux:aQ where
 X:=qY
 args x:=[ai x.w]
 cond x:=x.w.size<=8388608/\aC 86 (D0 x.pf x.K)
 aO x F:=x.K.rd F
 val x _:=ax (float f64 (kD x.pf x.w))
 eM x _ _ hs h:=x.K.mono h hs
structure ln where
 t:ByteArray
 u:ByteArray
def agx(x:qY)(F:ah):Nat->Option Inv:=fun
 |4=>some {X:=ln,P:=fun d=>d.t.size<=8388608/\kD x.pf x.w=Bm x.pf d.t,mu:=fun _=>0,lv:=fun d=>[(3,ai d.t)],st:=fun _=>[F]}
 |9=>some {X:=ln,P:=fun d=>d.t.size<=8388608/\0<d.t.size/\kD x.pf x.w=(bif !(bC (l7 d.t) sP)&& !iG (l7 d.t) then wd else x.pf d.t),mu:=fun _=>0,lv:=fun d=>[(3,ai d.t)],st:=fun _=>[F]}
 |12=>some {X:=ln,P:=fun d=>d.t.size<=8388608/\d.u=l7 d.t/\d.u.size<=d.t.size/\kD x.pf x.w=(bif !(bC (l7 d.t) sP)&& !iG (l7 d.t) then wd else x.pf d.t),mu:=fun _=>0,lv:=fun d=>[(3,ai d.t),(7,ai d.u)],st:=fun _=>[F]}
 |14=>some {X:=ln,P:=fun d=>d.t.size<=8388608/\kD x.pf x.w=x.pf d.t,mu:=fun _=>0,lv:=fun d=>[(3,ai d.t)],st:=fun _=>[F]}
 |_=>none
def agy(x:qY)(a:ah):List (Nat×Nat×OH):=[(1,1,aW yZ),(3,0,aW yI),(6,17,aW qx),(7,2,aW (D0 x.pf x.K)),(12,4,aW ph),(13,0,aW yI),(14,1,aW (D0 x.pf x.K))]
def Ms(a:Unit->Unit->Prop):=aC 84 yI/\true=true/\∃(z:Unit),([]:List Value)=[]/\([]:List ah)=[]/\True/\True/\∀(b:Unit),True->a z b
def JA(j:ln):=(0:Int)<=(0:Int)/\0<(j.t.size:Int)
def Mt(e0:qY)(aa:List Value)(rr:ah)(a:e8->Value->Prop):=aC 86 (D0 e0.pf e0.K)/\true=true/\∃(z:e8),aa=[ai z.s,ad 64]/\([]:List ah)=[]/\z.s.size<=8388610/\e0.K.3 rr/\∀(b:Value),True->a z b
def PX(z:ln)(e0:qY):=z.t.size<=8388608/\0<z.t.size/\(kD e0.pf e0.w=bif !bC (l7 z.t) sP&& !iG (l7 z.t) then wd else e0.pf z.t)
def De(e0:qY)(e1:ah)(v0:Value)(a:St):=∃(z:ln),PX z e0/\(v0=ai z.t/\True)/\aE a [(0,e1)]
def Pp(z:ln)(e0:qY):=z.t.size<=8388608/\z.u=l7 z.t/\z.u.size<=z.t.size/\(kD e0.pf e0.w=bif !bC (l7 z.t) sP&& !iG (l7 z.t) then wd else e0.pf z.t)
def Mu(e0:qY)(e1:ah)(v0 v1:Value)(a:St):=∃(z:ln),Pp z e0/\(v0=ai z.t/\v1=ai z.u/\True)/\aE a [(0,e1)]
def O_(h:ln)(x:qY)(F:ah):=((0:Int)<=(1:Int)/\1<=(h.t.size:Int)/\(h.t.size:Int)<=(h.t.size:Int))/\Mu x F (ai h.t) (ai (h.t.extract (Int.toNat (1:Int)) (h.t.size:Int).toNat)) [(0,F)]
def Mv(e0:qY)(e1:ah)(v0:Value)(a:St):=∃(z:ln),(z.t.size<=8388608/\kD e0.pf e0.w=e0.pf z.t)/\(v0=ai z.t/\True)/\aE a [(0,e1)]
theorem agA(x:qY)(F:ah)(L:ux.cond x)(z:ux.aO x F):aC 83 yZ/\true=true/\∃(l:e8),[ai x.w]=[ai l.s]/\([]:List ah)=[]/\l.s.size<=8388608/\True/\∀(k:Unit),True->Br (!(mV l.s).isSome) (Ms (fun b a=>ar ux x F zi [(0,F)])) (∃(a:ln),(a.t.size<=8388608/\kD x.pf x.w=Bm x.pf a.t)/\(ai (cL ((mV l.s).getD []))=ai a.t/\True)/\aE [(0,F)] [(0,F)])/\aT fun(j:ln)_=>(j.t.size<=8388608/\kD x.pf x.w=Bm x.pf j.t)->Br (j.t.toList==oJ.toList) (ar ux x F (ax (float f64 0)) [(0,F)]) (aS ((j.t.size:Int)>2) (JA j/\Br (aF j.t (0:Int)==(48:Int)) (((0:Int)<=(1:Int)/\1<(j.t.size:Int))/\Br (u8.wrap (↑(BitVec.ofInt u8.bits (aF j.t (1:Int))|||BitVec.ofInt u8.bits (32:Int)).toNat:Int)==120) (((0:Int)<=(2:Int)/\2<=(j.t.size:Int)/\(j.t.size:Int)<=(j.t.size:Int))/\Ax [ai (j.t.extract (Int.toNat (2:Int)) (j.t.size:Int).toNat),ai ⟨#[48,49,50,51,52,53,54,55,56,57,97,98,99,100,101,102,65,66,67,68,69,70]⟩] (fun d c=>((-9223372036854775808:Int)<=(j.t.size:Int)-2/\(j.t.size:Int)-2<=(9223372036854775807:Int))/\Br ((↑(bE d.a (c5 d.b) 0):Int)==(j.t.size:Int)-2) (j.t.size+2<=9223372036854775807/\Mt x [ai (j.t++(ByteArray.mk #[112,48])),ad 64] (cP F) (fun b a=>ar ux x F (ax (float f64 (x.pf b.s))) [(0,F)])) (De x F (ai j.t) [(0,F)]))) (De x F (ai j.t) [(0,F)])) (De x F (ai j.t) [(0,F)])) (De x F (ai j.t) [(0,F)])/\aT fun(h:ln)_=>PX h x->(JA h/\Br (aF h.t (0:Int)==(43:Int)) (O_ h x F) (JA h/\Br (aF h.t (0:Int)==(45:Int)) (O_ h x F) (Mu x F (ai h.t) (ai h.t) [(0,F)])))/\aT fun(f:ln)_=>Pp f x->Br (!f.u.toList==(ByteArray.mk #[73,110,102,105,110,105,116,121]).toList) (aC 87 ph/\true=true/\∃(d:gq),[ai f.u]=[ai d.a]/\([]:List ah)=[]/\d.a.size<=1099511627776/\True/\∀(c:Unit),True->Br (!iG d.a) (Ms (fun b a=>ar ux x F zi [(0,F)])) (Mv x F (ai f.t) [(0,F)])) (Mv x F (ai f.t) [(0,F)])/\aT fun(d:ln)_=>(d.t.size<=8388608/\kD x.pf x.w=x.pf d.t)->Mt x [ai d.t,ad 64] (cP F) (fun b a=>ar ux x F (ax (float f64 (x.pf b.s))) [(0,F)])):=by
 delta Ms zi oJ JA Ax Mt cP PX De Pp Mu O_ Mv aH ad ai aS ax aT;obtain⟨K,pf,w⟩:=x;obtain⟨I,s⟩:=L;replace z:K.rd F:=z;dsimp only at I s⊢;have fin:∀n,kD pf w=n->ar ux ⟨K,pf,w⟩ F (returned (float .f64 n)) [(0,F)]:=fun n e=>
  ⟨(),ao,by show returned _=returned (.float .f64 (kD pf w));rw[e],az [0]⟩
 refine bO ahH ⟨w⟩ I fun _ _=>⟨aG (fun h=>?_) (fun h=>?_),?_⟩
 ·have hn:mV w=none:=by
   cases hp:mV w with
   |none=>rfl
   |some l=>rw[hp]at h;cases h
  exact kV Vy () fun _ _=>fin _ (by unfold kD;rw[hn];rfl)
 ·obtain⟨l,hp⟩:∃l,mV w=some l:=by
   cases hp:mV w with
   |none=>rw[hp]at h;cases h
   |some l=>exact⟨l,rfl⟩
  have:=ahC hp;exact⟨⟨cL l,⟨#[]⟩⟩,⟨by grind,by unfold kD;rw[hp]⟩,⟨by rw[hp];rfl,ao⟩,az [0]⟩
 rintro⟨t,_⟩ G ⟨m,o⟩;dsimp only at m o⊢;refine aG (fun M=>fin _ ?_) (fun D=>⟨?_,?_⟩)
 ·rw[Kz]at M;rw[o];unfold Bm;simp[*]
 ·rw[Kz]at D;have E:0<t.size:=by
   grind
  have r:kD pf w=bif Hg t then pf (t++HF) else bif !(bC (l7 t) sP)&& !iG (l7 t) then wd else pf t:=by
   rw[o];unfold Bm;simp[*]
  have done:Hg t=false->∃i:ln,(i.t.size<=8388608/\0<i.t.size/\kD pf w=bif !bC (l7 i.t) sP&& !iG (l7 i.t) then wd else pf i.t)/\(string t=string i.t/\True)/\aE (bD [F]) (bD [F]):=fun e=>
   ⟨⟨t,⟨#[]⟩⟩,⟨m,E,by grind⟩,⟨rfl,ao⟩,aE.refl _⟩
  have hx:Hg t=(decide (t.size>2)&&(bt t 0==48&&((bt t 1|||32)==120&&bE (ff t 2) (c5 Hb) 0==t.size-2))):=rfl;have H:=yj t 2;have y:t.extract (Int.toNat 2) (t.size:Int).toNat=ff t 2:=by rfl
  refine bo (fun N=>⟨⟨cD _,ae⟩,aG (fun g=>⟨⟨by decide,ae⟩,aG (fun p=>?_) (fun p=>done ?_)⟩) (fun g=>done ?_)⟩) (fun N=>done ?_)
  ·rw[f_,Int.toNat_zero]at g;rw[f_,show(1:Int).toNat=1 from rfl,yS (g0 t 1)]at p;have g:(bt t 0==48)=true:=(Bi _ _).trans g;have p:((bt t 1|||32)==120)=true:=(Bi _ _).trans p;rw[y];refine⟨⟨by decide,ae,cD _⟩,Kc,rfl,⟨ff t 2,Hb⟩,rfl,rfl,by grind,ao,fun _ _=>⟨aK,aG (fun C=>?_) (fun C=>done ?_)⟩⟩
   ·have C:(bE (ff t 2) (c5 Hb) 0==t.size-2)=true:=by
     grind
    have O:(t++HF).size=t.size+2:=by rw[ky];rfl
    rw[hx,bv (show t.size>2 by omega),g,p,C]at r;exact⟨ae,s,rfl,⟨t++HF⟩,rfl,rfl,by simp[*],K.rest (j:=0) aL z,fun _ _=>fin _ r⟩
   grind
  ·rw[f_,show(1:Int).toNat=1 from rfl,yS (g0 t 1)]at p;grind
  ·rw[f_,Int.toNat_zero]at g;grind
  grind
 clear o;rintro⟨t,_⟩ G ⟨m,o,r⟩;dsimp only at m o r⊢;have B:∀c:Nat,((bt t 0:Int)==(c:Int))=(bt t 0==c):=fun c=>(Bi _ _).symm;have H:=yj t 1;have y:t.extract (Int.toNat 1) (t.size:Int).toNat=ff t 1:=by rfl
 have q:l7 t=bif bt t 0==43||bt t 0==45 then ff t 1 else t:=rfl
 rw[y];refine⟨⟨⟨cD _,ae⟩,?_⟩,?_⟩
 ·refine kL (A:=(bt t 0==43||bt t 0==45)=true) (fun k=>aG (fun h=>k ?_) (fun h=>⟨⟨cD _,ae⟩,aG (fun g=>k ?_) (fun g=>?_)⟩)) (fun J=>?_)
  ·rw[f_,Int.toNat_zero]at h;grind
  ·rw[f_,Int.toNat_zero]at g;grind
  ·rw[f_,Int.toNat_zero]at h g;rw[show(bt t 0==43)=false from(B 43).symm.trans h,show(bt t 0==45)=false from(B 45).symm.trans g,Bool.or_self,aM]at q;exact⟨⟨t,t⟩,⟨m,q.symm,bT _,r⟩,aV,aE.refl _⟩
  ·rw[J,aU]at q;exact⟨⟨by decide,ae,cD _⟩,⟨t,ff t 1⟩,⟨m,q.symm,by simp[*],r⟩,aV,aE.refl _⟩
 clear q y H B r o m;rintro⟨t,u⟩ G ⟨m,o,r,g⟩;dsimp only at m o r g⊢;rw[<-o]at g;have go:(!(bC u sP)&& !iG u)=false->∃v:ln,(v.t.size<=8388608/\kD pf w=pf v.t)/\(string t=string v.t/\True)/\aE (bD [F]) (bD [F]):=fun e=>
  ⟨⟨t,t⟩,⟨m,by grind⟩,⟨rfl,ao⟩,aE.refl _⟩
 refine⟨aG (fun h=>?_) (fun h=>go ?_),?_⟩
 ·rw[Vd]at h;have h:(!bC u sP)=true:=h;refine bO ab2 ⟨u,u⟩ (by grind) fun _ _=>aG (fun p=>?_) (fun p=>go ?_)
  ·have p:(!iG u)=true:=p;exact kV Vy () fun _ _=>fin _ (by rw[g,h,p];rfl)
  grind
 ·rw[Vd]at h;have h:(!bC u sP)=false:=h;grind
 ·rintro⟨t,_⟩ G ⟨m,o⟩;exact br s ⟨t⟩ (gR m (by decide)) (K.rest (j:=0) aL z) fun _ _=>fin _ o
theorem agz:aC 72 ux:=fo 75 Tryz.func72 agy [] aY agx bA [] agA
end
section
open Go
structure sc where
 v:Nat
 n:Nat
 e:Nat
structure qQ where
 K:bQ
 av:ByteArray->sc
 s:ByteArray
def vN(av:ByteArray->sc)(K:bQ):aQ where
 X:=e8
 Y:=Unit ⊕ Unit
 args x:=[ai x.s]
 cond x:=x.s.size<=8388610
 aO _ F:=K.rd F
 bZ x y:=match y with
  | .inl _=>(av x.s).e=0
  | .inr _=>(av x.s).e≠0/\(av x.s).e<=2
 val x y:=match y with
  | .inl _=>.returned (.tuple #[.float .f64 (av x.s).v,.int .i64 (av x.s).n,.nilIface])
  | .inr _=>.returned (.tuple #[.float .f64 (av x.s).v,.int .i64 (av x.s).n,.iface 128 (.int .i64 (av x.s).e)])
 eM _ _ _ hs h:=K.mono h hs
 sum:=some (hU Unit Unit)
def yX:aQ where
 X:=qQ
 Y:=Unit ⊕ Unit
 args x:=[ai x.s,ad 64]
 cond x:=x.s.size<=8388610/\aC 117 (vN x.av x.K)
 aO x F:=x.K.rd F
 bZ x y:=match y with
  | .inl _=>(x.av x.s).e=0
  | .inr _=>(x.av x.s).e≠0/\(x.av x.s).e<=2
 val x y:=match y with
  | .inl _=>.returned (.tuple #[.float .f64 (x.av x.s).v,.int .i64 (x.av x.s).n,.nilIface])
  | .inr _=>.returned (.tuple #[.float .f64 (x.av x.s).v,.int .i64 (x.av x.s).n,.iface 128 (.int .i64 (x.av x.s).e)])
 eM x _ _ hs h:=x.K.mono h hs
 sum:=some (hU Unit Unit)
def ahu(x:qQ)(a:ah):List (Nat×Nat×OH):=[(4,1,aW (vN x.av x.K))]
theorem ahw(x:qQ)(F:ah)(f:yX.cond x)(c:yX.aO x F):aC 117 (vN x.av x.K)/\true=true/\∃(b:e8),[ai x.s]=[ai b.s]/\([]:List ah)=[]/\b.s.size<=8388610/\x.K.3 (cP F)/\(∀(a:Unit),(x.av b.s).e=0->ar yX x F (ax (tuple ⟨[float f64 (x.av b.s).v,ad (↑(x.av b.s).n:Int),nilIface]⟩)) [(0,F)])/\∀(a:Unit),((x.av b.s).e≠0/\(x.av b.s).e<=2)->ar yX x F (ax (tuple ⟨[float f64 (x.av b.s).v,ad (↑(x.av b.s).n:Int),fh 128 (ad (↑(x.av b.s).e:Int))]⟩)) [(0,F)]:=by
 delta cP aH ad ai fh ax;obtain⟨K,av,s⟩:=x;obtain⟨d,e⟩:=f;replace c:K.rd F:=c;exact br e ⟨s⟩ d (K.rest (j:=0) aL c) ⟨fun _ q=>⟨.inl (),q,rfl,az [0]⟩,fun _ q=>⟨.inr (),q,rfl,az [0]⟩⟩
theorem ahv:aC 107 yX:=fo 27 Tryz.func107 ahu [] aY aY bA [] ahw
def hH(d:sc)(n:Nat):Nat×Nat:=bif d.n==n then (d.v,d.e) else (0,2)
def uq:aQ where
 X:=qQ
 Y:=Unit ⊕ Unit
 args x:=[ai x.s,ad 64]
 cond x:=x.s.size<=8388610/\aC 117 (vN x.av x.K)
 aO x F:=x.K.rd F
 bZ x y:=match y with
  | .inl _=>(hH (x.av x.s) x.s.size).2=0
  | .inr _=>(hH (x.av x.s) x.s.size).2≠0/\(hH (x.av x.s) x.s.size).2<=2
 val x y:=match y with
  | .inl _=>.returned (.tuple #[.float .f64 (hH (x.av x.s) x.s.size).1,.nilIface])
  | .inr _=>.returned (.tuple #[.float .f64 (hH (x.av x.s) x.s.size).1,.iface 128 (.int .i64 (hH (x.av x.s) x.s.size).2)])
 eM x _ _ hs h:=x.K.mono h hs
 sum:=some (hU Unit Unit)
def JV(b:qQ):=b.s.size<=8388610/\aC 117 (vN b.av b.K)
def QL(x:qQ)(F:ah):=ar uq x F (ax (tuple ⟨[float f64 0,fh 128 (ad 2)]⟩)) [(0,F)]
theorem aeH(x:qQ)(F:ah)(i:uq.cond x)(d:uq.aO x F):aC 107 yX/\true=true/\∃(b:qQ),[ai x.s,ad 64]=[ai b.s,ad 64]/\([]:List ah)=[]/\JV b/\b.K.3 (cP F)/\(∀(a:Unit),(b.av b.s).e=0->Br ((↑(b.av b.s).n:Int)!=(x.s.size:Int)) (QL x F) (ar uq x F (ax (tuple ⟨[float f64 (b.av b.s).v,nilIface]⟩)) [(0,F)]))/\∀(a:Unit),((b.av b.s).e≠0/\(b.av b.s).e<=2)->Br ((↑(b.av b.s).n:Int)!=(x.s.size:Int)) (QL x F) (ar uq x F (ax (tuple ⟨[float f64 (b.av b.s).v,fh 128 (ad (↑(b.av b.s).e:Int))]⟩)) [(0,F)]):=by
 delta JV cP QL aH ad ai fh ax;obtain⟨K,av,s⟩:=x;obtain⟨f,g⟩:=i;replace d:K.rd F:=d;have c:((av s).n==s.size)=(((av s).n:Int)==(s.size:Int)):=Bi _ _;have i0:((av s).n==s.size)=true->hH (av s) s.size=((av s).v,(av s).e):=fun e=>by unfold hH;rw[e];rfl
 have i1:((av s).n==s.size)=false->hH (av s) s.size=(0,2):=fun e=>by unfold hH;rw[e];rfl
 have dI:((av s).n==s.size)=false->ar uq ⟨K,av,s⟩ F (returned (tuple #[float .f64 0,iface 128 (int .i64 2)])) [(0,F)]:=fun e=>
  ⟨.inr (),by show(hH (av s) s.size).2≠0/\(hH (av s) s.size).2<=2;rw[i1 e];exact⟨by decide,bT _⟩,by show _=returned (.tuple #[.float .f64 (hH (av s) s.size).1,.iface _ (.int .i64 (hH (av s) s.size).2)]);rw[i1 e];rfl,az [0]⟩
 refine br ahv ⟨K,av,s⟩ ⟨f,g⟩ (K.rest (j:=0) aL d) ⟨fun _ q=>aG (fun h=>dI ?_) (fun h=>?_),fun _ q=>aG (fun h=>dI ?_) (fun h=>?_)⟩
 ·have h:(((av s).n:Int)!=(s.size:Int))=true:=h;rw[c];simpa using h
 ·have h:(((av s).n:Int)!=(s.size:Int))=false:=h;have e:((av s).n==s.size)=true:=by rw[c];simpa using h
  have q:(av s).e=0:=q;exact⟨.inl (),by show(hH (av s) s.size).2=0;rw[i0 e];exact q,by show _=returned (.tuple #[.float .f64 (hH (av s) s.size).1,.nilIface]);rw[i0 e],az [0]⟩
 ·have h:(((av s).n:Int)!=(s.size:Int))=true:=h;rw[c];simpa using h
 ·have h:(((av s).n:Int)!=(s.size:Int))=false:=h;have e:((av s).n==s.size)=true:=by rw[c];simpa using h
  have q:(av s).e≠0/\(av s).e<=2:=q;exact⟨.inr (),by show(hH (av s) s.size).2≠0/\(hH (av s) s.size).2<=2;rw[i0 e];exact q,by show _=returned (.tuple #[.float .f64 (hH (av s) s.size).1,.iface _ (.int .i64 (hH (av s) s.size).2)]);rw[i0 e],az [0]⟩
theorem aeG:aC 101 uq:=fo 23 Tryz.func101 (fun _ _=>[(1,2,aW yX)]) [] aY aY bA [] aeH
def se(F:ah):Prop:=(∃t a,aP F ⟨7,0,none⟩ (.iface t (.pointer (some a))))/\(∃t a,aP F ⟨8,0,none⟩ (.iface t (.pointer (some a))))
theorem se.sub{A B:ah}(h:se A)(hs:Sub A B):se B:=⟨let ⟨t,a,q⟩:=h.1;⟨t,a,q.sub hs⟩,let ⟨t,a,q⟩:=h.2;⟨t,a,q.sub hs⟩⟩
structure S_ where
 f:ByteArray
 s:ByteArray
 e:Nat
def Fv:aQ where
 X:=S_
 Y:=Value
 args x:=[ai x.f,ai x.s,ad 0,ad 64,fh 128 (ad x.e)]
 cond x:=x.s.size<=8388610/\x.e≠0/\x.e<=2
 aO _ F:=se F
 val _ y:=ax y
def Fj:aQ where
 X:=qQ
 Y:=Value
 args x:=[ai x.s,ad 64]
 cond x:=x.s.size<=8388610/\aC 117 (vN x.av x.K)/\aC 102 Fv/\(∀F,x.K.rd F->se F)
 aO x F:=x.K.rd F
 val x y:=.returned (.tuple #[.float .f64 (hH (x.av x.s) x.s.size).1,y])
 eM x _ _ hs h:=x.K.mono h hs
theorem ajZ(x:qQ)(F:ah)(l:Fj.cond x)(f:Fj.aO x F):aC 101 uq/\true=true/\∃(d:qQ),[ai x.s,ad 64]=[ai d.s,ad 64]/\([]:List ah)=[]/\JV d/\d.K.3 (cP F)/\(∀(a:Unit),(hH (d.av d.s) d.s.size).snd=0->ar Fj x F (ax (tuple ⟨[float f64 (hH (d.av d.s) d.s.size).fst,nilIface]⟩)) [(0,F)])/\∀(c:Unit),((hH (d.av d.s) d.s.size).snd≠0/\(hH (d.av d.s) d.s.size).snd<=2)->aC 102 Fv/\true=true/\∃(b:S_),[ai ⟨#[80,97,114,115,101,70,108,111,97,116]⟩,ai x.s,ad 0,ad 64,fh 128 (ad (↑(hH (d.av d.s) d.s.size).snd:Int))]=[ai b.f,ai b.s,ad 0,ad 64,fh 128 (ad ↑b.e)]/\([]:List ah)=[]/\(b.s.size<=8388610/\b.e≠0/\b.e<=2)/\se (cP F)/\∀(a:Value),True->ar Fj x F (ax (tuple ⟨[float f64 (hH (d.av d.s) d.s.size).fst,a]⟩)) [(0,F)]:=by
 delta JV cP aH ad ai fh ax;obtain⟨K,av,s⟩:=x;obtain⟨g,i,j,k⟩:=l;replace f:K.rd F:=f;have kr:∀{S:St}{bG:List Nat},(0:Nat)∉bG->gt S 0=F->K.rd (.dq (rest S bG)):=fun h e=>K.rest h (by rw[e];exact f);exact br aeG ⟨K,av,s⟩ ⟨g,i⟩ (kr aL rfl) ⟨fun _ q=>⟨.nilIface,ao,rfl,az [0]⟩,fun _ q=>⟨j,rfl,⟨_,s,_⟩,rfl,rfl,⟨g,q⟩,(k F f).sub (bP 0),fun y _=>⟨y,ao,rfl,az [0]⟩⟩⟩
theorem ajY:aC 86 Fj:=fo 22 Tryz.func86 (fun _ _=>[(1,2,aW uq),(3,4,aW Fv)]) [] aY aY bA [] ajZ
def HI(av:ByteArray->sc)(s:ByteArray):Nat:=(hH (av s) s.size).1
theorem ahi{av:ByteArray->sc}{K:bQ}(a:aC 117 (vN av K))(b:aC 102 Fv)(c:∀F,K.rd F->se F):aC 86 (D0 (HI av) K):=ajY.AR fun q F I w d e hs=>
 ⟨⟨K,av,q.s⟩,I,a_.le_refl I,⟨d,a,b,c⟩,e,rfl,hs,fun y _=>⟨y,ao,rfl,aE.refl _⟩⟩
end
section
open Go
structure p0 where
 u:Int
structure tT where
 b:Bool
def ub:aQ where
 X:=tT
 args x:=[aj x.b]
 val x _:=.returned (.int .u64 (bif x.b then 1 else 0))
def yc:aQ where
 X:=tT
 args x:=[aj x.b]
 val x _:=.returned (.int .i64 (bif x.b then 1 else 0))
theorem aa0(x:tT)(F:ah)(a:ub.cond x)(b:ub.aO x F):Br x.b (ar ub x F (ax (aA 1)) [(0,F)]) (ar ub x F (ax (aA 0)) [(0,F)]):=by
 delta aA ax;exact aG (fun h=>⟨(),ao,by show _=returned (.int .u64 (bif x.b then 1 else 0));rw[h];rfl,az [0]⟩) (fun h=>⟨(),ao,by show _=returned (.int .u64 (bif x.b then 1 else 0));rw[h];rfl,az [0]⟩)
theorem MR:aC 132 ub:=fo 4 Tryz.func132 (fun _ _=>[]) [] aY aY bA [] aa0
theorem aaZ(x:tT)(F:ah)(a:yc.cond x)(b:yc.aO x F):Br x.b (ar yc x F (ax (ad 1)) [(0,F)]) (ar yc x F (ax (ad 0)) [(0,F)]):=by
 delta ad ax;exact aG (fun h=>⟨(),ao,by show _=returned (.int .i64 (bif x.b then 1 else 0));rw[h];rfl,az [0]⟩) (fun h=>⟨(),ao,by show _=returned (.int .i64 (bif x.b then 1 else 0));rw[h];rfl,az [0]⟩)
theorem aaY:aC 152 yc:=fo 4 Tryz.func152 (fun _ _=>[]) [] aY aY bA [] aaZ
def iN(f:Int->Int):aQ where
 X:=p0
 args x:=[aA x.u]
 cond x:=0<=x.u/\x.u<=18446744073709551615
 val x _:=ax (aA (f x.u))
def xs(u:Int):Int:=u64.wrap (u64.wrap (u*2^min (Int.toNat 2) u64.bits)-2)
theorem akC(x:p0)(F:ah)(a:(iN xs).cond x)(b:(iN xs).aO x F):ar (iN xs) x F (ax (aA (bf (bf (x.u*2^min (Int.toNat (2:Int)) u64.bits)-2)))) [(0,F)]:=by
 delta aA bf ax;exact im
theorem akB:aC 153 (iN xs):=fo 6 Tryz.func153 (fun _ _=>[(1,1,aX),(1,2,aX)]) [] aY aY bA [] akC
def nS(u:Int):Int:=(u64.wrap (u64.wrap (u+1)+u64.wrap (↑(BitVec.ofInt u64.bits (u.fdiv (2^min (Int.toNat 2) u64.bits))&&& BitVec.ofInt u64.bits 1).toNat:Int))).fdiv (2^min (Int.toNat 2) u64.bits)
theorem ai4(x:p0)(F:ah)(a:(iN nS).cond x)(b:(iN nS).aO x F):ar (iN nS) x F (ax (aA ((bf (bf (x.u+1)+bf (↑(b7 (x.u.fdiv ((2:Int)^min (Int.toNat (2:Int)) u64.bits))&&& b7 (1:Int)).toNat:Int))).fdiv ((2:Int)^min (Int.toNat (2:Int)) u64.bits)))) [(0,F)]:=by
 delta aA b7 bf ax;exact im
theorem Wp:aC 155 (iN nS):=fo 10 Tryz.func155 (fun _ _=>[(1,1,aX),(1,3,aX),(1,4,aX),(1,5,aX),(1,6,aX)]) [] aY aY bA [] ai4
structure l4 where
 i:Int
def yE:aQ where
 X:=l4
 args x:=[ad x.i]
 cond x:= -100000<=x.i/\x.i<=100000
 val x _:=ax (ad ((x.i*108853).fdiv (2^min (Int.toNat 15) i64.bits)))
theorem ae4(x:l4)(F:ah)(a:yE.cond x)(c:yE.aO x F):((-9223372036854775808:Int)<=x.i*108853/\x.i*108853<=(9223372036854775807:Int))/\ar yE x F (ax (ad ((x.i*108853).fdiv ((2:Int)^min (Int.toNat (15:Int)) i64.bits)))) [(0,F)]:=by
 delta ad ax;have b: -100000<=x.i/\x.i<=100000:=a;exact⟨aK,(),ao,rfl,az [0]⟩
theorem U3:aC 149 yE:=fo 6 Tryz.func149 (fun _ _=>[]) [] aY aY bA [] ae4
structure xK where
 u:Int
 e:Int
def HH(x:xK):Bool:=u64.wrap (↑(BitVec.ofInt u64.bits x.u&&& BitVec.ofInt u64.bits 4503599627370496).toNat:Int)==0
def agX(x:xK):Nat:=(u64.wrap (↑(BitVec.ofInt u64.bits (u64.wrap (↑(BitVec.ofInt u64.bits x.u&&& BitVec.ofInt u64.bits 9223372036854775808).toNat:Int))|||BitVec.ofInt u64.bits 9218868437227405312).toNat:Int)).toNat
def agY(x:xK):Nat:=(u64.wrap (↑(BitVec.ofInt u64.bits (u64.wrap (↑(BitVec.ofInt u64.bits x.u&&& ~~~BitVec.ofInt u64.bits 4503599627370496).toNat:Int))|||BitVec.ofInt u64.bits (u64.wrap (u64.wrap (1075+x.e)*2^min (Int.toNat 52) u64.bits))).toNat:Int)).toNat
def k8(x:xK):Nat×Nat:=bif HH x then (x.u.toNat,0) else bif decide (x.e>=972) then (agX x,1) else (agY x,0)
def sY:aQ where
 X:=xK
 Y:=Unit ⊕ Unit
 args x:=[aA x.u,ad x.e]
 cond x:=0<=x.u/\x.u<=18446744073709551615/\ -1075<=x.e/\x.e<=100000
 bZ x y:=match y with
  | .inl _=>(k8 x).2=0
  | .inr _=>(k8 x).2=1
 val x y:=match y with
  | .inl _=>.returned (.tuple #[.float .f64 (k8 x).1,.nilIface])
  | .inr _=>.returned (.tuple #[.float .f64 (k8 x).1,.iface 128 (.int .i64 1)])
 sum:=some (hU Unit Unit)
theorem agW(x:xK)(F:ah)(b:sY.cond x)(d:sY.aO x F):Br (bf (↑(b7 x.u&&& b7 (4503599627370496:Int)).toNat:Int)==0) (ar sY x F (ax (tuple ⟨[float f64 x.u.toNat,nilIface]⟩)) [(0,F)]) (aS (x.e>=972) (ar sY x F (ax (tuple ⟨[float f64 (bf (↑(b7 (bf (↑(b7 x.u&&& b7 (9223372036854775808:Int)).toNat:Int))|||b7 (9218868437227405312:Int)).toNat:Int)).toNat,fh 128 (ad 1)]⟩)) [(0,F)]) (bM (1075+x.e)/\ar sY x F (ax (tuple ⟨[float f64 (bf (↑(b7 (bf (↑(b7 x.u&&& ~~~b7 (4503599627370496:Int)).toNat:Int))|||b7 (bf (bf (1075+x.e)*2^min (Int.toNat (52:Int)) u64.bits))).toNat:Int)).toNat,nilIface]⟩)) [(0,F)])):=by
 delta bM ad fh b7 bf aS ax;have c:0<=x.u/\x.u<=18446744073709551615/\ -1075<=x.e/\x.e<=100000:=b;have ok:∀v:Nat,k8 x=(v,0)->ar sY x F (returned (tuple #[float .f64 v,nilIface])) [(0,F)]:=fun v e=>
  ⟨.inl (),by show(k8 x).2=0;rw[e],by show _=returned (.tuple #[.float .f64 (k8 x).1,.nilIface]);rw[e],az [0]⟩
 have no:∀v:Nat,k8 x=(v,1)->ar sY x F (returned (tuple #[float .f64 v,iface 128 (int .i64 1)])) [(0,F)]:=fun v e=>
  ⟨.inr (),by show(k8 x).2=1;rw[e],by show _=returned (.tuple #[.float .f64 (k8 x).1,.iface _ (.int .i64 1)]);rw[e],az [0]⟩
 refine aG (fun h=>ok _ ?_) (fun h=>aG (fun a=>no _ ?_) (fun a=>⟨aK,ok _ ?_⟩))
 ·unfold k8;rw[show HH x=true from h];rfl
 ·unfold k8;rw[show HH x=false from h,a];rfl
 ·unfold k8;rw[show HH x=false from h,a];rfl
theorem agV:aC 158 sY:=fo 26 Tryz.func158 (fun _ _=>[(2,1,aX),(4,3,aX),(5,4,aX),(5,5,aX),(5,7,aX)]) [] aY aY bA [] agW
end
end Go.Proofs.YtdkchodgklpomaaGreatDoor
namespace Go.Proofs
section
open Go.Shelf
def ZS:Go.Shelf.Ren:=⟨fun|129=>148|n=>n,fun|53=>64|3=>3|4=>4|46=>101|5=>5|9=>9|n=>n,fun|n=>n⟩
theorem ZR:Go.Proofs.Lays.n129 Tryz.prog ZS:={
 mixed:=by kernel_rfl
 f129:=Tryz.func148.trans (congrArg some (by kernel_rfl))
 t3:=Tryz.underlying3
 a3:=Tryz.isAgg3
 z3:=Tryz.sizeOf3
 v3:=Tryz.zeroValue3
 t4:=Tryz.underlying4
 a4:=Tryz.isAgg4
 z4:=Tryz.sizeOf4
 v4:=Tryz.zeroValue4
 t5:=Tryz.underlying5
 a5:=Tryz.isAgg5
 z5:=Tryz.sizeOf5
 v5:=Tryz.zeroValue5
 t9:=Tryz.underlying9
 a9:=Tryz.isAgg9
 z9:=Tryz.sizeOf9
 v9:=Tryz.zeroValue9
 t46:=Tryz.underlying101
 a46:=Tryz.isAgg101
 z46:=Tryz.sizeOf101
 v46:=Tryz.zeroValue101
 t53:=Tryz.underlying64
 a53:=Tryz.isAgg64
 z53:=Tryz.sizeOf64
 v53:=Tryz.zeroValue64}
theorem Tryz.bits_Len64(x:Int)(w:World)(a:0<=x)(b:x<=18446744073709551615):
  Calls Tryz.prog 148 #[.int .u64 x] w fun e w'=>e= .returned (.int .i64 (Lib.bitLen x.toNat))/\w'=w:=Any.bits_Len64 ZR x w a b
def Z5:Go.Shelf.Ren:=⟨fun|264=>167|n=>n,fun|53=>64|46=>101|n=>n,fun|n=>n⟩
theorem Z4:Go.Proofs.Lays.n264 Tryz.prog Z5:={
 mixed:=by kernel_rfl
 f264:=Tryz.func167.trans (congrArg some (by kernel_rfl))
 t46:=Tryz.underlying101
 a46:=Tryz.isAgg101
 z46:=Tryz.sizeOf101
 v46:=Tryz.zeroValue101
 t53:=Tryz.underlying64
 a53:=Tryz.isAgg64
 z53:=Tryz.sizeOf64
 v53:=Tryz.zeroValue64}
open Go.RowKit Go.Lib in
theorem Tryz.bits_Mul64(x y:Nat)(hx:x<18446744073709551616)(a:y<18446744073709551616)(w:World):
  Calls Tryz.prog 167 #[.int .u64 x,.int .u64 y] w fun e w'=>e= .returned (.tuple #[.int .u64 ((x*y/18446744073709551616:Nat):Int),.int .u64 ((x*y%18446744073709551616:Nat):Int)])/\w'=w:=Any.bits_Mul64 Z4 x y hx a w
end
end Go.Proofs
namespace Go.Proofs.YtdkchodgklpomaaGreatDoor
set_option maxRecDepth 100000
open Go.Value (int slice string bool pointer agg tuple func float iface nilIface)
open Go.IntKind (i64 u8 u64 i32 u32 u16 i8 i16)
open Go.FloatKind (f64)
open Go.Ending (returned panicked)
section
open Go
structure K2 where
 u:Nat
def DN:aQ where
 X:=K2
 args x:=[aA x.u]
 cond x:=x.u<=18446744073709551615
 val x _:=ax (ad (Lib.bitLen x.u))
theorem U4:aC 148 DN:=qU DN (fun _=>rfl) (fun _ _=>()) (fun _ _=>ao) (fun _ _=>rfl) fun x F I w a b hs=>
 (Go.Proofs.Tryz.bits_Len64 (x.u:Int) w (Int.natCast_nonneg _) (by have:x.u<=18446744073709551615:=a;omega)).mono fun e w' h=>⟨by rw[h.1,cw];rfl,RowKit.Below.of_eq h.2⟩
structure qX where
 u:Nat
 v:Nat
def Bf:aQ where
 X:=qX
 args x:=[aA x.u,aA x.v]
 cond x:=x.u<18446744073709551616/\x.v<18446744073709551616
 val x _:=.returned (.tuple #[.int .u64 (x.u*x.v/18446744073709551616:Nat),.int .u64 (x.u*x.v%18446744073709551616:Nat)])
theorem NW:aC 167 Bf:=qU Bf (fun _=>rfl) (fun _ _=>()) (fun _ _=>ao) (fun _ _=>rfl) fun x F I w a b hs=>
 (Go.Proofs.Tryz.bits_Mul64 x.u x.v a.1 a.2 w).mono fun e w' h=>⟨h.1,RowKit.Below.of_eq h.2⟩
end
section
open Go
structure mG where
 u:Nat
 b:Nat
 hi:Nat
 lo:Nat
 s:Nat
def Fy(x:mG):Int:=(x.u*x.hi/18446744073709551616:Nat)
def KG(x:mG):Int:=(x.u*x.hi%18446744073709551616:Nat)
def KH(x:mG):Int:=(x.u*x.lo/18446744073709551616:Nat)
def Fz(x:mG):Bool:=u64.wrap ((Fy x).fdiv (2^min (↑x.s:Int).toNat u64.bits)*2^min (↑x.s:Int).toNat u64.bits)!=Fy x
def Xj(x:mG):Int:=u64.wrap (↑(BitVec.ofInt u64.bits ((Fy x).fdiv (2^min (↑x.s:Int).toNat u64.bits))|||BitVec.ofInt u64.bits 1).toNat:Int)
def Xk(x:mG):Int:=u64.wrap (↑(BitVec.ofInt u64.bits ((u64.wrap (Fy x-bif decide (KG x<KH x) then 1 else 0)).fdiv (2^min (↑x.s:Int).toNat u64.bits))|||BitVec.ofInt u64.bits (bif decide (u64.wrap (KG x-KH x)>1) then 1 else 0)).toNat:Int)
def ig(x:mG):Int:=bif Fz x then Xj x else Xk x
theorem aaC{d:Nat}(h:d<64):i64.wrap (↑(BitVec.ofInt i64.bits (d:Int)&&& BitVec.ofInt i64.bits 63).toNat:Int)=(d:Int):=by
 show i64.wrap (↑((BitVec.ofNat 64 d&&& BitVec.ofNat 64 63:BitVec 64).toNat):Int)=_;have:(BitVec.ofNat 64 d&&& BitVec.ofNat 64 63).toNat=d:=by
  rw[BitVec.toNat_and,BitVec.toNat_ofNat,BitVec.toNat_ofNat];have b:d%2^64=d:=Nat.mod_eq_of_lt ae;rw[b];have a:=Nat.and_two_pow_sub_one_eq_mod d 6;rw[Nat.mod_eq_of_lt (show d<2^6 by omega)]at a;exact a
 rw[this];exact dz (i:=.i64) aK
def wT(x:mG):Option Addr:=some ⟨x.b,0,none⟩
def r9:aQ where
 X:=mG
 args x:=[aA x.u,ag (wT x)]
 cond x:=x.u<18446744073709551616/\x.hi<18446744073709551616/\x.lo<18446744073709551616/\x.s<64
 aO x F:=aP F ⟨x.b,0,none⟩ (.int .u64 x.hi)/\aP F ⟨x.b,1,none⟩ (.int .u64 x.lo)/\aP F ⟨x.b,2,none⟩ (.int .i64 x.s)
 val x _:=ax (aA (ig x))
 eM _ _ _ hs h:=⟨h.1.sub hs,h.2.1.sub hs,h.2.2.sub hs⟩
def akG(x:mG)(F:ah):Nat->Option Inv:=fun
 |3=>some {X:=Unit,P:=fun _=>True,mu:=fun _=>0,lv:=fun _=>[(0,aA x.u),(1,ag (wT x)),(5,aA (x.u*x.hi/18446744073709551616:Nat)),(6,aA (x.u*x.hi%18446744073709551616:Nat)),(7,ad x.s)],st:=fun _=>[F]}
 |_=>none
def Ay(aa:ah)(a:Addr)(b:Int->Prop):=∃(z0:Int),aP aa a (aA z0)/\b z0
def Df(aa:List Value)(a:qX->Unit->Prop):=aC 167 Bf/\true=true/\∃(z:qX),aa=[aA ↑z.u,aA ↑z.v]/\([]:List ah)=[]/\(z.u<18446744073709551616/\z.v<18446744073709551616)/\True/\∀(b:Unit),True->a z b
def Dg(aa:List Value)(a:tT->Unit->Prop):=aC 132 ub/\true=true/\∃(z:tT),aa=[aj z.b]/\([]:List ah)=[]/\True/\True/\∀(b:Unit),True->a z b
theorem akH(x:mG)(F:ah)(q:r9.cond x)(r:r9.aO x F):Ay F ⟨x.b,0,none⟩ (fun l=>Df [aA ↑x.u,aA l] (fun k j=>T1 F ⟨x.b,2,none⟩ (fun b=>∃(a:Unit),True/\(aA ↑x.u=aA ↑x.u/\ag (wT x)=ag (wT x)/\aA (↑(k.u*k.v/18446744073709551616):Int)=aA (↑(x.u*x.hi/18446744073709551616):Int)/\aA (↑(k.u*k.v%18446744073709551616):Int)=aA (↑(x.u*x.hi%18446744073709551616):Int)/\ad (bU (↑(gQ b&&& gQ (63:Int)).toNat:Int))=ad ↑x.s/\True)/\aE [(0,F)] [(0,F)])/\aT fun(i:Unit)_=>True->Br (bf ((↑(x.u*x.hi/18446744073709551616):Int).fdiv ((2:Int)^min (x.s:Int).toNat u64.bits)*2^min (x.s:Int).toNat u64.bits)!=(↑(x.u*x.hi/18446744073709551616):Int)) (ar r9 x F (ax (aA (bf (↑(b7 ((↑(x.u*x.hi/18446744073709551616):Int).fdiv ((2:Int)^min (x.s:Int).toNat u64.bits))|||b7 (1:Int)).toNat:Int)))) [(0,F)]) (Ay F ⟨x.b,1,none⟩ (fun g=>Df [aA ↑x.u,aA g] (fun f e=>Dg [aj (decide ((↑(x.u*x.hi%18446744073709551616):Int)<(↑(f.u*f.v/18446744073709551616):Int)))] (fun d c=>true=true/\Dg [aj (decide (bf ((↑(x.u*x.hi%18446744073709551616):Int)-(↑(f.u*f.v/18446744073709551616):Int))>1))] (fun b a=>ar r9 x F (ax (aA (bf (↑(b7 ((bf ((↑(x.u*x.hi/18446744073709551616):Int)-bif d.b then (1:Int) else (0:Int))).fdiv ((2:Int)^min (x.s:Int).toNat u64.bits))|||b7 (bif b.b then (1:Int) else (0:Int))).toNat:Int)))) [(0,F)]))))))):=by
 delta Ay Df T1 wT Dg ad aA aj ag b7 gQ bf bU ax aT;obtain⟨m,n,o,p⟩:=q;obtain⟨l0,l1,l2⟩:=r;have fin:∀v,ig x=v->ar r9 x F (returned (int .u64 v)) [(0,F)]:=fun v e=>
  ⟨(),ao,by show _=returned (.int .u64 (ig x));rw[e],az [0]⟩
 refine⟨x.hi,l0,NW,rfl,⟨x.u,x.hi⟩,rfl,rfl,⟨m,n⟩,ao,fun _ _=>⟨⟨x.s,l2,(),ao,⟨rfl,rfl,rfl,rfl,by rw[aaC p],ao⟩,az [0]⟩,fun _ s _=>aG (fun h=>fin _ ?_) (fun h=>?_)⟩⟩
 ·unfold ig;rw[show Fz x=true from h];rfl
 ·refine⟨x.lo,l1,NW,rfl,⟨x.u,x.lo⟩,rfl,rfl,⟨m,o⟩,ao,fun _ _=>⟨MR,rfl,⟨_⟩,rfl,rfl,ao,ao,fun _ _=>⟨rfl,MR,rfl,⟨_⟩,rfl,rfl,ao,ao,fun _ _=>fin _ ?_⟩⟩⟩;unfold ig;rw[show Fz x=false from h];rfl
theorem KI:aC 151 r9:=fo 59 Tryz.func151 (fun _ _=>[(1,4,.q [.ex 0 (.int .u64)]),(1,5,aW Bf),(2,3,c9),(2,4,aX),(3,2,aX),(3,4,aX),(4,2,aX),(4,3,aX),(5,4,.q [.ex 0 (.int .u64)]),(5,5,aW Bf),(6,4,aW ub),(6,5,aX),(7,2,aX),(7,5,aX),(7,7,aW ub),(7,8,aX)]) [] aY akG bA [] akH
end
section
open Go
structure xL where
 b:Nat
 v0:Value
 v1:Value
 v2:Value
 e:Int
 p:Int
 l:Int
 tb:Nat->Nat
def y1:aQ where
 X:=xL
 args x:=[ag (some ⟨x.b,0,none⟩),ad x.e,ad x.p,ad x.l]
 pre x:=[af x.b [x.v0,x.v1,x.v2] 178]
 cond x:= -348<=x.p/\x.p<348/\ -1000000<=x.e/\x.e<=1000000/\ -1000000<=x.l/\x.l<=1000000
 aO x F:=∀i,i<1392->aP F ⟨15,i,none⟩ (.int .u64 (x.tb i))
 val x _:=.returned (.tuple #[])
 post x _:=[af x.b [aA (x.tb ((x.p+348).toNat*2)),aA (x.tb ((x.p+348).toNat*2+1)),ad (-(x.e+x.l+3))] 178]
 eM _ _ _ hs h:=fun i hi=>(h i hi).sub hs
def Qc(x:xL):=(-9223372036854775808:Int)<=x.p-(-348:Int)/\x.p-(-348:Int)<=(9223372036854775807:Int)
def Rq(x:xL):=0<=x.p-(-348:Int)/\x.p-(-348:Int)<(↑(696:Nat):Int)
theorem aim(x:xL)(F:ah)(o:y1.cond x)(c:y1.aO x F):Qc x/\Rq x/\Ay F ⟨15,0+(x.p-(-348:Int)).toNat*2,none⟩ (fun b=>aw x.b 0/\Qc x/\Rq x/\Ay F ⟨15,0+(x.p-(-348:Int)).toNat*2+1,none⟩ (fun a=>aw x.b 1/\bM (x.e+x.l)/\((-9223372036854775808:Int)<=x.e+x.l+3/\x.e+x.l+3<=(9223372036854775807:Int))/\aw x.b 2/\ar y1 x F eC [(0,af x.b [aA b,aA a,ad (bU ((0:Int)-(x.e+x.l+3)))] 178),(1,F)])):=by
 delta Qc Rq Ay eC aw bM ad aA af bU ax;obtain⟨b,v0,v1,v2,e,p,l,tb⟩:=x;obtain⟨f,g,h,j,k,m⟩:=o;replace c:∀i,i<1392->aP F ⟨15,i,none⟩ (.int .u64 (tb i)):=c;dsimp only at f g h j k m⊢;have e1:0+(p- -348).toNat*2=(p+348).toNat*2:=by rw[show p- -348=p+348 by omega,gT]
 have d:i64.wrap (0-(e+l+3))= -(e+l+3):=by
  rw[dz (i:=.i64) (n:=0-(e+l+3)) aK];omega
 rw[e1];refine⟨aK,aK,tb _,c _ ae,aq,aK,aK,tb _,c _ ae,aq,aK,aK,aq,(),ao,rfl,?_⟩
 first
  |exact az [0,1]
  | (rw[d];exact az [0,1])
theorem Wc:aC 150 y1:=fo 32 Tryz.func150 (fun _ _=>[(0,5,.q [.ex 1 (.int .u64)]),(0,8,.w [.z00 0]),(1,5,.q [.ex 1 (.int .u64)]),(1,8,.w [.z00 0]),(2,8,.w [.z00 0])]) [] aY aY bA [] aim
end
section
open Go
def mC(k kn:IntKind):kP where
 X:=Int×Int
 args x:=[.int k x.1,.int kn x.2]
 cond x:=0<=x.2
 val x:=.int k (k.wrap (x.1*2^min x.2.toNat k.bits))
def tE(k kn:IntKind):kP where
 X:=Int×Int
 args x:=[.int k x.1,.int kn x.2]
 cond x:=0<=x.2
 val x:=.int k (x.1.fdiv (2^min x.2.toNat k.bits))
variable{k kn:IntKind}{o:Oper}{x y:Operand}{P:Program}{t tn:TypeId}
theorem m5(e:o.op= .binOp .shl t x y tn):dJ P o (mC k kn):=by
 refine⟨fun q w ρ f d=>?_⟩;obtain⟨a,b⟩:=q;have d:0<=b:=d;simp only[e,Op.operands,mC]at f;have c:ρ x= .int k a/\ρ y= .int kn b:=by grind
 obtain⟨hx,h⟩:=c;have g:¬b<0:=ae;simp[execOp,e,hx,h,eqGuard,binOp,Op.shift,mC,g,Sem.run]
theorem xg(e:o.op= .binOp .shr t x y tn):dJ P o (tE k kn):=by
 refine⟨fun q w ρ f d=>?_⟩;obtain⟨a,b⟩:=q;have d:0<=b:=d;simp only[e,Op.operands,tE]at f;have c:ρ x= .int k a/\ρ y= .int kn b:=by grind
 obtain⟨hx,h⟩:=c;have g:¬b<0:=ae;simp[execOp,e,hx,h,eqGuard,binOp,Op.shift,tE,g,Sem.run]
structure jV where
 m:Nat
 e:Int
 g:Nat
 tb:Nat->Nat
def dM(e:Int):Int:=(e*108853).fdiv (2^min (Int.toNat 15) i64.bits)
def hg(x:jV):Int:=Lib.bitLen x.m
def il(x:jV):Int:=min 1074 (53-hg x-dM x.e)
def jH(x:jV):Int:= -(il x-(64-hg x)+dM x.e+3)
def DD(x:jV):Int:=u64.wrap (x.m*2^min (64-hg x).toNat u64.bits)
def p_(x:jV):Int:=ig ⟨(DD x).toNat,0,x.tb ((x.e+348).toNat*2),x.tb ((x.e+348).toNat*2+1),(jH x).toNat⟩
def oq(x:jV):Int:=bif decide (p_ x>=xs 9007199254740992) then 1 else 0
def Ug(x:jV):Int:=u64.wrap (↑(BitVec.ofInt u64.bits ((p_ x).fdiv (2^min (oq x).toNat u64.bits))|||BitVec.ofInt u64.bits (u64.wrap (↑(BitVec.ofInt u64.bits (p_ x)&&& BitVec.ofInt u64.bits 1).toNat:Int))).toNat:Int)
def Ni(x:jV):Int:=u64.wrap (↑(BitVec.ofInt u64.bits (↑x.g:Int)|||BitVec.ofInt u64.bits (nS (Ug x))).toNat:Int)
def Uh(x:jV):Nat:=(u64.wrap (↑(BitVec.ofInt u64.bits (↑x.g:Int)|||BitVec.ofInt u64.bits 0).toNat:Int)).toNat
def gw(x:jV):Nat×Nat:=bif decide (jH x>=64) then (Uh x,0) else k8 ⟨Ni x,i64.wrap (0-(il x-oq x))⟩
theorem fW(z:Int):0<=u64.wrap z/\u64.wrap z<=18446744073709551615:=by
 have:u64.wrap z=z%18446744073709551616:=by rfl
 omega
theorem Xm(x:mG):0<=ig x/\ig x<=18446744073709551615:=by
 unfold ig;cases Fz x
 ·exact fW _
 ·exact fW _
theorem afD(e:Int):dM e=e*108853/32768:=by
 unfold dM;rw[show min (Int.toNat 15) i64.bits=15 from rfl];grind
theorem acI{x:jV}(b:x.m<18446744073709551616)(c: -348<=x.e)(d:x.e<348):0<=hg x/\hg x<=64/\ -1157<=dM x.e/\dM x.e<=1153/\il x<=1074/\ -1200<=il x/\8<=jH x:=by
 have e:hg x<=64:=by
  unfold hg;have:=Lib.bitLen_le x.m 64 ae ae;omega
 have a:0<=hg x:=Int.natCast_nonneg _;have hl:=afD x.e;have f:il x=min 1074 (53-hg x-dM x.e):=rfl;have hs:jH x= -(il x-(64-hg x)+dM x.e+3):=rfl;omega
def AX:aQ where
 X:=jV
 Y:=Unit ⊕ Unit
 args x:=[aA x.m,ad x.e,aA x.g]
 cond x:=x.m<18446744073709551616/\ -348<=x.e/\x.e<348/\x.g<18446744073709551616/\∀i,x.tb i<18446744073709551616
 aO x F:=∀i,i<1392->aP F ⟨15,i,none⟩ (.int .u64 (x.tb i))
 bZ x y:=match y with
  | .inl _=>(gw x).2=0
  | .inr _=>(gw x).2=1
 val x y:=match y with
  | .inl _=>.returned (.tuple #[.float .f64 (gw x).1,.nilIface])
  | .inr _=>.returned (.tuple #[.float .f64 (gw x).1,.iface 128 (.int .i64 1)])
 eM _ _ _ hs h:=fun i hi=>(h i hi).sub hs
 sum:=some (hU Unit Unit)
structure sf where
 b:Nat
 u:Int
 g:Int
def acG(x:jV)(F:ah):Nat->Option Inv:=fun
 |4=>some {X:=Unit,P:=fun _=>True,mu:=fun _=>0,lv:=fun _=>[(0,aA x.m),(1,ad x.e),(2,aA x.g),(8,ad (hg x)),(9,ad (dM x.e)),(10,ad (il x))],st:=fun _=>[F]}
 |8=>some {X:=sf,P:=fun _=>jH x<64,mu:=fun _=>0,lv:=fun d=>[(0,aA x.m),(2,aA x.g),(8,ad (hg x)),(10,ad (il x)),(11,ag (some ⟨d.b,0,none⟩))],st:=fun d=>[F,af d.b [aA (x.tb ((x.e+348).toNat*2)),aA (x.tb ((x.e+348).toNat*2+1)),ad (jH x)] 178]}
 |9=>some {X:=sf,P:=fun d=>jH x<64/\d.u=p_ x,mu:=fun _=>0,lv:=fun d=>[(2,aA x.g),(10,ad (il x)),(12,aA d.u)],st:=fun _=>[F]}
 |10=>some {X:=sf,P:=fun d=>jH x<64/\d.u=p_ x/\d.g=oq x,mu:=fun _=>0,lv:=fun d=>[(2,aA x.g),(10,ad (il x)),(12,aA d.u),(13,ad d.g)],st:=fun _=>[F]}
 |_=>none
def Gr(aa:List Value)(a:K2->Unit->Prop):=aC 148 DN/\true=true/\∃(z:K2),aa=[aA ↑z.u]/\([]:List ah)=[]/\z.u<=18446744073709551615/\True/\∀(b:Unit),True->a z b
def E3(z:l4):=(-100000:Int)<=z.i/\z.i<=100000
def Gs(aa:List Value)(a:l4->Unit->Prop):=aC 149 yE/\true=true/\∃(z:l4),aa=[ad z.i]/\([]:List ah)=[]/\E3 z/\True/\∀(b:Unit),True->a z b
def Gt(aa:List Value)(pp:List ah)(rr:ah)(a:xL->Unit->Prop):=aC 150 y1/\true=true/\∃(z:xL),aa=[ag (some ⟨z.b,0,none⟩),ad z.e,ad z.p,ad z.l]/\pp=[af z.b [z.v0,z.v1,z.v2] 178]/\((-348:Int)<=z.p/\z.p<348/\(-1000000:Int)<=z.e/\z.e<=1000000/\(-1000000:Int)<=z.l/\z.l<=1000000)/\(∀(w0:Nat),w0<1392->aP rr ⟨15,w0,none⟩ (aA (↑(z.tb w0):Int)))/\∀(b:Unit),True->a z b
def BX:List Value:=[aA 0,aA 0,ad 0]
def Ed(F:ah)(m:xL):=[(0,F),(5000,af m.b [aA (↑(m.tb ((m.p+348).toNat*2)):Int),aA (↑(m.tb ((m.p+348).toNat*2+1)):Int),ad (-(m.e+m.l+3))] 178)]
def Id(F:ah)(a:sf)(x:jV):=[(0,F),(1,af a.b [aA (↑(x.tb ((x.e+348).toNat*2)):Int),aA (↑(x.tb ((x.e+348).toNat*2+1)):Int),ad (jH x)] 178)]
def o8(b:Oper)(aa:List Value)(a:Int×Int->Prop):=dJ Tryz.prog b (mC u64 i64)/\∃(z:Int×Int),aa=[aA z.fst,ad z.snd]/\0<=z.snd/\a z
def Az(aa:List Value)(rr:ah)(a:mG->Unit->Prop):=aC 151 r9/\true=true/\∃(z:mG),aa=[aA ↑z.u,ag (wT z)]/\([]:List ah)=[]/\(z.u<18446744073709551616/\z.hi<18446744073709551616/\z.lo<18446744073709551616/\z.s<64)/\(aP rr ⟨z.b,0,none⟩ (aA ↑z.hi)/\aP rr ⟨z.b,1,none⟩ (aA ↑z.lo)/\aP rr ⟨z.b,2,none⟩ (ad ↑z.s))/\∀(b:Unit),True->a z b
def BY(z:p0):=0<=z.u/\z.u<=18446744073709551615
def tZ(b:Oper)(aa:List Value)(a:Int×Int->Prop):=dJ Tryz.prog b (tE u64 i64)/\∃(z:Int×Int),aa=[aA z.fst,ad z.snd]/\0<=z.snd/\a z
def Gu(aa:List Value)(a:p0->Unit->Prop):=aC 155 (iN nS)/\true=true/\∃(z:p0),aa=[aA z.u]/\([]:List ah)=[]/\BY z/\True/\∀(b:Unit),True->a z b
theorem acJ(x:jV)(F:ah)(H:AX.cond x)(E:AX.aO x F):Gr [aA ↑x.m] (fun t s=>Gs [ad x.e] (fun r q=>(bM ((53:Int)-(↑(Lib.bitLen t.u):Int))/\bM ((53:Int)-(↑(Lib.bitLen t.u):Int)-(r.i*108853).fdiv ((2:Int)^min (Int.toNat (15:Int)) i64.bits))/\∃(a:Unit),True/\(aA ↑x.m=aA ↑x.m/\ad x.e=ad x.e/\aA ↑x.g=aA ↑x.g/\ad (↑(Lib.bitLen t.u):Int)=ad (hg x)/\ad ((r.i*108853).fdiv ((2:Int)^min (Int.toNat (15:Int)) i64.bits))=ad (dM x.e)/\ad (if (53:Int)-(↑(Lib.bitLen t.u):Int)-(r.i*108853).fdiv ((2:Int)^min (Int.toNat (15:Int)) i64.bits)<1074 then (53:Int)-(↑(Lib.bitLen t.u):Int)-(r.i*108853).fdiv ((2:Int)^min (Int.toNat (15:Int)) i64.bits) else (1074:Int))=ad (il x)/\True)/\aE [(0,F)] [(0,F)])/\aT fun(p:Unit)_=>True->∀(n:Nat),bM ((64:Int)-hg x)/\bM (il x-((64:Int)-hg x))/\Gt [ag (bI n),ad (il x-((64:Int)-hg x)),ad x.e,ad (dM x.e)] [af n BX 178] (aH [(0,F),(5000,af n BX 178)] [5000]) (fun m l=>(d9 ⟨n,2,none⟩ m.b/\aS (-(m.e+m.l+3)>=64) (ar AX x F (ax (tuple ⟨[float f64 (bf (↑(b7 (x.g:Int)|||b7 (0:Int)).toNat:Int)).toNat,nilIface]⟩)) (Ed F m)) (∃(a:sf),jH x<64/\(aA ↑x.m=aA ↑x.m/\aA ↑x.g=aA ↑x.g/\ad (hg x)=ad (hg x)/\ad (il x)=ad (il x)/\ag (bI n)=ag (some ⟨a.b,0,none⟩)/\True)/\aE (Ed F m) (Id F a x)))/\aT fun(k:sf)_=>jH x<64->(bM ((64:Int)-hg x)/\o8 (ba Tryz.f135 8 3) [aA ↑x.m,ad ((64:Int)-hg x)] (fun d=>Az [aA (bf (d.fst*2^min d.snd.toNat u64.bits)),ag (some ⟨k.b,0,none⟩)] (aH (Id F k x) []) (fun c b=>∃(a:sf),(jH x<64/\a.u=p_ x)/\(aA ↑x.g=aA ↑x.g/\ad (il x)=ad (il x)/\aA (ig c)=aA a.u/\True)/\aE (Id F k x) [(0,F)])))/\aT fun(i:sf)_=>(jH x<64/\i.u=p_ x)->(aC 153 (iN xs)/\true=true/\∃(e:p0),[aA 9007199254740992]=[aA e.u]/\([]:List ah)=[]/\BY e/\True/\∀(d:Unit),True->aC 152 yc/\true=true/\∃(c:tT),[aj (decide (i.u>=xs e.u))]=[aj c.b]/\([]:List ah)=[]/\True/\True/\∀(b:Unit),True->∃(a:sf),(jH x<64/\a.u=p_ x/\a.g=oq x)/\(aA ↑x.g=aA ↑x.g/\ad (il x)=ad (il x)/\aA i.u=aA a.u/\ad (bif c.b then (1:Int) else (0:Int))=ad a.g/\True)/\aE [(0,F)] [(0,F)])/\aT fun(g:sf)_=>(jH x<64/\g.u=p_ x/\g.g=oq x)->tZ (ba Tryz.f135 10 2) [aA g.u,ad g.g] (fun e=>bM (il x-g.g)/\Gu [aA (bf (↑(b7 (e.fst.fdiv ((2:Int)^min e.snd.toNat u64.bits))|||b7 (bf (↑(b7 g.u&&& b7 (1:Int)).toNat:Int))).toNat:Int))] (fun d c=>aC 158 sY/\true=true/\∃(b:xK),[aA (bf (↑(b7 (x.g:Int)|||b7 (nS d.u)).toNat:Int)),ad (bU ((0:Int)-(il x-g.g)))]=[aA b.u,ad b.e]/\([]:List ah)=[]/\(0<=b.u/\b.u<=18446744073709551615/\(-1075:Int)<=b.e/\b.e<=100000)/\True/\(∀(a:Unit),(k8 b).snd=0->ar AX x F (ax (tuple ⟨[float f64 (k8 b).fst,nilIface]⟩)) [(0,F)])/\∀(a:Unit),(k8 b).snd=1->ar AX x F (ax (tuple ⟨[float f64 (k8 b).fst,fh 128 (ad 1)]⟩)) [(0,F)]))))):=by
 delta Gr E3 Gs Gt bI BX Ed Id o8 wT Az BY tZ Gu aH bM ad aA aj ag fh af b7 bf bU aS ax aT;obtain⟨G,B,C,N,D⟩:=H;replace E:∀i,i<1392->aP F ⟨15,i,none⟩ (.int .u64 (x.tb i)):=E;obtain⟨P,Q,R,T,U,V,W⟩:=acI G B C;have L:∀a b:Int,(if b<a then b else a)=min a b:=fun a b=>ae;have K:∀{S:St}{bG:List Nat},(0:Nat)∉bG->gt S 0=F->∀i,i<1392->aP (.dq (rest S bG)) ⟨15,i,none⟩ (.int .u64 (x.tb i)):=fun J e i hi=>aP.rest (j:=0) J (by simp[*]);refine bO U4 ⟨x.m⟩ (by grind) fun _ _=>bO U3 ⟨x.e⟩ ⟨by grind,by grind⟩ fun _ _=>⟨?_,fun _ y _ b=>?_⟩
 ·change((-9223372036854775808<=53-hg x/\53-hg x<=9223372036854775807)/\(-9223372036854775808<=53-hg x-dM x.e/\53-hg x-dM x.e<=9223372036854775807)/\_);refine⟨aK,aK,(),ao,⟨rfl,rfl,rfl,rfl,rfl,?_,ao⟩,az [0]⟩;exact congrArg _ (L 1074 (53-hg x-dM x.e))
 refine⟨aK,aK,Wc,rfl,⟨b,_,_,_,il x-(64-hg x),x.e,dM x.e,x.tb⟩,rfl,rfl,⟨B,C,by grind,by grind,by grind,by grind⟩,K aL rfl,fun _ _=>⟨⟨aq,bo (fun o=>?_) (fun f=>⟨⟨b,0,0⟩,by have f:¬jH x>=64:=f;omega,aV,az [0,5000]⟩)⟩,?_⟩⟩
 ·have o:jH x>=64:=o;have e:gw x=(Uh x,0):=by unfold gw;simp[*]
  exact⟨.inl (),by show(gw x).2=0;rw[e],by show _=returned (.tuple #[.float .f64 (gw x).1,.nilIface]);rw[e];rfl,az [0]⟩
 rintro⟨b,_,_⟩ y f;have f:jH x<64:=f;dsimp only;have O:0<=DD x/\DD x<=18446744073709551615:=fW (x.m*2^min (64-hg x).toNat u64.bits);refine⟨⟨aK,m5 rfl,(x.m,64-hg x),rfl,ae,KI,rfl,⟨(DD x).toNat,b,x.tb ((x.e+348).toNat*2),x.tb ((x.e+348).toNat*2+1),(jH x).toNat⟩,?_,rfl,⟨?_,D _,D _,?_⟩,?_,fun _ _=>⟨⟨0,p_ x,0⟩,⟨f,rfl⟩,aV,az [0]⟩⟩,?_⟩
 ·rfl
 ·grind
 ·simp[*]
 ·have h:∀(i:Nat)(v:Value),[int .u64 (x.tb ((x.e+348).toNat*2):Nat),.int .u64 (x.tb ((x.e+348).toNat*2+1):Nat),.int .i64 (jH x)][i]?=some v->aP (.dq (rest [(0,F),(1,ah.cells b [int .u64 (x.tb ((x.e+348).toNat*2):Nat),.int .u64 (x.tb ((x.e+348).toNat*2+1):Nat),.int .i64 (jH x)] 178)] [])) ⟨b,i,none⟩ v:=fun i v e=>aP.rest (j:=1) aL (aP.cells (by exact e));refine⟨h 0 _ rfl,h 1 _ rfl,h 2 _ ?_⟩;grind
 rintro⟨_,u,_⟩ y ⟨_,w⟩;dsimp only at w⊢;subst w;have w:=Xm ⟨(DD x).toNat,0,x.tb ((x.e+348).toNat*2),x.tb ((x.e+348).toNat*2+1),(jH x).toNat⟩;refine⟨bO akB ⟨9007199254740992⟩ ⟨by decide,by decide⟩ fun _ _=>⟨aaY,rfl,⟨_⟩,rfl,rfl,ao,ao,fun _ _=>⟨⟨0,p_ x,oq x⟩,⟨f,rfl,rfl⟩,aV,az [0]⟩⟩,?_⟩;rintro⟨_,u,g⟩ y ⟨_,e1,z⟩;dsimp only at e1 z⊢;subst e1 z;have I:0<=oq x/\oq x<=1:=by
  unfold oq;grind
 have M:i64.wrap (0-(il x-oq x))=0-(il x-oq x):=dz (i:=.i64) aK;have A:gw x=k8 ⟨Ni x,i64.wrap (0-(il x-oq x))⟩:=by unfold gw;rw[bF ae];rfl
 refine⟨xg rfl,(p_ x,oq x),rfl,I.1,aK,Wp,rfl,⟨Ug x⟩,rfl,rfl,fW _,ao,fun _ _=>bO agV ⟨Ni x,i64.wrap (0-(il x-oq x))⟩ ⟨(fW _).1,(fW _).2,by grind,by grind⟩ ⟨fun _ q=>⟨.inl (),by show(gw x).2=0;grind,by show _=returned (.tuple #[.float .f64 (gw x).1,.nilIface]);rw[A],az [0]⟩,fun _ q=>⟨.inr (),by show(gw x).2=1;grind,by show _=returned (.tuple #[.float .f64 (gw x).1,.iface _ (.int .i64 1)]);rw[A],az [0]⟩⟩⟩
theorem acH:aC 135 AX:=fo 63 Tryz.func135 (fun _ _=>[(1,1,aW DN),(2,1,aW yE),(3,4,aX),(4,0,.n 5000),(5,6,.c y1 [5000] [5000]),(6,1,aR 5000),(7,1,aX),(7,2,aX),(8,3,.qo (mC .u64 .i64)),(8,4,aW r9),(9,1,aW (iN xs)),(9,3,aW yc),(10,2,.qo (tE .u64 .i64)),(10,4,aX),(10,5,aX),(12,2,aW (iN nS)),(12,3,aX),(12,6,aW sY)]) [] aY acG bA [] acJ
end
end Go.Proofs.YtdkchodgklpomaaGreatDoor
