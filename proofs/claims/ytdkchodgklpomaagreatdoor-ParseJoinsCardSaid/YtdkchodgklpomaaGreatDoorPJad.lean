/- Part of the proof that ParseJoins answers true at every input. -/
import Derived.Test.YtdkchodgklpomaaGreatDoorPJac
set_option linter.all false
namespace Go.Proofs.YtdkchodgklpomaaGreatDoor
set_option maxRecDepth 100000
open Go.Value (int slice string bool pointer agg tuple func float iface nilIface)
open Go.IntKind (i64 u8 u64 i32 u32 u16 i8 i16)
open Go.FloatKind (f64)
open Go.Ending (returned panicked)
section
open Go
structure bR where
 nv:ByteArray->Nat
 tv:Nat->ByteArray
 rd:ah->Prop
 mono:∀{A B:ah},rd A->Sub A B->rd B
 rest:∀{S:St}{bG:List Nat}{j:Nat},j∉bG->rd (gt S j)->rd (.du (rest S bG))
structure eQ(K:bR)(F:ah):Prop where
 gl:Gl F
 rd:K.rd F
theorem eQ.sub{K:bR}{A B:ah}(h:eQ K A)(hs:Sub A B):eQ K B:=⟨h.gl.sub hs,K.mono h.rd hs⟩
theorem eQ.rest{K:bR}{S:St}{bG:List Nat}{j:Nat}(a:j∉bG)(h:eQ K (gt S j)):eQ K (.du (rest S bG)):=⟨h.gl.rest a,K.rest a h.rd⟩
def oe(K:bR):aR where
 X:=fe
 args x:=[ai x.s]
 cond x:=x.s.size<=8388608
 aO _ F:=K.rd F
 val x _:=ay (float f64 (K.nv x.s))
 eT _ _ _ hs h:=K.mono h hs
structure gR where
 K:bR
 l:cD
def tM(x:gR):Option Addr:=some ⟨x.l.b,0,none⟩
def BP(x:gR):List Value:=[ai x.l.src,ad x.l.i,aj x.l.aI,au x.l.oa x.l.on x.l.oc]
def oW:aR where
 X:=gR
 args x:=[ag (tM x)]
 pre x:=[af x.l.b (BP x) 68]
 cond x:=0<=x.l.i/\x.l.i<=x.l.src.size/\x.l.src.size<=1048576/\aD 72 (oe x.K)
 aO x F:=eQ x.K F
 val x _:=.returned (.tuple #[.float .f64 (bif (ea x.l.src x.l.i.toNat).2 then x.K.nv (bx (x.l.src.extract x.l.i.toNat (ea x.l.src x.l.i.toNat).1)) else 0),.bool (ea x.l.src x.l.i.toNat).2])
 post x _:=[af x.l.b [ai x.l.src,ad ((ea x.l.src x.l.i.toNat).1:Nat),aj x.l.aI,au x.l.oa x.l.on x.l.oc] 68]
def agD(x:gR)(a:ah):List (Nat×Nat×OH):=[(2,1,aX ny),(4,1,bv xG),(6,1,bv ua),(9,1,aX ny),(11,1,bv ua),(12,1,aX ny),(14,1,aX ny),(14,5,aX ny),(16,1,bv ua),(18,1,aX ny),(19,1,aX sn),(19,4,aX pJ),(21,10,aX wC),(21,11,aX (oe x.K))]
def aJ(s:ByteArray)(j:Nat):Nat×Bool:=(j,!(fX (bt s j)||bM (bt s j)))
def zl(s:ByteArray)(j:Nat):Nat×Bool:=(bE s bM j,decide (bE s bM j>j)&& !(fX (bt s (bE s bM j))||bM (bt s (bE s bM j))))
def pT(s:ByteArray)(j:Nat):Nat×Bool:=bif (bt s j|||32)==101 then zl s (bif bt s (j+1)==43||bt s (j+1)==45 then j+2 else j+1) else aJ s j
def zj(s:ByteArray)(j:Nat):Nat×Bool:=pT s (bif bt s j==46 then bE s bM (j+1) else j)
def wL(s:ByteArray)(i j:Nat):Nat×Bool:=bif decide (j-i>1)&&bt s i==48 then (j,false) else zj s j
def HK(s:ByteArray)(i:Nat):Nat×Bool:=wL s i (bE s bM i)
theorem zk(s:ByteArray)(i:Nat):ea s i=bif bt s i==48&&(decide (i+1<s.size)&&(bt s (i+1)|||32)==120) then (bE s fC (i+2),decide (bE s fC (i+2)>i+2)&& !(fX (bt s (bE s fC (i+2)))||bM (bt s (bE s fC (i+2))))) else HK s i:=rfl
theorem lj{A B C:Prop}(f:(A->B)->C)(g:A->B):C:=f g
theorem fS{n:Nat}(k:Nat){v:Bool}(h:((n:Int)==(k:Int))=v):(n==k)=v:=by
 rw[<-h,Bool.eq_iff_iff,beq_iff_eq,beq_iff_eq];omega
variable{s:ByteArray}{i:Nat}
theorem uK(h:bt s i≠0):i<s.size:=by
 rcases Nat.lt_or_ge i s.size with h'|h'
 ·exact h'
 ·exact absurd (uL h') h
theorem mY(s:ByteArray)(p:Nat->Bool)(h:i<=s.size):i<=bE s p i/\bE s p i<=s.size:=WZ s p _ i h
theorem Uz{j:Nat}(h:j<=s.size):((s.extract i j).toList==(ByteArray.mk #[]).toList)= !decide (j>i):=by
 have a:=xQ (s.extract i j);rw[hT,Nat.min_eq_left h]at a;grind
theorem TS{j k:Nat}(h:i+k<j)(a:j<=s.size):bt (s.extract i j) k=bt s (i+k):=by
 unfold bt;congr 2;rw[ByteArray.data_extract,Array.getElem?_extract,if_pos (by simp only[ByteArray.size]at a;omega)]
theorem SD(c:Nat):(iI c).length<=4:=by
 unfold iI;cases decide (c>65535) <;> simp
theorem alj(s:ByteArray):∀(f i:Nat)(o:List Nat),(mt s f i o).length<=o.length+4*(s.size-i):=by
 intro f
 induction f with
 |zero=>intro i o;show o.length<=_;omega
 |succ f b=>
  intro i o;rw[mt];by_cases hi:i<s.size
  ·rw[bw hi,aU];cases h:c7 s i with
   |none=>exact dq _
   |some a=>
    obtain⟨c,n⟩:=a;obtain⟨d,f2,f3⟩:=kV h;have e:=b (i+n) (o++iI c);have g:=SD c;grind
  simp[*]
theorem alk(s:ByteArray):(bx s).size<=4*s.size:=by
 have h:=alj s (s.size+1) 0 [];have e:(bx s).size=(mt s (s.size+1) 0 []).length:=by
  unfold bx cJ ByteArray.size;simp
 grind
structure ki where
 j:Nat
def VX(x:gR):List (Nat×Value):=[(0,.pointer (some ⟨x.l.b,0,none⟩)),(4,.int .i64 x.l.i)]
def VY(x:gR)(F:ah)(j:Nat):List ah:=[.cells x.l.b [.string x.l.src,.int .i64 j,.bool x.l.aI,.slice x.l.oa x.l.on x.l.oc] 68,F]
def HC(x:gR)(F:ah)(g:ByteArray->Nat->Nat×Bool):Inv:={X:=ki,P:=fun d=>x.l.i.toNat<=d.j/\d.j<=x.l.src.size/\ea x.l.src x.l.i.toNat=g x.l.src d.j,mu:=fun _=>0,lv:=fun _=>VX x,st:=fun d=>VY x F d.j}
def agC(x:gR)(F:ah):Nat->Option Inv:=fun
 |7=>some {X:=ki,P:=fun d=>x.l.i.toNat<=d.j/\d.j<=x.l.src.size/\ea x.l.src x.l.i.toNat=wL x.l.src x.l.i.toNat d.j,mu:=fun _=>0,lv:=fun d=>(5,.string (x.l.src.extract x.l.i.toNat d.j))::VX x,st:=fun d=>VY x F d.j}
 |9=>some (HC x F zj)
 |12=>some (HC x F pT)
 |16=>some (HC x F zl)
 |18=>some (HC x F aJ)
 |_=>none
def vq(x:gR):List Value:=[ag (tM x)]
def QY(x:gR):=(-9223372036854775808:Int)<=x.l.i+1/\x.l.i+1<=(9223372036854775807:Int)
def wS:=ay (tuple ⟨[float f64 0,aj false]⟩)
def Qj(c:cD)(F:ah):=[(0,af c.b [ai c.src,ad (↑(bE c.src fC c.i.toNat):Int),aj c.aI,au c.oa c.on c.oc] 68),(1,F)]
def Qf(e0:gR)(z:ki):=e0.l.i.toNat<=z.j/\z.j<=e0.l.src.size/\ea e0.l.src e0.l.i.toNat=(z.j,!(fX (bt e0.l.src z.j)||bM (bt e0.l.src z.j)))
def Ew(e0:gR):=ag (tM e0)=ag (tM e0)/\ad e0.l.i=ad e0.l.i/\True
def lK(x:gR)(m:ki)(F:ah):=[(0,af x.l.b [ai x.l.src,ad ↑m.j,aj x.l.aI,au x.l.oa x.l.on x.l.oc] 68),(1,F)]
def Gf(e0:gR)(e1:ah)(a:St):=∃(z:ki),Qf e0 z/\Ew e0/\aE a (lK e0 z e1)
def Gp(aa:List Value)(pp:List ah)(a:cD->Unit->Prop):=aD 56 ua/\true=true/\∃(z:cD),aa=[ag (gu z),func (Fn.func 58) ⟨[]⟩ ⟨[]⟩]/\pp=[af z.b (oZ z) 68]/\tQ z/\True/\∀(b:Unit),True->a z b
def Jw(x:gR):List Value:=[ag (tM x),func (Fn.func 58) ⟨[]⟩ ⟨[]⟩]
def QT(x:gR)(m:ki):=x.l.i.toNat<=m.j/\m.j<=x.l.src.size/\ea x.l.src x.l.i.toNat=wL x.l.src x.l.i.toNat m.j
def Tg(e0:gR)(e1:ah)(v0:Value)(a:St):=∃(z:ki),QT e0 z/\(v0=ai (e0.l.src.extract e0.l.i.toNat z.j)/\ag (tM e0)=ag (tM e0)/\ad e0.l.i=ad e0.l.i/\True)/\aE a (lK e0 z e1)
def Ed(c:cD)(F:ah):=[(0,af c.b [ai c.src,ad (↑(bE c.src bM c.i.toNat):Int),aj c.aI,au c.oa c.on c.oc] 68),(1,F)]
def Rf(x:gR)(k:ki):=x.l.i.toNat<=k.j/\k.j<=x.l.src.size/\ea x.l.src x.l.i.toNat=zj x.l.src k.j
def Mo(e0:gR)(e1:ah)(a:St):=∃(z:ki),Rf e0 z/\Ew e0/\aE a (lK e0 z e1)
def QO(k:ki):=(-9223372036854775808:Int)<=(k.j:Int)+1/\(k.j:Int)+1<=(9223372036854775807:Int)
def Ep(x:gR)(k:ki):List Value:=[ai x.l.src,ad ((k.j:Int)+1),aj x.l.aI,au x.l.oa x.l.on x.l.oc]
def Rg(x:gR)(i:ki):=x.l.i.toNat<=i.j/\i.j<=x.l.src.size/\ea x.l.src x.l.i.toNat=pT x.l.src i.j
def Ms(e0:gR)(e1:ah)(a:St):=∃(z:ki),Rg e0 z/\Ew e0/\aE a (lK e0 z e1)
def Pc(x:gR)(e:ki):=x.l.i.toNat<=e.j/\e.j<=x.l.src.size/\ea x.l.src x.l.i.toNat=(bE x.l.src bM e.j,decide (bE x.l.src bM e.j>e.j)&& !(fX (bt x.l.src (bE x.l.src bM e.j))||bM (bt x.l.src (bE x.l.src bM e.j))))
def My(e0:gR)(e1:ah)(a:St):=∃(z:ki),Pc e0 z/\Ew e0/\aE a (lK e0 z e1)
def O5(x:gR)(i:ki)(F:ah):=aw x.l.b 1/\((-9223372036854775808:Int)<=(i.j:Int)+1+(1:Int)/\(i.j:Int)+1+(1:Int)<=(9223372036854775807:Int))/\aw x.l.b 1/\My x F [(0,af x.l.b [ai x.l.src,ad ((i.j:Int)+1+(1:Int)),aj x.l.aI,au x.l.oa x.l.on x.l.oc] 68),(1,F)]
def q2(x:gR)(F:ah):=Gp (Jw x) [af x.l.b (BP x) 68] (fun c b=>Tg x F (ai (c.src.extract c.i.toNat (bE c.src bM c.i.toNat))) (Ed c F))/\aT fun(m:ki)_=>QT x m->aS ((↑(x.l.src.extract x.l.i.toNat m.j).size:Int)>1) (((0:Int)<=(0:Int)/\0<(↑(x.l.src.extract x.l.i.toNat m.j).size:Int))/\Br (aF (x.l.src.extract x.l.i.toNat m.j) (0:Int)==(48:Int)) (ar oW x F wS (lK x m F)) (Mo x F (lK x m F))) (Mo x F (lK x m F))/\aT fun(k:ki)_=>Rf x k->oI (vq x) (aH (lK x k F) []) (fun e d=>Br ((↑(bt e.src e.i.toNat):Int)==46) (aw x.l.b 1/\QO k/\aw x.l.b 1/\Gp (Jw x) [af x.l.b (Ep x k) 68] (fun c b=>Ms x F (Ed c F))) (Ms x F (lK x k F)))/\aT fun(i:ki)_=>Rg x i->oI (vq x) (aH (lK x i F) []) (fun g f=>Br (u8.wrap (↑(BitVec.ofInt u8.bits (↑(bt g.src g.i.toNat):Int)|||BitVec.ofInt u8.bits (32:Int)).toNat:Int)==101) (aw x.l.b 1/\QO i/\aw x.l.b 1/\oI (vq x) (aH [(0,af x.l.b (Ep x i) 68),(1,F)] []) (fun e d=>Br ((↑(bt e.src e.i.toNat):Int)==43) (O5 x i F) (oI (vq x) (aH [(0,af x.l.b (Ep x i) 68),(1,F)] []) (fun c b=>Br ((↑(bt c.src c.i.toNat):Int)==45) (O5 x i F) (My x F [(0,af x.l.b (Ep x i) 68),(1,F)]))))/\aT fun(e:ki)_=>Pc x e->Gp (Jw x) [af x.l.b [ai x.l.src,ad ↑e.j,aj x.l.aI,au x.l.oa x.l.on x.l.oc] 68] (fun c b=>Br ((c.src.extract c.i.toNat (bE c.src bM c.i.toNat)).toList==qY.toList) (ar oW x F wS (Ed c F)) (Gf x F (Ed c F)))) (Gf x F (lK x i F)))
def sZ(a:FuncId)(aa:List Value)(rr:ah)(b:fe->Unit->Prop):=aD a wC/\true=true/\∃(z:fe),aa=[ai z.s]/\([]:List ah)=[]/\z.s.size<=1048576/\gj rr/\∀(c:Unit),True->b z c
theorem agF(x:gR)(F:ah)(H:oW.cond x)(y:oW.aO x F):aw x.l.b 1/\(true=true/\oI (vq x) (aH [(0,af x.l.b (BP x) 68),(1,F)] []) (fun o n=>Br ((↑(bt o.src o.i.toNat):Int)==48) (aw x.l.b 1/\QY x/\aw x.l.b 0/\aS (x.l.i+1<(x.l.src.size:Int)) (aw x.l.b 0/\aw x.l.b 1/\QY x/\(0<=x.l.i+1/\x.l.i+1<(x.l.src.size:Int))/\Br (u8.wrap (↑(BitVec.ofInt u8.bits (aF x.l.src (x.l.i+1))|||BitVec.ofInt u8.bits (32:Int)).toNat:Int)==120) (aw x.l.b 1/\((-9223372036854775808:Int)<=x.l.i+2/\x.l.i+2<=(9223372036854775807:Int))/\aw x.l.b 1/\aD 56 xG/\true=true/\∃(c:cD),[ag (tM x),func (Fn.func 71) ⟨[]⟩ ⟨[]⟩]=[ag (gu c),func (Fn.func 71) ⟨[]⟩ ⟨[]⟩]/\[af x.l.b [ai x.l.src,ad (x.l.i+2),aj x.l.aI,au x.l.oa x.l.on x.l.oc] 68]=[af c.b (oZ c) 68]/\tQ c/\True/\∀(b:Unit),True->Br ((c.src.extract c.i.toNat (bE c.src fC c.i.toNat)).toList==qY.toList) (ar oW x F wS (Qj c F)) (Gf x F (Qj c F))) (q2 x F)) (q2 x F)) (q2 x F)))/\aT fun(l:ki)_=>Qf x l->oI (vq x) (aH (lK x l F) []) (fun j i=>AH (sB j) (fun h g=>Br (fX h.c) (ar oW x F wS (lK x l F)) (T0 (sB j) (fun f e=>Br (bM f.c) (ar oW x F wS (lK x l F)) (true=true/\aw x.l.b 0/\aw x.l.b 1/\(0<=x.l.i/\x.l.i<=l.j/\(l.j:Int)<=(x.l.src.size:Int))/\sZ 73 [ai (x.l.src.extract x.l.i.toNat (l.j:Int).toNat)] (aH (lK x l F) []) (fun d c=>aD 72 (oe x.K)/\true=true/\∃(b:fe),[ai (bx d.s)]=[ai b.s]/\([]:List ah)=[]/\b.s.size<=8388608/\x.K.3 (aH (lK x l F) [])/\∀(a:Unit),True->ar oW x F (ay (tuple ⟨[float f64 (x.K.nv b.s),aj true]⟩)) (lK x l F))))))):=by
 delta gu oI tM vq BP QY oZ tQ qY wS Qj Qf Ew lK Gf Gp Jw QT Tg Ed Rf Mo QO Ep Rg Ms Pc My O5 q2 AH sB T0 sZ aH aw ad ba ai aj ag au af aS ay aT;obtain⟨K,b,src,i0,aI,oa,on,oc⟩:=x;obtain⟨t,u,hs,D⟩:=H;replace y:eQ K F:=y;dsimp only at t u hs D;obtain⟨i,rfl⟩:∃i:Nat,i0=(i:Int):=⟨i0.toNat,(Int.toNat_of_nonneg t).symm⟩;dsimp only;rw[cy];have hi:i<=src.size:=ae;have fin:∀(j:Nat),ea src i=(j,false)->ar oW ⟨K,b,src,(i:Int),aI,oa,on,oc⟩ F (returned (tuple #[float f64 0,bool false])) [(0,ah.cells b [string src,int i64 (j:Int),bool aI,slice oa on oc] 68),(1,F)]:=fun j e=>
  ⟨(),ao,by show returned _=returned (.tuple #[.float .f64 (bif (ea src (i:Int).toNat).2 then _ else 0),.bool (ea src (i:Int).toNat).2]);simp[*],aE.pick [0,1] rfl (by simp only[oW,cy,e];rfl)⟩
 refine⟨al,lj (A:=ea src i=HK src i) (fun k=>⟨rfl,tJ,rfl,⟨b,src,i,aI,oa,on,oc⟩,rfl,rfl,⟨t,hs⟩,⟨aQ.rest (j:=0) aL (aQ.cells rfl),aQ.rest (j:=0) aL (aQ.cells rfl)⟩,fun _ _=>aG (fun p=>⟨al,aK,al,bo (fun r=>⟨al,al,aK,aK,aG (fun s=>?_) (fun s=>k ?_)⟩) (fun r=>k ?_)⟩) (fun p=>k ?_)⟩) (fun hk=>?_),?_⟩
 ·replace p:((bt src (i:Int).toNat:Int)==48)=true:=p;rw[cy]at p;replace p:=fS 48 p;rw[gB,show((i:Int)+1).toNat=i+1 by omega,zn (hF _ _)]at s;replace s:=fS 120 s;obtain⟨B,q⟩:=mY src fC (show i+2<=src.size by omega);have I:ea src i=(bE src fC (i+2),decide (bE src fC (i+2)>i+2)&& !(fX (bt src (bE src fC (i+2)))||bM (bt src (bE src fC (i+2))))):=by
   rw[zk,p,s,bw (show i+1<src.size by omega)];rfl
  refine⟨al,aK,al,ajA,rfl,⟨b,src,(i:Int)+2,aI,oa,on,oc⟩,rfl,rfl,⟨by grind,by grind,hs⟩,ao,fun _ _=>?_⟩;dsimp only;rw[show((i:Int)+2).toNat=i+2 by omega,Uz q];refine aG (fun h=>fin _ ?_) (fun h=>⟨⟨bE src fC (i+2)⟩,⟨by grind,q,?_⟩,aV,aA [0,1]⟩)
  all_goals grind
 ·replace p:((bt src (i:Int).toNat:Int)==48)=true:=p;rw[gB,show((i:Int)+1).toNat=i+1 by omega,zn (hF _ _)]at s;rw[zk,fS 120 s,lB,lB];rfl
 ·rw[zk,bF (show ¬i+1<src.size by omega),jp,lB];rfl
 ·replace p:((bt src (i:Int).toNat:Int)==48)=false:=p;rw[cy]at p;rw[zk,fS 48 p,jp];rfl
 ·obtain⟨B,q⟩:=mY src bM hi;refine⟨bO Sg ⟨b,src,i,aI,oa,on,oc⟩ ⟨t,u,hs⟩ fun _ _=>⟨⟨bE src bM i⟩,⟨B,q,hk⟩,aV,aA [0,1]⟩,?_⟩;rintro⟨j⟩ z ⟨g1,m,g3⟩;dsimp only at g1 m g3⊢;have G:(src.extract i j).size=j-i:=by simp[*]
  rw[G];refine⟨bo (fun p=>⟨aK,aG (fun r=>fin j ?_) (fun r=>⟨⟨j⟩,⟨g1,m,?_⟩,aV,aA [0,1]⟩)⟩) (fun p=>⟨⟨j⟩,⟨g1,m,?_⟩,aV,aA [0,1]⟩),?_⟩
  ·rw[gB,show Int.toNat 0=0 from rfl,TS ae m,Nat.add_zero]at r;rw[g3,wL,fS 48 r,bw (show j-i>1 by omega)];rfl
  ·rw[gB,show Int.toNat 0=0 from rfl,TS ae m,Nat.add_zero]at r;rw[g3,wL,fS 48 r,lB];rfl
  ·rw[g3,wL,bF (show ¬j-i>1 by omega)];rfl
  clear g1 m g3 G;rintro⟨j⟩ z ⟨g1,m,g3⟩;dsimp only at g1 m g3⊢;refine⟨bs tJ ⟨b,src,j,aI,oa,on,oc⟩ ⟨by simp[*],hs⟩ ⟨aQ.rest (j:=0) aL (aQ.cells rfl),aQ.rest (j:=0) aL (aQ.cells rfl)⟩ fun _ _=>aG (fun c=>?_) (fun c=>⟨⟨j⟩,⟨g1,m,?_⟩,aV,aA [0,1]⟩),?_⟩
  ·replace c:((bt src (j:Int).toNat:Int)==46)=true:=c;rw[cy]at c;replace c:=fS 46 c;have w:j<src.size:=uK (by grind);obtain⟨B,q⟩:=mY src bM (show j+1<=src.size by omega);exact⟨al,aK,al,Sg,rfl,⟨b,src,(j:Int)+1,aI,oa,on,oc⟩,rfl,rfl,⟨by grind,by grind,hs⟩,ao,fun _ _=>⟨⟨bE src bM (j+1)⟩,⟨by grind,q,by rw[g3,zj,c];rfl⟩,aV,aA [0,1]⟩⟩
  ·replace c:((bt src (j:Int).toNat:Int)==46)=false:=c;rw[cy]at c;rw[g3,zj,fS 46 c];rfl
  clear g1 m g3;rintro⟨j⟩ z ⟨g1,m,g3⟩;dsimp only at g1 m g3⊢;refine bs tJ ⟨b,src,j,aI,oa,on,oc⟩ ⟨by simp[*],hs⟩ ⟨aQ.rest (j:=0) aL (aQ.cells rfl),aQ.rest (j:=0) aL (aQ.cells rfl)⟩ fun _ _=>?_;dsimp only;rw[cy,zn (hF _ _)];refine aG (fun c=>?_) (fun c=>⟨⟨j⟩,⟨g1,m,?_⟩,aV,aA [0,1]⟩)
  ·replace c:=fS 101 c;have w:j<src.size:=by
    rcases Nat.lt_or_ge j src.size with h|h
    ·exact h
    ·rw[uL h]at c;cases c
   have C:ea src i=zl src (bif bt src (j+1)==43||bt src (j+1)==45 then j+2 else j+1):=by rw[g3,pT,c];rfl
   have v:((j:Int)+1).toNat=j+1:=ae;refine⟨al,aK,al,bs tJ ⟨b,src,(j:Int)+1,aI,oa,on,oc⟩ ⟨by grind,hs⟩ ⟨aQ.rest (j:=0) aL (aQ.cells rfl),aQ.rest (j:=0) aL (aQ.cells rfl)⟩ fun _ _=>aG (fun d=>?_) (fun d=>bs tJ ⟨b,src,(j:Int)+1,aI,oa,on,oc⟩ ⟨by grind,hs⟩ ⟨aQ.rest (j:=0) aL (aQ.cells rfl),aQ.rest (j:=0) aL (aQ.cells rfl)⟩ fun _ _=>aG (fun e=>?_) (fun e=>?_)),?_⟩
   ·replace d:((bt src ((j:Int)+1).toNat:Int)==43)=true:=d;rw[v]at d;replace d:=fS 43 d;have w:j+1<src.size:=uK (by grind);exact⟨al,aK,al,⟨j+2⟩,⟨by grind,by grind,by rw[C,d];rfl⟩,aV,aA [0,1]⟩
   ·replace e:((bt src ((j:Int)+1).toNat:Int)==45)=true:=e;rw[v]at e;replace e:=fS 45 e;have w:j+1<src.size:=uK (by grind);exact⟨al,aK,al,⟨j+2⟩,⟨by grind,by grind,by rw[C,e,mJ];rfl⟩,aV,aA [0,1]⟩
   ·replace d:((bt src ((j:Int)+1).toNat:Int)==43)=false:=d;replace e:((bt src ((j:Int)+1).toNat:Int)==45)=false:=e;rw[v]at d e;exact⟨⟨j+1⟩,⟨by grind,by grind,by rw[C,fS 43 d,fS 45 e];rfl⟩,aV,aA [0,1]⟩
   clear C v g1 m g3 c w;rintro⟨j⟩ z ⟨g1,m,g3⟩;dsimp only at g1 m g3⊢;obtain⟨B,q⟩:=mY src bM m;refine bO Sg ⟨b,src,j,aI,oa,on,oc⟩ ⟨by simp[*],by simp[*],hs⟩ fun _ _=>?_;dsimp only;rw[cy,Uz q];refine aG (fun h=>fin _ ?_) (fun h=>⟨⟨bE src bM j⟩,⟨by grind,q,?_⟩,aV,aA [0,1]⟩)
   all_goals grind
  ·rw[g3,pT,fS 101 c];rfl
 ·rintro⟨j⟩ z ⟨g1,m,g3⟩;dsimp only at g1 m g3⊢;refine bs tJ ⟨b,src,j,aI,oa,on,oc⟩ ⟨by simp[*],hs⟩ ⟨aQ.rest (j:=0) aL (aQ.cells rfl),aQ.rest (j:=0) aL (aQ.cells rfl)⟩ fun _ _=>?_;dsimp only;rw[cy];have E:=hF src j;refine bO N8 ⟨bt src j⟩ E fun _ _=>aG (fun c=>fin j ?_) (fun c=>bO wq ⟨bt src j⟩ E fun _ _=>aG (fun d=>fin j ?_) (fun d=>⟨rfl,al,al,⟨t,ae,ae⟩,KX,rfl,⟨src.extract i j⟩,rfl,rfl,?_,gj.rest (j:=1) aL y.gl.pl,fun _ _=>bs D ⟨bx (src.extract i j)⟩ (?_) (K.rest (j:=1) aL y.rd) fun _ _=>⟨(),ao,?_,aE.pick [0,1] rfl ?_⟩⟩))
  ·simp[*]
  ·simp[*]
  ·dsimp only;rw[hT];omega
  ·have:=alk (src.extract i j);rw[hT]at this;grind
  ·show returned _=returned (.tuple #[.float .f64 (bif (ea src (i:Int).toNat).2 then K.nv (bx (src.extract (i:Int).toNat (ea src (i:Int).toNat).1)) else 0),.bool (ea src (i:Int).toNat).2]);simp[*]
  ·simp only[oW,cy,g3];rfl
theorem agE:aD 60 oW:=fo 122 Tryz.func60 agD [(1,3,aP 0),(2,7,aP 0),(10,3,aP 0),(13,3,aP 0),(21,3,aP 0),(2,12,aP 0),(10,7,.w [LH.z00 (0:Nat)]),(13,7,.w [LH.z00 (0:Nat)]),(21,8,aP 0),(2,20,aP 0),(15,3,aP 0),(2,24,aP 0),(15,7,.w [LH.z00 (0:Nat)]),(3,3,aP 0),(3,7,.w [LH.z00 (0:Nat)])] aY agC bA [] agF
end
section
open Go
theorem KK(p s:ByteArray):Lib.strCells (p++s)=Lib.strCells p++Lib.strCells s:=by
 unfold Lib.strCells;simp[*]
theorem akn{s:ByteArray}(h:s.size=0):Lib.strCells s=[]:=List.eq_nil_of_length_eq_zero (by rw[Lib.strCells_length,h])
structure FM where
 r:Row
 p:ByteArray
 s:ByteArray
def nM(e:TypeId)(p:ByteArray)(r:Row):Prop:=bz e 1 (Lib.strCells p) r/\(r.a=none\/0<r.cap)
def rX(e:TypeId):aR where
 X:=FM
 Y:=Row
 args x:=[au x.r.a x.r.n x.r.cap,ai x.s]
 pre x:=[x.r.A]
 cond x:=nM e x.p x.r/\x.r.n+x.s.size<=140737488355328
 b_ x r:=nM e (x.p++x.s) r
 val _ r:=ay r.v
 post _ r:=[r.A]
section
variable{P:Program}
theorem aaT{o:Oper}{s x:Operand}{t u e:TypeId}{c:TypeInfo}{z:Value}(N:o.op= .call {callee:=.builtin .append,args:=#[s,x],argTypes:=#[t,u]})
  (B:P.underlying t=some (.slice e)) (C:P.underlying u=some .string) (hi:P.info? e=some c) (O:c.zero=some z) (hk:c.size=1) (X:c.bytes=1) (A:z.cells.size=1):e_ P o (rX e):=by
 refine⟨fun x F I w ρ L Q T hs=>?_⟩;obtain⟨r,p,str⟩:=x;obtain⟨⟨d,i⟩,l⟩:=Q;dsimp only at d l i;simp only[N,Op.operands,Call.operands,rX]at L;have D:ρ s= .slice r.a r.n r.cap/\ρ x= .string str:=by grind
 obtain⟨J,K⟩:=D;have fW:∀w',(execOp ρ o).run P w'=((Builtin.append_ #[t,u] o.type #[.slice r.a r.n r.cap,.string str]).run P w').andThen fun v W=>.ok (.value v) W:=by
  intro w';simp[execOp,N,resolve,invoke,builtin,J,K]
 have H:Lib.strCells str=(str.data.map (fun b=>int .u8 b.toNat)).toList:=by unfold Lib.strCells;simp
 by_cases M:str.size=0
 ·have V:=akn M;refine⟨r,I,w,r.v,⟨by rw[KK,V,dn];omega,i⟩,?_,rfl,a8.le_refl I,hs,cv.refl w⟩;have G:=d.le;rw[fW];cases d <;> simp[Builtin.append_,run_underlying B,run_underlying C,sizeOf,typeInfo,hi,Builtin.lenOf,Builtin.firstCells,storeCells,G,M,Row.v]
 clear T L;dsimp only[rX,List.cons_append,List.nil_append]at hs;have y:=Lib.strCells_length str;cases d with
 |nil h=>
  have a:=run_append_nil_string (P:=P) w t u o.type e c z B C hi O str ae ae (by grind);have E:=grownCap_ge w str.size 0 e;refine⟨⟨some ⟨w.heap.size,0,none⟩,str.size,grownCap w str.size 0 e,.cells w.heap.size (Lib.strCells str++(Builtin.zeroCells z.cells (grownCap w str.size 0 e-str.size)).toList) e⟩,I,w.drew.alloc (.cells (str.data.map (fun b=>int .u8 b.toNat)++Builtin.zeroCells z.cells (grownCap w str.size 0 e-str.size)) e),_,⟨?_,?_⟩,?_,rfl,a8.le_refl I,?_,al⟩
  ·rw[KK,h,List.nil_append];exact .fU _ _ _ _ (by simp[*]) (by simp only[dJ,Array.length_toList,size_zeroCells,A,y];omega) E
  ·grind
  ·left;rw[fW,a];rfl
  ·have:=hs.alloc 0 (str.data.map (fun b=>int .u8 b.toNat)++Builtin.zeroCells z.cells (grownCap w str.size 0 e-str.size)) e;simpa[rX,Am,H]using this
 |fU b n cap sp hl U hn=>
  have g:w.heap[b]?=some (.cells ⟨Lib.strCells p++sp⟩ e (0,0)):=hs.cells (j:=0) rfl;dsimp only at l;by_cases f:n+str.size<=cap
  ·have m:n+str.size<=(⟨Lib.strCells p++sp⟩:Array Value).size:=by
    simp[*]
   have a:=Lib.run_append_room_string (P:=P) w t u o.type e c B C hi hk b n cap ⟨Lib.strCells p++sp⟩ g str f m;have k:(Lib.strCells p++sp).take n=Lib.strCells p:=by rw[show n=(Lib.strCells p).length by omega];exact List.take_left
   have q:(Lib.strCells p++Lib.strCells str++(Lib.strCells p++sp).drop (n+str.size)).length=cap*1:=by
    grind
   refine⟨⟨some ⟨b,0,none⟩,n+str.size,cap,.cells b (Lib.strCells p++Lib.strCells str++(Lib.strCells p++sp).drop (n+str.size)) e⟩,I,w.setRow b ⟨Lib.strCells p++Lib.strCells str++(Lib.strCells p++sp).drop (n+str.size)⟩,_,⟨?_,?_⟩,?_,rfl,a8.le_refl I,?_,al⟩
   ·rw[KK];exact .fU _ _ _ _ (by simp[*]) q f
   ·omega
   ·left;rw[fW,a];simp only[k];rfl
   ·have:=hs.setRow (j:=0) (b:=b) (vs:=Lib.strCells p++sp) (t:=e) (CH:=Lib.strCells p++Lib.strCells str++(Lib.strCells p++sp).drop (n+str.size)) rfl;simpa[rX,Am]using this
  ·have holds:∀j v,(Lib.strCells p)[j]?=some v->w.cell? ((⟨b,0,none⟩:Addr).add j)=some v:=by
    intro j v R;have S:=(jq.1 R).1;rw[pE,A1 (b:=b) al g];grind
   have a:=Lib.run_append_grow_string (P:=P) w t u o.type e c z B C hi O ⟨b,0,none⟩ n cap (Lib.strCells p) (by simp[*]) holds str ae ae (growslice_fits ae (by simp[*]));have E:=grownCap_ge w (n+str.size) cap e;refine⟨⟨some ⟨w.heap.size,0,none⟩,n+str.size,grownCap w (n+str.size) cap e,.cells w.heap.size (Lib.strCells p++Lib.strCells str++(Builtin.zeroCells z.cells (grownCap w (n+str.size) cap e-(n+str.size))).toList) e⟩,I,w.drew.alloc (.cells ((Lib.strCells p).toArray++(Lib.strCells str).toArray++Builtin.zeroCells z.cells (grownCap w (n+str.size) cap e-(n+str.size))) e),_,⟨?_,?_⟩,?_,rfl,a8.le_refl I,?_,al⟩
   ·rw[KK];refine .fU _ _ _ _ (by simp[*]) ?_ E;simp only[dJ,hl,y,Array.length_toList,size_zeroCells,A];omega
   ·grind
   ·left;rw[fW,a];rfl
   ·have:=hs.alloc 0 ((Lib.strCells p).toArray++(Lib.strCells str).toArray++Builtin.zeroCells z.cells (grownCap w (n+str.size) cap e-(n+str.size))) e;simpa[rX,Am]using this
end
end
section
open Go
section
variable{P:Program}
structure S8 where
 a:Option Addr
 n:Nat
 cap:Nat
def FH:ln where
 X:=S8
 args x:=[.slice x.a x.n x.cap]
 cond x:=x.a=none\/0<x.cap
 val x:=.pointer x.a
variable{o:Oper}{s x:Operand}{dst src t:TypeId}{j:TypeInfo}
theorem akZ(f:o.op= .call {callee:=.builtin .unsafeSliceData,args:=#[s],argTypes:=#[t]}):dR P o FH:=by
 refine⟨fun x w ρ g d=>?_⟩;obtain⟨a,n,cap⟩:=x;simp only[f,Op.operands,Call.operands,FH]at g;have c:ρ s= .slice a n cap:=by grind
 have b:(Builtin.unsafeSliceData_ #[t] o.type #[.slice a n cap]).run P w= .ok (.pointer a) w:=by
  cases a with
  |none=>rfl
  |some e=>
   have d:(some e:Option Addr)=none\/0<cap:=d;exact Lib.run_unsafeSliceData_row w _ _ e n cap (Or.elim d (fun h=>nomatch h) (fun h=>ae))
 simp[execOp,f,resolve,invoke,builtin,c,b,FH]
structure M1 where
 r:Row
 p:ByteArray
def CG(e:TypeId):aR where
 X:=M1
 args x:=[ag x.r.a,ad x.r.n]
 pre x:=[x.r.A]
 cond x:=nM e x.p x.r/\x.p.size<=9223372036854775807
 val x _:=ay (ai x.p)
 post _ _:=[.d8]
theorem XG{pt it e:TypeId}(l:o.op= .call {callee:=.builtin .unsafeString,args:=#[s,x],argTypes:=#[pt,it]})(hp:P.underlying pt=some (.pointer e))(t:P.cellsOf e=1):e_ P o (CG e):=by
 refine⟨fun X F I w ρ G q N hs=>?_⟩;obtain⟨r,p⟩:=X;obtain⟨⟨a,k⟩,z⟩:=q;dsimp only at a k z;simp only[l,Op.operands,Call.operands,CG]at G;have m:ρ s= .pointer r.a/\ρ x= .int .i64 r.n:=by grind
 obtain⟨g,f⟩:=m;have hn:r.n=p.size:=by have:=a.len;rw[Lib.strCells_length]at this;omega
 have v:p.data.toList.length=p.size:=aL;have drop:∀(w':World),(∀c,∀b,r.a=some ⟨b,0,none⟩->c≠b->w'.heap[c]?=w.heap[c]?)->w'.heap.size=w.heap.size->(r.a=none->w'=w)->Sat I (bC ((CG e).post ⟨r,p⟩ ()++[F])) w':=by
  intro w' C D E;have key:Sat I (f_ (bC [r.A,F]) 0 .d8) w':=by
   cases a with
   |nil h=>rw[E rfl];exact hs
   |fU b n cap sp hl y hn=>
    exact hs.write (j:=0) (b:=b) (fun o l=>l.1) (fun c q=>C c b rfl q) D (fun _ _=>ao)
  exact key
 by_cases A:p.size=0
 ·have u:p= .empty:=by
   apply ByteArray.ext;apply Array.eq_empty_of_size_eq_zero;simp[*]
  have d:=Lib.run_unsafeString_none (P:=P) w pt it o.type r.a;refine⟨(),I,w,.string p,ao,.inl ?_,rfl,a8.le_refl I,drop w (fun _ _ _ _=>rfl) rfl (fun _=>rfl),cv.refl w⟩;rw[show(r.n:Int)=0 by omega]at f;simp[execOp,l,resolve,invoke,builtin,g,f,d,u]
 ·cases a with
  |nil h=>exact absurd (by grind) A
  |fU b n cap sp hl y L=>
   have i:w.heap[b]?=some (.cells ⟨Lib.strCells p++sp⟩ e (0,0)):=hs.cells (j:=0) rfl;have d:=Lib.run_unsafeString_row (P:=P) w pt it o.type e hp t b cap (by unfold World.shape?;simp[*]) p.data.toList (by grind) (by grind) ae (by
    intro j x B;rw[pE,A1 (b:=b) al i];simp only[hU];have K:=(jq.1 B).1;rw[kq (by grind)];simp[Lib.strCells,B])
   rw[v]at d;refine⟨(),I,w.freeze ⟨b,0,none⟩ p.size,.string p,ao,.inl ?_,rfl,a8.le_refl I,drop _ ?_ ?_ (fun h=>by cases h),?_⟩
   ·dsimp only at hn f g;rw[hn]at f;simp[execOp,l,resolve,invoke,builtin,g,f,d]
   ·intro c M H J;cases H;unfold World.freeze;grind
   ·unfold World.freeze;simp[*]
   ·unfold World.freeze;rw[if_neg A];exact al
structure Lp where
 c:Int
def Cq:ln where
 X:=Lp
 args x:=[.int .i32 x.c]
 cond _:=True
 val x:=.string (Utf8.encode x.c)
theorem R6(d:o.op= .convert src dst x)(hs:(P.underlying src).isSome=true)(hd:P.underlying dst=some .string):dR P o Cq:=by
 refine⟨fun y w ρ e f=>?_⟩;obtain⟨c⟩:=y;simp only[d,Op.operands,Cq]at e;have b:ρ x= .int .i32 c:=by grind
 have a:=run_convert_int_string (P:=P) w src dst .i32 c hs hd;simp only[execOp,d,b];show((convert src dst (.int .i32 c))>>=fun v=>(pure (Next.value v):Sem Next)).run P w=_;rw[Sem.run_bind,a];rfl
structure K7 where
 b:Nat
structure nN(F:ah)(b:Nat)(t:TypeId):Prop where
 h:∀(I:a8)(m:Hp)(o:uz),F.holds I m o->∃vs:List Value,m b=some (.cells ⟨vs⟩ t (0,0))/\vs.length=2
theorem nN.sub{A B:ah}{b:Nat}(hs:Sub A B)(h:nN A b t):nN B b t:=⟨fun I m o c=>let ⟨d,a⟩:=hs I m o c;h.h I m d a⟩
theorem nN.cells{b:Nat}{t:TypeId}(u v:Value):nN (.cells b [u,v] t) b t:=⟨fun _ _ _ h=>⟨_,h.2,rfl⟩⟩
theorem nN.get{I:a8}{S:St}{w:World}{j b:Nat}(h:nN (gt S j) b t)(hs:Sat I S w):∃vs:List Value,w.heap[b]?=some (.cells ⟨vs⟩ t (0,0))/\vs.length=2:=by
 obtain⟨f,a,_⟩:=hs.lH;exact h.h _ _ _ (a j)
def yQ(t:TypeId):aR where
 X:=K7
 args x:=[ag (some ⟨x.b,0,none⟩)]
 aO x F:=nN F x.b t
 val x _:=ay (ag (some ⟨x.b,0,none⟩))
theorem acb{u:TypeId}(g:o.op= .convert src dst x)(hs:P.underlying src=some (.pointer t))(hd:P.underlying dst=some .unsafePointer)(m:P.info? t=some j)(k:j.size≠0):e_ P o (yQ u):=by
 refine⟨fun y F I w ρ i f l a=>?_⟩;obtain⟨b⟩:=y;simp only[g,Op.operands,yQ]at i;have d:ρ x= .pointer (some ⟨b,0,none⟩):=by grind
 obtain⟨vs,c,f⟩:=nN.get (j:=0) (show nN (gt (bC [F]) 0) b u from l) a;have h:=Lib.run_to_unsafe (P:=P) w ⟨b,0,none⟩ hs hd m k (e:=u) (cells:=2) (by simp[World.shape?,c,f]) (show(0:Nat)<2 by decide);refine⟨(),I,w,_,ao,.inl ?_,rfl,a8.le_refl I,a,cv.refl w⟩;simp only[execOp,g,d];simp[*]
theorem aca(g:o.op= .convert src dst x)(hs:P.underlying src=some .unsafePointer)(hd:P.underlying dst=some (.pointer t))(l:P.info? t=some j)(hl:liesAt P P.depth t (2/P.cellsOf t) 0 t 1=true):e_ P o (yQ t):=by
 refine⟨fun y F I w ρ i f k a=>?_⟩;obtain⟨b⟩:=y;simp only[g,Op.operands,yQ]at i;have d:ρ x= .pointer (some ⟨b,0,none⟩):=by grind
 obtain⟨vs,c,f⟩:=nN.get (j:=0) (show nN (gt (bC [F]) 0) b t from k) a;have h:=Lib.run_from_unsafe (P:=P) w ⟨b,0,none⟩ hs hd l (e:=t) (cells:=2) (by simp[World.shape?,c,f]) hl;refine⟨(),I,w,_,ao,.inl ?_,rfl,a8.le_refl I,a,cv.refl w⟩;simp only[execOp,g,d];simp[*]
structure FZ where
 a:Option Addr
def DY(f:FuncId):ln where
 X:=FZ
 args x:=[.func (.func f) #[] #[],.pointer x.a]
 cond _:=True
 val x:=.pointer x.a
theorem agK{f:FuncId}{fn:Func}{ts:Array TypeId}(e:o.op= .call {callee:=.value (.func f),args:=#[x],argTypes:=ts})
  (j:P.funcs[f]?=some fn) (c:(fn.name== "runtime.NumGoroutine")=false) (h:fn.body.isNone=true) (hn:Extern.findNext fn=none) (i:Extern.find fn=some Extern.AbiNoEscape.same):dR P o (DY f):=by
 refine⟨fun y w ρ g k=>?_⟩;obtain⟨a⟩:=y;simp only[e,Op.operands,Call.operands,DY]at g;have d:ρ (.func f)= .func (.func f) #[] #[]/\ρ x= .pointer a:=by grind
 have b:=run_callFunc_extern (P:=P) j c h hn i #[.pointer a] w;rw[Lib.run_noEscape]at b;simp[execOp,e,resolve,Deferred.ofValue,invoke,d.1,d.2,b,DY]
end
end
section
open Go
section
variable{P:Program}
def D7:ln where
 X:=FZ
 args x:=[.pointer x.a,.pointer none]
 cond _:=True
 val x:=.bool x.a.isNone
theorem aib{o:Oper}{t u:TypeId}{x y:Operand}(d:o.op= .binOp .eql t x y u)(h:P.underlying t=some (.pointer (P.pointee t))):dR P o D7:=by
 refine⟨fun X w ρ e g=>?_⟩;obtain⟨a⟩:=X;simp only[d,Op.operands,D7]at e;have b:ρ x= .pointer a/\ρ y= .pointer none:=by grind
 have c:=run_eql_pointer_nil (P:=P) w t a h;have f:(eqGuard .eql t x y (.pointer a) (.pointer none)).run P w= .ok () w:=by cases a <;> rfl
 simp[execOp,d,b.1,b.2,f,c,D7]
structure vW where
 a:Addr
def Ea:ln where
 X:=vW
 args x:=[.pointer (some x.a),.pointer (some x.a)]
 cond _:=True
 val _:=.bool false
theorem aiF{o:Oper}{t u e:TypeId}{j:TypeInfo}{x y:Operand}(d:o.op= .binOp .neq t x y u)(h:P.underlying t=some (.pointer e))(i:P.info? e=some j):dR P o Ea:=by
 refine⟨fun X w ρ f k=>?_⟩;obtain⟨a⟩:=X;simp only[d,Op.operands,Ea]at f;have b:ρ x= .pointer (some a)/\ρ y= .pointer (some a):=by grind
 have c:=Lib.run_neq_ptr_same (P:=P) w a h i;have g:(eqGuard .neq t x y (.pointer (some a)) (.pointer (some a))).run P w= .ok () w:=rfl;simp[execOp,d,b.1,b.2,g,c,Ea]
end
structure CN where
 b:Nat
 p:Option Addr
 v:Value
def xq(x:CN):Option Addr:=some ⟨x.b,0,none⟩
def yL:aR where
 X:=CN
 args x:=[ag (xq x)]
 pre x:=[af x.b [ag x.p,x.v] 95]
 cond x:=x.p=none\/x.p=some ⟨x.b,0,none⟩
 val _ _:=.returned (.tuple #[])
 post x _:=[af x.b [ag (xq x),x.v] 95]
def Mz(b:Oper)(aa:List Value)(rr:ah)(a:K7->Unit->Prop):=e_ Tryz.prog b (yQ (95:TypeId))/\true=true/\∃(z:K7),aa=[ag (some ⟨z.b,0,none⟩)]/\([]:List ah)=[]/\True/\nN rr z.b 95/\∀(c:Unit),True->a z c
def JZ(x:CN)(F:ah):=[(0,af x.b [ag x.p,x.v] 95),(1,F)]
def eM:=ay (tuple ⟨[]⟩)
theorem abJ(x:CN)(F:ah)(i:yL.cond x)(j:yL.aO x F):aw x.b 0/\dR Tryz.prog (a7 Tryz.f91 0 4) D7/\∃(f:FZ),[ag x.p,ag none]=[ag f.a,ag none]/\True/\Br f.a.isNone (Mz (a7 Tryz.f91 1 2) [ag (xq x)] (aH (JZ x F) []) (fun e d=>dR Tryz.prog (a7 Tryz.f91 1 3) (DY (105:FuncId))/\∃(c:FZ),[func (Fn.func 105) ⟨[]⟩ ⟨[]⟩,ag (some ⟨e.b,0,none⟩)]=[func (Fn.func 105) ⟨[]⟩ ⟨[]⟩,ag c.a]/\True/\Mz (a7 Tryz.f91 1 4) [ag c.a] (aH (JZ x F) []) (fun b a=>aw x.b 0/\ar yL x F eM [(0,af x.b [ag (some ⟨b.b,0,none⟩),x.v] 95),(1,F)]))) (aw x.b 0/\dR Tryz.prog (a7 Tryz.f91 2 5) Ea/\∃(a:vW),[ag x.p,ag (xq x)]=[ag (some a.a),ag (some a.a)]/\True/\ar yL x F eM (JZ x F)):=by
 delta Mz xq JZ eM aH aw ag af ay;have g:nN (.du (rest [(0,ah.cells x.b [pointer x.p,x.v] 95),(1,F)] [])) x.b 95:=(nN.cells _ _).sub (bU 0);refine⟨al,aib rfl rfl,⟨x.p⟩,rfl,ao,aG (fun h=>?_) (fun h=>?_)⟩
 ·exact bs (acb rfl rfl rfl rfl (by decide)) ⟨x.b⟩ trivial g fun _ _=>⟨agK rfl rfl rfl rfl rfl bl,⟨some ⟨x.b,0,none⟩⟩,rfl,ao,aca rfl rfl rfl rfl bl,rfl,⟨x.b⟩,rfl,rfl,ao,g,fun _ _=>⟨al,(),ao,rfl,aA [0,1]⟩⟩
 ·have hp:x.p=some ⟨x.b,0,none⟩:=by
   rcases i with i|i
   all_goals grind
  exact⟨al,aiF rfl rfl rfl,⟨⟨x.b,0,none⟩⟩,by rw[hp],ao,(),ao,rfl,aE.pick [0,1] rfl (by rw[hp];rfl)⟩
theorem abI:aD 91 yL:=fo 20 Tryz.func91 (fun _ _=>[(0,4,.qo D7),(2,5,.qo Ea),(1,2,.o (yQ 95) [] []),(1,3,.qo (DY 105)),(1,4,.o (yQ 95) [] [])]) [(0,3,aP 0),(1,7,.w [LH.z00 (0:Nat)]),(2,3,aP 0)] aY aY bA [] abJ
structure rI where
 b:Nat
 p:Option Addr
 r:Row
 t:ByteArray
 s:ByteArray
def p0(x:rI):Option Addr:=some ⟨x.b,0,none⟩
def sy(x:rI):List Value:=[ag x.p,au x.r.a x.r.n x.r.cap]
def Cd(x:rI)(r:Row):List Value:=[ag (p0 x),au r.a r.n r.cap]
def Ap:aR where
 X:=rI
 Y:=Row
 args x:=[ag (p0 x),ai x.s]
 pre x:=[af x.b (sy x) 95,x.r.A]
 cond x:=(x.p=none\/x.p=some ⟨x.b,0,none⟩)/\nM 5 x.t x.r/\x.r.n+x.s.size<=140737488355328
 b_ x r:=nM 5 (x.t++x.s) r
 val x _:=.returned (.tuple #[.int .i64 x.s.size,.nilIface])
 post x r:=[af x.b (Cd x r) 95,r.A]
def alC(x:rI)(F:ah):Nat->Option Inv:=fun
 |2=>some {X:=Unit,P:=fun _=>True,mu:=fun _=>0,lv:=fun _=>[(0,ag (p0 x)),(1,ai x.s)],st:=fun _=>[af x.b [ag (p0 x),au x.r.a x.r.n x.r.cap] 95,x.r.A,F]}
 |_=>none
def AL(c:Oper)(aa:List Value)(pp:List ah)(b:FM->Row->Prop):=e_ Tryz.prog c (rX (5:TypeId))/\true=true/\∃(z:FM),aa=[au z.r.a z.r.n z.r.cap,ai z.s]/\pp=[z.r.A]/\(nM 5 z.p z.r/\z.r.n+z.s.size<=140737488355328)/\True/\∀(a:Row),nM 5 (z.p++z.s) a->b z a
theorem alD(x:rI)(F:ah)(g:Ap.cond x)(f:Ap.aO x F):(aD 91 yL/\true=true/\∃(c:CN),[ag (p0 x)]=[ag (xq c)]/\[af x.b (sy x) 95]=[af c.b [ag c.p,c.v] 95]/\(c.p=none\/c.p=some ⟨c.b,0,none⟩)/\True/\∀(b:Unit),True->∃(a:Unit),True/\(ag (p0 x)=ag (p0 x)/\ai x.s=ai x.s/\True)/\aE [(0,af c.b [ag (xq c),c.v] 95),(1,x.r.A),(2,F)] [(0,af x.b [ag (p0 x),au x.r.a x.r.n x.r.cap] 95),(1,x.r.A),(2,F)])/\aT fun(d:Unit)_=>True->aw x.b 1/\AL (a7 Tryz.f76 2 6) [au x.r.a x.r.n x.r.cap,ai x.s] [x.r.A] (fun b a=>aw x.b 1/\ar Ap x F (ay (tuple ⟨[ad ↑x.s.size,nilIface]⟩)) [(0,af x.b (Cd x a) 95),(1,a.A),(2,F)]):=by
 delta p0 xq sy AL Cd aw ad ai ag au af ay aT;obtain⟨hp,e,hs⟩:=g;refine⟨bO abI ⟨x.b,x.p,.slice x.r.a x.r.n x.r.cap⟩ hp fun _ _=>⟨(),ao,aV,aA [0,1,2]⟩,?_⟩;intro _ h _;exact⟨al,aaT rfl rfl rfl rfl rfl rfl rfl rfl,rfl,⟨x.r,x.t,x.s⟩,rfl,rfl,⟨e,hs⟩,ao,fun r f=>⟨al,r,f,rfl,aA [0,1,2]⟩⟩
theorem XQ:aD 76 Ap:=fo 19 Tryz.func76 (fun _ _=>[(1,1,bv yL),(2,6,.o (rX 5) [1] [1])]) [(2,4,aP 0),(2,9,.w [LH.z00 (0:Nat)])] aY alC bA [] alD
def A0:aR where
 X:=rI
 args x:=[ag (p0 x)]
 pre x:=[af x.b (sy x) 95,x.r.A]
 cond x:=nM 5 x.t x.r/\x.t.size<=140737488355328
 val x _:=ay (ai x.t)
 post x _:=[af x.b (sy x) 95,.d8]
def Gu(b:Oper)(aa:List Value)(pp:List ah)(a:M1->Unit->Prop):=e_ Tryz.prog b (CG (5:TypeId))/\true=true/\∃(z:M1),aa=[ag z.r.a,ad ↑z.r.n]/\pp=[z.r.A]/\(nM 5 z.p z.r/\z.p.size<=9223372036854775807)/\True/\∀(c:Unit),True->a z c
theorem abA(x:rI)(F:ah)(e:A0.cond x)(f:A0.aO x F):true=true/\aw x.b 1/\dR Tryz.prog (a7 Tryz.f74 1 4) FH/\∃(c:S8),[au x.r.a x.r.n x.r.cap]=[au c.a c.n c.cap]/\(c.a=none\/0<c.cap)/\aw x.b 1/\Gu (a7 Tryz.f74 1 10) [ag c.a,ad ↑x.r.n] [x.r.A] (fun b a=>ar A0 x F (ay (ai b.p)) [(0,af x.b (sy x) 95),(1,bc),(2,F)]):=by
 delta Gu sy aw ad ai ag au af bc ay;obtain⟨d,hs⟩:=e;exact⟨rfl,al,akZ rfl,⟨x.r.a,x.r.n,x.r.cap⟩,rfl,d.2,al,XG rfl rfl bl,rfl,⟨x.r,x.t⟩,rfl,rfl,⟨d,by grind⟩,ao,fun _ _=>⟨(),ao,rfl,aA [0,1,2]⟩⟩
theorem abz:aD 74 A0:=fo 14 Tryz.func74 (fun _ _=>[(1,4,.qo FH),(1,10,.o (CG 5) [1] [1])]) [(1,3,aP 0),(1,8,aP 0)] aY aY bA [] abA
end
section
open Go
def Sc(c:Nat):Prop:=c<55296\/(57343<c/\c<=1114111)
variable{c:Nat}
theorem V3{s:ByteArray}{i n:Nat}(h:c7 s i=some (c,n)):Sc c:=by
 unfold c7 at h;by_cases hi:i<s.size
 ·rw[bw hi,aU]at h;have b:=Lib.decodeN_valid (s.size-i) (bt s i) (bt s (i+1)) (bt s (i+2)) (bt s (i+3)) (hF s i);revert h b;generalize Lib.decodeN (s.size-i) (bt s i) (bt s (i+1)) (bt s (i+2)) (bt s (i+3))=d;obtain⟨a,e⟩:=d;intro h b;have h':(bif a==65533&&e==1 then none else some (a,e))=some (c,n):=h;cases f:(a==65533&&e==1)with
  |true=>rw[f]at h';cases h'
  |false=>rw[f]at h';cases h';exact b
 grind
def fR(c:Nat):List Nat:=
 if c<128 then [c] else if c<2048 then [192+c/64,128+c%64] else if c<65536 then [224+c/4096,128+c/64%64,128+c%64] else [240+c/262144,128+c/4096%64,128+c/64%64,128+c%64]
theorem Nu(h:Sc c):Utf8.encode (c:Int)=cJ (fR c):=by
 have a:Utf8.valid (c:Int)=true:=by
  unfold Utf8.valid;unfold Sc at h;simp;omega
 unfold Utf8.encode fR cJ;rw[a];simp only[cy,if_true]
 repeat' split
 all_goals first|rfl| (exfalso;omega)
theorem r8(l:List Nat):(cJ l).size=l.length:=by
 unfold cJ ByteArray.size;simp
theorem Dy{l:List Nat}(h:∀b∈l,b<256)(k:Nat):bt (cJ l) k=l.getD k 0:=by
 unfold bt cJ;simp only[List.getElem?_toArray,fV,ft];cases hk:l[k]? with
 |none=>rfl
 |some b=>
  have:=h b (nk hk);simp[*]
theorem Ur(h:Sc c):∀b∈fR c,b<256:=by
 unfold Sc at h;unfold fR;intro b a;split at a
 ·grind
 ·split at a
  ·grind
  ·split at a
   ·simp at a;omega
   ·simp at a;omega
theorem agP(h:Sc c):c7 (cJ (fR c)) 0=some (c,(fR c).length):=by
 have b:=Ur h;unfold c7;rw[r8,Dy b,Dy b,Dy b,Dy b,Nat.sub_zero];unfold Sc at h;have key:Lib.decodeN (fR c).length ((fR c).getD 0 0) ((fR c).getD (0+1) 0) ((fR c).getD (0+2) 0) ((fR c).getD (0+3) 0)=(c,(fR c).length):=by
  unfold fR;by_cases a:c<128
  ·rw[if_pos a];show Lib.decodeN 1 c 0 0 0=(c,1);unfold Lib.decodeN;simp[*]
  rw[if_neg a];by_cases d:c<2048
  ·rw[if_pos d];show Lib.decodeN 2 (192+c/64) (128+c%64) 0 0=(c,2);unfold Lib.decodeN;grind
  rw[if_neg d];by_cases f:c<65536
  ·rw[if_pos f];show Lib.decodeN 3 (224+c/4096) (128+c/64%64) (128+c%64) 0=(c,3);have e:(224+c/4096)%16*4096+(128+c/64%64)%64*64+(128+c%64)%64=c:=ae;unfold Lib.decodeN;rw[if_neg ae,if_neg ae,if_pos ae,e,if_pos ae]
  rw[if_neg f];show Lib.decodeN 4 (240+c/262144) (128+c/4096%64) (128+c/64%64) (128+c%64)=(c,4);have e:(240+c/262144)%8*262144+(128+c/4096%64)%64*4096+(128+c/64%64)%64*64+(128+c%64)%64=c:=ae;unfold Lib.decodeN;rw[if_neg ae,if_neg ae,if_neg ae,if_pos ae,e,if_pos ae]
 have hl:1<=(fR c).length:=by
  unfold fR;grind
 rw[key,bw (show 0<(fR c).length by omega),aU];have hn:(c==65533&&(fR c).length==1)=false:=by
  by_cases a:c=65533
  ·subst a;rfl
  simp[*]
 simp[*]
theorem alm(h:Sc c):bx (cJ (fR c))=cJ (iI c):=by
 unfold bx;have hn:=agP h;obtain⟨_,f2,_⟩:=kV hn;rw[r8];obtain⟨f,a⟩:∃f,(fR c).length=f+1:=⟨(fR c).length-1,ae⟩;have e1:mt (cJ (fR c)) ((fR c).length+1) 0 []=iI c:=by
  rw[mt,bw (show 0<(cJ (fR c)).size by omega),aU,hn];show mt (cJ (fR c)) (fR c).length (0+(fR c).length) ([]++iI c)=iI c;rw[hU,List.nil_append];generalize hk:(fR c).length=k;rw[a]at hk;subst hk;rw[mt,bF (show ¬f+1<(cJ (fR c)).size by rw[r8];omega)];rfl
 rw[e1]
theorem XM(h:Sc c):bx (Utf8.encode (c:Int))=cJ (iI c):=by rw[Nu h,alm h]
theorem acE:(fR c).length<=4:=by
 unfold fR
 repeat' split
 all_goals simp
theorem Nv(h:Sc c):(Utf8.encode (c:Int)).size<=4:=by rw[Nu h,r8];exact acE
theorem acF(h:Sc c)(d:128<=c):2<=(Utf8.encode (c:Int)).size/\∀k,k<(Utf8.encode (c:Int)).size->128<=bt (Utf8.encode (c:Int)) k:=by
 rw[Nu h,r8];refine⟨?_,fun k hk=>?_⟩
 ·unfold fR;grind
 ·rw[Dy (Ur h)];have a:(fR c).getD k 0∈fR c:=by
   simp[*]
  revert a;generalize (fR c).getD k 0=b;unfold fR;rw[if_neg ae];intro a;split at a
  ·grind
  ·split at a
   ·simp at a;omega
   ·simp at a;omega
theorem TQ(a b:List Nat):cJ a++cJ b=cJ (a++b):=by
 apply ByteArray.ext;rw[ByteArray.data_append];unfold cJ;simp
end
section
open Go
set_option maxRecDepth 20000
structure CT where
 s:ByteArray
 c:Nat
def sc:aR where
 X:=CT
 args x:=[ai x.s,ba x.c]
 cond x:=x.c<256
 val x _:=ay (ad (Lib.indexByte x.s.data.toList (UInt8.ofNat x.c)))
theorem aeG:aD 79 sc:=rK sc (fun _=>rfl) (fun _ _=>()) (fun _ _=>ao) (fun _ _=>rfl) fun x F I w a b hs=>
 (Go.Proofs.Tryz.stringslite_IndexByte x.s x.c w).mono fun e w' h=>⟨h.1,RowKit.Below.of_eq h.2⟩
def yB(a:FuncId)(aa:List Value)(b:CT->Unit->Prop):=aD a sc/\true=true/\∃(z:CT),aa=[ai z.s,ba ↑z.c]/\([]:List ah)=[]/\z.c<256/\True/\∀(c:Unit),True->b z c
def JT(b:CT):=ay (ad (Lib.indexByte b.s.data.toList (UInt8.ofNat b.c)))
theorem aeF(x:CT)(F:ah)(c:sc.cond x)(d:sc.aO x F):yB 79 [ai x.s,ba ↑x.c] (fun b a=>ar sc x F (JT b) [(0,F)]):=by
 delta yB JT ad ba ai ay;exact bO aeG x c fun _ _=>iS
theorem NW:aD 100 sc:=fo 8 Tryz.func100 (fun _ _=>[(1,2,aX sc)]) [] aY aY bA [] aeF
structure Lj where
 b:Nat
 s:ByteArray
 p:Nat
section
variable{P:Program}
def HL:aR where
 X:=Lj
 Y:=Unit ⊕ Unit
 args x:=[ag (some ⟨x.b,0,none⟩)]
 pre x:=[.hZ x.b (.stringIter x.s x.p)]
 b_ x y:=match y with
  | .inl _=>x.p<x.s.size
  | .inr _=>¬x.p<x.s.size
 val x y:=match y with
  | .inl _=>.returned (.tuple #[.bool true,.int .i64 x.p,.int .i32 (Utf8.decode x.s x.p).1])
  | .inr _=>.returned (.tuple #[.bool false])
 post x y:=match y with
  | .inl _=>[.hZ x.b (.stringIter x.s (x.p+(Utf8.decode x.s x.p).2))]
  | .inr _=>[.hZ x.b (.stringIter x.s x.p)]
 sum:=some (ia Unit Unit)
theorem ag_{o:Oper}{x:Operand}(d:o.op= .next x true):e_ P o HL:=by
 refine⟨fun X F I w ρ i g l hs=>?_⟩;obtain⟨b,s,p⟩:=X;simp only[d,Op.operands,HL]at i;have e:ρ x= .pointer (some ⟨b,0,none⟩):=by grind
 have hk:w.heap[b]?=some (.stringIter s p):=by
  obtain⟨f,h,_⟩:=hs.lH;exact(h 0).2
 by_cases hp:p<s.size
 ·have a:=Lib.run_next_any_at (P:=P) w b s p o.type hk hp;refine⟨.inl (),I,w.iterAt b s (p+(Utf8.decode s p).2),_,hp,.inl ?_,rfl,a8.le_refl I,?_,al⟩
  ·simp[execOp,d,e,a]
  ·have k:b<w.heap.size:=(Array.getElem?_eq_some_iff.1 hk).1;exact hs.write (j:=0) (b:=b) (A':=.hZ b (.stringIter s (p+(Utf8.decode s p).2))) (fun o d=>d.1) (fun c g=>by simp[World.iterAt,Array.getElem?_setIfInBounds,Ne.symm g]) (by simp[World.iterAt]) (fun o d=>⟨d.1,by show(w.heap.setIfInBounds b (.stringIter s (p+(Utf8.decode s p).2)))[b]?=_;simp[*]⟩)
 ·have a:=Lib.run_next_end_at (P:=P) w b s p o.type hk hp;refine⟨.inr (),I,w,_,hp,.inl ?_,rfl,a8.le_refl I,hs,cv.refl w⟩;simp[execOp,d,e,a]
end
structure yD where
 c:Nat
def KW:aR where
 X:=yD
 args x:=[eh x.c]
 cond x:=Sc x.c
 val _ _:=ay (aj true)
theorem alf:aD 104 KW:=rK KW (fun _=>rfl) (fun _ _=>()) (fun _ _=>ao) (fun _ _=>rfl) fun x F I w a c hs=>by
 have a:Sc x.c:=a;have e:Lib.validRune (x.c:Int)=true:=by
  unfold Sc at a;unfold Lib.validRune;simp;omega
 exact(Go.Proofs.Tryz.utf8_ValidRune x.c w).mono fun b w' h=>⟨by rw[h.1,e];rfl,RowKit.Below.of_eq h.2⟩
def eX:ByteArray:=⟨#[98,116,110,118,102,114]⟩
def ie(c:Nat):Int:=if c<128 then Lib.indexByte eX.data.toList (UInt8.ofNat c) else-1
def tA:aR where
 X:=yD
 args x:=[ai eX,eh x.c]
 cond x:=Sc x.c
 val x _:=ay (ad (ie x.c))
theorem aci(p:Nat)(h:p<6):(Utf8.decode eX p).1<128/\(Utf8.decode eX p).2=1:=by
 have:∀p:Fin 6,(Utf8.decode eX p.val).1<128/\(Utf8.decode eX p.val).2=1:=by decide+kernel
 exact this ⟨p,h⟩
theorem abC(k:Nat):bt eX k<128:=by
 rcases Nat.lt_or_ge k 6 with h|h
 ·have:∀k:Fin 6,bt eX k.val<128:=by decide+kernel
  exact this ⟨k,h⟩
 ·rw[uL (show eX.size<=k from h)];decide
theorem Vc:∀(l:List UInt8)(b:UInt8),(∀a∈l,a≠b)->Lib.indexByte l b= -1
 | [],_,_=>rfl
 |a::l,b,h=>by
  rw[Lib.indexByte,Vc l b fun a c=>h a (pO _ c)];have:(a==b)=false:=ff.2 (h a (lC ..));rw[this];rfl
theorem acN:∀a∈eX.data.toList,a.toNat<128:=by decide+kernel
structure CY where
 b:Nat
 p:Nat
def Cg(d:CY):Option Addr:=some ⟨d.b,0,none⟩
def aeZ(x:yD)(F:ah):Nat->Option Inv:=fun
 |1=>some {X:=Unit,P:=fun _=>True,mu:=fun _=>0,lv:=fun _=>[(0,ai eX),(1,eh x.c),(7,ai (Utf8.encode x.c)),(8,ad ((Utf8.encode x.c).size-1)),(9,ad ((Utf8.encode x.c).size-1))],st:=fun _=>[F]}
 |9=>some {X:=CY,P:=fun d=>x.c=65533,mu:=fun d=>6-d.p,lv:=fun d=>[(0,ai eX),(1,eh x.c),(175,ag (Cg d))],st:=fun d=>[F,.hZ d.b (.stringIter eX d.p)]}
 |_=>none
def RW(F:ah)(c:Lj):=[(0,F),(1,qI c.b (Obj.stringIter c.s (c.p+(Utf8.decode c.s c.p).snd)))]
def AM(b:Oper)(aa:List Value)(a:Lp->Prop):=dR Tryz.prog b Cq/\∃(z:Lp),aa=[eh z.c]/\True/\a z
def PP(x:yD):=0<=(↑(Utf8.encode (x.c:Int)).size:Int)-1/\(↑(Utf8.encode (x.c:Int)).size:Int)-1<(↑(Utf8.encode (x.c:Int)).size:Int)
theorem ae1(x:yD)(F:ah)(j:tA.cond x)(v:tA.aO x F):aS ((x.c:Int)<128) (yB 100 [ai eX,ba (u8.wrap (x.c:Int))] (fun b a=>ar tA x F (JT b) [(0,F)])) (Br ((x.c:Int)==65533) (∀(f:Nat),(∃(a:CY),x.c=65533/\(ai eX=ai eX/\eh ↑x.c=eh ↑x.c/\ag (bI f)=ag (Cg a)/\True)/\aE [(0,F),(37010,qI f (Obj.stringIter eX 0))] [(0,F),(1,qI a.b (Obj.stringIter eX a.p))])/\aT fun(e:CY)_=>x.c=65533->e_ Tryz.prog ⟨some 176,Op.next (Operand.tmp 175) true,0,"strings.go:116",⟨[]⟩,none⟩ HL/\true=true/\∃(c:Lj),[ag (Cg e)]=[ag (some ⟨c.b,0,none⟩)]/\[qI e.b (Obj.stringIter eX e.p)]=[qI c.b (Obj.stringIter c.s c.p)]/\True/\True/\(∀(b:Unit),c.p.succ.le c.s.size->Br ((↑(Utf8.decode c.s c.p).fst:Int)==65533) (ar tA x F (ay (ad ↑c.p)) (RW F c)) (∃(a:CY),x.c=65533/\(ai eX=ai eX/\eh ↑x.c=eh ↑x.c/\ag (Cg e)=ag (Cg a)/\True)/\aE (RW F c) [(0,F),(1,qI a.b (Obj.stringIter eX a.p))]/\6-a.p<6-e.p))/\∀(a:Unit),(c.p<c.s.size->False)->ar tA x F sE [(0,F),(1,qI c.b (Obj.stringIter c.s c.p))]) (aD 104 KW/\true=true/\∃(g:yD),[eh ↑x.c]=[eh ↑g.c]/\([]:List ah)=[]/\Sc g.c/\True/\∀(f:Unit),True->AM (a7 Tryz.f89 1 1) [eh ↑x.c] (fun e=>((-9223372036854775808:Int)<=(↑(Utf8.encode e.c).size:Int)-1/\(↑(Utf8.encode e.c).size:Int)-1<=(9223372036854775807:Int))/\(∃(a:Unit),True/\(ai eX=ai eX/\eh ↑x.c=eh ↑x.c/\ai (Utf8.encode e.c)=ai (Utf8.encode (x.c:Int))/\ad ((↑(Utf8.encode e.c).size:Int)-1)=ad ((↑(Utf8.encode (x.c:Int)).size:Int)-1)/\ad ((↑(Utf8.encode e.c).size:Int)-1)=ad ((↑(Utf8.encode (x.c:Int)).size:Int)-1)/\True)/\aE [(0,F)] [(0,F)])/\aT fun(d:Unit)_=>True->aS ((↑(Utf8.encode (x.c:Int)).size:Int)-1<(eX.size:Int)) (true=true/\(0<=(↑(Utf8.encode (x.c:Int)).size:Int)-1/\(↑(Utf8.encode (x.c:Int)).size:Int)-1<(eX.size:Int))/\PP x/\Br (aF eX ((↑(Utf8.encode (x.c:Int)).size:Int)-1)!=aF (Utf8.encode (x.c:Int)) ((↑(Utf8.encode (x.c:Int)).size:Int)-1)) (true=true/\((-9223372036854775808:Int)<=(↑(Utf8.encode (x.c:Int)).size:Int)-1+(1:Int)/\(↑(Utf8.encode (x.c:Int)).size:Int)-1+(1:Int)<=(9223372036854775807:Int))/\(0<=(↑(Utf8.encode (x.c:Int)).size:Int)-1+(1:Int)/\(↑(Utf8.encode (x.c:Int)).size:Int)-1+1<=(eX.size:Int)/\(eX.size:Int)<=(eX.size:Int))/\PP x/\yB 100 [ai (eX.extract ((↑(Utf8.encode (x.c:Int)).size:Int)-1+(1:Int)).toNat (eX.size:Int).toNat),ba (aF (Utf8.encode (x.c:Int)) ((↑(Utf8.encode (x.c:Int)).size:Int)-1))] (fun b a=>aS (Lib.indexByte b.s.data.toList (UInt8.ofNat b.c)<0) (ar tA x F sE [(0,F)]) (((-9223372036854775808:Int)<=Lib.indexByte b.s.data.toList (UInt8.ofNat b.c)+1/\Lib.indexByte b.s.data.toList (UInt8.ofNat b.c)+1<=(9223372036854775807:Int))/\bK ((↑(Utf8.encode (x.c:Int)).size:Int)-1+(Lib.indexByte b.s.data.toList (UInt8.ofNat b.c)+1))/\False))) False) (ar tA x F sE [(0,F)])))):=by
 delta yB JT bI Cg RW sE AM PP bK ad ba eh ai ag qI aS ay aT;have j:Sc x.c:=j;have hi:¬x.c<128->ie x.c= -1:=fun h=>by unfold ie;omega
 refine bo (fun h=>?_) (fun h=>aG (fun l=>?_) (fun l=>?_))
 ·have h:x.c<128:=by omega
  rw[FJ,Nat.mod_eq_of_lt ae];exact bO NW ⟨eX,x.c⟩ (by grind) fun _ _=>⟨(),ao,xA (by unfold ie;simp[*]),aA [0]⟩
 ·have l:x.c=65533:=by grind
  intro b;refine⟨⟨⟨b,0⟩,l,aV,aA [0,37010]⟩,?_⟩;rintro⟨b,p⟩ q _;refine l6 (ag_ rfl) ⟨b,eX,p⟩ ⟨fun _ hp=>?_,fun _ _=>⟨(),ao,xA (hi ae).symm,aA [0]⟩⟩;have hp:p<6:=hp;obtain⟨s,o⟩:=aci p hp;refine aG (fun e=>?_) (fun _=>⟨⟨b,p+1⟩,l,aV,aE.pick [0,1] rfl (by dsimp only;rw[o];rfl),by grind⟩);grind
 ·have h:128<=x.c:=by omega
  obtain⟨r,z2⟩:=acF j h;have z3:=Nv j;refine bO alf ⟨x.c⟩ j fun _ _=>⟨R6 rfl rfl rfl,⟨x.c⟩,rfl,ao,⟨ae,a_⟩,⟨(),ao,aV,aA [0]⟩,fun _ q _=>?_⟩;generalize Utf8.encode (x.c:Int)=i at r z2 z3⊢;refine aG (fun m=>?_) (fun m=>⟨(),ao,xA (hi ae).symm,aA [0]⟩);have m:=jS m;have hk:((i.size:Int)-1).toNat=i.size-1:=ae;have u:=z2 (i.size-1) ae;have n:=hF i (i.size-1);have t:=abC (i.size-1);refine⟨rfl,⟨ae,m⟩,aK,aG (fun _=>?_) (fun e=>?_)⟩
  ·refine⟨rfl,aK,⟨ae,ae,ae⟩,aK,NW,rfl,⟨eX.extract ((i.size:Int)-1+1).toNat (eX.size:Int).toNat,bt i (i.size-1)⟩,by rw[gB,hk],rfl,n,ao,fun _ _=>?_⟩;have e:Lib.indexByte (eX.extract ((i.size:Int)-1+1).toNat (eX.size:Int).toNat).data.toList (UInt8.ofNat (bt i (i.size-1)))= -1:=by
    apply Vc;intro a k;rw[cy,DH]at k;have k:=acN a (List.mem_of_mem_drop k);intro e;rw[e]at k;simp at k;omega
   dsimp only;rw[e];exact⟨(),ao,xA (hi ae).symm,aA [0]⟩
  ·rw[gB,gB,hk]at e;simp at e;omega
theorem ae0:aD 89 tA:=fo 187 Tryz.func89 (fun _ _=>[(35,2,aW),(35,3,aX sc),(43,1,aX KW),(1,1,.qo Cq),(7,7,aX sc),(37,1,.n 37010),(38,0,.o HL [1] [1])]) [] aeZ aY bA [] ae1
end
section
open Go
def Nw:ByteArray:=⟨#[8,9,10,11,12,13]⟩
def Uu(c:Nat):Bool:=match uP.find? fun p=>p.1==c with
 |none=>decide (ie c= -1)
 |some p=>decide (0<=ie c)&&(decide (ie c<6)&&decide ((bx (Nw.extract (ie c).toNat ((ie c).toNat+1))).data.toList=(cJ [0,p.2]).data.toList))
theorem acO:∀c:Fin 128,Uu c.val=true:=by decide+kernel
theorem acM(c:Nat):(ie c= -1/\uP.find? (fun p=>p.1==c)=none)\/(0<=ie c/\ie c<6/\∃p,uP.find? (fun p=>p.1==c)=some p/\bx (Nw.extract (ie c).toNat ((ie c).toNat+1))=cJ [0,p.2]):=by
 rcases Nat.lt_or_ge c 128 with h|h
 ·have:=acO ⟨c,h⟩;unfold Uu at this;dsimp only at this;cases a:uP.find? (fun p=>p.1==c)with
  |none=>rw[a]at this;exact .inl ⟨jS this,rfl⟩
  |some p=>
   rw[a]at this;simp only[gX,decide_eq_true_eq]at this;exact .inr ⟨this.1,this.2.1,p,rfl,by apply ByteArray.ext;apply Array.ext';simp[*]⟩
 ·refine .inl ⟨by unfold ie;rw[if_neg ae],?_⟩;unfold uP;simp;omega
structure iW where
 l:cD
def u9(x:iW):List Value:=[ai x.l.src,ad x.l.i,aj x.l.aI,au x.l.oa x.l.on x.l.oc]
def kw(x:iW):Option Addr:=some ⟨x.l.b,0,none⟩
def lz:aR where
 X:=iW
 Y:=ByteArray
 args x:=[ag (kw x)]
 pre x:=[af x.l.b (u9 x) 68]
 cond x:=0<=x.l.i/\x.l.i<=x.l.src.size/\x.l.src.size<=1048576
 aO _ F:=Gl F
 b_ x y:=∀u,(eI x.l.src x.l.i.toNat).2=some u->y=cJ u
 val x y:=.returned (.tuple #[.string y,.bool (eI x.l.src x.l.i.toNat).2.isSome])
 post x _:=[af x.l.b [ai x.l.src,ad ((eI x.l.src x.l.i.toNat).1:Nat),aj x.l.aI,au x.l.oa x.l.on x.l.oc] 68]
def A6(c j:Nat):Nat×Option (List Nat):=bif hX c then (j,some []) else (j,some (iI c))
def yV(s:ByteArray)(c j:Nat):Nat×Option (List Nat):=bif c==13&&bt s j==10 then (j+1,some []) else A6 c j
structure yj where
 c:Nat
 j:Nat
def Ut(x:iW)(F:ah)(g:ByteArray->Nat->Nat->Nat×Option (List Nat)):Inv:={X:=yj,P:=fun d=>Sc d.c/\d.j<=x.l.src.size/\eI x.l.src x.l.i.toNat=g x.l.src d.c d.j,mu:=fun _=>0,lv:=fun d=>[(0,.pointer (some ⟨x.l.b,0,none⟩)),(4,.int .i64 d.c)],st:=fun d=>[.cells x.l.b [.string x.l.src,.int .i64 d.j,.bool x.l.aI,.slice x.l.oa x.l.on x.l.oc] 68,F]}
def acI(x:iW)(F:ah):Nat->Option Inv:=fun
 |12=>some (Ut x F yV)
 |13=>some (Ut x F fun _=>A6)
 |_=>none
theorem SG{c:Nat}(h:c<=1114111):i32.wrap (c:Int)=(c:Int):=dG (by simp only[ty];omega)
def Jb(x:iW)(j:Nat×Nat):List Value:=[ai x.l.src,ad (x.l.i+j.snd),aj x.l.aI,au x.l.oa x.l.on x.l.oc]
def xw(x:iW)(j:Nat×Nat)(F:ah):=[(0,af x.l.b (Jb x j) 68),(1,F)]
def RO(b:fe):=ay (tuple ⟨[ai (bx b.s),aj true]⟩)
def MA(aa:List Value)(pp:List ah)(a:oC->Unit->Prop):=aD 90 ti/\true=true/\∃(z:oC),aa=[ag (tV z),ad ↑z.n]/\pp=[af z.l.b (EN z) 68]/\(0<=z.l.i/\z.l.i<=z.l.src.size/\z.l.src.size<=1048576/\z.n<=4)/\True/\∀(b:Unit),True->a z b
def O1(x:iW)(F:ah):oC->Unit->Prop:=fun b a=>ar lz x F (ay (tuple ⟨[ai (wA b.l.src b.n b.l.i.toNat),aj (eC b.l.src b.n b.l.i.toNat 0).snd.isSome]⟩)) [(0,af b.l.b [ai b.l.src,ad (↑(eC b.l.src b.n b.l.i.toNat 0).fst:Int),aj b.l.aI,au b.l.oa b.l.on b.l.oc] 68),(1,F)]
def RF(z:yj)(e0:iW):=Sc z.c/\z.j<=e0.l.src.size/\eI e0.l.src e0.l.i.toNat=yV e0.l.src z.c z.j
def qU(e0:iW)(z:yj)(e1:ah):=[(0,af e0.l.b [ai e0.l.src,ad ↑z.j,aj e0.l.aI,au e0.l.oa e0.l.on e0.l.oc] 68),(1,e1)]
def MB(e0:iW)(e1:ah)(v0:Value)(a:St):=∃(z:yj),RF z e0/\(ag (kw e0)=ag (kw e0)/\v0=ad ↑z.c/\True)/\aE a (qU e0 z e1)
def BO:=ay (tuple ⟨[ai ⟨#[]⟩,aj true]⟩)
def MC(e0:iW)(e1:ah)(v0:Value)(a:St):=∃(z:yj),(Sc z.c/\z.j<=e0.l.src.size/\eI e0.l.src e0.l.i.toNat=A6 z.c z.j)/\(ag (kw e0)=ag (kw e0)/\v0=ad ↑z.c/\True)/\aE a (qU e0 z e1)
theorem acK(x:iW)(F:ah)(N:lz.cond x)(A:lz.aO x F):true=true/\aw x.l.b 0/\aw x.l.b 1/\T5 [ai x.l.src,ad x.l.i] (aH [(0,af x.l.b (u9 x) 68),(1,F)] []) (fun k j=>aw x.l.b 1/\bK (x.l.i+j.snd)/\aw x.l.b 1/\aD 89 tA/\true=true/\∃(i:yD),[ai ⟨#[98,116,110,118,102,114]⟩,eh (DL (j.fst:Int))]=[ai eX,eh ↑i.c]/\([]:List ah)=[]/\Sc i.c/\True/\∀(h:Unit),True->aS (ie i.c>=0) (((-9223372036854775808:Int)<=ie i.c+1/\ie i.c+1<=(9223372036854775807:Int))/\(0<=ie i.c/\ie i.c<=ie i.c+1/\ie i.c+1<=(↑(ByteArray.mk #[8,9,10,11,12,13]).size:Int))/\sZ 73 [ai ((ByteArray.mk #[8,9,10,11,12,13]).extract (ie i.c).toNat (ie i.c+1).toNat)] (aH (xw x j F) []) (fun b a=>ar lz x F (RO b) (xw x j F))) (Br ((j.fst:Int)==120) (MA [ag (kw x),ad 2] [af x.l.b (Jb x j) 68] (O1 x F)) (Br ((j.fst:Int)==117) (MA [ag (kw x),ad 4] [af x.l.b (Jb x j) 68] (O1 x F)) (Br ((j.fst:Int)==48) (oI [ag (kw x)] (aH (xw x j F) []) (fun d c=>T0 (sB d) (fun b a=>ar lz x F (ay (tuple ⟨[ai ⟨#[0,0]⟩,aj !bM b.c]⟩)) (xw x j F)))) (aS ((j.fst:Int)>=49) (aS ((j.fst:Int)<=57) (ar lz x F qP (xw x j F)) (MB x F (ad ↑j.fst) (xw x j F))) (MB x F (ad ↑j.fst) (xw x j F))/\aT fun(g:yj)_=>RF g x->Br ((g.c:Int)==13) (oI [ag (kw x)] (aH (qU x g F) []) (fun c b=>Br ((↑(bt c.src c.i.toNat):Int)==10) (aw x.l.b 1/\((-9223372036854775808:Int)<=(g.j:Int)+1/\(g.j:Int)+1<=(9223372036854775807:Int))/\aw x.l.b 1/\ar lz x F BO [(0,af x.l.b [ai x.l.src,ad ((g.j:Int)+1),aj x.l.aI,au x.l.oa x.l.on x.l.oc] 68),(1,F)]) (MC x F (ad ↑g.c) (qU x g F)))) (MC x F (ad ↑g.c) (qU x g F))/\aT fun(e:yj)_=>(Sc e.c/\e.j<=x.l.src.size/\eI x.l.src x.l.i.toNat=A6 e.c e.j)->Br ((e.c:Int)==10) (ar lz x F BO (qU x e F)) (Br ((e.c:Int)==13) (ar lz x F BO (qU x e F)) (Br ((e.c:Int)==8232) (ar lz x F BO (qU x e F)) (Br ((e.c:Int)==8233) (ar lz x F BO (qU x e F)) (AM (a7 Tryz.f75 20 2) [eh (DL (e.c:Int))] (fun c=>sZ 73 [ai (Utf8.encode c.c)] (aH (qU x e F) []) (fun b a=>ar lz x F (RO b) (qU x e F)))))))))))) (fun k a=>ar lz x F qP [(0,af x.l.b (u9 x) 68),(1,F)]):=by
 delta T5 u9 sZ Jb xw RO tV EN MA kw O1 gu oI T0 sB qP RF qU MB BO MC AM aH aw bK ad ba eh ai aj ag au af DL aS ay aT;obtain⟨⟨b,src,i0,aI,oa,on,oc⟩⟩:=x;obtain⟨D,G,hs⟩:=N;replace A:Gl F:=A;dsimp only at D G hs;obtain⟨i,rfl⟩:∃i:Nat,i0=(i:Int):=⟨i0.toNat,(Int.toNat_of_nonneg D).symm⟩;dsimp only;have fin:∀(j:Nat)(r:Option (List Nat))(y:ByteArray)(v:Bool),eI src i=(j,r)->v=r.isSome->(∀u,r=some u->y=cJ u)->ar lz ⟨⟨b,src,(i:Int),aI,oa,on,oc⟩⟩ F (returned (tuple #[string y,bool v])) [(0,ah.cells b [string src,int i64 (j:Int),bool aI,slice oa on oc] 68),(1,F)]:=fun j r y v e S P=>
  ⟨y,by show ∀u,(eI src (i:Int).toNat).2=some u->_;rw[cy,e];exact P,by show returned _=returned (.tuple #[.string y,.bool (eI src (i:Int).toNat).2.isSome]);simp[*],aE.pick [0,1] rfl (by simp only[lz,cy,e];rfl)⟩
 rw[cy];refine⟨rfl,al,al,Bt,rfl,⟨src,i⟩,rfl,rfl,D,gj.rest (j:=1) aL A.pl,?_,?_⟩;rotate_left
 ·intro _ hn;replace hn:c7 src (i:Int).toNat=none:=hn;rw[cy]at hn;exact fin i none _ _ (by unfold eI;rw[hn]) rfl (fun _ h=>nomatch h)
 rintro⟨c,n⟩ hn;replace hn:c7 src (i:Int).toNat=some (c,n):=hn;rw[cy]at hn;obtain⟨B,f2,f3⟩:=kV hn;have s:=V3 hn;dsimp only;have C:(i:Int)+(n:Int)=((i+n:Nat):Int):=ae;rw[C,SG f3];have f:eI src i=match uP.find? (fun p=>p.1==c)with
  |some p=>(i+n,some [0,p.2])
  |none=>
   bif c==120 then ((eC src 2 (i+n) 0).1,(eC src 2 (i+n) 0).2.map fun u=>[u/256%256,u%256])
   else bif c==117 then ((eC src 4 (i+n) 0).1,(eC src 4 (i+n) 0).2.map fun u=>[u/256%256,u%256])
   else bif c==48 then (i+n,bif bM (bt src (i+n)) then none else some [0,0])
   else bif nf c 49 57 then (i+n,none)
   else yV src c (i+n):=by unfold eI;rw[hn];rfl
 generalize i+n=j at B f⊢;have o:∀m:Nat,eI src i=((eC src m j 0).1,(eC src m j 0).2.map fun u=>[u/256%256,u%256])->ar lz ⟨⟨b,src,(i:Int),aI,oa,on,oc⟩⟩ F (returned (tuple #[string (wA src m (j:Int).toNat),bool (eC src m (j:Int).toNat 0).2.isSome])) [(0,ah.cells b [string src,int i64 ((eC src m (j:Int).toNat 0).1:Nat),bool aI,slice oa on oc] 68),(1,F)]:=fun m e=>by
  rw[cy];refine fin _ _ _ _ e (by cases (eC src m j 0).2 <;> rfl) fun u q=>?_;unfold wA;grind
 refine⟨al,aK,al,ae0,rfl,⟨c⟩,rfl,rfl,s,ao,fun _ _=>?_⟩;dsimp only;rcases acM c with⟨e1,w⟩| ⟨e1,I,p,w,H⟩;rotate_left
 ·rw[w]at f;refine aG (fun _=>⟨aK,⟨e1,ae,show ie c+1<=(6:Int) by omega⟩,KX,rfl,⟨Nw.extract (ie c).toNat (ie c+1).toNat⟩,rfl,rfl,?_,gj.rest (j:=1) aL A.pl,fun _ _=>fin j _ _ _ f rfl fun u q=>?_⟩) (fun h=>absurd (G_ h) ae)
  ·dsimp only;rw[hT];omega
  grind
 rw[w]at f;refine aG (fun h=>absurd (jS h) ae) (fun _=>aG (fun h=>?_) (fun g1=>aG (fun h=>?_) (fun L=>aG (fun h=>?_) (fun g3=>⟨?_,?_⟩))))
 ·replace h:=fS 120 h;exact bO Uk ⟨⟨b,src,j,aI,oa,on,oc⟩,2⟩ ⟨by simp[*],by simp[*],hs,show(2:Nat)<=4 by decide⟩ fun _ _=>o 2 (by simp[*])
 ·replace h:=fS 117 h;exact bO Uk ⟨⟨b,src,j,aI,oa,on,oc⟩,4⟩ ⟨by simp[*],by simp[*],hs,show(4:Nat)<=4 by decide⟩ fun _ _=>o 4 (by grind)
 ·replace h:=fS 48 h;refine bs tJ ⟨b,src,(j:Int),aI,oa,on,oc⟩ ⟨by simp[*],hs⟩ ⟨aQ.rest (j:=0) aL (aQ.cells rfl),aQ.rest (j:=0) aL (aQ.cells rfl)⟩ fun _ _=>bO wq ⟨bt src (j:Int).toNat⟩ (hF _ _) fun _ _=>?_;dsimp only;rw[cy];refine fin j (bif bM (bt src j) then none else some [0,0]) _ _ (by grind) ?_ fun u q=>?_
  ·grind
  ·cases hd:bM (bt src j)with
   |true=>rw[hd]at q;cases q
   |false=>rw[hd]at q;cases q;rfl
 ·have z:nf c 49 57=false->eI src i=yV src c j:=fun h=>by grind
  refine bo (fun M=>bo (fun l=>?_) (fun l=>⟨⟨c,j⟩,⟨s,B,z ?_⟩,aV,aA [0,1]⟩)) (fun M=>⟨⟨c,j⟩,⟨s,B,z ?_⟩,aV,aA [0,1]⟩)
  ·refine fin j none _ _ ?_ rfl (fun _ h=>nomatch h);have:nf c 49 57=true:=by
    unfold nf;grind
   grind
  ·unfold nf;grind
  ·unfold nf;grind
 clear f o e1 w g1 L g3 B s hn;rintro⟨c,j⟩ R ⟨k1,k2,k3⟩;dsimp only at k1 k2 k3⊢;refine⟨aG (fun h=>bs tJ ⟨b,src,(j:Int),aI,oa,on,oc⟩ ⟨by simp[*],hs⟩ ⟨aQ.rest (j:=0) aL (aQ.cells rfl),aQ.rest (j:=0) aL (aQ.cells rfl)⟩ fun _ _=>aG (fun l=>?_) (fun l=>⟨⟨c,j⟩,⟨k1,k2,?_⟩,aV,aA [0,1]⟩)) (fun h=>⟨⟨c,j⟩,⟨k1,k2,?_⟩,aV,aA [0,1]⟩),?_⟩
 ·replace l:((bt src (j:Int).toNat:Int)==10)=true:=l;rw[cy]at l;have C:(j:Int)+1=((j+1:Nat):Int):=ae;rw[C];exact⟨al,aK,al,fin (j+1) (some []) _ _ (by rw[k3,yV,fS 13 h,fS 10 l];rfl) rfl (fun u q=>by cases q;rfl)⟩
 ·replace l:((bt src (j:Int).toNat:Int)==10)=false:=l;rw[cy]at l;rw[k3,yV,fS 10 l,lB];rfl
 ·rw[k3,yV,fS 13 h,jp];rfl
 clear k1 k2 k3;rintro⟨c,j⟩ R ⟨k1,k2,k3⟩;dsimp only at k1 k2 k3⊢;have E:c<=1114111:=by unfold Sc at k1;omega
 rw[SG E];have t:hX c=true->eI src i=(j,some []):=fun h=>by rw[k3,A6,h];rfl
 have d8:∀u,some ([]:List Nat)=some u->(ByteArray.mk #[])=cJ u:=fun u q=>by cases q;rfl
 refine aG (fun e=>fin j _ _ _ (t (zi (by grind))) rfl d8) (fun e1=>aG (fun e=>fin j _ _ _ (t (zi (by grind))) rfl d8) (fun w=>aG (fun e=>fin j _ _ _ (t (zi (by grind))) rfl d8) (fun H=>aG (fun e=>fin j _ _ _ (t (zi (by grind))) rfl d8) (fun J=>?_))));have O:=XM k1;have Q:=Nv k1;refine⟨R6 rfl rfl rfl,⟨c⟩,rfl,ao,KX,rfl,⟨Utf8.encode (c:Int)⟩,?_⟩;dsimp only;generalize Utf8.encode (c:Int)=K at O Q⊢;refine⟨rfl,rfl,ae,gj.rest (j:=1) aL A.pl,fun _ _=>fin j (some (iI c)) (bx K) true (by rw[k3,A6,HG e1 w H J];rfl) rfl fun u q=>?_⟩;grind
theorem acJ:aD 75 lz:=fo 103 Tryz.func75 (fun _ _=>[(1,8,aX oX),(5,1,aW),(5,2,aX tA),(7,4,aX wC),(12,4,aX ny),(14,1,bv ti),(15,1,bv ti),(16,1,aX ny),(16,2,aX pJ),(20,1,aW),(20,2,.qo Cq),(20,3,aX wC)]) [(1,3,aP 0),(1,7,aP 0),(4,3,aP 0),(4,8,.w [LH.z00 (0:Nat)]),(18,3,aP 0),(18,7,.w [LH.z00 (0:Nat)])] aY acI bA [] acK
end
section
open Go
theorem UZ(s:ByteArray):∀(n i u:Nat),i<=s.size->i<=(eC s n i u).1/\(eC s n i u).1<=s.size:=by
 intro n
 induction n with
 |zero=>intro i u h;exact⟨bZ _,h⟩
 |succ n a=>
  intro i u h;rw[eC];grind
theorem DG{s:ByteArray}{i j:Nat}{r:Option (List Nat)}(h:eI s i=(j,r))(hi:i<=s.size):i<=j/\j<=s.size/\∀u,r=some u->u.length<=4:=by
 unfold eI at h;cases hn:c7 s i with
 |none=>rw[hn]at h;cases h;exact⟨bZ _,hi,fun _ h=>nomatch h⟩
 |some o=>
  obtain⟨c,n⟩:=o;obtain⟨b,f2,f3⟩:=kV hn;rw[hn]at h;dsimp only at h;have q:=UZ s 2 (i+n) 0 b;have g4:=UZ s 4 (i+n) 0 b;cases m:uP.find? (fun p=>p.1==c)with
  |some p=>rw[m]at h;cases h;exact⟨ae,b,fun u a=>by cases a;simp⟩
  |none=>
   rw[m]at h;dsimp only at h;cases d:(c==120)with
   |true=>
    rw[d]at h;cases h;refine⟨ae,q.2,fun u a=>?_⟩;cases h':(eC s 2 (i+n) 0).2 with
    |none=>rw[h']at a;cases a
    |some v=>rw[h']at a;cases a;simp
   |false=>
   cases e:(c==117)with
   |true=>
    rw[d,e]at h;cases h;refine⟨ae,g4.2,fun u a=>?_⟩;cases h':(eC s 4 (i+n) 0).2 with
    |none=>rw[h']at a;cases a
    |some v=>rw[h']at a;cases a;simp
   |false=>
   cases f:(c==48)with
   |true=>
    grind
   |false=>
   cases g:nf c 49 57 with
   |true=>rw[d,e,f,g]at h;cases h;exact⟨ae,b,fun _ h=>nomatch h⟩
   |false=>
   cases k:(c==13&&bt s (i+n)==10)with
   |true=>
    rw[d,e,f,g,k]at h;cases h;have t:bt s (i+n)=10:=by
     grind
    exact⟨ae,uK ae,fun u a=>by cases a;simp⟩
   |false=>
   rw[d,e,f,g,k]at h;cases l:hX c with
   |true=>rw[l]at h;cases h;exact⟨ae,b,fun u a=>by cases a;simp⟩
   |false=>rw[l]at h;cases h;exact⟨ae,b,fun u a=>by cases a;exact SD c⟩
def lh(s:ByteArray)(i:Nat):Nat×Option (List Nat):=kH s (bt s i) (s.size+1) (i+1) []
def rA:aR where
 X:=iW
 Y:=ByteArray
 args x:=[ag (kw x)]
 pre x:=[af x.l.b (u9 x) 68]
 cond x:=0<=x.l.i/\x.l.i<x.l.src.size/\x.l.src.size<=1048576
 aO _ F:=Gl F
 b_ x y:=∀u,(lh x.l.src x.l.i.toNat).2=some u->y=cJ u
 val x y:=.returned (.tuple #[.string y,.bool (lh x.l.src x.l.i.toNat).2.isSome])
 post x _:=[af x.l.b [ai x.l.src,ad ((lh x.l.src x.l.i.toNat).1:Nat),aj x.l.aI,au x.l.oa x.l.on x.l.oc] 68]
structure uD where
 i:Nat
 f:Nat
 o:List Nat
 bb:Nat
 p:Option Addr
 r:Row
def vf(d:uD):Option Addr:=some ⟨d.bb,0,none⟩
def vb(d:uD):List Value:=[ag d.p,au d.r.a d.r.n d.r.cap]
def akH(x:iW)(F:ah):Nat->Option Inv:=fun
 |0=>some {X:=uD,P:=fun d=>d.i<=x.l.src.size/\x.l.src.size<d.i+d.f/\d.o.length<=4*d.i/\nM 5 (cJ d.o) d.r/\(d.p=none\/d.p=some ⟨d.bb,0,none⟩)/\lh x.l.src x.l.i.toNat=kH x.l.src (bt x.l.src x.l.i.toNat) d.f d.i d.o,mu:=fun d=>x.l.src.size-d.i,lv:=fun d=>[(0,ag (kw x)),(4,ad (bt x.l.src x.l.i.toNat)),(5,ag (vf d))],st:=fun d=>[af x.l.b [ai x.l.src,ad d.i,aj x.l.aI,au x.l.oa x.l.on x.l.oc] 68,F,af d.bb (vb d) 95,d.r.A]}
 |_=>none
def H5(z:uD)(e0:iW):=z.i<=e0.l.src.size/\e0.l.src.size<z.i+z.f/\z.o.length<=4*z.i/\nM 5 (cJ z.o) z.r/\(z.p=none\/z.p=some ⟨z.bb,0,none⟩)/\lh e0.l.src e0.l.i.toNat=kH e0.l.src (bt e0.l.src e0.l.i.toNat) z.f z.i z.o
def zR(e0:iW)(z:uD)(e1:ah):=[(0,af e0.l.b [ai e0.l.src,ad ↑z.i,aj e0.l.aI,au e0.l.oa e0.l.on e0.l.oc] 68),(1,e1),(2,af z.bb (vb z) 95),(3,z.r.A)]
def BL(x:iW)(j:uD)(g:Nat×Nat):List Value:=[ai x.l.src,ad ((j.i:Int)+(g.snd:Int)),aj x.l.aI,au x.l.oa x.l.on x.l.oc]
def Qi(e:iW):List Value:=[ai e.l.src,ad (↑(eI e.l.src e.l.i.toNat).fst:Int),aj e.l.aI,au e.l.oa e.l.on e.l.oc]
def MD(aa:List Value)(pp:List ah)(b:rI->Row->Prop):=aD 76 Ap/\true=true/\∃(z:rI),aa=[ag (p0 z),ai z.s]/\pp=[af z.b (sy z) 95,z.r.A]/\((z.p=none\/z.p=some ⟨z.b,0,none⟩)/\nM 5 z.t z.r/\z.r.n+z.s.size<=140737488355328)/\True/\∀(a:Row),nM 5 (z.t++z.s) a->b z a
def ME(e0:iW)(e1:ah)(v0:Value)(a:St)(mm:Nat):=∃(z:uD),H5 z e0/\(ag (kw e0)=ag (kw e0)/\ad (↑(bt e0.l.src e0.l.i.toNat):Int)=ad (↑(bt e0.l.src e0.l.i.toNat):Int)/\v0=ag (vf z)/\True)/\aE a (zR e0 z e1)/\e0.l.src.size-z.i<mm
theorem akK(x:iW)(F:ah)(S:rA.cond x)(z:rA.aO x F):true=true/\aw x.l.b 0/\aw x.l.b 1/\(0<=x.l.i/\x.l.i<x.l.src.size)/\bK (aF x.l.src x.l.i)/\aw x.l.b 1/\((-9223372036854775808:Int)<=x.l.i+1/\x.l.i+1<=(9223372036854775807:Int))/\aw x.l.b 1/\∀(k:Nat),(∃(a:uD),H5 a x/\(ag (kw x)=ag (kw x)/\ad (aF x.l.src x.l.i)=ad (↑(bt x.l.src x.l.i.toNat):Int)/\ag (bI k)=ag (vf a)/\True)/\aE [(0,af x.l.b [ai x.l.src,ad (x.l.i+1),aj x.l.aI,au x.l.oa x.l.on x.l.oc] 68),(1,F),(4000,af k [ag none,au none 0 0] 95)] (zR x a F))/\aT fun(j:uD)_=>H5 j x->true=true/\aw x.l.b 0/\aw x.l.b 1/\T5 [ai x.l.src,ad ↑j.i] (aH (zR x j F) []) (fun h g=>Br ((g.fst:Int)==10) (ar rA x F qP (zR x j F)) (Br ((g.fst:Int)==13) (ar rA x F qP (zR x j F)) (aw x.l.b 1/\bK ((j.i:Int)+(g.snd:Int))/\aw x.l.b 1/\Br ((g.fst:Int)==(↑(bt x.l.src x.l.i.toNat):Int)) (aD 74 A0/\true=true/\∃(b:rI),[ag (vf j)]=[ag (p0 b)]/\[af j.bb (vb j) 95,j.r.A]=[af b.b (sy b) 95,b.r.A]/\(nM 5 b.t b.r/\b.t.size<=140737488355328)/\True/\∀(a:Unit),True->ar rA x F (ay (tuple ⟨[ai b.t,aj true]⟩)) [(0,af x.l.b (BL x j g) 68),(1,F),(2,af b.b (sy b) 95),(3,bc)]) (Br ((g.fst:Int)==92) (aD 75 lz/\true=true/\∃(e:iW),[ag (kw x)]=[ag (kw e)]/\[af x.l.b (BL x j g) 68]=[af e.l.b (u9 e) 68]/\(0<=e.l.i/\e.l.i<=e.l.src.size/\e.l.src.size<=1048576)/\Gl (aH [(0,af x.l.b (BL x j g) 68),(1,F),(2,af j.bb (vb j) 95),(3,j.r.A)] [0])/\∀(d:ByteArray),(∀(a:List Nat),(eI e.l.src e.l.i.toNat).snd=some a->d=cJ a)->Br (!(eI e.l.src e.l.i.toNat).snd.isSome) (ar rA x F qP [(0,af e.l.b (Qi e) 68),(1,F),(2,af j.bb (vb j) 95),(3,j.r.A)]) (MD [ag (vf j),ai d] [af j.bb (vb j) 95,j.r.A] (fun c b=>ME x F (ag (vf j)) [(0,af e.l.b (Qi e) 68),(1,F),(2,af c.b (Cd c b) 95),(3,b.A)] (x.l.src.size-j.i)))) (AM (a7 Tryz.f61 9 2) [eh (DL (g.fst:Int))] (fun f=>sZ 73 [ai (Utf8.encode f.c)] (aH [(0,af x.l.b (BL x j g) 68),(1,F),(2,af j.bb (vb j) 95),(3,j.r.A)] []) (fun e d=>MD [ag (vf j),ai (bx e.s)] [af j.bb (vb j) 95,j.r.A] (fun c b=>ME x F (ag (vf j)) [(0,af x.l.b (BL x j g) 68),(1,F),(2,af c.b (Cd c b) 95),(3,b.A)] (x.l.src.size-j.i))))))))) (fun h a=>ar rA x F qP (zR x j F)):=by
 delta H5 kw bI vf vb zR T5 qP p0 sy BL u9 Qi MD ME Cd AM sZ aH aw bK ad eh ai aj ag au af bc DL ay aT;obtain⟨⟨b,src,i0,aI,oa,on,oc⟩⟩:=x;obtain⟨I,w,hs⟩:=S;replace z:Gl F:=z;dsimp only at I w hs;obtain⟨i,rfl⟩:∃i:Nat,i0=(i:Int):=⟨i0.toNat,(Int.toNat_of_nonneg I).symm⟩;dsimp only;rw[gB,cy];have hi:i<src.size:=ae;have Z:=hF src i;have fin:∀(j:Nat)(r:Option (List Nat))(y:ByteArray)(v:Bool)(A B:ah),lh src i=(j,r)->v=r.isSome->(∀u,r=some u->y=cJ u)->ar rA ⟨⟨b,src,(i:Int),aI,oa,on,oc⟩⟩ F (returned (tuple #[string y,bool v])) [(0,ah.cells b [string src,int i64 (j:Int),bool aI,slice oa on oc] 68),(1,F),(2,A),(3,B)]:=fun j r y v A B e hv l=>
  ⟨y,by show ∀u,(lh src (i:Int).toNat).2=some u->_;rw[cy,e];exact l,by show returned _=returned (.tuple #[.string y,.bool (lh src (i:Int).toNat).2.isSome]);simp[*],aE.pick [0,1] rfl (by simp only[rA,cy,e];rfl)⟩
 refine⟨rfl,al,al,⟨I,w⟩,aK,al,aK,al,fun bb=>⟨⟨⟨i+1,src.size+1,[],bb,none,⟨none,0,0,.d8⟩⟩,⟨by grind,by grind,dq _,⟨.nil rfl,.inl rfl⟩,.inl rfl,rfl⟩,aV,aE.pick [0,1,4000,7] rfl (by rfl)⟩,?_⟩⟩;rintro⟨k,f,o,bb,p,r⟩ js ⟨g1,R,g3,g4,H,D⟩;dsimp only at g1 R g3 g4 H D⊢;obtain⟨t,rfl⟩:∃t,f=t+1:=⟨f-1,ae⟩;have T:r.n=o.length:=by
  have:=g4.1.len;rw[Lib.strCells_length,r8]at this;omega
 refine⟨rfl,al,al,Bt,rfl,⟨src,k⟩,rfl,rfl,by simp[*],gj.rest (j:=1) aL z.pl,?_,?_⟩;rotate_left
 ·intro _ hn;replace hn:c7 src (k:Int).toNat=none:=hn;rw[cy]at hn;exact fin k none _ _ _ _ (by rw[D,kH,hn]) rfl (fun _ h=>nomatch h)
 rintro⟨c,n⟩ hn;replace hn:c7 src (k:Int).toNat=some (c,n):=hn;rw[cy]at hn;obtain⟨G,f2,f3⟩:=kV hn;have C:=V3 hn;have s0:lh src i=bif c==10||c==13 then (k,none) else bif c==bt src i then (k+n,some o) else bif c==92 then (match eI src (k+n)with| (j,none)=>(j,none)| (j,some u)=>kH src (bt src i) t j (o++u)) else kH src (bt src i) t (k+n) (o++iI c):=by rw[D,kH,hn];rfl
 dsimp only;have Q:(k:Int)+(n:Int)=((k+n:Nat):Int):=ae;rw[Q,SG f3];clear D hn;generalize hm:k+n=m at G s0⊢;refine aG (fun e=>fin k none _ _ _ _ (by grind) rfl (fun _ h=>nomatch h)) (fun e1=>aG (fun e=>fin k none _ _ _ _ (by grind) rfl (fun _ h=>nomatch h)) (fun O=>?_));rw[fS 10 e1,fS 13 O,Bool.or_false,aN]at s0;refine⟨al,aK,al,aG (fun e=>?_) (fun M=>aG (fun e=>?_) (fun P=>?_))⟩
 ·rw[fS (bt src i) e,aU]at s0;exact bO abz ⟨bb,p,r,cJ o,.empty⟩ ⟨g4,by dsimp only;rw[r8];omega⟩ fun _ _=>fin m (some o) _ _ _ _ s0 rfl (fun u U=>by cases U;rfl)
 ·rw[fS (bt src i) M,aN,fS 92 e,aU]at s0;refine bs acJ ⟨⟨b,src,(m:Int),aI,oa,on,oc⟩⟩ ⟨by simp[*],by simp[*],hs⟩ (Gl.rest (j:=1) aL z) fun y l=>?_;replace l:∀u,(eI src (m:Int).toNat).2=some u->y=cJ u:=l;dsimp only;rw[cy]at l⊢;have q:=DG (s:=src) (i:=m) (j:=(eI src m).1) (r:=(eI src m).2) rfl G;revert l q s0;generalize eI src m=E;obtain⟨j,X⟩:=E;intro s0 l q;obtain⟨q1,q2,q3⟩:=q;dsimp only at s0 l q1 q2 q3⊢;cases X with
  |none=>exact aG (fun _=>fin j none _ _ _ _ s0 rfl (fun _ h=>nomatch h)) (fun h=>nomatch h)
  |some u=>
   have K:=l u rfl;subst K;have q3:=q3 u rfl;refine aG (fun h=>nomatch h) (fun _=>bO XQ ⟨bb,p,r,cJ o,cJ u⟩ ⟨H,g4,by dsimp only;rw[r8];omega⟩ fun L J=>⟨⟨j,t,o++u,bb,some ⟨bb,0,none⟩,L⟩,⟨q2,by grind,by grind,by dsimp only;rw[<-TQ];exact J,.inr rfl,s0⟩,aV,aA [0,1,2,3],by grind⟩)
 ·rw[fS (bt src i) M,aN,fS 92 P,aN]at s0;have N:=XM C;have W:=Nv C;have V:=SD c;refine⟨R6 rfl rfl rfl,⟨c⟩,rfl,ao,KX,rfl,⟨Utf8.encode (c:Int)⟩,?_⟩;dsimp only;generalize Utf8.encode (c:Int)=Y at N W⊢;rw[N];refine⟨rfl,rfl,ae,gj.rest (j:=1) aL z.pl,fun _ _=>bO XQ ⟨bb,p,r,cJ o,cJ (iI c)⟩ ⟨H,g4,by dsimp only;rw[r8];omega⟩ fun L J=>⟨⟨m,t,o++iI c,bb,some ⟨bb,0,none⟩,L⟩,⟨G,by grind,by grind,by dsimp only;rw[<-TQ];exact J,.inr rfl,s0⟩,aV,aA [0,1,2,3],by grind⟩⟩
theorem akJ:aD 61 rA:=fo 80 Tryz.func61 (fun _ _=>[(3,0,.n 4000),(4,8,aX oX),(11,0,.c A0 [2,3] [2,3]),(13,1,bv lz),(16,1,.c Ap [2,3] [2,3]),(9,1,aW),(9,2,.qo Cq),(9,3,aX wC),(9,4,.c Ap [2,3] [2,3])]) [(1,3,aP 0),(1,7,aP 0),(2,3,aP 0),(2,7,.w [LH.z00 (0:Nat)]),(4,3,aP 0),(4,7,aP 0),(7,3,aP 0),(7,8,.w [LH.z00 (0:Nat)])] akH aY bA [] akK
end
section
open Go
theorem abB(m:ByteArray):cJ (dP m)=m:=by
 apply ByteArray.ext;apply Array.ext';unfold cJ dP;have e:(fun n=>UInt8.ofNat n)∘UInt8.toNat=id:=by funext u;simp
 simp[e]
theorem agB(m:ByteArray):∀b∈dP m,b<256:=by
 intro b a;obtain⟨u,_,rfl⟩:=List.mem_map.1 a;exact u.toNat_lt
structure Lg where
 l:cD
 cb:Nat
 m:ByteArray
def sV(l:cD)(cb:Nat)(F:ah):Prop:=aQ F ⟨cb,0,none⟩ (.pointer (some ⟨l.b,0,none⟩))/\px l F
theorem sV.sub{l:cD}{cb:Nat}{A B:ah}(hs:Sub A B)(h:sV l cb A):sV l cb B:=⟨h.1.sub hs,px.sub hs h.2⟩
def Bj:aR where
 X:=Lg
 args x:=[ai x.m,ag (some ⟨x.cb,0,none⟩)]
 cond x:=0<=x.l.i/\x.l.i<=x.l.src.size/\x.l.src.size<=1048576
 aO x F:=sV x.l x.cb F
 val x _:=ay (aj (dx x.l.src x.l.i.toNat (dP x.m)))
 eT _ _ _ hs h:=sV.sub hs h
theorem afm(x:Lg)(F:ah)(j:Bj.cond x)(g:Bj.aO x F):∃(e:Option Addr),aQ F ⟨x.cb,0,none⟩ (ag e)/\Db [ag e] (cP F) (fun d c=>uB 50 [ai (d.src.extract d.i.toNat d.src.size),ai x.m] (fun b a=>ar Bj x F (ay (aj (jt b.a b.b))) [(0,F)])):=by
 delta gu tQ Db cP uB aH ai aj ag ay;obtain⟨h,f,hs⟩:=j;have s:Sub F (.du (rest [(0,F)] [])):=bU 0;refine⟨_,g.1,Sf,rfl,x.l,rfl,rfl,⟨h,f,hs⟩,px.sub s g.2,fun _ _=>l6 DO ⟨x.l.src.extract x.l.i.toNat x.l.src.size,x.m⟩ fun _ _=>⟨(),ao,k8 ?_,aA [0]⟩⟩;have:=NT (s:=x.l.src) (i:=x.l.i.toNat) (t:=dP x.m) (agB _) ae;rw[abB]at this;omega
theorem afl:aD 63 Bj:=fo 8 Tryz.func63 (fun _ _=>[(1,0,.q [.ex 0 .ptr]),(1,1,aX xC),(1,3,aX n8)]) [] aY aY bA [] afm
def n_(s:ByteArray)(i:Nat):List ByteArray->Nat->Int
 | [],_=> -1
 |m::r,k=>bif dx s i (dP m) then (k:Int) else n_ s i r (k+1)
structure vZ where
 l:cD
 cb:Nat
def y7:aR where
 X:=vZ
 args x:=[.slice (some ⟨2,0,none⟩) 42 42,.func (.func 63) #[] #[.pointer (some ⟨x.cb,0,none⟩)]]
 cond x:=0<=x.l.i/\x.l.i<=x.l.src.size/\x.l.src.size<=1048576
 aO x F:=Gl F/\sV x.l x.cb F
 val x _:=ay (ad (n_ x.l.src x.l.i.toNat fh 0))
 eT _ _ _ hs h:=⟨h.1.sub hs,sV.sub hs h.2⟩
structure CU where
 k:Nat
def aeJ(x:vZ)(F:ah):Nat->Option Inv:=fun
 |0=>some {X:=CU,P:=fun d=>d.k<=42/\n_ x.l.src x.l.i.toNat fh 0=n_ x.l.src x.l.i.toNat (fh.drop d.k) d.k,mu:=fun d=>42-d.k,lv:=fun d=>[(0,.slice (some ⟨2,0,none⟩) 42 42),(1,.func (.func 63) #[] #[.pointer (some ⟨x.cb,0,none⟩)]),(7,.int .i64 42),(8,.int .i64 d.k)],st:=fun _=>[F]}
 |_=>none
def IN(a:CU)(x:vZ):=a.k<=42/\n_ x.l.src x.l.i.toNat fh 0=n_ x.l.src x.l.i.toNat (List.drop a.k fh) a.k
def vh:Option Addr:=some ⟨2,0,none⟩
def zM(x:vZ):List Value:=[ag (some ⟨x.cb,0,none⟩)]
def i6(b:Oper)(aa:List Value)(a:ux->Prop):=dR Tryz.prog b (fJ 1)/\∃(z:ux),aa=[au (some ⟨z.b,z.o,none⟩) z.len z.cap,ad z.n]/\(0<=z.n/\z.n<z.len)/\a z
theorem ae8(x:vZ)(F:ah)(n:y7.cond x)(j:y7.aO x F):(∃(a:CU),IN a x/\(au vh 42 42=au vh 42 42/\func (Fn.func 63) ⟨[]⟩ ⟨zM x⟩=func (Fn.func 63) ⟨[]⟩ ⟨zM x⟩/\ad (↑(42:Nat):Int)=ad 42/\ad 0=ad ↑a.k/\True)/\aE [(0,F)] [(0,F)])/\aT fun(g:CU)_=>IN g x->aS ((g.k:Int)<42) (i6 (a7 Tryz.f62 4 3) [au vh 42 42,ad ↑g.k] (fun e=>T2 F ⟨e.b,e.o+e.n.toNat*1,none⟩ (fun d=>aD 63 Bj/\true=true/\∃(c:Lg),[ai d,ag (some ⟨x.cb,0,none⟩)]=[ai c.m,ag (some ⟨c.cb,0,none⟩)]/\([]:List ah)=[]/\(0<=c.l.i/\c.l.i<=c.l.src.size/\c.l.src.size<=1048576)/\sV c.l c.cb (cP F)/\∀(b:Unit),True->Br (dx c.l.src c.l.i.toNat (dP c.m)) (ar y7 x F (ay (ad ↑g.k)) [(0,F)]) (((-9223372036854775808:Int)<=(g.k:Int)+1/\(g.k:Int)+1<=(9223372036854775807:Int))/\∃(a:CU),IN a x/\(au vh 42 42=au vh 42 42/\func (Fn.func 63) ⟨[]⟩ ⟨zM x⟩=func (Fn.func 63) ⟨[]⟩ ⟨zM x⟩/\ad 42=ad 42/\ad ((g.k:Int)+1)=ad ↑a.k/\True)/\aE [(0,F)] [(0,F)]/\42-a.k<42-g.k)))) (ar y7 x F sE [(0,F)]):=by
 delta IN vh zM i6 T2 cP sE aH ad ai ag au aS ay aT;have s:Sub F (.du (rest [(0,F)] [])):=bU 0;refine⟨⟨⟨0⟩,⟨dq _,rfl⟩,aV,aA [0]⟩,?_⟩;rintro⟨k⟩ r ⟨l,f⟩;dsimp only at l f⊢;have h:fh.length=42:=rfl;refine bo (fun q=>?_) (fun p=>?_)
 ·obtain⟨m,i⟩:∃m,fh[k]?=some m:=⟨_,fg ae⟩;have hd:fh.drop k=m::fh.drop (k+1):=by
   obtain⟨hk,rfl⟩:=jq.1 i;simp[*]
  rw[hd,n_]at f;have e1:0+(k:Int).toNat*1=k:=ae;refine⟨gG 1 rfl rfl rfl rfl,⟨2,0,42,42,k⟩,rfl,by simp[*],m,by dsimp only;rw[e1];exact j.1.HB k m i,afl,rfl,⟨x.l,x.cb,m⟩,rfl,rfl,n,sV.sub s j.2,fun _ _=>aG (fun o=>⟨(),ao,xA ?_,aA [0]⟩) (fun o=>⟨aK,⟨k+1⟩,⟨by grind,?_⟩,aV,aA [0],by grind⟩)⟩
  all_goals grind
 ·rw[List.drop_eq_nil_of_le ae]at f;exact⟨(),ao,xA f.symm,aA [0]⟩
theorem ae7:aD 62 y7:=fo 19 Tryz.func62 (fun _ _=>[(4,3,.qo (fJ 1)),(4,4,.q [.ex 0 .str]),(4,5,aX Bj)]) [] aeJ aY bA [] ae8
end
section
open Go
def tc(n:Nat):ln where
 X:=vW
 args x:=[.pointer (some x.a)]
 cond x:=x.a.off=0/\x.a.spot=none
 val x:=.slice (some x.a) n n
theorem GI{P:Program}{o:Oper}{t e:TypeId}{n:Nat}{x:Operand}{c:TypeInfo}(d:o.op= .slice t x none none none)(j:P.underlying t=some (.array (P.arrayLen t) (P.elem t)))(hn:P.arrayLen t=n)(i:P.elem t=e)(hi:P.info? e=some c):dR P o (tc n):=by
 refine⟨fun q w ρ g h=>?_⟩;obtain⟨⟨b,off,spot⟩⟩:=q;obtain⟨rfl,rfl⟩:=h;simp only[d,Op.operands,tc]at g;have a:ρ x= .pointer (some ⟨b,0,none⟩):=by grind
 have f:=run_sliceAt_array_all (P:=P) w t ⟨b,0,none⟩ j;rw[i,run_sizeOf w hi,hn]at f;simp[execOp,d,a,f,slicedAt,tc,Addr.add]
def kS(x:bh):List Value:=[.int .i64 x.kind,.string x.text,.float .f64 x.num,.int .i64 x.pos,.bool x.aI]
def hY(l:List bh):List Value:=l.flatMap kS
def il(K:bR)(s:ByteArray)(p:Nat):Nat:=K.nv (bx (s.extract p (ea s p).1))
variable{s:ByteArray}{num:Nat->Nat}
theorem D0{i:Nat}{aI:Bool}(h:fX (bt s i)=true):gn num s i aI=(bE s gM i,some ⟨bif Ao (s.extract i (bE s gM i)) then 2 else 1,s.extract i (bE s gM i),0,i,aI⟩):=by
 unfold gn;dsimp only;rw[h];rfl
def iA(s:ByteArray)(i:Nat):Bool:=bM (bt s i)||(bt s i==46&&(decide (i+1<s.size)&&bM (bt s (i+1))))
theorem D1{i:Nat}{aI:Bool}(h:fX (bt s i)=false)(a:iA s i=true):gn num s i aI=((ea s i).1,bif (ea s i).2 then some ⟨3,⟨#[]⟩,num i,i,aI⟩ else none):=by
 unfold gn;unfold iA at a;dsimp only;rw[h,a];rfl
theorem D2{i:Nat}{aI:Bool}(h:fX (bt s i)=false)(a:iA s i=false)(b:(bt s i==34||bt s i==39)=true):gn num s i aI=match lh s i with| (j,none)=>(j,none)| (j,some u)=>(j,some ⟨4,cJ u,0,i,aI⟩):=by
 unfold gn;unfold iA at a;dsimp only;rw[h,a,b];rfl
theorem Bx{i:Nat}{aI:Bool}(h:fX (bt s i)=false)(a:iA s i=false)(b:(bt s i==34||bt s i==39)=false):gn num s i aI=match fh.find? fun m=>dx s i (dP m)with|none=>(i,none)|some m=>(i+m.size,some ⟨5,m,0,i,aI⟩):=by
 unfold gn;unfold iA at a;grind
theorem agn(s:ByteArray)(i:Nat):∀(l:List ByteArray)(k:Nat),(l.find? (fun m=>dx s i (dP m))=none/\n_ s i l k= -1)\/∃j m,l[j]?=some m/\l.find? (fun m=>dx s i (dP m))=some m/\n_ s i l k=((k+j:Nat):Int):=by
 intro l
 induction l with
 |nil=>intro k;exact .inl ⟨rfl,rfl⟩
 |cons m l b=>
  intro k;rw[List.find?_cons,n_];cases h:dx s i (dP m)with
  |true=>exact .inr ⟨0,m,rfl,rfl,rfl⟩
  |false=>
   rcases b (k+1)with⟨e1,a⟩| ⟨j,m',e1,a,c⟩
   ·simp[*]
   ·exact .inr ⟨j+1,m',e1,a,by grind⟩
theorem agh:∀m∈fh,m.size<=3:=by decide+kernel
theorem afF{x:bh}:∀u∈kS x,u.oneCell'=true:=by
 intro u a;unfold kS at a;simp at a;rcases a with rfl|rfl|rfl|rfl|rfl <;> rfl
theorem afG(l:List bh)(d:bh):hY (l++[d])=hY l++kS d:=by unfold hY;simp
structure oG where
 K:bR
 b:Nat
 src:ByteArray
 i:Nat
 aI:Bool
 r:Row
 ls:List bh
def wN:aR where
 X:=oG
 Y:=Row ⊕ (Nat×Row)
 args x:=[ag (some ⟨x.b,0,none⟩)]
 pre x:=[af x.b [ai x.src,ad x.i,aj x.aI,au x.r.a x.r.n x.r.cap] 68,x.r.A]
 cond x:=x.i<x.src.size/\x.src.size<=1048570/\aD 72 (oe x.K)/\bz 53 5 (hY x.ls) x.r/\x.r.n<=1048576
 aO x F:=eQ x.K F
 b_ x y:=match y with
  | .inl r=>∃k d,gn (il x.K x.src) x.src x.i x.aI=(k,some d)/\bz 53 5 (hY (x.ls++[d])) r
  | .inr _=>(gn (il x.K x.src) x.src x.i x.aI).2=none
 val _ y:=match y with
  | .inl _=>.returned (.bool true)
  | .inr _=>.returned (.bool false)
 post x y:=match y with
  | .inl r=>[.cells x.b [.string x.src,.int .i64 ((gn (il x.K x.src) x.src x.i x.aI).1:Nat),.bool false,.slice r.a r.n r.cap] 68,r.A]
  | .inr (k,r)=>[.cells x.b [.string x.src,.int .i64 (k:Int),.bool false,.slice r.a r.n r.cap] 68,r.A]
 sum:=some (ia Row (Nat×Row))
structure C3 where
 j:Nat
 d:bh
 ok:Bool
 cb:Nat
 lc:Nat
def mj(x:oG):List Value:=[ag (some ⟨x.b,0,none⟩)]
def ahb(x:oG)(F:ah):Nat->Option Inv:=fun
 |21=>some {X:=C3,P:=fun d=>(d.ok=true->gn (il x.K x.src) x.src x.i x.aI=(d.j,some d.d))/\(d.ok=false->(gn (il x.K x.src) x.src x.i x.aI).2=none),mu:=fun _=>0,lv:=fun d=>[(1,ag (some ⟨d.cb,0,none⟩)),(3,ag (some ⟨d.lc,0,none⟩)),(4,aj d.ok)],st:=fun d=>[af x.b [ai x.src,ad d.j,aj false,au x.r.a x.r.n x.r.cap] 68,x.r.A,F,af d.cb (mj x) 66,af d.lc (kS d.d) 53]}
 |_=>none
def zx(x:oG):List Value:=[ai x.src,ad ↑x.i,aj false,au x.r.a x.r.n x.r.cap]
def Ih(x:oG)(F:ah)(p o:Nat):=[(0,af x.b (zx x) 68),(1,x.r.A),(2,F),(1000,af p (mj x) 66),(2090,af o [ad 0,ai ⟨#[]⟩,float f64 0,ad ↑x.i,aj x.aI] 53)]
def QQ(e:cD):List Value:=[ai e.src,ad (↑(bE e.src gM e.i.toNat):Int),aj e.aI,au e.oa e.on e.oc]
def O6(e:cD)(x:oG)(F:ah)(p o:Nat):=[(0,af e.b (QQ e) 68),(1,x.r.A),(2,F),(1000,af p (mj x) 66),(2090,af o [ad 1,ai (e.src.extract e.i.toNat (bE e.src gM e.i.toNat)),float f64 0,ad ↑x.i,aj x.aI] 53)]
def P1(z:C3)(e0:oG):=(z.ok=true->gn (il e0.K e0.src) e0.src e0.i e0.aI=(z.j,some z.d))/\(z.ok=false->(gn (il e0.K e0.src) e0.src e0.i e0.aI).snd=none)
def BK(z:C3):List Value:=[ad z.d.kind,ai z.d.text,float f64 z.d.num,ad z.d.pos,aj z.d.aI]
def AN(e0:oG)(e1:ah)(v0 v1 v2:Value)(a:St):=∃(z:C3),P1 z e0/\(v0=ag (some ⟨z.cb,0,none⟩)/\v1=ag (some ⟨z.lc,0,none⟩)/\v2=aj z.ok/\True)/\aE a [(0,af e0.b [ai e0.src,ad ↑z.j,aj false,au e0.r.a e0.r.n e0.r.cap] 68),(1,e0.r.A),(2,e1),(3,af z.cb (mj e0) 66),(4,af z.lc (BK z) 53)]
def cr(p:Nat):=ag (bI p)
def Tl(aa:List Value)(pp:List ah)(rr:ah)(a:gR->Unit->Prop):=aD 60 oW/\true=true/\∃(z:gR),aa=(vq z)/\pp=[af z.l.b (BP z) 68]/\(0<=z.l.i/\z.l.i<=z.l.src.size/\z.l.src.size<=1048576/\aD 72 (oe z.K))/\eQ z.K rr/\∀(b:Unit),True->a z b
def P_(o p:Nat)(x:oG)(F:ah):=aw o 0/\aw p 0/\Tl (mj x) [af x.b (zx x) 68] (aH [(0,af x.b (zx x) 68),(1,x.r.A),(2,F),(1000,af p (mj x) 66),(2090,af o [ad 3,ai ⟨#[]⟩,float f64 0,ad ↑x.i,aj x.aI] 53)] [0]) (fun c b=>aw o 2/\AN x F (cr p) (cr o) (aj (ea c.l.src c.l.i.toNat).snd) [(0,af c.l.b [ai c.l.src,ad (↑(ea c.l.src c.l.i.toNat).fst:Int),aj c.l.aI,au c.l.oa c.l.on c.l.oc] 68),(1,x.r.A),(2,F),(1000,af p (mj x) 66),(2090,af o [ad 3,ai ⟨#[]⟩,float f64 (bif (ea c.l.src c.l.i.toNat).snd then c.K.nv (bx (c.l.src.extract c.l.i.toNat (ea c.l.src c.l.i.toNat).fst)) else 0),ad ↑x.i,aj x.aI] 53)])
def QM(x:oG):=(-9223372036854775808:Int)<=(x.i:Int)+1/\(x.i:Int)+1<=(9223372036854775807:Int)
def Tn(aa:List Value)(pp:List ah)(rr:ah)(b:iW->ByteArray->Prop):=aD 61 rA/\true=true/\∃(z:iW),aa=[ag (kw z)]/\pp=[af z.l.b (u9 z) 68]/\(0<=z.l.i/\z.l.i<z.l.src.size/\z.l.src.size<=1048576)/\Gl rr/\∀(a:ByteArray),(∀(w0:List Nat),(lh z.l.src z.l.i.toNat).snd=some w0->a=cJ w0)->b z a
def QX(o p:Nat)(x:oG)(F:ah):=aw o 0/\aw p 0/\Tn (mj x) [af x.b (zx x) 68] (aH [(0,af x.b (zx x) 68),(1,x.r.A),(2,F),(1000,af p (mj x) 66),(2090,af o [ad 4,ai ⟨#[]⟩,float f64 0,ad ↑x.i,aj x.aI] 53)] [0]) (fun c b=>aw o 1/\AN x F (cr p) (cr o) (aj (lh c.l.src c.l.i.toNat).snd.isSome) [(0,af c.l.b [ai c.l.src,ad (↑(lh c.l.src c.l.i.toNat).fst:Int),aj c.l.aI,au c.l.oa c.l.on c.l.oc] 68),(1,x.r.A),(2,F),(1000,af p (mj x) 66),(2090,af o [ad 4,ai b,float f64 0,ad ↑x.i,aj x.aI] 53)])
def To(b:Oper)(aa:List Value)(a:vW->Prop):=dR Tryz.prog b (tc 42)/\∃(z:vW),aa=[ag (some z.a)]/\(z.a.off=0/\z.a.spot=none)/\a z
def Tp(aa:List Value)(rr:ah)(a:vZ->Unit->Prop):=aD 62 y7/\true=true/\∃(z:vZ),aa=[au vh 42 42,func (Fn.func 63) ⟨[]⟩ ⟨zM z⟩]/\([]:List ah)=[]/\(0<=z.l.i/\z.l.i<=z.l.src.size/\z.l.src.size<=1048576)/\(Gl rr/\sV z.l z.cb rr)/\∀(b:Unit),True->a z b
def Qu(e:vZ):=0<=n_ e.l.src e.l.i.toNat fh 0/\n_ e.l.src e.l.i.toNat fh 0<(↑(42:Nat):Int)
def q5(n:cD)(o p:Nat)(x:oG)(F:ah):=Br ((↑(bt n.src n.i.toNat):Int)==34) (QX o p x F) (Br ((↑(bt n.src n.i.toNat):Int)==39) (QX o p x F) (To (a7 Tryz.f36 5 0) [ag vh] (fun f=>Tp [au (some f.a) 42 42,func (Fn.func 63) ⟨[]⟩ ⟨[ag (bI p)]⟩] (aH (Ih x F p o) []) (fun e d=>aS (n_ e.l.src e.l.i.toNat fh 0<0) (ar wN x F cQ (Ih x F p o)) (true=true/\Qu e/\T2 F ⟨2,0+(n_ e.l.src e.l.i.toNat fh 0).toNat*1,none⟩ (fun c=>aw o 0/\aw o 1/\true=true/\aw p 0/\aw x.b 1/\Qu e/\T2 F ⟨2,0+(n_ e.l.src e.l.i.toNat fh 0).toNat*1,none⟩ (fun b=>bK ((x.i:Int)+(b.size:Int))/\aw x.b 1/\AN x F (cr p) (cr o) (aj true) [(0,af x.b [ai x.src,ad ((x.i:Int)+(b.size:Int)),aj false,au x.r.a x.r.n x.r.cap] 68),(1,x.r.A),(2,F),(1000,af p (mj x) 66),(2090,af o [ad 5,ai c,float f64 0,ad ↑x.i,aj x.aI] 53)])))))))
theorem ahd(x:oG)(F:ah)(N:wN.cond x)(s:wN.aO x F):∀(p:Nat),true=true/\aw p 0/\aw x.b 1/\aw p 0/\aw x.b 2/\∀(o:Nat),cx o (aw p 0/\aw x.b 2/\(aw p 0/\oI (mj x) (aH (Ih x F p o) []) (fun n m=>AH (sB n) (fun l k=>Br (fX l.c) (aw o 0/\aw p 0/\aD 56 xF/\true=true/\∃(e:cD),[ag (some ⟨x.b,0,none⟩),func (Fn.func 57) ⟨[]⟩ ⟨[]⟩]=[ag (gu e),func (Fn.func 57) ⟨[]⟩ ⟨[]⟩]/\[af x.b (zx x) 68]=[af e.b (oZ e) 68]/\tQ e/\True/\∀(d:Unit),True->aw o 1/\aw o 1/\aD 59 ya/\true=true/\∃(c:M2),[ai (e.src.extract e.i.toNat (bE e.src gM e.i.toNat))]=[ai c.s]/\([]:List ah)=[]/\c.s.size<=1048570/\Gl (aH (O6 e x F p o) [])/\∀(b:Unit),True->Br (Ao c.s) (aw o 0/\AN x F (cr p) (cr o) (aj true) [(0,af e.b (QQ e) 68),(1,x.r.A),(2,F),(1000,af p (mj x) 66),(2090,af o [ad 2,ai (e.src.extract e.i.toNat (bE e.src gM e.i.toNat)),float f64 0,ad ↑x.i,aj x.aI] 53)]) (AN x F (cr p) (cr o) (aj true) (O6 e x F p o))) (true=true/\T0 (sB n) (fun j i=>Br (bM j.c) (P_ o p x F) (Br ((↑(bt n.src n.i.toNat):Int)==46) (aw p 0/\aw x.b 1/\QM x/\aw p 0/\aw x.b 0/\aS ((x.i:Int)+1<(x.src.size:Int)) (aw p 0/\aw x.b 0/\aw p 0/\aw x.b 1/\QM x/\(0<=(x.i:Int)+1/\(x.i:Int)+1<(x.src.size:Int))/\T0 [ba (aF x.src ((x.i:Int)+1))] (fun h g=>Br (bM h.c) (P_ o p x F) (q5 n o p x F))) (q5 n o p x F)) (q5 n o p x F)))))))/\aT fun(e:C3)_=>P1 e x->true=true/\aw e.cb 0/\aw e.cb 0/\aw x.b 3/\cx e.lc (∀(c:Nat),e_ Tryz.prog (a7 Tryz.f36 21 7) (dm (53:TypeId) 5 48)/\true=true/\∃(b:pu),[au x.r.a x.r.n x.r.cap,au (bI c) 1 1]=(k7 b)/\[x.r.A]=[b.r.A]/\(bz 53 5 b.cs b.r/\b.ys.length=b.m*5/\(∀(a:Value),a∈b.ys->a.oneCell'=true)/\(b.r.n+b.m)*48<=140737488355328/\b.r.n+b.m<=9223372036854775807/\(b.a=none->b.m=0/\b.c=0))/\(∀(a:Addr),b.a=some a->c_ (aH [(0,af x.b [ai x.src,ad ↑e.j,aj false,au x.r.a x.r.n x.r.cap] 68),(1,x.r.A),(2,F),(3,af e.cb (mj x) 66),(4,af e.lc (BK e) 53),(22060,af c (BK e) 53)] [1]) a b.ys)/\∀(a:Row),(bz 53 5 (b.cs++b.ys) a/\a.n=b.r.n+b.m/\(b.m=0->a=b.r))->aw x.b 3/\ar wN x F (ay (aj e.ok)) [(0,af x.b [ai x.src,ad ↑e.j,aj false,au a.a a.n a.cap] 68),(1,a.A),(2,F),(3,af e.cb (mj x) 66),(4,af e.lc (BK e) 53),(22060,af c (BK e) 53)])):=by
 delta gu oI mj zx Ih AH sB oZ tQ QQ O6 P1 BK AN bI cr T0 tM vq BP Tl P_ QM kw u9 Tn QX To vh zM Tp dk cQ Qu T2 q5 k7 aH aw bK cx ad ba ai aj ag au af aS ay aT;obtain⟨K,b,src,i,aI,r,ls⟩:=x;obtain⟨hi,hs,G,q,C⟩:=N;replace s:eQ K F:=s;dsimp only at hi hs G q C;dsimp only;have U:=hF src i;intro cb;refine⟨rfl,al,al,al,al,fun lc=>⟨al,al,al,al,al,al,al,?_,?_⟩⟩;rotate_left
 ·rintro⟨j,d,ok,cb,lc⟩ X ⟨k1,k2⟩;dsimp only at k1 k2⊢;refine⟨rfl,al,al,al,al,al,al,al,al,fun R=>bs (jN 5 48 rfl rfl rfl rfl rfl rfl rfl (by decide)) ⟨r,hY ls,some ⟨R,0,none⟩,1,1,kS d⟩ ⟨q,rfl,afF,by grind,by grind,fun h=>nomatch h⟩ (?_) fun E T=>⟨al,?_⟩⟩
  ·intro a M;cases M;exact c_.rest (j:=22060) aL (c_.cells (fun j u H=>by rw[hU];exact H))
  ·cases ok with
   |true=>exact⟨.inl E,⟨j,d,k1 rfl,by rw[afG];simp[*]⟩,rfl,aE.pick [0,1,2] rfl (by simp only[wN,k1 rfl];rfl)⟩
   |false=>exact⟨.inr (j,E),k2 rfl,rfl,aA [0,1,2]⟩
 refine lj (A:=fX (bt src i)=false/\iA src i=true) (fun kn=>lj (A:=fX (bt src i)=false/\iA src i=false) (fun D=>⟨al,tJ,rfl,⟨b,src,(i:Int),false,r.a,r.n,r.cap⟩,rfl,rfl,⟨by simp[*],by grind⟩,⟨aQ.rest (j:=0) aL (aQ.cells rfl),aQ.rest (j:=0) aL (aQ.cells rfl)⟩,fun _ _=>bO N8 ⟨bt src (i:Int).toNat⟩ (hF _ _) fun _ _=>aG (fun hl=>?_) (fun hl=>⟨rfl,wq,rfl,⟨bt src (i:Int).toNat⟩,rfl,rfl,hF _ _,ao,fun _ _=>aG (fun hd=>kn ⟨hl,?_⟩) (fun hd=>aG (fun f=>⟨al,al,aK,al,al,bo (fun w=>⟨al,al,al,al,aK,⟨ae,w⟩,wq,rfl,⟨bt src (i+1)⟩,?_,rfl,hF _ _,ao,fun _ _=>aG (fun B=>kn ⟨hl,?_⟩) (fun B=>D ⟨hl,?_⟩)⟩) (fun w=>D ⟨hl,?_⟩)⟩) (fun f=>D ⟨hl,?_⟩))⟩)⟩) (fun O=>?_)) (fun hn=>?_)
 ·have hl:fX (bt src i)=true:=hl;obtain⟨Y,E⟩:=mY src gM (show i<=src.size by omega);have e1:gn (il K src) src i aI=_:=D0 hl;refine⟨al,al,ajy,rfl,⟨b,src,(i:Int),false,r.a,r.n,r.cap⟩,rfl,rfl,⟨by simp[*],by grind,by grind⟩,ao,fun _ _=>⟨al,al,aly,rfl,⟨src.extract i (bE src gM i)⟩,rfl,rfl,?_,Gl.rest (j:=2) aL s.gl,fun _ _=>aG (fun Q=>⟨al,⟨⟨bE src gM i,⟨2,src.extract i (bE src gM i),0,i,aI⟩,true,cb,lc⟩,⟨fun _=>?_,fun h=>nomatch h⟩,aV,aA [0,1,2,1000,2090]⟩⟩) (fun Q=>⟨⟨bE src gM i,⟨1,src.extract i (bE src gM i),0,i,aI⟩,true,cb,lc⟩,⟨fun _=>?_,fun h=>nomatch h⟩,aV,aA [0,1,2,1000,2090]⟩)⟩⟩
  ·dsimp only;rw[hT];omega
  all_goals grind
 ·unfold iA;grind
 ·rw[gB,show((i:Int)+1).toNat=i+1 by omega]
 ·have f:((bt src i:Int)==46)=true:=f;unfold iA;grind
 ·unfold iA;grind
 ·unfold iA;grind
 ·have f:((bt src i:Int)==46)=false:=f;unfold iA;grind
 ·obtain⟨hl,hn⟩:=O;refine lj (A:=(bt src i==34||bt src i==39)=true) (fun I=>aG (fun h=>I ?_) (fun t=>aG (fun h=>I ?_) (fun v=>?_))) (fun P=>?_)
  ·grind
  ·grind
  ·have t:((bt src i:Int)==34)=false:=t;have v:((bt src i:Int)==39)=false:=v;have e1:gn (il K src) src i aI=_:=Bx hl hn (by grind);refine⟨GI rfl rfl rfl rfl rfl,⟨⟨2,0,none⟩⟩,rfl,al,ae7,rfl,⟨⟨b,src,(i:Int),false,r.a,r.n,r.cap⟩,cb⟩,rfl,rfl,⟨by simp[*],by grind,by grind⟩,⟨Gl.rest (j:=2) aL s.gl,aQ.rest (j:=1000) aL (aQ.cells rfl),⟨aQ.rest (j:=0) aL (aQ.cells rfl),aQ.rest (j:=0) aL (aQ.cells rfl)⟩⟩,fun _ _=>?_⟩;dsimp only;rw[cy];rcases agn src i fh 0 with⟨z,f2⟩| ⟨j,m,z,f2,f3⟩
   ·rw[f2];exact aG (fun _=>⟨.inr (i,r),by show(gn (il K src) src i aI).2=none;simp[*],rfl,aA [0,1,2]⟩) (fun h=>absurd h (by decide))
   ·rw[f3,hU];have H:j<42:=(jq.1 z).1;have V:m.size<=3:=agh m (nk z);have L:0+(j:Int).toNat*1=j:=ae;have J:aQ F ⟨2,0+(j:Int).toNat*1,none⟩ (.string m):=by rw[L];exact s.gl.HB j m z
    have S:(i:Int)+(m.size:Int)=((i+m.size:Nat):Int):=ae;refine aG (fun h=>absurd (jS h) ae) (fun _=>⟨rfl,aK,m,J,al,al,rfl,al,al,aK,m,J,aK,al,⟨⟨i+m.size,⟨5,m,0,i,aI⟩,true,cb,lc⟩,⟨fun _=>by simp[*],fun h=>nomatch h⟩,aV,aE.pick [0,1,2,1000,2090] rfl (by rfl)⟩⟩)
  ·have e1:gn (il K src) src i aI=_:=D2 hl hn P;refine⟨al,al,akJ,rfl,⟨⟨b,src,(i:Int),false,r.a,r.n,r.cap⟩⟩,rfl,rfl,⟨by simp[*],by simp[*],by grind⟩,Gl.rest (j:=2) aL s.gl,fun y W=>⟨al,⟨⟨(lh src i).1,⟨4,y,0,i,aI⟩,(lh src i).2.isSome,cb,lc⟩,⟨fun h=>?_,fun h=>?_⟩,aV,aA [0,1,2,1000,2090]⟩⟩⟩
   all_goals grind
 ·obtain⟨hl,hn⟩:=hn;have e1:gn (il K src) src i aI=_:=D1 hl hn;refine⟨al,al,agE,rfl,⟨K,⟨b,src,(i:Int),false,r.a,r.n,r.cap⟩⟩,rfl,rfl,⟨by simp[*],by grind,by grind,G⟩,eQ.rest (j:=2) aL s,fun _ _=>⟨al,⟨⟨(ea src i).1,⟨3,⟨#[]⟩,bif (ea src i).2 then il K src i else 0,i,aI⟩,(ea src i).2,cb,lc⟩,⟨fun h=>?_,fun h=>?_⟩,aV,aA [0,1,2,1000,2090]⟩⟩⟩
  all_goals grind
theorem ahc:aD 36 wN:=fo 118 Tryz.func36 (fun _ _=>[(0,0,.n 1000),(1,9,.n 2090),(4,1,aX ny),(10,1,aX sn),(12,1,bv xF),(13,2,aX ya),(15,1,aX pJ),(15,29,aX pJ),(17,1,bv oW),(20,1,bv rA),(5,0,.qo (tc 42)),(5,2,aX y7),(8,2,.q [.ex 2 .str]),(9,6,.q [.ex 2 .str]),(21,6,.n 22060),(21,7,.o (dm 53 5 48) [1] [1])]) [(1,0,aP 1000),(1,3,aP 0),(1,4,aP 1000),(1,7,aP 0),(1,10,.w [LH.z00 (2090:Nat),LH.z00 (2090:Nat),LH.z00 (2090:Nat),LH.z00 (2090:Nat),LH.z00 (2090:Nat)]),(2,0,aP 1000),(2,3,.w [LH.z00 (0:Nat)]),(4,0,aP 1000),(21,0,aP 3),(11,1,.w [LH.z00 (2090:Nat)]),(16,1,.w [LH.z00 (2090:Nat)]),(15,6,aP 1000),(19,1,.w [LH.z00 (2090:Nat)]),(8,4,.w [LH.z00 (2090:Nat)]),(21,1,aP 3),(12,0,aP 1000),(17,0,aP 1000),(15,9,aP 0),(20,0,aP 1000),(8,6,.w [LH.z00 (2090:Nat)]),(21,4,aP 0),(12,3,.w [LH.z00 (2090:Nat)]),(17,6,.w [LH.z00 (2090:Nat)]),(15,11,aP 1000),(20,6,.w [LH.z00 (2090:Nat)]),(9,0,aP 1000),(21,5,.q [LH.z00 (4:Nat),LH.z00 (4:Nat),LH.z00 (4:Nat),LH.z00 (4:Nat),LH.z00 (4:Nat)]),(13,1,aP 2090),(15,14,aP 0),(9,3,aP 0),(21,10,.w [LH.z00 (0:Nat)]),(14,1,.w [LH.z00 (2090:Nat)]),(15,19,aP 1000),(9,11,.w [LH.z00 (0:Nat)]),(15,22,aP 0),(15,23,aP 1000),(15,26,aP 0)] aY ahb bA [] ahd
end
end Go.Proofs.YtdkchodgklpomaaGreatDoor
