/- Part of the proof that ParseParens answers true at every input. -/
import Derived.Test.YtdkchodgklpomaaGreatDoorPPac
set_option linter.all false
namespace Go.Proofs.YtdkchodgklpomaaGreatDoor
set_option maxRecDepth 100000
open Go.Value (int slice string bool pointer agg tuple func float iface nilIface)
open Go.IntKind (i64 u8 u64 i32 u32 u16 i8 i16)
open Go.FloatKind (f64)
open Go.Ending (returned panicked)
section
open Go
structure bQ where
 nv:ByteArray->Nat
 tv:Nat->ByteArray
 rd:ah->Prop
 mono:∀{A B:ah},rd A->Sub A B->rd B
 rest:∀{S:St}{bG:List Nat}{j:Nat},j∉bG->rd (gt S j)->rd (.dq (rest S bG))
structure eH(K:bQ)(F:ah):Prop where
 gl:Gl F
 rd:K.rd F
theorem eH.sub{K:bQ}{A B:ah}(h:eH K A)(hs:Sub A B):eH K B:=⟨h.gl.sub hs,K.mono h.rd hs⟩
theorem eH.rest{K:bQ}{S:St}{bG:List Nat}{j:Nat}(a:j∉bG)(h:eH K (gt S j)):eH K (.dq (rest S bG)):=⟨h.gl.rest a,K.rest a h.rd⟩
def nJ(K:bQ):aQ where
 X:=e8
 args x:=[ai x.s]
 cond x:=x.s.size<=8388608
 aO _ F:=K.rd F
 val x _:=ax (float f64 (K.nv x.s))
 eM _ _ _ hs h:=K.mono h hs
structure gL where
 K:bQ
 l:cC
def s_(x:gL):Option Addr:=some ⟨x.l.b,0,none⟩
def BI(x:gL):List Value:=[ai x.l.src,ad x.l.i,aj x.l.aD,au x.l.oa x.l.on x.l.oc]
def oz:aQ where
 X:=gL
 args x:=[ag (s_ x)]
 pre x:=[af x.l.b (BI x) 68]
 cond x:=0<=x.l.i/\x.l.i<=x.l.src.size/\x.l.src.size<=1048576/\aC 72 (nJ x.K)
 aO x F:=eH x.K F
 val x _:=.returned (.tuple #[.float .f64 (bif (dX x.l.src x.l.i.toNat).2 then x.K.nv (bx (x.l.src.extract x.l.i.toNat (dX x.l.src x.l.i.toNat).1)) else 0),.bool (dX x.l.src x.l.i.toNat).2])
 post x _:=[af x.l.b [ai x.l.src,ad ((dX x.l.src x.l.i.toNat).1:Nat),aj x.l.aD,au x.l.oa x.l.on x.l.oc] 68]
def agf(x:gL)(a:ah):List (Nat×Nat×OH):=[(2,1,aW mU),(4,1,bu w9),(6,1,bu tA),(9,1,aW mU),(11,1,bu tA),(12,1,aW mU),(14,1,aW mU),(14,5,aW mU),(16,1,bu tA),(18,1,aW mU),(19,1,aW rG),(19,4,aW pi),(21,10,aW wC),(21,11,aW (nJ x.K))]
def aI(s:ByteArray)(j:Nat):Nat×Bool:=(j,!(fi (bt s j)||bL (bt s j)))
def yO(s:ByteArray)(j:Nat):Nat×Bool:=(bE s bL j,decide (bE s bL j>j)&& !(fi (bt s (bE s bL j))||bL (bt s (bE s bL j))))
def ps(s:ByteArray)(j:Nat):Nat×Bool:=bif (bt s j|||32)==101 then yO s (bif bt s (j+1)==43||bt s (j+1)==45 then j+2 else j+1) else aI s j
def yM(s:ByteArray)(j:Nat):Nat×Bool:=ps s (bif bt s j==46 then bE s bL (j+1) else j)
def wg(s:ByteArray)(i j:Nat):Nat×Bool:=bif decide (j-i>1)&&bt s i==48 then (j,false) else yM s j
def HA(s:ByteArray)(i:Nat):Nat×Bool:=wg s i (bE s bL i)
theorem yN(s:ByteArray)(i:Nat):dX s i=bif bt s i==48&&(decide (i+1<s.size)&&(bt s (i+1)|||32)==120) then (bE s fv (i+2),decide (bE s fv (i+2)>i+2)&& !(fi (bt s (bE s fv (i+2)))||bL (bt s (bE s fv (i+2))))) else HA s i:=rfl
theorem kL{A B C:Prop}(f:(A->B)->C)(g:A->B):C:=f g
theorem fL{n:Nat}(k:Nat){v:Bool}(h:((n:Int)==(k:Int))=v):(n==k)=v:=by
 rw[<-h,Bool.eq_iff_iff,beq_iff_eq,beq_iff_eq];omega
variable{s:ByteArray}{i:Nat}
theorem uc(h:bt s i≠0):i<s.size:=by
 rcases Nat.lt_or_ge i s.size with h'|h'
 ·exact h'
 ·exact absurd (ud h') h
theorem lR(s:ByteArray)(p:Nat->Bool)(h:i<=s.size):i<=bE s p i/\bE s p i<=s.size:=WC s p _ i h
theorem Uf{j:Nat}(h:j<=s.size):((s.extract i j).toList==(ByteArray.mk #[]).toList)= !decide (j>i):=by
 have a:=xj (s.extract i j);rw[gS,Nat.min_eq_left h]at a;grind
theorem MY{j k:Nat}(h:i+k<j)(a:j<=s.size):bt (s.extract i j) k=bt s (i+k):=by
 unfold bt;congr 2;rw[ByteArray.data_extract,Array.getElem?_extract,if_pos (by simp only[ByteArray.size]at a;omega)]
theorem Sg(c:Nat):(ii c).length<=4:=by
 unfold ii;cases decide (c>65535) <;> simp
theorem ak3(s:ByteArray):∀(f i:Nat)(o:List Nat),(lV s f i o).length<=o.length+4*(s.size-i):=by
 intro f
 induction f with
 |zero=>intro i o;show o.length<=_;omega
 |succ f b=>
  intro i o;rw[lV];by_cases hi:i<s.size
  ·rw[bv hi,aU];cases h:cS s i with
   |none=>exact df _
   |some a=>
    obtain⟨c,n⟩:=a;obtain⟨d,f2,f3⟩:=jO h;have e:=b (i+n) (o++ii c);have g:=Sg c;grind
  simp[*]
theorem ak4(s:ByteArray):(bx s).size<=4*s.size:=by
 have h:=ak3 s (s.size+1) 0 [];have e:(bx s).size=(lV s (s.size+1) 0 []).length:=by
  unfold bx cL ByteArray.size;simp
 grind
structure jZ where
 j:Nat
def Vz(x:gL):List (Nat×Value):=[(0,.pointer (some ⟨x.l.b,0,none⟩)),(4,.int .i64 x.l.i)]
def VA(x:gL)(F:ah)(j:Nat):List ah:=[.cells x.l.b [.string x.l.src,.int .i64 j,.bool x.l.aD,.slice x.l.oa x.l.on x.l.oc] 68,F]
def Ht(x:gL)(F:ah)(g:ByteArray->Nat->Nat×Bool):Inv:={X:=jZ,P:=fun d=>x.l.i.toNat<=d.j/\d.j<=x.l.src.size/\dX x.l.src x.l.i.toNat=g x.l.src d.j,mu:=fun _=>0,lv:=fun _=>Vz x,st:=fun d=>VA x F d.j}
def age(x:gL)(F:ah):Nat->Option Inv:=fun
 |7=>some {X:=jZ,P:=fun d=>x.l.i.toNat<=d.j/\d.j<=x.l.src.size/\dX x.l.src x.l.i.toNat=wg x.l.src x.l.i.toNat d.j,mu:=fun _=>0,lv:=fun d=>(5,.string (x.l.src.extract x.l.i.toNat d.j))::Vz x,st:=fun d=>VA x F d.j}
 |9=>some (Ht x F yM)
 |12=>some (Ht x F ps)
 |16=>some (Ht x F yO)
 |18=>some (Ht x F aI)
 |_=>none
def uW(x:gL):List Value:=[ag (s_ x)]
def QC(x:gL):=(-9223372036854775808:Int)<=x.l.i+1/\x.l.i+1<=(9223372036854775807:Int)
def wt:=ax (tuple ⟨[float f64 0,aj false]⟩)
def PZ(c:cC)(F:ah):=[(0,af c.b [ai c.src,ad (↑(bE c.src fv c.i.toNat):Int),aj c.aD,au c.oa c.on c.oc] 68),(1,F)]
def PV(e0:gL)(z:jZ):=e0.l.i.toNat<=z.j/\z.j<=e0.l.src.size/\dX e0.l.src e0.l.i.toNat=(z.j,!(fi (bt e0.l.src z.j)||bL (bt e0.l.src z.j)))
def Er(e0:gL):=ag (s_ e0)=ag (s_ e0)/\ad e0.l.i=ad e0.l.i/\True
def k_(x:gL)(m:jZ)(F:ah):=[(0,af x.l.b [ai x.l.src,ad ↑m.j,aj x.l.aD,au x.l.oa x.l.on x.l.oc] 68),(1,F)]
def F_(e0:gL)(e1:ah)(a:St):=∃(z:jZ),PV e0 z/\Er e0/\aE a (k_ e0 z e1)
def Gg(aa:List Value)(pp:List ah)(a:cC->Unit->Prop):=aC 56 tA/\true=true/\∃(z:cC),aa=[ag (gi z),func (Fn.func 58) ⟨[]⟩ ⟨[]⟩]/\pp=[af z.b (oC z) 68]/\tf z/\True/\∀(b:Unit),True->a z b
def Jh(x:gL):List Value:=[ag (s_ x),func (Fn.func 58) ⟨[]⟩ ⟨[]⟩]
def Qy(x:gL)(m:jZ):=x.l.i.toNat<=m.j/\m.j<=x.l.src.size/\dX x.l.src x.l.i.toNat=wg x.l.src x.l.i.toNat m.j
def SU(e0:gL)(e1:ah)(v0:Value)(a:St):=∃(z:jZ),Qy e0 z/\(v0=ai (e0.l.src.extract e0.l.i.toNat z.j)/\ag (s_ e0)=ag (s_ e0)/\ad e0.l.i=ad e0.l.i/\True)/\aE a (k_ e0 z e1)
def D9(c:cC)(F:ah):=[(0,af c.b [ai c.src,ad (↑(bE c.src bL c.i.toNat):Int),aj c.aD,au c.oa c.on c.oc] 68),(1,F)]
def QU(x:gL)(k:jZ):=x.l.i.toNat<=k.j/\k.j<=x.l.src.size/\dX x.l.src x.l.i.toNat=yM x.l.src k.j
def L_(e0:gL)(e1:ah)(a:St):=∃(z:jZ),QU e0 z/\Er e0/\aE a (k_ e0 z e1)
def Qs(k:jZ):=(-9223372036854775808:Int)<=(k.j:Int)+1/\(k.j:Int)+1<=(9223372036854775807:Int)
def Ek(x:gL)(k:jZ):List Value:=[ai x.l.src,ad ((k.j:Int)+1),aj x.l.aD,au x.l.oa x.l.on x.l.oc]
def QV(x:gL)(i:jZ):=x.l.i.toNat<=i.j/\i.j<=x.l.src.size/\dX x.l.src x.l.i.toNat=ps x.l.src i.j
def Md(e0:gL)(e1:ah)(a:St):=∃(z:jZ),QV e0 z/\Er e0/\aE a (k_ e0 z e1)
def OS(x:gL)(e:jZ):=x.l.i.toNat<=e.j/\e.j<=x.l.src.size/\dX x.l.src x.l.i.toNat=(bE x.l.src bL e.j,decide (bE x.l.src bL e.j>e.j)&& !(fi (bt x.l.src (bE x.l.src bL e.j))||bL (bt x.l.src (bE x.l.src bL e.j))))
def Mh(e0:gL)(e1:ah)(a:St):=∃(z:jZ),OS e0 z/\Er e0/\aE a (k_ e0 z e1)
def OK(x:gL)(i:jZ)(F:ah):=aw x.l.b 1/\((-9223372036854775808:Int)<=(i.j:Int)+1+(1:Int)/\(i.j:Int)+1+(1:Int)<=(9223372036854775807:Int))/\aw x.l.b 1/\Mh x F [(0,af x.l.b [ai x.l.src,ad ((i.j:Int)+1+(1:Int)),aj x.l.aD,au x.l.oa x.l.on x.l.oc] 68),(1,F)]
def q2(x:gL)(F:ah):=Gg (Jh x) [af x.l.b (BI x) 68] (fun c b=>SU x F (ai (c.src.extract c.i.toNat (bE c.src bL c.i.toNat))) (D9 c F))/\aT fun(m:jZ)_=>Qy x m->aS ((↑(x.l.src.extract x.l.i.toNat m.j).size:Int)>1) (((0:Int)<=(0:Int)/\0<(↑(x.l.src.extract x.l.i.toNat m.j).size:Int))/\Br (aF (x.l.src.extract x.l.i.toNat m.j) (0:Int)==(48:Int)) (ar oz x F wt (k_ x m F)) (L_ x F (k_ x m F))) (L_ x F (k_ x m F))/\aT fun(k:jZ)_=>QU x k->n9 (uW x) (aH (k_ x k F) []) (fun e d=>Br ((↑(bt e.src e.i.toNat):Int)==46) (aw x.l.b 1/\Qs k/\aw x.l.b 1/\Gg (Jh x) [af x.l.b (Ek x k) 68] (fun c b=>Md x F (D9 c F))) (Md x F (k_ x k F)))/\aT fun(i:jZ)_=>QV x i->n9 (uW x) (aH (k_ x i F) []) (fun g f=>Br (u8.wrap (↑(BitVec.ofInt u8.bits (↑(bt g.src g.i.toNat):Int)|||BitVec.ofInt u8.bits (32:Int)).toNat:Int)==101) (aw x.l.b 1/\Qs i/\aw x.l.b 1/\n9 (uW x) (aH [(0,af x.l.b (Ek x i) 68),(1,F)] []) (fun e d=>Br ((↑(bt e.src e.i.toNat):Int)==43) (OK x i F) (n9 (uW x) (aH [(0,af x.l.b (Ek x i) 68),(1,F)] []) (fun c b=>Br ((↑(bt c.src c.i.toNat):Int)==45) (OK x i F) (Mh x F [(0,af x.l.b (Ek x i) 68),(1,F)]))))/\aT fun(e:jZ)_=>OS x e->Gg (Jh x) [af x.l.b [ai x.l.src,ad ↑e.j,aj x.l.aD,au x.l.oa x.l.on x.l.oc] 68] (fun c b=>Br ((c.src.extract c.i.toNat (bE c.src bL c.i.toNat)).toList==oJ.toList) (ar oz x F wt (D9 c F)) (F_ x F (D9 c F)))) (F_ x F (k_ x i F)))
def sr(a:FuncId)(aa:List Value)(rr:ah)(b:e8->Unit->Prop):=aC a wC/\true=true/\∃(z:e8),aa=[ai z.s]/\([]:List ah)=[]/\z.s.size<=1048576/\f1 rr/\∀(c:Unit),True->b z c
theorem agi(x:gL)(F:ah)(H:oz.cond x)(y:oz.aO x F):aw x.l.b 1/\(true=true/\n9 (uW x) (aH [(0,af x.l.b (BI x) 68),(1,F)] []) (fun o n=>Br ((↑(bt o.src o.i.toNat):Int)==48) (aw x.l.b 1/\QC x/\aw x.l.b 0/\aS (x.l.i+1<(x.l.src.size:Int)) (aw x.l.b 0/\aw x.l.b 1/\QC x/\(0<=x.l.i+1/\x.l.i+1<(x.l.src.size:Int))/\Br (u8.wrap (↑(BitVec.ofInt u8.bits (aF x.l.src (x.l.i+1))|||BitVec.ofInt u8.bits (32:Int)).toNat:Int)==120) (aw x.l.b 1/\((-9223372036854775808:Int)<=x.l.i+2/\x.l.i+2<=(9223372036854775807:Int))/\aw x.l.b 1/\aC 56 w9/\true=true/\∃(c:cC),[ag (s_ x),func (Fn.func 71) ⟨[]⟩ ⟨[]⟩]=[ag (gi c),func (Fn.func 71) ⟨[]⟩ ⟨[]⟩]/\[af x.l.b [ai x.l.src,ad (x.l.i+2),aj x.l.aD,au x.l.oa x.l.on x.l.oc] 68]=[af c.b (oC c) 68]/\tf c/\True/\∀(b:Unit),True->Br ((c.src.extract c.i.toNat (bE c.src fv c.i.toNat)).toList==oJ.toList) (ar oz x F wt (PZ c F)) (F_ x F (PZ c F))) (q2 x F)) (q2 x F)) (q2 x F)))/\aT fun(l:jZ)_=>PV x l->n9 (uW x) (aH (k_ x l F) []) (fun j i=>Ap (rQ j) (fun h g=>Br (fi h.c) (ar oz x F wt (k_ x l F)) (T0 (rQ j) (fun f e=>Br (bL f.c) (ar oz x F wt (k_ x l F)) (true=true/\aw x.l.b 0/\aw x.l.b 1/\(0<=x.l.i/\x.l.i<=l.j/\(l.j:Int)<=(x.l.src.size:Int))/\sr 73 [ai (x.l.src.extract x.l.i.toNat (l.j:Int).toNat)] (aH (k_ x l F) []) (fun d c=>aC 72 (nJ x.K)/\true=true/\∃(b:e8),[ai (bx d.s)]=[ai b.s]/\([]:List ah)=[]/\b.s.size<=8388608/\x.K.3 (aH (k_ x l F) [])/\∀(a:Unit),True->ar oz x F (ax (tuple ⟨[float f64 (x.K.nv b.s),aj true]⟩)) (k_ x l F))))))):=by
 delta gi n9 s_ uW BI QC oC tf oJ wt PZ PV Er k_ F_ Gg Jh Qy SU D9 QU L_ Qs Ek QV Md OS Mh OK q2 Ap rQ T0 sr aH aw ad a8 ai aj ag au af aS ax aT;obtain⟨K,b,src,i0,aD,oa,on,oc⟩:=x;obtain⟨t,u,hs,D⟩:=H;replace y:eH K F:=y;dsimp only at t u hs D;obtain⟨i,rfl⟩:∃i:Nat,i0=(i:Int):=⟨i0.toNat,(Int.toNat_of_nonneg t).symm⟩;dsimp only;rw[cw];have hi:i<=src.size:=ae;have fin:∀(j:Nat),dX src i=(j,false)->ar oz ⟨K,b,src,(i:Int),aD,oa,on,oc⟩ F (returned (tuple #[float f64 0,bool false])) [(0,ah.cells b [string src,int i64 (j:Int),bool aD,slice oa on oc] 68),(1,F)]:=fun j e=>
  ⟨(),ao,by show returned _=returned (.tuple #[.float .f64 (bif (dX src (i:Int).toNat).2 then _ else 0),.bool (dX src (i:Int).toNat).2]);simp[*],aE.pick [0,1] rfl (by simp only[oz,cw,e];rfl)⟩
 refine⟨aq,kL (A:=dX src i=HA src i) (fun k=>⟨rfl,sZ,rfl,⟨b,src,i,aD,oa,on,oc⟩,rfl,rfl,⟨t,hs⟩,⟨aP.rest (j:=0) aL (aP.cells rfl),aP.rest (j:=0) aL (aP.cells rfl)⟩,fun _ _=>aG (fun p=>⟨aq,aK,aq,bo (fun r=>⟨aq,aq,aK,aK,aG (fun s=>?_) (fun s=>k ?_)⟩) (fun r=>k ?_)⟩) (fun p=>k ?_)⟩) (fun hk=>?_),?_⟩
 ·replace p:((bt src (i:Int).toNat:Int)==48)=true:=p;rw[cw]at p;replace p:=fL 48 p;rw[f_,show((i:Int)+1).toNat=i+1 by omega,yS (g0 _ _)]at s;replace s:=fL 120 s;obtain⟨B,q⟩:=lR src fv (show i+2<=src.size by omega);have I:dX src i=(bE src fv (i+2),decide (bE src fv (i+2)>i+2)&& !(fi (bt src (bE src fv (i+2)))||bL (bt src (bE src fv (i+2))))):=by
   rw[yN,p,s,bv (show i+1<src.size by omega)];rfl
  refine⟨aq,aK,aq,ajh,rfl,⟨b,src,(i:Int)+2,aD,oa,on,oc⟩,rfl,rfl,⟨by grind,by grind,hs⟩,ao,fun _ _=>?_⟩;dsimp only;rw[show((i:Int)+2).toNat=i+2 by omega,Uf q];refine aG (fun h=>fin _ ?_) (fun h=>⟨⟨bE src fv (i+2)⟩,⟨by grind,q,?_⟩,aV,az [0,1]⟩)
  all_goals grind
 ·replace p:((bt src (i:Int).toNat:Int)==48)=true:=p;rw[f_,show((i:Int)+1).toNat=i+1 by omega,yS (g0 _ _)]at s;rw[yN,fL 120 s,j5,j5];rfl
 ·rw[yN,bF (show ¬i+1<src.size by omega),jk,j5];rfl
 ·replace p:((bt src (i:Int).toNat:Int)==48)=false:=p;rw[cw]at p;rw[yN,fL 48 p,jk];rfl
 ·obtain⟨B,q⟩:=lR src bL hi;refine⟨bO RR ⟨b,src,i,aD,oa,on,oc⟩ ⟨t,u,hs⟩ fun _ _=>⟨⟨bE src bL i⟩,⟨B,q,hk⟩,aV,az [0,1]⟩,?_⟩;rintro⟨j⟩ z ⟨g1,m,g3⟩;dsimp only at g1 m g3⊢;have G:(src.extract i j).size=j-i:=by simp[*]
  rw[G];refine⟨bo (fun p=>⟨aK,aG (fun r=>fin j ?_) (fun r=>⟨⟨j⟩,⟨g1,m,?_⟩,aV,az [0,1]⟩)⟩) (fun p=>⟨⟨j⟩,⟨g1,m,?_⟩,aV,az [0,1]⟩),?_⟩
  ·rw[f_,show Int.toNat 0=0 from rfl,MY ae m,Nat.add_zero]at r;rw[g3,wg,fL 48 r,bv (show j-i>1 by omega)];rfl
  ·rw[f_,show Int.toNat 0=0 from rfl,MY ae m,Nat.add_zero]at r;rw[g3,wg,fL 48 r,j5];rfl
  ·rw[g3,wg,bF (show ¬j-i>1 by omega)];rfl
  clear g1 m g3 G;rintro⟨j⟩ z ⟨g1,m,g3⟩;dsimp only at g1 m g3⊢;refine⟨br sZ ⟨b,src,j,aD,oa,on,oc⟩ ⟨by simp[*],hs⟩ ⟨aP.rest (j:=0) aL (aP.cells rfl),aP.rest (j:=0) aL (aP.cells rfl)⟩ fun _ _=>aG (fun c=>?_) (fun c=>⟨⟨j⟩,⟨g1,m,?_⟩,aV,az [0,1]⟩),?_⟩
  ·replace c:((bt src (j:Int).toNat:Int)==46)=true:=c;rw[cw]at c;replace c:=fL 46 c;have w:j<src.size:=uc (by grind);obtain⟨B,q⟩:=lR src bL (show j+1<=src.size by omega);exact⟨aq,aK,aq,RR,rfl,⟨b,src,(j:Int)+1,aD,oa,on,oc⟩,rfl,rfl,⟨by grind,by grind,hs⟩,ao,fun _ _=>⟨⟨bE src bL (j+1)⟩,⟨by grind,q,by rw[g3,yM,c];rfl⟩,aV,az [0,1]⟩⟩
  ·replace c:((bt src (j:Int).toNat:Int)==46)=false:=c;rw[cw]at c;rw[g3,yM,fL 46 c];rfl
  clear g1 m g3;rintro⟨j⟩ z ⟨g1,m,g3⟩;dsimp only at g1 m g3⊢;refine br sZ ⟨b,src,j,aD,oa,on,oc⟩ ⟨by simp[*],hs⟩ ⟨aP.rest (j:=0) aL (aP.cells rfl),aP.rest (j:=0) aL (aP.cells rfl)⟩ fun _ _=>?_;dsimp only;rw[cw,yS (g0 _ _)];refine aG (fun c=>?_) (fun c=>⟨⟨j⟩,⟨g1,m,?_⟩,aV,az [0,1]⟩)
  ·replace c:=fL 101 c;have w:j<src.size:=by
    rcases Nat.lt_or_ge j src.size with h|h
    ·exact h
    ·rw[ud h]at c;cases c
   have C:dX src i=yO src (bif bt src (j+1)==43||bt src (j+1)==45 then j+2 else j+1):=by rw[g3,ps,c];rfl
   have v:((j:Int)+1).toNat=j+1:=ae;refine⟨aq,aK,aq,br sZ ⟨b,src,(j:Int)+1,aD,oa,on,oc⟩ ⟨by grind,hs⟩ ⟨aP.rest (j:=0) aL (aP.cells rfl),aP.rest (j:=0) aL (aP.cells rfl)⟩ fun _ _=>aG (fun d=>?_) (fun d=>br sZ ⟨b,src,(j:Int)+1,aD,oa,on,oc⟩ ⟨by grind,hs⟩ ⟨aP.rest (j:=0) aL (aP.cells rfl),aP.rest (j:=0) aL (aP.cells rfl)⟩ fun _ _=>aG (fun e=>?_) (fun e=>?_)),?_⟩
   ·replace d:((bt src ((j:Int)+1).toNat:Int)==43)=true:=d;rw[v]at d;replace d:=fL 43 d;have w:j+1<src.size:=uc (by grind);exact⟨aq,aK,aq,⟨j+2⟩,⟨by grind,by grind,by rw[C,d];rfl⟩,aV,az [0,1]⟩
   ·replace e:((bt src ((j:Int)+1).toNat:Int)==45)=true:=e;rw[v]at e;replace e:=fL 45 e;have w:j+1<src.size:=uc (by grind);exact⟨aq,aK,aq,⟨j+2⟩,⟨by grind,by grind,by rw[C,e,mc];rfl⟩,aV,az [0,1]⟩
   ·replace d:((bt src ((j:Int)+1).toNat:Int)==43)=false:=d;replace e:((bt src ((j:Int)+1).toNat:Int)==45)=false:=e;rw[v]at d e;exact⟨⟨j+1⟩,⟨by grind,by grind,by rw[C,fL 43 d,fL 45 e];rfl⟩,aV,az [0,1]⟩
   clear C v g1 m g3 c w;rintro⟨j⟩ z ⟨g1,m,g3⟩;dsimp only at g1 m g3⊢;obtain⟨B,q⟩:=lR src bL m;refine bO RR ⟨b,src,j,aD,oa,on,oc⟩ ⟨by simp[*],by simp[*],hs⟩ fun _ _=>?_;dsimp only;rw[cw,Uf q];refine aG (fun h=>fin _ ?_) (fun h=>⟨⟨bE src bL j⟩,⟨by grind,q,?_⟩,aV,az [0,1]⟩)
   all_goals grind
  ·rw[g3,ps,fL 101 c];rfl
 ·rintro⟨j⟩ z ⟨g1,m,g3⟩;dsimp only at g1 m g3⊢;refine br sZ ⟨b,src,j,aD,oa,on,oc⟩ ⟨by simp[*],hs⟩ ⟨aP.rest (j:=0) aL (aP.cells rfl),aP.rest (j:=0) aL (aP.cells rfl)⟩ fun _ _=>?_;dsimp only;rw[cw];have E:=g0 src j;refine bO NM ⟨bt src j⟩ E fun _ _=>aG (fun c=>fin j ?_) (fun c=>bO vT ⟨bt src j⟩ E fun _ _=>aG (fun d=>fin j ?_) (fun d=>⟨rfl,aq,aq,⟨t,ae,ae⟩,KK,rfl,⟨src.extract i j⟩,rfl,rfl,?_,f1.rest (j:=1) aL y.gl.oS,fun _ _=>br D ⟨bx (src.extract i j)⟩ (?_) (K.rest (j:=1) aL y.rd) fun _ _=>⟨(),ao,?_,aE.pick [0,1] rfl ?_⟩⟩))
  ·simp[*]
  ·simp[*]
  ·dsimp only;rw[gS];omega
  ·have:=ak4 (src.extract i j);rw[gS]at this;grind
  ·show returned _=returned (.tuple #[.float .f64 (bif (dX src (i:Int).toNat).2 then K.nv (bx (src.extract (i:Int).toNat (dX src (i:Int).toNat).1)) else 0),.bool (dX src (i:Int).toNat).2]);simp[*]
  ·simp only[oz,cw,g3];rfl
theorem agh:aC 60 oz:=fo 122 Tryz.func60 agf [(1,3,aR 0),(2,7,aR 0),(10,3,aR 0),(13,3,aR 0),(21,3,aR 0),(2,12,aR 0),(10,7,.w [LH.z00 (0:Nat)]),(13,7,.w [LH.z00 (0:Nat)]),(21,8,aR 0),(2,20,aR 0),(15,3,aR 0),(2,24,aR 0),(15,7,.w [LH.z00 (0:Nat)]),(3,3,aR 0),(3,7,.w [LH.z00 (0:Nat)])] aY age bA [] agi
end
section
open Go
theorem Ky(p s:ByteArray):Lib.strCells (p++s)=Lib.strCells p++Lib.strCells s:=by
 unfold Lib.strCells;simp[*]
theorem aj6{s:ByteArray}(h:s.size=0):Lib.strCells s=[]:=List.eq_nil_of_length_eq_zero (by rw[Lib.strCells_length,h])
structure FG where
 r:Row
 p:ByteArray
 s:ByteArray
def nb(e:TypeId)(p:ByteArray)(r:Row):Prop:=bz e 1 (Lib.strCells p) r/\(r.a=none\/0<r.cap)
def rl(e:TypeId):aQ where
 X:=FG
 Y:=Row
 args x:=[au x.r.a x.r.n x.r.cap,ai x.s]
 pre x:=[x.r.A]
 cond x:=nb e x.p x.r/\x.r.n+x.s.size<=140737488355328
 bZ x r:=nb e (x.p++x.s) r
 val _ r:=ax r.v
 post _ r:=[r.A]
section
variable{P:Program}
theorem aaG{o:Oper}{s x:Operand}{t u e:TypeId}{c:TypeInfo}{z:Value}(N:o.op= .call {callee:=.builtin .append,args:=#[s,x],argTypes:=#[t,u]})
  (B:P.underlying t=some (.slice e)) (C:P.underlying u=some .string) (hi:P.info? e=some c) (O:c.zero=some z) (hk:c.size=1) (X:c.bytes=1) (A:z.cells.size=1):e5 P o (rl e):=by
 refine⟨fun x F I w ρ L Q T hs=>?_⟩;obtain⟨r,p,str⟩:=x;obtain⟨⟨d,i⟩,l⟩:=Q;dsimp only at d l i;simp only[N,Op.operands,Call.operands,rl]at L;have D:ρ s= .slice r.a r.n r.cap/\ρ x= .string str:=by grind
 obtain⟨J,K⟩:=D;have fQ:∀w',(execOp ρ o).run P w'=((Builtin.append_ #[t,u] o.type #[.slice r.a r.n r.cap,.string str]).run P w').andThen fun v W=>.ok (.value v) W:=by
  intro w';simp[execOp,N,resolve,invoke,builtin,J,K]
 have H:Lib.strCells str=(str.data.map (fun b=>int .u8 b.toNat)).toList:=by unfold Lib.strCells;simp
 by_cases M:str.size=0
 ·have V:=aj6 M;refine⟨r,I,w,r.v,⟨by rw[Ky,V,dv];omega,i⟩,?_,rfl,a_.le_refl I,hs,cv.refl w⟩;have G:=d.le;rw[fQ];cases d <;> simp[Builtin.append_,run_underlying B,run_underlying C,sizeOf,typeInfo,hi,Builtin.lenOf,Builtin.firstCells,storeCells,G,M,Row.v]
 clear T L;dsimp only[rl,List.cons_append,List.nil_append]at hs;have y:=Lib.strCells_length str;cases d with
 |nil h=>
  have a:=run_append_nil_string (P:=P) w t u o.type e c z B C hi O str ae ae (by grind);have E:=grownCap_ge w str.size 0 e;refine⟨⟨some ⟨w.heap.size,0,none⟩,str.size,grownCap w str.size 0 e,.cells w.heap.size (Lib.strCells str++(Builtin.zeroCells z.cells (grownCap w str.size 0 e-str.size)).toList) e⟩,I,w.drew.alloc (.cells (str.data.map (fun b=>int .u8 b.toNat)++Builtin.zeroCells z.cells (grownCap w str.size 0 e-str.size)) e),_,⟨?_,?_⟩,?_,rfl,a_.le_refl I,?_,aq⟩
  ·rw[Ky,h,List.nil_append];exact .fO _ _ _ _ (by simp[*]) (by simp only[eS,Array.length_toList,size_zeroCells,A,y];omega) E
  ·grind
  ·left;rw[fQ,a];rfl
  ·have:=hs.alloc 0 (str.data.map (fun b=>int .u8 b.toNat)++Builtin.zeroCells z.cells (grownCap w str.size 0 e-str.size)) e;simpa[rl,zW,H]using this
 |fO b n cap sp hl U hn=>
  have g:w.heap[b]?=some (.cells ⟨Lib.strCells p++sp⟩ e (0,0)):=hs.cells (j:=0) rfl;dsimp only at l;by_cases f:n+str.size<=cap
  ·have m:n+str.size<=(⟨Lib.strCells p++sp⟩:Array Value).size:=by
    simp[*]
   have a:=Lib.run_append_room_string (P:=P) w t u o.type e c B C hi hk b n cap ⟨Lib.strCells p++sp⟩ g str f m;have k:(Lib.strCells p++sp).take n=Lib.strCells p:=by rw[show n=(Lib.strCells p).length by omega];exact List.take_left
   have q:(Lib.strCells p++Lib.strCells str++(Lib.strCells p++sp).drop (n+str.size)).length=cap*1:=by
    grind
   refine⟨⟨some ⟨b,0,none⟩,n+str.size,cap,.cells b (Lib.strCells p++Lib.strCells str++(Lib.strCells p++sp).drop (n+str.size)) e⟩,I,w.setRow b ⟨Lib.strCells p++Lib.strCells str++(Lib.strCells p++sp).drop (n+str.size)⟩,_,⟨?_,?_⟩,?_,rfl,a_.le_refl I,?_,aq⟩
   ·rw[Ky];exact .fO _ _ _ _ (by simp[*]) q f
   ·omega
   ·left;rw[fQ,a];simp only[k];rfl
   ·have:=hs.setRow (j:=0) (b:=b) (vs:=Lib.strCells p++sp) (t:=e) (CA:=Lib.strCells p++Lib.strCells str++(Lib.strCells p++sp).drop (n+str.size)) rfl;simpa[rl,zW]using this
  ·have holds:∀j v,(Lib.strCells p)[j]?=some v->w.cell? ((⟨b,0,none⟩:Addr).add j)=some v:=by
    intro j v R;have S:=(kw.1 R).1;rw[pa,AP (b:=b) aq g];grind
   have a:=Lib.run_append_grow_string (P:=P) w t u o.type e c z B C hi O ⟨b,0,none⟩ n cap (Lib.strCells p) (by simp[*]) holds str ae ae (growslice_fits ae (by simp[*]));have E:=grownCap_ge w (n+str.size) cap e;refine⟨⟨some ⟨w.heap.size,0,none⟩,n+str.size,grownCap w (n+str.size) cap e,.cells w.heap.size (Lib.strCells p++Lib.strCells str++(Builtin.zeroCells z.cells (grownCap w (n+str.size) cap e-(n+str.size))).toList) e⟩,I,w.drew.alloc (.cells ((Lib.strCells p).toArray++(Lib.strCells str).toArray++Builtin.zeroCells z.cells (grownCap w (n+str.size) cap e-(n+str.size))) e),_,⟨?_,?_⟩,?_,rfl,a_.le_refl I,?_,aq⟩
   ·rw[Ky];refine .fO _ _ _ _ (by simp[*]) ?_ E;simp only[eS,hl,y,Array.length_toList,size_zeroCells,A];omega
   ·grind
   ·left;rw[fQ,a];rfl
   ·have:=hs.alloc 0 ((Lib.strCells p).toArray++(Lib.strCells str).toArray++Builtin.zeroCells z.cells (grownCap w (n+str.size) cap e-(n+str.size))) e;simpa[rl,zW]using this
end
end
section
open Go
section
variable{P:Program}
structure SJ where
 a:Option Addr
 n:Nat
 cap:Nat
def FA:kP where
 X:=SJ
 args x:=[.slice x.a x.n x.cap]
 cond x:=x.a=none\/0<x.cap
 val x:=.pointer x.a
variable{o:Oper}{s x:Operand}{dst src t:TypeId}{j:TypeInfo}
theorem akI(f:o.op= .call {callee:=.builtin .unsafeSliceData,args:=#[s],argTypes:=#[t]}):dJ P o FA:=by
 refine⟨fun x w ρ g d=>?_⟩;obtain⟨a,n,cap⟩:=x;simp only[f,Op.operands,Call.operands,FA]at g;have c:ρ s= .slice a n cap:=by grind
 have b:(Builtin.unsafeSliceData_ #[t] o.type #[.slice a n cap]).run P w= .ok (.pointer a) w:=by
  cases a with
  |none=>rfl
  |some e=>
   have d:(some e:Option Addr)=none\/0<cap:=d;exact Lib.run_unsafeSliceData_row w _ _ e n cap (Or.elim d (fun h=>nomatch h) (fun h=>ae))
 simp[execOp,f,resolve,invoke,builtin,c,b,FA]
structure MK where
 r:Row
 p:ByteArray
def Cz(e:TypeId):aQ where
 X:=MK
 args x:=[ag x.r.a,ad x.r.n]
 pre x:=[x.r.A]
 cond x:=nb e x.p x.r/\x.p.size<=9223372036854775807
 val x _:=ax (ai x.p)
 post _ _:=[.d0]
theorem Xo{pt it e:TypeId}(l:o.op= .call {callee:=.builtin .unsafeString,args:=#[s,x],argTypes:=#[pt,it]})(hp:P.underlying pt=some (.pointer e))(t:P.cellsOf e=1):e5 P o (Cz e):=by
 refine⟨fun X F I w ρ G q N hs=>?_⟩;obtain⟨r,p⟩:=X;obtain⟨⟨a,k⟩,z⟩:=q;dsimp only at a k z;simp only[l,Op.operands,Call.operands,Cz]at G;have m:ρ s= .pointer r.a/\ρ x= .int .i64 r.n:=by grind
 obtain⟨g,f⟩:=m;have hn:r.n=p.size:=by have:=a.len;rw[Lib.strCells_length]at this;omega
 have v:p.data.toList.length=p.size:=aL;have drop:∀(w':World),(∀c,∀b,r.a=some ⟨b,0,none⟩->c≠b->w'.heap[c]?=w.heap[c]?)->w'.heap.size=w.heap.size->(r.a=none->w'=w)->Sat I (bD ((Cz e).post ⟨r,p⟩ ()++[F])) w':=by
  intro w' C D E;have key:Sat I (fT (bD [r.A,F]) 0 .d0) w':=by
   cases a with
   |nil h=>rw[E rfl];exact hs
   |fO b n cap sp hl y hn=>
    exact hs.write (j:=0) (b:=b) (fun o l=>l.1) (fun c q=>C c b rfl q) D (fun _ _=>ao)
  exact key
 by_cases A:p.size=0
 ·have u:p= .empty:=by
   apply ByteArray.ext;apply Array.eq_empty_of_size_eq_zero;simp[*]
  have d:=Lib.run_unsafeString_none (P:=P) w pt it o.type r.a;refine⟨(),I,w,.string p,ao,.inl ?_,rfl,a_.le_refl I,drop w (fun _ _ _ _=>rfl) rfl (fun _=>rfl),cv.refl w⟩;rw[show(r.n:Int)=0 by omega]at f;simp[execOp,l,resolve,invoke,builtin,g,f,d,u]
 ·cases a with
  |nil h=>exact absurd (by grind) A
  |fO b n cap sp hl y L=>
   have i:w.heap[b]?=some (.cells ⟨Lib.strCells p++sp⟩ e (0,0)):=hs.cells (j:=0) rfl;have d:=Lib.run_unsafeString_row (P:=P) w pt it o.type e hp t b cap (by unfold World.shape?;simp[*]) p.data.toList (by grind) (by grind) ae (by
    intro j x B;rw[pa,AP (b:=b) aq i];simp only[gT];have K:=(kw.1 B).1;rw[lD (by grind)];simp[Lib.strCells,B])
   rw[v]at d;refine⟨(),I,w.freeze ⟨b,0,none⟩ p.size,.string p,ao,.inl ?_,rfl,a_.le_refl I,drop _ ?_ ?_ (fun h=>by cases h),?_⟩
   ·dsimp only at hn f g;rw[hn]at f;simp[execOp,l,resolve,invoke,builtin,g,f,d]
   ·intro c M H J;cases H;unfold World.freeze;grind
   ·unfold World.freeze;simp[*]
   ·unfold World.freeze;rw[if_neg A];exact aq
structure K9 where
 c:Int
def Ch:kP where
 X:=K9
 args x:=[.int .i32 x.c]
 cond _:=True
 val x:=.string (Utf8.encode x.c)
theorem RH(d:o.op= .convert src dst x)(hs:(P.underlying src).isSome=true)(hd:P.underlying dst=some .string):dJ P o Ch:=by
 refine⟨fun y w ρ e f=>?_⟩;obtain⟨c⟩:=y;simp only[d,Op.operands,Ch]at e;have b:ρ x= .int .i32 c:=by grind
 have a:=run_convert_int_string (P:=P) w src dst .i32 c hs hd;simp only[execOp,d,b];show((convert src dst (.int .i32 c))>>=fun v=>(pure (Next.value v):Sem Next)).run P w=_;rw[Sem.run_bind,a];rfl
structure KV where
 b:Nat
structure nc(F:ah)(b:Nat)(t:TypeId):Prop where
 h:∀(I:a_)(m:Hp)(o:tW),F.holds I m o->∃vs:List Value,m b=some (.cells ⟨vs⟩ t (0,0))/\vs.length=2
theorem nc.sub{A B:ah}{b:Nat}(hs:Sub A B)(h:nc A b t):nc B b t:=⟨fun I m o c=>let ⟨d,a⟩:=hs I m o c;h.h I m d a⟩
theorem nc.cells{b:Nat}{t:TypeId}(u v:Value):nc (.cells b [u,v] t) b t:=⟨fun _ _ _ h=>⟨_,h.2,rfl⟩⟩
theorem nc.get{I:a_}{S:St}{w:World}{j b:Nat}(h:nc (gt S j) b t)(hs:Sat I S w):∃vs:List Value,w.heap[b]?=some (.cells ⟨vs⟩ t (0,0))/\vs.length=2:=by
 obtain⟨f,a,_⟩:=hs.k7;exact h.h _ _ _ (a j)
def yk(t:TypeId):aQ where
 X:=KV
 args x:=[ag (some ⟨x.b,0,none⟩)]
 aO x F:=nc F x.b t
 val x _:=ax (ag (some ⟨x.b,0,none⟩))
theorem abX{u:TypeId}(g:o.op= .convert src dst x)(hs:P.underlying src=some (.pointer t))(hd:P.underlying dst=some .unsafePointer)(m:P.info? t=some j)(k:j.size≠0):e5 P o (yk u):=by
 refine⟨fun y F I w ρ i f l a=>?_⟩;obtain⟨b⟩:=y;simp only[g,Op.operands,yk]at i;have d:ρ x= .pointer (some ⟨b,0,none⟩):=by grind
 obtain⟨vs,c,f⟩:=nc.get (j:=0) (show nc (gt (bD [F]) 0) b u from l) a;have h:=Lib.run_to_unsafe (P:=P) w ⟨b,0,none⟩ hs hd m k (e:=u) (cells:=2) (by simp[World.shape?,c,f]) (show(0:Nat)<2 by decide);refine⟨(),I,w,_,ao,.inl ?_,rfl,a_.le_refl I,a,cv.refl w⟩;simp only[execOp,g,d];simp[*]
theorem abW(g:o.op= .convert src dst x)(hs:P.underlying src=some .unsafePointer)(hd:P.underlying dst=some (.pointer t))(l:P.info? t=some j)(hl:liesAt P P.depth t (2/P.cellsOf t) 0 t 1=true):e5 P o (yk t):=by
 refine⟨fun y F I w ρ i f k a=>?_⟩;obtain⟨b⟩:=y;simp only[g,Op.operands,yk]at i;have d:ρ x= .pointer (some ⟨b,0,none⟩):=by grind
 obtain⟨vs,c,f⟩:=nc.get (j:=0) (show nc (gt (bD [F]) 0) b t from k) a;have h:=Lib.run_from_unsafe (P:=P) w ⟨b,0,none⟩ hs hd l (e:=t) (cells:=2) (by simp[World.shape?,c,f]) hl;refine⟨(),I,w,_,ao,.inl ?_,rfl,a_.le_refl I,a,cv.refl w⟩;simp only[execOp,g,d];simp[*]
structure FT where
 a:Option Addr
def DT(f:FuncId):kP where
 X:=FT
 args x:=[.func (.func f) #[] #[],.pointer x.a]
 cond _:=True
 val x:=.pointer x.a
theorem agn{f:FuncId}{fn:Func}{ts:Array TypeId}(e:o.op= .call {callee:=.value (.func f),args:=#[x],argTypes:=ts})
  (j:P.funcs[f]?=some fn) (c:(fn.name== "runtime.NumGoroutine")=false) (h:fn.body.isNone=true) (hn:Extern.findNext fn=none) (i:Extern.find fn=some Extern.AbiNoEscape.same):dJ P o (DT f):=by
 refine⟨fun y w ρ g k=>?_⟩;obtain⟨a⟩:=y;simp only[e,Op.operands,Call.operands,DT]at g;have d:ρ (.func f)= .func (.func f) #[] #[]/\ρ x= .pointer a:=by grind
 have b:=run_callFunc_extern (P:=P) j c h hn i #[.pointer a] w;rw[Lib.run_noEscape]at b;simp[execOp,e,resolve,Deferred.ofValue,invoke,d.1,d.2,b,DT]
end
end
section
open Go
section
variable{P:Program}
def D2:kP where
 X:=FT
 args x:=[.pointer x.a,.pointer none]
 cond _:=True
 val x:=.bool x.a.isNone
theorem ahQ{o:Oper}{t u:TypeId}{x y:Operand}(d:o.op= .binOp .eql t x y u)(h:P.underlying t=some (.pointer (P.pointee t))):dJ P o D2:=by
 refine⟨fun X w ρ e g=>?_⟩;obtain⟨a⟩:=X;simp only[d,Op.operands,D2]at e;have b:ρ x= .pointer a/\ρ y= .pointer none:=by grind
 have c:=run_eql_pointer_nil (P:=P) w t a h;have f:(eqGuard .eql t x y (.pointer a) (.pointer none)).run P w= .ok () w:=by cases a <;> rfl
 simp[execOp,d,b.1,b.2,f,c,D2]
structure vu where
 a:Addr
def D5:kP where
 X:=vu
 args x:=[.pointer (some x.a),.pointer (some x.a)]
 cond _:=True
 val _:=.bool false
theorem ail{o:Oper}{t u e:TypeId}{j:TypeInfo}{x y:Operand}(d:o.op= .binOp .neq t x y u)(h:P.underlying t=some (.pointer e))(i:P.info? e=some j):dJ P o D5:=by
 refine⟨fun X w ρ f k=>?_⟩;obtain⟨a⟩:=X;simp only[d,Op.operands,D5]at f;have b:ρ x= .pointer (some a)/\ρ y= .pointer (some a):=by grind
 have c:=Lib.run_neq_ptr_same (P:=P) w a h i;have g:(eqGuard .neq t x y (.pointer (some a)) (.pointer (some a))).run P w= .ok () w:=rfl;simp[execOp,d,b.1,b.2,g,c,D5]
end
structure CG where
 b:Nat
 p:Option Addr
 v:Value
def wP(x:CG):Option Addr:=some ⟨x.b,0,none⟩
def yf:aQ where
 X:=CG
 args x:=[ag (wP x)]
 pre x:=[af x.b [ag x.p,x.v] 95]
 cond x:=x.p=none\/x.p=some ⟨x.b,0,none⟩
 val _ _:=.returned (.tuple #[])
 post x _:=[af x.b [ag (wP x),x.v] 95]
def Mi(b:Oper)(aa:List Value)(rr:ah)(a:KV->Unit->Prop):=e5 Tryz.prog b (yk (95:TypeId))/\true=true/\∃(z:KV),aa=[ag (some ⟨z.b,0,none⟩)]/\([]:List ah)=[]/\True/\nc rr z.b 95/\∀(c:Unit),True->a z c
def JK(x:CG)(F:ah):=[(0,af x.b [ag x.p,x.v] 95),(1,F)]
def eC:=ax (tuple ⟨[]⟩)
theorem abu(x:CG)(F:ah)(i:yf.cond x)(j:yf.aO x F):aw x.b 0/\dJ Tryz.prog (ba Tryz.f91 0 4) D2/\∃(f:FT),[ag x.p,ag none]=[ag f.a,ag none]/\True/\Br f.a.isNone (Mi (ba Tryz.f91 1 2) [ag (wP x)] (aH (JK x F) []) (fun e d=>dJ Tryz.prog (ba Tryz.f91 1 3) (DT (105:FuncId))/\∃(c:FT),[func (Fn.func 105) ⟨[]⟩ ⟨[]⟩,ag (some ⟨e.b,0,none⟩)]=[func (Fn.func 105) ⟨[]⟩ ⟨[]⟩,ag c.a]/\True/\Mi (ba Tryz.f91 1 4) [ag c.a] (aH (JK x F) []) (fun b a=>aw x.b 0/\ar yf x F eC [(0,af x.b [ag (some ⟨b.b,0,none⟩),x.v] 95),(1,F)]))) (aw x.b 0/\dJ Tryz.prog (ba Tryz.f91 2 5) D5/\∃(a:vu),[ag x.p,ag (wP x)]=[ag (some a.a),ag (some a.a)]/\True/\ar yf x F eC (JK x F)):=by
 delta Mi wP JK eC aH aw ag af ax;have g:nc (.dq (rest [(0,ah.cells x.b [pointer x.p,x.v] 95),(1,F)] [])) x.b 95:=(nc.cells _ _).sub (bP 0);refine⟨aq,ahQ rfl rfl,⟨x.p⟩,rfl,ao,aG (fun h=>?_) (fun h=>?_)⟩
 ·exact br (abX rfl rfl rfl rfl (by decide)) ⟨x.b⟩ trivial g fun _ _=>⟨agn rfl rfl rfl rfl rfl bl,⟨some ⟨x.b,0,none⟩⟩,rfl,ao,abW rfl rfl rfl rfl bl,rfl,⟨x.b⟩,rfl,rfl,ao,g,fun _ _=>⟨aq,(),ao,rfl,az [0,1]⟩⟩
 ·have hp:x.p=some ⟨x.b,0,none⟩:=by
   rcases i with i|i
   all_goals grind
  exact⟨aq,ail rfl rfl rfl,⟨⟨x.b,0,none⟩⟩,by rw[hp],ao,(),ao,rfl,aE.pick [0,1] rfl (by rw[hp];rfl)⟩
theorem abt:aC 91 yf:=fo 20 Tryz.func91 (fun _ _=>[(0,4,.qo D2),(2,5,.qo D5),(1,2,.o (yk 95) [] []),(1,3,.qo (DT 105)),(1,4,.o (yk 95) [] [])]) [(0,3,aR 0),(1,7,.w [LH.z00 (0:Nat)]),(2,3,aR 0)] aY aY bA [] abu
structure qS where
 b:Nat
 p:Option Addr
 r:Row
 t:ByteArray
 s:ByteArray
def pz(x:qS):Option Addr:=some ⟨x.b,0,none⟩
def rO(x:qS):List Value:=[ag x.p,au x.r.a x.r.n x.r.cap]
def B4(x:qS)(r:Row):List Value:=[ag (pz x),au r.a r.n r.cap]
def z6:aQ where
 X:=qS
 Y:=Row
 args x:=[ag (pz x),ai x.s]
 pre x:=[af x.b (rO x) 95,x.r.A]
 cond x:=(x.p=none\/x.p=some ⟨x.b,0,none⟩)/\nb 5 x.t x.r/\x.r.n+x.s.size<=140737488355328
 bZ x r:=nb 5 (x.t++x.s) r
 val x _:=.returned (.tuple #[.int .i64 x.s.size,.nilIface])
 post x r:=[af x.b (B4 x r) 95,r.A]
def alp(x:qS)(F:ah):Nat->Option Inv:=fun
 |2=>some {X:=Unit,P:=fun _=>True,mu:=fun _=>0,lv:=fun _=>[(0,ag (pz x)),(1,ai x.s)],st:=fun _=>[af x.b [ag (pz x),au x.r.a x.r.n x.r.cap] 95,x.r.A,F]}
 |_=>none
def Au(c:Oper)(aa:List Value)(pp:List ah)(b:FG->Row->Prop):=e5 Tryz.prog c (rl (5:TypeId))/\true=true/\∃(z:FG),aa=[au z.r.a z.r.n z.r.cap,ai z.s]/\pp=[z.r.A]/\(nb 5 z.p z.r/\z.r.n+z.s.size<=140737488355328)/\True/\∀(a:Row),nb 5 (z.p++z.s) a->b z a
theorem alq(x:qS)(F:ah)(g:z6.cond x)(f:z6.aO x F):(aC 91 yf/\true=true/\∃(c:CG),[ag (pz x)]=[ag (wP c)]/\[af x.b (rO x) 95]=[af c.b [ag c.p,c.v] 95]/\(c.p=none\/c.p=some ⟨c.b,0,none⟩)/\True/\∀(b:Unit),True->∃(a:Unit),True/\(ag (pz x)=ag (pz x)/\ai x.s=ai x.s/\True)/\aE [(0,af c.b [ag (wP c),c.v] 95),(1,x.r.A),(2,F)] [(0,af x.b [ag (pz x),au x.r.a x.r.n x.r.cap] 95),(1,x.r.A),(2,F)])/\aT fun(d:Unit)_=>True->aw x.b 1/\Au (ba Tryz.f76 2 6) [au x.r.a x.r.n x.r.cap,ai x.s] [x.r.A] (fun b a=>aw x.b 1/\ar z6 x F (ax (tuple ⟨[ad ↑x.s.size,nilIface]⟩)) [(0,af x.b (B4 x a) 95),(1,a.A),(2,F)]):=by
 delta pz wP rO Au B4 aw ad ai ag au af ax aT;obtain⟨hp,e,hs⟩:=g;refine⟨bO abt ⟨x.b,x.p,.slice x.r.a x.r.n x.r.cap⟩ hp fun _ _=>⟨(),ao,aV,az [0,1,2]⟩,?_⟩;intro _ h _;exact⟨aq,aaG rfl rfl rfl rfl rfl rfl rfl rfl,rfl,⟨x.r,x.t,x.s⟩,rfl,rfl,⟨e,hs⟩,ao,fun r f=>⟨aq,r,f,rfl,az [0,1,2]⟩⟩
theorem XC:aC 76 z6:=fo 19 Tryz.func76 (fun _ _=>[(1,1,bu yf),(2,6,.o (rl 5) [1] [1])]) [(2,4,aR 0),(2,9,.w [LH.z00 (0:Nat)])] aY alp bA [] alq
def AN:aQ where
 X:=qS
 args x:=[ag (pz x)]
 pre x:=[af x.b (rO x) 95,x.r.A]
 cond x:=nb 5 x.t x.r/\x.t.size<=140737488355328
 val x _:=ax (ai x.t)
 post x _:=[af x.b (rO x) 95,.d0]
def Gn(b:Oper)(aa:List Value)(pp:List ah)(a:MK->Unit->Prop):=e5 Tryz.prog b (Cz (5:TypeId))/\true=true/\∃(z:MK),aa=[ag z.r.a,ad ↑z.r.n]/\pp=[z.r.A]/\(nb 5 z.p z.r/\z.p.size<=9223372036854775807)/\True/\∀(c:Unit),True->a z c
theorem abl(x:qS)(F:ah)(e:AN.cond x)(f:AN.aO x F):true=true/\aw x.b 1/\dJ Tryz.prog (ba Tryz.f74 1 4) FA/\∃(c:SJ),[au x.r.a x.r.n x.r.cap]=[au c.a c.n c.cap]/\(c.a=none\/0<c.cap)/\aw x.b 1/\Gn (ba Tryz.f74 1 10) [ag c.a,ad ↑x.r.n] [x.r.A] (fun b a=>ar AN x F (ax (ai b.p)) [(0,af x.b (rO x) 95),(1,bd),(2,F)]):=by
 delta Gn rO aw ad ai ag au af bd ax;obtain⟨d,hs⟩:=e;exact⟨rfl,aq,akI rfl,⟨x.r.a,x.r.n,x.r.cap⟩,rfl,d.2,aq,Xo rfl rfl bl,rfl,⟨x.r,x.t⟩,rfl,rfl,⟨d,by grind⟩,ao,fun _ _=>⟨(),ao,rfl,az [0,1,2]⟩⟩
theorem abk:aC 74 AN:=fo 14 Tryz.func74 (fun _ _=>[(1,4,.qo FA),(1,10,.o (Cz 5) [1] [1])]) [(1,3,aR 0),(1,8,aR 0)] aY aY bA [] abl
end
section
open Go
def Sc(c:Nat):Prop:=c<55296\/(57343<c/\c<=1114111)
variable{c:Nat}
theorem VI{s:ByteArray}{i n:Nat}(h:cS s i=some (c,n)):Sc c:=by
 unfold cS at h;by_cases hi:i<s.size
 ·rw[bv hi,aU]at h;have b:=Lib.decodeN_valid (s.size-i) (bt s i) (bt s (i+1)) (bt s (i+2)) (bt s (i+3)) (g0 s i);revert h b;generalize Lib.decodeN (s.size-i) (bt s i) (bt s (i+1)) (bt s (i+2)) (bt s (i+3))=d;obtain⟨a,e⟩:=d;intro h b;have h':(bif a==65533&&e==1 then none else some (a,e))=some (c,n):=h;cases f:(a==65533&&e==1)with
  |true=>rw[f]at h';cases h'
  |false=>rw[f]at h';cases h';exact b
 grind
def fK(c:Nat):List Nat:=
 if c<128 then [c] else if c<2048 then [192+c/64,128+c%64] else if c<65536 then [224+c/4096,128+c/64%64,128+c%64] else [240+c/262144,128+c/4096%64,128+c/64%64,128+c%64]
theorem Na(h:Sc c):Utf8.encode (c:Int)=cL (fK c):=by
 have a:Utf8.valid (c:Int)=true:=by
  unfold Utf8.valid;unfold Sc at h;simp;omega
 unfold Utf8.encode fK cL;rw[a];simp only[cw,if_true]
 repeat' split
 all_goals first|rfl| (exfalso;omega)
theorem rx(l:List Nat):(cL l).size=l.length:=by
 unfold cL ByteArray.size;simp
theorem Du{l:List Nat}(h:∀b∈l,b<256)(k:Nat):bt (cL l) k=l.getD k 0:=by
 unfold bt cL;simp only[List.getElem?_toArray,fP,fg];cases hk:l[k]? with
 |none=>rfl
 |some b=>
  have:=h b (ou hk);simp[*]
theorem TW(h:Sc c):∀b∈fK c,b<256:=by
 unfold Sc at h;unfold fK;intro b a;split at a
 ·grind
 ·split at a
  ·grind
  ·split at a
   ·simp at a;omega
   ·simp at a;omega
theorem agr(h:Sc c):cS (cL (fK c)) 0=some (c,(fK c).length):=by
 have b:=TW h;unfold cS;rw[rx,Du b,Du b,Du b,Du b,Nat.sub_zero];unfold Sc at h;have key:Lib.decodeN (fK c).length ((fK c).getD 0 0) ((fK c).getD (0+1) 0) ((fK c).getD (0+2) 0) ((fK c).getD (0+3) 0)=(c,(fK c).length):=by
  unfold fK;by_cases a:c<128
  ·rw[if_pos a];show Lib.decodeN 1 c 0 0 0=(c,1);unfold Lib.decodeN;simp[*]
  rw[if_neg a];by_cases d:c<2048
  ·rw[if_pos d];show Lib.decodeN 2 (192+c/64) (128+c%64) 0 0=(c,2);unfold Lib.decodeN;grind
  rw[if_neg d];by_cases f:c<65536
  ·rw[if_pos f];show Lib.decodeN 3 (224+c/4096) (128+c/64%64) (128+c%64) 0=(c,3);have e:(224+c/4096)%16*4096+(128+c/64%64)%64*64+(128+c%64)%64=c:=ae;unfold Lib.decodeN;rw[if_neg ae,if_neg ae,if_pos ae,e,if_pos ae]
  rw[if_neg f];show Lib.decodeN 4 (240+c/262144) (128+c/4096%64) (128+c/64%64) (128+c%64)=(c,4);have e:(240+c/262144)%8*262144+(128+c/4096%64)%64*4096+(128+c/64%64)%64*64+(128+c%64)%64=c:=ae;unfold Lib.decodeN;rw[if_neg ae,if_neg ae,if_neg ae,if_pos ae,e,if_pos ae]
 have hl:1<=(fK c).length:=by
  unfold fK;grind
 rw[key,bv (show 0<(fK c).length by omega),aU];have hn:(c==65533&&(fK c).length==1)=false:=by
  by_cases a:c=65533
  ·subst a;rfl
  simp[*]
 simp[*]
theorem ak5(h:Sc c):bx (cL (fK c))=cL (ii c):=by
 unfold bx;have hn:=agr h;obtain⟨_,f2,_⟩:=jO hn;rw[rx];obtain⟨f,a⟩:∃f,(fK c).length=f+1:=⟨(fK c).length-1,ae⟩;have e1:lV (cL (fK c)) ((fK c).length+1) 0 []=ii c:=by
  rw[lV,bv (show 0<(cL (fK c)).size by omega),aU,hn];show lV (cL (fK c)) (fK c).length (0+(fK c).length) ([]++ii c)=ii c;rw[gT,List.nil_append];generalize hk:(fK c).length=k;rw[a]at hk;subst hk;rw[lV,bF (show ¬f+1<(cL (fK c)).size by rw[rx];omega)];rfl
 rw[e1]
theorem Xu(h:Sc c):bx (Utf8.encode (c:Int))=cL (ii c):=by rw[Na h,ak5 h]
theorem aco:(fK c).length<=4:=by
 unfold fK
 repeat' split
 all_goals simp
theorem Nb(h:Sc c):(Utf8.encode (c:Int)).size<=4:=by rw[Na h,rx];exact aco
theorem acp(h:Sc c)(d:128<=c):2<=(Utf8.encode (c:Int)).size/\∀k,k<(Utf8.encode (c:Int)).size->128<=bt (Utf8.encode (c:Int)) k:=by
 rw[Na h,rx];refine⟨?_,fun k hk=>?_⟩
 ·unfold fK;grind
 ·rw[Du (TW h)];have a:(fK c).getD k 0∈fK c:=by
   simp[*]
  revert a;generalize (fK c).getD k 0=b;unfold fK;rw[if_neg ae];intro a;split at a
  ·grind
  ·split at a
   ·simp at a;omega
   ·simp at a;omega
theorem Tv(a b:List Nat):cL a++cL b=cL (a++b):=by
 apply ByteArray.ext;rw[ByteArray.data_append];unfold cL;simp
end
section
open Go
set_option maxRecDepth 20000
structure CM where
 s:ByteArray
 c:Nat
def rC:aQ where
 X:=CM
 args x:=[ai x.s,a8 x.c]
 cond x:=x.c<256
 val x _:=ax (ad (Lib.indexByte x.s.data.toList (UInt8.ofNat x.c)))
theorem aeq:aC 79 rC:=qU rC (fun _=>rfl) (fun _ _=>()) (fun _ _=>ao) (fun _ _=>rfl) fun x F I w a b hs=>
 (Go.Proofs.Tryz.stringslite_IndexByte x.s x.c w).mono fun e w' h=>⟨h.1,RowKit.Below.of_eq h.2⟩
def xW(a:FuncId)(aa:List Value)(b:CM->Unit->Prop):=aC a rC/\true=true/\∃(z:CM),aa=[ai z.s,a8 ↑z.c]/\([]:List ah)=[]/\z.c<256/\True/\∀(c:Unit),True->b z c
def JD(b:CM):=ax (ad (Lib.indexByte b.s.data.toList (UInt8.ofNat b.c)))
theorem aep(x:CM)(F:ah)(c:rC.cond x)(d:rC.aO x F):xW 79 [ai x.s,a8 ↑x.c] (fun b a=>ar rC x F (JD b) [(0,F)]):=by
 delta xW JD ad a8 ai ax;exact bO aeq x c fun _ _=>im
theorem NC:aC 100 rC:=fo 8 Tryz.func100 (fun _ _=>[(1,2,aW rC)]) [] aY aY bA [] aep
structure Ai where
 b:Nat
 s:ByteArray
 p:Nat
section
variable{P:Program}
def DW:aQ where
 X:=Ai
 Y:=Unit ⊕ Unit
 args x:=[ag (some ⟨x.b,0,none⟩)]
 pre x:=[.gW x.b (.stringIter x.s x.p)]
 bZ x y:=match y with
  | .inl _=>x.p<x.s.size
  | .inr _=>¬x.p<x.s.size
 val x y:=match y with
  | .inl _=>.returned (.tuple #[.bool true,.int .i64 x.p,.int .i32 (Utf8.decode x.s x.p).1])
  | .inr _=>.returned (.tuple #[.bool false])
 post x y:=match y with
  | .inl _=>[.gW x.b (.stringIter x.s (x.p+(Utf8.decode x.s x.p).2))]
  | .inr _=>[.gW x.b (.stringIter x.s x.p)]
 sum:=some (hU Unit Unit)
theorem VQ{o:Oper}{x:Operand}(d:o.op= .next x true):e5 P o DW:=by
 refine⟨fun X F I w ρ i g l hs=>?_⟩;obtain⟨b,s,p⟩:=X;simp only[d,Op.operands,DW]at i;have e:ρ x= .pointer (some ⟨b,0,none⟩):=by grind
 have hk:w.heap[b]?=some (.stringIter s p):=by
  obtain⟨f,h,_⟩:=hs.k7;exact(h 0).2
 by_cases hp:p<s.size
 ·have a:=Lib.run_next_any_at (P:=P) w b s p o.type hk hp;refine⟨.inl (),I,w.iterAt b s (p+(Utf8.decode s p).2),_,hp,.inl ?_,rfl,a_.le_refl I,?_,aq⟩
  ·simp[execOp,d,e,a]
  ·have k:b<w.heap.size:=(Array.getElem?_eq_some_iff.1 hk).1;exact hs.write (j:=0) (b:=b) (A':=.gW b (.stringIter s (p+(Utf8.decode s p).2))) (fun o d=>d.1) (fun c g=>by simp[World.iterAt,Array.getElem?_setIfInBounds,Ne.symm g]) (by simp[World.iterAt]) (fun o d=>⟨d.1,by show(w.heap.setIfInBounds b (.stringIter s (p+(Utf8.decode s p).2)))[b]?=_;simp[*]⟩)
 ·have a:=Lib.run_next_end_at (P:=P) w b s p o.type hk hp;refine⟨.inr (),I,w,_,hp,.inl ?_,rfl,a_.le_refl I,hs,cv.refl w⟩;simp[execOp,d,e,a]
end
structure xY where
 c:Nat
def KJ:aQ where
 X:=xY
 args x:=[ec x.c]
 cond x:=Sc x.c
 val _ _:=ax (aj true)
theorem akZ:aC 104 KJ:=qU KJ (fun _=>rfl) (fun _ _=>()) (fun _ _=>ao) (fun _ _=>rfl) fun x F I w a c hs=>by
 have a:Sc x.c:=a;have e:Lib.validRune (x.c:Int)=true:=by
  unfold Sc at a;unfold Lib.validRune;simp;omega
 exact(Go.Proofs.Tryz.utf8_ValidRune x.c w).mono fun b w' h=>⟨by rw[h.1,e];rfl,RowKit.Below.of_eq h.2⟩
def eR:ByteArray:=⟨#[98,116,110,118,102,114]⟩
def hY(c:Nat):Int:=if c<128 then Lib.indexByte eR.data.toList (UInt8.ofNat c) else-1
def sQ:aQ where
 X:=xY
 args x:=[ai eR,ec x.c]
 cond x:=Sc x.c
 val x _:=ax (ad (hY x.c))
theorem ab5(p:Nat)(h:p<6):(Utf8.decode eR p).1<128/\(Utf8.decode eR p).2=1:=by
 have:∀p:Fin 6,(Utf8.decode eR p.val).1<128/\(Utf8.decode eR p.val).2=1:=by decide+kernel
 exact this ⟨p,h⟩
theorem abn(k:Nat):bt eR k<128:=by
 rcases Nat.lt_or_ge k 6 with h|h
 ·have:∀k:Fin 6,bt eR k.val<128:=by decide+kernel
  exact this ⟨k,h⟩
 ·rw[ud (show eR.size<=k from h)];decide
theorem UR:∀(l:List UInt8)(b:UInt8),(∀a∈l,a≠b)->Lib.indexByte l b= -1
 | [],_,_=>rfl
 |a::l,b,h=>by
  rw[Lib.indexByte,UR l b fun a c=>h a (pn _ c)];have:(a==b)=false:=dU.2 (h a (kW ..));rw[this];rfl
theorem acw:∀a∈eR.data.toList,a.toNat<128:=by decide+kernel
structure CR where
 b:Nat
 p:Nat
def B7(d:CR):Option Addr:=some ⟨d.b,0,none⟩
def aeI(x:xY)(F:ah):Nat->Option Inv:=fun
 |1=>some {X:=Unit,P:=fun _=>True,mu:=fun _=>0,lv:=fun _=>[(0,ai eR),(1,ec x.c),(7,ai (Utf8.encode x.c)),(8,ad ((Utf8.encode x.c).size-1)),(9,ad ((Utf8.encode x.c).size-1))],st:=fun _=>[F]}
 |9=>some {X:=CR,P:=fun d=>x.c=65533,mu:=fun d=>6-d.p,lv:=fun d=>[(0,ai eR),(1,ec x.c),(175,ag (B7 d))],st:=fun d=>[F,.gW d.b (.stringIter eR d.p)]}
 |_=>none
def Gp(c:Oper)(aa:List Value)(pp:List ah)(a:Ai->Unit->Prop)(b:Ai->Unit->Prop):=e5 Tryz.prog c DW/\true=true/\∃(z:Ai),aa=[ag (some ⟨z.b,0,none⟩)]/\pp=[lE z.b (Obj.stringIter z.s z.p)]/\True/\True/\(∀(d:Unit),z.p.succ.le z.s.size->a z d)/\∀(e:Unit),(z.p<z.s.size->False)->b z e
def wo(F:ah)(c:Ai):=[(0,F),(1,lE c.b (Obj.stringIter c.s (c.p+(Utf8.decode c.s c.p).snd)))]
def Av(b:Oper)(aa:List Value)(a:K9->Prop):=dJ Tryz.prog b Ch/\∃(z:K9),aa=[ec z.c]/\True/\a z
def Pq(x:xY):=0<=(↑(Utf8.encode (x.c:Int)).size:Int)-1/\(↑(Utf8.encode (x.c:Int)).size:Int)-1<(↑(Utf8.encode (x.c:Int)).size:Int)
theorem aeK(x:xY)(F:ah)(j:sQ.cond x)(v:sQ.aO x F):aS ((x.c:Int)<128) (xW 100 [ai eR,a8 (u8.wrap (x.c:Int))] (fun b a=>ar sQ x F (JD b) [(0,F)])) (Br ((x.c:Int)==65533) (∀(f:Nat),(∃(a:CR),x.c=65533/\(ai eR=ai eR/\ec ↑x.c=ec ↑x.c/\ag (bI f)=ag (B7 a)/\True)/\aE [(0,F),(37010,lE f (Obj.stringIter eR 0))] [(0,F),(1,lE a.b (Obj.stringIter eR a.p))])/\aT fun(e:CR)_=>x.c=65533->Gp ⟨some 176,Op.next (Operand.tmp 175) true,0,"strings.go:116",⟨[]⟩,none⟩ [ag (B7 e)] [lE e.b (Obj.stringIter eR e.p)] (fun c b=>Br ((↑(Utf8.decode c.s c.p).fst:Int)==65533) (ar sQ x F (ax (ad ↑c.p)) (wo F c)) (∃(a:CR),x.c=65533/\(ai eR=ai eR/\ec ↑x.c=ec ↑x.c/\ag (B7 e)=ag (B7 a)/\True)/\aE (wo F c) [(0,F),(1,lE a.b (Obj.stringIter eR a.p))]/\6-a.p<6-e.p)) (fun c a=>ar sQ x F rT [(0,F),(1,lE c.b (Obj.stringIter c.s c.p))])) (aC 104 KJ/\true=true/\∃(g:xY),[ec ↑x.c]=[ec ↑g.c]/\([]:List ah)=[]/\Sc g.c/\True/\∀(f:Unit),True->Av (ba Tryz.f89 1 1) [ec ↑x.c] (fun e=>((-9223372036854775808:Int)<=(↑(Utf8.encode e.c).size:Int)-1/\(↑(Utf8.encode e.c).size:Int)-1<=(9223372036854775807:Int))/\(∃(a:Unit),True/\(ai eR=ai eR/\ec ↑x.c=ec ↑x.c/\ai (Utf8.encode e.c)=ai (Utf8.encode (x.c:Int))/\ad ((↑(Utf8.encode e.c).size:Int)-1)=ad ((↑(Utf8.encode (x.c:Int)).size:Int)-1)/\ad ((↑(Utf8.encode e.c).size:Int)-1)=ad ((↑(Utf8.encode (x.c:Int)).size:Int)-1)/\True)/\aE [(0,F)] [(0,F)])/\aT fun(d:Unit)_=>True->aS ((↑(Utf8.encode (x.c:Int)).size:Int)-1<(eR.size:Int)) (true=true/\(0<=(↑(Utf8.encode (x.c:Int)).size:Int)-1/\(↑(Utf8.encode (x.c:Int)).size:Int)-1<(eR.size:Int))/\Pq x/\Br (aF eR ((↑(Utf8.encode (x.c:Int)).size:Int)-1)!=aF (Utf8.encode (x.c:Int)) ((↑(Utf8.encode (x.c:Int)).size:Int)-1)) (true=true/\((-9223372036854775808:Int)<=(↑(Utf8.encode (x.c:Int)).size:Int)-1+(1:Int)/\(↑(Utf8.encode (x.c:Int)).size:Int)-1+(1:Int)<=(9223372036854775807:Int))/\(0<=(↑(Utf8.encode (x.c:Int)).size:Int)-1+(1:Int)/\(↑(Utf8.encode (x.c:Int)).size:Int)-1+1<=(eR.size:Int)/\(eR.size:Int)<=(eR.size:Int))/\Pq x/\xW 100 [ai (eR.extract ((↑(Utf8.encode (x.c:Int)).size:Int)-1+(1:Int)).toNat (eR.size:Int).toNat),a8 (aF (Utf8.encode (x.c:Int)) ((↑(Utf8.encode (x.c:Int)).size:Int)-1))] (fun b a=>aS (Lib.indexByte b.s.data.toList (UInt8.ofNat b.c)<0) (ar sQ x F rT [(0,F)]) (((-9223372036854775808:Int)<=Lib.indexByte b.s.data.toList (UInt8.ofNat b.c)+1/\Lib.indexByte b.s.data.toList (UInt8.ofNat b.c)+1<=(9223372036854775807:Int))/\bM ((↑(Utf8.encode (x.c:Int)).size:Int)-1+(Lib.indexByte b.s.data.toList (UInt8.ofNat b.c)+1))/\False))) False) (ar sQ x F rT [(0,F)])))):=by
 delta xW JD bI B7 Gp wo rT Av Pq bM ad a8 ec ai ag lE aS ax aT;have j:Sc x.c:=j;have hi:¬x.c<128->hY x.c= -1:=fun h=>by unfold hY;omega
 refine bo (fun h=>?_) (fun h=>aG (fun l=>?_) (fun l=>?_))
 ·have h:x.c<128:=by omega
  rw[FC,Nat.mod_eq_of_lt ae];exact bO NC ⟨eR,x.c⟩ (by grind) fun _ _=>⟨(),ao,wZ (by unfold hY;simp[*]),az [0]⟩
 ·have l:x.c=65533:=by grind
  intro b;refine⟨⟨⟨b,0⟩,l,aV,az [0,37010]⟩,?_⟩;rintro⟨b,p⟩ q _;refine kV (VQ rfl) ⟨b,eR,p⟩ ⟨fun _ hp=>?_,fun _ _=>⟨(),ao,wZ (hi ae).symm,az [0]⟩⟩;have hp:p<6:=hp;obtain⟨s,o⟩:=ab5 p hp;refine aG (fun e=>?_) (fun _=>⟨⟨b,p+1⟩,l,aV,aE.pick [0,1] rfl (by dsimp only;rw[o];rfl),by grind⟩);grind
 ·have h:128<=x.c:=by omega
  obtain⟨r,z2⟩:=acp j h;have z3:=Nb j;refine bO akZ ⟨x.c⟩ j fun _ _=>⟨RH rfl rfl rfl,⟨x.c⟩,rfl,ao,⟨ae,bg⟩,⟨(),ao,aV,az [0]⟩,fun _ q _=>?_⟩;generalize Utf8.encode (x.c:Int)=i at r z2 z3⊢;refine aG (fun m=>?_) (fun m=>⟨(),ao,wZ (hi ae).symm,az [0]⟩);have m:=j7 m;have hk:((i.size:Int)-1).toNat=i.size-1:=ae;have u:=z2 (i.size-1) ae;have n:=g0 i (i.size-1);have t:=abn (i.size-1);refine⟨rfl,⟨ae,m⟩,aK,aG (fun _=>?_) (fun e=>?_)⟩
  ·refine⟨rfl,aK,⟨ae,ae,ae⟩,aK,NC,rfl,⟨eR.extract ((i.size:Int)-1+1).toNat (eR.size:Int).toNat,bt i (i.size-1)⟩,by rw[f_,hk],rfl,n,ao,fun _ _=>?_⟩;have e:Lib.indexByte (eR.extract ((i.size:Int)-1+1).toNat (eR.size:Int).toNat).data.toList (UInt8.ofNat (bt i (i.size-1)))= -1:=by
    apply UR;intro a k;rw[cw,DC]at k;have k:=acw a (List.mem_of_mem_drop k);intro e;rw[e]at k;simp at k;omega
   dsimp only;rw[e];exact⟨(),ao,wZ (hi ae).symm,az [0]⟩
  ·rw[f_,f_,hk]at e;simp at e;omega
theorem aeJ:aC 89 sQ:=fo 187 Tryz.func89 (fun _ _=>[(35,2,aX),(35,3,aW rC),(43,1,aW KJ),(1,1,.qo Ch),(7,7,aW rC),(37,1,.n 37010),(38,0,.o DW [1] [1])]) [] aeI aY bA [] aeK
end
section
open Go
def Nc:ByteArray:=⟨#[8,9,10,11,12,13]⟩
def T_(c:Nat):Bool:=match ug.find? fun p=>p.1==c with
 |none=>decide (hY c= -1)
 |some p=>decide (0<=hY c)&&(decide (hY c<6)&&decide ((bx (Nc.extract (hY c).toNat ((hY c).toNat+1))).data.toList=(cL [0,p.2]).data.toList))
theorem acx:∀c:Fin 128,T_ c.val=true:=by decide+kernel
theorem acv(c:Nat):(hY c= -1/\ug.find? (fun p=>p.1==c)=none)\/(0<=hY c/\hY c<6/\∃p,ug.find? (fun p=>p.1==c)=some p/\bx (Nc.extract (hY c).toNat ((hY c).toNat+1))=cL [0,p.2]):=by
 rcases Nat.lt_or_ge c 128 with h|h
 ·have:=acx ⟨c,h⟩;unfold T_ at this;dsimp only at this;cases a:ug.find? (fun p=>p.1==c)with
  |none=>rw[a]at this;exact .inl ⟨j7 this,rfl⟩
  |some p=>
   rw[a]at this;simp only[gx,decide_eq_true_eq]at this;exact .inr ⟨this.1,this.2.1,p,rfl,by apply ByteArray.ext;apply Array.ext';simp[*]⟩
 ·refine .inl ⟨by unfold hY;rw[if_neg ae],?_⟩;unfold ug;simp;omega
structure iO where
 l:cC
def uE(x:iO):List Value:=[ai x.l.src,ad x.l.i,aj x.l.aD,au x.l.oa x.l.on x.l.oc]
def ke(x:iO):Option Addr:=some ⟨x.l.b,0,none⟩
def kT:aQ where
 X:=iO
 Y:=ByteArray
 args x:=[ag (ke x)]
 pre x:=[af x.l.b (uE x) 68]
 cond x:=0<=x.l.i/\x.l.i<=x.l.src.size/\x.l.src.size<=1048576
 aO _ F:=Gl F
 bZ x y:=∀u,(eo x.l.src x.l.i.toNat).2=some u->y=cL u
 val x y:=.returned (.tuple #[.string y,.bool (eo x.l.src x.l.i.toNat).2.isSome])
 post x _:=[af x.l.b [ai x.l.src,ad ((eo x.l.src x.l.i.toNat).1:Nat),aj x.l.aD,au x.l.oa x.l.on x.l.oc] 68]
def AU(c j:Nat):Nat×Option (List Nat):=bif hL c then (j,some []) else (j,some (ii c))
def yp(s:ByteArray)(c j:Nat):Nat×Option (List Nat):=bif c==13&&bt s j==10 then (j+1,some []) else AU c j
structure xC where
 c:Nat
 j:Nat
def TY(x:iO)(F:ah)(g:ByteArray->Nat->Nat->Nat×Option (List Nat)):Inv:={X:=xC,P:=fun d=>Sc d.c/\d.j<=x.l.src.size/\eo x.l.src x.l.i.toNat=g x.l.src d.c d.j,mu:=fun _=>0,lv:=fun d=>[(0,.pointer (some ⟨x.l.b,0,none⟩)),(4,.int .i64 d.c)],st:=fun d=>[.cells x.l.b [.string x.l.src,.int .i64 d.j,.bool x.l.aD,.slice x.l.oa x.l.on x.l.oc] 68,F]}
def acs(x:iO)(F:ah):Nat->Option Inv:=fun
 |12=>some (TY x F yp)
 |13=>some (TY x F fun _=>AU)
 |_=>none
theorem Sj{c:Nat}(h:c<=1114111):i32.wrap (c:Int)=(c:Int):=dz (by simp only[sO];omega)
def IX(x:iO)(j:Nat×Nat):List Value:=[ai x.l.src,ad (x.l.i+j.snd),aj x.l.aD,au x.l.oa x.l.on x.l.oc]
def wV(x:iO)(j:Nat×Nat)(F:ah):=[(0,af x.l.b (IX x j) 68),(1,F)]
def Rr(b:e8):=ax (tuple ⟨[ai (bx b.s),aj true]⟩)
def Mj(aa:List Value)(pp:List ah)(a:n0->Unit->Prop):=aC 90 sE/\true=true/\∃(z:n0),aa=[ag (tk z),ad ↑z.n]/\pp=[af z.l.b (EH z) 68]/\(0<=z.l.i/\z.l.i<=z.l.src.size/\z.l.src.size<=1048576/\z.n<=4)/\True/\∀(b:Unit),True->a z b
def OI(x:iO)(F:ah):n0->Unit->Prop:=fun b a=>ar kT x F (ax (tuple ⟨[ai (v7 b.l.src b.n b.l.i.toNat),aj (et b.l.src b.n b.l.i.toNat 0).snd.isSome]⟩)) [(0,af b.l.b [ai b.l.src,ad (↑(et b.l.src b.n b.l.i.toNat 0).fst:Int),aj b.l.aD,au b.l.oa b.l.on b.l.oc] 68),(1,F)]
def Ri(z:xC)(e0:iO):=Sc z.c/\z.j<=e0.l.src.size/\eo e0.l.src e0.l.i.toNat=yp e0.l.src z.c z.j
def qr(e0:iO)(z:xC)(e1:ah):=[(0,af e0.l.b [ai e0.l.src,ad ↑z.j,aj e0.l.aD,au e0.l.oa e0.l.on e0.l.oc] 68),(1,e1)]
def Mk(e0:iO)(e1:ah)(v0:Value)(a:St):=∃(z:xC),Ri z e0/\(ag (ke e0)=ag (ke e0)/\v0=ad ↑z.c/\True)/\aE a (qr e0 z e1)
def BH:=ax (tuple ⟨[ai ⟨#[]⟩,aj true]⟩)
def Ml(e0:iO)(e1:ah)(v0:Value)(a:St):=∃(z:xC),(Sc z.c/\z.j<=e0.l.src.size/\eo e0.l.src e0.l.i.toNat=AU z.c z.j)/\(ag (ke e0)=ag (ke e0)/\v0=ad ↑z.c/\True)/\aE a (qr e0 z e1)
theorem acu(x:iO)(F:ah)(Q:kT.cond x)(D:kT.aO x F):true=true/\aw x.l.b 0/\aw x.l.b 1/\T5 [ai x.l.src,ad x.l.i] (aH [(0,af x.l.b (uE x) 68),(1,F)] []) (fun k j=>aw x.l.b 1/\bM (x.l.i+j.snd)/\aw x.l.b 1/\aC 89 sQ/\true=true/\∃(i:xY),[ai ⟨#[98,116,110,118,102,114]⟩,ec (DF (j.fst:Int))]=[ai eR,ec ↑i.c]/\([]:List ah)=[]/\Sc i.c/\True/\∀(h:Unit),True->aS (hY i.c>=0) (((-9223372036854775808:Int)<=hY i.c+1/\hY i.c+1<=(9223372036854775807:Int))/\(0<=hY i.c/\hY i.c<=hY i.c+1/\hY i.c+1<=(↑(ByteArray.mk #[8,9,10,11,12,13]).size:Int))/\sr 73 [ai ((ByteArray.mk #[8,9,10,11,12,13]).extract (hY i.c).toNat (hY i.c+1).toNat)] (aH (wV x j F) []) (fun b a=>ar kT x F (Rr b) (wV x j F))) (Br ((j.fst:Int)==120) (Mj [ag (ke x),ad 2] [af x.l.b (IX x j) 68] (OI x F)) (Br ((j.fst:Int)==117) (Mj [ag (ke x),ad 4] [af x.l.b (IX x j) 68] (OI x F)) (Br ((j.fst:Int)==48) (n9 [ag (ke x)] (aH (wV x j F) []) (fun d c=>T0 (rQ d) (fun b a=>ar kT x F (ax (tuple ⟨[ai ⟨#[0,0]⟩,aj !bL b.c]⟩)) (wV x j F)))) (aS ((j.fst:Int)>=49) (aS ((j.fst:Int)<=57) (ar kT x F qk (wV x j F)) (Mk x F (ad ↑j.fst) (wV x j F))) (Mk x F (ad ↑j.fst) (wV x j F))/\aT fun(g:xC)_=>Ri g x->Br ((g.c:Int)==13) (n9 [ag (ke x)] (aH (qr x g F) []) (fun c b=>Br ((↑(bt c.src c.i.toNat):Int)==10) (aw x.l.b 1/\((-9223372036854775808:Int)<=(g.j:Int)+1/\(g.j:Int)+1<=(9223372036854775807:Int))/\aw x.l.b 1/\ar kT x F BH [(0,af x.l.b [ai x.l.src,ad ((g.j:Int)+1),aj x.l.aD,au x.l.oa x.l.on x.l.oc] 68),(1,F)]) (Ml x F (ad ↑g.c) (qr x g F)))) (Ml x F (ad ↑g.c) (qr x g F))/\aT fun(e:xC)_=>(Sc e.c/\e.j<=x.l.src.size/\eo x.l.src x.l.i.toNat=AU e.c e.j)->Br ((e.c:Int)==10) (ar kT x F BH (qr x e F)) (Br ((e.c:Int)==13) (ar kT x F BH (qr x e F)) (Br ((e.c:Int)==8232) (ar kT x F BH (qr x e F)) (Br ((e.c:Int)==8233) (ar kT x F BH (qr x e F)) (Av (ba Tryz.f75 20 2) [ec (DF (e.c:Int))] (fun c=>sr 73 [ai (Utf8.encode c.c)] (aH (qr x e F) []) (fun b a=>ar kT x F (Rr b) (qr x e F)))))))))))) (fun k a=>ar kT x F qk [(0,af x.l.b (uE x) 68),(1,F)]):=by
 delta T5 uE sr IX wV Rr tk EH Mj ke OI gi n9 T0 rQ qk Ri qr Mk BH Ml Av aH aw bM ad a8 ec ai aj ag au af DF aS ax aT;obtain⟨⟨b,src,i0,aD,oa,on,oc⟩⟩:=x;obtain⟨H,J,hs⟩:=Q;replace D:Gl F:=D;dsimp only at H J hs;obtain⟨i,rfl⟩:∃i:Nat,i0=(i:Int):=⟨i0.toNat,(Int.toNat_of_nonneg H).symm⟩;dsimp only;have fin:∀(j:Nat)(r:Option (List Nat))(y:ByteArray)(v:Bool),eo src i=(j,r)->v=r.isSome->(∀u,r=some u->y=cL u)->ar kT ⟨⟨b,src,(i:Int),aD,oa,on,oc⟩⟩ F (returned (tuple #[string y,bool v])) [(0,ah.cells b [string src,int i64 (j:Int),bool aD,slice oa on oc] 68),(1,F)]:=fun j r y v e V S=>
  ⟨y,by show ∀u,(eo src (i:Int).toNat).2=some u->_;rw[cw,e];exact S,by show returned _=returned (.tuple #[.string y,.bool (eo src (i:Int).toNat).2.isSome]);simp[*],aE.pick [0,1] rfl (by simp only[kT,cw,e];rfl)⟩
 rw[cw];refine⟨rfl,aq,aq,Bl,rfl,⟨src,i⟩,rfl,rfl,H,f1.rest (j:=1) aL D.oS,?_,?_⟩;rotate_left
 ·intro _ hn;replace hn:cS src (i:Int).toNat=none:=hn;rw[cw]at hn;exact fin i none _ _ (by unfold eo;rw[hn]) rfl (fun _ h=>nomatch h)
 rintro⟨c,n⟩ hn;replace hn:cS src (i:Int).toNat=some (c,n):=hn;rw[cw]at hn;obtain⟨E,f2,f3⟩:=jO hn;have s:=VI hn;dsimp only;have G:(i:Int)+(n:Int)=((i+n:Nat):Int):=ae;rw[G,Sj f3];have f:eo src i=match ug.find? (fun p=>p.1==c)with
  |some p=>(i+n,some [0,p.2])
  |none=>
   bif c==120 then ((et src 2 (i+n) 0).1,(et src 2 (i+n) 0).2.map fun u=>[u/256%256,u%256])
   else bif c==117 then ((et src 4 (i+n) 0).1,(et src 4 (i+n) 0).2.map fun u=>[u/256%256,u%256])
   else bif c==48 then (i+n,bif bL (bt src (i+n)) then none else some [0,0])
   else bif mJ c 49 57 then (i+n,none)
   else yp src c (i+n):=by unfold eo;rw[hn];rfl
 generalize i+n=j at E f⊢;have o:∀m:Nat,eo src i=((et src m j 0).1,(et src m j 0).2.map fun u=>[u/256%256,u%256])->ar kT ⟨⟨b,src,(i:Int),aD,oa,on,oc⟩⟩ F (returned (tuple #[string (v7 src m (j:Int).toNat),bool (et src m (j:Int).toNat 0).2.isSome])) [(0,ah.cells b [string src,int i64 ((et src m (j:Int).toNat 0).1:Nat),bool aD,slice oa on oc] 68),(1,F)]:=fun m e=>by
  rw[cw];refine fin _ _ _ _ e (by cases (et src m j 0).2 <;> rfl) fun u q=>?_;unfold v7;grind
 refine⟨aq,aK,aq,aeJ,rfl,⟨c⟩,rfl,rfl,s,ao,fun _ _=>?_⟩;dsimp only;rcases acv c with⟨e1,A⟩| ⟨e1,L,p,A,K⟩;rotate_left
 ·rw[A]at f;refine aG (fun _=>⟨aK,⟨e1,ae,show hY c+1<=(6:Int) by omega⟩,KK,rfl,⟨Nc.extract (hY c).toNat (hY c+1).toNat⟩,rfl,rfl,?_,f1.rest (j:=1) aL D.oS,fun _ _=>fin j _ _ _ f rfl fun u q=>?_⟩) (fun h=>absurd (Ns h) ae)
  ·dsimp only;rw[gS];omega
  grind
 rw[A]at f;refine aG (fun h=>absurd (j7 h) ae) (fun _=>aG (fun h=>?_) (fun g1=>aG (fun h=>?_) (fun O=>aG (fun h=>?_) (fun g3=>⟨?_,?_⟩))))
 ·replace h:=fL 120 h;exact bO TN ⟨⟨b,src,j,aD,oa,on,oc⟩,2⟩ ⟨by simp[*],by simp[*],hs,show(2:Nat)<=4 by decide⟩ fun _ _=>o 2 (by simp[*])
 ·replace h:=fL 117 h;exact bO TN ⟨⟨b,src,j,aD,oa,on,oc⟩,4⟩ ⟨by simp[*],by simp[*],hs,show(4:Nat)<=4 by decide⟩ fun _ _=>o 4 (by grind)
 ·replace h:=fL 48 h;refine br sZ ⟨b,src,(j:Int),aD,oa,on,oc⟩ ⟨by simp[*],hs⟩ ⟨aP.rest (j:=0) aL (aP.cells rfl),aP.rest (j:=0) aL (aP.cells rfl)⟩ fun _ _=>bO vT ⟨bt src (j:Int).toNat⟩ (g0 _ _) fun _ _=>?_;dsimp only;rw[cw];refine fin j (bif bL (bt src j) then none else some [0,0]) _ _ (by grind) ?_ fun u q=>?_
  ·grind
  ·cases hd:bL (bt src j)with
   |true=>rw[hd]at q;cases q
   |false=>rw[hd]at q;cases q;rfl
 ·have C:mJ c 49 57=false->eo src i=yp src c j:=fun h=>by grind
  refine bo (fun P=>bo (fun l=>?_) (fun l=>⟨⟨c,j⟩,⟨s,E,C ?_⟩,aV,az [0,1]⟩)) (fun P=>⟨⟨c,j⟩,⟨s,E,C ?_⟩,aV,az [0,1]⟩)
  ·refine fin j none _ _ ?_ rfl (fun _ h=>nomatch h);have:mJ c 49 57=true:=by
    unfold mJ;grind
   grind
  ·unfold mJ;grind
  ·unfold mJ;grind
 clear f o e1 A g1 O g3 E s hn;rintro⟨c,j⟩ U ⟨t,B,w⟩;dsimp only at t B w⊢;refine⟨aG (fun h=>br sZ ⟨b,src,(j:Int),aD,oa,on,oc⟩ ⟨by simp[*],hs⟩ ⟨aP.rest (j:=0) aL (aP.cells rfl),aP.rest (j:=0) aL (aP.cells rfl)⟩ fun _ _=>aG (fun l=>?_) (fun l=>⟨⟨c,j⟩,⟨t,B,?_⟩,aV,az [0,1]⟩)) (fun h=>⟨⟨c,j⟩,⟨t,B,?_⟩,aV,az [0,1]⟩),?_⟩
 ·replace l:((bt src (j:Int).toNat:Int)==10)=true:=l;rw[cw]at l;have G:(j:Int)+1=((j+1:Nat):Int):=ae;rw[G];exact⟨aq,aK,aq,fin (j+1) (some []) _ _ (by rw[w,yp,fL 13 h,fL 10 l];rfl) rfl (fun u q=>by cases q;rfl)⟩
 ·replace l:((bt src (j:Int).toNat:Int)==10)=false:=l;rw[cw]at l;rw[w,yp,fL 10 l,j5];rfl
 ·rw[w,yp,fL 13 h,jk];rfl
 clear t B w;rintro⟨c,j⟩ U ⟨t,B,w⟩;dsimp only at t B w⊢;have I:c<=1114111:=by unfold Sc at t;omega
 rw[Sj I];have z:hL c=true->eo src i=(j,some []):=fun h=>by rw[w,AU,h];rfl
 have d0:∀u,some ([]:List Nat)=some u->(ByteArray.mk #[])=cL u:=fun u q=>by cases q;rfl
 refine aG (fun e=>fin j _ _ _ (z (yL (by grind))) rfl d0) (fun e1=>aG (fun e=>fin j _ _ _ (z (yL (by grind))) rfl d0) (fun A=>aG (fun e=>fin j _ _ _ (z (yL (by grind))) rfl d0) (fun K=>aG (fun e=>fin j _ _ _ (z (yL (by grind))) rfl d0) (fun M=>?_))));have R:=Xu t;have T:=Nb t;refine⟨RH rfl rfl rfl,⟨c⟩,rfl,ao,KK,rfl,⟨Utf8.encode (c:Int)⟩,?_⟩;dsimp only;generalize Utf8.encode (c:Int)=N at R T⊢;refine⟨rfl,rfl,ae,f1.rest (j:=1) aL D.oS,fun _ _=>fin j (some (ii c)) (bx N) true (by rw[w,AU,Hw e1 A K M];rfl) rfl fun u q=>?_⟩;grind
theorem act:aC 75 kT:=fo 103 Tryz.func75 (fun _ _=>[(1,8,aW oA),(5,1,aX),(5,2,aW sQ),(7,4,aW wC),(12,4,aW mU),(14,1,bu sE),(15,1,bu sE),(16,1,aW mU),(16,2,aW pi),(20,1,aX),(20,2,.qo Ch),(20,3,aW wC)]) [(1,3,aR 0),(1,7,aR 0),(4,3,aR 0),(4,8,.w [LH.z00 (0:Nat)]),(18,3,aR 0),(18,7,.w [LH.z00 (0:Nat)])] aY acs bA [] acu
end
section
open Go
theorem UF(s:ByteArray):∀(n i u:Nat),i<=s.size->i<=(et s n i u).1/\(et s n i u).1<=s.size:=by
 intro n
 induction n with
 |zero=>intro i u h;exact⟨bT _,h⟩
 |succ n a=>
  intro i u h;rw[et];grind
theorem AV{s:ByteArray}{i j:Nat}{r:Option (List Nat)}(h:eo s i=(j,r))(hi:i<=s.size):i<=j/\j<=s.size/\∀u,r=some u->u.length<=4:=by
 unfold eo at h;cases hn:cS s i with
 |none=>rw[hn]at h;cases h;exact⟨bT _,hi,fun _ h=>nomatch h⟩
 |some o=>
  obtain⟨c,n⟩:=o;obtain⟨b,f2,f3⟩:=jO hn;rw[hn]at h;dsimp only at h;have q:=UF s 2 (i+n) 0 b;have g4:=UF s 4 (i+n) 0 b;cases m:ug.find? (fun p=>p.1==c)with
  |some p=>rw[m]at h;cases h;exact⟨ae,b,fun u a=>by cases a;simp⟩
  |none=>
   rw[m]at h;dsimp only at h;cases d:(c==120)with
   |true=>
    rw[d]at h;cases h;refine⟨ae,q.2,fun u a=>?_⟩;cases h':(et s 2 (i+n) 0).2 with
    |none=>rw[h']at a;cases a
    |some v=>rw[h']at a;cases a;simp
   |false=>
   cases e:(c==117)with
   |true=>
    rw[d,e]at h;cases h;refine⟨ae,g4.2,fun u a=>?_⟩;cases h':(et s 4 (i+n) 0).2 with
    |none=>rw[h']at a;cases a
    |some v=>rw[h']at a;cases a;simp
   |false=>
   cases f:(c==48)with
   |true=>
    grind
   |false=>
   cases g:mJ c 49 57 with
   |true=>rw[d,e,f,g]at h;cases h;exact⟨ae,b,fun _ h=>nomatch h⟩
   |false=>
   cases k:(c==13&&bt s (i+n)==10)with
   |true=>
    rw[d,e,f,g,k]at h;cases h;have t:bt s (i+n)=10:=by
     grind
    exact⟨ae,uc ae,fun u a=>by cases a;simp⟩
   |false=>
   rw[d,e,f,g,k]at h;cases l:hL c with
   |true=>rw[l]at h;cases h;exact⟨ae,b,fun u a=>by cases a;simp⟩
   |false=>rw[l]at h;cases h;exact⟨ae,b,fun u a=>by cases a;exact Sg c⟩
def jA(s:ByteArray)(i:Nat):Nat×Option (List Nat):=gJ s (bt s i) (s.size+1) (i+1) []
def qK:aQ where
 X:=iO
 Y:=ByteArray
 args x:=[ag (ke x)]
 pre x:=[af x.l.b (uE x) 68]
 cond x:=0<=x.l.i/\x.l.i<x.l.src.size/\x.l.src.size<=1048576
 aO _ F:=Gl F
 bZ x y:=∀u,(jA x.l.src x.l.i.toNat).2=some u->y=cL u
 val x y:=.returned (.tuple #[.string y,.bool (jA x.l.src x.l.i.toNat).2.isSome])
 post x _:=[af x.l.b [ai x.l.src,ad ((jA x.l.src x.l.i.toNat).1:Nat),aj x.l.aD,au x.l.oa x.l.on x.l.oc] 68]
structure t6 where
 i:Nat
 f:Nat
 o:List Nat
 bb:Nat
 p:Option Addr
 r:Row
def uL(d:t6):Option Addr:=some ⟨d.bb,0,none⟩
def uI(d:t6):List Value:=[ag d.p,au d.r.a d.r.n d.r.cap]
def akq(x:iO)(F:ah):Nat->Option Inv:=fun
 |0=>some {X:=t6,P:=fun d=>d.i<=x.l.src.size/\x.l.src.size<d.i+d.f/\d.o.length<=4*d.i/\nb 5 (cL d.o) d.r/\(d.p=none\/d.p=some ⟨d.bb,0,none⟩)/\jA x.l.src x.l.i.toNat=gJ x.l.src (bt x.l.src x.l.i.toNat) d.f d.i d.o,mu:=fun d=>x.l.src.size-d.i,lv:=fun d=>[(0,ag (ke x)),(4,ad (bt x.l.src x.l.i.toNat)),(5,ag (uL d))],st:=fun d=>[af x.l.b [ai x.l.src,ad d.i,aj x.l.aD,au x.l.oa x.l.on x.l.oc] 68,F,af d.bb (uI d) 95,d.r.A]}
 |_=>none
def HR(z:t6)(e0:iO):=z.i<=e0.l.src.size/\e0.l.src.size<z.i+z.f/\z.o.length<=4*z.i/\nb 5 (cL z.o) z.r/\(z.p=none\/z.p=some ⟨z.bb,0,none⟩)/\jA e0.l.src e0.l.i.toNat=gJ e0.l.src (bt e0.l.src e0.l.i.toNat) z.f z.i z.o
def zq(e0:iO)(z:t6)(e1:ah):=[(0,af e0.l.b [ai e0.l.src,ad ↑z.i,aj e0.l.aD,au e0.l.oa e0.l.on e0.l.oc] 68),(1,e1),(2,af z.bb (uI z) 95),(3,z.r.A)]
def BE(x:iO)(j:t6)(g:Nat×Nat):List Value:=[ai x.l.src,ad ((j.i:Int)+(g.snd:Int)),aj x.l.aD,au x.l.oa x.l.on x.l.oc]
def PY(e:iO):List Value:=[ai e.l.src,ad (↑(eo e.l.src e.l.i.toNat).fst:Int),aj e.l.aD,au e.l.oa e.l.on e.l.oc]
def Mm(aa:List Value)(pp:List ah)(b:qS->Row->Prop):=aC 76 z6/\true=true/\∃(z:qS),aa=[ag (pz z),ai z.s]/\pp=[af z.b (rO z) 95,z.r.A]/\((z.p=none\/z.p=some ⟨z.b,0,none⟩)/\nb 5 z.t z.r/\z.r.n+z.s.size<=140737488355328)/\True/\∀(a:Row),nb 5 (z.t++z.s) a->b z a
def Mn(e0:iO)(e1:ah)(v0:Value)(a:St)(mm:Nat):=∃(z:t6),HR z e0/\(ag (ke e0)=ag (ke e0)/\ad (↑(bt e0.l.src e0.l.i.toNat):Int)=ad (↑(bt e0.l.src e0.l.i.toNat):Int)/\v0=ag (uL z)/\True)/\aE a (zq e0 z e1)/\e0.l.src.size-z.i<mm
theorem akt(x:iO)(F:ah)(S:qK.cond x)(z:qK.aO x F):true=true/\aw x.l.b 0/\aw x.l.b 1/\(0<=x.l.i/\x.l.i<x.l.src.size)/\bM (aF x.l.src x.l.i)/\aw x.l.b 1/\((-9223372036854775808:Int)<=x.l.i+1/\x.l.i+1<=(9223372036854775807:Int))/\aw x.l.b 1/\∀(k:Nat),(∃(a:t6),HR a x/\(ag (ke x)=ag (ke x)/\ad (aF x.l.src x.l.i)=ad (↑(bt x.l.src x.l.i.toNat):Int)/\ag (bI k)=ag (uL a)/\True)/\aE [(0,af x.l.b [ai x.l.src,ad (x.l.i+1),aj x.l.aD,au x.l.oa x.l.on x.l.oc] 68),(1,F),(4000,af k [ag none,au none 0 0] 95)] (zq x a F))/\aT fun(j:t6)_=>HR j x->true=true/\aw x.l.b 0/\aw x.l.b 1/\T5 [ai x.l.src,ad ↑j.i] (aH (zq x j F) []) (fun h g=>Br ((g.fst:Int)==10) (ar qK x F qk (zq x j F)) (Br ((g.fst:Int)==13) (ar qK x F qk (zq x j F)) (aw x.l.b 1/\bM ((j.i:Int)+(g.snd:Int))/\aw x.l.b 1/\Br ((g.fst:Int)==(↑(bt x.l.src x.l.i.toNat):Int)) (aC 74 AN/\true=true/\∃(b:qS),[ag (uL j)]=[ag (pz b)]/\[af j.bb (uI j) 95,j.r.A]=[af b.b (rO b) 95,b.r.A]/\(nb 5 b.t b.r/\b.t.size<=140737488355328)/\True/\∀(a:Unit),True->ar qK x F (ax (tuple ⟨[ai b.t,aj true]⟩)) [(0,af x.l.b (BE x j g) 68),(1,F),(2,af b.b (rO b) 95),(3,bd)]) (Br ((g.fst:Int)==92) (aC 75 kT/\true=true/\∃(e:iO),[ag (ke x)]=[ag (ke e)]/\[af x.l.b (BE x j g) 68]=[af e.l.b (uE e) 68]/\(0<=e.l.i/\e.l.i<=e.l.src.size/\e.l.src.size<=1048576)/\Gl (aH [(0,af x.l.b (BE x j g) 68),(1,F),(2,af j.bb (uI j) 95),(3,j.r.A)] [0])/\∀(d:ByteArray),(∀(a:List Nat),(eo e.l.src e.l.i.toNat).snd=some a->d=cL a)->Br (!(eo e.l.src e.l.i.toNat).snd.isSome) (ar qK x F qk [(0,af e.l.b (PY e) 68),(1,F),(2,af j.bb (uI j) 95),(3,j.r.A)]) (Mm [ag (uL j),ai d] [af j.bb (uI j) 95,j.r.A] (fun c b=>Mn x F (ag (uL j)) [(0,af e.l.b (PY e) 68),(1,F),(2,af c.b (B4 c b) 95),(3,b.A)] (x.l.src.size-j.i)))) (Av (ba Tryz.f61 9 2) [ec (DF (g.fst:Int))] (fun f=>sr 73 [ai (Utf8.encode f.c)] (aH [(0,af x.l.b (BE x j g) 68),(1,F),(2,af j.bb (uI j) 95),(3,j.r.A)] []) (fun e d=>Mm [ag (uL j),ai (bx e.s)] [af j.bb (uI j) 95,j.r.A] (fun c b=>Mn x F (ag (uL j)) [(0,af x.l.b (BE x j g) 68),(1,F),(2,af c.b (B4 c b) 95),(3,b.A)] (x.l.src.size-j.i))))))))) (fun h a=>ar qK x F qk (zq x j F)):=by
 delta HR ke bI uL uI zq T5 qk pz rO BE uE PY Mm Mn B4 Av sr aH aw bM ad ec ai aj ag au af bd DF ax aT;obtain⟨⟨b,src,i0,aD,oa,on,oc⟩⟩:=x;obtain⟨I,w,hs⟩:=S;replace z:Gl F:=z;dsimp only at I w hs;obtain⟨i,rfl⟩:∃i:Nat,i0=(i:Int):=⟨i0.toNat,(Int.toNat_of_nonneg I).symm⟩;dsimp only;rw[f_,cw];have hi:i<src.size:=ae;have Z:=g0 src i;have fin:∀(j:Nat)(r:Option (List Nat))(y:ByteArray)(v:Bool)(A B:ah),jA src i=(j,r)->v=r.isSome->(∀u,r=some u->y=cL u)->ar qK ⟨⟨b,src,(i:Int),aD,oa,on,oc⟩⟩ F (returned (tuple #[string y,bool v])) [(0,ah.cells b [string src,int i64 (j:Int),bool aD,slice oa on oc] 68),(1,F),(2,A),(3,B)]:=fun j r y v A B e hv l=>
  ⟨y,by show ∀u,(jA src (i:Int).toNat).2=some u->_;rw[cw,e];exact l,by show returned _=returned (.tuple #[.string y,.bool (jA src (i:Int).toNat).2.isSome]);simp[*],aE.pick [0,1] rfl (by simp only[qK,cw,e];rfl)⟩
 refine⟨rfl,aq,aq,⟨I,w⟩,aK,aq,aK,aq,fun bb=>⟨⟨⟨i+1,src.size+1,[],bb,none,⟨none,0,0,.d0⟩⟩,⟨by grind,by grind,df _,⟨.nil rfl,.inl rfl⟩,.inl rfl,rfl⟩,aV,aE.pick [0,1,4000,7] rfl (by rfl)⟩,?_⟩⟩;rintro⟨k,f,o,bb,p,r⟩ js ⟨g1,R,g3,g4,H,D⟩;dsimp only at g1 R g3 g4 H D⊢;obtain⟨t,rfl⟩:∃t,f=t+1:=⟨f-1,ae⟩;have T:r.n=o.length:=by
  have:=g4.1.len;rw[Lib.strCells_length,rx]at this;omega
 refine⟨rfl,aq,aq,Bl,rfl,⟨src,k⟩,rfl,rfl,by simp[*],f1.rest (j:=1) aL z.oS,?_,?_⟩;rotate_left
 ·intro _ hn;replace hn:cS src (k:Int).toNat=none:=hn;rw[cw]at hn;exact fin k none _ _ _ _ (by rw[D,gJ,hn]) rfl (fun _ h=>nomatch h)
 rintro⟨c,n⟩ hn;replace hn:cS src (k:Int).toNat=some (c,n):=hn;rw[cw]at hn;obtain⟨G,f2,f3⟩:=jO hn;have C:=VI hn;have s0:jA src i=bif c==10||c==13 then (k,none) else bif c==bt src i then (k+n,some o) else bif c==92 then (match eo src (k+n)with| (j,none)=>(j,none)| (j,some u)=>gJ src (bt src i) t j (o++u)) else gJ src (bt src i) t (k+n) (o++ii c):=by rw[D,gJ,hn];rfl
 dsimp only;have Q:(k:Int)+(n:Int)=((k+n:Nat):Int):=ae;rw[Q,Sj f3];clear D hn;generalize hm:k+n=m at G s0⊢;refine aG (fun e=>fin k none _ _ _ _ (by grind) rfl (fun _ h=>nomatch h)) (fun e1=>aG (fun e=>fin k none _ _ _ _ (by grind) rfl (fun _ h=>nomatch h)) (fun O=>?_));rw[fL 10 e1,fL 13 O,Bool.or_false,aM]at s0;refine⟨aq,aK,aq,aG (fun e=>?_) (fun M=>aG (fun e=>?_) (fun P=>?_))⟩
 ·rw[fL (bt src i) e,aU]at s0;exact bO abk ⟨bb,p,r,cL o,.empty⟩ ⟨g4,by dsimp only;rw[rx];omega⟩ fun _ _=>fin m (some o) _ _ _ _ s0 rfl (fun u U=>by cases U;rfl)
 ·rw[fL (bt src i) M,aM,fL 92 e,aU]at s0;refine br act ⟨⟨b,src,(m:Int),aD,oa,on,oc⟩⟩ ⟨by simp[*],by simp[*],hs⟩ (Gl.rest (j:=1) aL z) fun y l=>?_;replace l:∀u,(eo src (m:Int).toNat).2=some u->y=cL u:=l;dsimp only;rw[cw]at l⊢;have q:=AV (s:=src) (i:=m) (j:=(eo src m).1) (r:=(eo src m).2) rfl G;revert l q s0;generalize eo src m=E;obtain⟨j,X⟩:=E;intro s0 l q;obtain⟨q1,q2,q3⟩:=q;dsimp only at s0 l q1 q2 q3⊢;cases X with
  |none=>exact aG (fun _=>fin j none _ _ _ _ s0 rfl (fun _ h=>nomatch h)) (fun h=>nomatch h)
  |some u=>
   have K:=l u rfl;subst K;have q3:=q3 u rfl;refine aG (fun h=>nomatch h) (fun _=>bO XC ⟨bb,p,r,cL o,cL u⟩ ⟨H,g4,by dsimp only;rw[rx];omega⟩ fun L J=>⟨⟨j,t,o++u,bb,some ⟨bb,0,none⟩,L⟩,⟨q2,by grind,by grind,by dsimp only;rw[<-Tv];exact J,.inr rfl,s0⟩,aV,az [0,1,2,3],by grind⟩)
 ·rw[fL (bt src i) M,aM,fL 92 P,aM]at s0;have N:=Xu C;have W:=Nb C;have V:=Sg c;refine⟨RH rfl rfl rfl,⟨c⟩,rfl,ao,KK,rfl,⟨Utf8.encode (c:Int)⟩,?_⟩;dsimp only;generalize Utf8.encode (c:Int)=Y at N W⊢;rw[N];refine⟨rfl,rfl,ae,f1.rest (j:=1) aL z.oS,fun _ _=>bO XC ⟨bb,p,r,cL o,cL (ii c)⟩ ⟨H,g4,by dsimp only;rw[rx];omega⟩ fun L J=>⟨⟨m,t,o++ii c,bb,some ⟨bb,0,none⟩,L⟩,⟨G,by grind,by grind,by dsimp only;rw[<-Tv];exact J,.inr rfl,s0⟩,aV,az [0,1,2,3],by grind⟩⟩
theorem aks:aC 61 qK:=fo 80 Tryz.func61 (fun _ _=>[(3,0,.n 4000),(4,8,aW oA),(11,0,.c AN [2,3] [2,3]),(13,1,bu kT),(16,1,.c z6 [2,3] [2,3]),(9,1,aX),(9,2,.qo Ch),(9,3,aW wC),(9,4,.c z6 [2,3] [2,3])]) [(1,3,aR 0),(1,7,aR 0),(2,3,aR 0),(2,7,.w [LH.z00 (0:Nat)]),(4,3,aR 0),(4,7,aR 0),(7,3,aR 0),(7,8,.w [LH.z00 (0:Nat)])] akq aY bA [] akt
end
section
open Go
theorem abm(m:ByteArray):cL (dj m)=m:=by
 apply ByteArray.ext;apply Array.ext';unfold cL dj;have e:(fun n=>UInt8.ofNat n)∘UInt8.toNat=id:=by funext u;simp
 simp[e]
theorem agd(m:ByteArray):∀b∈dj m,b<256:=by
 intro b a;obtain⟨u,_,rfl⟩:=List.mem_map.1 a;exact u.toNat_lt
structure K1 where
 l:cC
 cb:Nat
 m:ByteArray
def sj(l:cC)(cb:Nat)(F:ah):Prop:=aP F ⟨cb,0,none⟩ (.pointer (some ⟨l.b,0,none⟩))/\o3 l F
theorem sj.sub{l:cC}{cb:Nat}{A B:ah}(hs:Sub A B)(h:sj l cb A):sj l cb B:=⟨h.1.sub hs,o3.sub hs h.2⟩
def Bc:aQ where
 X:=K1
 args x:=[ai x.m,ag (some ⟨x.cb,0,none⟩)]
 cond x:=0<=x.l.i/\x.l.i<=x.l.src.size/\x.l.src.size<=1048576
 aO x F:=sj x.l x.cb F
 val x _:=ax (aj (cY x.l.src x.l.i.toNat (dj x.m)))
 eM _ _ _ hs h:=sj.sub hs h
theorem aeT(x:K1)(F:ah)(j:Bc.cond x)(g:Bc.aO x F):∃(e:Option Addr),aP F ⟨x.cb,0,none⟩ (ag e)/\C7 [ag e] (cP F) (fun d c=>tY 50 [ai (d.src.extract d.i.toNat d.src.size),ai x.m] (fun b a=>ar Bc x F (ax (aj (jm b.a b.b))) [(0,F)])):=by
 delta gi tf C7 cP tY aH ai aj ag ax;obtain⟨h,f,hs⟩:=j;have s:Sub F (.dq (rest [(0,F)] [])):=bP 0;refine⟨_,g.1,RQ,rfl,x.l,rfl,rfl,⟨h,f,hs⟩,o3.sub s g.2,fun _ _=>kV DJ ⟨x.l.src.extract x.l.i.toNat x.l.src.size,x.m⟩ fun _ _=>⟨(),ao,kG ?_,az [0]⟩⟩;have:=Nz (s:=x.l.src) (i:=x.l.i.toNat) (t:=dj x.m) (agd _) ae;rw[abm]at this;omega
theorem aeS:aC 63 Bc:=fo 8 Tryz.func63 (fun _ _=>[(1,0,.q [.ex 0 .ptr]),(1,1,aW w6),(1,3,aW nF)]) [] aY aY bA [] aeT
def nI(s:ByteArray)(i:Nat):List ByteArray->Nat->Int
 | [],_=> -1
 |m::r,k=>bif cY s i (dj m) then (k:Int) else nI s i r (k+1)
structure vy where
 l:cC
 cb:Nat
def yz:aQ where
 X:=vy
 args x:=[.slice (some ⟨2,0,none⟩) 42 42,.func (.func 63) #[] #[.pointer (some ⟨x.cb,0,none⟩)]]
 cond x:=0<=x.l.i/\x.l.i<=x.l.src.size/\x.l.src.size<=1048576
 aO x F:=Gl F/\sj x.l x.cb F
 val x _:=ax (ad (nI x.l.src x.l.i.toNat eV 0))
 eM _ _ _ hs h:=⟨h.1.sub hs,sj.sub hs h.2⟩
structure CN where
 k:Nat
def aes(x:vy)(F:ah):Nat->Option Inv:=fun
 |0=>some {X:=CN,P:=fun d=>d.k<=42/\nI x.l.src x.l.i.toNat eV 0=nI x.l.src x.l.i.toNat (eV.drop d.k) d.k,mu:=fun d=>42-d.k,lv:=fun d=>[(0,.slice (some ⟨2,0,none⟩) 42 42),(1,.func (.func 63) #[] #[.pointer (some ⟨x.cb,0,none⟩)]),(7,.int .i64 42),(8,.int .i64 d.k)],st:=fun _=>[F]}
 |_=>none
def Iz(a:CN)(x:vy):=a.k<=42/\nI x.l.src x.l.i.toNat eV 0=nI x.l.src x.l.i.toNat (List.drop a.k eV) a.k
def uM:Option Addr:=some ⟨2,0,none⟩
def zl(x:vy):List Value:=[ag (some ⟨x.cb,0,none⟩)]
def iS(b:Oper)(aa:List Value)(a:tU->Prop):=dJ Tryz.prog b (gb 1)/\∃(z:tU),aa=[au (some ⟨z.b,z.o,none⟩) z.len z.cap,ad z.n]/\(0<=z.n/\z.n<z.len)/\a z
theorem aeQ(x:vy)(F:ah)(n:yz.cond x)(j:yz.aO x F):(∃(a:CN),Iz a x/\(au uM 42 42=au uM 42 42/\func (Fn.func 63) ⟨[]⟩ ⟨zl x⟩=func (Fn.func 63) ⟨[]⟩ ⟨zl x⟩/\ad (↑(42:Nat):Int)=ad 42/\ad 0=ad ↑a.k/\True)/\aE [(0,F)] [(0,F)])/\aT fun(g:CN)_=>Iz g x->aS ((g.k:Int)<42) (iS (ba Tryz.f62 4 3) [au uM 42 42,ad ↑g.k] (fun e=>T2 F ⟨e.b,e.o+e.n.toNat*1,none⟩ (fun d=>aC 63 Bc/\true=true/\∃(c:K1),[ai d,ag (some ⟨x.cb,0,none⟩)]=[ai c.m,ag (some ⟨c.cb,0,none⟩)]/\([]:List ah)=[]/\(0<=c.l.i/\c.l.i<=c.l.src.size/\c.l.src.size<=1048576)/\sj c.l c.cb (cP F)/\∀(b:Unit),True->Br (cY c.l.src c.l.i.toNat (dj c.m)) (ar yz x F (ax (ad ↑g.k)) [(0,F)]) (((-9223372036854775808:Int)<=(g.k:Int)+1/\(g.k:Int)+1<=(9223372036854775807:Int))/\∃(a:CN),Iz a x/\(au uM 42 42=au uM 42 42/\func (Fn.func 63) ⟨[]⟩ ⟨zl x⟩=func (Fn.func 63) ⟨[]⟩ ⟨zl x⟩/\ad 42=ad 42/\ad ((g.k:Int)+1)=ad ↑a.k/\True)/\aE [(0,F)] [(0,F)]/\42-a.k<42-g.k)))) (ar yz x F rT [(0,F)]):=by
 delta Iz uM zl iS T2 cP rT aH ad ai ag au aS ax aT;have s:Sub F (.dq (rest [(0,F)] [])):=bP 0;refine⟨⟨⟨0⟩,⟨df _,rfl⟩,aV,az [0]⟩,?_⟩;rintro⟨k⟩ r ⟨l,f⟩;dsimp only at l f⊢;have h:eV.length=42:=rfl;refine bo (fun q=>?_) (fun p=>?_)
 ·obtain⟨m,i⟩:∃m,eV[k]?=some m:=⟨_,gy ae⟩;have hd:eV.drop k=m::eV.drop (k+1):=by
   obtain⟨hk,rfl⟩:=kw.1 i;simp[*]
  rw[hd,nI]at f;have e1:0+(k:Int).toNat*1=k:=ae;refine⟨h9 1 rfl rfl rfl rfl,⟨2,0,42,42,k⟩,rfl,by simp[*],m,by dsimp only;rw[e1];exact j.1.Hs k m i,aeS,rfl,⟨x.l,x.cb,m⟩,rfl,rfl,n,sj.sub s j.2,fun _ _=>aG (fun o=>⟨(),ao,wZ ?_,az [0]⟩) (fun o=>⟨aK,⟨k+1⟩,⟨by grind,?_⟩,aV,az [0],by grind⟩)⟩
  all_goals grind
 ·rw[List.drop_eq_nil_of_le ae]at f;exact⟨(),ao,wZ f.symm,az [0]⟩
theorem aeP:aC 62 yz:=fo 19 Tryz.func62 (fun _ _=>[(4,3,.qo (gb 1)),(4,4,.q [.ex 0 .str]),(4,5,aW Bc)]) [] aes aY bA [] aeQ
end
section
open Go
def sx(n:Nat):kP where
 X:=vu
 args x:=[.pointer (some x.a)]
 cond x:=x.a.off=0/\x.a.spot=none
 val x:=.slice (some x.a) n n
theorem GC{P:Program}{o:Oper}{t e:TypeId}{n:Nat}{x:Operand}{c:TypeInfo}(d:o.op= .slice t x none none none)(j:P.underlying t=some (.array (P.arrayLen t) (P.elem t)))(hn:P.arrayLen t=n)(i:P.elem t=e)(hi:P.info? e=some c):dJ P o (sx n):=by
 refine⟨fun q w ρ g h=>?_⟩;obtain⟨⟨b,off,spot⟩⟩:=q;obtain⟨rfl,rfl⟩:=h;simp only[d,Op.operands,sx]at g;have a:ρ x= .pointer (some ⟨b,0,none⟩):=by grind
 have f:=run_sliceAt_array_all (P:=P) w t ⟨b,0,none⟩ j;rw[i,run_sizeOf w hi,hn]at f;simp[execOp,d,a,f,slicedAt,sx,Addr.add]
def kA(x:bh):List Value:=[.int .i64 x.kind,.string x.text,.float .f64 x.num,.int .i64 x.pos,.bool x.aD]
def hO(l:List bh):List Value:=l.flatMap kA
def iu(K:bQ)(s:ByteArray)(p:Nat):Nat:=K.nv (bx (s.extract p (dX s p).1))
variable{s:ByteArray}{num:Nat->Nat}
theorem yQ{i:Nat}{aD:Bool}(h:fi (bt s i)=true):fl num s i aD=(bE s gA i,some ⟨bif zY (s.extract i (bE s gA i)) then 2 else 1,s.extract i (bE s gA i),0,i,aD⟩):=by
 unfold fl;dsimp only;rw[h];rfl
def gU(s:ByteArray)(i:Nat):Bool:=bL (bt s i)||(bt s i==46&&(decide (i+1<s.size)&&bL (bt s (i+1))))
theorem wj{i:Nat}{aD:Bool}(h:fi (bt s i)=false)(a:gU s i=true):fl num s i aD=((dX s i).1,bif (dX s i).2 then some ⟨3,⟨#[]⟩,num i,i,aD⟩ else none):=by
 unfold fl;unfold gU at a;dsimp only;rw[h,a];rfl
theorem wk{i:Nat}{aD:Bool}(h:fi (bt s i)=false)(a:gU s i=false)(b:(bt s i==34||bt s i==39)=true):fl num s i aD=match jA s i with| (j,none)=>(j,none)| (j,some u)=>(j,some ⟨4,cL u,0,i,aD⟩):=by
 unfold fl;unfold gU at a;dsimp only;rw[h,a,b];rfl
theorem uy{i:Nat}{aD:Bool}(h:fi (bt s i)=false)(a:gU s i=false)(b:(bt s i==34||bt s i==39)=false):fl num s i aD=match eV.find? fun m=>cY s i (dj m)with|none=>(i,none)|some m=>(i+m.size,some ⟨5,m,0,i,aD⟩):=by
 unfold fl;unfold gU at a;grind
theorem af0(s:ByteArray)(i:Nat):∀(l:List ByteArray)(k:Nat),(l.find? (fun m=>cY s i (dj m))=none/\nI s i l k= -1)\/∃j m,l[j]?=some m/\l.find? (fun m=>cY s i (dj m))=some m/\nI s i l k=((k+j:Nat):Int):=by
 intro l
 induction l with
 |nil=>intro k;exact .inl ⟨rfl,rfl⟩
 |cons m l b=>
  intro k;rw[List.find?_cons,nI];cases h:cY s i (dj m)with
  |true=>exact .inr ⟨0,m,rfl,rfl,rfl⟩
  |false=>
   rcases b (k+1)with⟨e1,a⟩| ⟨j,m',e1,a,c⟩
   ·simp[*]
   ·exact .inr ⟨j+1,m',e1,a,by grind⟩
theorem afU:∀m∈eV,m.size<=3:=by decide+kernel
theorem afc{x:bh}:∀u∈kA x,u.oneCell'=true:=by
 intro u a;unfold kA at a;simp at a;rcases a with rfl|rfl|rfl|rfl|rfl <;> rfl
theorem afd(l:List bh)(d:bh):hO (l++[d])=hO l++kA d:=by unfold hO;simp
structure n7 where
 K:bQ
 b:Nat
 src:ByteArray
 i:Nat
 aD:Bool
 r:Row
 ls:List bh
def wi:aQ where
 X:=n7
 Y:=Row ⊕ (Nat×Row)
 args x:=[ag (some ⟨x.b,0,none⟩)]
 pre x:=[af x.b [ai x.src,ad x.i,aj x.aD,au x.r.a x.r.n x.r.cap] 68,x.r.A]
 cond x:=x.i<x.src.size/\x.src.size<=1048570/\aC 72 (nJ x.K)/\bz 53 5 (hO x.ls) x.r/\x.r.n<=1048576
 aO x F:=eH x.K F
 bZ x y:=match y with
  | .inl r=>∃k d,fl (iu x.K x.src) x.src x.i x.aD=(k,some d)/\bz 53 5 (hO (x.ls++[d])) r
  | .inr _=>(fl (iu x.K x.src) x.src x.i x.aD).2=none
 val _ y:=match y with
  | .inl _=>.returned (.bool true)
  | .inr _=>.returned (.bool false)
 post x y:=match y with
  | .inl r=>[.cells x.b [.string x.src,.int .i64 ((fl (iu x.K x.src) x.src x.i x.aD).1:Nat),.bool false,.slice r.a r.n r.cap] 68,r.A]
  | .inr (k,r)=>[.cells x.b [.string x.src,.int .i64 (k:Int),.bool false,.slice r.a r.n r.cap] 68,r.A]
 sum:=some (hU Row (Nat×Row))
structure CW where
 j:Nat
 d:bh
 ok:Bool
 cb:Nat
 lc:Nat
def lO(x:n7):List Value:=[ag (some ⟨x.b,0,none⟩)]
def agL(x:n7)(F:ah):Nat->Option Inv:=fun
 |21=>some {X:=CW,P:=fun d=>(d.ok=true->fl (iu x.K x.src) x.src x.i x.aD=(d.j,some d.d))/\(d.ok=false->(fl (iu x.K x.src) x.src x.i x.aD).2=none),mu:=fun _=>0,lv:=fun d=>[(1,ag (some ⟨d.cb,0,none⟩)),(3,ag (some ⟨d.lc,0,none⟩)),(4,aj d.ok)],st:=fun d=>[af x.b [ai x.src,ad d.j,aj false,au x.r.a x.r.n x.r.cap] 68,x.r.A,F,af d.cb (lO x) 66,af d.lc (kA d.d) 53]}
 |_=>none
def y7(x:n7):List Value:=[ai x.src,ad ↑x.i,aj false,au x.r.a x.r.n x.r.cap]
def H4(x:n7)(F:ah)(p o:Nat):=[(0,af x.b (y7 x) 68),(1,x.r.A),(2,F),(1000,af p (lO x) 66),(2090,af o [ad 0,ai ⟨#[]⟩,float f64 0,ad ↑x.i,aj x.aD] 53)]
def Qu(e:cC):List Value:=[ai e.src,ad (↑(bE e.src gA e.i.toNat):Int),aj e.aD,au e.oa e.on e.oc]
def OL(e:cC)(x:n7)(F:ah)(p o:Nat):=[(0,af e.b (Qu e) 68),(1,x.r.A),(2,F),(1000,af p (lO x) 66),(2090,af o [ad 1,ai (e.src.extract e.i.toNat (bE e.src gA e.i.toNat)),float f64 0,ad ↑x.i,aj x.aD] 53)]
def PD(z:CW)(e0:n7):=(z.ok=true->fl (iu e0.K e0.src) e0.src e0.i e0.aD=(z.j,some z.d))/\(z.ok=false->(fl (iu e0.K e0.src) e0.src e0.i e0.aD).snd=none)
def BD(z:CW):List Value:=[ad z.d.kind,ai z.d.text,float f64 z.d.num,ad z.d.pos,aj z.d.aD]
def Aw(e0:n7)(e1:ah)(v0 v1 v2:Value)(a:St):=∃(z:CW),PD z e0/\(v0=ag (some ⟨z.cb,0,none⟩)/\v1=ag (some ⟨z.lc,0,none⟩)/\v2=aj z.ok/\True)/\aE a [(0,af e0.b [ai e0.src,ad ↑z.j,aj false,au e0.r.a e0.r.n e0.r.cap] 68),(1,e0.r.A),(2,e1),(3,af z.cb (lO e0) 66),(4,af z.lc (BD z) 53)]
def cE(p:Nat):=ag (bI p)
def SZ(aa:List Value)(pp:List ah)(rr:ah)(a:gL->Unit->Prop):=aC 60 oz/\true=true/\∃(z:gL),aa=(uW z)/\pp=[af z.l.b (BI z) 68]/\(0<=z.l.i/\z.l.i<=z.l.src.size/\z.l.src.size<=1048576/\aC 72 (nJ z.K))/\eH z.K rr/\∀(b:Unit),True->a z b
def PE(o p:Nat)(x:n7)(F:ah):=aw o 0/\aw p 0/\SZ (lO x) [af x.b (y7 x) 68] (aH [(0,af x.b (y7 x) 68),(1,x.r.A),(2,F),(1000,af p (lO x) 66),(2090,af o [ad 3,ai ⟨#[]⟩,float f64 0,ad ↑x.i,aj x.aD] 53)] [0]) (fun c b=>aw o 2/\Aw x F (cE p) (cE o) (aj (dX c.l.src c.l.i.toNat).snd) [(0,af c.l.b [ai c.l.src,ad (↑(dX c.l.src c.l.i.toNat).fst:Int),aj c.l.aD,au c.l.oa c.l.on c.l.oc] 68),(1,x.r.A),(2,F),(1000,af p (lO x) 66),(2090,af o [ad 3,ai ⟨#[]⟩,float f64 (bif (dX c.l.src c.l.i.toNat).snd then c.K.nv (bx (c.l.src.extract c.l.i.toNat (dX c.l.src c.l.i.toNat).fst)) else 0),ad ↑x.i,aj x.aD] 53)])
def Qq(x:n7):=(-9223372036854775808:Int)<=(x.i:Int)+1/\(x.i:Int)+1<=(9223372036854775807:Int)
def S0(aa:List Value)(pp:List ah)(rr:ah)(b:iO->ByteArray->Prop):=aC 61 qK/\true=true/\∃(z:iO),aa=[ag (ke z)]/\pp=[af z.l.b (uE z) 68]/\(0<=z.l.i/\z.l.i<z.l.src.size/\z.l.src.size<=1048576)/\Gl rr/\∀(a:ByteArray),(∀(w0:List Nat),(jA z.l.src z.l.i.toNat).snd=some w0->a=cL w0)->b z a
def Qv(o p:Nat)(x:n7)(F:ah):=aw o 0/\aw p 0/\S0 (lO x) [af x.b (y7 x) 68] (aH [(0,af x.b (y7 x) 68),(1,x.r.A),(2,F),(1000,af p (lO x) 66),(2090,af o [ad 4,ai ⟨#[]⟩,float f64 0,ad ↑x.i,aj x.aD] 53)] [0]) (fun c b=>aw o 1/\Aw x F (cE p) (cE o) (aj (jA c.l.src c.l.i.toNat).snd.isSome) [(0,af c.l.b [ai c.l.src,ad (↑(jA c.l.src c.l.i.toNat).fst:Int),aj c.l.aD,au c.l.oa c.l.on c.l.oc] 68),(1,x.r.A),(2,F),(1000,af p (lO x) 66),(2090,af o [ad 4,ai b,float f64 0,ad ↑x.i,aj x.aD] 53)])
def S2(b:Oper)(aa:List Value)(a:vu->Prop):=dJ Tryz.prog b (sx 42)/\∃(z:vu),aa=[ag (some z.a)]/\(z.a.off=0/\z.a.spot=none)/\a z
def S4(aa:List Value)(rr:ah)(a:vy->Unit->Prop):=aC 62 yz/\true=true/\∃(z:vy),aa=[au uM 42 42,func (Fn.func 63) ⟨[]⟩ ⟨zl z⟩]/\([]:List ah)=[]/\(0<=z.l.i/\z.l.i<=z.l.src.size/\z.l.src.size<=1048576)/\(Gl rr/\sj z.l z.cb rr)/\∀(b:Unit),True->a z b
def Qa(e:vy):=0<=nI e.l.src e.l.i.toNat eV 0/\nI e.l.src e.l.i.toNat eV 0<(↑(42:Nat):Int)
def q5(n:cC)(o p:Nat)(x:n7)(F:ah):=Br ((↑(bt n.src n.i.toNat):Int)==34) (Qv o p x F) (Br ((↑(bt n.src n.i.toNat):Int)==39) (Qv o p x F) (S2 (ba Tryz.f36 5 0) [ag uM] (fun f=>S4 [au (some f.a) 42 42,func (Fn.func 63) ⟨[]⟩ ⟨[ag (bI p)]⟩] (aH (H4 x F p o) []) (fun e d=>aS (nI e.l.src e.l.i.toNat eV 0<0) (ar wi x F cV (H4 x F p o)) (true=true/\Qa e/\T2 F ⟨2,0+(nI e.l.src e.l.i.toNat eV 0).toNat*1,none⟩ (fun c=>aw o 0/\aw o 1/\true=true/\aw p 0/\aw x.b 1/\Qa e/\T2 F ⟨2,0+(nI e.l.src e.l.i.toNat eV 0).toNat*1,none⟩ (fun b=>bM ((x.i:Int)+(b.size:Int))/\aw x.b 1/\Aw x F (cE p) (cE o) (aj true) [(0,af x.b [ai x.src,ad ((x.i:Int)+(b.size:Int)),aj false,au x.r.a x.r.n x.r.cap] 68),(1,x.r.A),(2,F),(1000,af p (lO x) 66),(2090,af o [ad 5,ai c,float f64 0,ad ↑x.i,aj x.aD] 53)])))))))
theorem agN(x:n7)(F:ah)(P:wi.cond x)(s:wi.aO x F):∀(p:Nat),true=true/\aw p 0/\aw x.b 1/\aw p 0/\aw x.b 2/\∀(o:Nat),cz o (aw p 0/\aw x.b 2/\(aw p 0/\n9 (lO x) (aH (H4 x F p o) []) (fun n m=>Ap (rQ n) (fun l k=>Br (fi l.c) (aw o 0/\aw p 0/\aC 56 w8/\true=true/\∃(e:cC),[ag (some ⟨x.b,0,none⟩),func (Fn.func 57) ⟨[]⟩ ⟨[]⟩]=[ag (gi e),func (Fn.func 57) ⟨[]⟩ ⟨[]⟩]/\[af x.b (y7 x) 68]=[af e.b (oC e) 68]/\tf e/\True/\∀(d:Unit),True->aw o 1/\aw o 1/\aC 59 xu/\true=true/\∃(c:ML),[ai (e.src.extract e.i.toNat (bE e.src gA e.i.toNat))]=[ai c.s]/\([]:List ah)=[]/\c.s.size<=1048570/\Gl (aH (OL e x F p o) [])/\∀(b:Unit),True->Br (zY c.s) (aw o 0/\Aw x F (cE p) (cE o) (aj true) [(0,af e.b (Qu e) 68),(1,x.r.A),(2,F),(1000,af p (lO x) 66),(2090,af o [ad 2,ai (e.src.extract e.i.toNat (bE e.src gA e.i.toNat)),float f64 0,ad ↑x.i,aj x.aD] 53)]) (Aw x F (cE p) (cE o) (aj true) (OL e x F p o))) (true=true/\T0 (rQ n) (fun j i=>Br (bL j.c) (PE o p x F) (Br ((↑(bt n.src n.i.toNat):Int)==46) (aw p 0/\aw x.b 1/\Qq x/\aw p 0/\aw x.b 0/\aS ((x.i:Int)+1<(x.src.size:Int)) (aw p 0/\aw x.b 0/\aw p 0/\aw x.b 1/\Qq x/\(0<=(x.i:Int)+1/\(x.i:Int)+1<(x.src.size:Int))/\T0 [a8 (aF x.src ((x.i:Int)+1))] (fun h g=>Br (bL h.c) (PE o p x F) (q5 n o p x F))) (q5 n o p x F)) (q5 n o p x F)))))))/\aT fun(e:CW)_=>PD e x->true=true/\aw e.cb 0/\aw e.cb 0/\aw x.b 3/\cz e.lc (∀(c:Nat),e5 Tryz.prog (ba Tryz.f36 21 7) (de (53:TypeId) 5 48)/\true=true/\∃(b:oZ),[au x.r.a x.r.n x.r.cap,au (bI c) 1 1]=(kF b)/\[x.r.A]=[b.r.A]/\(bz 53 5 b.cs b.r/\b.ys.length=b.m*5/\(∀(a:Value),a∈b.ys->a.oneCell'=true)/\(b.r.n+b.m)*48<=140737488355328/\b.r.n+b.m<=9223372036854775807/\(b.a=none->b.m=0/\b.c=0))/\(∀(a:Addr),b.a=some a->c4 (aH [(0,af x.b [ai x.src,ad ↑e.j,aj false,au x.r.a x.r.n x.r.cap] 68),(1,x.r.A),(2,F),(3,af e.cb (lO x) 66),(4,af e.lc (BD e) 53),(22060,af c (BD e) 53)] [1]) a b.ys)/\∀(a:Row),(bz 53 5 (b.cs++b.ys) a/\a.n=b.r.n+b.m/\(b.m=0->a=b.r))->aw x.b 3/\ar wi x F (ax (aj e.ok)) [(0,af x.b [ai x.src,ad ↑e.j,aj false,au a.a a.n a.cap] 68),(1,a.A),(2,F),(3,af e.cb (lO x) 66),(4,af e.lc (BD e) 53),(22060,af c (BD e) 53)])):=by
 delta gi n9 lO y7 H4 Ap rQ oC tf Qu OL PD BD Aw bI cE T0 s_ uW BI SZ PE Qq ke uE S0 Qv S2 uM zl S4 c6 cV Qa T2 q5 kF aH aw bM cz ad a8 ai aj ag au af aS ax aT;obtain⟨K,b,src,i,aD,r,ls⟩:=x;obtain⟨hi,hs,H,q,C⟩:=P;replace s:eH K F:=s;dsimp only at hi hs H q C;dsimp only;have W:=g0 src i;intro cb;refine⟨rfl,aq,aq,aq,aq,fun lc=>⟨aq,aq,aq,aq,aq,aq,aq,?_,?_⟩⟩;rotate_left
 ·rintro⟨j,d,ok,cb,lc⟩ Z ⟨D,J⟩;dsimp only at D J⊢;refine⟨rfl,aq,aq,aq,aq,aq,aq,aq,aq,fun T=>br (jE 5 48 rfl rfl rfl rfl rfl rfl rfl (by decide)) ⟨r,hO ls,some ⟨T,0,none⟩,1,1,kA d⟩ ⟨q,rfl,afc,by grind,by grind,fun h=>nomatch h⟩ (?_) fun G V=>⟨aq,?_⟩⟩
  ·intro a O;cases O;exact c4.rest (j:=22060) aL (c4.cells (fun j u I=>by rw[gT];exact I))
  ·cases ok with
   |true=>exact⟨.inl G,⟨j,d,D rfl,by rw[afd];simp[*]⟩,rfl,aE.pick [0,1,2] rfl (by simp only[wi,D rfl];rfl)⟩
   |false=>exact⟨.inr (j,G),J rfl,rfl,az [0,1,2]⟩
 refine kL (A:=fi (bt src i)=false/\gU src i=true) (fun kn=>kL (A:=fi (bt src i)=false/\gU src i=false) (fun E=>⟨aq,sZ,rfl,⟨b,src,(i:Int),false,r.a,r.n,r.cap⟩,rfl,rfl,⟨by simp[*],by grind⟩,⟨aP.rest (j:=0) aL (aP.cells rfl),aP.rest (j:=0) aL (aP.cells rfl)⟩,fun _ _=>bO NM ⟨bt src (i:Int).toNat⟩ (g0 _ _) fun _ _=>aG (fun hl=>?_) (fun hl=>⟨rfl,vT,rfl,⟨bt src (i:Int).toNat⟩,rfl,rfl,g0 _ _,ao,fun _ _=>aG (fun hd=>kn ⟨hl,?_⟩) (fun hd=>aG (fun f=>⟨aq,aq,aK,aq,aq,bo (fun w=>⟨aq,aq,aq,aq,aK,⟨ae,w⟩,vT,rfl,⟨bt src (i+1)⟩,?_,rfl,g0 _ _,ao,fun _ _=>aG (fun B=>kn ⟨hl,?_⟩) (fun B=>E ⟨hl,?_⟩)⟩) (fun w=>E ⟨hl,?_⟩)⟩) (fun f=>E ⟨hl,?_⟩))⟩)⟩) (fun Q=>?_)) (fun hn=>?_)
 ·have hl:fi (bt src i)=true:=hl;obtain⟨r1,G⟩:=lR src gA (show i<=src.size by omega);have e1:fl (iu K src) src i aD=_:=yQ hl;refine⟨aq,aq,ajf,rfl,⟨b,src,(i:Int),false,r.a,r.n,r.cap⟩,rfl,rfl,⟨by simp[*],by grind,by grind⟩,ao,fun _ _=>⟨aq,aq,alg,rfl,⟨src.extract i (bE src gA i)⟩,rfl,rfl,?_,Gl.rest (j:=2) aL s.gl,fun _ _=>aG (fun S=>⟨aq,⟨⟨bE src gA i,⟨2,src.extract i (bE src gA i),0,i,aD⟩,true,cb,lc⟩,⟨fun _=>?_,fun h=>nomatch h⟩,aV,az [0,1,2,1000,2090]⟩⟩) (fun S=>⟨⟨bE src gA i,⟨1,src.extract i (bE src gA i),0,i,aD⟩,true,cb,lc⟩,⟨fun _=>?_,fun h=>nomatch h⟩,aV,az [0,1,2,1000,2090]⟩)⟩⟩
  ·dsimp only;rw[gS];omega
  all_goals grind
 ·unfold gU;grind
 ·rw[f_,show((i:Int)+1).toNat=i+1 by omega]
 ·have f:((bt src i:Int)==46)=true:=f;unfold gU;grind
 ·unfold gU;grind
 ·unfold gU;grind
 ·have f:((bt src i:Int)==46)=false:=f;unfold gU;grind
 ·obtain⟨hl,hn⟩:=Q;refine kL (A:=(bt src i==34||bt src i==39)=true) (fun L=>aG (fun h=>L ?_) (fun t=>aG (fun h=>L ?_) (fun v=>?_))) (fun R=>?_)
  ·grind
  ·grind
  ·have t:((bt src i:Int)==34)=false:=t;have v:((bt src i:Int)==39)=false:=v;have e1:fl (iu K src) src i aD=_:=uy hl hn (by grind);refine⟨GC rfl rfl rfl rfl rfl,⟨⟨2,0,none⟩⟩,rfl,aq,aeP,rfl,⟨⟨b,src,(i:Int),false,r.a,r.n,r.cap⟩,cb⟩,rfl,rfl,⟨by simp[*],by grind,by grind⟩,⟨Gl.rest (j:=2) aL s.gl,aP.rest (j:=1000) aL (aP.cells rfl),⟨aP.rest (j:=0) aL (aP.cells rfl),aP.rest (j:=0) aL (aP.cells rfl)⟩⟩,fun _ _=>?_⟩;dsimp only;rw[cw];rcases af0 src i eV 0 with⟨z,f2⟩| ⟨j,m,z,f2,f3⟩
   ·rw[f2];exact aG (fun _=>⟨.inr (i,r),by show(fl (iu K src) src i aD).2=none;simp[*],rfl,az [0,1,2]⟩) (fun h=>absurd h (by decide))
   ·rw[f3,gT];have I:j<42:=(kw.1 z).1;have X:m.size<=3:=afU m (ou z);have N:0+(j:Int).toNat*1=j:=ae;have M:aP F ⟨2,0+(j:Int).toNat*1,none⟩ (.string m):=by rw[N];exact s.gl.Hs j m z
    have U:(i:Int)+(m.size:Int)=((i+m.size:Nat):Int):=ae;refine aG (fun h=>absurd (j7 h) ae) (fun _=>⟨rfl,aK,m,M,aq,aq,rfl,aq,aq,aK,m,M,aK,aq,⟨⟨i+m.size,⟨5,m,0,i,aD⟩,true,cb,lc⟩,⟨fun _=>by simp[*],fun h=>nomatch h⟩,aV,aE.pick [0,1,2,1000,2090] rfl (by rfl)⟩⟩)
  ·have e1:fl (iu K src) src i aD=_:=wk hl hn R;refine⟨aq,aq,aks,rfl,⟨⟨b,src,(i:Int),false,r.a,r.n,r.cap⟩⟩,rfl,rfl,⟨by simp[*],by simp[*],by grind⟩,Gl.rest (j:=2) aL s.gl,fun y Y=>⟨aq,⟨⟨(jA src i).1,⟨4,y,0,i,aD⟩,(jA src i).2.isSome,cb,lc⟩,⟨fun h=>?_,fun h=>?_⟩,aV,az [0,1,2,1000,2090]⟩⟩⟩
   all_goals grind
 ·obtain⟨hl,hn⟩:=hn;have e1:fl (iu K src) src i aD=_:=wj hl hn;refine⟨aq,aq,agh,rfl,⟨K,⟨b,src,(i:Int),false,r.a,r.n,r.cap⟩⟩,rfl,rfl,⟨by simp[*],by grind,by grind,H⟩,eH.rest (j:=2) aL s,fun _ _=>⟨aq,⟨⟨(dX src i).1,⟨3,⟨#[]⟩,bif (dX src i).2 then iu K src i else 0,i,aD⟩,(dX src i).2,cb,lc⟩,⟨fun h=>?_,fun h=>?_⟩,aV,az [0,1,2,1000,2090]⟩⟩⟩
  all_goals grind
theorem agM:aC 36 wi:=fo 118 Tryz.func36 (fun _ _=>[(0,0,.n 1000),(1,9,.n 2090),(4,1,aW mU),(10,1,aW rG),(12,1,bu w8),(13,2,aW xu),(15,1,aW pi),(15,29,aW pi),(17,1,bu oz),(20,1,bu qK),(5,0,.qo (sx 42)),(5,2,aW yz),(8,2,.q [.ex 2 .str]),(9,6,.q [.ex 2 .str]),(21,6,.n 22060),(21,7,.o (de 53 5 48) [1] [1])]) [(1,0,aR 1000),(1,3,aR 0),(1,4,aR 1000),(1,7,aR 0),(1,10,.w [LH.z00 (2090:Nat),LH.z00 (2090:Nat),LH.z00 (2090:Nat),LH.z00 (2090:Nat),LH.z00 (2090:Nat)]),(2,0,aR 1000),(2,3,.w [LH.z00 (0:Nat)]),(4,0,aR 1000),(21,0,aR 3),(11,1,.w [LH.z00 (2090:Nat)]),(16,1,.w [LH.z00 (2090:Nat)]),(15,6,aR 1000),(19,1,.w [LH.z00 (2090:Nat)]),(8,4,.w [LH.z00 (2090:Nat)]),(21,1,aR 3),(12,0,aR 1000),(17,0,aR 1000),(15,9,aR 0),(20,0,aR 1000),(8,6,.w [LH.z00 (2090:Nat)]),(21,4,aR 0),(12,3,.w [LH.z00 (2090:Nat)]),(17,6,.w [LH.z00 (2090:Nat)]),(15,11,aR 1000),(20,6,.w [LH.z00 (2090:Nat)]),(9,0,aR 1000),(21,5,.q [LH.z00 (4:Nat),LH.z00 (4:Nat),LH.z00 (4:Nat),LH.z00 (4:Nat),LH.z00 (4:Nat)]),(13,1,aR 2090),(15,14,aR 0),(9,3,aR 0),(21,10,.w [LH.z00 (0:Nat)]),(14,1,.w [LH.z00 (2090:Nat)]),(15,19,aR 1000),(9,11,.w [LH.z00 (0:Nat)]),(15,22,aR 0),(15,23,aR 1000),(15,26,aR 0)] aY agL bA [] agN
end
end Go.Proofs.YtdkchodgklpomaaGreatDoor
