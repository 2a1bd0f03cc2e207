/- Part of the proof that ParseShape answers true at every input. -/
import Derived.Test.YtdkchodgklpomaaGreatDoorPSac
set_option linter.all false
namespace Go.Proofs.YtdkchodgklpomaaGreatDoor
set_option maxRecDepth 100000
open Go.Value (int slice string bool pointer agg tuple func float iface nilIface)
open Go.IntKind (i64 u8 u64 i32 u32 u16 i8 i16)
open Go.FloatKind (f64)
open Go.Ending (returned panicked)
section
open Go
structure cj where
 nv:ByteArray->Nat
 tv:Nat->ByteArray
 rd:ai->Prop
 mono:∀{A B:ai},rd A->Sub A B->rd B
 rest:∀{S:St}{bF:List Nat}{j:Nat},j∉bF->rd (gt S j)->rd (.dv (rest S bF))
structure eT(K:cj)(F:ai):Prop where
 gl:Gl F
 rd:K.rd F
theorem eT.sub{K:cj}{A B:ai}(h:eT K A)(hs:Sub A B):eT K B:=⟨h.gl.sub hs,K.mono h.rd hs⟩
theorem eT.rest{K:cj}{S:St}{bF:List Nat}{j:Nat}(hj:j∉bF)(h:eT K (gt S j)):eT K (.dv (rest S bF)):=⟨h.gl.rest hj,K.rest hj h.rd⟩
def pP(K:cj):aR where
 X:=fq
 args x:=[aj x.s]
 cond x:=x.s.size<=8388608
 aQ _ F:=K.rd F
 val x _:=az (float f64 (K.nv x.s))
 eX _ _ _ hs h:=K.mono h hs
structure ir where
 K:cj
 l:cM
def wl(x:ir):Option Addr:=some ⟨x.l.b,0,none⟩
def ED(x:ir):List Value:=[aj x.l.src,ae x.l.i,ak x.l.aK,au x.l.oa x.l.on x.l.oc]
def qz:aR where
 X:=ir
 args x:=[ah (wl x)]
 pre x:=[ag x.l.b (ED x) 68]
 cond x:=0<=x.l.i/\x.l.i<=x.l.src.size/\x.l.src.size<=1048576/\aC 72 (pP x.K)
 aQ x F:=eT x.K F
 val x _:=.returned (.tuple #[.float .f64 (bif (fw x.l.src x.l.i.toNat).2 then x.K.nv (br (x.l.src.extract x.l.i.toNat (fw x.l.src x.l.i.toNat).1)) else 0),.bool (fw x.l.src x.l.i.toNat).2])
 post x _:=[ag x.l.b [aj x.l.src,ae ((fw x.l.src x.l.i.toNat).1:Nat),ak x.l.aK,au x.l.oa x.l.on x.l.oc] 68]
def alv(x:ir)(_F:ai):List (Nat×Nat×OH):=[(2,1,aX o7),(4,1,bq Ay),(6,1,bq wK),(9,1,aX o7),(11,1,bq wK),(12,1,aX o7),(14,1,aX o7),(14,5,aX o7),(16,1,bq wK),(18,1,aX o7),(19,1,aX uL),(19,4,aX ry),(21,10,aX wC),(21,11,aX (pP x.K))]
def aL(s:ByteArray)(j:Nat):Nat×Bool:=(j,!(jq (bt s j)||ce (bt s j)))
def SP(s:ByteArray)(j:Nat):Nat×Bool:=(bL s ce j,decide (bL s ce j>j)&& !(jq (bt s (bL s ce j))||ce (bt s (bL s ce j))))
def yc(s:ByteArray)(j:Nat):Nat×Bool:=bif (bt s j|||32)==101 then SP s (bif bt s (j+1)==43||bt s (j+1)==45 then j+2 else j+1) else aL s j
def Ej(s:ByteArray)(j:Nat):Nat×Bool:=yc s (bif bt s j==46 then bL s ce (j+1) else j)
def BZ(s:ByteArray)(i j:Nat):Nat×Bool:=bif decide (j-i>1)&&bt s i==48 then (j,false) else Ej s j
def SO(s:ByteArray)(i:Nat):Nat×Bool:=BZ s i (bL s ce i)
theorem Hh(s:ByteArray)(i:Nat):fw s i=bif bt s i==48&&(decide (i+1<s.size)&&(bt s (i+1)|||32)==120) then (bL s gz (i+2),decide (bL s gz (i+2)>i+2)&& !(jq (bt s (bL s gz (i+2)))||ce (bt s (bL s gz (i+2))))) else SO s i:=rfl
theorem mo{A B C:Prop}(f:(A->B)->C)(g:A->B):C:=f g
theorem f_{n:Nat}(k:Nat){v:Bool}(h:((n:Int)==(k:Int))=v):(n==k)=v:=by
 rw[<-h,Bool.eq_iff_iff,beq_iff_eq,beq_iff_eq];omega
variable{s:ByteArray}{i:Nat}
theorem DA(h:bt s i≠0):i<s.size:=by
 rcases Nat.lt_or_ge i s.size with h'|h'
 ·exact h'
 ·exact absurd (DB h') h
theorem tK(s:ByteArray)(p:Nat->Bool)(h:i<=s.size):i<=bL s p i/\bL s p i<=s.size:=abL s p _ i h
theorem YT{j:Nat}(h:j<=s.size):((s.extract i j).toList==(ByteArray.mk #[]).toList)= !decide (j>i):=by
 have h1:=AH (s.extract i j);rw[jU,Nat.min_eq_left h]at h1;grind
theorem Yi{j k:Nat}(h:i+k<j)(hj:j<=s.size):bt (s.extract i j) k=bt s (i+k):=by
 unfold bt;congr 2;rw[ByteArray.data_extract,Array.getElem?_extract,if_pos (by simp only[ByteArray.size]at hj;omega)]
theorem W8(c:Nat):(jz c).length<=4:=by
 unfold jz;cases decide (c>65535) <;> simp
theorem ap9(s:ByteArray):∀(f i:Nat)(o:List Nat),(nK s f i o).length<=o.length+4*(s.size-i):=by
 intro f
 induction f with
 |zero=>intro i o;show o.length<=_;omega
 |succ f ih=>
  intro i o;rw[nK];by_cases hi:i<s.size
  ·rw[bG hi,bf];cases h:eo s i with
   |none=>exact dC _
   |some cn=>
    obtain⟨c,n⟩:=cn;obtain⟨f1,f2,f3⟩:=pO h;have h1:=ih (i+n) (o++jz c);have h2:=W8 c;grind
  simp[*]
theorem ap_(s:ByteArray):(br s).size<=4*s.size:=by
 have h:=ap9 s (s.size+1) 0 [];have e:(br s).size=(nK s (s.size+1) 0 []).length:=by
  unfold br cQ ByteArray.size;simp
 grind
structure lE where
 j:Nat
def aaJ(x:ir):List (Nat×Value):=[(0,.pointer (some ⟨x.l.b,0,none⟩)),(4,.int .i64 x.l.i)]
def aaK(x:ir)(F:ai)(j:Nat):List ai:=[.cells x.l.b [.string x.l.src,.int .i64 j,.bool x.l.aK,.slice x.l.oa x.l.on x.l.oc] 68,F]
def Lf(x:ir)(F:ai)(g:ByteArray->Nat->Nat×Bool):Inv:={X:=lE,P:=fun d=>x.l.i.toNat<=d.j/\d.j<=x.l.src.size/\fw x.l.src x.l.i.toNat=g x.l.src d.j,mu:=fun _=>0,lv:=fun _=>aaJ x,st:=fun d=>aaK x F d.j}
def alu(x:ir)(F:ai):Nat->Option Inv:=fun
 |7=>some {X:=lE,P:=fun d=>x.l.i.toNat<=d.j/\d.j<=x.l.src.size/\fw x.l.src x.l.i.toNat=BZ x.l.src x.l.i.toNat d.j,mu:=fun _=>0,lv:=fun d=>(5,.string (x.l.src.extract x.l.i.toNat d.j))::aaJ x,st:=fun d=>aaK x F d.j}
 |9=>some (Lf x F Ej)
 |12=>some (Lf x F yc)
 |16=>some (Lf x F SP)
 |18=>some (Lf x F aL)
 |_=>none
def yA(x:ir):List Value:=[ah (wl x)]
def Vr(x:ir):=(-9223372036854775808:Int)<=x.l.i+1/\x.l.i+1<=(9223372036854775807:Int)
def zR:=az (tuple ⟨[float f64 0,ak false]⟩)
def UN(c:cM)(F:ai):=[(0,ag c.b [aj c.src,ae (↑(bL c.src gz c.i.toNat):Int),ak c.aK,au c.oa c.on c.oc] 68),(1,F)]
def UJ(e0:ir)(z:lE):=e0.l.i.toNat<=z.j/\z.j<=e0.l.src.size/\fw e0.l.src e0.l.i.toNat=(z.j,!(jq (bt e0.l.src z.j)||ce (bt e0.l.src z.j)))
def HK(e0:ir):=ah (wl e0)=ah (wl e0)/\ae e0.l.i=ae e0.l.i/\True
def mQ(x:ir)(m:lE)(F:ai):=[(0,ag x.l.b [aj x.l.src,ae ↑m.j,ak x.l.aK,au x.l.oa x.l.on x.l.oc] 68),(1,F)]
def Jr(e0:ir)(e1:ai)(ss:St):=∃(z:lE),UJ e0 z/\HK e0/\aD ss (mQ e0 z e1)
def JA(aa:List Value)(pp:List ai)(k0:cM->Unit->Prop):=aC 56 wK/\true=true/\∃(z:cM),aa=[ah (gP z),func (Fn.func 58) ⟨[]⟩ ⟨[]⟩]/\pp=[ag z.b (qC z) 68]/\wt z/\True/\∀(u0:Unit),True->k0 z u0
def Nb(x:ir):List Value:=[ah (wl x),func (Fn.func 58) ⟨[]⟩ ⟨[]⟩]
def Vn(x:ir)(m:lE):=x.l.i.toNat<=m.j/\m.j<=x.l.src.size/\fw x.l.src x.l.i.toNat=BZ x.l.src x.l.i.toNat m.j
def XI(e0:ir)(e1:ai)(v0:Value)(ss:St):=∃(z:lE),Vn e0 z/\(v0=aj (e0.l.src.extract e0.l.i.toNat z.j)/\ah (wl e0)=ah (wl e0)/\ae e0.l.i=ae e0.l.i/\True)/\aD ss (mQ e0 z e1)
def Hs(c:cM)(F:ai):=[(0,ag c.b [aj c.src,ae (↑(bL c.src ce c.i.toNat):Int),ak c.aK,au c.oa c.on c.oc] 68),(1,F)]
def VJ(x:ir)(k:lE):=x.l.i.toNat<=k.j/\k.j<=x.l.src.size/\fw x.l.src x.l.i.toNat=Ej x.l.src k.j
def PY(e0:ir)(e1:ai)(ss:St):=∃(z:lE),VJ e0 z/\HK e0/\aD ss (mQ e0 z e1)
def Vi(k:lE):=(-9223372036854775808:Int)<=(k.j:Int)+1/\(k.j:Int)+1<=(9223372036854775807:Int)
def HE(x:ir)(k:lE):List Value:=[aj x.l.src,ae ((k.j:Int)+1),ak x.l.aK,au x.l.oa x.l.on x.l.oc]
def VK(x:ir)(i:lE):=x.l.i.toNat<=i.j/\i.j<=x.l.src.size/\fw x.l.src x.l.i.toNat=yc x.l.src i.j
def P4(e0:ir)(e1:ai)(ss:St):=∃(z:lE),VK e0 z/\HK e0/\aD ss (mQ e0 z e1)
def TB(x:ir)(e:lE):=x.l.i.toNat<=e.j/\e.j<=x.l.src.size/\fw x.l.src x.l.i.toNat=(bL x.l.src ce e.j,decide (bL x.l.src ce e.j>e.j)&& !(jq (bt x.l.src (bL x.l.src ce e.j))||ce (bt x.l.src (bL x.l.src ce e.j))))
def P9(e0:ir)(e1:ai)(ss:St):=∃(z:lE),TB e0 z/\HK e0/\aD ss (mQ e0 z e1)
def Tt(x:ir)(i:lE)(F:ai):=ax x.l.b 1/\((-9223372036854775808:Int)<=(i.j:Int)+1+(1:Int)/\(i.j:Int)+1+(1:Int)<=(9223372036854775807:Int))/\ax x.l.b 1/\P9 x F [(0,ag x.l.b [aj x.l.src,ae ((i.j:Int)+1+(1:Int)),ak x.l.aK,au x.l.oa x.l.on x.l.oc] 68),(1,F)]
def q2(x:ir)(F:ai):=JA (Nb x) [ag x.l.b (ED x) 68] (fun c b=>XI x F (aj (c.src.extract c.i.toNat (bL c.src ce c.i.toNat))) (Hs c F))/\aS fun(m:lE)_=>Vn x m->aP ((↑(x.l.src.extract x.l.i.toNat m.j).size:Int)>1) (((0:Int)<=(0:Int)/\0<(↑(x.l.src.extract x.l.i.toNat m.j).size:Int))/\Br (aE (x.l.src.extract x.l.i.toNat m.j) (0:Int)==(48:Int)) (aq qz x F zR (mQ x m F)) (PY x F (mQ x m F))) (PY x F (mQ x m F))/\aS fun(k:lE)_=>VJ x k->qf (yA x) (aH (mQ x k F) []) (fun e d=>Br ((↑(bt e.src e.i.toNat):Int)==46) (ax x.l.b 1/\Vi k/\ax x.l.b 1/\JA (Nb x) [ag x.l.b (HE x k) 68] (fun c b=>P4 x F (Hs c F))) (P4 x F (mQ x k F)))/\aS fun(i:lE)_=>VK x i->qf (yA x) (aH (mQ x i F) []) (fun g f=>Br (u8.wrap (↑(BitVec.ofInt u8.bits (↑(bt g.src g.i.toNat):Int)|||BitVec.ofInt u8.bits (32:Int)).toNat:Int)==101) (ax x.l.b 1/\Vi i/\ax x.l.b 1/\qf (yA x) (aH [(0,ag x.l.b (HE x i) 68),(1,F)] []) (fun e d=>Br ((↑(bt e.src e.i.toNat):Int)==43) (Tt x i F) (qf (yA x) (aH [(0,ag x.l.b (HE x i) 68),(1,F)] []) (fun c b=>Br ((↑(bt c.src c.i.toNat):Int)==45) (Tt x i F) (P9 x F [(0,ag x.l.b (HE x i) 68),(1,F)]))))/\aS fun(e:lE)_=>TB x e->JA (Nb x) [ag x.l.b [aj x.l.src,ae ↑e.j,ak x.l.aK,au x.l.oa x.l.on x.l.oc] 68] (fun c b=>Br ((c.src.extract c.i.toNat (bL c.src ce c.i.toNat)).toList==tE.toList) (aq qz x F zR (Hs c F)) (Jr x F (Hs c F)))) (Jr x F (mQ x i F)))
def vr(ff:FuncId)(aa:List Value)(rr:ai)(k0:fq->Unit->Prop):=aC ff wC/\true=true/\∃(z:fq),aa=[aj z.s]/\([]:List ai)=[]/\z.s.size<=1048576/\gE rr/\∀(u0:Unit),True->k0 z u0
theorem alx(x:ir)(F:ai)(hc:qz.cond x)(hr:qz.aQ x F):ax x.l.b 1/\(true=true/\qf (yA x) (aH [(0,ag x.l.b (ED x) 68),(1,F)] []) (fun o n=>Br ((↑(bt o.src o.i.toNat):Int)==48) (ax x.l.b 1/\Vr x/\ax x.l.b 0/\aP (x.l.i+1<(x.l.src.size:Int)) (ax x.l.b 0/\ax x.l.b 1/\Vr x/\(0<=x.l.i+1/\x.l.i+1<(x.l.src.size:Int))/\Br (u8.wrap (↑(BitVec.ofInt u8.bits (aE x.l.src (x.l.i+1))|||BitVec.ofInt u8.bits (32:Int)).toNat:Int)==120) (ax x.l.b 1/\((-9223372036854775808:Int)<=x.l.i+2/\x.l.i+2<=(9223372036854775807:Int))/\ax x.l.b 1/\aC 56 Ay/\true=true/\∃(c:cM),[ah (wl x),func (Fn.func 71) ⟨[]⟩ ⟨[]⟩]=[ah (gP c),func (Fn.func 71) ⟨[]⟩ ⟨[]⟩]/\[ag x.l.b [aj x.l.src,ae (x.l.i+2),ak x.l.aK,au x.l.oa x.l.on x.l.oc] 68]=[ag c.b (qC c) 68]/\wt c/\True/\∀(b:Unit),True->Br ((c.src.extract c.i.toNat (bL c.src gz c.i.toNat)).toList==tE.toList) (aq qz x F zR (UN c F)) (Jr x F (UN c F))) (q2 x F)) (q2 x F)) (q2 x F)))/\aS fun(l:lE)_=>UJ x l->qf (yA x) (aH (mQ x l F) []) (fun j i=>Df (uX j) (fun h g=>Br (jq h.c) (aq qz x F zR (mQ x l F)) (T0 (uX j) (fun f e=>Br (ce f.c) (aq qz x F zR (mQ x l F)) (true=true/\ax x.l.b 0/\ax x.l.b 1/\(0<=x.l.i/\x.l.i<=l.j/\(l.j:Int)<=(x.l.src.size:Int))/\vr 73 [aj (x.l.src.extract x.l.i.toNat (l.j:Int).toNat)] (aH (mQ x l F) []) (fun d c=>aC 72 (pP x.K)/\true=true/\∃(b:fq),[aj (br d.s)]=[aj b.s]/\([]:List ai)=[]/\b.s.size<=8388608/\x.K.3 (aH (mQ x l F) [])/\∀(a:Unit),True->aq qz x F (az (tuple ⟨[float f64 (x.K.nv b.s),ak true]⟩)) (mQ x l F))))))):=by
 delta gP qf wl yA ED Vr qC wt tE zR UN UJ HK mQ Jr JA Nb Vn XI Hs VJ PY Vi HE VK P4 TB P9 Tt q2 Df uX T0 vr aH ax ae a_ aj ak ah au ag aP az aS;obtain⟨K,b,src,i0,aK,oa,on,oc⟩:=x;obtain⟨h0,bS,hs,hN⟩:=hc;replace hr:eT K F:=hr;dsimp only at h0 bS hs hN;obtain⟨i,rfl⟩:∃i:Nat,i0=(i:Int):=⟨i0.toNat,(Int.toNat_of_nonneg h0).symm⟩;dsimp only;rw[cB];have hi:i<=src.size:=af;have fin:∀(j:Nat),fw src i=(j,false)->aq qz ⟨K,b,src,(i:Int),aK,oa,on,oc⟩ F (returned (tuple #[float f64 0,bool false])) [(0,ai.cells b [string src,int i64 (j:Int),bool aK,slice oa on oc] 68),(1,F)]:=fun j e=>
  ⟨(),ao,by show returned _=returned (.tuple #[.float .f64 (bif (fw src (i:Int).toNat).2 then _ else 0),.bool (fw src (i:Int).toNat).2]);simp[*],aD.pick [0,1] rfl (by simp only[qz,cB,e];rfl)⟩
 refine⟨ap,mo (A:=fw src i=SO src i) (fun k=>⟨rfl,wi,rfl,⟨b,src,i,aK,oa,on,oc⟩,rfl,rfl,⟨h0,hs⟩,⟨aO.rest (j:=0) aM (aO.cells rfl),aO.rest (j:=0) aM (aO.cells rfl)⟩,fun _ _=>aG (fun c1=>⟨ap,aJ,ap,bl (fun c2=>⟨ap,ap,aJ,aJ,aG (fun c3=>?_) (fun c3=>k ?_)⟩) (fun c2=>k ?_)⟩) (fun c1=>k ?_)⟩) (fun hk=>?_),?_⟩
 ·replace c1:((bt src (i:Int).toNat:Int)==48)=true:=c1;rw[cB]at c1;replace c1:=f_ 48 c1;rw[gX,show((i:Int)+1).toNat=i+1 by omega,B0 (iM _ _)]at c3;replace c3:=f_ 120 c3;obtain⟨r1,r2⟩:=tK src gz (show i+2<=src.size by omega);have eN:fw src i=(bL src gz (i+2),decide (bL src gz (i+2)>i+2)&& !(jq (bt src (bL src gz (i+2)))||ce (bt src (bL src gz (i+2))))):=by
   rw[Hh,c1,c3,bG (show i+1<src.size by omega)];rfl
  refine⟨ap,aJ,ap,aor,rfl,⟨b,src,(i:Int)+2,aK,oa,on,oc⟩,rfl,rfl,⟨by grind,by grind,hs⟩,ao,fun _ _=>?_⟩;dsimp only;rw[show((i:Int)+2).toNat=i+2 by omega,YT r2];refine aG (fun h=>fin _ ?_) (fun h=>⟨⟨bL src gz (i+2)⟩,⟨by grind,r2,?_⟩,aV,aB [0,1]⟩)
  all_goals grind
 ·replace c1:((bt src (i:Int).toNat:Int)==48)=true:=c1;rw[gX,show((i:Int)+1).toNat=i+1 by omega,B0 (iM _ _)]at c3;rw[Hh,f_ 120 c3,n6,n6];rfl
 ·rw[Hh,bK (show ¬i+1<src.size by omega),nh,n6];rfl
 ·replace c1:((bt src (i:Int).toNat:Int)==48)=false:=c1;rw[cB]at c1;rw[Hh,f_ 48 c1,nh];rfl
 ·obtain⟨r1,r2⟩:=tK src ce hi;refine⟨bV WH ⟨b,src,i,aK,oa,on,oc⟩ ⟨h0,bS,hs⟩ fun _ _=>⟨⟨bL src ce i⟩,⟨r1,r2,hk⟩,aV,aB [0,1]⟩,?_⟩;rintro⟨j⟩ js ⟨g1,g2,g3⟩;dsimp only at g1 g2 g3⊢;have sz:(src.extract i j).size=j-i:=by simp[*]
  rw[sz];refine⟨bl (fun c1=>⟨aJ,aG (fun c2=>fin j ?_) (fun c2=>⟨⟨j⟩,⟨g1,g2,?_⟩,aV,aB [0,1]⟩)⟩) (fun c1=>⟨⟨j⟩,⟨g1,g2,?_⟩,aV,aB [0,1]⟩),?_⟩
  ·rw[gX,show Int.toNat 0=0 from rfl,Yi af g2,Nat.add_zero]at c2;rw[g3,BZ,f_ 48 c2,bG (show j-i>1 by omega)];rfl
  ·rw[gX,show Int.toNat 0=0 from rfl,Yi af g2,Nat.add_zero]at c2;rw[g3,BZ,f_ 48 c2,n6];rfl
  ·rw[g3,BZ,bK (show ¬j-i>1 by omega)];rfl
  clear g1 g2 g3 sz;rintro⟨j⟩ js ⟨g1,g2,g3⟩;dsimp only at g1 g2 g3⊢;refine⟨bp wi ⟨b,src,j,aK,oa,on,oc⟩ ⟨by simp[*],hs⟩ ⟨aO.rest (j:=0) aM (aO.cells rfl),aO.rest (j:=0) aM (aO.cells rfl)⟩ fun _ _=>aG (fun c=>?_) (fun c=>⟨⟨j⟩,⟨g1,g2,?_⟩,aV,aB [0,1]⟩),?_⟩
  ·replace c:((bt src (j:Int).toNat:Int)==46)=true:=c;rw[cB]at c;replace c:=f_ 46 c;have hj:j<src.size:=DA (by grind);obtain⟨r1,r2⟩:=tK src ce (show j+1<=src.size by omega);exact⟨ap,aJ,ap,WH,rfl,⟨b,src,(j:Int)+1,aK,oa,on,oc⟩,rfl,rfl,⟨by grind,by grind,hs⟩,ao,fun _ _=>⟨⟨bL src ce (j+1)⟩,⟨by grind,r2,by rw[g3,Ej,c];rfl⟩,aV,aB [0,1]⟩⟩
  ·replace c:((bt src (j:Int).toNat:Int)==46)=false:=c;rw[cB]at c;rw[g3,Ej,f_ 46 c];rfl
  clear g1 g2 g3;rintro⟨j⟩ js ⟨g1,g2,g3⟩;dsimp only at g1 g2 g3⊢;refine bp wi ⟨b,src,j,aK,oa,on,oc⟩ ⟨by simp[*],hs⟩ ⟨aO.rest (j:=0) aM (aO.cells rfl),aO.rest (j:=0) aM (aO.cells rfl)⟩ fun _ _=>?_;dsimp only;rw[cB,B0 (iM _ _)];refine aG (fun c=>?_) (fun c=>⟨⟨j⟩,⟨g1,g2,?_⟩,aV,aB [0,1]⟩)
  ·replace c:=f_ 101 c;have hj:j<src.size:=by
    rcases Nat.lt_or_ge j src.size with h|h
    ·exact h
    ·rw[DB h]at c;cases c
   have sx:fw src i=SP src (bif bt src (j+1)==43||bt src (j+1)==45 then j+2 else j+1):=by rw[g3,yc,c];rfl
   have ej:((j:Int)+1).toNat=j+1:=af;refine⟨ap,aJ,ap,bp wi ⟨b,src,(j:Int)+1,aK,oa,on,oc⟩ ⟨by grind,hs⟩ ⟨aO.rest (j:=0) aM (aO.cells rfl),aO.rest (j:=0) aM (aO.cells rfl)⟩ fun _ _=>aG (fun d=>?_) (fun d=>bp wi ⟨b,src,(j:Int)+1,aK,oa,on,oc⟩ ⟨by grind,hs⟩ ⟨aO.rest (j:=0) aM (aO.cells rfl),aO.rest (j:=0) aM (aO.cells rfl)⟩ fun _ _=>aG (fun e=>?_) (fun e=>?_)),?_⟩
   ·replace d:((bt src ((j:Int)+1).toNat:Int)==43)=true:=d;rw[ej]at d;replace d:=f_ 43 d;have hj:j+1<src.size:=DA (by grind);exact⟨ap,aJ,ap,⟨j+2⟩,⟨by grind,by grind,by rw[sx,d];rfl⟩,aV,aB [0,1]⟩
   ·replace e:((bt src ((j:Int)+1).toNat:Int)==45)=true:=e;rw[ej]at e;replace e:=f_ 45 e;have hj:j+1<src.size:=DA (by grind);exact⟨ap,aJ,ap,⟨j+2⟩,⟨by grind,by grind,by rw[sx,e,n7];rfl⟩,aV,aB [0,1]⟩
   ·replace d:((bt src ((j:Int)+1).toNat:Int)==43)=false:=d;replace e:((bt src ((j:Int)+1).toNat:Int)==45)=false:=e;rw[ej]at d e;exact⟨⟨j+1⟩,⟨by grind,by grind,by rw[sx,f_ 43 d,f_ 45 e];rfl⟩,aV,aB [0,1]⟩
   clear sx ej g1 g2 g3 c hj;rintro⟨j⟩ js ⟨g1,g2,g3⟩;dsimp only at g1 g2 g3⊢;obtain⟨r1,r2⟩:=tK src ce g2;refine bV WH ⟨b,src,j,aK,oa,on,oc⟩ ⟨by simp[*],by simp[*],hs⟩ fun _ _=>?_;dsimp only;rw[cB,YT r2];refine aG (fun h=>fin _ ?_) (fun h=>⟨⟨bL src ce j⟩,⟨by grind,r2,?_⟩,aV,aB [0,1]⟩)
   all_goals grind
  ·rw[g3,yc,f_ 101 c];rfl
 ·rintro⟨j⟩ js ⟨g1,g2,g3⟩;dsimp only at g1 g2 g3⊢;refine bp wi ⟨b,src,j,aK,oa,on,oc⟩ ⟨by simp[*],hs⟩ ⟨aO.rest (j:=0) aM (aO.cells rfl),aO.rest (j:=0) aM (aO.cells rfl)⟩ fun _ _=>?_;dsimp only;rw[cB];have hb:=iM src j;refine bV Sz ⟨bt src j⟩ hb fun _ _=>aG (fun c=>fin j ?_) (fun c=>bV zr ⟨bt src j⟩ hb fun _ _=>aG (fun d=>fin j ?_) (fun d=>⟨rfl,ap,ap,⟨h0,af,af⟩,Ow,rfl,⟨src.extract i j⟩,rfl,rfl,?_,gE.rest (j:=1) aM hr.gl.qQ,fun _ _=>bp hN ⟨br (src.extract i j)⟩ (?_) (K.rest (j:=1) aM hr.rd) fun _ _=>⟨(),ao,?_,aD.pick [0,1] rfl ?_⟩⟩))
  ·simp[*]
  ·simp[*]
  ·dsimp only;rw[jU];omega
  ·have:=ap_ (src.extract i j);rw[jU]at this;grind
  ·show returned _=returned (.tuple #[.float .f64 (bif (fw src (i:Int).toNat).2 then K.nv (br (src.extract (i:Int).toNat (fw src (i:Int).toNat).1)) else 0),.bool (fw src (i:Int).toNat).2]);simp[*]
  ·simp only[qz,cB,g3];rfl
theorem alw:aC 60 qz:=fo 122 Tryz.func60 alv [(1,3,aT 0),(2,7,aT 0),(10,3,aT 0),(13,3,aT 0),(21,3,aT 0),(2,12,aT 0),(10,7,.w [LH.z00 (0:Nat)]),(13,7,.w [LH.z00 (0:Nat)]),(21,8,aT 0),(2,20,aT 0),(15,3,aT 0),(2,24,aT 0),(15,7,.w [LH.z00 (0:Nat)]),(3,3,aT 0),(3,7,.w [LH.z00 (0:Nat)])] aY alu bz [] alx
end
section
open Go
theorem Oh(p s:ByteArray):Lib.strCells (p++s)=Lib.strCells p++Lib.strCells s:=by
 unfold Lib.strCells;simp[*]
theorem apf{s:ByteArray}(h:s.size=0):Lib.strCells s=[]:=List.eq_nil_of_length_eq_zero (by rw[Lib.strCells_length,h])
structure IZ where
 r:Row
 p:ByteArray
 s:ByteArray
def pv(e:TypeId)(p:ByteArray)(r:Row):Prop:=bv e 1 (Lib.strCells p) r/\(r.a=none\/0<r.cap)
def ut(e:TypeId):aR where
 X:=IZ
 Y:=Row
 args x:=[au x.r.a x.r.n x.r.cap,aj x.s]
 pre x:=[x.r.A]
 cond x:=pv e x.p x.r/\x.r.n+x.s.size<=140737488355328
 cd x r:=pv e (x.p++x.s) r
 val _ r:=az r.v
 post _ r:=[r.A]
section
variable{P:Program}
theorem afk{o:Oper}{s x:Operand}{t u e:TypeId}{cy:TypeInfo}{z:Value}(ho:o.op= .call {callee:=.builtin .append,args:=#[s,x],argTypes:=#[t,u]})
  (ht:P.underlying t=some (.slice e)) (hu:P.underlying u=some .string) (hi:P.info? e=some cy) (hz:cy.zero=some z) (hk:cy.size=1) (hb:cy.bytes=1) (G4:z.cells.size=1):fj P o (ut e):=by
 refine⟨fun x F I w ρ ha hc hr hs=>?_⟩;obtain⟨r,p,str⟩:=x;obtain⟨⟨bB,KH⟩,xC⟩:=hc;dsimp only at bB xC KH;simp only[ho,Op.operands,Call.operands,ut]at ha;have c5:ρ s= .slice r.a r.n r.cap/\ρ x= .string str:=by grind
 obtain⟨qv,rH⟩:=c5;have l_:∀w',(execOp ρ o).run P w'=((Builtin.append_ #[t,u] o.type #[.slice r.a r.n r.cap,.string str]).run P w').andThen fun v w2=>.ok (.value v) w2:=by
  intro w';simp[execOp,ho,resolve,invoke,builtin,qv,rH]
 have xP:Lib.strCells str=(str.data.map (fun b=>int .u8 b.toNat)).toList:=by unfold Lib.strCells;simp
 by_cases hm:str.size=0
 ·have hy:=apf hm;refine⟨r,I,w,r.v,⟨by rw[Oh,hy,dJ];omega,KH⟩,?_,rfl,a7.le_refl I,hs,cE.refl w⟩;have bS:=bB.le;rw[l_];cases bB <;> simp[Builtin.append_,run_underlying ht,run_underlying hu,sizeOf,typeInfo,hi,Builtin.lenOf,Builtin.firstCells,storeCells,bS,hm,Row.v]
 clear hr ha;dsimp only[ut,List.cons_append,List.nil_append]at hs;have R_:=Lib.strCells_length str;cases bB with
 |nil h=>
  have cm:=run_append_nil_string (P:=P) w t u o.type e cy z ht hu hi hz str af af (by grind);have hg:=grownCap_ge w str.size 0 e;refine⟨⟨some ⟨w.heap.size,0,none⟩,str.size,grownCap w str.size 0 e,.cells w.heap.size (Lib.strCells str++(Builtin.zeroCells z.cells (grownCap w str.size 0 e-str.size)).toList) e⟩,I,w.drew.alloc (.cells (str.data.map (fun b=>int .u8 b.toNat)++Builtin.zeroCells z.cells (grownCap w str.size 0 e-str.size)) e),_,⟨?_,?_⟩,?_,rfl,a7.le_refl I,?_,ap⟩
  ·rw[Oh,h,List.nil_append];exact .gg _ _ _ _ (by simp[*]) (by simp only[gi,Array.length_toList,size_zeroCells,G4,R_];omega) hg
  ·grind
  ·left;rw[l_,cm];rfl
  ·have:=hs.alloc 0 (str.data.map (fun b=>int .u8 b.toNat)++Builtin.zeroCells z.cells (grownCap w str.size 0 e-str.size)) e;simpa[ut,CW,xP]using this
 |gg b n cap sp hl dD hn=>
  have pK:w.heap[b]?=some (.cells ⟨Lib.strCells p++sp⟩ e (0,0)):=hs.cells (j:=0) rfl;dsimp only at xC;by_cases BH:n+str.size<=cap
  ·have KJ:n+str.size<=(⟨Lib.strCells p++sp⟩:Array Value).size:=by
    simp[*]
   have cm:=Lib.run_append_room_string (P:=P) w t u o.type e cy ht hu hi hk b n cap ⟨Lib.strCells p++sp⟩ pK str BH KJ;have KX:(Lib.strCells p++sp).take n=Lib.strCells p:=by rw[show n=(Lib.strCells p).length by omega];exact List.take_left
   have jo:(Lib.strCells p++Lib.strCells str++(Lib.strCells p++sp).drop (n+str.size)).length=cap*1:=by
    grind
   refine⟨⟨some ⟨b,0,none⟩,n+str.size,cap,.cells b (Lib.strCells p++Lib.strCells str++(Lib.strCells p++sp).drop (n+str.size)) e⟩,I,w.setRow b ⟨Lib.strCells p++Lib.strCells str++(Lib.strCells p++sp).drop (n+str.size)⟩,_,⟨?_,?_⟩,?_,rfl,a7.le_refl I,?_,ap⟩
   ·rw[Oh];exact .gg _ _ _ _ (by simp[*]) jo BH
   ·omega
   ·left;rw[l_,cm];simp only[KX];rfl
   ·have:=hs.setRow (j:=0) (b:=b) (vs:=Lib.strCells p++sp) (t:=e) (Fw:=Lib.strCells p++Lib.strCells str++(Lib.strCells p++sp).drop (n+str.size)) rfl;simpa[ut,CW]using this
  ·have holds:∀j v,(Lib.strCells p)[j]?=some v->w.cell? ((⟨b,0,none⟩:Addr).add j)=some v:=by
    intro j v hj;have bP:=(mG.1 hj).1;rw[sD,DC (b:=b) ap pK];grind
   have cm:=Lib.run_append_grow_string (P:=P) w t u o.type e cy z ht hu hi hz ⟨b,0,none⟩ n cap (Lib.strCells p) (by simp[*]) holds str af af (growslice_fits af (by simp[*]));have hg:=grownCap_ge w (n+str.size) cap e;refine⟨⟨some ⟨w.heap.size,0,none⟩,n+str.size,grownCap w (n+str.size) cap e,.cells w.heap.size (Lib.strCells p++Lib.strCells str++(Builtin.zeroCells z.cells (grownCap w (n+str.size) cap e-(n+str.size))).toList) e⟩,I,w.drew.alloc (.cells ((Lib.strCells p).toArray++(Lib.strCells str).toArray++Builtin.zeroCells z.cells (grownCap w (n+str.size) cap e-(n+str.size))) e),_,⟨?_,?_⟩,?_,rfl,a7.le_refl I,?_,ap⟩
   ·rw[Oh];refine .gg _ _ _ _ (by simp[*]) ?_ hg;simp only[gi,hl,R_,Array.length_toList,size_zeroCells,G4];omega
   ·grind
   ·left;rw[l_,cm];rfl
   ·have:=hs.alloc 0 ((Lib.strCells p).toArray++(Lib.strCells str).toArray++Builtin.zeroCells z.cells (grownCap w (n+str.size) cap e-(n+str.size))) e;simpa[ut,CW]using this
end
end
section
open Go
section
variable{P:Program}
structure Xz where
 a:Option Addr
 n:Nat
 cap:Nat
def IT:mw where
 X:=Xz
 args x:=[.slice x.a x.n x.cap]
 cond x:=x.a=none\/0<x.cap
 val x:=.pointer x.a
variable{o:Oper}{s x:Operand}{dst src t:TypeId}{j:TypeInfo}
theorem apP(ho:o.op= .call {callee:=.builtin .unsafeSliceData,args:=#[s],argTypes:=#[t]}):dH P o IT:=by
 refine⟨fun x w ρ ha hc=>?_⟩;obtain⟨a,n,cap⟩:=x;simp only[ho,Op.operands,Call.operands,IT]at ha;have c5:ρ s= .slice a n cap:=by grind
 have cm:(Builtin.unsafeSliceData_ #[t] o.type #[.slice a n cap]).run P w= .ok (.pointer a) w:=by
  cases a with
  |none=>rfl
  |some ad=>
   have hc:(some ad:Option Addr)=none\/0<cap:=hc;exact Lib.run_unsafeSliceData_row w _ _ ad n cap (Or.elim hc (fun h=>nomatch h) (fun h=>af))
 simp[execOp,ho,resolve,invoke,builtin,c5,cm,IT]
structure QB where
 r:Row
 p:ByteArray
def Fv(e:TypeId):aR where
 X:=QB
 args x:=[ah x.r.a,ae x.r.n]
 pre x:=[x.r.A]
 cond x:=pv e x.p x.r/\x.p.size<=9223372036854775807
 val x _:=az (aj x.p)
 post _ _:=[.dT]
theorem acx{pt it e:TypeId}(ho:o.op= .call {callee:=.builtin .unsafeString,args:=#[s,x],argTypes:=#[pt,it]})(hp:P.underlying pt=some (.pointer e))(vN:P.cellsOf e=1):fj P o (Fv e):=by
 refine⟨fun X F I w ρ ha hc hr hs=>?_⟩;obtain⟨r,p⟩:=X;obtain⟨⟨bB,KH⟩,gx⟩:=hc;dsimp only at bB KH gx;simp only[ho,Op.operands,Call.operands,Fv]at ha;have c5:ρ s= .pointer r.a/\ρ x= .int .i64 r.n:=by grind
 obtain⟨qv,rH⟩:=c5;have hn:r.n=p.size:=by have:=bB.len;rw[Lib.strCells_length]at this;omega
 have hpl:p.data.toList.length=p.size:=aM;have drop:∀(w':World),(∀c,∀b,r.a=some ⟨b,0,none⟩->c≠b->w'.heap[c]?=w.heap[c]?)->w'.heap.size=w.heap.size->(r.a=none->w'=w)->Sat I (bD ((Fv e).post ⟨r,p⟩ ()++[F])) w':=by
  intro w' h1 h2 h3;have key:Sat I (gn (bD [r.A,F]) 0 .dT) w':=by
   cases bB with
   |nil h=>rw[h3 rfl];exact hs
   |gg b n cap sp hl dD hn=>
    exact hs.write (j:=0) (b:=b) (fun o ho=>ho.1) (fun c hc=>h1 c b rfl hc) h2 (fun _ _=>ao)
  exact key
 by_cases h0:p.size=0
 ·have vQ:p= .empty:=by
   apply ByteArray.ext;apply Array.eq_empty_of_size_eq_zero;simp[*]
  have cm:=Lib.run_unsafeString_none (P:=P) w pt it o.type r.a;refine⟨(),I,w,.string p,ao,.inl ?_,rfl,a7.le_refl I,drop w (fun _ _ _ _=>rfl) rfl (fun _=>rfl),cE.refl w⟩;rw[show(r.n:Int)=0 by omega]at rH;simp[execOp,ho,resolve,invoke,builtin,qv,rH,cm,vQ]
 ·cases bB with
  |nil h=>exact absurd (by grind) h0
  |gg b n cap sp hl dD R3=>
   have pK:w.heap[b]?=some (.cells ⟨Lib.strCells p++sp⟩ e (0,0)):=hs.cells (j:=0) rfl;have cm:=Lib.run_unsafeString_row (P:=P) w pt it o.type e hp vN b cap (by unfold World.shape?;simp[*]) p.data.toList (by grind) (by grind) af (by
    intro j x hj;rw[sD,DC (b:=b) ap pK];simp only[jk];have bP:=(mG.1 hj).1;rw[rB (by grind)];simp[Lib.strCells,hj])
   rw[hpl]at cm;refine⟨(),I,w.freeze ⟨b,0,none⟩ p.size,.string p,ao,.inl ?_,rfl,a7.le_refl I,drop _ ?_ ?_ (fun h=>by cases h),?_⟩
   ·dsimp only at hn rH qv;rw[hn]at rH;simp[execOp,ho,resolve,invoke,builtin,qv,rH,cm]
   ·intro c b' hb DT;cases hb;unfold World.freeze;grind
   ·unfold World.freeze;simp[*]
   ·unfold World.freeze;rw[if_neg h0];exact ap
structure OZ where
 c:Int
def Fc:mw where
 X:=OZ
 args x:=[.int .i32 x.c]
 cond _:=True
 val x:=.string (Utf8.encode x.c)
theorem Wx(ho:o.op= .convert src dst x)(hs:(P.underlying src).isSome=true)(hd:P.underlying dst=some .string):dH P o Fc:=by
 refine⟨fun y w ρ ha hc=>?_⟩;obtain⟨c⟩:=y;simp only[ho,Op.operands,Fc]at ha;have c5:ρ x= .int .i32 c:=by grind
 have cm:=run_convert_int_string (P:=P) w src dst .i32 c hs hd;simp only[execOp,ho,c5];show((convert src dst (.int .i32 c))>>=fun v=>(pure (Next.value v):Sem Next)).run P w=_;rw[Sem.run_bind,cm];rfl
structure OI where
 b:Nat
structure px(F:ai)(b:Nat)(t:TypeId):Prop where
 h:∀(I:a7)(m:Hp)(o:w8),F.holds I m o->∃vs:List Value,m b=some (.cells ⟨vs⟩ t (0,0))/\vs.length=2
theorem px.sub{A B:ai}{b:Nat}(hs:Sub A B)(h:px A b t):px B b t:=⟨fun I m o hB=>let ⟨o',hA⟩:=hs I m o hB;h.h I m o' hA⟩
theorem px.cells{b:Nat}{t:TypeId}(u v:Value):px (.cells b [u,v] t) b t:=⟨fun _ _ _ h=>⟨_,h.2,rfl⟩⟩
theorem px.get{I:a7}{S:St}{w:World}{j b:Nat}(h:px (gt S j) b t)(hs:Sat I S w):∃vs:List Value,w.heap[b]?=some (.cells ⟨vs⟩ t (0,0))/\vs.length=2:=by
 obtain⟨f,h1,_⟩:=hs.mN;exact h.h _ _ _ (h1 j)
def Bp(t:TypeId):aR where
 X:=OI
 args x:=[ah (some ⟨x.b,0,none⟩)]
 aQ x F:=px F x.b t
 val x _:=az (ah (some ⟨x.b,0,none⟩))
theorem agy{u:TypeId}(ho:o.op= .convert src dst x)(hs:P.underlying src=some (.pointer t))(hd:P.underlying dst=some .unsafePointer)(ht:P.info? t=some j)(hj:j.size≠0):fj P o (Bp u):=by
 refine⟨fun y F I w ρ ha hc hr qw=>?_⟩;obtain⟨b⟩:=y;simp only[ho,Op.operands,Bp]at ha;have c5:ρ x= .pointer (some ⟨b,0,none⟩):=by grind
 obtain⟨vs,pK,hc⟩:=px.get (j:=0) (show px (gt (bD [F]) 0) b u from hr) qw;have cm:=Lib.run_to_unsafe (P:=P) w ⟨b,0,none⟩ hs hd ht hj (e:=u) (cells:=2) (by simp[World.shape?,pK,hc]) (show(0:Nat)<2 by decide);refine⟨(),I,w,_,ao,.inl ?_,rfl,a7.le_refl I,qw,cE.refl w⟩;simp only[execOp,ho,c5];simp[*]
theorem agx(ho:o.op= .convert src dst x)(hs:P.underlying src=some .unsafePointer)(hd:P.underlying dst=some (.pointer t))(ht:P.info? t=some j)(hl:liesAt P P.depth t (2/P.cellsOf t) 0 t 1=true):fj P o (Bp t):=by
 refine⟨fun y F I w ρ ha hc hr qw=>?_⟩;obtain⟨b⟩:=y;simp only[ho,Op.operands,Bp]at ha;have c5:ρ x= .pointer (some ⟨b,0,none⟩):=by grind
 obtain⟨vs,pK,hc⟩:=px.get (j:=0) (show px (gt (bD [F]) 0) b t from hr) qw;have cm:=Lib.run_from_unsafe (P:=P) w ⟨b,0,none⟩ hs hd ht (e:=t) (cells:=2) (by simp[World.shape?,pK,hc]) hl;refine⟨(),I,w,_,ao,.inl ?_,rfl,a7.le_refl I,qw,cE.refl w⟩;simp only[execOp,ho,c5];simp[*]
structure I_ where
 a:Option Addr
def He(f:FuncId):mw where
 X:=I_
 args x:=[.func (.func f) #[] #[],.pointer x.a]
 cond _:=True
 val x:=.pointer x.a
theorem alC{f:FuncId}{fn:Func}{ts:Array TypeId}(ho:o.op= .call {callee:=.value (.func f),args:=#[x],argTypes:=ts})
  (hf:P.funcs[f]?=some fn) (ai9:(fn.name== "runtime.NumGoroutine")=false) (hb:fn.body.isNone=true) (hn:Extern.findNext fn=none) (he:Extern.find fn=some Extern.AbiNoEscape.same):dH P o (He f):=by
 refine⟨fun y w ρ ha hc=>?_⟩;obtain⟨a⟩:=y;simp only[ho,Op.operands,Call.operands,He]at ha;have c5:ρ (.func f)= .func (.func f) #[] #[]/\ρ x= .pointer a:=by grind
 have Zq:=run_callFunc_extern (P:=P) hf ai9 hb hn he #[.pointer a] w;rw[Lib.run_noEscape]at Zq;simp[execOp,ho,resolve,Deferred.ofValue,invoke,c5.1,c5.2,Zq,He]
end
end
section
open Go
section
variable{P:Program}
def Hl:mw where
 X:=I_
 args x:=[.pointer x.a,.pointer none]
 cond _:=True
 val x:=.bool x.a.isNone
theorem am0{o:Oper}{t u:TypeId}{x y:Operand}(ho:o.op= .binOp .eql t x y u)(h:P.underlying t=some (.pointer (P.pointee t))):dH P o Hl:=by
 refine⟨fun X w ρ ha hc=>?_⟩;obtain⟨a⟩:=X;simp only[ho,Op.operands,Hl]at ha;have c5:ρ x= .pointer a/\ρ y= .pointer none:=by grind
 have cm:=run_eql_pointer_nil (P:=P) w t a h;have hg:(eqGuard .eql t x y (.pointer a) (.pointer none)).run P w= .ok () w:=by cases a <;> rfl
 simp[execOp,ho,c5.1,c5.2,hg,cm,Hl]
structure y7 where
 a:Addr
def Ho:mw where
 X:=y7
 args x:=[.pointer (some x.a),.pointer (some x.a)]
 cond _:=True
 val _:=.bool false
theorem anu{o:Oper}{t u e:TypeId}{j:TypeInfo}{x y:Operand}(ho:o.op= .binOp .neq t x y u)(h:P.underlying t=some (.pointer e))(hj:P.info? e=some j):dH P o Ho:=by
 refine⟨fun X w ρ ha hc=>?_⟩;obtain⟨a⟩:=X;simp only[ho,Op.operands,Ho]at ha;have c5:ρ x= .pointer (some a)/\ρ y= .pointer (some a):=by grind
 have cm:=Lib.run_neq_ptr_same (P:=P) w a h hj;have hg:(eqGuard .neq t x y (.pointer (some a)) (.pointer (some a))).run P w= .ok () w:=rfl;simp[execOp,ho,c5.1,c5.2,hg,cm,Ho]
end
structure FC where
 b:Nat
 p:Option Addr
 v:Value
def Ai(x:FC):Option Addr:=some ⟨x.b,0,none⟩
def Bk:aR where
 X:=FC
 args x:=[ah (Ai x)]
 pre x:=[ag x.b [ah x.p,x.v] 95]
 cond x:=x.p=none\/x.p=some ⟨x.b,0,none⟩
 val _ _:=.returned (.tuple #[])
 post x _:=[ag x.b [ah (Ai x),x.v] 95]
def P_(oo:Oper)(aa:List Value)(rr:ai)(k0:OI->Unit->Prop):=fj Tryz.prog oo (Bp (95:TypeId))/\true=true/\∃(z:OI),aa=[ah (some ⟨z.b,0,none⟩)]/\([]:List ai)=[]/\True/\px rr z.b 95/\∀(u0:Unit),True->k0 z u0
def ND(x:FC)(F:ai):=[(0,ag x.b [ah x.p,x.v] 95),(1,F)]
def eM:=az (tuple ⟨[]⟩)
theorem af4(x:FC)(F:ai)(hc:Bk.cond x)(hr:Bk.aQ x F):ax x.b 0/\dH Tryz.prog (a8 Tryz.f91 0 4) Hl/\∃(f:I_),[ah x.p,ah none]=[ah f.a,ah none]/\True/\Br f.a.isNone (P_ (a8 Tryz.f91 1 2) [ah (Ai x)] (aH (ND x F) []) (fun e d=>dH Tryz.prog (a8 Tryz.f91 1 3) (He (105:FuncId))/\∃(c:I_),[func (Fn.func 105) ⟨[]⟩ ⟨[]⟩,ah (some ⟨e.b,0,none⟩)]=[func (Fn.func 105) ⟨[]⟩ ⟨[]⟩,ah c.a]/\True/\P_ (a8 Tryz.f91 1 4) [ah c.a] (aH (ND x F) []) (fun b a=>ax x.b 0/\aq Bk x F eM [(0,ag x.b [ah (some ⟨b.b,0,none⟩),x.v] 95),(1,F)]))) (ax x.b 0/\dH Tryz.prog (a8 Tryz.f91 2 5) Ho/\∃(a:y7),[ah x.p,ah (Ai x)]=[ah (some a.a),ah (some a.a)]/\True/\aq Bk x F eM (ND x F)):=by
 delta P_ Ai ND eM aH ax ah ag az;have rE:px (.dv (rest [(0,ai.cells x.b [pointer x.p,x.v] 95),(1,F)] [])) x.b 95:=(px.cells _ _).sub (b_ 0);refine⟨ap,am0 rfl rfl,⟨x.p⟩,rfl,ao,aG (fun h=>?_) (fun h=>?_)⟩
 ·exact bp (agy rfl rfl rfl rfl (by decide)) ⟨x.b⟩ trivial rE fun _ _=>⟨alC rfl rfl rfl rfl rfl bh,⟨some ⟨x.b,0,none⟩⟩,rfl,ao,agx rfl rfl rfl rfl bh,rfl,⟨x.b⟩,rfl,rfl,ao,rE,fun _ _=>⟨ap,(),ao,rfl,aB [0,1]⟩⟩
 ·have hp:x.p=some ⟨x.b,0,none⟩:=by
   rcases hc with hc|hc
   all_goals grind
  exact⟨ap,anu rfl rfl rfl,⟨⟨x.b,0,none⟩⟩,by rw[hp],ao,(),ao,rfl,aD.pick [0,1] rfl (by rw[hp];rfl)⟩
theorem af3:aC 91 Bk:=fo 20 Tryz.func91 (fun _ _=>[(0,4,.qo Hl),(2,5,.qo Ho),(1,2,.o (Bp 95) [] []),(1,3,.qo (He 105)),(1,4,.o (Bp 95) [] [])]) [(0,3,aT 0),(1,7,.w [LH.z00 (0:Nat)]),(2,3,aT 0)] aY aY bz [] af4
structure ub where
 b:Nat
 p:Option Addr
 r:Row
 t:ByteArray
 s:ByteArray
def rQ(x:ub):Option Addr:=some ⟨x.b,0,none⟩
def uV(x:ub):List Value:=[ah x.p,au x.r.a x.r.n x.r.cap]
def EZ(x:ub)(r:Row):List Value:=[ah (rQ x),au r.a r.n r.cap]
def C0:aR where
 X:=ub
 Y:=Row
 args x:=[ah (rQ x),aj x.s]
 pre x:=[ag x.b (uV x) 95,x.r.A]
 cond x:=(x.p=none\/x.p=some ⟨x.b,0,none⟩)/\pv 5 x.t x.r/\x.r.n+x.s.size<=140737488355328
 cd x r:=pv 5 (x.t++x.s) r
 val x _:=.returned (.tuple #[.int .i64 x.s.size,.nilIface])
 post x r:=[ag x.b (EZ x r) 95,r.A]
def aqr(x:ub)(F:ai):Nat->Option Inv:=fun
 |2=>some {X:=Unit,P:=fun _=>True,mu:=fun _=>0,lv:=fun _=>[(0,ah (rQ x)),(1,aj x.s)],st:=fun _=>[ag x.b [ah (rQ x),au x.r.a x.r.n x.r.cap] 95,x.r.A,F]}
 |_=>none
def Di(oo:Oper)(aa:List Value)(pp:List ai)(k0:IZ->Row->Prop):=fj Tryz.prog oo (ut (5:TypeId))/\true=true/\∃(z:IZ),aa=[au z.r.a z.r.n z.r.cap,aj z.s]/\pp=[z.r.A]/\(pv 5 z.p z.r/\z.r.n+z.s.size<=140737488355328)/\True/\∀(u0:Row),pv 5 (z.p++z.s) u0->k0 z u0
theorem aqs(x:ub)(F:ai)(hc:C0.cond x)(hr:C0.aQ x F):(aC 91 Bk/\true=true/\∃(c:FC),[ah (rQ x)]=[ah (Ai c)]/\[ag x.b (uV x) 95]=[ag c.b [ah c.p,c.v] 95]/\(c.p=none\/c.p=some ⟨c.b,0,none⟩)/\True/\∀(b:Unit),True->∃(a:Unit),True/\(ah (rQ x)=ah (rQ x)/\aj x.s=aj x.s/\True)/\aD [(0,ag c.b [ah (Ai c),c.v] 95),(1,x.r.A),(2,F)] [(0,ag x.b [ah (rQ x),au x.r.a x.r.n x.r.cap] 95),(1,x.r.A),(2,F)])/\aS fun(d:Unit)_=>True->ax x.b 1/\Di (a8 Tryz.f76 2 6) [au x.r.a x.r.n x.r.cap,aj x.s] [x.r.A] (fun b a=>ax x.b 1/\aq C0 x F (az (tuple ⟨[ae ↑x.s.size,nilIface]⟩)) [(0,ag x.b (EZ x a) 95),(1,a.A),(2,F)]):=by
 delta rQ Ai uV Di EZ ax ae aj ah au ag az aS;obtain⟨hp,bB,hs⟩:=hc;refine⟨bV af3 ⟨x.b,x.p,.slice x.r.a x.r.n x.r.cap⟩ hp fun _ _=>⟨(),ao,aV,aB [0,1,2]⟩,?_⟩;intro _ js _;exact⟨ap,afk rfl rfl rfl rfl rfl rfl rfl rfl,rfl,⟨x.r,x.t,x.s⟩,rfl,rfl,⟨bB,hs⟩,ao,fun r hr=>⟨ap,r,hr,rfl,aB [0,1,2]⟩⟩
theorem acH:aC 76 C0:=fo 19 Tryz.func76 (fun _ _=>[(1,1,bq Bk),(2,6,.o (ut 5) [1] [1])]) [(2,4,aT 0),(2,9,.w [LH.z00 (0:Nat)])] aY aqr bz [] aqs
def Dz:aR where
 X:=ub
 args x:=[ah (rQ x)]
 pre x:=[ag x.b (uV x) 95,x.r.A]
 cond x:=pv 5 x.t x.r/\x.t.size<=140737488355328
 val x _:=az (aj x.t)
 post x _:=[ag x.b (uV x) 95,.dT]
def JH(oo:Oper)(aa:List Value)(pp:List ai)(k0:QB->Unit->Prop):=fj Tryz.prog oo (Fv (5:TypeId))/\true=true/\∃(z:QB),aa=[ah z.r.a,ae ↑z.r.n]/\pp=[z.r.A]/\(pv 5 z.p z.r/\z.p.size<=9223372036854775807)/\True/\∀(u0:Unit),True->k0 z u0
theorem afW(x:ub)(F:ai)(hc:Dz.cond x)(hr:Dz.aQ x F):true=true/\ax x.b 1/\dH Tryz.prog (a8 Tryz.f74 1 4) IT/\∃(c:Xz),[au x.r.a x.r.n x.r.cap]=[au c.a c.n c.cap]/\(c.a=none\/0<c.cap)/\ax x.b 1/\JH (a8 Tryz.f74 1 10) [ah c.a,ae ↑x.r.n] [x.r.A] (fun b a=>aq Dz x F (az (aj b.p)) [(0,ag x.b (uV x) 95),(1,ba),(2,F)]):=by
 delta JH uV ax ae aj ah au ag ba az;obtain⟨bB,hs⟩:=hc;exact⟨rfl,ap,apP rfl,⟨x.r.a,x.r.n,x.r.cap⟩,rfl,bB.2,ap,acx rfl rfl bh,rfl,⟨x.r,x.t⟩,rfl,rfl,⟨bB,by grind⟩,ao,fun _ _=>⟨(),ao,rfl,aB [0,1,2]⟩⟩
theorem afV:aC 74 Dz:=fo 14 Tryz.func74 (fun _ _=>[(1,4,.qo IT),(1,10,.o (Fv 5) [1] [1])]) [(1,3,aT 0),(1,8,aT 0)] aY aY bz [] afW
end
section
open Go
def Sc(c:Nat):Prop:=c<55296\/(57343<c/\c<=1114111)
variable{c:Nat}
theorem aaP{s:ByteArray}{i n:Nat}(h:eo s i=some (c,n)):Sc c:=by
 unfold eo at h;by_cases hi:i<s.size
 ·rw[bG hi,bf]at h;have h1:=Lib.decodeN_valid (s.size-i) (bt s i) (bt s (i+1)) (bt s (i+2)) (bt s (i+3)) (iM s i);revert h h1;generalize Lib.decodeN (s.size-i) (bt s i) (bt s (i+1)) (bt s (i+2)) (bt s (i+3))=d;obtain⟨c',n'⟩:=d;intro h h1;have h':(bif c'==65533&&n'==1 then none else some (c',n'))=some (c,n):=h;cases hb:(c'==65533&&n'==1)with
  |true=>rw[hb]at h';cases h'
  |false=>rw[hb]at h';cases h';exact h1
 grind
def fZ(c:Nat):List Nat:=
 if c<128 then [c] else if c<2048 then [192+c/64,128+c%64] else if c<65536 then [224+c/4096,128+c/64%64,128+c%64] else [240+c/262144,128+c/4096%64,128+c/64%64,128+c%64]
theorem Q3(h:Sc c):Utf8.encode (c:Int)=cQ (fZ c):=by
 have hv:Utf8.valid (c:Int)=true:=by
  unfold Utf8.valid;unfold Sc at h;simp;omega
 unfold Utf8.encode fZ cQ;rw[hv];simp only[cB,if_true]
 repeat' split
 all_goals first|rfl| (exfalso;omega)
theorem uy(l:List Nat):(cQ l).size=l.length:=by
 unfold cQ ByteArray.size;simp
theorem Gn{l:List Nat}(h:∀b∈l,b<256)(k:Nat):bt (cQ l) k=l.getD k 0:=by
 unfold bt cQ;simp only[List.getElem?_toArray,gw,fD];cases hk:l[k]? with
 |none=>rfl
 |some b=>
  have:=h b (oU hk);simp[*]
theorem YN(h:Sc c):∀b∈fZ c,b<256:=by
 unfold Sc at h;unfold fZ;intro b hb;split at hb
 ·grind
 ·split at hb
  ·grind
  ·split at hb
   ·simp at hb;omega
   ·simp at hb;omega
theorem alF(h:Sc c):eo (cQ (fZ c)) 0=some (c,(fZ c).length):=by
 have hb:=YN h;unfold eo;rw[uy,Gn hb,Gn hb,Gn hb,Gn hb,Nat.sub_zero];unfold Sc at h;have key:Lib.decodeN (fZ c).length ((fZ c).getD 0 0) ((fZ c).getD (0+1) 0) ((fZ c).getD (0+2) 0) ((fZ c).getD (0+3) 0)=(c,(fZ c).length):=by
  unfold fZ;by_cases h1:c<128
  ·rw[if_pos h1];show Lib.decodeN 1 c 0 0 0=(c,1);unfold Lib.decodeN;simp[*]
  rw[if_neg h1];by_cases h2:c<2048
  ·rw[if_pos h2];show Lib.decodeN 2 (192+c/64) (128+c%64) 0 0=(c,2);unfold Lib.decodeN;grind
  rw[if_neg h2];by_cases h3:c<65536
  ·rw[if_pos h3];show Lib.decodeN 3 (224+c/4096) (128+c/64%64) (128+c%64) 0=(c,3);have e:(224+c/4096)%16*4096+(128+c/64%64)%64*64+(128+c%64)%64=c:=af;unfold Lib.decodeN;rw[if_neg af,if_neg af,if_pos af,e,if_pos af]
  rw[if_neg h3];show Lib.decodeN 4 (240+c/262144) (128+c/4096%64) (128+c/64%64) (128+c%64)=(c,4);have e:(240+c/262144)%8*262144+(128+c/4096%64)%64*4096+(128+c/64%64)%64*64+(128+c%64)%64=c:=af;unfold Lib.decodeN;rw[if_neg af,if_neg af,if_neg af,if_pos af,e,if_pos af]
 have hl:1<=(fZ c).length:=by
  unfold fZ;grind
 rw[key,bG (show 0<(fZ c).length by omega),bf];have hn:(c==65533&&(fZ c).length==1)=false:=by
  by_cases h1:c=65533
  ·subst h1;rfl
  simp[*]
 simp[*]
theorem aqa(h:Sc c):br (cQ (fZ c))=cQ (jz c):=by
 unfold br;have hn:=alF h;obtain⟨_,f2,_⟩:=pO hn;rw[uy];obtain⟨f,hf⟩:∃f,(fZ c).length=f+1:=⟨(fZ c).length-1,af⟩;have e1:nK (cQ (fZ c)) ((fZ c).length+1) 0 []=jz c:=by
  rw[nK,bG (show 0<(cQ (fZ c)).size by omega),bf,hn];show nK (cQ (fZ c)) (fZ c).length (0+(fZ c).length) ([]++jz c)=jz c;rw[jk,List.nil_append];generalize hk:(fZ c).length=k;rw[hf]at hk;subst hk;rw[nK,bK (show ¬f+1<(cQ (fZ c)).size by rw[uy];omega)];rfl
 rw[e1]
theorem acD(h:Sc c):br (Utf8.encode (c:Int))=cQ (jz c):=by rw[Q3 h,aqa h]
theorem agW:(fZ c).length<=4:=by
 unfold fZ
 repeat' split
 all_goals simp
theorem Q4(h:Sc c):(Utf8.encode (c:Int)).size<=4:=by rw[Q3 h,uy];exact agW
theorem agX(h:Sc c)(h1:128<=c):2<=(Utf8.encode (c:Int)).size/\∀k,k<(Utf8.encode (c:Int)).size->128<=bt (Utf8.encode (c:Int)) k:=by
 rw[Q3 h,uy];refine⟨?_,fun k hk=>?_⟩
 ·unfold fZ;grind
 ·rw[Gn (YN h)];have hm:(fZ c).getD k 0∈fZ c:=by
   simp[*]
  revert hm;generalize (fZ c).getD k 0=b;unfold fZ;rw[if_neg af];intro hm;split at hm
  ·grind
  ·split at hm
   ·simp at hm;omega
   ·simp at hm;omega
theorem Yh(a b:List Nat):cQ a++cQ b=cQ (a++b):=by
 apply ByteArray.ext;rw[ByteArray.data_append];unfold cQ;simp
end
section
open Go
set_option maxRecDepth 20000
structure FI where
 s:ByteArray
 c:Nat
def uG:aR where
 X:=FI
 args x:=[aj x.s,a_ x.c]
 cond x:=x.c<256
 val x _:=az (ae (Lib.indexByte x.s.data.toList (UInt8.ofNat x.c)))
theorem ajW:aC 79 uG:=ud uG (fun _=>rfl) (fun _ _=>()) (fun _ _=>ao) (fun _ _=>rfl) fun x F I w hc hr hs=>
 (Go.Proofs.Tryz.stringslite_IndexByte x.s x.c w).mono fun e w' h=>⟨h.1,RowKit.Below.of_eq h.2⟩
def A_(ff:FuncId)(aa:List Value)(k0:FI->Unit->Prop):=aC ff uG/\true=true/\∃(z:FI),aa=[aj z.s,a_ ↑z.c]/\([]:List ai)=[]/\z.c<256/\True/\∀(u0:Unit),True->k0 z u0
def Nx(b:FI):=az (ae (Lib.indexByte b.s.data.toList (UInt8.ofNat b.c)))
theorem ajV(x:FI)(F:ai)(hc:uG.cond x)(hr:uG.aQ x F):A_ 79 [aj x.s,a_ ↑x.c] (fun b a=>aq uG x F (Nx b) [(0,F)]):=by
 delta A_ Nx ae a_ aj az;exact bV ajW x hc fun _ _=>lJ
theorem Sm:aC 100 uG:=fo 8 Tryz.func100 (fun _ _=>[(1,2,aX uG)]) [] aY aY bz [] ajV
structure OU where
 b:Nat
 s:ByteArray
 p:Nat
section
variable{P:Program}
def Ln:aR where
 X:=OU
 Y:=Unit ⊕ Unit
 args x:=[ah (some ⟨x.b,0,none⟩)]
 pre x:=[.iT x.b (.stringIter x.s x.p)]
 cd x y:=match y with
  | .inl _=>x.p<x.s.size
  | .inr _=>¬x.p<x.s.size
 val x y:=match y with
  | .inl _=>.returned (.tuple #[.bool true,.int .i64 x.p,.int .i32 (Utf8.decode x.s x.p).1])
  | .inr _=>.returned (.tuple #[.bool false])
 post x y:=match y with
  | .inl _=>[.iT x.b (.stringIter x.s (x.p+(Utf8.decode x.s x.p).2))]
  | .inr _=>[.iT x.b (.stringIter x.s x.p)]
 sum:=some (iX Unit Unit)
theorem alW{o:Oper}{x:Operand}(ho:o.op= .next x true):fj P o Ln:=by
 refine⟨fun X F I w ρ ha hc hr hs=>?_⟩;obtain⟨b,s,p⟩:=X;simp only[ho,Op.operands,Ln]at ha;have c5:ρ x= .pointer (some ⟨b,0,none⟩):=by grind
 have hk:w.heap[b]?=some (.stringIter s p):=by
  obtain⟨f,h1,_⟩:=hs.mN;exact(h1 0).2
 by_cases hp:p<s.size
 ·have cm:=Lib.run_next_any_at (P:=P) w b s p o.type hk hp;refine⟨.inl (),I,w.iterAt b s (p+(Utf8.decode s p).2),_,hp,.inl ?_,rfl,a7.le_refl I,?_,ap⟩
  ·simp[execOp,ho,c5,cm]
  ·have bP:b<w.heap.size:=(Array.getElem?_eq_some_iff.1 hk).1;exact hs.write (j:=0) (b:=b) (A':=.iT b (.stringIter s (p+(Utf8.decode s p).2))) (fun o ho=>ho.1) (fun c hc=>by simp[World.iterAt,Array.getElem?_setIfInBounds,Ne.symm hc]) (by simp[World.iterAt]) (fun o ho=>⟨ho.1,by show(w.heap.setIfInBounds b (.stringIter s (p+(Utf8.decode s p).2)))[b]?=_;simp[*]⟩)
 ·have cm:=Lib.run_next_end_at (P:=P) w b s p o.type hk hp;refine⟨.inr (),I,w,_,hp,.inl ?_,rfl,a7.le_refl I,hs,cE.refl w⟩;simp[execOp,ho,c5,cm]
end
structure Bb where
 c:Nat
def Ov:aR where
 X:=Bb
 args x:=[d8 x.c]
 cond x:=Sc x.c
 val _ _:=az (ak true)
theorem ap3:aC 104 Ov:=ud Ov (fun _=>rfl) (fun _ _=>()) (fun _ _=>ao) (fun _ _=>rfl) fun x F I w hc hr hs=>by
 have hc:Sc x.c:=hc;have e:Lib.validRune (x.c:Int)=true:=by
  unfold Sc at hc;unfold Lib.validRune;simp;omega
 exact(Go.Proofs.Tryz.utf8_ValidRune x.c w).mono fun e' w' h=>⟨by rw[h.1,e];rfl,RowKit.Below.of_eq h.2⟩
def e9:ByteArray:=⟨#[98,116,110,118,102,114]⟩
def i7(c:Nat):Int:=if c<128 then Lib.indexByte e9.data.toList (UInt8.ofNat c) else-1
def vY:aR where
 X:=Bb
 args x:=[aj e9,d8 x.c]
 cond x:=Sc x.c
 val x _:=az (ae (i7 x.c))
theorem agF(p:Nat)(h:p<6):(Utf8.decode e9 p).1<128/\(Utf8.decode e9 p).2=1:=by
 have:∀p:Fin 6,(Utf8.decode e9 p.val).1<128/\(Utf8.decode e9 p.val).2=1:=by decide+kernel
 exact this ⟨p,h⟩
theorem afY(k:Nat):bt e9 k<128:=by
 rcases Nat.lt_or_ge k 6 with h|h
 ·have:∀k:Fin 6,bt e9 k.val<128:=by decide+kernel
  exact this ⟨k,h⟩
 ·rw[DB (show e9.size<=k from h)];decide
theorem Z5:∀(l:List UInt8)(b:UInt8),(∀a∈l,a≠b)->Lib.indexByte l b= -1
 | [],_,_=>rfl
 |a::l,b,h=>by
  rw[Lib.indexByte,Z5 l b fun a ha=>h a (sS _ ha)];have:(a==b)=false:=ga.2 (h a (ni ..));rw[this];rfl
theorem ag4:∀a∈e9.data.toList,a.toNat<128:=by decide+kernel
structure FN where
 b:Nat
 p:Nat
def E2(d:FN):Option Addr:=some ⟨d.b,0,none⟩
def aj_(x:Bb)(F:ai):Nat->Option Inv:=fun
 |1=>some {X:=Unit,P:=fun _=>True,mu:=fun _=>0,lv:=fun _=>[(0,aj e9),(1,d8 x.c),(7,aj (Utf8.encode x.c)),(8,ae ((Utf8.encode x.c).size-1)),(9,ae ((Utf8.encode x.c).size-1))],st:=fun _=>[F]}
 |9=>some {X:=FN,P:=fun d=>x.c=65533,mu:=fun d=>6-d.p,lv:=fun d=>[(0,aj e9),(1,d8 x.c),(175,ah (E2 d))],st:=fun d=>[F,.iT d.b (.stringIter e9 d.p)]}
 |_=>none
def Wo(F:ai)(c:OU):=[(0,F),(1,sT c.b (Obj.stringIter c.s (c.p+(Utf8.decode c.s c.p).snd)))]
def Dj(oo:Oper)(aa:List Value)(k0:OZ->Prop):=dH Tryz.prog oo Fc/\∃(z:OZ),aa=[d8 z.c]/\True/\k0 z
def Uk(x:Bb):=0<=(↑(Utf8.encode (x.c:Int)).size:Int)-1/\(↑(Utf8.encode (x.c:Int)).size:Int)-1<(↑(Utf8.encode (x.c:Int)).size:Int)
theorem akb(x:Bb)(F:ai)(hc:vY.cond x)(hr:vY.aQ x F):aP ((x.c:Int)<128) (A_ 100 [aj e9,a_ (u8.wrap (x.c:Int))] (fun b a=>aq vY x F (Nx b) [(0,F)])) (Br ((x.c:Int)==65533) (∀(f:Nat),(∃(a:FN),x.c=65533/\(aj e9=aj e9/\d8 ↑x.c=d8 ↑x.c/\ah (bJ f)=ah (E2 a)/\True)/\aD [(0,F),(37010,sT f (Obj.stringIter e9 0))] [(0,F),(1,sT a.b (Obj.stringIter e9 a.p))])/\aS fun(e:FN)_=>x.c=65533->fj Tryz.prog ⟨some 176,Op.next (Operand.tmp 175) true,0,"strings.go:116",⟨[]⟩,none⟩ Ln/\true=true/\∃(c:OU),[ah (E2 e)]=[ah (some ⟨c.b,0,none⟩)]/\[sT e.b (Obj.stringIter e9 e.p)]=[sT c.b (Obj.stringIter c.s c.p)]/\True/\True/\(∀(b:Unit),c.p.succ.le c.s.size->Br ((↑(Utf8.decode c.s c.p).fst:Int)==65533) (aq vY x F (az (ae ↑c.p)) (Wo F c)) (∃(a:FN),x.c=65533/\(aj e9=aj e9/\d8 ↑x.c=d8 ↑x.c/\ah (E2 e)=ah (E2 a)/\True)/\aD (Wo F c) [(0,F),(1,sT a.b (Obj.stringIter e9 a.p))]/\6-a.p<6-e.p))/\∀(a:Unit),(c.p<c.s.size->False)->aq vY x F u2 [(0,F),(1,sT c.b (Obj.stringIter c.s c.p))]) (aC 104 Ov/\true=true/\∃(g:Bb),[d8 ↑x.c]=[d8 ↑g.c]/\([]:List ai)=[]/\Sc g.c/\True/\∀(f:Unit),True->Dj (a8 Tryz.f89 1 1) [d8 ↑x.c] (fun e=>((-9223372036854775808:Int)<=(↑(Utf8.encode e.c).size:Int)-1/\(↑(Utf8.encode e.c).size:Int)-1<=(9223372036854775807:Int))/\(∃(a:Unit),True/\(aj e9=aj e9/\d8 ↑x.c=d8 ↑x.c/\aj (Utf8.encode e.c)=aj (Utf8.encode (x.c:Int))/\ae ((↑(Utf8.encode e.c).size:Int)-1)=ae ((↑(Utf8.encode (x.c:Int)).size:Int)-1)/\ae ((↑(Utf8.encode e.c).size:Int)-1)=ae ((↑(Utf8.encode (x.c:Int)).size:Int)-1)/\True)/\aD [(0,F)] [(0,F)])/\aS fun(d:Unit)_=>True->aP ((↑(Utf8.encode (x.c:Int)).size:Int)-1<(e9.size:Int)) (true=true/\(0<=(↑(Utf8.encode (x.c:Int)).size:Int)-1/\(↑(Utf8.encode (x.c:Int)).size:Int)-1<(e9.size:Int))/\Uk x/\Br (aE e9 ((↑(Utf8.encode (x.c:Int)).size:Int)-1)!=aE (Utf8.encode (x.c:Int)) ((↑(Utf8.encode (x.c:Int)).size:Int)-1)) (true=true/\((-9223372036854775808:Int)<=(↑(Utf8.encode (x.c:Int)).size:Int)-1+(1:Int)/\(↑(Utf8.encode (x.c:Int)).size:Int)-1+(1:Int)<=(9223372036854775807:Int))/\(0<=(↑(Utf8.encode (x.c:Int)).size:Int)-1+(1:Int)/\(↑(Utf8.encode (x.c:Int)).size:Int)-1+1<=(e9.size:Int)/\(e9.size:Int)<=(e9.size:Int))/\Uk x/\A_ 100 [aj (e9.extract ((↑(Utf8.encode (x.c:Int)).size:Int)-1+(1:Int)).toNat (e9.size:Int).toNat),a_ (aE (Utf8.encode (x.c:Int)) ((↑(Utf8.encode (x.c:Int)).size:Int)-1))] (fun b a=>aP (Lib.indexByte b.s.data.toList (UInt8.ofNat b.c)<0) (aq vY x F u2 [(0,F)]) (((-9223372036854775808:Int)<=Lib.indexByte b.s.data.toList (UInt8.ofNat b.c)+1/\Lib.indexByte b.s.data.toList (UInt8.ofNat b.c)+1<=(9223372036854775807:Int))/\bT ((↑(Utf8.encode (x.c:Int)).size:Int)-1+(Lib.indexByte b.s.data.toList (UInt8.ofNat b.c)+1))/\False))) False) (aq vY x F u2 [(0,F)])))):=by
 delta A_ Nx bJ E2 Wo u2 Dj Uk bT ae a_ d8 aj ah sT aP az aS;have hc:Sc x.c:=hc;have hi:¬x.c<128->i7 x.c= -1:=fun h=>by unfold i7;omega
 refine bl (fun h=>?_) (fun h=>aG (fun h2=>?_) (fun h2=>?_))
 ·have h:x.c<128:=by omega
  rw[IW,Nat.mod_eq_of_lt af];exact bV Sm ⟨e9,x.c⟩ (by grind) fun _ _=>⟨(),ao,At (by unfold i7;simp[*]),aB [0]⟩
 ·have h2:x.c=65533:=by grind
  intro b;refine⟨⟨⟨b,0⟩,h2,aV,aB [0,37010]⟩,?_⟩;rintro⟨b,p⟩ js _;refine nf (alW rfl) ⟨b,e9,p⟩ ⟨fun _ hp=>?_,fun _ _=>⟨(),ao,At (hi af).symm,aB [0]⟩⟩;have hp:p<6:=hp;obtain⟨d1,d2⟩:=agF p hp;refine aG (fun e=>?_) (fun _=>⟨⟨b,p+1⟩,h2,aV,aD.pick [0,1] rfl (by dsimp only;rw[d2];rfl),by grind⟩);grind
 ·have h:128<=x.c:=by omega
  obtain⟨z1,z2⟩:=agX hc h;have z3:=Q4 hc;refine bV ap3 ⟨x.c⟩ hc fun _ _=>⟨Wx rfl rfl rfl,⟨x.c⟩,rfl,ao,⟨af,bd⟩,⟨(),ao,aV,aB [0]⟩,fun _ js _=>?_⟩;generalize Utf8.encode (x.c:Int)=en at z1 z2 z3⊢;refine aG (fun h3=>?_) (fun h3=>⟨(),ao,At (hi af).symm,aB [0]⟩);have h3:=l7 h3;have hk:((en.size:Int)-1).toNat=en.size-1:=af;have hb:=z2 (en.size-1) af;have rE:=iM en (en.size-1);have ha:=afY (en.size-1);refine⟨rfl,⟨af,h3⟩,aJ,aG (fun _=>?_) (fun e=>?_)⟩
  ·refine⟨rfl,aJ,⟨af,af,af⟩,aJ,Sm,rfl,⟨e9.extract ((en.size:Int)-1+1).toNat (e9.size:Int).toNat,bt en (en.size-1)⟩,by rw[gX,hk],rfl,rE,ao,fun _ _=>?_⟩;have e:Lib.indexByte (e9.extract ((en.size:Int)-1+1).toNat (e9.size:Int).toNat).data.toList (UInt8.ofNat (bt en (en.size-1)))= -1:=by
    apply Z5;intro a hm;rw[cB,Q9]at hm;have hm:=ag4 a (List.mem_of_mem_drop hm);intro e;rw[e]at hm;simp at hm;omega
   dsimp only;rw[e];exact⟨(),ao,At (hi af).symm,aB [0]⟩
  ·rw[gX,gX,hk]at e;simp at e;omega
theorem aka:aC 89 vY:=fo 187 Tryz.func89 (fun _ _=>[(35,2,aW),(35,3,aX uG),(43,1,aX Ov),(1,1,.qo Fc),(7,7,aX uG),(37,1,.n 37010),(38,0,.o Ln [1] [1])]) [] aj_ aY bz [] akb
end
section
open Go
def Q8:ByteArray:=⟨#[8,9,10,11,12,13]⟩
def YP(c:Nat):Bool:=match zt.find? fun p=>p.1==c with
 |none=>decide (i7 c= -1)
 |some p=>decide (0<=i7 c)&&(decide (i7 c<6)&&decide ((br (Q8.extract (i7 c).toNat ((i7 c).toNat+1))).data.toList=(cQ [0,p.2]).data.toList))
theorem ag5:∀c:Fin 128,YP c.val=true:=by decide+kernel
theorem ag3(c:Nat):(i7 c= -1/\zt.find? (fun p=>p.1==c)=none)\/(0<=i7 c/\i7 c<6/\∃p,zt.find? (fun p=>p.1==c)=some p/\br (Q8.extract (i7 c).toNat ((i7 c).toNat+1))=cQ [0,p.2]):=by
 rcases Nat.lt_or_ge c 128 with h|h
 ·have:=ag5 ⟨c,h⟩;unfold YP at this;dsimp only at this;cases hf:zt.find? (fun p=>p.1==c)with
  |none=>rw[hf]at this;exact .inl ⟨l7 this,rfl⟩
  |some p=>
   rw[hf]at this;simp only[kT,decide_eq_true_eq]at this;exact .inr ⟨this.1,this.2.1,p,rfl,by apply ByteArray.ext;apply Array.ext';simp[*]⟩
 ·refine .inl ⟨by unfold i7;rw[if_neg af],?_⟩;unfold zt;simp;omega
structure jM where
 l:cM
def yh(x:jM):List Value:=[aj x.l.src,ae x.l.i,ak x.l.aK,au x.l.oa x.l.on x.l.oc]
def lP(x:jM):Option Addr:=some ⟨x.l.b,0,none⟩
def mE:aR where
 X:=jM
 Y:=ByteArray
 args x:=[ah (lP x)]
 pre x:=[ag x.l.b (yh x) 68]
 cond x:=0<=x.l.i/\x.l.i<=x.l.src.size/\x.l.src.size<=1048576
 aQ _ F:=Gl F
 cd x y:=∀u,(iB x.l.src x.l.i.toNat).2=some u->y=cQ u
 val x y:=.returned (.tuple #[.string y,.bool (iB x.l.src x.l.i.toNat).2.isSome])
 post x _:=[ag x.l.b [aj x.l.src,ae ((iB x.l.src x.l.i.toNat).1:Nat),ak x.l.aK,au x.l.oa x.l.on x.l.oc] 68]
def DH(c j:Nat):Nat×Option (List Nat):=bif kX c then (j,some []) else (j,some (jz c))
def Bu(s:ByteArray)(c j:Nat):Nat×Option (List Nat):=bif c==13&&bt s j==10 then (j+1,some []) else DH c j
structure AX where
 c:Nat
 j:Nat
def YO(x:jM)(F:ai)(g:ByteArray->Nat->Nat->Nat×Option (List Nat)):Inv:={X:=AX,P:=fun d=>Sc d.c/\d.j<=x.l.src.size/\iB x.l.src x.l.i.toNat=g x.l.src d.c d.j,mu:=fun _=>0,lv:=fun d=>[(0,.pointer (some ⟨x.l.b,0,none⟩)),(4,.int .i64 d.c)],st:=fun d=>[.cells x.l.b [.string x.l.src,.int .i64 d.j,.bool x.l.aK,.slice x.l.oa x.l.on x.l.oc] 68,F]}
def ag0(x:jM)(F:ai):Nat->Option Inv:=fun
 |12=>some (YO x F Bu)
 |13=>some (YO x F fun _=>DH)
 |_=>none
theorem Xa{c:Nat}(h:c<=1114111):i32.wrap (c:Int)=(c:Int):=dA (by simp only[vW];omega)
def MS(x:jM)(j:Nat×Nat):List Value:=[aj x.l.src,ae (x.l.i+j.snd),ak x.l.aK,au x.l.oa x.l.on x.l.oc]
def Ao(x:jM)(j:Nat×Nat)(F:ai):=[(0,ag x.l.b (MS x j) 68),(1,F)]
def Wg(b:fq):=az (tuple ⟨[aj (br b.s),ak true]⟩)
def Qa(aa:List Value)(pp:List ai)(k0:p_->Unit->Prop):=aC 90 vF/\true=true/\∃(z:p_),aa=[ah (wz z),ae ↑z.n]/\pp=[ag z.l.b (HY z) 68]/\(0<=z.l.i/\z.l.i<=z.l.src.size/\z.l.src.size<=1048576/\z.n<=4)/\True/\∀(u0:Unit),True->k0 z u0
def Tr(x:jM)(F:ai):p_->Unit->Prop:=fun b a=>aq mE x F (az (tuple ⟨[aj (zE b.l.src b.n b.l.i.toNat),ak (fF b.l.src b.n b.l.i.toNat 0).snd.isSome]⟩)) [(0,ag b.l.b [aj b.l.src,ae (↑(fF b.l.src b.n b.l.i.toNat 0).fst:Int),ak b.l.aK,au b.l.oa b.l.on b.l.oc] 68),(1,F)]
def V9(z:AX)(e0:jM):=Sc z.c/\z.j<=e0.l.src.size/\iB e0.l.src e0.l.i.toNat=Bu e0.l.src z.c z.j
def tA(e0:jM)(z:AX)(e1:ai):=[(0,ag e0.l.b [aj e0.l.src,ae ↑z.j,ak e0.l.aK,au e0.l.oa e0.l.on e0.l.oc] 68),(1,e1)]
def Qb(e0:jM)(e1:ai)(v0:Value)(ss:St):=∃(z:AX),V9 z e0/\(ah (lP e0)=ah (lP e0)/\v0=ae ↑z.c/\True)/\aD ss (tA e0 z e1)
def EC:=az (tuple ⟨[aj ⟨#[]⟩,ak true]⟩)
def Qc(e0:jM)(e1:ai)(v0:Value)(ss:St):=∃(z:AX),(Sc z.c/\z.j<=e0.l.src.size/\iB e0.l.src e0.l.i.toNat=DH z.c z.j)/\(ah (lP e0)=ah (lP e0)/\v0=ae ↑z.c/\True)/\aD ss (tA e0 z e1)
theorem ag2(x:jM)(F:ai)(hc:mE.cond x)(hr:mE.aQ x F):true=true/\ax x.l.b 0/\ax x.l.b 1/\T5 [aj x.l.src,ae x.l.i] (aH [(0,ag x.l.b (yh x) 68),(1,F)] []) (fun k j=>ax x.l.b 1/\bT (x.l.i+j.snd)/\ax x.l.b 1/\aC 89 vY/\true=true/\∃(i:Bb),[aj ⟨#[98,116,110,118,102,114]⟩,d8 (Gz (j.fst:Int))]=[aj e9,d8 ↑i.c]/\([]:List ai)=[]/\Sc i.c/\True/\∀(h:Unit),True->aP (i7 i.c>=0) (((-9223372036854775808:Int)<=i7 i.c+1/\i7 i.c+1<=(9223372036854775807:Int))/\(0<=i7 i.c/\i7 i.c<=i7 i.c+1/\i7 i.c+1<=(↑(ByteArray.mk #[8,9,10,11,12,13]).size:Int))/\vr 73 [aj ((ByteArray.mk #[8,9,10,11,12,13]).extract (i7 i.c).toNat (i7 i.c+1).toNat)] (aH (Ao x j F) []) (fun b a=>aq mE x F (Wg b) (Ao x j F))) (Br ((j.fst:Int)==120) (Qa [ah (lP x),ae 2] [ag x.l.b (MS x j) 68] (Tr x F)) (Br ((j.fst:Int)==117) (Qa [ah (lP x),ae 4] [ag x.l.b (MS x j) 68] (Tr x F)) (Br ((j.fst:Int)==48) (qf [ah (lP x)] (aH (Ao x j F) []) (fun d c=>T0 (uX d) (fun b a=>aq mE x F (az (tuple ⟨[aj ⟨#[0,0]⟩,ak !ce b.c]⟩)) (Ao x j F)))) (aP ((j.fst:Int)>=49) (aP ((j.fst:Int)<=57) (aq mE x F tq (Ao x j F)) (Qb x F (ae ↑j.fst) (Ao x j F))) (Qb x F (ae ↑j.fst) (Ao x j F))/\aS fun(g:AX)_=>V9 g x->Br ((g.c:Int)==13) (qf [ah (lP x)] (aH (tA x g F) []) (fun c b=>Br ((↑(bt c.src c.i.toNat):Int)==10) (ax x.l.b 1/\((-9223372036854775808:Int)<=(g.j:Int)+1/\(g.j:Int)+1<=(9223372036854775807:Int))/\ax x.l.b 1/\aq mE x F EC [(0,ag x.l.b [aj x.l.src,ae ((g.j:Int)+1),ak x.l.aK,au x.l.oa x.l.on x.l.oc] 68),(1,F)]) (Qc x F (ae ↑g.c) (tA x g F)))) (Qc x F (ae ↑g.c) (tA x g F))/\aS fun(e:AX)_=>(Sc e.c/\e.j<=x.l.src.size/\iB x.l.src x.l.i.toNat=DH e.c e.j)->Br ((e.c:Int)==10) (aq mE x F EC (tA x e F)) (Br ((e.c:Int)==13) (aq mE x F EC (tA x e F)) (Br ((e.c:Int)==8232) (aq mE x F EC (tA x e F)) (Br ((e.c:Int)==8233) (aq mE x F EC (tA x e F)) (Dj (a8 Tryz.f75 20 2) [d8 (Gz (e.c:Int))] (fun c=>vr 73 [aj (Utf8.encode c.c)] (aH (tA x e F) []) (fun b a=>aq mE x F (Wg b) (tA x e F)))))))))))) (fun k a=>aq mE x F tq [(0,ag x.l.b (yh x) 68),(1,F)]):=by
 delta T5 yh vr MS Ao Wg wz HY Qa lP Tr gP qf T0 uX tq V9 tA Qb EC Qc Dj aH ax bT ae a_ d8 aj ak ah au ag Gz aP az aS;obtain⟨⟨b,src,i0,aK,oa,on,oc⟩⟩:=x;obtain⟨h0,bS,hs⟩:=hc;replace hr:Gl F:=hr;dsimp only at h0 bS hs;obtain⟨i,rfl⟩:∃i:Nat,i0=(i:Int):=⟨i0.toNat,(Int.toNat_of_nonneg h0).symm⟩;dsimp only;have fin:∀(j:Nat)(r:Option (List Nat))(y:ByteArray)(v:Bool),iB src i=(j,r)->v=r.isSome->(∀u,r=some u->y=cQ u)->aq mE ⟨⟨b,src,(i:Int),aK,oa,on,oc⟩⟩ F (returned (tuple #[string y,bool v])) [(0,ai.cells b [string src,int i64 (j:Int),bool aK,slice oa on oc] 68),(1,F)]:=fun j r y v e hv hy=>
  ⟨y,by show ∀u,(iB src (i:Int).toNat).2=some u->_;rw[cB,e];exact hy,by show returned _=returned (.tuple #[.string y,.bool (iB src (i:Int).toNat).2.isSome]);simp[*],aD.pick [0,1] rfl (by simp only[mE,cB,e];rfl)⟩
 rw[cB];refine⟨rfl,ap,ap,Ei,rfl,⟨src,i⟩,rfl,rfl,h0,gE.rest (j:=1) aM hr.qQ,?_,?_⟩;rotate_left
 ·intro _ hn;replace hn:eo src (i:Int).toNat=none:=hn;rw[cB]at hn;exact fin i none _ _ (by unfold iB;rw[hn]) rfl (fun _ h=>nomatch h)
 rintro⟨c,n⟩ hn;replace hn:eo src (i:Int).toNat=some (c,n):=hn;rw[cB]at hn;obtain⟨f1,f2,f3⟩:=pO hn;have BK:=aaP hn;dsimp only;have ej:(i:Int)+(n:Int)=((i+n:Nat):Int):=af;rw[ej,Xa f3];have Gu:iB src i=match zt.find? (fun p=>p.1==c)with
  |some p=>(i+n,some [0,p.2])
  |none=>
   bif c==120 then ((fF src 2 (i+n) 0).1,(fF src 2 (i+n) 0).2.map fun u=>[u/256%256,u%256])
   else bif c==117 then ((fF src 4 (i+n) 0).1,(fF src 4 (i+n) 0).2.map fun u=>[u/256%256,u%256])
   else bif c==48 then (i+n,bif ce (bt src (i+n)) then none else some [0,0])
   else bif pE c 49 57 then (i+n,none)
   else Bu src c (i+n):=by unfold iB;rw[hn];rfl
 generalize i+n=j at f1 Gu⊢;have RM:∀m:Nat,iB src i=((fF src m j 0).1,(fF src m j 0).2.map fun u=>[u/256%256,u%256])->aq mE ⟨⟨b,src,(i:Int),aK,oa,on,oc⟩⟩ F (returned (tuple #[string (zE src m (j:Int).toNat),bool (fF src m (j:Int).toNat 0).2.isSome])) [(0,ai.cells b [string src,int i64 ((fF src m (j:Int).toNat 0).1:Nat),bool aK,slice oa on oc] 68),(1,F)]:=fun m e=>by
  rw[cB];refine fin _ _ _ _ e (by cases (fF src m j 0).2 <;> rfl) fun u hu=>?_;unfold zE;grind
 refine⟨ap,aJ,ap,aka,rfl,⟨c⟩,rfl,rfl,BK,ao,fun _ _=>?_⟩;dsimp only;rcases ag3 c with⟨e1,e2⟩| ⟨e1,e1',p,e2,e3⟩;rotate_left
 ·rw[e2]at Gu;refine aG (fun _=>⟨aJ,⟨e1,af,show i7 c+1<=(6:Int) by omega⟩,Ow,rfl,⟨Q8.extract (i7 c).toNat (i7 c+1).toNat⟩,rfl,rfl,?_,gE.rest (j:=1) aM hr.qQ,fun _ _=>fin j _ _ _ Gu rfl fun u hu=>?_⟩) (fun h=>absurd (Ro h) af)
  ·dsimp only;rw[jU];omega
  grind
 rw[e2]at Gu;refine aG (fun h=>absurd (l7 h) af) (fun _=>aG (fun h=>?_) (fun g1=>aG (fun h=>?_) (fun g2=>aG (fun h=>?_) (fun g3=>⟨?_,?_⟩))))
 ·replace h:=f_ 120 h;exact bV YF ⟨⟨b,src,j,aK,oa,on,oc⟩,2⟩ ⟨by simp[*],by simp[*],hs,show(2:Nat)<=4 by decide⟩ fun _ _=>RM 2 (by simp[*])
 ·replace h:=f_ 117 h;exact bV YF ⟨⟨b,src,j,aK,oa,on,oc⟩,4⟩ ⟨by simp[*],by simp[*],hs,show(4:Nat)<=4 by decide⟩ fun _ _=>RM 4 (by grind)
 ·replace h:=f_ 48 h;refine bp wi ⟨b,src,(j:Int),aK,oa,on,oc⟩ ⟨by simp[*],hs⟩ ⟨aO.rest (j:=0) aM (aO.cells rfl),aO.rest (j:=0) aM (aO.cells rfl)⟩ fun _ _=>bV zr ⟨bt src (j:Int).toNat⟩ (iM _ _) fun _ _=>?_;dsimp only;rw[cB];refine fin j (bif ce (bt src j) then none else some [0,0]) _ _ (by grind) ?_ fun u hu=>?_
  ·grind
  ·cases hd:ce (bt src j)with
   |true=>rw[hd]at hu;cases hu
   |false=>rw[hd]at hu;cases hu;rfl
 ·have YL:pE c 49 57=false->iB src i=Bu src c j:=fun h=>by grind
  refine bl (fun h1=>bl (fun h2=>?_) (fun h2=>⟨⟨c,j⟩,⟨BK,f1,YL ?_⟩,aV,aB [0,1]⟩)) (fun h1=>⟨⟨c,j⟩,⟨BK,f1,YL ?_⟩,aV,aB [0,1]⟩)
  ·refine fin j none _ _ ?_ rfl (fun _ h=>nomatch h);have:pE c 49 57=true:=by
    unfold pE;grind
   grind
  ·unfold pE;grind
  ·unfold pE;grind
 clear Gu RM e1 e2 g1 g2 g3 f1 BK hn;rintro⟨c,j⟩ js ⟨k1,k2,k3⟩;dsimp only at k1 k2 k3⊢;refine⟨aG (fun h=>bp wi ⟨b,src,(j:Int),aK,oa,on,oc⟩ ⟨by simp[*],hs⟩ ⟨aO.rest (j:=0) aM (aO.cells rfl),aO.rest (j:=0) aM (aO.cells rfl)⟩ fun _ _=>aG (fun h2=>?_) (fun h2=>⟨⟨c,j⟩,⟨k1,k2,?_⟩,aV,aB [0,1]⟩)) (fun h=>⟨⟨c,j⟩,⟨k1,k2,?_⟩,aV,aB [0,1]⟩),?_⟩
 ·replace h2:((bt src (j:Int).toNat:Int)==10)=true:=h2;rw[cB]at h2;have ej:(j:Int)+1=((j+1:Nat):Int):=af;rw[ej];exact⟨ap,aJ,ap,fin (j+1) (some []) _ _ (by rw[k3,Bu,f_ 13 h,f_ 10 h2];rfl) rfl (fun u hu=>by cases hu;rfl)⟩
 ·replace h2:((bt src (j:Int).toNat:Int)==10)=false:=h2;rw[cB]at h2;rw[k3,Bu,f_ 10 h2,n6];rfl
 ·rw[k3,Bu,f_ 13 h,nh];rfl
 clear k1 k2 k3;rintro⟨c,j⟩ js ⟨k1,k2,k3⟩;dsimp only at k1 k2 k3⊢;have KG:c<=1114111:=by unfold Sc at k1;omega
 rw[Xa KG];have Oy:kX c=true->iB src i=(j,some []):=fun h=>by rw[k3,DH,h];rfl
 have dT:∀u,some ([]:List Nat)=some u->(ByteArray.mk #[])=cQ u:=fun u hu=>by cases hu;rfl
 refine aG (fun e=>fin j _ _ _ (Oy (BY (by grind))) rfl dT) (fun e1=>aG (fun e=>fin j _ _ _ (Oy (BY (by grind))) rfl dT) (fun e2=>aG (fun e=>fin j _ _ _ (Oy (BY (by grind))) rfl dT) (fun e3=>aG (fun e=>fin j _ _ _ (Oy (BY (by grind))) rfl dT) (fun e4=>?_))));have hw:=acD k1;have hz:=Q4 k1;refine⟨Wx rfl rfl rfl,⟨c⟩,rfl,ao,Ow,rfl,⟨Utf8.encode (c:Int)⟩,?_⟩;dsimp only;generalize Utf8.encode (c:Int)=en at hw hz⊢;refine⟨rfl,rfl,af,gE.rest (j:=1) aM hr.qQ,fun _ _=>fin j (some (jz c)) (br en) true (by rw[k3,DH,Lj e1 e2 e3 e4];rfl) rfl fun u hu=>?_⟩;grind
theorem ag1:aC 75 mE:=fo 103 Tryz.func75 (fun _ _=>[(1,8,aX qA),(5,1,aW),(5,2,aX vY),(7,4,aX wC),(12,4,aX o7),(14,1,bq vF),(15,1,bq vF),(16,1,aX o7),(16,2,aX ry),(20,1,aW),(20,2,.qo Fc),(20,3,aX wC)]) [(1,3,aT 0),(1,7,aT 0),(4,3,aT 0),(4,8,.w [LH.z00 (0:Nat)]),(18,3,aT 0),(18,7,.w [LH.z00 (0:Nat)])] aY ag0 bz [] ag2
end
section
open Go
theorem Zy(s:ByteArray):∀(n i u:Nat),i<=s.size->i<=(fF s n i u).1/\(fF s n i u).1<=s.size:=by
 intro n
 induction n with
 |zero=>intro i u h;exact⟨cr _,h⟩
 |succ n ih=>
  intro i u h;rw[fF];grind
theorem Ki{s:ByteArray}{i j:Nat}{r:Option (List Nat)}(h:iB s i=(j,r))(hi:i<=s.size):i<=j/\j<=s.size/\∀u,r=some u->u.length<=4:=by
 unfold iB at h;cases hn:eo s i with
 |none=>rw[hn]at h;cases h;exact⟨cr _,hi,fun _ h=>nomatch h⟩
 |some cn=>
  obtain⟨c,n⟩:=cn;obtain⟨f1,f2,f3⟩:=pO hn;rw[hn]at h;dsimp only at h;have g2:=Zy s 2 (i+n) 0 f1;have g4:=Zy s 4 (i+n) 0 f1;cases hf:zt.find? (fun p=>p.1==c)with
  |some p=>rw[hf]at h;cases h;exact⟨af,f1,fun u hu=>by cases hu;simp⟩
  |none=>
   rw[hf]at h;dsimp only at h;cases h1:(c==120)with
   |true=>
    rw[h1]at h;cases h;refine⟨af,g2.2,fun u hu=>?_⟩;cases h':(fF s 2 (i+n) 0).2 with
    |none=>rw[h']at hu;cases hu
    |some v=>rw[h']at hu;cases hu;simp
   |false=>
   cases h2:(c==117)with
   |true=>
    rw[h1,h2]at h;cases h;refine⟨af,g4.2,fun u hu=>?_⟩;cases h':(fF s 4 (i+n) 0).2 with
    |none=>rw[h']at hu;cases hu
    |some v=>rw[h']at hu;cases hu;simp
   |false=>
   cases h3:(c==48)with
   |true=>
    grind
   |false=>
   cases h4:pE c 49 57 with
   |true=>rw[h1,h2,h3,h4]at h;cases h;exact⟨af,f1,fun _ h=>nomatch h⟩
   |false=>
   cases h5:(c==13&&bt s (i+n)==10)with
   |true=>
    rw[h1,h2,h3,h4,h5]at h;cases h;have hb:bt s (i+n)=10:=by
     grind
    exact⟨af,DA af,fun u hu=>by cases hu;simp⟩
   |false=>
   rw[h1,h2,h3,h4,h5]at h;cases h6:kX c with
   |true=>rw[h6]at h;cases h;exact⟨af,f1,fun u hu=>by cases hu;simp⟩
   |false=>rw[h6]at h;cases h;exact⟨af,f1,fun u hu=>by cases hu;exact W8 c⟩
def oK(s:ByteArray)(i:Nat):Nat×Option (List Nat):=pm s (bt s i) (s.size+1) (i+1) []
def tW:aR where
 X:=jM
 Y:=ByteArray
 args x:=[ah (lP x)]
 pre x:=[ag x.l.b (yh x) 68]
 cond x:=0<=x.l.i/\x.l.i<x.l.src.size/\x.l.src.size<=1048576
 aQ _ F:=Gl F
 cd x y:=∀u,(oK x.l.src x.l.i.toNat).2=some u->y=cQ u
 val x y:=.returned (.tuple #[.string y,.bool (oK x.l.src x.l.i.toNat).2.isSome])
 post x _:=[ag x.l.b [aj x.l.src,ae ((oK x.l.src x.l.i.toNat).1:Nat),ak x.l.aK,au x.l.oa x.l.on x.l.oc] 68]
structure xg where
 i:Nat
 f:Nat
 o:List Nat
 bb:Nat
 p:Option Addr
 r:Row
def yo(d:xg):Option Addr:=some ⟨d.bb,0,none⟩
def yk(d:xg):List Value:=[ah d.p,au d.r.a d.r.n d.r.cap]
def apz(x:jM)(F:ai):Nat->Option Inv:=fun
 |0=>some {X:=xg,P:=fun d=>d.i<=x.l.src.size/\x.l.src.size<d.i+d.f/\d.o.length<=4*d.i/\pv 5 (cQ d.o) d.r/\(d.p=none\/d.p=some ⟨d.bb,0,none⟩)/\oK x.l.src x.l.i.toNat=pm x.l.src (bt x.l.src x.l.i.toNat) d.f d.i d.o,mu:=fun d=>x.l.src.size-d.i,lv:=fun d=>[(0,ah (lP x)),(4,ae (bt x.l.src x.l.i.toNat)),(5,ah (yo d))],st:=fun d=>[ag x.l.b [aj x.l.src,ae d.i,ak x.l.aK,au x.l.oa x.l.on x.l.oc] 68,F,ag d.bb (yk d) 95,d.r.A]}
 |_=>none
def LJ(z:xg)(e0:jM):=z.i<=e0.l.src.size/\e0.l.src.size<z.i+z.f/\z.o.length<=4*z.i/\pv 5 (cQ z.o) z.r/\(z.p=none\/z.p=some ⟨z.bb,0,none⟩)/\oK e0.l.src e0.l.i.toNat=pm e0.l.src (bt e0.l.src e0.l.i.toNat) z.f z.i z.o
def Cs(e0:jM)(z:xg)(e1:ai):=[(0,ag e0.l.b [aj e0.l.src,ae ↑z.i,ak e0.l.aK,au e0.l.oa e0.l.on e0.l.oc] 68),(1,e1),(2,ag z.bb (yk z) 95),(3,z.r.A)]
def Ez(x:jM)(j:xg)(g:Nat×Nat):List Value:=[aj x.l.src,ae ((j.i:Int)+(g.snd:Int)),ak x.l.aK,au x.l.oa x.l.on x.l.oc]
def UL(e:jM):List Value:=[aj e.l.src,ae (↑(iB e.l.src e.l.i.toNat).fst:Int),ak e.l.aK,au e.l.oa e.l.on e.l.oc]
def Qd(aa:List Value)(pp:List ai)(k0:ub->Row->Prop):=aC 76 C0/\true=true/\∃(z:ub),aa=[ah (rQ z),aj z.s]/\pp=[ag z.b (uV z) 95,z.r.A]/\((z.p=none\/z.p=some ⟨z.b,0,none⟩)/\pv 5 z.t z.r/\z.r.n+z.s.size<=140737488355328)/\True/\∀(u0:Row),pv 5 (z.t++z.s) u0->k0 z u0
def Qe(e0:jM)(e1:ai)(v0:Value)(ss:St)(mm:Nat):=∃(z:xg),LJ z e0/\(ah (lP e0)=ah (lP e0)/\ae (↑(bt e0.l.src e0.l.i.toNat):Int)=ae (↑(bt e0.l.src e0.l.i.toNat):Int)/\v0=ah (yo z)/\True)/\aD ss (Cs e0 z e1)/\e0.l.src.size-z.i<mm
theorem apB(x:jM)(F:ai)(hc:tW.cond x)(hr:tW.aQ x F):true=true/\ax x.l.b 0/\ax x.l.b 1/\(0<=x.l.i/\x.l.i<x.l.src.size)/\bT (aE x.l.src x.l.i)/\ax x.l.b 1/\((-9223372036854775808:Int)<=x.l.i+1/\x.l.i+1<=(9223372036854775807:Int))/\ax x.l.b 1/\∀(k:Nat),(∃(a:xg),LJ a x/\(ah (lP x)=ah (lP x)/\ae (aE x.l.src x.l.i)=ae (↑(bt x.l.src x.l.i.toNat):Int)/\ah (bJ k)=ah (yo a)/\True)/\aD [(0,ag x.l.b [aj x.l.src,ae (x.l.i+1),ak x.l.aK,au x.l.oa x.l.on x.l.oc] 68),(1,F),(4000,ag k [ah none,au none 0 0] 95)] (Cs x a F))/\aS fun(j:xg)_=>LJ j x->true=true/\ax x.l.b 0/\ax x.l.b 1/\T5 [aj x.l.src,ae ↑j.i] (aH (Cs x j F) []) (fun h g=>Br ((g.fst:Int)==10) (aq tW x F tq (Cs x j F)) (Br ((g.fst:Int)==13) (aq tW x F tq (Cs x j F)) (ax x.l.b 1/\bT ((j.i:Int)+(g.snd:Int))/\ax x.l.b 1/\Br ((g.fst:Int)==(↑(bt x.l.src x.l.i.toNat):Int)) (aC 74 Dz/\true=true/\∃(b:ub),[ah (yo j)]=[ah (rQ b)]/\[ag j.bb (yk j) 95,j.r.A]=[ag b.b (uV b) 95,b.r.A]/\(pv 5 b.t b.r/\b.t.size<=140737488355328)/\True/\∀(a:Unit),True->aq tW x F (az (tuple ⟨[aj b.t,ak true]⟩)) [(0,ag x.l.b (Ez x j g) 68),(1,F),(2,ag b.b (uV b) 95),(3,ba)]) (Br ((g.fst:Int)==92) (aC 75 mE/\true=true/\∃(e:jM),[ah (lP x)]=[ah (lP e)]/\[ag x.l.b (Ez x j g) 68]=[ag e.l.b (yh e) 68]/\(0<=e.l.i/\e.l.i<=e.l.src.size/\e.l.src.size<=1048576)/\Gl (aH [(0,ag x.l.b (Ez x j g) 68),(1,F),(2,ag j.bb (yk j) 95),(3,j.r.A)] [0])/\∀(d:ByteArray),(∀(a:List Nat),(iB e.l.src e.l.i.toNat).snd=some a->d=cQ a)->Br (!(iB e.l.src e.l.i.toNat).snd.isSome) (aq tW x F tq [(0,ag e.l.b (UL e) 68),(1,F),(2,ag j.bb (yk j) 95),(3,j.r.A)]) (Qd [ah (yo j),aj d] [ag j.bb (yk j) 95,j.r.A] (fun c b=>Qe x F (ah (yo j)) [(0,ag e.l.b (UL e) 68),(1,F),(2,ag c.b (EZ c b) 95),(3,b.A)] (x.l.src.size-j.i)))) (Dj (a8 Tryz.f61 9 2) [d8 (Gz (g.fst:Int))] (fun f=>vr 73 [aj (Utf8.encode f.c)] (aH [(0,ag x.l.b (Ez x j g) 68),(1,F),(2,ag j.bb (yk j) 95),(3,j.r.A)] []) (fun e d=>Qd [ah (yo j),aj (br e.s)] [ag j.bb (yk j) 95,j.r.A] (fun c b=>Qe x F (ah (yo j)) [(0,ag x.l.b (Ez x j g) 68),(1,F),(2,ag c.b (EZ c b) 95),(3,b.A)] (x.l.src.size-j.i))))))))) (fun h a=>aq tW x F tq (Cs x j F)):=by
 delta LJ lP bJ yo yk Cs T5 tq rQ uV Ez yh UL Qd Qe EZ Dj vr aH ax bT ae d8 aj ak ah au ag ba Gz az aS;obtain⟨⟨b,src,i0,aK,oa,on,oc⟩⟩:=x;obtain⟨h0,bS,hs⟩:=hc;replace hr:Gl F:=hr;dsimp only at h0 bS hs;obtain⟨i,rfl⟩:∃i:Nat,i0=(i:Int):=⟨i0.toNat,(Int.toNat_of_nonneg h0).symm⟩;dsimp only;rw[gX,cB];have hi:i<src.size:=af;have hb:=iM src i;have fin:∀(j:Nat)(r:Option (List Nat))(y:ByteArray)(v:Bool)(A B:ai),oK src i=(j,r)->v=r.isSome->(∀u,r=some u->y=cQ u)->aq tW ⟨⟨b,src,(i:Int),aK,oa,on,oc⟩⟩ F (returned (tuple #[string y,bool v])) [(0,ai.cells b [string src,int i64 (j:Int),bool aK,slice oa on oc] 68),(1,F),(2,A),(3,B)]:=fun j r y v A B e hv hy=>
  ⟨y,by show ∀u,(oK src (i:Int).toNat).2=some u->_;rw[cB,e];exact hy,by show returned _=returned (.tuple #[.string y,.bool (oK src (i:Int).toNat).2.isSome]);simp[*],aD.pick [0,1] rfl (by simp only[tW,cB,e];rfl)⟩
 refine⟨rfl,ap,ap,⟨h0,bS⟩,aJ,ap,aJ,ap,fun bb=>⟨⟨⟨i+1,src.size+1,[],bb,none,⟨none,0,0,.dT⟩⟩,⟨by grind,by grind,dC _,⟨.nil rfl,.inl rfl⟩,.inl rfl,rfl⟩,aV,aD.pick [0,1,4000,7] rfl (by rfl)⟩,?_⟩⟩;rintro⟨k,f,o,bb,p,r⟩ js ⟨g1,g2,g3,g4,g5,g6⟩;dsimp only at g1 g2 g3 g4 g5 g6⊢;obtain⟨f',rfl⟩:∃f',f=f'+1:=⟨f-1,af⟩;have xQ:r.n=o.length:=by
  have:=g4.1.len;rw[Lib.strCells_length,uy]at this;omega
 refine⟨rfl,ap,ap,Ei,rfl,⟨src,k⟩,rfl,rfl,by simp[*],gE.rest (j:=1) aM hr.qQ,?_,?_⟩;rotate_left
 ·intro _ hn;replace hn:eo src (k:Int).toNat=none:=hn;rw[cB]at hn;exact fin k none _ _ _ _ (by rw[g6,pm,hn]) rfl (fun _ h=>nomatch h)
 rintro⟨c,n⟩ hn;replace hn:eo src (k:Int).toNat=some (c,n):=hn;rw[cB]at hn;obtain⟨f1,f2,f3⟩:=pO hn;have BK:=aaP hn;have s0:oK src i=bif c==10||c==13 then (k,none) else bif c==bt src i then (k+n,some o) else bif c==92 then (match iB src (k+n)with| (j,none)=>(j,none)| (j,some u)=>pm src (bt src i) f' j (o++u)) else pm src (bt src i) f' (k+n) (o++jz c):=by rw[g6,pm,hn];rfl
 dsimp only;have ej:(k:Int)+(n:Int)=((k+n:Nat):Int):=af;rw[ej,Xa f3];clear g6 hn;generalize hm:k+n=m at f1 s0⊢;refine aG (fun e=>fin k none _ _ _ _ (by grind) rfl (fun _ h=>nomatch h)) (fun e1=>aG (fun e=>fin k none _ _ _ _ (by grind) rfl (fun _ h=>nomatch h)) (fun e2=>?_));rw[f_ 10 e1,f_ 13 e2,Bool.or_false,aU]at s0;refine⟨ap,aJ,ap,aG (fun e=>?_) (fun e3=>aG (fun e=>?_) (fun e4=>?_))⟩
 ·rw[f_ (bt src i) e,bf]at s0;exact bV afV ⟨bb,p,r,cQ o,.empty⟩ ⟨g4,by dsimp only;rw[uy];omega⟩ fun _ _=>fin m (some o) _ _ _ _ s0 rfl (fun u hu=>by cases hu;rfl)
 ·rw[f_ (bt src i) e3,aU,f_ 92 e,bf]at s0;refine bp ag1 ⟨⟨b,src,(m:Int),aK,oa,on,oc⟩⟩ ⟨by simp[*],by simp[*],hs⟩ (Gl.rest (j:=1) aM hr) fun y hy=>?_;replace hy:∀u,(iB src (m:Int).toNat).2=some u->y=cQ u:=hy;dsimp only;rw[cB]at hy⊢;have q:=Ki (s:=src) (i:=m) (j:=(iB src m).1) (r:=(iB src m).2) rfl f1;revert hy q s0;generalize iB src m=E;obtain⟨j,r'⟩:=E;intro s0 hy q;obtain⟨q1,q2,q3⟩:=q;dsimp only at s0 hy q1 q2 q3⊢;cases r' with
  |none=>exact aG (fun _=>fin j none _ _ _ _ s0 rfl (fun _ h=>nomatch h)) (fun h=>nomatch h)
  |some u=>
   have hyu:=hy u rfl;subst hyu;have q3:=q3 u rfl;refine aG (fun h=>nomatch h) (fun _=>bV acH ⟨bb,p,r,cQ o,cQ u⟩ ⟨g5,g4,by dsimp only;rw[uy];omega⟩ fun r2 h2=>⟨⟨j,f',o++u,bb,some ⟨bb,0,none⟩,r2⟩,⟨q2,by grind,by grind,by dsimp only;rw[<-Yh];exact h2,.inr rfl,s0⟩,aV,aB [0,1,2,3],by grind⟩)
 ·rw[f_ (bt src i) e3,aU,f_ 92 e4,aU]at s0;have hw:=acD BK;have hz:=Q4 BK;have hwl:=W8 c;refine⟨Wx rfl rfl rfl,⟨c⟩,rfl,ao,Ow,rfl,⟨Utf8.encode (c:Int)⟩,?_⟩;dsimp only;generalize Utf8.encode (c:Int)=en at hw hz⊢;rw[hw];refine⟨rfl,rfl,af,gE.rest (j:=1) aM hr.qQ,fun _ _=>bV acH ⟨bb,p,r,cQ o,cQ (jz c)⟩ ⟨g5,g4,by dsimp only;rw[uy];omega⟩ fun r2 h2=>⟨⟨m,f',o++jz c,bb,some ⟨bb,0,none⟩,r2⟩,⟨f1,by grind,by grind,by dsimp only;rw[<-Yh];exact h2,.inr rfl,s0⟩,aV,aB [0,1,2,3],by grind⟩⟩
theorem apA:aC 61 tW:=fo 80 Tryz.func61 (fun _ _=>[(3,0,.n 4000),(4,8,aX qA),(11,0,.c Dz [2,3] [2,3]),(13,1,bq mE),(16,1,.c C0 [2,3] [2,3]),(9,1,aW),(9,2,.qo Fc),(9,3,aX wC),(9,4,.c C0 [2,3] [2,3])]) [(1,3,aT 0),(1,7,aT 0),(2,3,aT 0),(2,7,.w [LH.z00 (0:Nat)]),(4,3,aT 0),(4,7,aT 0),(7,3,aT 0),(7,8,.w [LH.z00 (0:Nat)])] apz aY bz [] apB
end
section
open Go
theorem afX(m:ByteArray):cQ (nr m)=m:=by
 apply ByteArray.ext;apply Array.ext';unfold cQ nr;have e:(fun n=>UInt8.ofNat n)∘UInt8.toNat=id:=by funext u;simp
 simp[e]
theorem alt(m:ByteArray):∀b∈nr m,b<256:=by
 intro b hb;obtain⟨u,_,rfl⟩:=List.mem_map.1 hb;exact u.toNat_lt
structure ON where
 l:cM
 cb:Nat
 m:ByteArray
def vn(l:cM)(cb:Nat)(F:ai):Prop:=aO F ⟨cb,0,none⟩ (.pointer (some ⟨l.b,0,none⟩))/\q_ l F
theorem vn.sub{l:cM}{cb:Nat}{A B:ai}(hs:Sub A B)(h:vn l cb A):vn l cb B:=⟨h.1.sub hs,q_.sub hs h.2⟩
def D9:aR where
 X:=ON
 args x:=[aj x.m,ah (some ⟨x.cb,0,none⟩)]
 cond x:=0<=x.l.i/\x.l.i<=x.l.src.size/\x.l.src.size<=1048576
 aQ x F:=vn x.l x.cb F
 val x _:=az (ak (ij x.l.src x.l.i.toNat (nr x.m)))
 eX _ _ _ hs h:=vn.sub hs h
theorem aki(x:ON)(F:ai)(hc:D9.cond x)(hr:D9.aQ x F):∃(e:Option Addr),aO F ⟨x.cb,0,none⟩ (ah e)/\F2 [ah e] (cX F) (fun d c=>xa 50 [aj (d.src.extract d.i.toNat d.src.size),aj x.m] (fun b a=>aq D9 x F (az (ak (kz b.a b.b))) [(0,F)])):=by
 delta gP wt F2 cX xa aH aj ak ah az;obtain⟨h0,bS,hs⟩:=hc;have s:Sub F (.dv (rest [(0,F)] [])):=b_ 0;refine⟨_,hr.1,WG,rfl,x.l,rfl,rfl,⟨h0,bS,hs⟩,q_.sub s hr.2,fun _ _=>nf GS ⟨x.l.src.extract x.l.i.toNat x.l.src.size,x.m⟩ fun _ _=>⟨(),ao,mh ?_,aB [0]⟩⟩;have:=R5 (s:=x.l.src) (i:=x.l.i.toNat) (t:=nr x.m) (alt _) af;rw[afX]at this;omega
theorem akh:aC 63 D9:=fo 8 Tryz.func63 (fun _ _=>[(1,0,.q [.ex 0 .ptr]),(1,1,aX Av),(1,3,aX pL)]) [] aY aY bz [] aki
def pN(s:ByteArray)(i:Nat):List ByteArray->Nat->Int
 | [],_=> -1
 |m::r,k=>bif ij s i (nr m) then (k:Int) else pN s i r (k+1)
structure y_ where
 l:cM
 cb:Nat
def BM:aR where
 X:=y_
 args x:=[.slice (some ⟨2,0,none⟩) 42 42,.func (.func 63) #[] #[.pointer (some ⟨x.cb,0,none⟩)]]
 cond x:=0<=x.l.i/\x.l.i<=x.l.src.size/\x.l.src.size<=1048576
 aQ x F:=Gl F/\vn x.l x.cb F
 val x _:=az (ae (pN x.l.src x.l.i.toNat jK 0))
 eX _ _ _ hs h:=⟨h.1.sub hs,vn.sub hs h.2⟩
structure FJ where
 k:Nat
def ajZ(x:y_)(F:ai):Nat->Option Inv:=fun
 |0=>some {X:=FJ,P:=fun d=>d.k<=42/\pN x.l.src x.l.i.toNat jK 0=pN x.l.src x.l.i.toNat (jK.drop d.k) d.k,mu:=fun d=>42-d.k,lv:=fun d=>[(0,.slice (some ⟨2,0,none⟩) 42 42),(1,.func (.func 63) #[] #[.pointer (some ⟨x.cb,0,none⟩)]),(7,.int .i64 42),(8,.int .i64 d.k)],st:=fun _=>[F]}
 |_=>none
def Mu(a:FJ)(x:y_):=a.k<=42/\pN x.l.src x.l.i.toNat jK 0=pN x.l.src x.l.i.toNat (List.drop a.k jK) a.k
def yq:Option Addr:=some ⟨2,0,none⟩
def Co(x:y_):List Value:=[ah (some ⟨x.cb,0,none⟩)]
def kl(oo:Oper)(aa:List Value)(k0:w6->Prop):=dH Tryz.prog oo (h_ 1)/\∃(z:w6),aa=[au (some ⟨z.b,z.o,none⟩) z.len z.cap,ae z.n]/\(0<=z.n/\z.n<z.len)/\k0 z
theorem akg(x:y_)(F:ai)(hc:BM.cond x)(hr:BM.aQ x F):(∃(a:FJ),Mu a x/\(au yq 42 42=au yq 42 42/\func (Fn.func 63) ⟨[]⟩ ⟨Co x⟩=func (Fn.func 63) ⟨[]⟩ ⟨Co x⟩/\ae (↑(42:Nat):Int)=ae 42/\ae 0=ae ↑a.k/\True)/\aD [(0,F)] [(0,F)])/\aS fun(g:FJ)_=>Mu g x->aP ((g.k:Int)<42) (kl (a8 Tryz.f62 4 3) [au yq 42 42,ae ↑g.k] (fun e=>T2 F ⟨e.b,e.o+e.n.toNat*1,none⟩ (fun d=>aC 63 D9/\true=true/\∃(c:ON),[aj d,ah (some ⟨x.cb,0,none⟩)]=[aj c.m,ah (some ⟨c.cb,0,none⟩)]/\([]:List ai)=[]/\(0<=c.l.i/\c.l.i<=c.l.src.size/\c.l.src.size<=1048576)/\vn c.l c.cb (cX F)/\∀(b:Unit),True->Br (ij c.l.src c.l.i.toNat (nr c.m)) (aq BM x F (az (ae ↑g.k)) [(0,F)]) (((-9223372036854775808:Int)<=(g.k:Int)+1/\(g.k:Int)+1<=(9223372036854775807:Int))/\∃(a:FJ),Mu a x/\(au yq 42 42=au yq 42 42/\func (Fn.func 63) ⟨[]⟩ ⟨Co x⟩=func (Fn.func 63) ⟨[]⟩ ⟨Co x⟩/\ae 42=ae 42/\ae ((g.k:Int)+1)=ae ↑a.k/\True)/\aD [(0,F)] [(0,F)]/\42-a.k<42-g.k)))) (aq BM x F u2 [(0,F)]):=by
 delta Mu yq Co kl T2 cX u2 aH ae aj ah au aP az aS;have s:Sub F (.dv (rest [(0,F)] [])):=b_ 0;refine⟨⟨⟨0⟩,⟨dC _,rfl⟩,aV,aB [0]⟩,?_⟩;rintro⟨k⟩ js ⟨h1,h2⟩;dsimp only at h1 h2⊢;have jo:jK.length=42:=rfl;refine bl (fun bP=>?_) (fun jn=>?_)
 ·obtain⟨m,hm⟩:∃m,jK[k]?=some m:=⟨_,gv af⟩;have hd:jK.drop k=m::jK.drop (k+1):=by
   obtain⟨hk,rfl⟩:=mG.1 hm;simp[*]
  rw[hd,pN]at h2;have e1:0+(k:Int).toNat*1=k:=af;refine⟨jp 1 rfl rfl rfl rfl,⟨2,0,42,42,k⟩,rfl,by simp[*],m,by dsimp only;rw[e1];exact hr.1.Le k m hm,akh,rfl,⟨x.l,x.cb,m⟩,rfl,rfl,hc,vn.sub s hr.2,fun _ _=>aG (fun hg=>⟨(),ao,At ?_,aB [0]⟩) (fun hg=>⟨aJ,⟨k+1⟩,⟨by grind,?_⟩,aV,aB [0],by grind⟩)⟩
  all_goals grind
 ·rw[List.drop_eq_nil_of_le af]at h2;exact⟨(),ao,At h2.symm,aB [0]⟩
theorem akf:aC 62 BM:=fo 19 Tryz.func62 (fun _ _=>[(4,3,.qo (h_ 1)),(4,4,.q [.ex 0 .str]),(4,5,aX D9)]) [] ajZ aY bz [] akg
end
end Go.Proofs.YtdkchodgklpomaaGreatDoor
