/- Part of the proof that ParseShape answers true at every input. -/
import Derived.Test.YtdkchodgklpomaaGreatDoorPSad
set_option linter.all false
namespace Go.Proofs.YtdkchodgklpomaaGreatDoor
set_option maxRecDepth 100000
open Go.Value (int slice string bool pointer agg tuple func float iface nilIface)
open Go.IntKind (i64 u8 u64 i32 u32 u16 i8 i16)
open Go.FloatKind (f64)
open Go.Ending (returned panicked)
section
open Go
def vy(n:Nat):mw where
 X:=y7
 args x:=[.pointer (some x.a)]
 cond x:=x.a.off=0/\x.a.spot=none
 val x:=.slice (some x.a) n n
theorem JV{P:Program}{o:Oper}{t e:TypeId}{n:Nat}{x:Operand}{cy:TypeInfo}(ho:o.op= .slice t x none none none)(ht:P.underlying t=some (.array (P.arrayLen t) (P.elem t)))(hn:P.arrayLen t=n)(he:P.elem t=e)(hi:P.info? e=some cy):dH P o (vy n):=by
 refine⟨fun q w ρ ha hc=>?_⟩;obtain⟨⟨b,off,spot⟩⟩:=q;obtain⟨rfl,rfl⟩:=hc;simp only[ho,Op.operands,vy]at ha;have c5:ρ x= .pointer (some ⟨b,0,none⟩):=by grind
 have hr:=run_sliceAt_array_all (P:=P) w t ⟨b,0,none⟩ ht;rw[he,run_sizeOf w hi,hn]at hr;simp[execOp,ho,c5,hr,slicedAt,vy,Addr.add]
def mb(x:bA):List Value:=[.int .i64 x.kind,.string x.text,.float .f64 x.num,.int .i64 x.pos,.bool x.aK]
def iS(l:List bA):List Value:=l.flatMap mb
def lj(K:cj)(s:ByteArray)(p:Nat):Nat:=K.nv (br (s.extract p (fw s p).1))
variable{s:ByteArray}{num:Nat->Nat}
theorem SS{i:Nat}{aK:Bool}(h:jq (bt s i)=true):il num s i aK=(bL s iR i,some ⟨bif CZ (s.extract i (bL s iR i)) then 2 else 1,s.extract i (bL s iR i),0,i,aK⟩):=by
 unfold il;dsimp only;rw[h];rfl
def oj(s:ByteArray)(i:Nat):Bool:=ce (bt s i)||(bt s i==46&&(decide (i+1<s.size)&&ce (bt s (i+1))))
theorem SU{i:Nat}{aK:Bool}(h:jq (bt s i)=false)(h1:oj s i=true):il num s i aK=((fw s i).1,bif (fw s i).2 then some ⟨3,⟨#[]⟩,num i,i,aK⟩ else none):=by
 unfold il;unfold oj at h1;dsimp only;rw[h,h1];rfl
theorem SV{i:Nat}{aK:Bool}(h:jq (bt s i)=false)(h1:oj s i=false)(h2:(bt s i==34||bt s i==39)=true):il num s i aK=match oK s i with| (j,none)=>(j,none)| (j,some u)=>(j,some ⟨4,cQ u,0,i,aK⟩):=by
 unfold il;unfold oj at h1;dsimp only;rw[h,h1,h2];rfl
theorem ST{i:Nat}{aK:Bool}(h:jq (bt s i)=false)(h1:oj s i=false)(h2:(bt s i==34||bt s i==39)=false):il num s i aK=match jK.find? fun m=>ij s i (nr m)with|none=>(i,none)|some m=>(i+m.size,some ⟨5,m,0,i,aK⟩):=by
 unfold il;unfold oj at h1;grind
theorem alg(s:ByteArray)(i:Nat):∀(l:List ByteArray)(k:Nat),(l.find? (fun m=>ij s i (nr m))=none/\pN s i l k= -1)\/∃j m,l[j]?=some m/\l.find? (fun m=>ij s i (nr m))=some m/\pN s i l k=((k+j:Nat):Int):=by
 intro l
 induction l with
 |nil=>intro k;exact .inl ⟨rfl,rfl⟩
 |cons m l ih=>
  intro k;rw[List.find?_cons,pN];cases h:ij s i (nr m)with
  |true=>exact .inr ⟨0,m,rfl,rfl,rfl⟩
  |false=>
   rcases ih (k+1)with⟨e1,e2⟩| ⟨j,m',e1,e2,e3⟩
   ·simp[*]
   ·exact .inr ⟨j+1,m',e1,e2,by grind⟩
theorem ala:∀m∈jK,m.size<=3:=by decide+kernel
theorem akC{x:bA}:∀u∈mb x,u.oneCell'=true:=by
 intro u hu;unfold mb at hu;simp at hu;rcases hu with rfl|rfl|rfl|rfl|rfl <;> rfl
theorem akD(l:List bA)(d:bA):iS (l++[d])=iS l++mb d:=by unfold iS;simp
structure qd where
 K:cj
 b:Nat
 src:ByteArray
 i:Nat
 aK:Bool
 r:Row
 ls:List bA
def zN:aR where
 X:=qd
 Y:=Row ⊕ (Nat×Row)
 args x:=[ah (some ⟨x.b,0,none⟩)]
 pre x:=[ag x.b [aj x.src,ae x.i,ak x.aK,au x.r.a x.r.n x.r.cap] 68,x.r.A]
 cond x:=x.i<x.src.size/\x.src.size<=1048570/\aC 72 (pP x.K)/\bv 53 5 (iS x.ls) x.r/\x.r.n<=1048576
 aQ x F:=eT x.K F
 cd x y:=match y with
  | .inl r=>∃k d,il (lj x.K x.src) x.src x.i x.aK=(k,some d)/\bv 53 5 (iS (x.ls++[d])) r
  | .inr _=>(il (lj x.K x.src) x.src x.i x.aK).2=none
 val _ y:=match y with
  | .inl _=>.returned (.bool true)
  | .inr _=>.returned (.bool false)
 post x y:=match y with
  | .inl r=>[.cells x.b [.string x.src,.int .i64 ((il (lj x.K x.src) x.src x.i x.aK).1:Nat),.bool false,.slice r.a r.n r.cap] 68,r.A]
  | .inr (k,r)=>[.cells x.b [.string x.src,.int .i64 (k:Int),.bool false,.slice r.a r.n r.cap] 68,r.A]
 sum:=some (iX Row (Nat×Row))
structure FT where
 j:Nat
 d:bA
 ok:Bool
 cb:Nat
 lc:Nat
def nE(x:qd):List Value:=[ah (some ⟨x.b,0,none⟩)]
def alY(x:qd)(F:ai):Nat->Option Inv:=fun
 |21=>some {X:=FT,P:=fun d=>(d.ok=true->il (lj x.K x.src) x.src x.i x.aK=(d.j,some d.d))/\(d.ok=false->(il (lj x.K x.src) x.src x.i x.aK).2=none),mu:=fun _=>0,lv:=fun d=>[(1,ah (some ⟨d.cb,0,none⟩)),(3,ah (some ⟨d.lc,0,none⟩)),(4,ak d.ok)],st:=fun d=>[ag x.b [aj x.src,ae d.j,ak false,au x.r.a x.r.n x.r.cap] 68,x.r.A,F,ag d.cb (nE x) 66,ag d.lc (mb d.d) 53]}
 |_=>none
def B_(x:qd):List Value:=[aj x.src,ae ↑x.i,ak false,au x.r.a x.r.n x.r.cap]
def LX(x:qd)(F:ai)(p o:Nat):=[(0,ag x.b (B_ x) 68),(1,x.r.A),(2,F),(1000,ag p (nE x) 66),(2090,ag o [ae 0,aj ⟨#[]⟩,float f64 0,ae ↑x.i,ak x.aK] 53)]
def Vk(e:cM):List Value:=[aj e.src,ae (↑(bL e.src iR e.i.toNat):Int),ak e.aK,au e.oa e.on e.oc]
def Tu(e:cM)(x:qd)(F:ai)(p o:Nat):=[(0,ag e.b (Vk e) 68),(1,x.r.A),(2,F),(1000,ag p (nE x) 66),(2090,ag o [ae 1,aj (e.src.extract e.i.toNat (bL e.src iR e.i.toNat)),float f64 0,ae ↑x.i,ak x.aK] 53)]
def Uv(z:FT)(e0:qd):=(z.ok=true->il (lj e0.K e0.src) e0.src e0.i e0.aK=(z.j,some z.d))/\(z.ok=false->(il (lj e0.K e0.src) e0.src e0.i e0.aK).snd=none)
def Ey(z:FT):List Value:=[ae z.d.kind,aj z.d.text,float f64 z.d.num,ae z.d.pos,ak z.d.aK]
def Dl(e0:qd)(e1:ai)(v0 v1 v2:Value)(ss:St):=∃(z:FT),Uv z e0/\(v0=ah (some ⟨z.cb,0,none⟩)/\v1=ah (some ⟨z.lc,0,none⟩)/\v2=ak z.ok/\True)/\aD ss [(0,ag e0.b [aj e0.src,ae ↑z.j,ak false,au e0.r.a e0.r.n e0.r.cap] 68),(1,e0.r.A),(2,e1),(3,ag z.cb (nE e0) 66),(4,ag z.lc (Ey z) 53)]
def cW(p:Nat):=ah (bJ p)
def XN(aa:List Value)(pp:List ai)(rr:ai)(k0:ir->Unit->Prop):=aC 60 qz/\true=true/\∃(z:ir),aa=(yA z)/\pp=[ag z.l.b (ED z) 68]/\(0<=z.l.i/\z.l.i<=z.l.src.size/\z.l.src.size<=1048576/\aC 72 (pP z.K))/\eT z.K rr/\∀(u0:Unit),True->k0 z u0
def Us(o p:Nat)(x:qd)(F:ai):=ax o 0/\ax p 0/\XN (nE x) [ag x.b (B_ x) 68] (aH [(0,ag x.b (B_ x) 68),(1,x.r.A),(2,F),(1000,ag p (nE x) 66),(2090,ag o [ae 3,aj ⟨#[]⟩,float f64 0,ae ↑x.i,ak x.aK] 53)] [0]) (fun c b=>ax o 2/\Dl x F (cW p) (cW o) (ak (fw c.l.src c.l.i.toNat).snd) [(0,ag c.l.b [aj c.l.src,ae (↑(fw c.l.src c.l.i.toNat).fst:Int),ak c.l.aK,au c.l.oa c.l.on c.l.oc] 68),(1,x.r.A),(2,F),(1000,ag p (nE x) 66),(2090,ag o [ae 3,aj ⟨#[]⟩,float f64 (bif (fw c.l.src c.l.i.toNat).snd then c.K.nv (br (c.l.src.extract c.l.i.toNat (fw c.l.src c.l.i.toNat).fst)) else 0),ae ↑x.i,ak x.aK] 53)])
def Vf(x:qd):=(-9223372036854775808:Int)<=(x.i:Int)+1/\(x.i:Int)+1<=(9223372036854775807:Int)
def XO(aa:List Value)(pp:List ai)(rr:ai)(k0:jM->ByteArray->Prop):=aC 61 tW/\true=true/\∃(z:jM),aa=[ah (lP z)]/\pp=[ag z.l.b (yh z) 68]/\(0<=z.l.i/\z.l.i<z.l.src.size/\z.l.src.size<=1048576)/\Gl rr/\∀(u0:ByteArray),(∀(w0:List Nat),(oK z.l.src z.l.i.toNat).snd=some w0->u0=cQ w0)->k0 z u0
def Vb(o p:Nat)(x:qd)(F:ai):=ax o 0/\ax p 0/\XO (nE x) [ag x.b (B_ x) 68] (aH [(0,ag x.b (B_ x) 68),(1,x.r.A),(2,F),(1000,ag p (nE x) 66),(2090,ag o [ae 4,aj ⟨#[]⟩,float f64 0,ae ↑x.i,ak x.aK] 53)] [0]) (fun c b=>ax o 1/\Dl x F (cW p) (cW o) (ak (oK c.l.src c.l.i.toNat).snd.isSome) [(0,ag c.l.b [aj c.l.src,ae (↑(oK c.l.src c.l.i.toNat).fst:Int),ak c.l.aK,au c.l.oa c.l.on c.l.oc] 68),(1,x.r.A),(2,F),(1000,ag p (nE x) 66),(2090,ag o [ae 4,aj b,float f64 0,ae ↑x.i,ak x.aK] 53)])
def XP(oo:Oper)(aa:List Value)(k0:y7->Prop):=dH Tryz.prog oo (vy 42)/\∃(z:y7),aa=[ah (some z.a)]/\(z.a.off=0/\z.a.spot=none)/\k0 z
def XQ(aa:List Value)(rr:ai)(k0:y_->Unit->Prop):=aC 62 BM/\true=true/\∃(z:y_),aa=[au yq 42 42,func (Fn.func 63) ⟨[]⟩ ⟨Co z⟩]/\([]:List ai)=[]/\(0<=z.l.i/\z.l.i<=z.l.src.size/\z.l.src.size<=1048576)/\(Gl rr/\vn z.l z.cb rr)/\∀(u0:Unit),True->k0 z u0
def UZ(e:y_):=0<=pN e.l.src e.l.i.toNat jK 0/\pN e.l.src e.l.i.toNat jK 0<(↑(42:Nat):Int)
def q5(n:cM)(o p:Nat)(x:qd)(F:ai):=Br ((↑(bt n.src n.i.toNat):Int)==34) (Vb o p x F) (Br ((↑(bt n.src n.i.toNat):Int)==39) (Vb o p x F) (XP (a8 Tryz.f36 5 0) [ah yq] (fun f=>XQ [au (some f.a) 42 42,func (Fn.func 63) ⟨[]⟩ ⟨[ah (bJ p)]⟩] (aH (LX x F p o) []) (fun e d=>aP (pN e.l.src e.l.i.toNat jK 0<0) (aq zN x F c7 (LX x F p o)) (true=true/\UZ e/\T2 F ⟨2,0+(pN e.l.src e.l.i.toNat jK 0).toNat*1,none⟩ (fun c=>ax o 0/\ax o 1/\true=true/\ax p 0/\ax x.b 1/\UZ e/\T2 F ⟨2,0+(pN e.l.src e.l.i.toNat jK 0).toNat*1,none⟩ (fun b=>bT ((x.i:Int)+(b.size:Int))/\ax x.b 1/\Dl x F (cW p) (cW o) (ak true) [(0,ag x.b [aj x.src,ae ((x.i:Int)+(b.size:Int)),ak false,au x.r.a x.r.n x.r.cap] 68),(1,x.r.A),(2,F),(1000,ag p (nE x) 66),(2090,ag o [ae 5,aj c,float f64 0,ae ↑x.i,ak x.aK] 53)])))))))
theorem al0(x:qd)(F:ai)(hc:zN.cond x)(hr:zN.aQ x F):∀(p:Nat),true=true/\ax p 0/\ax x.b 1/\ax p 0/\ax x.b 2/\∀(o:Nat),cF o (ax p 0/\ax x.b 2/\(ax p 0/\qf (nE x) (aH (LX x F p o) []) (fun n m=>Df (uX n) (fun l k=>Br (jq l.c) (ax o 0/\ax p 0/\aC 56 Ax/\true=true/\∃(e:cM),[ah (some ⟨x.b,0,none⟩),func (Fn.func 57) ⟨[]⟩ ⟨[]⟩]=[ah (gP e),func (Fn.func 57) ⟨[]⟩ ⟨[]⟩]/\[ag x.b (B_ x) 68]=[ag e.b (qC e) 68]/\wt e/\True/\∀(d:Unit),True->ax o 1/\ax o 1/\aC 59 AO/\true=true/\∃(c:QC),[aj (e.src.extract e.i.toNat (bL e.src iR e.i.toNat))]=[aj c.s]/\([]:List ai)=[]/\c.s.size<=1048570/\Gl (aH (Tu e x F p o) [])/\∀(b:Unit),True->Br (CZ c.s) (ax o 0/\Dl x F (cW p) (cW o) (ak true) [(0,ag e.b (Vk e) 68),(1,x.r.A),(2,F),(1000,ag p (nE x) 66),(2090,ag o [ae 2,aj (e.src.extract e.i.toNat (bL e.src iR e.i.toNat)),float f64 0,ae ↑x.i,ak x.aK] 53)]) (Dl x F (cW p) (cW o) (ak true) (Tu e x F p o))) (true=true/\T0 (uX n) (fun j i=>Br (ce j.c) (Us o p x F) (Br ((↑(bt n.src n.i.toNat):Int)==46) (ax p 0/\ax x.b 1/\Vf x/\ax p 0/\ax x.b 0/\aP ((x.i:Int)+1<(x.src.size:Int)) (ax p 0/\ax x.b 0/\ax p 0/\ax x.b 1/\Vf x/\(0<=(x.i:Int)+1/\(x.i:Int)+1<(x.src.size:Int))/\T0 [a_ (aE x.src ((x.i:Int)+1))] (fun h g=>Br (ce h.c) (Us o p x F) (q5 n o p x F))) (q5 n o p x F)) (q5 n o p x F)))))))/\aS fun(e:FT)_=>Uv e x->true=true/\ax e.cb 0/\ax e.cb 0/\ax x.b 3/\cF e.lc (∀(c:Nat),fj Tryz.prog (a8 Tryz.f36 21 7) (dt (53:TypeId) 5 48)/\true=true/\∃(b:qX),[au x.r.a x.r.n x.r.cap,au (bJ c) 1 1]=(mg b)/\[x.r.A]=[b.r.A]/\(bv 53 5 b.cs b.r/\b.ys.length=b.m*5/\(∀(a:Value),a∈b.ys->a.oneCell'=true)/\(b.r.n+b.m)*48<=140737488355328/\b.r.n+b.m<=9223372036854775807/\(b.a=none->b.m=0/\b.c=0))/\(∀(a:Addr),b.a=some a->da (aH [(0,ag x.b [aj x.src,ae ↑e.j,ak false,au x.r.a x.r.n x.r.cap] 68),(1,x.r.A),(2,F),(3,ag e.cb (nE x) 66),(4,ag e.lc (Ey e) 53),(22060,ag c (Ey e) 53)] [1]) a b.ys)/\∀(a:Row),(bv 53 5 (b.cs++b.ys) a/\a.n=b.r.n+b.m/\(b.m=0->a=b.r))->ax x.b 3/\aq zN x F (az (ak e.ok)) [(0,ag x.b [aj x.src,ae ↑e.j,ak false,au a.a a.n a.cap] 68),(1,a.A),(2,F),(3,ag e.cb (nE x) 66),(4,ag e.lc (Ey e) 53),(22060,ag c (Ey e) 53)])):=by
 delta gP qf nE B_ LX Df uX qC wt Vk Tu Uv Ey Dl bJ cW T0 wl yA ED XN Us Vf lP yh XO Vb XP yq Co XQ dq c7 UZ T2 q5 mg aH ax bT cF ae a_ aj ak ah au ag aP az aS;obtain⟨K,b,src,i,aK,r,ls⟩:=x;obtain⟨hi,hs,hN,bB,xQ⟩:=hc;replace hr:eT K F:=hr;dsimp only at hi hs hN bB xQ;dsimp only;have hb:=iM src i;intro cb;refine⟨rfl,ap,ap,ap,ap,fun lc=>⟨ap,ap,ap,ap,ap,ap,ap,?_,?_⟩⟩;rotate_left
 ·rintro⟨j,d,ok,cb,lc⟩ js ⟨k1,k2⟩;dsimp only at k1 k2⊢;refine⟨rfl,ap,ap,ap,ap,ap,ap,ap,ap,fun sb=>bp (kP 5 48 rfl rfl rfl rfl rfl rfl rfl (by decide)) ⟨r,iS ls,some ⟨sb,0,none⟩,1,1,mb d⟩ ⟨bB,rfl,akC,by grind,by grind,fun h=>nomatch h⟩ (?_) fun r2 h2=>⟨ap,?_⟩⟩
  ·intro a ha;cases ha;exact da.rest (j:=22060) aM (da.cells (fun j u hj=>by rw[jk];exact hj))
  ·cases ok with
   |true=>exact⟨.inl r2,⟨j,d,k1 rfl,by rw[akD];simp[*]⟩,rfl,aD.pick [0,1,2] rfl (by simp only[zN,k1 rfl];rfl)⟩
   |false=>exact⟨.inr (j,r2),k2 rfl,rfl,aB [0,1,2]⟩
 refine mo (A:=jq (bt src i)=false/\oj src i=true) (fun kn=>mo (A:=jq (bt src i)=false/\oj src i=false) (fun ke=>⟨ap,wi,rfl,⟨b,src,(i:Int),false,r.a,r.n,r.cap⟩,rfl,rfl,⟨by simp[*],by grind⟩,⟨aO.rest (j:=0) aM (aO.cells rfl),aO.rest (j:=0) aM (aO.cells rfl)⟩,fun _ _=>bV Sz ⟨bt src (i:Int).toNat⟩ (iM _ _) fun _ _=>aG (fun hl=>?_) (fun hl=>⟨rfl,zr,rfl,⟨bt src (i:Int).toNat⟩,rfl,rfl,iM _ _,ao,fun _ _=>aG (fun hd=>kn ⟨hl,?_⟩) (fun hd=>aG (fun GA=>⟨ap,ap,aJ,ap,ap,bl (fun bP=>⟨ap,ap,ap,ap,aJ,⟨af,bP⟩,zr,rfl,⟨bt src (i+1)⟩,?_,rfl,iM _ _,ao,fun _ _=>aG (fun RI=>kn ⟨hl,?_⟩) (fun RI=>ke ⟨hl,?_⟩)⟩) (fun bP=>ke ⟨hl,?_⟩)⟩) (fun GA=>ke ⟨hl,?_⟩))⟩)⟩) (fun he=>?_)) (fun hn=>?_)
 ·have hl:jq (bt src i)=true:=hl;obtain⟨r1,r2⟩:=tK src iR (show i<=src.size by omega);have e1:il (lj K src) src i aK=_:=SS hl;refine⟨ap,ap,aop,rfl,⟨b,src,(i:Int),false,r.a,r.n,r.cap⟩,rfl,rfl,⟨by simp[*],by grind,by grind⟩,ao,fun _ _=>⟨ap,ap,aqn,rfl,⟨src.extract i (bL src iR i)⟩,rfl,rfl,?_,Gl.rest (j:=2) aM hr.gl,fun _ _=>aG (fun hw=>⟨ap,⟨⟨bL src iR i,⟨2,src.extract i (bL src iR i),0,i,aK⟩,true,cb,lc⟩,⟨fun _=>?_,fun h=>nomatch h⟩,aV,aB [0,1,2,1000,2090]⟩⟩) (fun hw=>⟨⟨bL src iR i,⟨1,src.extract i (bL src iR i),0,i,aK⟩,true,cb,lc⟩,⟨fun _=>?_,fun h=>nomatch h⟩,aV,aB [0,1,2,1000,2090]⟩)⟩⟩
  ·dsimp only;rw[jU];omega
  all_goals grind
 ·unfold oj;grind
 ·rw[gX,show((i:Int)+1).toNat=i+1 by omega]
 ·have GA:((bt src i:Int)==46)=true:=GA;unfold oj;grind
 ·unfold oj;grind
 ·unfold oj;grind
 ·have GA:((bt src i:Int)==46)=false:=GA;unfold oj;grind
 ·obtain⟨hl,hn⟩:=he;refine mo (A:=(bt src i==34||bt src i==39)=true) (fun kt=>aG (fun h=>kt ?_) (fun Zg=>aG (fun h=>kt ?_) (fun Zh=>?_))) (fun ht=>?_)
  ·grind
  ·grind
  ·have Zg:((bt src i:Int)==34)=false:=Zg;have Zh:((bt src i:Int)==39)=false:=Zh;have e1:il (lj K src) src i aK=_:=ST hl hn (by grind);refine⟨JV rfl rfl rfl rfl rfl,⟨⟨2,0,none⟩⟩,rfl,ap,akf,rfl,⟨⟨b,src,(i:Int),false,r.a,r.n,r.cap⟩,cb⟩,rfl,rfl,⟨by simp[*],by grind,by grind⟩,⟨Gl.rest (j:=2) aM hr.gl,aO.rest (j:=1000) aM (aO.cells rfl),⟨aO.rest (j:=0) aM (aO.cells rfl),aO.rest (j:=0) aM (aO.cells rfl)⟩⟩,fun _ _=>?_⟩;dsimp only;rw[cB];rcases alg src i jK 0 with⟨f1,f2⟩| ⟨j,m,f1,f2,f3⟩
   ·rw[f2];exact aG (fun _=>⟨.inr (i,r),by show(il (lj K src) src i aK).2=none;simp[*],rfl,aB [0,1,2]⟩) (fun h=>absurd h (by decide))
   ·rw[f3,jk];have hj:j<42:=(mG.1 f1).1;have hm:m.size<=3:=ala m (oU f1);have e2:0+(j:Int).toNat*1=j:=af;have lk:aO F ⟨2,0+(j:Int).toNat*1,none⟩ (.string m):=by rw[e2];exact hr.gl.Le j m f1
    have ej:(i:Int)+(m.size:Int)=((i+m.size:Nat):Int):=af;refine aG (fun h=>absurd (l7 h) af) (fun _=>⟨rfl,aJ,m,lk,ap,ap,rfl,ap,ap,aJ,m,lk,aJ,ap,⟨⟨i+m.size,⟨5,m,0,i,aK⟩,true,cb,lc⟩,⟨fun _=>by simp[*],fun h=>nomatch h⟩,aV,aD.pick [0,1,2,1000,2090] rfl (by rfl)⟩⟩)
  ·have e1:il (lj K src) src i aK=_:=SV hl hn ht;refine⟨ap,ap,apA,rfl,⟨⟨b,src,(i:Int),false,r.a,r.n,r.cap⟩⟩,rfl,rfl,⟨by simp[*],by simp[*],by grind⟩,Gl.rest (j:=2) aM hr.gl,fun y hy=>⟨ap,⟨⟨(oK src i).1,⟨4,y,0,i,aK⟩,(oK src i).2.isSome,cb,lc⟩,⟨fun h=>?_,fun h=>?_⟩,aV,aB [0,1,2,1000,2090]⟩⟩⟩
   all_goals grind
 ·obtain⟨hl,hn⟩:=hn;have e1:il (lj K src) src i aK=_:=SU hl hn;refine⟨ap,ap,alw,rfl,⟨K,⟨b,src,(i:Int),false,r.a,r.n,r.cap⟩⟩,rfl,rfl,⟨by simp[*],by grind,by grind,hN⟩,eT.rest (j:=2) aM hr,fun _ _=>⟨ap,⟨⟨(fw src i).1,⟨3,⟨#[]⟩,bif (fw src i).2 then lj K src i else 0,i,aK⟩,(fw src i).2,cb,lc⟩,⟨fun h=>?_,fun h=>?_⟩,aV,aB [0,1,2,1000,2090]⟩⟩⟩
  all_goals grind
theorem alZ:aC 36 zN:=fo 118 Tryz.func36 (fun _ _=>[(0,0,.n 1000),(1,9,.n 2090),(4,1,aX o7),(10,1,aX uL),(12,1,bq Ax),(13,2,aX AO),(15,1,aX ry),(15,29,aX ry),(17,1,bq qz),(20,1,bq tW),(5,0,.qo (vy 42)),(5,2,aX BM),(8,2,.q [.ex 2 .str]),(9,6,.q [.ex 2 .str]),(21,6,.n 22060),(21,7,.o (dt 53 5 48) [1] [1])]) [(1,0,aT 1000),(1,3,aT 0),(1,4,aT 1000),(1,7,aT 0),(1,10,.w [LH.z00 (2090:Nat),LH.z00 (2090:Nat),LH.z00 (2090:Nat),LH.z00 (2090:Nat),LH.z00 (2090:Nat)]),(2,0,aT 1000),(2,3,.w [LH.z00 (0:Nat)]),(4,0,aT 1000),(21,0,aT 3),(11,1,.w [LH.z00 (2090:Nat)]),(16,1,.w [LH.z00 (2090:Nat)]),(15,6,aT 1000),(19,1,.w [LH.z00 (2090:Nat)]),(8,4,.w [LH.z00 (2090:Nat)]),(21,1,aT 3),(12,0,aT 1000),(17,0,aT 1000),(15,9,aT 0),(20,0,aT 1000),(8,6,.w [LH.z00 (2090:Nat)]),(21,4,aT 0),(12,3,.w [LH.z00 (2090:Nat)]),(17,6,.w [LH.z00 (2090:Nat)]),(15,11,aT 1000),(20,6,.w [LH.z00 (2090:Nat)]),(9,0,aT 1000),(21,5,.q [LH.z00 (4:Nat),LH.z00 (4:Nat),LH.z00 (4:Nat),LH.z00 (4:Nat),LH.z00 (4:Nat)]),(13,1,aT 2090),(15,14,aT 0),(9,3,aT 0),(21,10,.w [LH.z00 (0:Nat)]),(14,1,.w [LH.z00 (2090:Nat)]),(15,19,aT 1000),(9,11,.w [LH.z00 (0:Nat)]),(15,22,aT 0),(15,23,aT 1000),(15,26,aT 0)] aY alY bz [] al0
end
section
open Go
theorem aap(s:ByteArray):∀(f i:Nat),i<=s.size->i<=(kZ s f i).1/\(kZ s f i).1<=s.size:=by
 intro f
 induction f with
 |zero=>intro i h;exact⟨cr _,h⟩
 |succ f ih=>
  intro i h;rw[kZ];by_cases hi:i<s.size
  ·rw[bG hi,bf];cases hn:eo s i with
   |none=>exact⟨cr _,h⟩
   |some cn=>
    obtain⟨c,n⟩:=cn;obtain⟨f1,f2,f3⟩:=pO hn;grind
  simp[*]
variable{s:ByteArray}{i:Nat}
theorem R6{t:List Nat}(h:ij s i t=true):i+t.length<=s.size:=by
 unfold ij at h;grind
theorem Z2(s:ByteArray)(t:List Nat):∀(f i k:Nat),vV s t f i=some k->k+t.length<=s.size:=by
 intro f
 induction f with
 |zero=>intro i k h;cases h
 |succ f ih=>
  intro i k h;rw[vV]at h;cases hp:ij s i t with
  |true=>rw[hp]at h;cases h;exact R6 hp
  |false=>
   grind
theorem QM(s:ByteArray):∀(f i:Nat)(aK:Bool),i<=s.size->i<=(eG s f i aK).2.1/\(eG s f i aK).2.1<=s.size:=by
 intro f
 induction f with
 |zero=>intro i aK h;exact⟨cr _,h⟩
 |succ f ih=>
  intro i aK h;rw[eG];by_cases hi:i<s.size
  ·rw[bG hi,bf];cases hn:eo s i with
   |none=>exact⟨cr _,h⟩
   |some cn=>
    obtain⟨c,n⟩:=cn;obtain⟨f1,f2,f3⟩:=pO hn;have step:∀(j:Nat)(l:Bool),i<=j->j<=s.size->i<=(eG s f j l).2.1/\(eG s f j l).2.1<=s.size:=fun j l h1 h2=>by
     grind
    dsimp only;cases kX c with
    |true=>exact step _ _ af f1
    |false=>
     rw[aU];cases x6 c with
     |true=>exact step _ _ af f1
     |false=>
      rw[aU];cases h1:ij s i [47,47]with
      |true=>
       rw[bf];have hl:=aap s (s.size+1) i h;grind
      |false=>
       rw[aU];cases h2:ij s i [47,42]with
       |true=>
        rw[bf];have hp:=R6 h2;have hp:i+2<=s.size:=hp;cases hx:vV (s.extract (i+2) s.size) [42,47] (s.size+1) 0 with
        |none=>exact⟨cr _,h⟩
        |some k=>
         have hk:=Z2 _ _ _ _ _ hx;rw[jU,Nat.min_self]at hk;grind
       |false=>exact⟨cr _,h⟩
  simp[*]
theorem abK{p:Nat->Bool}(hi:i<s.size)(hp:p (bt s i)=true):i+1<=bL s p i/\bL s p i<=s.size:=by
 unfold bL;rw[iW,bG hi,hp];exact abL s p _ (i+1) hi
theorem acc(s:ByteArray)(mark:Nat):∀(f i:Nat)(o:List Nat),i<=s.size->i<=(pm s mark f i o).1/\(pm s mark f i o).1<=s.size:=by
 intro f
 induction f with
 |zero=>intro i o h;exact⟨cr _,h⟩
 |succ f ih=>
  intro i o h;rw[pm];cases hn:eo s i with
  |none=>exact⟨cr _,h⟩
  |some cn=>
   obtain⟨c,n⟩:=cn;obtain⟨f1,f2,f3⟩:=pO hn;dsimp only;cases c==10||c==13 with
   |true=>exact⟨cr _,h⟩
   |false=>
    rw[aU];cases c==mark with
    |true=>exact⟨by simp[*],f1⟩
    |false=>
     rw[aU];cases c==92 with
     |true=>
      rw[bf];rcases hE:iB s (i+n)with⟨j,_|u⟩
      ·obtain⟨q1,q2,_⟩:=Ki hE f1;grind
      ·obtain⟨q1,q2,_⟩:=Ki hE f1;grind
     |false=>
      grind
theorem aaU{j:Nat}(h:j<=s.size)(ok:(yc s j).2=true):j<=(yc s j).1/\(yc s j).1<=s.size:=by
 unfold yc at ok⊢;cases h1:(bt s j|||32)==101 with
 |true=>
  rw[h1,bf]at ok;rw[bf];have hj:j<s.size:=by
   rcases Nat.lt_or_ge j s.size with h'|h'
   ·exact h'
   ·rw[DB h']at h1;cases h1
  cases h2:(bt s (j+1)==43||bt s (j+1)==45)with
  |true=>
   rw[bf];have s8:j+1<s.size:=DA (by
    intro e;rw[e]at h2;cases h2)
   have:=tK s ce (show j+2<=s.size by omega);exact⟨by show j<=bL s ce (j+2);omega,this.2⟩
  |false=>
   rw[aU];have:=tK s ce (show j+1<=s.size by omega);exact⟨by show j<=bL s ce (j+1);omega,this.2⟩
 |false=>exact⟨cr _,h⟩
theorem alU(hi:i<s.size)(h:oj s i=true)(ok:(fw s i).2=true):i+1<=(fw s i).1/\(fw s i).1<=s.size:=by
 rw[Hh]at ok⊢;cases h0:(bt s i==48&&(decide (i+1<s.size)&&(bt s (i+1)|||32)==120))with
 |true=>
  rw[bf];have h2:i+1<s.size:=by
   grind
  have:=tK s gz (show i+2<=s.size by omega);omega
 |false=>
  rw[h0,aU]at ok;rw[aU];unfold SO BZ at ok⊢;have r:=tK s ce (Nat.le_of_lt hi);cases h1:(decide (bL s ce i-i>1)&&bt s i==48)with
  |true=>rw[h1]at ok;cases ok
  |false=>
   rw[h1,aU]at ok;rw[aU];unfold Ej at ok⊢;cases h2:bt s (bL s ce i)==46 with
   |true=>
    rw[h2,bf]at ok;rw[bf];have hj:bL s ce i<s.size:=DA (by intro e;rw[e]at h2;cases h2);have r2:=tK s ce (show bL s ce i+1<=s.size by omega);have:=aaU r2.2 ok;omega
   |false=>
    rw[h2,aU]at ok;rw[aU];have:=aaU r.2 ok;have hd:i+1<=bL s ce i:=by
     unfold oj at h;cases hd:ce (bt s i)with
     |true=>exact(abK hi hd).1
     |false=>
      grind
    omega
theorem SR{num:Nat->Nat}{k:Nat}{aK:Bool}{d:bA}(hi:i<s.size)(h:il num s i aK=(k,some d)):i+1<=k/\k<=s.size:=by
 cases hl:jq (bt s i)with
 |true=>
  rw[SS hl]at h;cases h;exact abK hi (by unfold iR;simp[*])
 |false=>
  cases hn:oj s i with
  |true=>
   rw[SU hl hn]at h;cases ho:(fw s i).2 with
   |false=>rw[ho]at h;cases h
   |true=>
    rw[ho]at h;have:=alU hi hn ho;grind
  |false=>
   cases ht:(bt s i==34||bt s i==39)with
   |true=>
    rw[SV hl hn ht]at h;have:=acc s (bt s i) (s.size+1) (i+1) [] hi;unfold oK at h;grind
   |false=>
    rw[ST hl hn ht]at h;cases hf:jK.find? (fun m=>ij s i (nr m))with
    |none=>rw[hf]at h;cases h
    |some m=>
     rw[hf]at h;cases h;have h0:ij s i (nr m)=true:=List.find?_some (p:=fun m=>ij s i (nr m)) hf;have h1:=R6 h0;have h2:(nr m).length=m.size:=by unfold nr;simp
     have h3:∀m∈jK,1<=m.size:=by decide+kernel
     grind
end
section
open Go
theorem K_(l:List bA):(iS l).length=l.length*5:=by
 induction l with
 |nil=>rfl
 |cons d l ih=>
  have:iS (d::l)=mb d++iS l:=rfl;rw[this,gi,ih,xA];show 5+l.length*5=_;omega
structure w7 where
 K:cj
 src:ByteArray
def dE(K:cj)(s:ByteArray):List bA×Int:=Ea (lj K s) s
def j7(K:cj)(s:ByteArray):Int×Int:=bif decide (s.size>8192) then (0,2) else ((dE K s).2,50)
def wb:aR where
 X:=w7
 Y:=Row ⊕ Unit
 args x:=[aj x.src]
 cond x:=aC 72 (pP x.K)
 aQ x F:=eT x.K F
 cd x y:=match y with
  | .inl r=>x.src.size<=8192/\(dE x.K x.src).2= -1/\bv 53 5 (iS (dE x.K x.src).1) r/\(dE x.K x.src).1.length<=x.src.size
  | .inr _=>x.src.size>8192\/0<=(dE x.K x.src).2
 val x y:=match y with
  | .inl r=>.returned (.tuple #[.slice r.a r.n r.cap,.int .i64 0,.int .i64 0])
  | .inr _=>.returned (.tuple #[.slice none 0 0,.int .i64 (j7 x.K x.src).1,.int .i64 (j7 x.K x.src).2])
 post _ y:=match y with
  | .inl r=>[r.A]
  | .inr _=>[.dT]
 sum:=some (iX Row Unit)
structure zb where
 b:Nat
 i:Nat
 f:Nat
 aK:Bool
 r:Row
 ls:List bA
def E3(d:zb):Option Addr:=some ⟨d.b,0,none⟩
def ak8(x:w7)(F:ai):Nat->Option Inv:=fun
 |0=>some {X:=zb,P:=fun d=>x.src.size<=8192/\d.i<=x.src.size/\x.src.size<d.i+d.f/\bv 53 5 (iS d.ls) d.r/\d.ls.length<=d.i/\dE x.K x.src=uM (lj x.K x.src) x.src d.f d.i d.aK d.ls,mu:=fun d=>x.src.size-d.i,lv:=fun d=>[(0,aj x.src),(5,ah (E3 d))],st:=fun d=>[F,ag d.b [aj x.src,ae d.i,ak d.aK,au d.r.a d.r.n d.r.cap] 68,d.r.A]}
 |_=>none
structure C_ where
 b:Nat
 j:Nat
 m:Nat
 f:Nat
 aK:Bool
 r:Row
 ls:List bA
def lxG:(T:Type)×(C_->T):=⟨Nat,fun d=>d.m⟩
def SA(num:Nat->Nat)(s:ByteArray)(f j:Nat)(aK:Bool)(o:List bA):List bA×Int:=
 bif j==s.size then (o,-1) else match il num s j aK with
  | (_,none)=>([],j)
  | (k,some x)=>uM num s f k false (o++[x])
def ak7(x:w7)(F:ai):Nat->Option Inv:=fun
 |7=>some {X:=C_,P:=fun d=>x.src.size<=8192/\d.j<=x.src.size/\d.m<=d.j/\x.src.size<d.m+(d.f+1)/\bv 53 5 (iS d.ls) d.r/\d.ls.length<=d.j/\dE x.K x.src=SA (lj x.K x.src) x.src d.f d.j d.aK d.ls,mu:=fun _=>0,lv:=fun d=>[(0,aj x.src),(5,ah (some ⟨d.b,0,none⟩))],st:=fun d=>[F,ag d.b [aj x.src,ae d.j,ak d.aK,au d.r.a d.r.n d.r.cap] 68,d.r.A],gh:=some lxG}
 |_=>none
def LP(x:w7)(a:zb):=x.src.size<=8192/\a.i<=x.src.size/\x.src.size<a.i+a.f/\bv 53 5 (iS a.ls) a.r/\a.ls.length<=a.i/\dE x.K x.src=uM (lj x.K x.src) x.src a.f a.i a.aK a.ls
def Mz(F:ai)(a:zb)(x:w7):=[(0,F),(1,ag a.b [aj x.src,ae ↑a.i,ak a.aK,au a.r.a a.r.n a.r.cap] 68),(2,a.r.A)]
def TI(F:ai)(c:cM)(i:zb):=[(0,F),(1,ag c.b [aj c.src,ae (↑(eG c.src (c.src.size+1) c.i.toNat c.aK).snd.fst:Int),ak (eG c.src (c.src.size+1) c.i.toNat c.aK).snd.snd,au c.oa c.on c.oc] 68),(2,i.r.A)]
def TH(x:w7)(a:C_)(g:Nat):=(x.src.size<=8192/\a.j<=x.src.size/\a.m<=a.j/\x.src.size<a.m+(a.f+1)/\bv 53 5 (iS a.ls) a.r/\a.ls.length<=a.j/\dE x.K x.src=SA (lj x.K x.src) x.src a.f a.j a.aK a.ls)/\lxG.snd a=g
def MA(F:ai)(a:C_)(x:w7):=[(0,F),(1,ag a.b [aj x.src,ae ↑a.j,ak a.aK,au a.r.a a.r.n a.r.cap] 68),(2,a.r.A)]
theorem ak_(x:w7)(F:ai)(hc:wb.cond x)(hr:wb.aQ x F):aP ((x.src.size:Int)>8192) (aq wb x F (az (tuple ⟨[au none 0 0,ae 0,ae 2]⟩)) [(0,F)]) (∀(j:Nat),(∃(a:zb),LP x a/\(aj x.src=aj x.src/\ah (bJ j)=ah (E3 a)/\True)/\aD [(0,F),(4020,ag j [aj x.src,ae 0,ak false,au none 0 0] 68)] (Mz F a x))/\aS fun(i:zb)_=>LP x i->∃(g:Nat),(aC 35 rv/\true=true/\∃(c:cM),[ah (E3 i)]=[ah (gP c)]/\[ag i.b [aj x.src,ae ↑i.i,ak i.aK,au i.r.a i.r.n i.r.cap] 68]=[ag c.b (qC c) 68]/\wt c/\Gl (aH (Mz F i x) [1])/\∀(b:Unit),True->aP ((eG c.src (c.src.size+1) c.i.toNat c.aK).fst>=0) (aq wb x F (az (tuple ⟨[au none 0 0,ae (eG c.src (c.src.size+1) c.i.toNat c.aK).fst,ae 50]⟩)) (TI F c i)) (∃(a:C_),TH x a g/\(aj x.src=aj x.src/\ah (E3 i)=ah (some ⟨a.b,0,none⟩)/\True)/\aD (TI F c i) (MA F a x)))/\aS fun(f:C_)_=>TH x f g->ax f.b 1/\Br ((f.j:Int)==(x.src.size:Int)) (ax f.b 3/\aq wb x F (az (tuple ⟨[au f.r.a f.r.n f.r.cap,ae 0,ae 0]⟩)) (MA F f x)) (ax f.b 1/\aC 36 zN/\true=true/\∃(d:qd),[ah (some ⟨f.b,0,none⟩)]=(nE d)/\[ag f.b [aj x.src,ae ↑f.j,ak f.aK,au f.r.a f.r.n f.r.cap] 68,f.r.A]=[ag d.b [aj d.src,ae ↑d.i,ak d.aK,au d.r.a d.r.n d.r.cap] 68,d.r.A]/\(d.i<d.src.size/\d.src.size<=1048570/\aC 72 (pP d.K)/\bv 53 5 (iS d.ls) d.r/\d.r.n<=1048576)/\eT d.K (aH (MA F f x) [1,2])/\(∀(c:Row),(∃(b:Nat),∃(a:bA),il (lj d.K d.src) d.src d.i d.aK=(b,some a)/\bv 53 5 (iS (d.ls++[a])) c)->∃(a:zb),LP x a/\(aj x.src=aj x.src/\ah (some ⟨f.b,0,none⟩)=ah (E3 a)/\True)/\aD [(0,F),(1,ag d.b [aj d.src,ae (↑(il (lj d.K d.src) d.src d.i d.aK).fst:Int),ak false,au c.a c.n c.cap] 68),(2,c.A)] (Mz F a x)/\x.src.size-a.i<x.src.size-i.i)/\∀(a:Nat×Row),(il (lj d.K d.src) d.src d.i d.aK).snd=none->aq wb x F (az (tuple ⟨[au none 0 0,ae ↑f.j,ae 50]⟩)) [(0,F),(1,ag d.b [aj d.src,ae ↑a.1,ak false,au a.snd.a a.2.n a.2.cap] 68),(2,a.snd.A)])):=by
 delta LP bJ E3 Mz gP qC wt TI TH MA nE aH ax ae aj ak ah au ag aP az aS;have hN:aC 72 (pP x.K):=hc;replace hr:eT x.K F:=hr;refine bl (fun h=>⟨.inr (),.inl af,?_,aB [9,0]⟩) (fun h=>?_)
 ·show returned _=returned (.tuple #[.slice none 0 0,.int .i64 (j7 x.K x.src).1,.int .i64 (j7 x.K x.src).2]);unfold j7;grind
 have hs:x.src.size<=8192:=af;have fail:∀(p:Int)(A B:ai),(dE x.K x.src).2=p->0<=p->aq wb x F (returned (tuple #[slice none 0 0,int i64 p,int i64 50])) [(0,F),(1,A),(2,B)]:=fun p A B e hp=>
  ⟨.inr (),.inr af,by show returned _=returned (.tuple #[.slice none 0 0,.int .i64 (j7 x.K x.src).1,.int .i64 (j7 x.K x.src).2]);unfold j7;rw[bK (show ¬x.src.size>8192 by omega),e];rfl,aB [9,0]⟩
 intro b;refine⟨⟨⟨b,0,x.src.size+1,false,⟨none,0,0,.dT⟩,[]⟩,⟨hs,dC _,by simp[*],.nil rfl,dC _,rfl⟩,aV,aB [0,4020,9]⟩,?_⟩;rintro⟨b,i,f,aK,r,ls⟩ js ⟨g1,g2,g3,g4,g5,g6⟩;dsimp only at g1 g2 g3 g4 g5 g6⊢;obtain⟨f',rfl⟩:∃f',f=f'+1:=⟨f-1,af⟩;have hb:=QM x.src (x.src.size+1) i aK g2;refine⟨i,bp afP ⟨b,x.src,(i:Int),aK,r.a,r.n,r.cap⟩ ⟨by simp[*],by simp[*],by grind⟩ (Gl.rest (j:=0) aM hr.gl) fun _ _=>?_,?_⟩
 ·dsimp only;rw[cB];rw[uM]at g6;revert hb g6;generalize eG x.src (x.src.size+1) i aK=B;obtain⟨at_,j,akM⟩:=B;intro g6 hb;dsimp only at hb g6⊢;refine bl (fun h=>fail at_ _ _ ?_ h) (fun h=>⟨⟨b,j,i,f',akM,r,ls⟩,⟨⟨hs,hb.2,hb.1,g3,g4,by grind,?_⟩,rfl⟩,aV,aB [0,1,2]⟩)
  ·simp[*]
  ·rw[g6,bK h];rfl
 ·rintro⟨b,j,m,f2,aao,r2,SE⟩ js2 ⟨⟨k1,k2,k3,k4,k5,k6,k7⟩,k8⟩;have k8:m=i:=k8;dsimp only at k2 k3 k4 k5 k6 k7⊢;have xQ:r2.n=SE.length:=by have:=k5.len;rw[K_]at this;omega
  unfold SA at k7;refine⟨ap,aG (fun h=>?_) (fun h=>?_)⟩
  ·rw[f_ x.src.size h,bf]at k7;exact⟨ap,.inl r2,⟨hs,by rw[k7],by grind,by grind⟩,rfl,aB [2,0]⟩
  ·have jI:=ga.1 (f_ x.src.size h);rw[f_ x.src.size h,aU]at k7;refine⟨ap,alZ,rfl,⟨x.K,b,x.src,j,aao,r2,SE⟩,rfl,rfl,⟨by grind,by grind,hN,k5,by grind⟩,eT.rest (j:=0) aM hr,?_,?_⟩
   ·rintro a ⟨k,d,e,bB⟩;replace e:il (lj x.K x.src) x.src j aao=(k,some d):=e;obtain⟨o1,o2⟩:=SR (show j<x.src.size by omega) e;rw[e]at k7;exact⟨⟨b,k,f2,false,a,SE++[d]⟩,⟨hs,o2,by grind,bB,by grind,k7⟩,aV,aD.pick [0,1,2] rfl (by dsimp only;rw[e];rfl),by grind⟩
   grind
theorem ak9:aC 20 wb:=fo 38 Tryz.func20 (fun _ _=>[(3,2,.n 4020),(4,1,.c rv [1] [1]),(10,1,.c zN [1,2] [1,2])]) [(7,3,aT 1),(8,3,aT 1),(9,3,aT 1)] ak8 ak7 bz [] ak_
end
section
open Go
def db(set:ByteArray)(b:Nat):Bool:=decide (Lib.indexByte set.data.toList (UInt8.ofNat b)>=0)
def tH:aR where
 X:=gV
 args x:=[aj x.a,aj x.b]
 cond x:=x.a.size<=1099511627776
 val x _:=az (ae (bL x.a (db x.b) 0:Nat))
structure FX where
 i:Nat
 f:Nat
def an9(x:gV)(F:ai):Nat->Option Inv:=fun
 |0=>some {X:=FX,P:=fun d=>d.i<=x.a.size/\x.a.size<d.i+d.f/\bL x.a (db x.b) 0=iW x.a (db x.b) d.f d.i,mu:=fun d=>x.a.size-d.i,lv:=fun d=>[(0,aj x.a),(1,aj x.b),(5,ae d.i)],st:=fun _=>[F]}
 |_=>none
def MJ(a:FX)(x:gV):=a.i<=x.a.size/\x.a.size<a.i+a.f/\bL x.a (db x.b) 0=iW x.a (db x.b) a.f a.i
theorem an_(x:gV)(F:ai)(hc:tH.cond x)(hr:tH.aQ x F):(∃(a:FX),MJ a x/\(aj x.a=aj x.a/\aj x.b=aj x.b/\ae 0=ae ↑a.i/\True)/\aD [(0,F)] [(0,F)])/\aS fun(e:FX)_=>MJ e x->aP ((e.i:Int)<(x.a.size:Int)) ((0<=(e.i:Int)/\(e.i:Int)<(x.a.size:Int))/\A_ 100 [aj x.b,a_ (aE x.a (e.i:Int))] (fun c b=>aP (Lib.indexByte c.s.data.toList (UInt8.ofNat c.c)>=0) (((-9223372036854775808:Int)<=(e.i:Int)+1/\(e.i:Int)+1<=(9223372036854775807:Int))/\∃(a:FX),MJ a x/\(aj x.a=aj x.a/\aj x.b=aj x.b/\ae ((e.i:Int)+1)=ae ↑a.i/\True)/\aD [(0,F)] [(0,F)]/\x.a.size-a.i<x.a.size-e.i) (aq tH x F (az (ae ↑e.i)) [(0,F)]))) (aq tH x F (az (ae ↑e.i)) [(0,F)]):=by
 delta MJ A_ ae a_ aj aP az aS;obtain⟨s,set⟩:=x;have hs:s.size<=1099511627776:=hc;dsimp only;refine⟨⟨⟨0,s.size+1⟩,⟨dC _,by simp[*],rfl⟩,aV,aB [0]⟩,?_⟩;rintro⟨i,f⟩ js ⟨h1,h2,h3⟩;dsimp only at h1 h2 h3⊢;obtain⟨f',rfl⟩:∃f',f=f'+1:=⟨f-1,af⟩;have fin:iW s (db set) (f'+1) i=i->aq tH ⟨s,set⟩ F (returned (int i64 (i:Int))) [(0,F)]:=fun e=>
  ⟨(),ao,by show returned _=returned (.int .i64 (bL s (db set) 0:Nat));simp[*],aB [0]⟩
 refine bl (fun bP=>⟨⟨af,bP⟩,Sm,rfl,⟨set,bt s i⟩,by rw[gX,cB],rfl,iM _ _,ao,fun _ _=>aG (fun e=>?_) (fun e=>?_)⟩) (fun jn=>fin ?_)
 ·have e:db set (bt s i)=true:=e;exact⟨aJ,⟨i+1,f'⟩,⟨by grind,by grind,h3.trans (by rw[iW,bG (show i<s.size by omega),e];rfl)⟩,aV,aB [0],by grind⟩
 ·have e:db set (bt s i)=false:=e;exact fin (by rw[iW,bG (show i<s.size by omega),e];rfl)
 ·rw[iW,bK (show ¬i<s.size by omega)];rfl
theorem N1:aC 85 tH:=fo 21 Tryz.func85 (fun _ _=>[(2,9,aX uG)]) [] an9 aY bz [] an_
def vC(u:Int):Bool:=(decide (u>=9)&&decide (u<=13))||(u==32||(u==160||u==65279))
structure FM where
 u:Int
def ux:aR where
 X:=FM
 args x:=[ae x.u]
 val x _:=az (ak (vC x.u))
def Ug(x:FM)(F:ai):=Br (x.u==32) (aq ux x F jv [(0,F)]) (Br (x.u==160) (aq ux x F jv [(0,F)]) (aq ux x F (az (ak (x.u==65279))) [(0,F)]))
theorem afN(x:FM)(F:ai)(hc:ux.cond x)(hr:ux.aQ x F):aP (x.u>=9) (aP (x.u<=13) (aq ux x F jv [(0,F)]) (Ug x F)) (Ug x F):=by
 delta jv Ug ak aP az;obtain⟨u⟩:=x;dsimp only;have fin:∀b,vC u=b->aq ux ⟨u⟩ F (returned (bool b)) [(0,F)]:=fun b e=>
  ⟨(),ao,by show returned _=returned (.bool (vC u));rw[e],aB [0]⟩
 repeat (first
  |exact fin _ (by unfold vC;simp only[*,bG,bK,Bool.true_and,Bool.true_or,nh,Bool.false_or,not_false_eq_true])
  |refine aG (fun _=>?_) (fun _=>?_))
theorem Yd:aC 98 ux:=fo 21 Tryz.func98 (fun _ _=>[]) [] aY aY bz [] afN
def jH:ByteArray:=⟨#[48,49,50,51,52,53,54,55,56,57]⟩
def fC(s:ByteArray)(n:Nat):ByteArray:=s.extract n s.size
def sH(s:ByteArray):Bool:=decide (bL s (db jH) 0>0)&&bL s (db jH) 0==s.size
def Gs(s:ByteArray):ByteArray:=bif decide (s.size>0)&&(bt s 0==43||bt s 0==45) then fC s 1 else s
def DF(s:ByteArray):Bool:=bif decide (s.size>0)&&(bt s 0==101||bt s 0==69) then sH (Gs (fC s 1)) else s.size==0
def jG(s:ByteArray):Bool:=
 let a:=bL s (db jH) 0
 let s1:=fC s a
 bif kz s1 ⟨#[46]⟩ then
  let b:=bL (fC s1 1) (db jH) 0
  bif a+b==0 then false else DF (fC s1 (1+b))
 else bif a==0 then false else DF s1
def rx:aR where
 X:=gV
 args x:=[aj x.a]
 cond x:=x.a.size<=1099511627776
 val x _:=az (ak (jG x.a))
theorem Bo(s:ByteArray)(n:Nat):(fC s n).size=s.size-n:=by unfold fC;rw[jU];omega
theorem Eg(a b:Nat):(a==b)=((a:Int)==(b:Int)):=by
 grind
theorem Oi(s:ByteArray):(s.toList==(ByteArray.mk #[]).toList)=(s.size==0):=by
 have h1:=AH s;grind
structure p9 where
 a:Nat
 b:Nat
 t:ByteArray
def agC(x:gV)(F:ai):Nat->Option Inv:=fun
 |7=>some {X:=p9,P:=fun d=>d.t.size<=x.a.size/\d.a<=x.a.size/\d.b<=x.a.size/\jG x.a=bif d.a+d.b==0 then false else DF d.t,mu:=fun _=>0,lv:=fun d=>[(0,aj d.t),(3,ae d.a),(4,ae d.b)],st:=fun _=>[F]}
 |11=>some {X:=p9,P:=fun d=>d.t.size<=x.a.size/\jG x.a=sH (Gs d.t),mu:=fun _=>0,lv:=fun d=>[(0,aj d.t)],st:=fun _=>[F]}
 |13=>some {X:=p9,P:=fun d=>d.t.size<=x.a.size/\jG x.a=sH d.t,mu:=fun _=>0,lv:=fun d=>[(0,aj d.t)],st:=fun _=>[F]}
 |_=>none
def Dm(aa:List Value)(k0:gV->Unit->Prop):=aC 85 tH/\true=true/\∃(z:gV),aa=[aj z.a,aj z.b]/\([]:List ai)=[]/\z.a.size<=1099511627776/\True/\∀(u0:Unit),True->k0 z u0
def U5(z:p9)(e0:gV):=z.t.size<=e0.a.size/\z.a<=e0.a.size/\z.b<=e0.a.size/\(jG e0.a=bif z.a+z.b==0 then false else DF z.t)
def Qf(e0:gV)(e1:ai)(v0 v1 v2:Value)(ss:St):=∃(z:p9),U5 z e0/\(v0=aj z.t/\v1=ae ↑z.a/\v2=ae ↑z.b/\True)/\aD ss [(0,e1)]
def Nq(j:gV):=ae (↑(bL j.a (db j.b) 0):Int)
def H5(f:p9):=(0:Int)<=(0:Int)/\0<(f.t.size:Int)
def MM(h:p9):=(0:Int)<=(1:Int)/\1<=(h.t.size:Int)/\(h.t.size:Int)<=(h.t.size:Int)
def XR(e0:gV)(e1:ai)(v0:Value)(ss:St):=∃(z:p9),(z.t.size<=e0.a.size/\jG e0.a=sH (Gs z.t))/\(v0=aj z.t/\True)/\aD ss [(0,e1)]
def MW(h:p9):=aj (h.t.extract (Int.toNat (1:Int)) (h.t.size:Int).toNat)
def F8(e0:gV)(e1:ai)(v0:Value)(ss:St):=∃(z:p9),(z.t.size<=e0.a.size/\jG e0.a=sH z.t)/\(v0=aj z.t/\True)/\aD ss [(0,e1)]
def TU(h:p9)(x:gV)(F:ai):=(MM h/\XR x F (MW h) [(0,F)])/\aS fun(f:p9)_=>(f.t.size<=x.a.size/\jG x.a=sH (Gs f.t))->Br (!f.t.toList==tE.toList) (H5 f/\Br (aE f.t (0:Int)==(43:Int)) (MM f/\F8 x F (MW f) [(0,F)]) (H5 f/\Br (aE f.t (0:Int)==(45:Int)) (MM f/\F8 x F (MW f) [(0,F)]) (F8 x F (aj f.t) [(0,F)]))) (F8 x F (aj f.t) [(0,F)])/\aS fun(d:p9)_=>(d.t.size<=x.a.size/\jG x.a=sH d.t)->Dm [aj d.t,aj ⟨#[48,49,50,51,52,53,54,55,56,57]⟩] (fun b a=>aP ((↑(bL b.a (db b.b) 0):Int)>0) (aq rx x F (az (ak ((↑(bL b.a (db b.b) 0):Int)==(d.t.size:Int)))) [(0,F)]) (aq rx x F c7 [(0,F)]))
theorem agE(x:gV)(F:ai)(hc:rx.cond x)(hr:rx.aQ x F):Dm [aj x.a,aj ⟨#[48,49,50,51,52,53,54,55,56,57]⟩] (fun j i=>(0<=(↑(bL j.a (db j.b) 0):Int)/\(↑(bL j.a (db j.b) 0):Int)<=(x.a.size:Int)/\(x.a.size:Int)<=(x.a.size:Int))/\xa 50 [aj (x.a.extract (↑(bL j.a (db j.b) 0):Int).toNat (x.a.size:Int).toNat),aj ⟨#[46]⟩] (fun e d=>Br (kz e.a e.b) (((0:Int)<=(1:Int)/\1<=(↑(x.a.extract (↑(bL j.a (db j.b) 0):Int).toNat (x.a.size:Int).toNat).size:Int)/\(↑(x.a.extract (↑(bL j.a (db j.b) 0):Int).toNat (x.a.size:Int).toNat).size:Int)<=(↑(x.a.extract (↑(bL j.a (db j.b) 0):Int).toNat (x.a.size:Int).toNat).size:Int))/\Dm [aj ((x.a.extract (↑(bL j.a (db j.b) 0):Int).toNat (x.a.size:Int).toNat).extract (Int.toNat (1:Int)) (↑(x.a.extract (↑(bL j.a (db j.b) 0):Int).toNat (x.a.size:Int).toNat).size:Int).toNat),aj ⟨#[48,49,50,51,52,53,54,55,56,57]⟩] (fun c b=>bT (1+(↑(bL c.a (db c.b) 0):Int))/\((0:Int)<=1+(↑(bL c.a (db c.b) 0):Int)/\1+(↑(bL c.a (db c.b) 0):Int)<=(↑(x.a.extract (↑(bL j.a (db j.b) 0):Int).toNat (x.a.size:Int).toNat).size:Int)/\(↑(x.a.extract (↑(bL j.a (db j.b) 0):Int).toNat (x.a.size:Int).toNat).size:Int)<=(↑(x.a.extract (↑(bL j.a (db j.b) 0):Int).toNat (x.a.size:Int).toNat).size:Int))/\Qf x F (aj ((x.a.extract (↑(bL j.a (db j.b) 0):Int).toNat (x.a.size:Int).toNat).extract (1+(↑(bL c.a (db c.b) 0):Int)).toNat (↑(x.a.extract (↑(bL j.a (db j.b) 0):Int).toNat (x.a.size:Int).toNat).size:Int).toNat)) (Nq j) (Nq c) [(0,F)])) (Qf x F (aj (x.a.extract (↑(bL j.a (db j.b) 0):Int).toNat (x.a.size:Int).toNat)) (Nq j) (ae 0) [(0,F)]))/\aS fun(h:p9)_=>U5 h x->bT ((h.a:Int)+(h.b:Int))/\Br ((h.a:Int)+(h.b:Int)==0) (aq rx x F c7 [(0,F)]) (Br (!h.t.toList==tE.toList) (H5 h/\Br (aE h.t (0:Int)==(101:Int)) (TU h x F) (H5 h/\Br (aE h.t (0:Int)==(69:Int)) (TU h x F) (aq rx x F (az (ak (h.t.toList==tE.toList))) [(0,F)]))) (aq rx x F (az (ak (h.t.toList==tE.toList))) [(0,F)]))):=by
 delta Dm xa U5 Qf Nq dq c7 tE H5 MM XR MW F8 TU bT ae aj ak aP az aS;obtain⟨s,s'⟩:=x;have hs:s.size<=1099511627776:=hc;dsimp only;have fin:∀b,jG s=b->aq rx ⟨s,s'⟩ F (returned (bool b)) [(0,F)]:=fun b e=>
  ⟨(),ao,by show returned _=returned (.bool (jG s));rw[e],aB [0]⟩
 have r1:=tK s (db jH) (dC s.size);have ez:(s.extract (bL s (db jH) 0:Int).toNat (s.size:Int).toNat)=fC s (bL s (db jH) 0):=by rfl
 refine bV N1 ⟨s,jH⟩ hs fun _ _=>⟨⟨af,by simp[*],cN _⟩,?_,?_⟩
 ·dsimp only;rw[ez];have c1:=Bo s (bL s (db jH) 0);have e0:jG s=bif kz (fC s (bL s (db jH) 0)) ⟨#[46]⟩ then
    (bif bL s (db jH) 0+bL (fC (fC s (bL s (db jH) 0)) 1) (db jH) 0==0 then false else DF (fC (fC s (bL s (db jH) 0)) (1+bL (fC (fC s (bL s (db jH) 0)) 1) (db jH) 0)))
   else bif bL s (db jH) 0==0 then false else DF (fC s (bL s (db jH) 0)):=rfl
  generalize fC s (bL s (db jH) 0)=s1 at c1 e0⊢;generalize bL s (db jH) 0=a at c1 e0 r1⊢;clear ez;refine nf GS ⟨s1,⟨#[46]⟩⟩ fun _ _=>aG (fun h=>?_) (fun h=>?_)
  ·have h:kz s1 ⟨#[46]⟩=true:=h;have h1:1<=s1.size:=by
    unfold kz at h;rw[kT,decide_eq_true_eq]at h;exact h.1
   rw[h,bf]at e0;have ez2:(s1.extract (Int.toNat 1) (s1.size:Int).toNat)=fC s1 1:=by rfl
   rw[ez2];have r2:=tK (fC s1 1) (db jH) (dC _);have c2:=Bo s1 1;generalize fC s1 1=s2 at r2 c2 e0⊢;refine⟨⟨af,af,cN _⟩,N1,rfl,⟨s2,jH⟩,rfl,rfl,by grind,ao,fun _ _=>?_⟩;dsimp only;generalize bL s2 (db jH) 0=b at r2 e0⊢;have c3:=Bo s1 (1+b);have ez3:s1.extract (1+(b:Int)).toNat (s1.size:Int).toNat=fC s1 (1+b):=by
    rfl
   rw[ez3];generalize fC s1 (1+b)=s3 at c3 e0⊢;exact⟨aJ,⟨af,af,cN _⟩,⟨a,b,s3⟩,⟨by grind,by simp[*],by grind,e0⟩,aV,aB [0]⟩
  ·have h:kz s1 ⟨#[46]⟩=false:=h;rw[h,aU]at e0;exact⟨⟨a,0,s1⟩,⟨by simp[*],by simp[*],dC _,e0⟩,aV,aB [0]⟩
 clear r1 ez;rintro⟨a,b,t⟩ js ⟨h1,h2,h3,h4⟩;dsimp only at h1 h2 h3 h4⊢;have tail:∀t:ByteArray,t.size<=s.size->jG s=sH t->aC 85 tH/\true=true/\∃x:gV,[string t,string jH]=[string x.a,string x.b]/\([]:List ai)=[]/\x.a.size<=1099511627776/\True/\∀_:Unit,True->Br (decide ((bL x.a (db x.b) 0:Int)>0)) (aq rx ⟨s,s'⟩ F (returned (bool ((bL x.a (db x.b) 0:Int)==(t.size:Int)))) [(0,F)]) (aq rx ⟨s,s'⟩ F (returned (bool false)) [(0,F)]):=by
  intro t ht e;refine bV N1 ⟨t,jH⟩ (by grind) fun _ _=>bl (fun h=>fin _ ?_) (fun h=>fin _ ?_)
  ·rw[e];unfold sH;grind
  ·rw[e];unfold sH;grind
 have Zf:(a+b==0)=((a:Int)+(b:Int)==0):=by grind
 rw[Zf]at h4;refine⟨aJ,aG (fun h0=>fin _ (by simp[*])) (fun h0=>?_)⟩;rw[h0,aU]at h4;have d2:jG s=bif decide (t.size>0)&&(bt t 0==101||bt t 0==69) then sH (Gs (fC t 1)) else t.size==0:=h4
 clear h4 h0 Zf;refine aG (fun jI=>?_) (fun jI=>fin _ ?_)
 ·rw[AH]at jI;have gx:=l7 jI;rw[jI,Bool.true_and]at d2;have b0:∀c:Nat,((bt t 0:Int)==(c:Int))=(bt t 0==c):=fun c=>(Eg _ _).symm;refine⟨⟨cN _,af⟩,mo (A:=(bt t 0==101||bt t 0==69)=true) (fun k=>aG (fun h=>k ?_) (fun h=>⟨⟨cN _,af⟩,aG (fun h2=>k ?_) (fun h2=>fin _ ?_)⟩)) (fun hA=>?_)⟩
  ·rw[gX,Int.toNat_zero]at h;grind
  ·rw[gX,Int.toNat_zero]at h2;grind
  ·rw[gX,Int.toNat_zero]at h h2;rw[show(bt t 0==101)=false from(b0 101).symm.trans h,show(bt t 0==69)=false from(b0 69).symm.trans h2,Bool.or_self,aU]at d2;rw[d2,Oi]
  rw[hA,bf]at d2;have c1:=Bo t 1;have ez:t.extract (Int.toNat 1) (t.size:Int).toNat=fC t 1:=by rfl
  rw[ez];generalize fC t 1=u at c1 d2⊢;refine⟨⟨⟨af,af,cN _⟩,⟨0,0,u⟩,⟨by grind,d2⟩,⟨rfl,ao⟩,aB [0]⟩,?_⟩;clear ez c1 d2 hA b0 gx jI h1 u;rintro⟨_,_,u⟩ js ⟨h1,d3⟩;dsimp only at h1 d3⊢;have d4:jG s=sH (bif decide (u.size>0)&&(bt u 0==43||bt u 0==45) then fC u 1 else u):=d3;have b0:∀c:Nat,((bt u 0:Int)==(c:Int))=(bt u 0==c):=fun c=>(Eg _ _).symm;have c1:=Bo u 1;have ez:u.extract (Int.toNat 1) (u.size:Int).toNat=fC u 1:=by rfl
  rw[ez];refine⟨aG (fun jI=>?_) (fun jI=>⟨⟨0,0,u⟩,⟨h1,?_⟩,⟨rfl,ao⟩,aB [0]⟩),?_⟩
  ·rw[AH]at jI;have gx:=l7 jI;rw[jI,Bool.true_and]at d4;refine⟨⟨cN _,af⟩,mo (A:=(bt u 0==43||bt u 0==45)=true) (fun k=>aG (fun h=>k ?_) (fun h=>⟨⟨cN _,af⟩,aG (fun h2=>k ?_) (fun h2=>⟨⟨0,0,u⟩,⟨h1,?_⟩,⟨rfl,ao⟩,aB [0]⟩)⟩)) (fun hA=>?_)⟩
   ·rw[gX,Int.toNat_zero]at h;grind
   ·rw[gX,Int.toNat_zero]at h2;grind
   ·rw[gX,Int.toNat_zero]at h h2;grind
   ·rw[hA,bf]at d4;exact⟨⟨af,af,cN _⟩,⟨0,0,fC u 1⟩,⟨by grind,d4⟩,⟨rfl,ao⟩,aB [0]⟩
  ·rw[AH]at jI;grind
  ·rintro⟨_,_,v⟩ js ⟨h2,d5⟩;exact tail v h2 d5
 ·rw[AH]at jI;rw[jI,nh,aU]at d2;rw[d2,Oi]
theorem agD:aC 87 rx:=fo 64 Tryz.func87 (fun _ _=>[(1,1,aX tH),(4,1,aX pL),(5,2,aX tH),(13,1,aX tH)]) [] aY agC bz [] agE
end
section
open Go
theorem or8{a b:Nat}(ha:a<256)(hb:b<256):i64.wrap (↑(BitVec.ofInt i64.bits (i64.wrap ((a:Int)*2^min (Int.toNat 8) i64.bits))|||BitVec.ofInt i64.bits (b:Int)).toNat:Int)=((a*256+b:Nat):Int):=by
 have e1:((a:Int)*2^min (Int.toNat 8) i64.bits)=((a*256:Nat):Int):=by
  show(a:Int)*256=_;omega
 rw[e1,dA (i:=.i64) (n:=((a*256:Nat):Int)) (by simp only[vW];omega),BitVec.ofInt_natCast,BitVec.ofInt_natCast,BitVec.toNat_or,BitVec.toNat_ofNat,BitVec.toNat_ofNat];have e2:i64.bits=64:=rfl;rw[e2,Nat.mod_eq_of_lt af,Nat.mod_eq_of_lt af];have e3:a*256|||b=a*256+b:=by
  have:=Nat.shiftLeft_add_eq_or_of_lt (i:=8) (b:=b) af a;rw[Nat.shiftLeft_eq]at this;exact this.symm
 rw[e3];exact dA (by simp only[vW];omega)
def iY(s:ByteArray)(i:Nat):Nat:=bif decide (i<s.size/2) then bt s (2*i)*256+bt s (2*i+1) else 0
def BS:aR where
 X:=gV
 args x:=[aj x.a]
 cond x:=x.a.size<=1099511627776
 val x _:=az (ae (x.a.size/2:Nat))
theorem akE(x:gV)(F:ai)(hc:BS.cond x)(hr:BS.aQ x F):(2:Int)≠(0:Int)/\((-9223372036854775808:Int)<=(x.a.size:Int).tdiv (2:Int)/\(x.a.size:Int).tdiv (2:Int)<=(9223372036854775807:Int))/\aq BS x F (az (ae ((x.a.size:Int).tdiv (2:Int)))) [(0,F)]:=by
 delta ae az;have e:(x.a.size:Int).tdiv 2=((x.a.size/2:Nat):Int):=by
  rw[Int.tdiv_eq_ediv_of_nonneg af];omega
 have RD:(x.a.size/2:Nat)<=9223372036854775807:=by
  have:x.a.size<=1099511627776:=hc;omega
 exact⟨by decide,aJ,(),ao,by rw[e];rfl,aB [0]⟩
theorem aal:aC 95 BS:=fo 6 Tryz.func95 (fun _ _=>[]) [] aY aY bz [] akE
structure OC where
 s:ByteArray
 i:Nat
def zm:aR where
 X:=OC
 args x:=[aj x.s,ae x.i]
 cond x:=x.s.size<=1099511627776/\x.i<=1099511627776
 val x _:=.returned (.tuple #[.int .i64 (iY x.s x.i),.bool (decide (x.i<x.s.size/2))])
def JI(aa:List Value)(k0:gV->Unit->Prop):=aC 95 BS/\true=true/\∃(z:gV),aa=[aj z.a]/\([]:List ai)=[]/\z.a.size<=1099511627776/\True/\∀(u0:Unit),True->k0 z u0
def NM:=az (tuple ⟨[ae 0,ak false]⟩)
theorem afr(x:OC)(F:ai)(hc:zm.cond x)(hr:zm.aQ x F):JI [aj x.s] (fun b a=>aP ((x.i:Int)>=(↑(b.a.size/2):Int)) (aq zm x F NM [(0,F)]) (true=true/\bT (2*(x.i:Int))/\((0:Int)<=2*(x.i:Int)/\2*(x.i:Int)<(x.s.size:Int))/\bT (aE x.s (2*(x.i:Int)))/\bT (2*(x.i:Int))/\((-9223372036854775808:Int)<=2*(x.i:Int)+1/\2*(x.i:Int)+1<=(9223372036854775807:Int))/\((0:Int)<=2*(x.i:Int)+1/\2*(x.i:Int)+1<(x.s.size:Int))/\bT (aE x.s (2*(x.i:Int)+1))/\aq zm x F (az (tuple ⟨[ae (bY (↑(iC (bY (aE x.s (2*(x.i:Int))*2^min (Int.toNat (8:Int)) i64.bits))|||iC (aE x.s (2*(x.i:Int)+1))).toNat:Int)),ak true]⟩)) [(0,F)])):=by
 delta JI NM bT ae aj ak iC bY aP az;obtain⟨s,i⟩:=x;obtain⟨h1,h2⟩:=hc;dsimp only at h1 h2⊢;have fin:∀(u:Int)(b:Bool),u=(iY s i:Int)->b=decide (i<s.size/2)->aq zm ⟨s,i⟩ F (returned (tuple #[int i64 u,bool b])) [(0,F)]:=fun u b e1 e2=>
  ⟨(),ao,by subst e1 e2;rfl,aB [0]⟩
 refine bV aal ⟨s,s⟩ h1 fun _ _=>bl (fun h=>fin _ _ ?_ ?_) (fun h=>?_)
 ·dsimp only at h;unfold iY;rw[bK (show ¬i<s.size/2 by omega)];rfl
 ·dsimp only at h;exact(bK (show ¬i<s.size/2 by omega)).symm
 ·dsimp only at h;have e0:aE s (2*(i:Int))=(bt s (2*i):Int):=by rw[gX,show(2*(i:Int)).toNat=2*i by omega]
  have e1:aE s (2*(i:Int)+1)=(bt s (2*i+1):Int):=by rw[gX,show(2*(i:Int)+1).toNat=2*i+1 by omega]
  have b0:=iM s (2*i);have b1:=iM s (2*i+1);rw[e0,e1];refine⟨rfl,aJ,aJ,aJ,aJ,aJ,aJ,aJ,fin _ _ ?_ ?_⟩
  ·rw[or8 b0 b1];unfold iY;rw[bG (show i<s.size/2 by omega)];rfl
  ·exact(bG (show i<s.size/2 by omega)).symm
theorem afq:aC 97 zm:=fo 27 Tryz.func97 (fun _ _=>[(1,5,aX BS)]) [] aY aY bz [] afr
end
section
open Go
structure I7 where
 b:Nat
 s:ByteArray
 i:Nat
def yd:aR where
 X:=I7
 args x:=[ae x.i,ah (some ⟨x.b,0,none⟩)]
 cond x:=x.s.size<=1099511627776/\x.i<=1099511627776
 aQ x F:=aO F ⟨x.b,0,none⟩ (.string x.s)
 val x _:=az (ae (iY x.s x.i))
theorem al8(x:I7)(F:ai)(hc:yd.cond x)(hr:yd.aQ x F):T2 F ⟨x.b,0,none⟩ (fun c=>aC 97 zm/\true=true/\∃(b:OC),[aj c,ae ↑x.i]=[aj b.s,ae ↑b.i]/\([]:List ai)=[]/\(b.s.size<=1099511627776/\b.i<=1099511627776)/\True/\∀(a:Unit),True->aq yd x F (az (ae (↑(iY b.s b.i):Int))) [(0,F)]):=by
 delta T2 ae aj az;exact⟨x.s,hr,afq,rfl,⟨x.s,x.i⟩,rfl,rfl,hc,ao,fun _ _=>lJ⟩
theorem Lu:aC 96 yd:=fo 13 Tryz.func96 (fun _ _=>[(1,0,.q [.ex 0 .str]),(1,2,aX zm)]) [] aY aY bz [] al8
def d9(s:ByteArray):Nat:=s.size/2
def CV(s:ByteArray)(e:Nat):Nat->Nat->Nat
 |0,i=>i
 |f+1,i=>bif decide (i<e)&&vC (iY s i) then CV s e f (i+1) else i
def Bs(s:ByteArray)(b:Nat):Nat->Nat->Nat
 |0,e=>e
 |f+1,e=>bif decide (b<e)&&vC (iY s (e-1)) then Bs s b f (e-1) else e
def B2(s:ByteArray)(e:Nat):Nat->Nat->List Nat->Option (List Nat)
 |0,_,o=>some o
 |f+1,i,o=>bif decide (i<e) then (bif decide (iY s i>127) then none else B2 s e f (i+1) (o++[iY s i])) else some o
def oQ(s:ByteArray):Nat:=CV s (d9 s) (d9 s+1) 0
def sJ(s:ByteArray):Nat:=Bs s (oQ s) (d9 s+1) (d9 s)
def o9(s:ByteArray):Option (List Nat):=B2 s (sJ s) (sJ s+1) (oQ s) []
theorem acr(s:ByteArray)(i:Nat):iY s i<65536:=by
 unfold iY;have b0:=iM s (2*i);have b1:=iM s (2*i+1);grind
def B6:aR where
 X:=fq
 args x:=[aj x.s]
 cond x:=x.s.size<=8388608
 val x _:=.returned (.tuple #[.string (cQ ((o9 x.s).getD [])),.bool (o9 x.s).isSome])
structure gU where
 b:Nat
 i:Nat
 e:Nat
 f:Nat
 o:List Nat
 r:Row
def Ib(d:gU)(x:fq):=ag d.b [aj x.s] 9
def amQ(x:fq)(F:ai):Nat->Option Inv:=fun
 |0=>some {X:=gU,P:=fun d=>d.i<=d9 x.s/\d9 x.s<d.i+d.f/\oQ x.s=CV x.s (d9 x.s) d.f d.i,mu:=fun d=>d9 x.s-d.i,lv:=fun d=>[(4,.int .i64 d.i),(5,.int .i64 (d9 x.s:Nat)),(6,.func (.func 96) #[] #[.pointer (some ⟨d.b,0,none⟩)])],st:=fun d=>[F,Ib d x]}
 |2=>some {X:=gU,P:=fun d=>d.i=oQ x.s/\d.i<=d.e/\d.e<=d9 x.s/\d.e<d.f/\sJ x.s=Bs x.s d.i d.f d.e,mu:=fun d=>d.e,lv:=fun d=>[(4,.int .i64 d.i),(5,.int .i64 d.e),(6,.func (.func 96) #[] #[.pointer (some ⟨d.b,0,none⟩)])],st:=fun d=>[F,Ib d x]}
 |4=>some {X:=gU,P:=fun d=>d.e=sJ x.s/\d.i<=d.e/\d.e<=d9 x.s/\d.e<d.i+d.f/\bv 5 1 (bZ d.o) d.r/\d.r.n<=d.i/\o9 x.s=B2 x.s d.e d.f d.i d.o,mu:=fun d=>d.e-d.i,lv:=fun d=>[(4,.int .i64 d.i),(5,.int .i64 d.e),(6,.func (.func 96) #[] #[.pointer (some ⟨d.b,0,none⟩)]),(7,.slice d.r.a d.r.n d.r.cap)],st:=fun d=>[F,Ib d x,d.r.A]}
 |_=>none
def amP(x:fq)(F:ai):Nat->Option Inv:=fun
 |5=>some {X:=gU,P:=fun d=>d.i=oQ x.s/\d.i<=d9 x.s,mu:=fun _=>0,lv:=fun d=>[(4,.int .i64 d.i),(5,.int .i64 (d9 x.s:Nat)),(6,.func (.func 96) #[] #[.pointer (some ⟨d.b,0,none⟩)])],st:=fun d=>[F,Ib d x]}
 |7=>some {X:=gU,P:=fun d=>d.i=oQ x.s/\d.e=sJ x.s/\d.i<=d.e/\d.e<=d9 x.s,mu:=fun _=>0,lv:=fun d=>[(4,.int .i64 d.i),(5,.int .i64 d.e),(6,.func (.func 96) #[] #[.pointer (some ⟨d.b,0,none⟩)])],st:=fun d=>[F,Ib d x]}
 |_=>none
def M0(a:gU)(x:fq):=a.i<=d9 x.s/\d9 x.s<a.i+a.f/\oQ x.s=CV x.s (d9 x.s) a.f a.i
def pT(z:gU):List Value:=[ah (some ⟨z.b,0,none⟩)]
def pa(e1:ai)(z:gU)(e0:fq):=[(0,e1),(1,ag z.b [aj e0.s] 9)]
def F9(aa:List Value)(rr:ai)(k0:I7->Unit->Prop):=aC 96 yd/\true=true/\∃(z:I7),aa=[ae ↑z.i,ah (some ⟨z.b,0,none⟩)]/\([]:List ai)=[]/\(z.s.size<=1099511627776/\z.i<=1099511627776)/\aO rr ⟨z.b,0,none⟩ (aj z.s)/\∀(u0:Unit),True->k0 z u0
def Nj(g:gU):List Value:=[ae ↑g.i,ah (some ⟨g.b,0,none⟩)]
def Qg(aa:List Value)(k0:FM->Unit->Prop):=aC 98 ux/\true=true/\∃(z:FM),aa=[ae z.u]/\([]:List ai)=[]/\True/\True/\∀(u0:Unit),True->k0 z u0
def Vg(g:gU):=(-9223372036854775808:Int)<=(g.i:Int)+1/\(g.i:Int)+1<=(9223372036854775807:Int)
def Qh(e0:fq)(e1:ai)(v0 v1:Value)(ss:St):=∃(z:gU),(z.i=oQ e0.s/\z.i<=d9 e0.s)/\(v0=ae ↑z.i/\ae (↑(d9 e0.s):Int)=ae (↑(d9 e0.s):Int)/\v1=func (Fn.func 96) ⟨[]⟩ ⟨pT z⟩/\True)/\aD ss (pa e1 z e0)
def H1(g:gU):=func (Fn.func 96) ⟨[]⟩ ⟨pT g⟩
def ML(a:gU)(x:fq):=a.i=oQ x.s/\a.i<=a.e/\a.e<=d9 x.s/\a.e<a.f/\sJ x.s=Bs x.s a.i a.f a.e
def Vd(g:gU):=(-9223372036854775808:Int)<=(g.e:Int)-1/\(g.e:Int)-1<=(9223372036854775807:Int)
def Qi(e0:fq)(e1:ai)(v0 v1 v2:Value)(ss:St):=∃(z:gU),(z.i=oQ e0.s/\z.e=sJ e0.s/\z.i<=z.e/\z.e<=d9 e0.s)/\(v0=ae ↑z.i/\v1=ae ↑z.e/\v2=func (Fn.func 96) ⟨[]⟩ ⟨pT z⟩/\True)/\aD ss (pa e1 z e0)
def L5(a:gU)(x:fq):=a.e=sJ x.s/\a.i<=a.e/\a.e<=d9 x.s/\a.e<a.i+a.f/\bv 5 1 (bZ a.o) a.r/\a.r.n<=a.i/\o9 x.s=B2 x.s a.e a.f a.i a.o
def zT(F:ai)(a:gU)(x:fq):=[(0,F),(1,ag a.b [aj x.s] 9),(2,a.r.A)]
theorem amS(x:fq)(F:ai)(hc:B6.cond x)(hr:B6.aQ x F):∀(s:Nat),ax s 0/\JI [aj x.s] (fun r q=>((∃(a:gU),M0 a x/\(ae 0=ae ↑a.i/\ae (↑(r.a.size/2):Int)=ae (↑(d9 x.s):Int)/\func (Fn.func 96) ⟨[]⟩ ⟨[ah (bJ s)]⟩=func (Fn.func 96) ⟨[]⟩ ⟨pT a⟩/\True)/\aD [(0,F),(1000,ag s [aj x.s] 9)] (pa F a x))/\aS fun(g:gU)_=>M0 g x->aP ((g.i:Int)<(↑(d9 x.s):Int)) (F9 (Nj g) (aH (pa F g x) []) (fun e d=>Qg [ae (↑(iY e.s e.i):Int)] (fun c b=>Br (vC c.u) (Vg g/\∃(a:gU),M0 a x/\(ae ((g.i:Int)+1)=ae ↑a.i/\ae (↑(d9 x.s):Int)=ae (↑(d9 x.s):Int)/\func (Fn.func 96) ⟨[]⟩ ⟨pT g⟩=func (Fn.func 96) ⟨[]⟩ ⟨pT a⟩/\True)/\aD (pa F g x) (pa F a x)/\d9 x.s-a.i<d9 x.s-g.i) (Qh x F (ae ↑g.i) (H1 g) (pa F g x))))) (Qh x F (ae ↑g.i) (H1 g) (pa F g x)))/\aS fun(p:gU)_=>(p.i=oQ x.s/\p.i<=d9 x.s)->((∃(a:gU),ML a x/\(ae ↑p.i=ae ↑a.i/\ae (↑(d9 x.s):Int)=ae ↑a.e/\func (Fn.func 96) ⟨[]⟩ ⟨pT p⟩=func (Fn.func 96) ⟨[]⟩ ⟨pT a⟩/\True)/\aD (pa F p x) (pa F a x))/\aS fun(g:gU)_=>ML g x->aP ((g.i:Int)<(g.e:Int)) (Vd g/\F9 [ae ((g.e:Int)-1),ah (some ⟨g.b,0,none⟩)] (aH (pa F g x) []) (fun e d=>Qg [ae (↑(iY e.s e.i):Int)] (fun c b=>Br (vC c.u) (Vd g/\∃(a:gU),ML a x/\(ae ↑g.i=ae ↑a.i/\ae ((g.e:Int)-1)=ae ↑a.e/\func (Fn.func 96) ⟨[]⟩ ⟨pT g⟩=func (Fn.func 96) ⟨[]⟩ ⟨pT a⟩/\True)/\aD (pa F g x) (pa F a x)/\a.e<g.e) (Qi x F (ae ↑g.i) (ae ↑g.e) (H1 g) (pa F g x))))) (Qi x F (ae ↑g.i) (ae ↑g.e) (H1 g) (pa F g x)))/\aS fun(n:gU)_=>(n.i=oQ x.s/\n.e=sJ x.s/\n.i<=n.e/\n.e<=d9 x.s)->bT ((n.e:Int)-(n.i:Int))/\T4 (a8 Tryz.f83 7 3) [ae 0,ae ((n.e:Int)-(n.i:Int))] (fun l k=>(∃(a:gU),L5 a x/\(ae ↑n.i=ae ↑a.i/\ae ↑n.e=ae ↑a.e/\func (Fn.func 96) ⟨[]⟩ ⟨pT n⟩=func (Fn.func 96) ⟨[]⟩ ⟨pT a⟩/\au (bJ k) l.n.toNat l.c.toNat=au a.r.a a.r.n a.r.cap/\True)/\aD [(0,F),(1,ag n.b [aj x.s] 9),(8030,ag k (iI [a_ 0] l.c.toNat) 5)] (zT F a x))/\aS fun(j:gU)_=>L5 j x->aP ((j.i:Int)<(j.e:Int)) (F9 (Nj j) (aH (zT F j x) []) (fun h g=>aP ((↑(iY h.s h.i):Int)>127) (aq B6 x F tq (zT F j x)) (F9 (Nj j) (aH (zT F j x) []) (fun f e=>(0<=(↑(iY f.s f.i):Int)/\(↑(iY f.s f.i):Int)<=255)/\∀(d:Nat),T3 (a8 Tryz.f83 12 6) [au j.r.a j.r.n j.r.cap,au (bJ d) 1 1] [j.r.A] (aH [(0,F),(1,ag j.b [aj x.s] 9),(2,j.r.A),(13050,ag d [a_ (↑(iY f.s f.i):Int)] 5)] [2]) (fun c b=>Vg j/\∃(a:gU),L5 a x/\(ae ((j.i:Int)+1)=ae ↑a.i/\ae ↑j.e=ae ↑a.e/\func (Fn.func 96) ⟨[]⟩ ⟨pT j⟩=func (Fn.func 96) ⟨[]⟩ ⟨pT a⟩/\au b.a b.n b.cap=au a.r.a a.r.n a.r.cap/\True)/\aD [(0,F),(1,ag j.b [aj x.s] 9),(2,b.A),(13050,ag d [a_ (↑(iY f.s f.i):Int)] 5)] (zT F a x)/\a.e-a.i<j.e-j.i))))) (T8 (a8 Tryz.f83 13 1) [au j.r.a j.r.n j.r.cap] (aH (zT F j x) []) (fun b a=>aq B6 x F (az (tuple ⟨[aj (cQ b.l),ak true]⟩)) (zT F j x))))):=by
 delta JI M0 bJ pT pa F9 Nj Qg Vg Qh H1 ML Vd Qi T4 L5 zT tq mg T3 T8 aH ax bT ae a_ aj ak ah au ag aP az aS;obtain⟨s⟩:=x;have hs:s.size<=8388608:=hc;dsimp only;have hh:d9 s=s.size/2:=rfl;intro b;refine⟨ap,aal,rfl,⟨s,s⟩,rfl,rfl,by grind,ao,fun _ _=>⟨⟨⟨⟨b,0,0,d9 s+1,[],dF⟩,⟨dC _,by simp[*],rfl⟩,aV,aB [0,1000]⟩,?_⟩,?_⟩⟩
 ·rintro⟨b,i,_,f,_,_⟩ js ⟨h1,h2,h3⟩;dsimp only at h1 h2 h3⊢;obtain⟨f',rfl⟩:∃f',f=f'+1:=⟨f-1,af⟩;have b0:=acr s i;have done:oQ s=i->∃x:gU,(x.i=oQ s/\x.i<=d9 s)/\(int .i64 (i:Int)= .int .i64 (x.i:Int)/\int .i64 (d9 s:Int)= .int .i64 (d9 s:Int)/\func (.func 96) #[] #[.pointer (some ⟨b,0,none⟩)]=func (.func 96) #[] #[.pointer (some ⟨x.b,0,none⟩)]/\True)/\aD (bD [F,.cells b [.string s] 9]) (bD [F,.cells x.b [.string s] 9]):=fun e=>
   ⟨⟨b,i,0,0,[],dF⟩,⟨e.symm,h1⟩,aV,aD.refl _⟩
  rw[CV]at h3;refine bl (fun bP=>bp Lu ⟨b,s,i⟩ ⟨by grind,by grind⟩ (aO.rest (j:=1) aM (aO.cells rfl)) fun _ _=>nf Yd ⟨iY s i⟩ fun _ _=>aG (fun hb=>?_) (fun hb=>done ?_)) (fun jn=>done ?_)
  ·have hb:vC (iY s i)=true:=hb;rw[bG (show i<d9 s by omega),hb]at h3;exact⟨aJ,⟨b,i+1,0,f',[],dF⟩,⟨by grind,by grind,h3⟩,aV,aB [0,1],by grind⟩
  all_goals grind
 clear b;rintro⟨b,i,_,_,_,_⟩ js ⟨h1,h2⟩;dsimp only at h1 h2⊢;refine⟨⟨⟨⟨b,i,d9 s,d9 s+1,[],dF⟩,⟨h1,h2,cr _,jj _,by dsimp only;rw[h1];rfl⟩,aV,aB [0,1]⟩,?_⟩,?_⟩
 ·clear h1 h2;rintro⟨b,i,e,f,_,_⟩ js ⟨h1,h2,h3,h4,h5⟩;dsimp only at h1 h2 h3 h4 h5⊢;obtain⟨f',rfl⟩:∃f',f=f'+1:=⟨f-1,af⟩;have b0:=acr s (e-1);have done:sJ s=e->∃x:gU,(x.i=oQ s/\x.e=sJ s/\x.i<=x.e/\x.e<=d9 s)/\(int .i64 (i:Int)= .int .i64 (x.i:Int)/\int .i64 (e:Int)= .int .i64 (x.e:Int)/\func (.func 96) #[] #[.pointer (some ⟨b,0,none⟩)]=func (.func 96) #[] #[.pointer (some ⟨x.b,0,none⟩)]/\True)/\aD (bD [F,.cells b [.string s] 9]) (bD [F,.cells x.b [.string s] 9]):=fun e'=>
   ⟨⟨b,i,e,0,[],dF⟩,⟨h1,e'.symm,h2,h3⟩,aV,aD.refl _⟩
  rw[Bs]at h5;refine bl (fun bP=>⟨aJ,Lu,rfl,⟨b,s,e-1⟩,by rw[show((e-1:Nat):Int)=(e:Int)-1 by omega],rfl,⟨by grind,by grind⟩,aO.rest (j:=1) aM (aO.cells rfl),fun _ _=>nf Yd ⟨iY s (e-1)⟩ fun _ _=>aG (fun hb=>?_) (fun hb=>done ?_)⟩) (fun jn=>done ?_)
  ·have hb:vC (iY s (e-1))=true:=hb;rw[bG (show i<e by omega),hb]at h5;exact⟨aJ,⟨b,i,e-1,f',[],dF⟩,⟨h1,by grind,by grind,by grind,h5⟩,⟨rfl,by rw[show((e-1:Nat):Int)=(e:Int)-1 by omega],rfl,ao⟩,aB [0,1],by grind⟩
  all_goals grind
 clear h1 h2;rintro⟨b,i,e,_,_,_⟩ js ⟨h1,h2,h3,h4⟩;dsimp only at h1 h2 h3 h4⊢;have e0:((e:Int)-(i:Int))=((e-i:Nat):Int):=af;rw[e0];refine⟨aJ,Ed (P:=Tryz.prog) [.int .u8 0] 1 rfl rfl rfl rfl rfl rfl aM rfl,rfl,⟨0,(e-i:Nat)⟩,rfl,rfl,⟨cN 0,by simp[*],by grind,by grind⟩,ao,fun bs _=>⟨⟨⟨b,i,e,e+1,[],⟨some ⟨bs,0,none⟩,0,((e-i:Nat):Int).toNat,.cells bs (iI [.int .u8 0] ((e-i:Nat):Int).toNat) 5⟩⟩,⟨h2,h3,h4,by grind,.gg bs 0 _ (iI [.int .u8 0] _) rfl (by rw[gi,Xb];simp[bZ]) (dC _),dC _,?_⟩,aV,aB [0,1,8030]⟩,?_⟩⟩
 ·dsimp only;rw[h1,h2];rfl
 clear h1 h2 h3 h4 e0;rintro⟨b,i,e,f,o,r⟩ js ⟨h1,h2,h3,h4,h5,h6,h7⟩;dsimp only at h1 h2 h3 h4 h5 h6 h7⊢;obtain⟨f',rfl⟩:∃f',f=f'+1:=⟨f-1,af⟩;rw[B2]at h7;have lk:∀{S:St}{bF:List Nat},(1:Nat)∉bF->gt S 1= .cells b [.string s] 9->aO (.dv (rest S bF)) ⟨b,0,none⟩ (.string s):=fun h e=>aO.rest h (by rw[e];exact aO.cells rfl);refine bl (fun bP=>?_) (fun jn=>?_)
 ·rw[bG (show i<e by omega),bf]at h7;refine bp Lu ⟨b,s,i⟩ ⟨by grind,by grind⟩ (lk aM rfl) fun _ _=>bl (fun hb=>?_) (fun hb=>?_)
  ·dsimp only at hb;rw[bG (show iY s i>127 by omega),bf]at h7;exact⟨(),ao,by show returned _=returned (.tuple #[.string (cQ ((o9 s).getD [])),.bool (o9 s).isSome]);rw[h7];rfl,aB [0]⟩
  ·dsimp only at hb;rw[bK (show ¬iY s i>127 by omega),aU]at h7;refine bp Lu ⟨b,s,i⟩ ⟨by grind,by grind⟩ (lk aM rfl) fun _ _=>⟨⟨af,by grind⟩,fun lb=>bp (kP (P:=Tryz.prog) 1 1 rfl rfl rfl rfl rfl rfl rfl (by decide)) ⟨r,bZ o,some ⟨lb,0,none⟩,1,1,bZ [iY s i]⟩ ⟨h5,rfl,fun _ h=>W2 h,by grind,by grind,aM⟩ (?_) (?_)⟩
   ·intro a ha;cases ha;exact da.rest (j:=13050) aM (da.cells (fun j u hj=>by rw[jk];exact hj))
   ·rintro y ⟨y1,y2,-⟩;dsimp only at y1 y2;exact⟨aJ,⟨b,i+1,e,f',o++[iY s i],y⟩,⟨h1,by grind,h3,by grind,by rw[Oo];exact y1,by simp[*],h7⟩,aV,aB [0,1,2],by grind⟩
 ·rw[bK (show ¬i<e by omega),aU]at h7;exact bp (JZ rfl rfl rfl rfl) ⟨r.a,r.n,r.cap,o⟩ h5.src (WC 2 aM rfl h5) fun _ _=>⟨(),ao,by show returned _=returned (.tuple #[.string (cQ ((o9 s).getD [])),.bool (o9 s).isSome]);simp[*],aB [0]⟩
theorem amR:aC 83 B6:=fo 56 Tryz.func83 (fun _ _=>[(0,0,.n 1000),(1,0,aT 1000),(1,1,aX BS),(3,6,aX yd),(3,7,aX ux),(5,7,aX yd),(5,8,aX ux),(7,3,.o (wc 5 [.int .u8 0] 1) [] [8030]),(10,2,aX yd),(12,3,aX yd),(12,5,.n 13050),(12,6,.o (dt 5 1 1) [2] [2]),(13,1,.o Bi [] [])]) [] amQ amP bz [] amS
end
section
open Go
def zL:Nat:=9221120237041090561
def BV:aR where
 X:=Unit
 args _:=[]
 val _ _:=az (float f64 9221120237041090561)
def Ck:=az (float f64 9221120237041090561)
theorem als(x:PUnit)(F:ai)(hc:BV.cond x)(hr:BV.aQ x F):aq BV x F Ck [(0,F)]:=by
 delta Ck az;exact lJ
theorem aaI:aC 84 BV:=fo 2 Tryz.func84 (fun _ _=>[(1,0,aW)]) [] aY aY bz [] als
def Hj(pf:ByteArray->Nat)(K:cj):aR where
 X:=fq
 Y:=Value
 args x:=[aj x.s,ae 64]
 cond x:=x.s.size<=8388610
 aQ _ F:=K.rd F
 val x y:=.returned (.tuple #[.float .f64 (pf x.s),y])
 eX _ _ _ hs h:=K.mono h hs
def KI:ByteArray:=⟨#[48,49,50,51,52,53,54,55,56,57,97,98,99,100,101,102,65,66,67,68,69,70]⟩
def Lt:ByteArray:=⟨#[112,48]⟩
def vX:ByteArray:=⟨#[73,110,102,105,110,105,116,121]⟩
def K6(s:ByteArray):Bool:=decide (s.size>2)&&(bt s 0==48&&((bt s 1|||32)==120&&bL (fC s 2) (db KI) 0==s.size-2))
def nS(s:ByteArray):ByteArray:=bif bt s 0==43||bt s 0==45 then fC s 1 else s
def Ek(pf:ByteArray->Nat)(s:ByteArray):Nat:=
 bif s.size==0 then 0
 else bif K6 s then pf (s++Lt)
 else bif !(bW (nS s) vX)&& !jG (nS s) then zL
 else pf s
def me(pf:ByteArray->Nat)(w:ByteArray):Nat:=match o9 w with
 |none=>zL
 |some l=>Ek pf (cQ l)
theorem aaq(a b:ByteArray):(a.toList==b.toList)=bW a b:=by
 have e:bW a b=(a.data==b.data):=by unfold bW;cases a;cases b;rfl
 rw[e,Bool.eq_iff_iff,beq_iff_eq,beq_iff_eq,ByteArray.toList_eq,ByteArray.toList_eq];simp[*]
theorem al7(s:ByteArray)(e:Nat):∀(f i:Nat)(o l:List Nat),B2 s e f i o=some l->l.length+i<=o.length+max e i:=by
 intro f
 induction f with
 |zero=>intro i o l h;cases h;omega
 |succ f ih=>
  intro i o l h;rw[B2]at h;by_cases h1:i<e
  ·rw[bG h1,bf]at h;cases h2:decide (iY s i>127)with
   |true=>rw[h2]at h;cases h
   |false=>
    rw[h2,aU]at h;have:=ih _ _ _ h;grind
  grind
theorem agP(s:ByteArray)(b:Nat):∀(f e:Nat),Bs s b f e<=e:=by
 intro f
 induction f with
 |zero=>intro e;exact cr _
 |succ f ih=>
  intro e;rw[Bs];grind
theorem apM(s:ByteArray)(e:Nat):∀(f i:Nat),i<=e->CV s e f i<=e:=by
 intro f
 induction f with
 |zero=>intro i h;exact h
 |succ f ih=>
  intro i h;rw[CV];grind
theorem amM{s:ByteArray}{l:List Nat}(h:o9 s=some l):(cQ l).size<=s.size:=by
 have h1:=al7 _ _ _ _ _ _ h;have h2:sJ s<=d9 s:=agP _ _ _ _;have h3:oQ s<=d9 s:=apM _ _ _ _ (dC _);have h4:d9 s=s.size/2:=rfl;rw[uy];grind
structure uh where
 K:cj
 pf:ByteArray->Nat
 w:ByteArray
def yb:aR where
 X:=uh
 args x:=[aj x.w]
 cond x:=x.w.size<=8388608/\aC 86 (Hj x.pf x.K)
 aQ x F:=x.K.rd F
 val x _:=az (float f64 (me x.pf x.w))
 eX x _ _ hs h:=x.K.mono h hs
structure m5 where
 t:ByteArray
 u:ByteArray
def alK(x:uh)(F:ai):Nat->Option Inv:=fun
 |4=>some {X:=m5,P:=fun d=>d.t.size<=8388608/\me x.pf x.w=Ek x.pf d.t,mu:=fun _=>0,lv:=fun d=>[(3,aj d.t)],st:=fun _=>[F]}
 |9=>some {X:=m5,P:=fun d=>d.t.size<=8388608/\0<d.t.size/\me x.pf x.w=(bif !(bW (nS d.t) vX)&& !jG (nS d.t) then zL else x.pf d.t),mu:=fun _=>0,lv:=fun d=>[(3,aj d.t)],st:=fun _=>[F]}
 |12=>some {X:=m5,P:=fun d=>d.t.size<=8388608/\d.u=nS d.t/\d.u.size<=d.t.size/\me x.pf x.w=(bif !(bW (nS d.t) vX)&& !jG (nS d.t) then zL else x.pf d.t),mu:=fun _=>0,lv:=fun d=>[(3,aj d.t),(7,aj d.u)],st:=fun _=>[F]}
 |14=>some {X:=m5,P:=fun d=>d.t.size<=8388608/\me x.pf x.w=x.pf d.t,mu:=fun _=>0,lv:=fun d=>[(3,aj d.t)],st:=fun _=>[F]}
 |_=>none
def alL(x:uh)(_F:ai):List (Nat×Nat×OH):=[(1,1,aX B6),(3,0,aX BV),(6,17,aX tH),(7,2,aX (Hj x.pf x.K)),(12,4,aX rx),(13,0,aX BV),(14,1,aX (Hj x.pf x.K))]
def Qj(k0:Unit->Unit->Prop):=aC 84 BV/\true=true/\∃(z:Unit),([]:List Value)=[]/\([]:List ai)=[]/\True/\True/\∀(u0:Unit),True->k0 z u0
def Nu(j:m5):=(0:Int)<=(0:Int)/\0<(j.t.size:Int)
def Qk(e0:uh)(aa:List Value)(rr:ai)(k0:fq->Value->Prop):=aC 86 (Hj e0.pf e0.K)/\true=true/\∃(z:fq),aa=[aj z.s,ae 64]/\([]:List ai)=[]/\z.s.size<=8388610/\e0.K.3 rr/\∀(u0:Value),True->k0 z u0
def UK(z:m5)(e0:uh):=z.t.size<=8388608/\0<z.t.size/\(me e0.pf e0.w=bif !bW (nS z.t) vX&& !jG (nS z.t) then zL else e0.pf z.t)
def F_(e0:uh)(e1:ai)(v0:Value)(ss:St):=∃(z:m5),UK z e0/\(v0=aj z.t/\True)/\aD ss [(0,e1)]
def Uj(z:m5)(e0:uh):=z.t.size<=8388608/\z.u=nS z.t/\z.u.size<=z.t.size/\(me e0.pf e0.w=bif !bW (nS z.t) vX&& !jG (nS z.t) then zL else e0.pf z.t)
def Ql(e0:uh)(e1:ai)(v0 v1:Value)(ss:St):=∃(z:m5),Uj z e0/\(v0=aj z.t/\v1=aj z.u/\True)/\aD ss [(0,e1)]
def TV(h:m5)(x:uh)(F:ai):=((0:Int)<=(1:Int)/\1<=(h.t.size:Int)/\(h.t.size:Int)<=(h.t.size:Int))/\Ql x F (aj h.t) (aj (h.t.extract (Int.toNat (1:Int)) (h.t.size:Int).toNat)) [(0,F)]
def Qm(e0:uh)(e1:ai)(v0:Value)(ss:St):=∃(z:m5),(z.t.size<=8388608/\me e0.pf e0.w=e0.pf z.t)/\(v0=aj z.t/\True)/\aD ss [(0,e1)]
theorem alN(x:uh)(F:ai)(hc:yb.cond x)(hr:yb.aQ x F):aC 83 B6/\true=true/\∃(l:fq),[aj x.w]=[aj l.s]/\([]:List ai)=[]/\l.s.size<=8388608/\True/\∀(k:Unit),True->Br (!(o9 l.s).isSome) (Qj (fun b a=>aq yb x F Ck [(0,F)])) (∃(a:m5),(a.t.size<=8388608/\me x.pf x.w=Ek x.pf a.t)/\(aj (cQ ((o9 l.s).getD []))=aj a.t/\True)/\aD [(0,F)] [(0,F)])/\aS fun(j:m5)_=>(j.t.size<=8388608/\me x.pf x.w=Ek x.pf j.t)->Br (j.t.toList==tE.toList) (aq yb x F (az (float f64 0)) [(0,F)]) (aP ((j.t.size:Int)>2) (Nu j/\Br (aE j.t (0:Int)==(48:Int)) (((0:Int)<=(1:Int)/\1<(j.t.size:Int))/\Br (u8.wrap (↑(BitVec.ofInt u8.bits (aE j.t (1:Int))|||BitVec.ofInt u8.bits (32:Int)).toNat:Int)==120) (((0:Int)<=(2:Int)/\2<=(j.t.size:Int)/\(j.t.size:Int)<=(j.t.size:Int))/\Dm [aj (j.t.extract (Int.toNat (2:Int)) (j.t.size:Int).toNat),aj ⟨#[48,49,50,51,52,53,54,55,56,57,97,98,99,100,101,102,65,66,67,68,69,70]⟩] (fun d c=>((-9223372036854775808:Int)<=(j.t.size:Int)-2/\(j.t.size:Int)-2<=(9223372036854775807:Int))/\Br ((↑(bL d.a (db d.b) 0):Int)==(j.t.size:Int)-2) (j.t.size+2<=9223372036854775807/\Qk x [aj (j.t++(ByteArray.mk #[112,48])),ae 64] (cX F) (fun b a=>aq yb x F (az (float f64 (x.pf b.s))) [(0,F)])) (F_ x F (aj j.t) [(0,F)]))) (F_ x F (aj j.t) [(0,F)])) (F_ x F (aj j.t) [(0,F)])) (F_ x F (aj j.t) [(0,F)])/\aS fun(h:m5)_=>UK h x->(Nu h/\Br (aE h.t (0:Int)==(43:Int)) (TV h x F) (Nu h/\Br (aE h.t (0:Int)==(45:Int)) (TV h x F) (Ql x F (aj h.t) (aj h.t) [(0,F)])))/\aS fun(f:m5)_=>Uj f x->Br (!f.u.toList==(ByteArray.mk #[73,110,102,105,110,105,116,121]).toList) (aC 87 rx/\true=true/\∃(d:gV),[aj f.u]=[aj d.a]/\([]:List ai)=[]/\d.a.size<=1099511627776/\True/\∀(c:Unit),True->Br (!jG d.a) (Qj (fun b a=>aq yb x F Ck [(0,F)])) (Qm x F (aj f.t) [(0,F)])) (Qm x F (aj f.t) [(0,F)])/\aS fun(d:m5)_=>(d.t.size<=8388608/\me x.pf x.w=x.pf d.t)->Qk x [aj d.t,ae 64] (cX F) (fun b a=>aq yb x F (az (float f64 (x.pf b.s))) [(0,F)])):=by
 delta Qj Ck tE Nu Dm Qk cX UK F_ Uj Ql TV Qm aH ae aj aP az aS;obtain⟨K,pf,w⟩:=x;obtain⟨hw,R7⟩:=hc;replace hr:K.rd F:=hr;dsimp only at hw R7⊢;have fin:∀n,me pf w=n->aq yb ⟨K,pf,w⟩ F (returned (float .f64 n)) [(0,F)]:=fun n e=>
  ⟨(),ao,by show returned _=returned (.float .f64 (me pf w));rw[e],aB [0]⟩
 refine bV amR ⟨w⟩ hw fun _ _=>⟨aG (fun h=>?_) (fun h=>?_),?_⟩
 ·have hn:o9 w=none:=by
   cases hp:o9 w with
   |none=>rfl
   |some l=>rw[hp]at h;cases h
  exact nf aaI () fun _ _=>fin _ (by unfold me;rw[hn];rfl)
 ·obtain⟨l,hp⟩:∃l,o9 w=some l:=by
   cases hp:o9 w with
   |none=>rw[hp]at h;cases h
   |some l=>exact⟨l,rfl⟩
  have:=amM hp;exact⟨⟨cQ l,⟨#[]⟩⟩,⟨by grind,by unfold me;rw[hp]⟩,⟨by rw[hp];rfl,ao⟩,aB [0]⟩
 rintro⟨t,_⟩ js ⟨h1,h2⟩;dsimp only at h1 h2⊢;refine aG (fun he=>fin _ ?_) (fun jI=>⟨?_,?_⟩)
 ·rw[Oi]at he;rw[h2];unfold Ek;simp[*]
 ·rw[Oi]at jI;have gx:0<t.size:=by
   grind
  have h3:me pf w=bif K6 t then pf (t++Lt) else bif !(bW (nS t) vX)&& !jG (nS t) then zL else pf t:=by
   rw[h2];unfold Ek;simp[*]
  have done:K6 t=false->∃nL:m5,(nL.t.size<=8388608/\0<nL.t.size/\me pf w=bif !bW (nS nL.t) vX&& !jG (nS nL.t) then zL else pf nL.t)/\(string t=string nL.t/\True)/\aD (bD [F]) (bD [F]):=fun e=>
   ⟨⟨t,⟨#[]⟩⟩,⟨h1,gx,by grind⟩,⟨rfl,ao⟩,aD.refl _⟩
  have hx:K6 t=(decide (t.size>2)&&(bt t 0==48&&((bt t 1|||32)==120&&bL (fC t 2) (db KI) 0==t.size-2))):=rfl;have c1:=Bo t 2;have ez:t.extract (Int.toNat 2) (t.size:Int).toNat=fC t 2:=by rfl
  refine bl (fun hg=>⟨⟨cN _,af⟩,aG (fun h4=>⟨⟨by decide,af⟩,aG (fun h5=>?_) (fun h5=>done ?_)⟩) (fun h4=>done ?_)⟩) (fun hg=>done ?_)
  ·rw[gX,Int.toNat_zero]at h4;rw[gX,show(1:Int).toNat=1 from rfl,B0 (iM t 1)]at h5;have h4:(bt t 0==48)=true:=(Eg _ _).trans h4;have h5:((bt t 1|||32)==120)=true:=(Eg _ _).trans h5;rw[ez];refine⟨⟨by decide,af,cN _⟩,N1,rfl,⟨fC t 2,KI⟩,rfl,rfl,by grind,ao,fun _ _=>⟨aJ,aG (fun h6=>?_) (fun h6=>done ?_)⟩⟩
   ·have h6:(bL (fC t 2) (db KI) 0==t.size-2)=true:=by
     grind
    have sz:(t++Lt).size=t.size+2:=by rw[mH];rfl
    rw[hx,bG (show t.size>2 by omega),h4,h5,h6]at h3;exact⟨af,R7,rfl,⟨t++Lt⟩,rfl,rfl,by simp[*],K.rest (j:=0) aM hr,fun _ _=>fin _ h3⟩
   grind
  ·rw[gX,show(1:Int).toNat=1 from rfl,B0 (iM t 1)]at h5;grind
  ·rw[gX,Int.toNat_zero]at h4;grind
  grind
 clear h2;rintro⟨t,_⟩ js ⟨h1,h2,h3⟩;dsimp only at h1 h2 h3⊢;have b0:∀c:Nat,((bt t 0:Int)==(c:Int))=(bt t 0==c):=fun c=>(Eg _ _).symm;have c1:=Bo t 1;have ez:t.extract (Int.toNat 1) (t.size:Int).toNat=fC t 1:=by rfl
 have GC:nS t=bif bt t 0==43||bt t 0==45 then fC t 1 else t:=rfl
 rw[ez];refine⟨⟨⟨cN _,af⟩,?_⟩,?_⟩
 ·refine mo (A:=(bt t 0==43||bt t 0==45)=true) (fun k=>aG (fun h=>k ?_) (fun h=>⟨⟨cN _,af⟩,aG (fun h4=>k ?_) (fun h4=>?_)⟩)) (fun hA=>?_)
  ·rw[gX,Int.toNat_zero]at h;grind
  ·rw[gX,Int.toNat_zero]at h4;grind
  ·rw[gX,Int.toNat_zero]at h h4;rw[show(bt t 0==43)=false from(b0 43).symm.trans h,show(bt t 0==45)=false from(b0 45).symm.trans h4,Bool.or_self,aU]at GC;exact⟨⟨t,t⟩,⟨h1,GC.symm,cr _,h3⟩,aV,aD.refl _⟩
  ·rw[hA,bf]at GC;exact⟨⟨by decide,af,cN _⟩,⟨t,fC t 1⟩,⟨h1,GC.symm,by simp[*],h3⟩,aV,aD.refl _⟩
 clear GC ez c1 b0 h3 h2 h1;rintro⟨t,u⟩ js ⟨h1,h2,h3,h4⟩;dsimp only at h1 h2 h3 h4⊢;rw[<-h2]at h4;have go:(!(bW u vX)&& !jG u)=false->∃p6:m5,(p6.t.size<=8388608/\me pf w=pf p6.t)/\(string t=string p6.t/\True)/\aD (bD [F]) (bD [F]):=fun e=>
  ⟨⟨t,t⟩,⟨h1,by grind⟩,⟨rfl,ao⟩,aD.refl _⟩
 refine⟨aG (fun h=>?_) (fun h=>go ?_),?_⟩
 ·rw[aaq]at h;have h:(!bW u vX)=true:=h;refine bV agD ⟨u,u⟩ (by grind) fun _ _=>aG (fun h5=>?_) (fun h5=>go ?_)
  ·have h5:(!jG u)=true:=h5;exact nf aaI () fun _ _=>fin _ (by rw[h4,h,h5];rfl)
  grind
 ·rw[aaq]at h;have h:(!bW u vX)=false:=h;grind
 ·rintro⟨t,_⟩ js ⟨h1,h2⟩;exact bp R7 ⟨t⟩ (i_ h1 (by decide)) (K.rest (j:=0) aM hr) fun _ _=>fin _ h2
theorem alM:aC 72 yb:=fo 75 Tryz.func72 alL [] aY alK bz [] alN
end
section
open Go
structure vj where
 v:Nat
 n:Nat
 e:Nat
structure t_ where
 K:cj
 av:ByteArray->vj
 s:ByteArray
def zj(av:ByteArray->vj)(K:cj):aR where
 X:=fq
 Y:=Unit ⊕ Unit
 args x:=[aj x.s]
 cond x:=x.s.size<=8388610
 aQ _ F:=K.rd F
 cd x y:=match y with
  | .inl _=>(av x.s).e=0
  | .inr _=>(av x.s).e≠0/\(av x.s).e<=2
 val x y:=match y with
  | .inl _=>.returned (.tuple #[.float .f64 (av x.s).v,.int .i64 (av x.s).n,.nilIface])
  | .inr _=>.returned (.tuple #[.float .f64 (av x.s).v,.int .i64 (av x.s).n,.iface 128 (.int .i64 (av x.s).e)])
 eX _ _ _ hs h:=K.mono h hs
 sum:=some (iX Unit Unit)
def B4:aR where
 X:=t_
 Y:=Unit ⊕ Unit
 args x:=[aj x.s,ae 64]
 cond x:=x.s.size<=8388610/\aC 117 (zj x.av x.K)
 aQ x F:=x.K.rd F
 cd x y:=match y with
  | .inl _=>(x.av x.s).e=0
  | .inr _=>(x.av x.s).e≠0/\(x.av x.s).e<=2
 val x y:=match y with
  | .inl _=>.returned (.tuple #[.float .f64 (x.av x.s).v,.int .i64 (x.av x.s).n,.nilIface])
  | .inr _=>.returned (.tuple #[.float .f64 (x.av x.s).v,.int .i64 (x.av x.s).n,.iface 128 (.int .i64 (x.av x.s).e)])
 eX x _ _ hs h:=x.K.mono h hs
 sum:=some (iX Unit Unit)
def amE(x:t_)(_F:ai):List (Nat×Nat×OH):=[(4,1,aX (zj x.av x.K))]
theorem amG(x:t_)(F:ai)(hc:B4.cond x)(hr:B4.aQ x F):aC 117 (zj x.av x.K)/\true=true/\∃(b:fq),[aj x.s]=[aj b.s]/\([]:List ai)=[]/\b.s.size<=8388610/\x.K.3 (cX F)/\(∀(a:Unit),(x.av b.s).e=0->aq B4 x F (az (tuple ⟨[float f64 (x.av b.s).v,ae (↑(x.av b.s).n:Int),nilIface]⟩)) [(0,F)])/\∀(a:Unit),((x.av b.s).e≠0/\(x.av b.s).e<=2)->aq B4 x F (az (tuple ⟨[float f64 (x.av b.s).v,ae (↑(x.av b.s).n:Int),fE 128 (ae (↑(x.av b.s).e:Int))]⟩)) [(0,F)]:=by
 delta cX aH ae aj fE az;obtain⟨K,av,s⟩:=x;obtain⟨h1,h2⟩:=hc;replace hr:K.rd F:=hr;exact bp h2 ⟨s⟩ h1 (K.rest (j:=0) aM hr) ⟨fun _ q=>⟨.inl (),q,rfl,aB [0]⟩,fun _ q=>⟨.inr (),q,rfl,aB [0]⟩⟩
theorem amF:aC 107 B4:=fo 27 Tryz.func107 amE [] aY aY bz [] amG
def iQ(d:vj)(n:Nat):Nat×Nat:=bif d.n==n then (d.v,d.e) else (0,2)
def x5:aR where
 X:=t_
 Y:=Unit ⊕ Unit
 args x:=[aj x.s,ae 64]
 cond x:=x.s.size<=8388610/\aC 117 (zj x.av x.K)
 aQ x F:=x.K.rd F
 cd x y:=match y with
  | .inl _=>(iQ (x.av x.s) x.s.size).2=0
  | .inr _=>(iQ (x.av x.s) x.s.size).2≠0/\(iQ (x.av x.s) x.s.size).2<=2
 val x y:=match y with
  | .inl _=>.returned (.tuple #[.float .f64 (iQ (x.av x.s) x.s.size).1,.nilIface])
  | .inr _=>.returned (.tuple #[.float .f64 (iQ (x.av x.s) x.s.size).1,.iface 128 (.int .i64 (iQ (x.av x.s) x.s.size).2)])
 eX x _ _ hs h:=x.K.mono h hs
 sum:=some (iX Unit Unit)
def NO(b:t_):=b.s.size<=8388610/\aC 117 (zj b.av b.K)
def VA(x:t_)(F:ai):=aq x5 x F (az (tuple ⟨[float f64 0,fE 128 (ae 2)]⟩)) [(0,F)]
theorem aj9(x:t_)(F:ai)(hc:x5.cond x)(hr:x5.aQ x F):aC 107 B4/\true=true/\∃(b:t_),[aj x.s,ae 64]=[aj b.s,ae 64]/\([]:List ai)=[]/\NO b/\b.K.3 (cX F)/\(∀(a:Unit),(b.av b.s).e=0->Br ((↑(b.av b.s).n:Int)!=(x.s.size:Int)) (VA x F) (aq x5 x F (az (tuple ⟨[float f64 (b.av b.s).v,nilIface]⟩)) [(0,F)]))/\∀(a:Unit),((b.av b.s).e≠0/\(b.av b.s).e<=2)->Br ((↑(b.av b.s).n:Int)!=(x.s.size:Int)) (VA x F) (aq x5 x F (az (tuple ⟨[float f64 (b.av b.s).v,fE 128 (ae (↑(b.av b.s).e:Int))]⟩)) [(0,F)]):=by
 delta NO cX VA aH ae aj fE az;obtain⟨K,av,s⟩:=x;obtain⟨h1,h2⟩:=hc;replace hr:K.rd F:=hr;have b0:((av s).n==s.size)=(((av s).n:Int)==(s.size:Int)):=Eg _ _;have i0:((av s).n==s.size)=true->iQ (av s) s.size=((av s).v,(av s).e):=fun e=>by unfold iQ;rw[e];rfl
 have i1:((av s).n==s.size)=false->iQ (av s) s.size=(0,2):=fun e=>by unfold iQ;rw[e];rfl
 have fY:((av s).n==s.size)=false->aq x5 ⟨K,av,s⟩ F (returned (tuple #[float .f64 0,iface 128 (int .i64 2)])) [(0,F)]:=fun e=>
  ⟨.inr (),by show(iQ (av s) s.size).2≠0/\(iQ (av s) s.size).2<=2;rw[i1 e];exact⟨by decide,cr _⟩,by show _=returned (.tuple #[.float .f64 (iQ (av s) s.size).1,.iface _ (.int .i64 (iQ (av s) s.size).2)]);rw[i1 e];rfl,aB [0]⟩
 refine bp amF ⟨K,av,s⟩ ⟨h1,h2⟩ (K.rest (j:=0) aM hr) ⟨fun _ q=>aG (fun h=>fY ?_) (fun h=>?_),fun _ q=>aG (fun h=>fY ?_) (fun h=>?_)⟩
 ·have h:(((av s).n:Int)!=(s.size:Int))=true:=h;rw[b0];simpa using h
 ·have h:(((av s).n:Int)!=(s.size:Int))=false:=h;have e:((av s).n==s.size)=true:=by rw[b0];simpa using h
  have q:(av s).e=0:=q;exact⟨.inl (),by show(iQ (av s) s.size).2=0;rw[i0 e];exact q,by show _=returned (.tuple #[.float .f64 (iQ (av s) s.size).1,.nilIface]);rw[i0 e],aB [0]⟩
 ·have h:(((av s).n:Int)!=(s.size:Int))=true:=h;rw[b0];simpa using h
 ·have h:(((av s).n:Int)!=(s.size:Int))=false:=h;have e:((av s).n==s.size)=true:=by rw[b0];simpa using h
  have q:(av s).e≠0/\(av s).e<=2:=q;exact⟨.inr (),by show(iQ (av s) s.size).2≠0/\(iQ (av s) s.size).2<=2;rw[i0 e];exact q,by show _=returned (.tuple #[.float .f64 (iQ (av s) s.size).1,.iface _ (.int .i64 (iQ (av s) s.size).2)]);rw[i0 e],aB [0]⟩
theorem aj8:aC 101 x5:=fo 23 Tryz.func101 (fun _ _=>[(1,2,aX B4)]) [] aY aY bz [] aj9
def vk(F:ai):Prop:=(∃t a,aO F ⟨7,0,none⟩ (.iface t (.pointer (some a))))/\(∃t a,aO F ⟨8,0,none⟩ (.iface t (.pointer (some a))))
theorem vk.sub{A B:ai}(h:vk A)(hs:Sub A B):vk B:=⟨let ⟨t,a,q⟩:=h.1;⟨t,a,q.sub hs⟩,let ⟨t,a,q⟩:=h.2;⟨t,a,q.sub hs⟩⟩
structure XX where
 f:ByteArray
 s:ByteArray
 e:Nat
def IN:aR where
 X:=XX
 Y:=Value
 args x:=[aj x.f,aj x.s,ae 0,ae 64,fE 128 (ae x.e)]
 cond x:=x.s.size<=8388610/\x.e≠0/\x.e<=2
 aQ _ F:=vk F
 val _ y:=az y
def IC:aR where
 X:=t_
 Y:=Value
 args x:=[aj x.s,ae 64]
 cond x:=x.s.size<=8388610/\aC 117 (zj x.av x.K)/\aC 102 IN/\(∀F,x.K.rd F->vk F)
 aQ x F:=x.K.rd F
 val x y:=.returned (.tuple #[.float .f64 (iQ (x.av x.s) x.s.size).1,y])
 eX x _ _ hs h:=x.K.mono h hs
theorem ao9(x:t_)(F:ai)(hc:IC.cond x)(hr:IC.aQ x F):aC 101 x5/\true=true/\∃(d:t_),[aj x.s,ae 64]=[aj d.s,ae 64]/\([]:List ai)=[]/\NO d/\d.K.3 (cX F)/\(∀(a:Unit),(iQ (d.av d.s) d.s.size).snd=0->aq IC x F (az (tuple ⟨[float f64 (iQ (d.av d.s) d.s.size).fst,nilIface]⟩)) [(0,F)])/\∀(c:Unit),((iQ (d.av d.s) d.s.size).snd≠0/\(iQ (d.av d.s) d.s.size).snd<=2)->aC 102 IN/\true=true/\∃(b:XX),[aj ⟨#[80,97,114,115,101,70,108,111,97,116]⟩,aj x.s,ae 0,ae 64,fE 128 (ae (↑(iQ (d.av d.s) d.s.size).snd:Int))]=[aj b.f,aj b.s,ae 0,ae 64,fE 128 (ae ↑b.e)]/\([]:List ai)=[]/\(b.s.size<=8388610/\b.e≠0/\b.e<=2)/\vk (cX F)/\∀(a:Value),True->aq IC x F (az (tuple ⟨[float f64 (iQ (d.av d.s) d.s.size).fst,a]⟩)) [(0,F)]:=by
 delta NO cX aH ae aj fE az;obtain⟨K,av,s⟩:=x;obtain⟨h1,h2,h3,h4⟩:=hc;replace hr:K.rd F:=hr;have kr:∀{S:St}{bF:List Nat},(0:Nat)∉bF->gt S 0=F->K.rd (.dv (rest S bF)):=fun h e=>K.rest h (by rw[e];exact hr);exact bp aj8 ⟨K,av,s⟩ ⟨h1,h2⟩ (kr aM rfl) ⟨fun _ q=>⟨.nilIface,ao,rfl,aB [0]⟩,fun _ q=>⟨h3,rfl,⟨_,s,_⟩,rfl,rfl,⟨h1,q⟩,(h4 F hr).sub (b_ 0),fun y _=>⟨y,ao,rfl,aB [0]⟩⟩⟩
theorem ao8:aC 86 IC:=fo 22 Tryz.func86 (fun _ _=>[(1,2,aX x5),(3,4,aX IN)]) [] aY aY bz [] ao9
def Ly(av:ByteArray->vj)(s:ByteArray):Nat:=(iQ (av s) s.size).1
theorem ams{av:ByteArray->vj}{K:cj}(h1:aC 117 (zj av K))(h2:aC 102 IN)(h3:∀F,K.rd F->vk F):aC 86 (Hj (Ly av) K):=ao8.DE fun q F I w hc hr hs=>
 ⟨⟨K,av,q.s⟩,I,a7.le_refl I,⟨hc,h1,h2,h3⟩,hr,rfl,hs,fun y _=>⟨y,ao,rfl,aD.refl _⟩⟩
end
section
open Go
structure sB where
 u:Int
structure w4 where
 b:Bool
def xt:aR where
 X:=w4
 args x:=[ak x.b]
 val x _:=.returned (.int .u64 (bif x.b then 1 else 0))
def Bh:aR where
 X:=w4
 args x:=[ak x.b]
 val x _:=.returned (.int .i64 (bif x.b then 1 else 0))
theorem afE(x:w4)(F:ai)(hc:xt.cond x)(hr:xt.aQ x F):Br x.b (aq xt x F (az (aA 1)) [(0,F)]) (aq xt x F (az (aA 0)) [(0,F)]):=by
 delta aA az;exact aG (fun h=>⟨(),ao,by show _=returned (.int .u64 (bif x.b then 1 else 0));rw[h];rfl,aB [0]⟩) (fun h=>⟨(),ao,by show _=returned (.int .u64 (bif x.b then 1 else 0));rw[h];rfl,aB [0]⟩)
theorem QI:aC 132 xt:=fo 4 Tryz.func132 (fun _ _=>[]) [] aY aY bz [] afE
theorem afD(x:w4)(F:ai)(hc:Bh.cond x)(hr:Bh.aQ x F):Br x.b (aq Bh x F (az (ae 1)) [(0,F)]) (aq Bh x F (az (ae 0)) [(0,F)]):=by
 delta ae az;exact aG (fun h=>⟨(),ao,by show _=returned (.int .i64 (bif x.b then 1 else 0));rw[h];rfl,aB [0]⟩) (fun h=>⟨(),ao,by show _=returned (.int .i64 (bif x.b then 1 else 0));rw[h];rfl,aB [0]⟩)
theorem afC:aC 152 Bh:=fo 4 Tryz.func152 (fun _ _=>[]) [] aY aY bz [] afD
def jL(f:Int->Int):aR where
 X:=sB
 args x:=[aA x.u]
 cond x:=0<=x.u/\x.u<=18446744073709551615
 val x _:=az (aA (f x.u))
def AL(u:Int):Int:=u64.wrap (u64.wrap (u*2^min (Int.toNat 2) u64.bits)-2)
theorem apK(x:sB)(F:ai)(hc:(jL AL).cond x)(hr:(jL AL).aQ x F):aq (jL AL) x F (az (aA (bc (bc (x.u*2^min (Int.toNat (2:Int)) u64.bits)-2)))) [(0,F)]:=by
 delta aA bc az;exact lJ
theorem apJ:aC 153 (jL AL):=fo 6 Tryz.func153 (fun _ _=>[(1,1,aW),(1,2,aW)]) [] aY aY bz [] apK
def pZ(u:Int):Int:=(u64.wrap (u64.wrap (u+1)+u64.wrap (↑(BitVec.ofInt u64.bits (u.fdiv (2^min (Int.toNat 2) u64.bits))&&& BitVec.ofInt u64.bits 1).toNat:Int))).fdiv (2^min (Int.toNat 2) u64.bits)
theorem aoc(x:sB)(F:ai)(hc:(jL pZ).cond x)(hr:(jL pZ).aQ x F):aq (jL pZ) x F (az (aA ((bc (bc (x.u+1)+bc (↑(cf (x.u.fdiv ((2:Int)^min (Int.toNat (2:Int)) u64.bits))&&& cf (1:Int)).toNat:Int))).fdiv ((2:Int)^min (Int.toNat (2:Int)) u64.bits)))) [(0,F)]:=by
 delta aA cf bc az;exact lJ
theorem abz:aC 155 (jL pZ):=fo 10 Tryz.func155 (fun _ _=>[(1,1,aW),(1,3,aW),(1,4,aW),(1,5,aW),(1,6,aW)]) [] aY aY bz [] aoc
structure nP where
 i:Int
def BR:aR where
 X:=nP
 args x:=[ae x.i]
 cond x:= -100000<=x.i/\x.i<=100000
 val x _:=az (ae ((x.i*108853).fdiv (2^min (Int.toNat 15) i64.bits)))
theorem aku(x:nP)(F:ai)(hc:BR.cond x)(hr:BR.aQ x F):((-9223372036854775808:Int)<=x.i*108853/\x.i*108853<=(9223372036854775807:Int))/\aq BR x F (az (ae ((x.i*108853).fdiv ((2:Int)^min (Int.toNat (15:Int)) i64.bits)))) [(0,F)]:=by
 delta ae az;have vN: -100000<=x.i/\x.i<=100000:=hc;exact⟨aJ,(),ao,rfl,aB [0]⟩
theorem aaf:aC 149 BR:=fo 6 Tryz.func149 (fun _ _=>[]) [] aY aY bz [] aku
structure A3 where
 u:Int
 e:Int
def Lv(x:A3):Bool:=u64.wrap (↑(BitVec.ofInt u64.bits x.u&&& BitVec.ofInt u64.bits 4503599627370496).toNat:Int)==0
def ama(x:A3):Nat:=(u64.wrap (↑(BitVec.ofInt u64.bits (u64.wrap (↑(BitVec.ofInt u64.bits x.u&&& BitVec.ofInt u64.bits 9223372036854775808).toNat:Int))|||BitVec.ofInt u64.bits 9218868437227405312).toNat:Int)).toNat
def amb(x:A3):Nat:=(u64.wrap (↑(BitVec.ofInt u64.bits (u64.wrap (↑(BitVec.ofInt u64.bits x.u&&& ~~~BitVec.ofInt u64.bits 4503599627370496).toNat:Int))|||BitVec.ofInt u64.bits (u64.wrap (u64.wrap (1075+x.e)*2^min (Int.toNat 52) u64.bits))).toNat:Int)).toNat
def mO(x:A3):Nat×Nat:=bif Lv x then (x.u.toNat,0) else bif decide (x.e>=972) then (ama x,1) else (amb x,0)
def wg:aR where
 X:=A3
 Y:=Unit ⊕ Unit
 args x:=[aA x.u,ae x.e]
 cond x:=0<=x.u/\x.u<=18446744073709551615/\ -1075<=x.e/\x.e<=100000
 cd x y:=match y with
  | .inl _=>(mO x).2=0
  | .inr _=>(mO x).2=1
 val x y:=match y with
  | .inl _=>.returned (.tuple #[.float .f64 (mO x).1,.nilIface])
  | .inr _=>.returned (.tuple #[.float .f64 (mO x).1,.iface 128 (.int .i64 1)])
 sum:=some (iX Unit Unit)
theorem al_(x:A3)(F:ai)(hc:wg.cond x)(hr:wg.aQ x F):Br (bc (↑(cf x.u&&& cf (4503599627370496:Int)).toNat:Int)==0) (aq wg x F (az (tuple ⟨[float f64 x.u.toNat,nilIface]⟩)) [(0,F)]) (aP (x.e>=972) (aq wg x F (az (tuple ⟨[float f64 (bc (↑(cf (bc (↑(cf x.u&&& cf (9223372036854775808:Int)).toNat:Int))|||cf (9218868437227405312:Int)).toNat:Int)).toNat,fE 128 (ae 1)]⟩)) [(0,F)]) (bT (1075+x.e)/\aq wg x F (az (tuple ⟨[float f64 (bc (↑(cf (bc (↑(cf x.u&&& ~~~cf (4503599627370496:Int)).toNat:Int))|||cf (bc (bc (1075+x.e)*2^min (Int.toNat (52:Int)) u64.bits))).toNat:Int)).toNat,nilIface]⟩)) [(0,F)])):=by
 delta bT ae fE cf bc aP az;have vN:0<=x.u/\x.u<=18446744073709551615/\ -1075<=x.e/\x.e<=100000:=hc;have ok:∀v:Nat,mO x=(v,0)->aq wg x F (returned (tuple #[float .f64 v,nilIface])) [(0,F)]:=fun v e=>
  ⟨.inl (),by show(mO x).2=0;rw[e],by show _=returned (.tuple #[.float .f64 (mO x).1,.nilIface]);rw[e],aB [0]⟩
 have no:∀v:Nat,mO x=(v,1)->aq wg x F (returned (tuple #[float .f64 v,iface 128 (int .i64 1)])) [(0,F)]:=fun v e=>
  ⟨.inr (),by show(mO x).2=1;rw[e],by show _=returned (.tuple #[.float .f64 (mO x).1,.iface _ (.int .i64 1)]);rw[e],aB [0]⟩
 refine aG (fun h=>ok _ ?_) (fun h=>aG (fun h2=>no _ ?_) (fun h2=>⟨aJ,ok _ ?_⟩))
 ·unfold mO;rw[show Lv x=true from h];rfl
 ·unfold mO;rw[show Lv x=false from h,h2];rfl
 ·unfold mO;rw[show Lv x=false from h,h2];rfl
theorem al9:aC 158 wg:=fo 26 Tryz.func158 (fun _ _=>[(2,1,aW),(4,3,aW),(5,4,aW),(5,5,aW),(5,7,aW)]) [] aY aY bz [] al_
end
end Go.Proofs.YtdkchodgklpomaaGreatDoor
namespace Go.Proofs
section
open Go.Shelf
def aew:Go.Shelf.Ren:=⟨fun|129=>148|n=>n,fun|53=>64|3=>3|4=>4|46=>101|5=>5|9=>9|n=>n,fun|n=>n⟩
theorem aev:Go.Proofs.Lays.n129 Tryz.prog aew:={
 mixed:=by kernel_rfl
 f129:=Tryz.func148.trans (congrArg some (by kernel_rfl))
 t3:=Tryz.underlying3
 a3:=Tryz.isAgg3
 z3:=Tryz.sizeOf3
 v3:=Tryz.zeroValue3
 t4:=Tryz.underlying4
 a4:=Tryz.isAgg4
 z4:=Tryz.sizeOf4
 v4:=Tryz.zeroValue4
 t5:=Tryz.underlying5
 a5:=Tryz.isAgg5
 z5:=Tryz.sizeOf5
 v5:=Tryz.zeroValue5
 t9:=Tryz.underlying9
 a9:=Tryz.isAgg9
 z9:=Tryz.sizeOf9
 v9:=Tryz.zeroValue9
 t46:=Tryz.underlying101
 a46:=Tryz.isAgg101
 z46:=Tryz.sizeOf101
 v46:=Tryz.zeroValue101
 t53:=Tryz.underlying64
 a53:=Tryz.isAgg64
 z53:=Tryz.sizeOf64
 v53:=Tryz.zeroValue64}
theorem Tryz.bits_Len64(x:Int)(w:World)(h0:0<=x)(h1:x<=18446744073709551615):
  Calls Tryz.prog 148 #[.int .u64 x] w fun e w'=>e= .returned (.int .i64 (Lib.bitLen x.toNat))/\w'=w:=Any.bits_Len64 aev x w h0 h1
def aeJ:Go.Shelf.Ren:=⟨fun|264=>167|n=>n,fun|53=>64|46=>101|n=>n,fun|n=>n⟩
theorem aeI:Go.Proofs.Lays.n264 Tryz.prog aeJ:={
 mixed:=by kernel_rfl
 f264:=Tryz.func167.trans (congrArg some (by kernel_rfl))
 t46:=Tryz.underlying101
 a46:=Tryz.isAgg101
 z46:=Tryz.sizeOf101
 v46:=Tryz.zeroValue101
 t53:=Tryz.underlying64
 a53:=Tryz.isAgg64
 z53:=Tryz.sizeOf64
 v53:=Tryz.zeroValue64}
open Go.RowKit Go.Lib in
theorem Tryz.bits_Mul64(x y:Nat)(hx:x<18446744073709551616)(hy:y<18446744073709551616)(w:World):
  Calls Tryz.prog 167 #[.int .u64 x,.int .u64 y] w fun e w'=>e= .returned (.tuple #[.int .u64 ((x*y/18446744073709551616:Nat):Int),.int .u64 ((x*y%18446744073709551616:Nat):Int)])/\w'=w:=Any.bits_Mul64 aeI x y hx hy w
end
end Go.Proofs
namespace Go.Proofs.YtdkchodgklpomaaGreatDoor
set_option maxRecDepth 100000
open Go.Value (int slice string bool pointer agg tuple func float iface nilIface)
open Go.IntKind (i64 u8 u64 i32 u32 u16 i8 i16)
open Go.FloatKind (f64)
open Go.Ending (returned panicked)
section
open Go
structure OS where
 u:Nat
def G_:aR where
 X:=OS
 args x:=[aA x.u]
 cond x:=x.u<=18446744073709551615
 val x _:=az (ae (Lib.bitLen x.u))
theorem aag:aC 148 G_:=ud G_ (fun _=>rfl) (fun _ _=>()) (fun _ _=>ao) (fun _ _=>rfl) fun x F I w hc hr hs=>
 (Go.Proofs.Tryz.bits_Len64 (x.u:Int) w (Int.natCast_nonneg _) (by have:x.u<=18446744073709551615:=hc;omega)).mono fun e w' h=>⟨by rw[h.1,cB];rfl,RowKit.Below.of_eq h.2⟩
structure ug where
 u:Nat
 v:Nat
def Ec:aR where
 X:=ug
 args x:=[aA x.u,aA x.v]
 cond x:=x.u<18446744073709551616/\x.v<18446744073709551616
 val x _:=.returned (.tuple #[.int .u64 (x.u*x.v/18446744073709551616:Nat),.int .u64 (x.u*x.v%18446744073709551616:Nat)])
theorem SF:aC 167 Ec:=ud Ec (fun _=>rfl) (fun _ _=>()) (fun _ _=>ao) (fun _ _=>rfl) fun x F I w hc hr hs=>
 (Go.Proofs.Tryz.bits_Mul64 x.u x.v hc.1 hc.2 w).mono fun e w' h=>⟨h.1,RowKit.Below.of_eq h.2⟩
end
section
open Go
structure oP where
 u:Nat
 b:Nat
 hi:Nat
 lo:Nat
 s:Nat
def IR(x:oP):Int:=(x.u*x.hi/18446744073709551616:Nat)
def Oq(x:oP):Int:=(x.u*x.hi%18446744073709551616:Nat)
def Ot(x:oP):Int:=(x.u*x.lo/18446744073709551616:Nat)
def IS(x:oP):Bool:=u64.wrap ((IR x).fdiv (2^min (↑x.s:Int).toNat u64.bits)*2^min (↑x.s:Int).toNat u64.bits)!=IR x
def acs(x:oP):Int:=u64.wrap (↑(BitVec.ofInt u64.bits ((IR x).fdiv (2^min (↑x.s:Int).toNat u64.bits))|||BitVec.ofInt u64.bits 1).toNat:Int)
def act(x:oP):Int:=u64.wrap (↑(BitVec.ofInt u64.bits ((u64.wrap (IR x-bif decide (Oq x<Ot x) then 1 else 0)).fdiv (2^min (↑x.s:Int).toNat u64.bits))|||BitVec.ofInt u64.bits (bif decide (u64.wrap (Oq x-Ot x)>1) then 1 else 0)).toNat:Int)
def jg(x:oP):Int:=bif IS x then acs x else act x
theorem afg{d:Nat}(h:d<64):i64.wrap (↑(BitVec.ofInt i64.bits (d:Int)&&& BitVec.ofInt i64.bits 63).toNat:Int)=(d:Int):=by
 show i64.wrap (↑((BitVec.ofNat 64 d&&& BitVec.ofNat 64 63:BitVec 64).toNat):Int)=_;have:(BitVec.ofNat 64 d&&& BitVec.ofNat 64 63).toNat=d:=by
  rw[BitVec.toNat_and,BitVec.toNat_ofNat,BitVec.toNat_ofNat];have h1:d%2^64=d:=Nat.mod_eq_of_lt af;rw[h1];have h2:=Nat.and_two_pow_sub_one_eq_mod d 6;rw[Nat.mod_eq_of_lt (show d<2^6 by omega)]at h2;exact h2
 rw[this];exact dA (i:=.i64) aJ
def Am(x:oP):Option Addr:=some ⟨x.b,0,none⟩
def ve:aR where
 X:=oP
 args x:=[aA x.u,ah (Am x)]
 cond x:=x.u<18446744073709551616/\x.hi<18446744073709551616/\x.lo<18446744073709551616/\x.s<64
 aQ x F:=aO F ⟨x.b,0,none⟩ (.int .u64 x.hi)/\aO F ⟨x.b,1,none⟩ (.int .u64 x.lo)/\aO F ⟨x.b,2,none⟩ (.int .i64 x.s)
 val x _:=az (aA (jg x))
 eX _ _ _ hs h:=⟨h.1.sub hs,h.2.1.sub hs,h.2.2.sub hs⟩
def apN(x:oP)(F:ai):Nat->Option Inv:=fun
 |3=>some {X:=Unit,P:=fun _=>True,mu:=fun _=>0,lv:=fun _=>[(0,aA x.u),(1,ah (Am x)),(5,aA (x.u*x.hi/18446744073709551616:Nat)),(6,aA (x.u*x.hi%18446744073709551616:Nat)),(7,ae x.s)],st:=fun _=>[F]}
 |_=>none
def Dn(aa:ai)(ad:Addr)(k0:Int->Prop):=∃(z0:Int),aO aa ad (aA z0)/\k0 z0
def Ga(aa:List Value)(k0:ug->Unit->Prop):=aC 167 Ec/\true=true/\∃(z:ug),aa=[aA ↑z.u,aA ↑z.v]/\([]:List ai)=[]/\(z.u<18446744073709551616/\z.v<18446744073709551616)/\True/\∀(u0:Unit),True->k0 z u0
def Gb(aa:List Value)(k0:w4->Unit->Prop):=aC 132 xt/\true=true/\∃(z:w4),aa=[ak z.b]/\([]:List ai)=[]/\True/\True/\∀(u0:Unit),True->k0 z u0
theorem apO(x:oP)(F:ai)(hc:ve.cond x)(hr:ve.aQ x F):Dn F ⟨x.b,0,none⟩ (fun l=>Ga [aA ↑x.u,aA l] (fun k j=>T1 F ⟨x.b,2,none⟩ (fun b=>∃(a:Unit),True/\(aA ↑x.u=aA ↑x.u/\ah (Am x)=ah (Am x)/\aA (↑(k.u*k.v/18446744073709551616):Int)=aA (↑(x.u*x.hi/18446744073709551616):Int)/\aA (↑(k.u*k.v%18446744073709551616):Int)=aA (↑(x.u*x.hi%18446744073709551616):Int)/\ae (bY (↑(iC b&&& iC (63:Int)).toNat:Int))=ae ↑x.s/\True)/\aD [(0,F)] [(0,F)])/\aS fun(i:Unit)_=>True->Br (bc ((↑(x.u*x.hi/18446744073709551616):Int).fdiv ((2:Int)^min (x.s:Int).toNat u64.bits)*2^min (x.s:Int).toNat u64.bits)!=(↑(x.u*x.hi/18446744073709551616):Int)) (aq ve x F (az (aA (bc (↑(cf ((↑(x.u*x.hi/18446744073709551616):Int).fdiv ((2:Int)^min (x.s:Int).toNat u64.bits))|||cf (1:Int)).toNat:Int)))) [(0,F)]) (Dn F ⟨x.b,1,none⟩ (fun g=>Ga [aA ↑x.u,aA g] (fun f e=>Gb [ak (decide ((↑(x.u*x.hi%18446744073709551616):Int)<(↑(f.u*f.v/18446744073709551616):Int)))] (fun d c=>true=true/\Gb [ak (decide (bc ((↑(x.u*x.hi%18446744073709551616):Int)-(↑(f.u*f.v/18446744073709551616):Int))>1))] (fun b a=>aq ve x F (az (aA (bc (↑(cf ((bc ((↑(x.u*x.hi/18446744073709551616):Int)-bif d.b then (1:Int) else (0:Int))).fdiv ((2:Int)^min (x.s:Int).toNat u64.bits))|||cf (bif b.b then (1:Int) else (0:Int))).toNat:Int)))) [(0,F)]))))))):=by
 delta Dn Ga T1 Am Gb ae aA ak ah cf iC bc bY az aS;obtain⟨h1,h2,h3,h4⟩:=hc;obtain⟨l0,l1,l2⟩:=hr;have fin:∀v,jg x=v->aq ve x F (returned (int .u64 v)) [(0,F)]:=fun v e=>
  ⟨(),ao,by show _=returned (.int .u64 (jg x));rw[e],aB [0]⟩
 refine⟨x.hi,l0,SF,rfl,⟨x.u,x.hi⟩,rfl,rfl,⟨h1,h2⟩,ao,fun _ _=>⟨⟨x.s,l2,(),ao,⟨rfl,rfl,rfl,rfl,by rw[afg h4],ao⟩,aB [0]⟩,fun _ js _=>aG (fun h=>fin _ ?_) (fun h=>?_)⟩⟩
 ·unfold jg;rw[show IS x=true from h];rfl
 ·refine⟨x.lo,l1,SF,rfl,⟨x.u,x.lo⟩,rfl,rfl,⟨h1,h3⟩,ao,fun _ _=>⟨QI,rfl,⟨_⟩,rfl,rfl,ao,ao,fun _ _=>⟨rfl,QI,rfl,⟨_⟩,rfl,rfl,ao,ao,fun _ _=>fin _ ?_⟩⟩⟩;unfold jg;rw[show IS x=false from h];rfl
theorem Ou:aC 151 ve:=fo 59 Tryz.func151 (fun _ _=>[(1,4,.q [.ex 0 (.int .u64)]),(1,5,aX Ec),(2,3,dm),(2,4,aW),(3,2,aW),(3,4,aW),(4,2,aW),(4,3,aW),(5,4,.q [.ex 0 (.int .u64)]),(5,5,aX Ec),(6,4,aX xt),(6,5,aW),(7,2,aW),(7,5,aW),(7,7,aX xt),(7,8,aW)]) [] aY apN bz [] apO
end
end Go.Proofs.YtdkchodgklpomaaGreatDoor
