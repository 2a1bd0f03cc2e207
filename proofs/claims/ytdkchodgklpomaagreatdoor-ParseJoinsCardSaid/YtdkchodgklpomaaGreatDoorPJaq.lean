/- Part of the proof that ParseJoins answers true at every input. -/
import Derived.Test.YtdkchodgklpomaaGreatDoorPJap
set_option linter.all false
namespace Go.Proofs.YtdkchodgklpomaaGreatDoor
set_option maxRecDepth 100000
open Go.Value (int slice string bool pointer agg tuple func float iface nilIface)
open Go.IntKind (i64 u8 u64 i32 u32 u16 i8 i16)
open Go.FloatKind (f64)
open Go.Ending (returned panicked)
section
open Go
def nV:Code->Code
 | .seq a _=>a
 |c=>c
def i_:Nat->Code->Code
 |0,c=>c
 |n+1,.seq _ b=>i_ n b
 |_+1,c=>c
noncomputable def lJ:Code:=hH Tryz.f12
noncomputable def D9:Func:={Tryz.f12 with body:=some (.seq (nV lJ) (.seq (nV (i_ 1 lJ)) (.seq (nV (i_ 2 lJ)) (.seq (nV (i_ 3 lJ)) (.region 5 #[] false)))))}
noncomputable def tK:Func:={Tryz.f12 with body:=some (.seq .skip (i_ 5 lJ))}
noncomputable def OJ:Func:={Tryz.f21 with body:=some (.seq .skip (i_ 1 (hH Tryz.f21)))}
def GV(M:bR->cj->Nat->PM Unit):aR where
 X:=oA
 Y:=(ap×ew) ⊕ (Int×Int)
 args x:=[ag (mS x)]
 pre x:=[ak x.x x.s]
 cond x:=gS x.K x.x/\PG x.x x.s []/\M x.K x.x x.n x.s≠.out
 aO x F:=cB x.K x.x F
 b_ x y:=match y with
  | .inl a=>(M x.K x.x x.n x.s= .ok () a.1/\(∃os,bQ x.x.fin a.1 os)/\a.1.nodes.length<=4194304)/\a.2.ok a.1.nodes/\kM a.1.nodes a.2.vs
  | .inr a=>∃t,M x.K x.x x.n x.s= .stop a.1 a.2 t
 val x y:=match y with
  | .inl _=>.returned (.tuple #[])
  | .inr a=>.panicked [⟨iG a.1 a.2,false,false⟩]
 post x y:=match y with
  | .inl a=>[.cells x.x.b [.slice x.x.la x.x.L.length x.x.lc,.int .i64 a.1.i,.int .i64 x.x.fin,.slice a.2.r.a a.2.r.n a.2.r.cap,.int .i64 a.1.bu,.int .i64 a.1.loops,.int .i64 a.1.bm] 43,a.2.r.A,eD a.1.nodes a.2.vs]
  | .inr _=>[]
 eT _ _ _ hs h:=cB.sub hs h
 sum:=some (ia (ap×ew) (Int×Int))
theorem Ua{M:bR->cj->Nat->PM Unit}{bJ:FuncId}(h:aD bJ (nc M)):aD bJ (GV M):=⟨fun x F I w j k hs=>(h.h x F I w j k hs).mono fun e w'⟨y,J,c,i,d,f,b⟩=>by
 match y with
 | .inl t=>
  obtain⟨v,l,g⟩:=HY (F:=F) f;obtain⟨_,hk,_⟩:=g.Oy (Y:=Unit) (R:=fun _=>kM t.nodes v.vs) (B:=fun _=>eD t.nodes v.vs) 2 fun _ _ h=>⟨(),ym.pure h,h⟩;exact⟨.inl (t,v),J,⟨c,l,hk⟩,i,d,g,b⟩
 | .inr a=>exact⟨.inr a,J,c,i,d,f,b⟩⟩
def dC:ap:=⟨0,[],0,0,0⟩
structure pz where
 K:bR
 src:ByteArray
 bJ:FuncId
def pz.iy(x:pz)(r:Row):Prop:=x.src.size<=8192/\(cH x.K x.src).2= -1/\bz 53 5 (hY (cH x.K x.src).1) r/\(cH x.K x.src).1.length<=x.src.size
def pz.dN(x:pz):Prop:=x.src.size>8192\/0<=(cH x.K x.src).2
def pW:aR where
 X:=pz
 args x:=[.string x.src,.func (.func x.bJ) #[] #[]]
 cond x:=aD 72 (oe x.K)
 aO x F:=eQ x.K F
 b_ x _:=x.dN
 val x _:=.returned (.tuple #[.agg #[.slice none 0 0],.int .i64 (iU x.K x.src).1,.int .i64 (iU x.K x.src).2])
structure C6 where
 b4:Nat
 b5:Nat
 b6:Nat
 p:Int
 e:Int
 r:Row
structure AE where
 b4:Nat
 b5:Nat
 b6:Nat
 b8:Nat
 r:Row
def AE.x(d:AE)(x:pz):cj:=⟨d.b8,d.r.a,d.r.cap,(cH x.K x.src).1,x.src.size⟩
def OF(x:pz)(F:ah):Nat->Option Inv:=fun
 |2=>some {X:=C6,P:=fun d=>(d.e=0/\d.p=0/\x.iy d.r)\/(x.dN/\d.p=(iU x.K x.src).1/\d.e=(iU x.K x.src).2/\d.e≠0),mu:=fun _=>0,lv:=fun d=>[(0,.string x.src),(1,.func (.func x.bJ) #[] #[]),(4,.pointer (some ⟨d.b4,0,none⟩)),(5,.pointer (some ⟨d.b5,0,none⟩)),(6,.pointer (some ⟨d.b6,0,none⟩)),(7,.slice d.r.a d.r.n d.r.cap)],st:=fun d=>[F,af d.b4 eR 25,af d.b5 [ad d.p] 3,af d.b6 [ad d.e] 26,d.r.A]}
 |5=>some {X:=AE,P:=fun d=>x.iy d.r,mu:=fun _=>0,lv:=fun d=>[(1,.func (.func x.bJ) #[] #[]),(4,.pointer (some ⟨d.b4,0,none⟩)),(5,.pointer (some ⟨d.b5,0,none⟩)),(6,.pointer (some ⟨d.b6,0,none⟩)),(8,.pointer (some ⟨d.b8,0,none⟩))],st:=fun d=>[F,af d.b4 eR 25,af d.b5 [ad 0] 3,af d.b6 [ad 0] 26,ak (d.x x) dC,d.r.A]}
 |_=>none
def aie(b:pz)(a:ah):List (Nat×Nat×OH):=[(0,0,.n 1000),(0,1,.n 1010),(0,2,.n 1020),(1,1,.c tE [] [997]),(1,7,.w [.z00 1010]),(1,8,.w [.z00 1020]),(2,0,aP 3),(3,1,aP 2),(3,2,aP 3),(3,3,.w [.z00 1]),(3,4,.w [.z00 2]),(3,5,.w [.z00 3]),(4,4,.n 5040)]
def vv:List LH:=[.z00 1,.z00 2,.z00 3]
def OG(_:pz):List (Nat×Value):=[]
noncomputable def Wt(x:aR.X pW)(F:ah):jj where
 op:=hk ((aie x F)++[])
 y9:=(fun _ _ _=>none) x F
 cut:=OF x F
 zo:=(fun _=>[])
def QE(z:C6)(e0:pz):=z.e=0/\z.p=0/\e0.iy z.r\/e0.dN/\z.p=(iU e0.K e0.src).fst/\z.e=(iU e0.K e0.src).snd/\z.e≠(0:Int)
def Qx(e1:ah)(z:C6):=[(0,e1),(1,af z.b4 eR 25),(2,af z.b5 [ad z.p] 3),(3,af z.b6 [ad z.e] 26),(4,z.r.A)]
def Mu(e0:pz)(e1:ah)(v0 v1 v2 v3:Value)(a:St):=∃(z:C6),QE z e0/\(ai e0.src=ai e0.src/\func (Fn.func e0.bJ) ⟨[]⟩ ⟨[]⟩=func (Fn.func e0.bJ) ⟨[]⟩ ⟨[]⟩/\v0=ag (some ⟨z.b4,0,none⟩)/\v1=ag (some ⟨z.b5,0,none⟩)/\v2=ag (some ⟨z.b6,0,none⟩)/\v3=au z.r.a z.r.n z.r.cap/\True)/\aE a (Qx e1 z)
theorem aig(x:pz)(F:ah)(k:pW.cond x)(l:pW.aO x F):∀(g f e:Nat),(aD 20 tE/\true=true/\∃(c:uy),[ai x.src]=[ai c.src]/\([]:List ah)=[]/\aD 72 (oe c.K)/\eQ c.K (aH [(0,F),(1000,af g eR 25),(1010,af f [ad 0] 3),(1020,af e [ad 0] 26)] [])/\(∀(b:Row),(c.src.size<=8192/\(cH c.K c.src).snd=(-1:Int)/\bz 53 5 (hY (cH c.K c.src).fst) b/\(cH c.K c.src).fst.length<=c.src.size)->aw f 0/\aw e 0/\Mu x F (cr g) (cr f) (cr e) (kZ b) [(0,F),(997,b.A),(1000,af g eR 25),(1010,af f [ad 0] 3),(1020,af e [ad 0] 26)])/\∀(b:Unit),(c.src.size>8192\/0<=(cH c.K c.src).snd)->aw f 0/\aw e 0/\Mu x F (cr g) (cr f) (cr e) (au none 0 0) [(0,F),(997,bc),(1000,af g eR 25),(1010,af f [ad (iU c.K c.src).fst] 3),(1020,af e [ad (iU c.K c.src).snd] 26)])/\aT fun(d:C6)_=>QE d x->aw d.b6 0/\Br (d.e !=0) (true=true/\aw d.b5 0/\aw d.b6 0/\aw d.b4 0/\aw d.b5 0/\aw d.b6 0/\aw d.b4 0/\aw d.b5 0/\aw d.b6 0/\ar pW x F (ay (tuple ⟨[agg ⟨eR⟩,ad d.p,ad d.e]⟩)) (Qx F d)) ((∀(b:Nat),∃(a:AE),x.iy a.r/\(func (Fn.func x.bJ) ⟨[]⟩ ⟨[]⟩=func (Fn.func x.bJ) ⟨[]⟩ ⟨[]⟩/\ag (some ⟨d.b4,0,none⟩)=ag (some ⟨a.b4,0,none⟩)/\ag (some ⟨d.b5,0,none⟩)=ag (some ⟨a.b5,0,none⟩)/\ag (some ⟨d.b6,0,none⟩)=ag (some ⟨a.b6,0,none⟩)/\ag (bI b)=ag (some ⟨a.b8,0,none⟩)/\True)/\aE [(0,F),(1,af d.b4 eR 25),(2,af d.b5 [ad d.p] 3),(3,af d.b6 [ad d.e] 26),(4,d.r.A),(5040,af b [au d.r.a d.r.n d.r.cap,ad 0,ad ↑x.src.size,au none 0 0,ad 0,ad 0,ad 0] 43)] [(0,F),(1,af a.b4 eR 25),(2,af a.b5 [ad 0] 3),(3,af a.b6 [ad 0] 26),(4,ak (a.x x) dC),(5,a.r.A)])/\aT fun(b:AE)_=>x.iy b.r->True):=by
 delta eR QE Qx Mu bI cr kZ aH ak aw ad ai ag au af bc ay aT;intro b4 b5 b6;refine⟨bs agd ⟨x.K,x.src⟩ k (eQ.sub l (bU 0)) ⟨fun r h=>⟨al,al,⟨b4,b5,b6,0,0,r⟩,.inl ⟨rfl,rfl,h⟩,aV,aA [0,1000,1010,1020,997]⟩,fun _ h=>⟨al,al,⟨b4,b5,b6,_,_,dL⟩,.inr ⟨h,rfl,rfl,?_⟩,aV,aA [0,1000,1010,1020,997]⟩⟩,?_⟩
 ·show(iU x.K x.src).2≠0;unfold iU;cases decide (x.src.size>8192)
  ·exact(show(50:Int)≠0 by decide)
  ·exact(show(2:Int)≠0 by decide)
 rintro⟨b4,b5,b6,p,e,r⟩ u h;dsimp only at h⊢;refine⟨al,aG (fun i=>?_) (fun i=>⟨?_,?_⟩)⟩
 ·rcases h with⟨rfl,_⟩| ⟨h,rfl,rfl,_⟩
  ·cases i
  ·exact⟨rfl,al,al,al,al,al,al,al,al,(),h,rfl,aA [0]⟩
 ·rcases h with⟨rfl,rfl,h⟩| ⟨_,_,_,h⟩;rotate_left
  ·exact absurd (by simpa using i) h
  intro b8;refine⟨⟨b4,b5,b6,b8,r⟩,h,aV,⟨fun I w hs=>?_⟩⟩;obtain⟨o,s,j,t⟩:=h;have hn:r.n=(cH x.K x.src).1.length:=by
   have:=j.len;rw[Hw]at this;omega
  have s1:Sat I (bC ([F,.cells b4 [.slice none 0 0] 25,.cells b5 [.int .i64 0] 3,.cells b6 [.int .i64 0] 26,r.A]++[.cells b8 [.slice r.a (cH x.K x.src).1.length r.cap,.int .i64 0,.int .i64 x.src.size,.slice none 0 0,.int .i64 0,.int .i64 0,.int .i64 0] 43,.d8,.d8])) w:=by
   rw[<-hn];exact hs.pick [0,1,2,3,4,5040,999,998] rfl rfl
  have s2:=s1.Cx (B:=eD [] []) 7 fun _ _ _=>ao;have m:Sat I (bC ([F,.cells b4 [.slice none 0 0] 25,.cells b5 [.int .i64 0] 3,.cells b6 [.int .i64 0] 26,r.A]++[.cells b8 [.slice r.a (cH x.K x.src).1.length r.cap,.int .i64 0,.int .i64 x.src.size,.slice none 0 0,.int .i64 0,.int .i64 0,.int .i64 0] 43,dL.A,eD [] []])) w:=s2.pick [0,1,2,3,4,5,6,7] rfl rfl;have n:=m.TJ.Cx (B:=ak ((⟨b4,b5,b6,b8,r⟩:AE).x x) dC) 5 fun _ _ q=>⟨⟨dL,[]⟩,⟨.nil rfl,rfl⟩,q⟩;exact⟨I,a8.le_refl I,n.pick [0,1,2,3,5,4] rfl rfl⟩
 ·exact fun _ _ _=>ao
theorem aif(x:aR.X pW)(F:ah)(a:pW.cond x)(b:pW.aO x F):qp Tryz.prog 45 D9 (Wt x F) vv (hH D9) (nh (aR.args pW x)) (bC (aR.pre pW x++[F])) (OG x) (ar pW x F):=
 Eq.mpr bl (aig x F a b)
structure C4 where
 b4:Nat
 b5:Nat
 b6:Nat
 p:Int
 e:Int
def oi:aR where
 X:=C4
 args x:=[ag (some ⟨x.b4,0,none⟩),ag (some ⟨x.b5,0,none⟩),ag (some ⟨x.b6,0,none⟩),iG x.p x.e]
 pre x:=[af x.b4 eR 25,af x.b5 [ad 0] 3,af x.b6 [ad 0] 26]
 val _ _:=.returned (.tuple #[])
 post x _:=[af x.b4 eR 25,af x.b5 [ad x.p] 3,af x.b6 [ad x.e] 26]
def aii(x:C4):List (Nat×Value):=[(0,.pointer (some ⟨x.b4,0,none⟩))]
def aih(x:C4)(F:ah):Nat->Option Inv:=fun
 |1=>some {X:=Unit,P:=fun _=>True,mu:=fun _=>0,lv:=fun _=>[(0,ag (some ⟨x.b4,0,none⟩)),(1,ag (some ⟨x.b5,0,none⟩)),(2,ag (some ⟨x.b6,0,none⟩)),(3,iG x.p x.e)],st:=fun _=>[F,af x.b4 eR 25,af x.b5 [ad 0] 3,af x.b6 [ad 0] 26]}
 |_=>none
def aij(b:C4)(a:ah):List (Nat×Nat×OH):=[(2,2,.n 3020),(2,3,.w [.z00 3020,.z00 3020]),(3,2,aP 3020),(3,4,aP 3020),(3,5,.w [.z00 1]),(3,6,.w [.z00 2]),(3,7,.w [.z00 3])]
noncomputable def aik(x:aR.X oi)(F:ah):jj where
 op:=hk ((aij x F)++[])
 y9:=(fun _ _ _=>none) x F
 cut:=aih x F
 zo:=(fun _=>[])
theorem aim(x:C4)(F:ah)(d:oi.cond x)(e:oi.aO x F):(∃(a:Unit),True/\(ag (some ⟨x.b4,0,none⟩)=ag (some ⟨x.b4,0,none⟩)/\ag (some ⟨x.b5,0,none⟩)=ag (some ⟨x.b5,0,none⟩)/\ag (some ⟨x.b6,0,none⟩)=ag (some ⟨x.b6,0,none⟩)/\fu 51 (agg ⟨[ad x.p,ad x.e]⟩)=fu 51 (agg ⟨[ad x.p,ad x.e]⟩)/\True)/\aE [(0,af x.b4 eR 25),(1,af x.b5 [ad 0] 3),(2,af x.b6 [ad 0] 26),(3,F)] [(0,F),(1,af x.b4 eR 25),(2,af x.b5 [ad 0] 3),(3,af x.b6 [ad 0] 26)])/\aT fun(c:Unit)_=>True->∀(a:Nat),aw a 0/\aw a 1/\true=true/\aw a 0/\aw a 1/\aw x.b4 0/\aw x.b5 0/\aw x.b6 0/\ar oi x F eM [(0,F),(1,af x.b4 eR 25),(2,af x.b5 [ad x.p] 3),(3,af x.b6 [ad x.e] 26),(3020,af a [ad x.p,ad x.e] 51)]:=by
 delta eR eM aw ad ag au fu af ay aT;refine⟨⟨(),ao,aV,aA [3,0,1,2]⟩,fun _ f _ b=>?_⟩;exact⟨al,al,rfl,al,al,al,al,al,(),ao,rfl,aA [1,2,3,0]⟩
theorem ail(x:aR.X oi)(F:ah)(a:oi.cond x)(b:oi.aO x F):qp Tryz.prog 15 OJ (aik x F) [] (hH OJ) (nh (aR.args oi x)) (bC (aR.pre oi x++[F])) (aii x) (ar oi x F):=
 Eq.mpr bl (aim x F a b)
end
section
open Go
structure kN where
 K:bR
 x:cj
 n:Nat
 b4:Nat
 b5:Nat
 b6:Nat
 r:Row
structure SQ where
 nodes:List bP
 e:Int
 y:ew
def oM(ns:List bP):List bP×Int:=bif decide (ns.length>4096)||kP ns then ([],4) else (ns,0)
def e6(bJ:FuncId)(M:bR->cj->Nat->PM Unit):aR where
 X:=kN
 Y:=SQ ⊕ (Int×Int)
 args x:=[undef,.func (.func bJ) #[] #[],undef,undef,.pointer (some ⟨x.b4,0,none⟩),.pointer (some ⟨x.b5,0,none⟩),.pointer (some ⟨x.b6,0,none⟩),undef,.pointer (some ⟨x.x.b,0,none⟩)]
 pre x:=[af x.b4 eR 25,af x.b5 [ad 0] 3,af x.b6 [ad 0] 26,ak x.x dC,x.r.A]
 cond x:=aD bJ (nc M)/\gS x.K x.x/\M x.K x.x x.n dC≠.out/\bz 53 5 (hY x.x.L) x.r/\x.x.la=x.r.a
 aO x F:=eQ x.K F/\iJ F
 b_ x y:=match y with
  | .inl a=>(∃t,M x.K x.x x.n dC= .ok () t/\oM t.nodes=(a.nodes,a.e))/\a.y.ok a.nodes/\kM a.nodes a.y.vs
  | .inr a=>∃t,M x.K x.x x.n dC= .stop a.1 a.2 t
 val x y:=match y with
  | .inl a=>.returned (.tuple #[.agg #[.slice a.y.r.a a.y.r.n a.y.r.cap],.int .i64 0,.int .i64 a.e])
  | .inr a=>.panicked [⟨iG a.1 a.2,false,false⟩]
 post x y:=match y with
  | .inl a=>[a.y.r.A,eD a.nodes a.y.vs]
  | .inr _=>[.cells x.b4 [.slice none 0 0] 25,.cells x.b5 [.int .i64 0] 3,.cells x.b6 [.int .i64 0] 26]
 sum:=some (ia SQ (Int×Int))
def HW(bJ:FuncId)(x:kN)(F:ah):Nat->Option Inv:=fun
 |6=>some {X:=Unit,P:=fun _=>True,mu:=fun _=>0,lv:=fun _=>[(1,.func (.func bJ) #[] #[]),(4,.pointer (some ⟨x.b4,0,none⟩)),(5,.pointer (some ⟨x.b5,0,none⟩)),(6,.pointer (some ⟨x.b6,0,none⟩)),(8,.pointer (some ⟨x.x.b,0,none⟩))],st:=fun _=>[F,af x.b4 eR 25,af x.b5 [ad 0] 3,af x.b6 [ad 0] 26,ak x.x dC,x.r.A]}
 |_=>none
def Wu(M:bR->cj->Nat->PM Unit)(b:kN)(a:ah):List (Nat×Nat×OH):=[(6,2,.c (GV M) [4] [4,6,7]),(7,3,.q [.z00 4]),(7,8,.c yT [4,6,7] [4,6,7]),(8,1,.w [.z00 1]),(8,2,.w [.z00 2]),(8,3,.w [.z00 3]),(9,3,.q [.z00 4]),(9,5,.w [.z00 1]),(9,6,.w [.z00 2]),(9,7,.w [.z00 3])]
def BA(x:kN):List (Nat×Value):=[(4,.pointer (some ⟨x.b4,0,none⟩)),(5,.pointer (some ⟨x.b5,0,none⟩)),(6,.pointer (some ⟨x.b6,0,none⟩))]
theorem DF{F:ah}:aE (bC [.d8,.d8,F]) (bC [dL.A,eD [] [],F]):=⟨fun I _ h=>⟨I,a8.le_refl I,(h.Cx (B:=eD [] []) 1 fun _ _ _=>ao).pick [0,1,2] rfl rfl⟩⟩
variable{ns:List bP}
theorem Nj(h:ns.length>4096):oM ns=([],4):=by unfold oM;rw[bw h];rfl
theorem Ni(h:kP ns=true):oM ns=([],4):=by unfold oM;rw[h,mJ];rfl
theorem GS(h:¬ns.length>4096)(a:kP ns=false):oM ns=(ns,0):=by unfold oM;rw[bF h,a];rfl
noncomputable def Wr(x:aR.X (e6 16 cf))(F:ah):jj where
 op:=hk (((Wu cf) x F)++[])
 y9:=(fun _ _ _=>none) x F
 cut:=(HW 16) x F
 zo:=(fun _=>[])
def xf(x:kN):Option Addr:=some ⟨x.b4,0,none⟩
def xg(x:kN):Option Addr:=some ⟨x.b5,0,none⟩
def xh(x:kN):Option Addr:=some ⟨x.b6,0,none⟩
def tS(x:kN):Option Addr:=some ⟨x.x.b,0,none⟩
def Jt(x:kN)(F:ah):=[(0,af x.b4 eR 25),(1,af x.b5 [ad 0] 3),(2,af x.b6 [ad 0] 26),(3,ak x.x dC),(4,x.r.A),(5,F)]
def BH(F:ah)(x:kN):=[(0,F),(1,af x.b4 eR 25),(2,af x.b5 [ad 0] 3),(3,af x.b6 [ad 0] 26),(4,ak x.x dC),(5,x.r.A)]
def BS:=ay (tuple ⟨[agg ⟨eR⟩,ad 0,ad 4]⟩)
def Fc(d:oA)(c:ap×ew):List Value:=[au d.x.la d.x.L.length d.x.lc,ad ↑c.fst.i,ad d.x.fin,au c.snd.r.a c.snd.r.n c.snd.r.cap,ad c.fst.bu,ad c.fst.loops,ad c.fst.bm]
def I1(F:ah)(x:kN)(d:oA)(c:ap×ew):=[(0,F),(1,af x.b4 eR 25),(2,af x.b5 [ad 0] 3),(3,af x.b6 [ad 4] 26),(4,af d.x.b (Fc d c) 43),(5,x.r.A),(6,c.snd.r.A),(7,dU (Kf.rest c.fst.nodes c.snd.vs))]
def Gt(aa:List Value)(pp:List ah)(a:oD->Unit->Prop):=aD 22 yT/\true=true/\∃(z:oD),aa=[ag (ot z)]/\pp=[af z.x.b (va z) 43,z.y.r.A,dU (Kf.rest z.s.nodes z.y.vs)]/\(z.y.ok z.s.nodes/\kM z.s.nodes z.y.vs/\bQ z.x.fin z.s z.os/\z.s.nodes.length<=4194304)/\True/\∀(b:Unit),True->a z b
def IX(F:ah)(x:kN)(b:oD):=[(0,F),(1,af x.b4 eR 25),(2,af x.b5 [ad 0] 3),(3,af x.b6 [ad 4] 26),(4,af b.x.b (va b) 43),(5,x.r.A),(6,b.y.r.A),(7,dU (Kf.rest b.s.nodes b.y.vs))]
def JD(b:oD):=ay (tuple ⟨[agg ⟨[au b.y.r.a b.y.r.n b.y.r.cap]⟩,ad 0,ad 0]⟩)
def II(F:ah)(x:kN)(b:oD):=[(0,F),(1,af x.b4 [au b.y.r.a b.y.r.n b.y.r.cap] 25),(2,af x.b5 [ad 0] 3),(3,af x.b6 [ad 0] 26),(4,af b.x.b (va b) 43),(5,x.r.A),(6,b.y.r.A),(7,dU (Kf.rest b.s.nodes b.y.vs))]
def Iz(x:kN):=ag (xf x)=ag (xf x)/\ag (xg x)=ag (xg x)/\ag (xh x)=ag (xh x)/\True
def Jv(F:ah)(x:kN):=[(0,F),(1,af x.b4 eR 25),(2,af x.b5 [ad 0] 3),(3,af x.b6 [ad 0] 26),(4,bc),(5,x.r.A)]
theorem ahy(x:kN)(F:ah)(B:(e6 16 cf).cond x)(C:(e6 16 cf).aO x F):(∃(a:Unit),True/\(func (Fn.func 16) ⟨[]⟩ ⟨[]⟩=func (Fn.func 16) ⟨[]⟩ ⟨[]⟩/\ag (xf x)=ag (xf x)/\ag (xg x)=ag (xg x)/\ag (xh x)=ag (xh x)/\ag (tS x)=ag (tS x)/\True)/\aE (Jt x F) (BH F x))/\aT fun(f:Unit)_=>True->aD 16 (GV cf)/\true=true/\∃(d:oA),[ag (tS x)]=[ag (mS d)]/\[ak x.x dC]=[ak d.x d.s]/\(gS d.K d.x/\PG d.x d.s []/\cf d.K d.x d.n d.s≠PR.out)/\cB d.K d.x (aH (BH F x) [4])/\(∀(c:ap×ew),((cf d.K d.x d.n d.s=PR.ok () c.fst/\(∃(a:List Int),bQ d.x.fin c.fst a)/\c.fst.nodes.length<=4194304)/\c.snd.ok c.fst.nodes/\kM c.fst.nodes c.snd.vs)->ed ⟨x.x.b,3,none⟩ d.x.b/\aS ((c.snd.r.n:Int)>4096) (aw x.b4 0/\aw x.b5 0/\aw x.b6 0/\aw x.b4 0/\aw x.b5 0/\aw x.b6 0/\ar (e6 (16:FuncId) cf) x F BS (I1 F x d c)) (Gt [ag (tS x)] [af d.x.b (Fc d c) 43,c.snd.r.A,dU (Kf.rest c.fst.nodes c.snd.vs)] (fun b a=>Br (kP b.s.nodes) (aw x.b4 0/\aw x.b5 0/\aw x.b6 0/\aw x.b4 0/\aw x.b5 0/\aw x.b6 0/\ar (e6 (16:FuncId) cf) x F BS (IX F x b)) (ed ⟨x.x.b,3,none⟩ b.x.b/\aw x.b4 0/\aw x.b5 0/\aw x.b6 0/\aw x.b4 0/\aw x.b5 0/\aw x.b6 0/\ar (e6 (16:FuncId) cf) x F (JD b) (II F x b)))))/\∀(b:Int×Int),(∃(a:ap),cf d.K d.x d.n d.s=PR.stop b.fst b.snd a)->Iz x/\ar (e6 (16:FuncId) cf) x F (ci b) (Jv F x):=by
 delta xf xg xh tS eR Jt BH mS BS Fc I1 ot va Gt IX JD II Iz ci Jv dT aH ak aw ad ag au af dU bc aS ay aT;obtain⟨K,x,n,b4,b5,b6,r⟩:=x;obtain⟨v,u,w,g,j⟩:=B;obtain⟨k,l⟩:=C;dsimp only at v u w g j k l⊢;refine⟨⟨(),ao,aV,aA [5,0,1,2,3,4]⟩,fun _ D _=>?_⟩;have hn:r.n=x.L.length:=by
  have:=g.len;rw[Hw]at this;omega
 have z:PG x dC []:=⟨dq _,⟨List.Perm.refl _,List.Pairwise.nil,fun i x h=>by simp[dC]at h,fun x h=>by simp[dC]at h⟩,bZ _,⟨cE 0,cE 0⟩,⟨cE 0,cE 0⟩,⟨cE 0,cE 0⟩⟩;refine bs (Ua v) ⟨K,x,dC,n⟩ ⟨u,z,w⟩ ⟨⟨?_,?_⟩,eQ.sub k (bU 0),iJ.sub l (bU 0)⟩ ⟨?_,?_⟩
 ·rw[j,<-hn];exact g.src
 ·rw[j];exact g.CB.sub (bU 5)
 ·rintro⟨t,y⟩ ⟨⟨m,⟨os,q⟩,s⟩,o,hk⟩;dsimp only at m q s o hk⊢;have hl:=o.len;refine⟨al,bo (fun A=>?_) (fun A=>?_)⟩
  ·exact⟨al,al,al,al,al,al,.inl ⟨[],4,⟨dL,[]⟩⟩,⟨⟨t,m,Nj ae⟩,⟨.nil rfl,rfl⟩,ao⟩,rfl,aE.trans (aA [999,998,0]) DF⟩
  ·refine bO Un ⟨x,t,y,os⟩ ⟨o,hk,q,s⟩ fun _ _=>aG (fun hd=>?_) (fun hd=>?_)
   ·exact⟨al,al,al,al,al,al,.inl ⟨[],4,⟨dL,[]⟩⟩,⟨⟨t,m,Ni hd⟩,⟨.nil rfl,rfl⟩,ao⟩,rfl,aE.trans (aA [999,998,0]) DF⟩
   ·exact⟨al,al,al,al,al,al,al,.inl ⟨t.nodes,0,y⟩,⟨⟨t,m,GS ae hd⟩,o,hk⟩,rfl,aA [6,7,0]⟩
 ·rintro⟨p,e⟩ h;exact⟨aV,.inr (p,e),h,rfl,aA [1,2,3,0]⟩
theorem ahx(x:aR.X (e6 16 cf))(F:ah)(a:(e6 16 cf).cond x)(b:(e6 16 cf).aO x F):qp Tryz.prog 45 tK (Wr x F) vv (hH tK) (nh (aR.args (e6 16 cf) x)) (bC (aR.pre (e6 16 cf) x++[F])) (BA x) (ar (e6 16 cf) x F):=
 Eq.mpr bl (ahy x F a b)
noncomputable def Wq(x:aR.X (e6 13 cL))(F:ah):jj where
 op:=hk (((Wu cL) x F)++[])
 y9:=(fun _ _ _=>none) x F
 cut:=(HW 13) x F
 zo:=(fun _=>[])
theorem ahr(x:kN)(F:ah)(B:(e6 13 cL).cond x)(C:(e6 13 cL).aO x F):(∃(a:Unit),True/\(func (Fn.func 13) ⟨[]⟩ ⟨[]⟩=func (Fn.func 13) ⟨[]⟩ ⟨[]⟩/\ag (xf x)=ag (xf x)/\ag (xg x)=ag (xg x)/\ag (xh x)=ag (xh x)/\ag (tS x)=ag (tS x)/\True)/\aE (Jt x F) (BH F x))/\aT fun(f:Unit)_=>True->aD 13 (GV cL)/\true=true/\∃(d:oA),[ag (tS x)]=[ag (mS d)]/\[ak x.x dC]=[ak d.x d.s]/\(gS d.K d.x/\PG d.x d.s []/\cL d.K d.x d.n d.s≠PR.out)/\cB d.K d.x (aH (BH F x) [4])/\(∀(c:ap×ew),((cL d.K d.x d.n d.s=PR.ok () c.fst/\(∃(a:List Int),bQ d.x.fin c.fst a)/\c.fst.nodes.length<=4194304)/\c.snd.ok c.fst.nodes/\kM c.fst.nodes c.snd.vs)->ed ⟨x.x.b,3,none⟩ d.x.b/\aS ((c.snd.r.n:Int)>4096) (aw x.b4 0/\aw x.b5 0/\aw x.b6 0/\aw x.b4 0/\aw x.b5 0/\aw x.b6 0/\ar (e6 (13:FuncId) cL) x F BS (I1 F x d c)) (Gt [ag (tS x)] [af d.x.b (Fc d c) 43,c.snd.r.A,dU (Kf.rest c.fst.nodes c.snd.vs)] (fun b a=>Br (kP b.s.nodes) (aw x.b4 0/\aw x.b5 0/\aw x.b6 0/\aw x.b4 0/\aw x.b5 0/\aw x.b6 0/\ar (e6 (13:FuncId) cL) x F BS (IX F x b)) (ed ⟨x.x.b,3,none⟩ b.x.b/\aw x.b4 0/\aw x.b5 0/\aw x.b6 0/\aw x.b4 0/\aw x.b5 0/\aw x.b6 0/\ar (e6 (13:FuncId) cL) x F (JD b) (II F x b)))))/\∀(b:Int×Int),(∃(a:ap),cL d.K d.x d.n d.s=PR.stop b.fst b.snd a)->Iz x/\ar (e6 (13:FuncId) cL) x F (ci b) (Jv F x):=by
 delta xf xg xh tS eR Jt BH mS BS Fc I1 ot va Gt IX JD II Iz ci Jv dT aH ak aw ad ag au af dU bc aS ay aT;obtain⟨K,x,n,b4,b5,b6,r⟩:=x;obtain⟨v,u,w,g,j⟩:=B;obtain⟨k,l⟩:=C;dsimp only at v u w g j k l⊢;refine⟨⟨(),ao,aV,aA [5,0,1,2,3,4]⟩,fun _ D _=>?_⟩;have hn:r.n=x.L.length:=by
  have:=g.len;rw[Hw]at this;omega
 have z:PG x dC []:=⟨dq _,⟨List.Perm.refl _,List.Pairwise.nil,fun i x h=>by simp[dC]at h,fun x h=>by simp[dC]at h⟩,bZ _,⟨cE 0,cE 0⟩,⟨cE 0,cE 0⟩,⟨cE 0,cE 0⟩⟩;refine bs (Ua v) ⟨K,x,dC,n⟩ ⟨u,z,w⟩ ⟨⟨?_,?_⟩,eQ.sub k (bU 0),iJ.sub l (bU 0)⟩ ⟨?_,?_⟩
 ·rw[j,<-hn];exact g.src
 ·rw[j];exact g.CB.sub (bU 5)
 ·rintro⟨t,y⟩ ⟨⟨m,⟨os,q⟩,s⟩,o,hk⟩;dsimp only at m q s o hk⊢;have hl:=o.len;refine⟨al,bo (fun A=>?_) (fun A=>?_)⟩
  ·exact⟨al,al,al,al,al,al,.inl ⟨[],4,⟨dL,[]⟩⟩,⟨⟨t,m,Nj ae⟩,⟨.nil rfl,rfl⟩,ao⟩,rfl,aE.trans (aA [999,998,0]) DF⟩
  ·refine bO Un ⟨x,t,y,os⟩ ⟨o,hk,q,s⟩ fun _ _=>aG (fun hd=>?_) (fun hd=>?_)
   ·exact⟨al,al,al,al,al,al,.inl ⟨[],4,⟨dL,[]⟩⟩,⟨⟨t,m,Ni hd⟩,⟨.nil rfl,rfl⟩,ao⟩,rfl,aE.trans (aA [999,998,0]) DF⟩
   ·exact⟨al,al,al,al,al,al,al,.inl ⟨t.nodes,0,y⟩,⟨⟨t,m,GS ae hd⟩,o,hk⟩,rfl,aA [6,7,0]⟩
 ·rintro⟨p,e⟩ h;exact⟨aV,.inr (p,e),h,rfl,aA [1,2,3,0]⟩
theorem ahq(x:aR.X (e6 13 cL))(F:ah)(a:(e6 13 cL).cond x)(b:(e6 13 cL).aO x F):qp Tryz.prog 45 tK (Wq x F) vv (hH tK) (nh (aR.args (e6 13 cL) x)) (bC (aR.pre (e6 13 cL) x++[F])) (BA x) (ar (e6 13 cL) x F):=
 Eq.mpr bl (ahr x F a b)
end
section
open Go
section
variable{P:Program}{N:Nat}
theorem XO(o:P.follows .mixedOrders=true){H:jj}{x y z:Code}{key:Nat}{T:Tm}{S:St}{K:Exit->Tm->St->Prop}{a:Act}{I:a8}{w:World}{ds:List Deferred}{Q:Exit->Act->World->Prop}
  (d:(qG y).bind H.cut=none) (h:E P N H (.seq x y) key T S K) (f:dY N T a) (hd:a.defers=ds) (hs:Sat I S w)
  (n:∀e b w',e≠.normal->e9 N I w ds (K e) b w'->Q e b w')
  (p:∀T' S' J b w',E P N H y key T' S' K->dY N T' b->b.defers=ds->a8.le I J->Sat J S' w'->cv w w'->z.wp P Q b w'):(Code.seq x z).wp P Q a w:=by
 simp only[E]at h;rw[d]at h;refine wp_seq (CR o H x h f hd hs fun e b w' c=>?_);cases e with
 |normal=>
  obtain⟨T',S',J,g,i,j,k,l,m⟩:=c;exact p T' S' J b w' m g i j k l
 |_=>exact n _ _ _ (fun e=>nomatch e) c
theorem wp_cut(B:P.follows .mixedOrders=true){H:jj}{x y z:Code}{key:Nat}{T:Tm}{S:St}{K:Exit->Tm->St->Prop}{a:Act}{I:a8}{w:World}{ds:List Deferred}{Q:Exit->Act->World->Prop}{V:Inv}
  (f:(qG y).bind H.cut=some V) (l:V.gh=none) (h:E P N H (.seq x y) key T S K) (j:dY N T a) (hd:a.defers=ds) (hs:Sat I S w)
  (v:∀e b w',e≠.normal->e9 N I w ds (K e) b w'->Q e b w')
  (C:∀d k J b w',V.P d->E P N H y key (jy k (V.lv d)) (bC (V.st d)) K->dY N (jy k (V.lv d)) b->b.defers=ds->a8.le I J->Sat J (bC (V.st d)) w'->cv w w'->z.wp P Q b w'):(Code.seq x z).wp P Q a w:=by
 simp only[E]at h;rw[f]at h;have h:(E P N H x key T S fun e T S=>match e with| .normal=>∃x,V.P x/\ji T (V.lv x)/\aE S (bC (V.st x))|e=>K e T S)/\∀x k,V.P x->E P N H y key (jy k (V.lv x)) (bC (V.st x)) K:=by
  dsimp only at h;split at h
  ·exact h
  ·rename_i g o
   rw[l]at o;cases o
 refine wp_seq (CR B H x h.1 j hd hs fun e b w' c=>?_);cases e with
 |normal=>
  obtain⟨T',S',J,q,r,s,t,u,d,hp,A,i⟩:=c;obtain⟨p,m,n⟩:=i.h J w' t;exact C d T'.z00 p b w' hp (h.2 d T'.z00 hp) (oY q A) r (a8.le_trans s m) n u
 |_=>exact v _ _ _ (fun e=>nomatch e) c
end
theorem SU{P:Program}{N:Nat}{H:jj}{x y:Code}{key:Nat}{T:Tm}{S:St}{K:Exit->Tm->St->Prop}{V:Inv}(a:(qG y).bind H.cut=some V)(b:V.gh=none)(h:E P N H (.seq x y) key T S K):∀d e,V.P d->E P N H y key (jy e (V.lv d)) (bC (V.st d)) K:=by
 simp only[E]at h;rw[a]at h;dsimp only at h;split at h
 ·exact h.2
 ·rename_i g c
  rw[b]at c;cases c
theorem wpOps_cons{P:Program}{aM:Array Oper}{Q:Exit->Act->World->Prop}{a:Act}{w:World}{i:Nat}{rest:List Nat}{o:Oper}(c:aM[i]?=some o)(b:o.guard=none)(h:o.wp P a w (wpOps P aM Q rest) Q):wpOps P aM Q (i::rest) a w:=by
 simp only[wpOps,c];have:Region.wanted o (yielded aM a.tmps)=true:=by unfold Region.wanted;rw[b]
 rw[if_pos this];exact .inl h
theorem XN{P:Program}{aM:Array Oper}{Q:Exit->Act->List Frame->World->Prop}{a:Act}{cs nW:List Frame}{w w':World}{i:Nat}{rest:List Nat}{o:Oper}{v:Value}(e:aM[i]?=some o)(d:o.guard=none)
  (b:((execOp a.eval o).run P w= .ok .recover w'/\(recoverD cs=some (v,nW)\/(recoverD cs=none/\v= .nilIface/\nW=cs)))\/((execOp a.eval o).run P w= .ok (.value v) w'/\nW=cs))
  (h:wpOpsS P aM Q rest (a.put o.dst v) nW w'):wpOpsS P aM Q (i::rest) a cs w:=by
 simp only[wpOpsS,e];have:Region.wanted o (yielded aM a.tmps)=true:=by unfold Region.wanted;rw[d]
 rw[if_pos this];rcases b with⟨b,c| ⟨c,rfl,rfl⟩⟩| ⟨b,rfl⟩
 ·rw[b];simp only[c];exact h
 ·rw[b];simp only[c];exact h
 ·rw[b];exact h
def pV(b:Nat):Value:=.pointer (some ⟨b,0,none⟩)
def TU(b4 b5 b6:Nat):Deferred:={target:=.fn (.func 21) #[pV b4,pV b5,pV b6],args:=#[]}
theorem alu{Q:Exit->Act->World->Prop}{T:Tm}{a:Act}{w:World}{b4 b5 b6:Nat}(c:dY 45 T a)(f:T.z00 4=pV b4)(g:T.z00 5=pV b5)(j:T.z00 6=pV b6)
  (h:∀T' d,d.defers=TU b4 b5 b6::a.defers->dY 45 T' d->(∀i,i≠25->T'.z00 i=T.z00 i)->Q .normal d w):(nV (i_ 4 lJ)).wp Tryz.prog Q a w:=by
 have e:nV (i_ 4 lJ)= .region 5 #[a7 Tryz.f12 5 0,a7 Tryz.f12 5 1] false:=bl;rw[e];refine wp_region ?_;show wpOps _ _ _ [0,1] a w;have k:(execOp (ev T) (a7 Tryz.f12 5 0)).run Tryz.prog w= .ok (.value (.func (.func 21) #[] #[T.z00 4,T.z00 5,T.z00 6])) w:=bl;refine wpOps_cons (o:=a7 Tryz.f12 5 0) rfl rfl ?_;unfold Oper.wp;rw[c.eval,k,Oper.upon_value];have b:=c.put (a7 Tryz.f12 5 0).dst (.func (.func 21) #[] #[T.z00 4,T.z00 5,T.z00 6]);refine wpOps_cons (o:=a7 Tryz.f12 5 1) rfl rfl ?_;unfold Oper.wp;have l:(execOp (ev (dD 45 (a7 Tryz.f12 5 0).dst (.func (.func 21) #[] #[T.z00 4,T.z00 5,T.z00 6]) T)) (a7 Tryz.f12 5 1)).run Tryz.prog w= .ok (.defer {target:=.fn (.func 21) #[T.z00 4,T.z00 5,T.z00 6],args:=#[]}) w:=bl;rw[b.eval,l,Oper.upon_defer];refine h _ _ ?_ ((b.defers _).put (a7 Tryz.f12 5 1).dst undef) ?_
 ·rw[BE,f,g,j];show _::(a.put _ _).defers=_;rw[BE];rfl
 ·intro i hi;show(dD 45 none undef (dD 45 (some 25) _ T)).z00 i=_;show(dD 45 (some 25) _ T).z00 i=_;rw[BD];rw[if_neg (fun h=>hi h.2)]
theorem ab4:hH Tryz.f21= .seq (.region 0 #[a7 Tryz.f21 0 0,a7 Tryz.f21 0 1] false) (i_ 1 (hH Tryz.f21)):=bl
theorem ab5:∃A,i_ 1 (hH Tryz.f21)= .seq (.region 1 #[a7 Tryz.f21 1 0,a7 Tryz.f21 1 1] false) (.cond (.tmp 7) A .skip):=⟨match i_ 2 (hH Tryz.f21)with| .cond _ a _=>a|c=>c,bl⟩
theorem TV{Q:Exit->Act->List Frame->World->Prop}{b4 b5 b6:Nat}{v:Value}{cs nW:List Frame}{w:World}(e:recoverD cs=some (v,nW)\/(recoverD cs=none/\v= .nilIface/\nW=cs))
  (h:∀T a,dY 15 T a->a.defers=[]->T.z00 0=pV b4->T.z00 1=pV b5->T.z00 2=pV b6->T.z00 3=v->(i_ 1 (hH Tryz.f21)).wpS Tryz.prog Q a nW w):
  (hH Tryz.f21).wpS Tryz.prog Q {tmps:=#[pV b4,pV b5,pV b6]++Array.replicate (15-3) undef,defers:=[]} cs w:=by
 rw[ab4];refine wpS_seq (wpS_region ?_);have d:=Ff (N:=15) [pV b4,pV b5,pV b6] (Nat.le_of_ble_eq_true rfl);show wpOpsS _ _ _ [0,1] {tmps:=⟨[pV b4,pV b5,pV b6]⟩++Array.replicate (15-3) undef,defers:=[]} cs w;refine XN (v:=v) (nW:=nW) (w':=w) (o:=a7 Tryz.f21 0 0) rfl rfl (.inl ⟨?_,e⟩) ?_
 ·rw[show(execOp _ (a7 Tryz.f21 0 0)).run Tryz.prog w= .ok .recover w from rfl]
 have b:=d.put (a7 Tryz.f21 0 0).dst v;refine XN (v:=v) (nW:=nW) (w':=w) (o:=a7 Tryz.f21 0 1) rfl rfl (.inr ⟨?_,rfl⟩) ?_
 ·have:(execOp (ev (dD 15 (a7 Tryz.f21 0 0).dst v (nh [pV b4,pV b5,pV b6]))) (a7 Tryz.f21 0 1)).run Tryz.prog w= .ok (.value v) w:=by kernel_rfl
  rw[<-b.eval]at this;exact this
 have c:=b.put (a7 Tryz.f21 0 1).dst v;exact h _ _ c (by rw[BE,BE]) bl bl bl bl
theorem abG(b4 b5 b6:Nat)(w:World):CallsD Tryz.prog 21 #[pV b4,pV b5,pV b6] .returning w fun e l w'=>e= .returned (.tuple #[])/\l= .returning/\w'=w:=by
 refine callsD_of_wpS (c:=hH Tryz.f21) Tryz.func21 bl fun g cs i=>?_;refine TV (v:=.nilIface) (nW:=g::cs) (.inr ⟨by simp[recoverD,i],rfl,rfl⟩) fun T a h hd _ _ _ j=>?_;obtain⟨A,k⟩:=ab5;rw[k];refine wpS_of_wp (wp_seq (wp_region ?_));show wpOps _ _ _ [0,1] a w;have b:dY 15 (jy T.z00 [(3,.nilIface)]) a:=oY h ⟨j,ao⟩;refine wpOps_cons (o:=a7 Tryz.f21 1 0) rfl rfl ?_;unfold Oper.wp;rw[b.eval,show(execOp (ev (jy T.z00 [(3,.nilIface)])) (a7 Tryz.f21 1 0)).run Tryz.prog w= .ok (.value .nilIface) w by kernel_rfl,Oper.upon_value];have d:=b.put (a7 Tryz.f21 1 0).dst .nilIface;refine wpOps_cons (o:=a7 Tryz.f21 1 1) rfl rfl ?_;unfold Oper.wp;rw[d.eval,show(execOp (ev (dD 15 (a7 Tryz.f21 1 0).dst .nilIface (jy T.z00 [(3,.nilIface)]))) (a7 Tryz.f21 1 1)).run Tryz.prog w= .ok (.value (.bool false)) w by kernel_rfl,Oper.upon_value];have f:=d.put (a7 Tryz.f21 1 1).dst (.bool false);show Code.wp _ _ _ _ _;refine wp_cond (t:=false) ?_ (wp_skip ?_)
 ·rw[f.eval];kernel_rfl
 ·refine⟨by rw[BE,BE];exact hd,.returning,?_,.tuple #[],bl,rfl,rfl,rfl⟩;rw[<-i]
theorem abH{b4 b5 b6:Nat}{p e:Int}{F:ah}{I:a8}{w:World}(hs:Sat I (bC (oi.pre ⟨b4,b5,b6,p,e⟩++[F])) w):CallsD Tryz.prog 21 #[pV b4,pV b5,pV b6] (.panicking [⟨iG p e,false,false⟩]) w fun i l w'=>i= .returned (.tuple #[])/\l= .panicking [⟨iG p e,true,false⟩]/\∃J,a8.le I J/\Sat J (bC (oi.post ⟨b4,b5,b6,p,e⟩ ()++[F])) w'/\cv w w':=by
 refine callsD_of_wpS (c:=hH Tryz.f21) Tryz.func21 bl fun b cs C=>?_;refine TV (v:=iG p e) (nW:={b with mode:=.panicking [⟨iG p e,true,false⟩]}::cs) (.inl (by simp[recoverD,C])) fun T a h hd u y z A=>?_;have m:=ail ⟨b4,b5,b6,p,e⟩ F trivial trivial;unfold qp at m;have B:=SU (V:={X:=Unit,P:=fun _=>True,mu:=fun _=>0,lv:=fun _=>[(0,.pointer (some ⟨b4,0,none⟩)),(1,.pointer (some ⟨b5,0,none⟩)),(2,.pointer (some ⟨b6,0,none⟩)),(3,iG p e)],st:=fun _=>[F,.cells b4 [.slice none 0 0] 25,.cells b5 [.int .i64 0] 3,.cells b6 [.int .i64 0] 26]}) bl rfl (show E _ _ _ (.seq .skip (i_ 1 (hH Tryz.f21))) _ _ _ _ from m) () T.z00 trivial;refine wpS_of_wp (CR bl _ _ B (oY h ⟨u,y,z,A,ao⟩) hd (hs.pick [3,0,1,2] rfl rfl) fun x r w' f=>?_);obtain⟨T',S',J,g1,s,g3,g4,t,d⟩:=f;have fin:rd Tryz.prog S' (jG OJ T') [] (fun v=>ar oi ⟨b4,b5,b6,p,e⟩ F (.returned v) S')->bodyPostS Tryz.prog Tryz.f21 b cs (fun i l w'=>i= .returned (.tuple #[])/\l= .panicking [⟨iG p e,true,false⟩]/\∃J,a8.le I J/\Sat J (bC (oi.post ⟨b4,b5,b6,p,e⟩ ()++[F])) w'/\cv w w') .normal r ({b with mode:=.panicking [⟨iG p e,true,false⟩]}::cs) w':=by
  intro d;obtain⟨v,n,⟨⟨_,_,o,g⟩⟩⟩:=vu g4 _ _ _ d;obtain⟨q,j,k⟩:=g.h J w' g4;exact⟨s,_,rfl,.tuple #[],bl,rfl,rfl,q,a8.le_trans g3 j,k,t⟩
 cases x with
 |normal=>exact fin d
 |ret=>exact fin d
 |panic D=>
  obtain⟨_,⟨⟨_,_,o,_⟩⟩⟩:=d;cases o
 |_=>exact d.elim
structure Lo where
 K:bR
 src:ByteArray
 n:Nat
def km(K:bR)(src:ByteArray):cj:=⟨0,none,0,(cH K src).1,src.size⟩
def oL(K:bR)(src:ByteArray):Prop:=src.size>8192\/0<=(cH K src).2
def cn(M:bR->cj->Nat->PM Unit)(K:bR)(src:ByteArray)(n:Nat):List bP×Int×Int:=
 bif decide (src.size>8192)||decide (0<=(cH K src).2) then ([],(iU K src).1,(iU K src).2)
 else match M K (km K src) n dC with
  | .ok _ t=>((oM t.nodes).1,0,(oM t.nodes).2)
  | .stop p e _=>([],p,e)
  | .out=>([],0,0)
def tL(bJ:FuncId)(M:bR->cj->Nat->PM Unit):aR where
 X:=Lo
 Y:=ew
 args x:=[.string x.src,.func (.func bJ) #[] #[]]
 cond x:=aD 72 (oe x.K)/\aD bJ (nc M)/\(¬oL x.K x.src->gS x.K (km x.K x.src)/\M x.K (km x.K x.src) x.n dC≠.out)
 aO x F:=eQ x.K F/\iJ F
 b_ x y:=y.ok (cn M x.K x.src x.n).1/\kM (cn M x.K x.src x.n).1 y.vs
 val x y:=.returned (.tuple #[.agg #[.slice y.r.a y.r.n y.r.cap],.int .i64 (cn M x.K x.src x.n).2.1,.int .i64 (cn M x.K x.src x.n).2.2])
 post x y:=[y.r.A,(eD (cn M x.K x.src x.n).1 y.vs)]
theorem OE{M:bR->cj->Nat->PM Unit}{K:bR}{src:ByteArray}{n:Nat}(h:oL K src):cn M K src n=([],(iU K src).1,(iU K src).2):=by
 unfold cn;have:(decide (src.size>8192)||decide (0<=(cH K src).2))=true:=by
  rcases h with h|h <;> simp[h]
 rw[this];rfl
theorem D4{M:bR->cj->Nat->PM Unit}{K:bR}{src:ByteArray}{n:Nat}(h:¬oL K src):cn M K src n=match M K (km K src) n dC with
  | .ok _ t=>((oM t.nodes).1,0,(oM t.nodes).2)
  | .stop p e _=>([],p,e)
  | .out=>([],0,0):=by
 unfold cn;have:(decide (src.size>8192)||decide (0<=(cH K src).2))=false:=by
  rw[Bool.or_eq_false_iff,decide_eq_false_iff_not,decide_eq_false_iff_not];exact⟨fun e=>h (.inl e),fun e=>h (.inr e)⟩
 rw[this];rfl
def K8(M:bR->cj->Nat->PM Unit):Prop:=∀(K:bR)(b d:Nat)(la a:Option Addr)(lc c:Nat)(L:List bh)(fin:Int)(n:Nat),M K ⟨b,la,lc,L,fin⟩ n=M K ⟨d,a,c,L,fin⟩ n
theorem aiA:K8 cf:=fun _ _ _ _ _ _ _ _ _ _=>rfl
theorem acU:K8 cL:=fun _ _ _ _ _ _ _ _ _ _=>rfl
def OI(bJ:FuncId)(M:bR->cj->Nat->PM Unit):Prop:=∃H:kN->ah->jj,(∀x F,(qG (i_ 5 lJ)).bind (H x F).cut=HW bJ x F 6)/\∀(x:kN)(F:ah),(e6 bJ M).cond x->(e6 bJ M).aO x F->qp Tryz.prog 45 tK (H x F) vv (hH tK) (nh ((e6 bJ M).args x)) (bC ((e6 bJ M).pre x++[F])) (BA x) (ar (e6 bJ M) x F)
theorem ahw:OI 16 cf:=⟨Wr,fun _ _=>bl,ahx⟩
theorem ahp:OI 13 cL:=⟨Wq,fun _ _=>bl,ahq⟩
theorem ab3:Tryz.f12.body=some (.seq (nV lJ) (.seq (nV (i_ 1 lJ)) (.seq (nV (i_ 2 lJ)) (.seq (nV (i_ 3 lJ)) (.seq (nV (i_ 4 lJ)) (i_ 5 lJ)))))):=bl
theorem aiD{bJ:FuncId}{M:bR->cj->Nat->PM Unit}{x:kN}{F:ah}{I:a8}{w:World}{R:Ending->World->Prop}
  (q:∀a w' J,(e6 bJ M).b_ x (.inl a)->a8.le I J->Sat J (bC ((e6 bJ M).post x (.inl a)++[F])) w'->cv w w'->R ((e6 bJ M).val x (.inl a)) w')
  (o:∀p e w' J,(e6 bJ M).b_ x (.inr (p,e))->a8.le I J->Sat J (bC [F]) w'->cv w w'->R (.returned (.tuple #[.agg #[.slice none 0 0],.int .i64 p,.int .i64 e])) w'):
  ∀e d w',e9 45 I w [TU x.b4 x.b5 x.b6] ((fun e T S=>match e with
  | .normal=>match BA x with| []=>True|_::_=>rd Tryz.prog S (jG tK T) vv fun v=>ar (e6 bJ M) x F (.returned v) S
  | .ret=>rd Tryz.prog S (jG tK T) vv fun v=>ar (e6 bJ M) x F (.returned v) S
  | .panic B=>ji T (BA x)/\ar (e6 bJ M) x F (.panicked B) S
  |_=>False:Exit->Tm->St->Prop) e) d w'->bodyPostD Tryz.prog Tryz.f12 R e d w':=by
 intro e d w' m;obtain⟨T',S',J,g1,C,g3,g4,D,l⟩:=m;have fin:rd Tryz.prog S' (jG tK T') vv (fun v=>ar (e6 bJ M) x F (.returned v) S')->Leaves Tryz.prog Tryz.f12 d.tmps R d.defers .returning w':=by
  intro l;obtain⟨v,h,⟨⟨y,j,i,b⟩⟩⟩:=vu g4 _ _ _ l;obtain⟨A,k,c⟩:=b.h J w' g4;rw[C];refine leaves_cons aL (f:=21) (args:=#[pV x.b4,pV x.b5,pV x.b6]) bl ((abG _ _ _ _).mono ?_);rintro _ _ s ⟨rfl,rfl,t⟩;replace t:=t.symm;subst t;have g:(results Tryz.f12 d.tmps).run Tryz.prog w'= .ok v w':=by
   rw[show results Tryz.f12 d.tmps=results tK d.tmps from rfl,Cr g1];exact h
  match y,j,i,c with
  | .inl a,j,i,c=>exact⟨v,g,i▸q a w' A j (a8.le_trans g3 k) c D⟩
  | .inr a,j,i,c=>cases i
 cases e with
 |normal=>exact fin l
 |ret=>exact fin l
 |panic B=>
  obtain⟨G,⟨⟨y,j,i,b⟩⟩⟩:=l
  match y,j,i,b with
  | .inl a,j,i,b=>cases i
  | .inr (p,e),j,i,b=>
   obtain⟨A,k,c⟩:=b.h J w' g4;cases i;show Leaves Tryz.prog Tryz.f12 d.tmps R d.defers _ w';rw[C];refine leaves_cons aL (f:=21) (args:=#[pV x.b4,pV x.b5,pV x.b6]) bl ((abH (F:=F) (p:=p) (e:=e) c).mono ?_);rintro _ _ s ⟨rfl,rfl,E,n,r,u⟩;have z:rd Tryz.prog (bC (oi.post ⟨x.b4,x.b5,x.b6,p,e⟩ ()++[F])) (jG Tryz.f12 (jy T'.z00 (BA x))) [.z00 0,.z00 1,.z00 2] (fun v=>v= .tuple #[.agg #[.slice none 0 0],.int .i64 p,.int .i64 e]):=by
    exact Eq.mpr (show _=(ed ⟨x.b4,0,none⟩ x.b4/\ed ⟨x.b5,0,none⟩ x.b5/\ed ⟨x.b6,0,none⟩ x.b6/\(tuple #[.agg #[.slice none 0 0],.int .i64 p,.int .i64 e]= .tuple #[.agg #[.slice none 0 0],.int .i64 p,.int .i64 e])) by kernel_rfl) ⟨al,al,al,rfl⟩
   obtain⟨v,h,rfl⟩:=vu r _ _ _ z;have g:(results Tryz.f12 d.tmps).run Tryz.prog s= .ok (.tuple #[.agg #[.slice none 0 0],.int .i64 p,.int .i64 e]) s:=by
    rw[Cr (oY g1 G)];exact h
   exact⟨_,g,o p e s E j (a8.le_trans g3 (a8.le_trans k n)) (r.pick [3] rfl rfl) (D.trans u)⟩
 |_=>exact l.elim
theorem OM{bJ:FuncId}{M:bR->cj->Nat->PM Unit}{K:bR}{src:ByteArray}{n:Nat}{F:ah}{I J:a8}{w w':World}{ns:List bP}{p e:Int}{y:ew}(b:cn M K src n=(ns,p,e))(d:y.ok ns)(hk:kM ns y.vs)(a:a8.le I J)(hs:Sat J (bC [y.r.A,eD ns y.vs,F]) w')(c:cv w w'):
  ∃z J,(tL bJ M).b_ ⟨K,src,n⟩ z/\returned (.tuple #[.agg #[.slice y.r.a y.r.n y.r.cap],.int .i64 p,.int .i64 e])=(tL bJ M).val ⟨K,src,n⟩ z/\a8.le I J/\Sat J (bC ((tL bJ M).post ⟨K,src,n⟩ z++[F])) w'/\cv w w':=by
 refine⟨y,J,?_,?_,a,?_,c⟩
 ·show y.ok (cn M K src n).1/\kM (cn M K src n).1 y.vs;rw[b];exact⟨d,hk⟩
 ·show _=returned (.tuple #[.agg #[.slice y.r.a y.r.n y.r.cap],.int .i64 (cn M K src n).2.1,.int .i64 (cn M K src n).2.2]);rw[b]
 ·show Sat J (bC [y.r.A,eD (cn M K src n).1 y.vs,F]) w';rw[b];exact hs
theorem V4{J:a8}{F:ah}{w:World}(h:Sat J (bC [F]) w):∃a,a8.le J a/\Sat a (bC [dL.A,eD [] [],F]) w:=
 DF.h J w (h.pick [999,998,0] rfl rfl)
theorem Wx{bJ:FuncId}{M:bR->cj->Nat->PM Unit}(hM:K8 M)(hB:OI bJ M):aD 12 (tL bJ M):=⟨fun x F I w hc hr hs=>by
 obtain⟨K,src,n⟩:=x;obtain⟨UV,UW,UX⟩:=hc;dsimp only at UV UW UX;refine calls_of_wp_defers Tryz.func12 ab3 ?_;have hm:Tryz.prog.follows .mixedOrders=true:=by kernel_rfl
 have aew:=Ff (N:=45) [.string src,.func (.func bJ) #[] #[]] (Nat.le_of_ble_eq_true rfl);have hA:=aif ⟨K,src,bJ⟩ F UV hr.1;unfold qp at hA;have hQ:∀(I':a8)(w0:World),a8.le I I'->cv w w0->∀e u w',e≠Exit.normal->e9 45 I' w0 [] ((fun e T S=>match e with
  | .normal=>match OG ⟨K,src,bJ⟩with| []=>True|_::_=>rd Tryz.prog S (jG D9 T) vv fun v=>ar pW ⟨K,src,bJ⟩ F (.returned v) S
  | .ret=>rd Tryz.prog S (jG D9 T) vv fun v=>ar pW ⟨K,src,bJ⟩ F (.returned v) S
  | .panic ch=>ji T (OG ⟨K,src,bJ⟩)/\ar pW ⟨K,src,bJ⟩ F (.panicked ch) S
  |_=>False:Exit->Tm->St->Prop) e) u w'->bodyPostD Tryz.prog Tryz.f12 (fun e w'=>∃y J,(tL bJ M).b_ ⟨K,src,n⟩ y/\e=(tL bJ M).val ⟨K,src,n⟩ y/\a8.le I J/\Sat J (bC ((tL bJ M).post ⟨K,src,n⟩ y++[F])) w'/\cv w w') e u w':=by
  intro I' w0 aeh C e u w' hne adW;obtain⟨T',S',J,g1,g2,g3,g4,g5,g6⟩:=adW;cases e with
  |normal=>exact absurd rfl hne
  |ret=>
   obtain⟨v,aey,⟨⟨_,adX,Y,ad6⟩⟩⟩:=vu g4 _ _ _ g6;obtain⟨J',l,X⟩:=ad6.h J w' g4;obtain⟨J2,b,o⟩:=V4 X;show Leaves Tryz.prog Tryz.f12 u.tmps _ u.defers .returning w';rw[g2];refine⟨v,by rw[show results Tryz.f12 u.tmps=results D9 u.tmps from rfl,Cr g1];exact aey,?_⟩;have:=OM (bJ:=bJ) (M:=M) (K:=K) (src:=src) (n:=n) (y:=⟨dL,[]⟩) (OE adX) ⟨.nil rfl,rfl⟩ trivial (a8.le_trans aeh (a8.le_trans g3 (a8.le_trans l b))) o (C.trans g5);rw[Y];exact this
  |panic ch=>
   obtain⟨_,⟨⟨_,_,Y,_⟩⟩⟩:=g6;cases Y
  |_=>exact g6.elim
 refine XO hm (H:=Wt ⟨K,src,bJ⟩ F) (y:=.seq (nV (i_ 1 lJ)) (.seq (nV (i_ 2 lJ)) (.seq (nV (i_ 3 lJ)) (.region 5 #[] false)))) bl hA aew rfl hs (hQ I w (a8.le_refl I) (cv.refl w)) ?_;intro T1 S1 J1 a1 w1 hE1 O wy q hs1 j;refine wp_cut hm (V:=(OF ⟨K,src,bJ⟩ F 2).get rfl) bl rfl hE1 O wy hs1 (hQ J1 w1 q j) ?_;rintro d2 js2 J2 a2 w2 U7 hE2 P hd2 b X D;have m:=a8.le_trans q b;have f:=j.trans D;refine XO hm (y:=.seq (nV (i_ 3 lJ)) (.region 5 #[] false)) bl hE2 P hd2 X (hQ J2 w2 m f) ?_;intro T3 S3 J3 a3 w3 hE3 Q hd3 aei o G;have d:=a8.le_trans m aei;have a:=f.trans G;refine wp_cut hm (V:=(OF ⟨K,src,bJ⟩ F 5).get rfl) bl rfl hE3 Q hd3 o (hQ J3 w3 d a) ?_;rintro⟨b4,b5,b6,b8,r⟩ js5 J5 a5 w5 c-R hd5 s hs5 k;replace c:pz.iy ⟨K,src,bJ⟩ r:=c;obtain⟨q1,q2,q3,q4⟩:=c;dsimp only at q1 q2 q3 q4;have L:¬oL K src:=by
  rintro(h|h) <;> omega
 obtain⟨hP,ho⟩:=UX L;refine wp_seq (alu R (b4:=b4) (b5:=b5) (b6:=b6) rfl rfl rfl fun T6 a6 hd6 U g=>?_);obtain⟨H,B,A⟩:=hB;have hP':gS K ⟨b8,r.a,r.cap,(cH K src).1,src.size⟩:=⟨⟨hP.num,hP.KN,hP.len,hP.KQ⟩,hP.d_⟩;have z:M K ⟨b8,r.a,r.cap,(cH K src).1,src.size⟩ n=M K (km K src) n:=hM K _ _ _ _ _ _ _ _ _;have hb:=A ⟨K,⟨b8,r.a,r.cap,(cH K src).1,src.size⟩,n,b4,b5,b6,r⟩ F ⟨UW,hP',by dsimp only;rw[z];exact ho,q3,rfl⟩ hr;unfold qp at hb;have hE:=SU (V:=(HW bJ ⟨K,⟨b8,r.a,r.cap,(cH K src).1,src.size⟩,n,b4,b5,b6,r⟩ F 6).get rfl) (B _ _) rfl (show E _ _ _ (.seq .skip (i_ 5 lJ)) _ _ _ _ from hb) () T6.z00 trivial;refine CR hm _ _ hE (oY U ⟨(g 1 (by decide)).trans rfl,(g 4 (by decide)).trans rfl,(g 5 (by decide)).trans rfl,(g 6 (by decide)).trans rfl,(g 8 (by decide)).trans rfl,ao⟩) (hd6.trans (by rw[hd5])) (hs5.pick [0,1,2,3,4,5] rfl rfl) (aiD ?_ ?_)
 ·rintro⟨ns,e,y⟩ w' J ⟨⟨t,Z,h2⟩,hy,hk⟩ l W i;dsimp only at Z h2 hy hk;have Y:cn M K src n=(ns,0,e):=by
   rw[D4 L,<-z,Z];dsimp only;rw[h2]
  exact OM Y hy hk (a8.le_trans d (a8.le_trans s l)) W ((a.trans k).trans i)
 ·intro p e w' J ⟨t,Z⟩ l W i;dsimp only at Z;have Y:cn M K src n=([],p,e):=by
   rw[D4 L,<-z,Z]
  obtain⟨J2,b,o⟩:=V4 W;exact OM (y:=⟨dL,[]⟩) Y ⟨.nil rfl,rfl⟩ trivial (a8.le_trans d (a8.le_trans s (a8.le_trans l b))) o ((a.trans k).trans i)⟩
end
section
open Go
theorem ali(c:Nat):(iI c).length<=4:=by
 unfold iI;cases decide (c>65535) <;> (dsimp only[aU,aN];simp)
theorem aku(s:ByteArray)(mark:Nat):∀(f i:Nat)(o:List Nat)(j:Nat)(u:List Nat),i<=s.size->kH s mark f i o=(j,some u)->u.length+4*i<=o.length+4*j:=by
 intro f
 induction f with
 |zero=>intro i o j u _ h;cases h
 |succ f m=>
  intro i o j u hi h;rw[kH]at h;cases hn:c7 s i with
  |none=>rw[hn]at h;cases h
  |some g=>
   obtain⟨c,n⟩:=g;obtain⟨a,f2,f3⟩:=kV hn;rw[hn]at h;dsimp only at h;cases b:(c==10||c==13)with
   |true=>rw[b]at h;cases h
   |false=>
    rw[b,aN]at h;cases l:c==mark with
    |true=>
     grind
    |false=>
     rw[l,aN]at h;cases d:c==92 with
     |true=>
      rw[d,aU]at h;rcases e:eI s (i+n)with⟨k,_|v⟩
      ·grind
      ·rw[e]at h;obtain⟨q1,q2,q3⟩:=DG e a;grind
     |false=>
      rw[d,aN]at h;have:=m (i+n) (o++iI c) j u a h;have p:=ali c;grind
def C1(s:ByteArray)(x:bh):Prop:=0<=x.pos/\x.pos<=s.size/\x.text.size<=4*s.size+3
variable{s:ByteArray}{num:Nat->Nat}
theorem afM{i k:Nat}{aI:Bool}{d:bh}(hi:i<s.size)(h:gn num s i aI=(k,some d)):C1 s d:=by
 cases hl:fX (bt s i)with
 |true=>
  rw[D0 hl]at h;cases h;refine⟨Int.natCast_nonneg _,by grind,?_⟩;dsimp only;rw[hT];omega
 |false=>
  cases hn:iA s i with
  |true=>
   rw[D1 hl hn]at h;cases e:(ea s i).2 with
   |false=>rw[e]at h;cases h
   |true=>
    rw[e]at h;cases h;exact⟨Int.natCast_nonneg _,by grind,dq _⟩
  |false=>
   cases f:(bt s i==34||bt s i==39)with
   |true=>
    rw[D2 hl hn f]at h;have b:=Xo s (bt s i) (s.size+1) (i+1) [] hi;unfold lh at h;rcases c:kH s (bt s i) (s.size+1) (i+1) []with⟨j,_|u⟩
    ·grind
    ·have l:=aku s (bt s i) (s.size+1) (i+1) [] j u hi c;rw[c]at h b;cases h;refine⟨Int.natCast_nonneg _,by grind,?_⟩;dsimp only at b⊢;rw[r8];grind
   |false=>
    rw[Bx hl hn f]at h;cases a:fh.find? (fun m=>dx s i (dP m))with
    |none=>rw[a]at h;cases h
    |some m=>
     rw[a]at h;cases h;have g:∀m∈fh,m.size<=3:=by decide+kernel
     have:=g m (List.mem_of_find?_eq_some a);exact⟨Int.natCast_nonneg _,by grind,by grind⟩
theorem afL:∀(f i:Nat)(aI:Bool)(o r:List bh)(p:Int),i<=s.size->(∀x∈o,C1 s x)->jv num s f i aI o=(r,p)->p<0->p= -1/\(∀x∈r,C1 s x)/\r.length+i<=o.length+s.size:=by
 intro f
 induction f with
 |zero=>
  intro i aI o r p _ _ h hp;cases h;omega
 |succ f n=>
  intro i aI o r p hi v h hp;rw[jv]at h;have c:=Na s (s.size+1) i aI hi;rcases g:cT s (s.size+1) i aI with⟨q,j,l⟩;rw[g]at h c;dsimp only at h c;cases m:decide (q>=0)with
  |true=>
   grind
  |false=>
   rw[m,aN]at h;cases b:j==s.size with
   |true=>
    grind
   |false=>
    rw[b,aN]at h;have b:=ff.1 b;rcases a:gn num s j l with⟨k,_|d⟩
    ·grind
    ·rw[a]at h;dsimp only at h;have t:=afM ae a;have e:=Ou ae a;have u:=n k false (o++[d]) r p e.2 (fun x hx=>?_) h hp
     all_goals grind
theorem Vz(h:(uY num s).2<0):(uY num s).2= -1/\(∀x∈(uY num s).1,C1 s x)/\(uY num s).1.length<=s.size:=by
 unfold uY at h⊢;rcases a:jv num s (s.size+1) 0 false []with⟨r,p⟩;rw[a]at h;have:=afL _ _ _ _ _ _ (dq _) (fun x hx=>by simp at hx) a h;grind
end
section
open Go
structure lS(K:bR):Prop where
 num:aD 72 (oe K)
 KQ:aD 122 (DZ K)
 KN:∀n,(K.tv n).size<=1048576
theorem lS.Bl{K:bR}{src:ByteArray}(a:¬oL K src):src.size<=8192/\(cH K src).2= -1/\(∀x∈(cH K src).1,C1 src x)/\(cH K src).1.length<=src.size:=by
 have c:¬src.size>8192:=fun e=>a (.inl e);have b:¬0<=(cH K src).2:=fun e=>a (.inr e);exact⟨ae,Vz (by unfold cH at b;omega)⟩
theorem lS.OC{K:bR}(h:lS K){src:ByteArray}(b:¬oL K src):gS K (km K src):=by
 obtain⟨c,f,a,g⟩:=lS.Bl b;refine⟨⟨h.KQ,h.KN,?_,fun i d e=>?_⟩,⟨Int.natCast_nonneg _,fun x hx=>⟨(a x hx).1,(a x hx).2.1⟩⟩⟩
 ·show(cH K src).1.length<=_;omega
 ·have:=(a d (nk e)).2.2;omega
def cF(K:bR)(src:ByteArray):Nat:=24*(cH K src).1.length+40
theorem D_{K:bR}{src:ByteArray}:cf K (km K src) (cF K src) dC≠.out:=by
 intro e;have h:=Ll (L:=(cH K src).1) (fin:=src.size) (aJ:=K.tv) (wide:=bx) (cF K src) (.prog []) dC trivial (by unfold cF left dC aq.e7;dsimp only;omega);unfold TP at h;unfold cf at e;have b:bS (P (cH K src).1 src.size K.tv bx (cF K src) (.prog [])) (fun _=>ret ()) dC= .out:=e;unfold bS at b;revert h b;cases P (cH K src).1 src.size K.tv bx (cF K src) (.prog []) dC with
 |ok a t=>intro _ e;cases e
 |stop p q t=>intro _ e;cases e
 |out=>intro h;exact h.elim
theorem acV{K:bR}{src:ByteArray}:cL K (km K src) (cF K src) dC≠.out:=by
 intro e;have h:=Ll (L:=(cH K src).1) (fin:=src.size) (aJ:=K.tv) (wide:=bx) (cF K src) .bf dC trivial (by unfold cF left dC aq.e7;dsimp only;omega);unfold TP at h;have b:bS (P (cH K src).1 src.size K.tv bx (cF K src) .bf) (fun _=>eZ>>=fun s=>bif decide (s.i<(cH K src).1.length) then kj (cH K src).1 src.size else ret ()) dC= .out:=e;unfold bS at b;revert h b;cases P (cH K src).1 src.size K.tv bx (cF K src) .bf dC with
 |ok a t=>
  intro _ e;have e:(bif decide (t.i<(cH K src).1.length) then (kj (cH K src).1 src.size:PM Unit) else ret ()) t= .out:=e;revert e;cases decide (t.i<(cH K src).1.length) <;> (intro e;cases e)
 |stop p q t=>intro _ e;cases e
 |out=>intro h;exact h.elim
structure nU where
 K:bR
 src:ByteArray
def nH(M:bR->cj->Nat->PM Unit):aR where
 X:=nU
 Y:=ew
 args x:=[ai x.src]
 cond x:=lS x.K
 aO x F:=eQ x.K F/\iJ F
 b_ x y:=y.ok (cn M x.K x.src (cF x.K x.src)).1/\kM (cn M x.K x.src (cF x.K x.src)).1 y.vs
 val x y:=.returned (.tuple #[.agg #[.slice y.r.a y.r.n y.r.cap],.int .i64 (cn M x.K x.src (cF x.K x.src)).2.1,.int .i64 (cn M x.K x.src (cF x.K x.src)).2.2])
 post x y:=[y.r.A,(eD (cn M x.K x.src (cF x.K x.src)).1 y.vs)]
def Xm(bJ:FuncId)(M:bR->cj->Nat->PM Unit)(b:nU)(a:ah):List (Nat×Nat×OH):=[(0,0,.n 1000),(1,1,.c (tL bJ M) [] [1,2]),(1,5,.w [.z00 1000])]
def WK:List LH:=[.z00 1000]
def B3(F:ah)(c:Nat):=aH [(0,F),(1000,af c eR 25)] []
def kY(a:ew):List Value:=[au a.r.a a.r.n a.r.cap]
theorem akw(x:nU)(F:ah)(d:(nH cf).cond x)(h:(nH cf).aO x F):∀(c:Nat),aD 12 (tL (16:FuncId) cf)/\true=true/\∃(b:Lo),[ai x.src,func (Fn.func 16) ⟨[]⟩ ⟨[]⟩]=[ai b.src,func (Fn.func 16) ⟨[]⟩ ⟨[]⟩]/\([]:List ah)=[]/\(aD 72 (oe b.K)/\aD 16 (nc cf)/\(¬oL b.K b.src->gS b.K (km b.K b.src)/\cf b.K (km b.K b.src) b.n dC≠PR.out))/\(eQ b.K (B3 F c)/\iJ (B3 F c))/\∀(a:ew),(a.ok (cn cf b.K b.src b.n).fst/\kM (cn cf b.K b.src b.n).fst a.vs)->aw c 0/\aw c 0/\ar (nH cf) x F (ay (tuple ⟨[agg ⟨kY a⟩,ad (cn cf b.K b.src b.n).snd.fst,ad (cn cf b.K b.src b.n).snd.snd]⟩)) [(0,F),(1,a.r.A),(2,dU (Kf.rest (cn cf b.K b.src b.n).fst a.vs)),(1000,af c (kY a) 25)]:=by
 delta eR B3 kY aH aw ad ai au af dU ay;obtain⟨K,src⟩:=x;replace d:lS K:=d;obtain⟨e,f⟩:=h;intro b;exact bs (Wx aiA ahw) ⟨K,src,cF K src⟩ ⟨d.num,abZ,fun g=>⟨d.OC g,D_⟩⟩ ⟨eQ.sub e (bU 0),iJ.sub f (bU 0)⟩ fun y i=>⟨al,al,y,i,rfl,aA [1,2,0]⟩
theorem KM:aD 10 (nH cf):=fo 10 Tryz.func10 (Xm 16 cf) [] aY aY bA WK akw
theorem akt(x:nU)(F:ah)(d:(nH cL).cond x)(h:(nH cL).aO x F):∀(c:Nat),aD 12 (tL (13:FuncId) cL)/\true=true/\∃(b:Lo),[ai x.src,func (Fn.func 13) ⟨[]⟩ ⟨[]⟩]=[ai b.src,func (Fn.func 13) ⟨[]⟩ ⟨[]⟩]/\([]:List ah)=[]/\(aD 72 (oe b.K)/\aD 13 (nc cL)/\(¬oL b.K b.src->gS b.K (km b.K b.src)/\cL b.K (km b.K b.src) b.n dC≠PR.out))/\(eQ b.K (B3 F c)/\iJ (B3 F c))/\∀(a:ew),(a.ok (cn cL b.K b.src b.n).fst/\kM (cn cL b.K b.src b.n).fst a.vs)->aw c 0/\aw c 0/\ar (nH cL) x F (ay (tuple ⟨[agg ⟨kY a⟩,ad (cn cL b.K b.src b.n).snd.fst,ad (cn cL b.K b.src b.n).snd.snd]⟩)) [(0,F),(1,a.r.A),(2,dU (Kf.rest (cn cL b.K b.src b.n).fst a.vs)),(1000,af c (kY a) 25)]:=by
 delta eR B3 kY aH aw ad ai au af dU ay;obtain⟨K,src⟩:=x;replace d:lS K:=d;obtain⟨e,f⟩:=h;intro b;exact bs (Wx acU ahp) ⟨K,src,cF K src⟩ ⟨d.num,abU,fun g=>⟨d.OC g,acV⟩⟩ ⟨eQ.sub e (bU 0),iJ.sub f (bU 0)⟩ fun y i=>⟨al,al,y,i,rfl,aA [1,2,0]⟩
theorem Xn:aD 7 (nH cL):=fo 10 Tryz.func7 (Xm 13 cL) [] aY aY bA WK akt
end
section
open Go
theorem kOk:lS Nn:=
 ⟨ag9 abR Sy (fun _ h=>h.1) (fun _ h=>h.2.1) rfl,akL ⟨Sy,fun i _=>Xl i⟩ rfl (fun _ h=>h.2.2),fun n=>hO (akB ⟨Sy,fun i _=>Xl i⟩ n) (by decide)⟩
theorem akb:ownKnob Tryz.prog.godebug=none:=bl
theorem aj9:laidOutB Tryz.prog=true:=bl
end
section
open Go
def rZ:ByteArray:=⟨#[49,43,50,42,51]⟩
def uI:ByteArray:=⟨#[118,97,114,32,120,32,61,32,49,10,120,43,43]⟩
def Dx:ByteArray:=⟨#[97,43,49,32,61,32,50]⟩
section
set_option maxRecDepth 100000
theorem aa4(K:bR):(cn cL K rZ (cF K rZ)).2=(0,0):=bl
theorem aa3(K:bR):(cn cL K rZ (cF K rZ)).1.length=5:=bl
theorem aa1(K:bR):((cn cL K rZ (cF K rZ)).1[3]?).map (·.op)=some ⟨#[42]⟩:=bl
theorem aa2(K:bR):((cn cL K rZ (cF K rZ)).1[4]?).map (·.aB)=some [0,3]:=bl
theorem aa7(K:bR):(cn cf K uI (cF K uI)).2=(0,0):=bl
theorem aa6(K:bR):(cn cf K uI (cF K uI)).1.length=7:=bl
theorem aa5(K:bR):((cn cf K uI (cF K uI)).1[6]?).map (·.kind)=some 37:=bl
theorem aa8(K:bR):(cn cL K Dx (cF K Dx)).2=(0,61):=bl
end
theorem map_some{α β:Type}{f:α->β}{o:Option α}{b:β}(h:o.map f=some b):∃a,o=some a/\f a=b:=by
 cases o with
 |none=>cases h
 |some a=>exact⟨a,rfl,by simpa using h⟩
variable{t:Bool}{A B:Prop}
theorem wm(h:t=true)(a:A):Br t A B:=by subst h;exact a
theorem qA(h:t=false)(b:B):Br t A B:=by subst h;exact b
theorem DX{y:ew}{ns:List bP}(f:y.ok ns){rb i:Nat}{d:bP}(hk:kM ns y.vs)(e:y.r.a=some ⟨rb,0,none⟩)(hd:ns[i]?=some d):∃a n cap,y.vs[i]?=some (.slice a n cap)/\jk 1 (bB d.aB) a n/\n=d.aB.length/\aQ y.r.A ⟨rb,0+i*5+3,none⟩ (.slice a n cap):=by
 obtain⟨v,c,a,n,cap,rfl,hs⟩:=GJ hk i d hd;have hn:n=d.aB.length:=by
  have:=hs.len;unfold bB at this;rw[List.length_map]at this;omega
 refine⟨a,n,cap,c,hs,hn,?_⟩;have b:=f.1.CB;rw[e]at b;have:=b.look (G3 ns y.vs i 3 d _ _ hd c rfl);rw[Nat.add_assoc];exact this
structure K3 where
 K:bR
def oK:aR where
 X:=K3
 args _:=[]
 cond x:=lS x.K
 aO x F:=eQ x.K F/\iJ F
 val _ _:=ay (aj true)
def Mv(aa:List Value)(rr:ah)(b:nU->ew->Prop):=aD 7 (nH cL)/\true=true/\∃(z:nU),aa=[ai z.src]/\([]:List ah)=[]/\lS z.K/\(eQ z.K rr/\iJ rr)/\∀(a:ew),a.ok (cn cL z.K z.src (cF z.K z.src)).fst/\kM (cn cL z.K z.src (cF z.K z.src)).fst a.vs->b z a
def AK(aa:List Value)(rr:ah)(b:nU->ew->Prop):=aD 10 (nH cf)/\true=true/\∃(z:nU),aa=[ai z.src]/\([]:List ah)=[]/\lS z.K/\(eQ z.K rr/\iJ rr)/\∀(a:ew),a.ok (cn cf z.K z.src (cF z.K z.src)).fst/\kM (cn cf z.K z.src (cF z.K z.src)).fst a.vs->b z a
def q8(F:ah)(r:ew)(s:nU)(o:ew)(p:nU)(l:ew)(m:nU)(q n k:Nat):=[(0,F),(11,r.r.A),(12,dU (Kf.rest (cn cL s.K s.src (cF s.K s.src)).fst r.vs)),(21,o.r.A),(22,dU (Kf.rest (cn cf p.K p.src (cF p.K p.src)).fst o.vs)),(31,l.r.A),(32,dU (Kf.rest (cn cL m.K m.src (cF m.K m.src)).fst l.vs)),(2050,af q (kY r) 25),(3050,af n (kY o) 25),(4050,af k (kY l) 25)]
theorem aa_(x:K3)(F:ah)(C:oK.cond x)(Y:oK.aO x F):Mv [ai ⟨#[49,43,50,42,51]⟩] (cP F) (fun s r=>∀(q:Nat),aw q 0/\AK [ai ⟨#[118,97,114,32,120,32,61,32,49,10,120,43,43]⟩] (aH [(0,F),(11,r.r.A),(12,dU (Kf.rest (cn cL s.K s.src (cF s.K s.src)).fst r.vs)),(2050,af q (kY r) 25)] []) (fun p o=>∀(n:Nat),aw n 0/\Mv [ai ⟨#[97,43,49,32,61,32,50]⟩] (aH [(0,F),(11,r.r.A),(12,dU (Kf.rest (cn cL s.K s.src (cF s.K s.src)).fst r.vs)),(21,o.r.A),(22,dU (Kf.rest (cn cf p.K p.src (cF p.K p.src)).fst o.vs)),(2050,af q (kY r) 25),(3050,af n (kY o) 25)] []) (fun m l=>∀(k:Nat),aw k 0/\Br ((cn cL s.K s.src (cF s.K s.src)).snd.snd==0) (Br ((cn cf p.K p.src (cF p.K p.src)).snd.snd==0) (Br ((cn cL m.K m.src (cF m.K m.src)).snd.snd==61) (Br ((cn cL m.K m.src (cF m.K m.src)).snd.fst==0) (aw q 0/\Br ((r.r.n:Int)==5) (aw q 0/\iP (a7 Tryz.f6 4 23) [au r.r.a r.r.n r.r.cap,ad 3] (fun j=>T2 r.r.A ⟨j.b,j.o+j.n.toNat*5+1,none⟩ (fun i=>Br (i.toList==(ByteArray.mk #[42]).toList) (aw q 0/\iP (a7 Tryz.f6 4 31) [au r.r.a r.r.n r.r.cap,ad 4] (fun h=>eA r.r.A ⟨h.b,h.o+h.n.toNat*5+3,none⟩ (fun g f e=>i6 (a7 Tryz.f6 4 34) [au g f e,ad 1] (fun d=>T1 (dU (Kf.rest (cn cL s.K s.src (cF s.K s.src)).fst r.vs)) ⟨d.b,d.o+d.n.toNat*1,none⟩ (fun c=>Br (c==3) (aw n 0/\Br ((o.r.n:Int)==7) (aw n 0/\iP (a7 Tryz.f6 4 47) [au o.r.a o.r.n o.r.cap,ad 6] (fun b=>T1 o.r.A ⟨b.b,b.o+b.n.toNat*5,none⟩ (fun a=>ar oK x F (ay (aj (a==37))) (q8 F r s o p l m q n k)))) (ar oK x F cQ (q8 F r s o p l m q n k))) (ar oK x F cQ (q8 F r s o p l m q n k))))))) (ar oK x F cQ (q8 F r s o p l m q n k))))) (ar oK x F cQ (q8 F r s o p l m q n k))) (ar oK x F cQ (q8 F r s o p l m q n k))) (ar oK x F cQ (q8 F r s o p l m q n k))) (ar oK x F cQ (q8 F r s o p l m q n k))) (ar oK x F cQ (q8 F r s o p l m q n k))))):=by
 delta Mv cP AK kY iP T2 eA i6 T1 q8 dk cQ aH aw ad ai aj au af dU ay;obtain⟨K⟩:=x;replace C:lS K:=C;obtain⟨y,z⟩:=Y;have g1:=aa4 K;have O:=aa3 K;have g3:=aa1 K;have g4:=aa2 K;have P:=aa7 K;have Q:=aa6 K;have R:=aa5 K;have S:=aa8 K;refine bs Xn ⟨K,rZ⟩ C ⟨eQ.sub y (bU 0),iJ.sub z (bU 0)⟩ fun y1 G b1=>⟨al,KM,rfl,⟨K,uI⟩,rfl,rfl,C,⟨eQ.sub y (bU 0),iJ.sub z (bU 0)⟩,fun y2 H b2=>⟨al,Xn,rfl,⟨K,Dx⟩,rfl,rfl,C,⟨eQ.sub y (bU 0),iJ.sub z (bU 0)⟩,fun y3 _ b3=>⟨al,?_⟩⟩⟩;dsimp only at G H⊢;generalize cn cL K rZ (cF K rZ)=p1 at*;generalize cn cf K uI (cF K uI)=p2 at*;generalize cn cL K Dx (cF K Dx)=p3 at*;obtain⟨n1,v1⟩:=p1;obtain⟨n2,v2⟩:=p2;obtain⟨n3,v3⟩:=p3;dsimp only at g1 O g3 g4 P Q R S G H⊢;subst g1 P S;obtain⟨w,I⟩:=G;obtain⟨A,_⟩:=H;have l1:=w.len;have l2:=A.len;obtain⟨U,W,q3⟩:=map_some g3;obtain⟨d4,N,q4⟩:=map_some g4;obtain⟨V,X,q6⟩:=map_some R;obtain⟨E,u⟩:=w.1.uH ae;obtain⟨M,B⟩:=A.1.uH ae;obtain⟨a4,m4,T,J,D,t,L⟩:=DX w I u N;rw[q4]at D t;obtain⟨Z,ko,rfl⟩:=D.some (by rw[t];decide);have t:m4=2:=t;subst t;refine wm rfl (wm rfl (wm rfl (wm rfl ⟨al,wm ?_ ⟨al,gG 5 rfl rfl rfl rfl,⟨E,0,y1.r.n,y1.r.cap,3⟩,by rw[u],hS,U.op,mb (j:=1) w u W (fun v=>rfl),wm ?_ ⟨al,gG 5 rfl rfl rfl rfl,⟨E,0,y1.r.n,y1.r.cap,4⟩,by rw[u],hS,_,_,_,L,gG 1 rfl rfl rfl rfl,⟨Z,ko,2,T,1⟩,rfl,hS,3,N4 (j:=1) N J (by rw[q4];rfl),wm rfl ⟨al,wm ?_ ⟨al,gG 5 rfl rfl rfl rfl,⟨M,0,y2.r.n,y2.r.cap,6⟩,by rw[B],hS,V.kind,mb (j:=0) A B X (fun v=>rfl),(),ao,?_,aA [0]⟩⟩⟩⟩⟩)))
 ·rw[l1,O];rfl
 ·rw[q3];exact beq_self_eq_true _
 ·rw[l2,Q];rfl
 ·rw[q6];rfl
theorem aa9:aD 6 oK:=fo 77 Tryz.func6 (fun _ _=>[(1,0,.c (nH cL) [] [11,12]),(1,5,.n 2050),(1,6,.w [.z00 2050]),(2,0,.c (nH cf) [] [21,22]),(2,5,.n 3050),(2,6,.w [.z00 3050]),(3,0,.c (nH cL) [] [31,32]),(3,5,.n 4050),(3,6,.w [.z00 4050]),(4,16,aP 2050),(4,22,aP 2050),(4,23,.qo (fJ 5)),(4,25,.q [.ex 11 .str]),(4,30,aP 2050),(4,31,.qo (fJ 5)),(4,33,.q [.ex 11 .slice]),(4,34,.qo (fJ 1)),(4,35,.q [.ex 12 (.int .i64)]),(4,40,aP 3050),(4,46,aP 3050),(4,47,.qo (fJ 5)),(4,49,.q [.ex 21 (.int .i64)])]) [] aY aY bA [] aa_
end
section
open Go
def NZ{α:Type}(m:PM α):Prop:=∀s p t,m s≠.stop p 0 t
section
variable{α β:Type}{L:List bh}{fin:Int}{aJ:Nat->ByteArray}{wide:ByteArray->ByteArray}
theorem NZ.bind{m:PM α}{f:α->PM β}(h:NZ m)(c:∀a,NZ (f a)):NZ (m>>=f):=by
 intro s p t e;have e:bS m f s= .stop p 0 t:=e;unfold bS at e;cases b:m s with
 |ok a u=>rw[b]at e;exact c a u p t e
 |stop q r u=>rw[b]at e;cases e;exact h _ _ _ b
 |out=>rw[b]at e;cases e
variable{b:Bool}{t:ByteArray}{x:bP}{k:Int}
theorem NZ.bif{m k:PM α}(h:NZ m)(hk:NZ k):NZ (bif b then m else k):=by cases b;exact hk;exact h
theorem NZ.ret{a:α}:NZ (ret a):=fun _ _ _ e=>by cases e
theorem NZ.out:NZ (OA:PM α):=fun _ _ _ e=>by cases e
theorem NZ.fail{p e:Int}(h:e≠0):NZ (ac9 p e:PM α):=fun _ _ _ h'=>by cases h';exact h rfl
theorem NZ.get:NZ eZ:=fun _ _ _ e=>by cases e
theorem NZ.set{s:ap}:NZ (io s):=fun _ _ _ e=>by cases e
theorem NZ.step:NZ eF:=fun _ _ _ e=>by cases e
theorem NZ.node:NZ (dj x):=fun _ _ _ e=>by cases e
theorem NZ.dN:NZ (kj L fin:PM α):=fun _ _ _ e=>by cases e
theorem NZ.b9:NZ (cZ L t):=by
 intro s p u e;unfold cZ at e;grind
theorem NZ.bW:NZ (cw L fin t):=by
 intro s p u e;unfold cw at e;grind
theorem NZ.is{a:Nat}:NZ (iT L a t):=fun _ _ _ e=>by cases e
theorem NZ.cd:NZ (fv L fin):=fun _ _ _ e=>by cases e
theorem NZ.pos:NZ (dW k):=fun _ _ _ e=>by cases e
theorem NZ.kt:NZ (kv k b):=by
 intro s p u e;unfold kv at e;grind
theorem NZ.word:NZ (gJ L fin):=by
 intro s p u e;unfold gJ at e;grind
theorem NZ.qc:NZ (dQ L fin):=by
 intro s p u e;unfold dQ at e;grind
theorem NZ.key:NZ (d5 L fin aJ wide):=by
 intro s p u e;unfold d5 at e;revert e;dsimp only;generalize ((aC L fin s).kind==1||(aC L fin s).kind==2)=a;generalize ((aC L fin s).kind==3)=b;generalize ((aC L fin s).kind==4)=c;cases a <;> cases b <;> cases c <;> (intro e;cases e)
theorem NZ.empty:NZ (iv L fin):=NZ.bind NZ.cd fun _=>NZ.node
theorem NZ.one{m:PM (List Int)}(h:NZ m):NZ (Go.Proofs.YtdkchodgklpomaaGreatDoor.one m):=NZ.bind h fun _=>NZ.ret
theorem NZ.c8:NZ (cm x):=NZ.bind NZ.node fun _=>NZ.ret
set_option maxHeartbeats 4000000 in
theorem Lm:∀(f:Nat)(tag:aq),NZ (P L fin aJ wide f tag):=by
 intro f
 induction f with
 |zero=>intro tag;rw[P];exact NZ.out
 |succ f a=>
  intro tag;cases tag <;> rw[P]
  all_goals
   repeat (first
    |exact a _
    |exact NZ.ret
    |exact NZ.get
    |exact NZ.set
    |exact NZ.step
    |exact NZ.node
    |exact NZ.dN
    |exact NZ.b9
    |exact NZ.bW
    |exact NZ.is
    |exact NZ.cd
    |exact NZ.pos
    |exact NZ.kt
    |exact NZ.word
    |exact NZ.qc
    |exact NZ.key
    |exact NZ.empty
    |exact NZ.c8
    |exact NZ.fail (by decide)
    |apply NZ.one
    |apply NZ.bind
    |apply NZ.bif
    |intro _)
end
end
section
open Go
theorem aeI(n:Nat)(j:Nat):(sf n).count (j:Int)=if j<n then 1 else 0:=by
 unfold sf
 induction n with
 |zero=>rfl
 |succ n a=>
  rw[List.range_succ,List.map_append,List.count_append,a];grind
variable{K:bR}{fin k:Int}{n:Nat}{s t:ap}{x:cj}
theorem ajl(h:bQ fin t [k]):k=(t.nodes.length:Int)-1:=by
 have c:=h.k9 (List.mem_singleton.2 rfl);have b:((t.nodes.length-1:Nat):Int)∈sf t.nodes.length:=by
  unfold sf;grind
 rcases List.mem_append.1 (h.tI.mem_iff.2 b)with a|a
 ·obtain⟨d,hd,hk⟩:=List.mem_flatMap.1 a;obtain⟨i,hi,rfl⟩:=List.getElem_of_mem hd;have:=(h.aB i _ (fg hi)).2 _ hk;omega
 grind
theorem ajk(h:bQ fin t [k])(j:Nat)(b:j<t.nodes.length):(t.nodes.flatMap (·.aB)).count (j:Int)=if j+1=t.nodes.length then 0 else 1:=by
 have a:=h.tI.count_eq (j:Int);rw[List.count_append,aeI,if_pos b,ajl h,List.count_singleton]at a;grind
theorem aiC{L:List bh}{aJ:Nat->ByteArray}{wide:ByteArray->ByteArray}:∀(f:Nat)(ks:List Int)(s:ap)(r:List Int)(t:ap),P L fin aJ wide f (.prog ks) s= .ok r t->∃ms aB,t.nodes=ms++[⟨37,.empty,0,aB,0⟩]:=by
 intro f
 induction f with
 |zero=>intro ks s r t h;rw[P]at h;cases h
 |succ f a=>
  intro ks s r t h;rw[P,iF]at h;cases hd:decide (s.i<L.length)with
  |true=>
   rw[hd,aU]at h;have h:bS (one (P L fin aJ wide f (.bT true))) (fun k=>P L fin aJ wide f (.prog (ks++[k]))) s= .ok r t:=h;unfold bS at h;grind
  |false=>
   rw[hd,aN,h_]at h;cases h;exact⟨_,_,rfl⟩
structure Dr(fin:Int)(ns:List bP):Prop where
 one:1<=ns.length
 DK:ns.length<=4096
 root:(ns[ns.length-1]?).map (·.kind)=some 37
 aB:∀(i:Nat)(d:bP),ns[i]?=some d->d.aB.Pairwise (·<·)/\(∀k∈d.aB,0<=k/\k<(i:Int))/\0<=d.pos/\d.pos<=fin
 tot:(ns.flatMap (·.aB)).length<=ns.length
 cnt:∀j,j<ns.length->(ns.flatMap (·.aB)).count (j:Int)=if j+1=ns.length then 0 else 1
theorem abF(ns:List bP):oM ns=([],4)\/(oM ns=(ns,0)/\ns.length<=4096):=by
 unfold oM;grind
theorem OK(h:cf K x n s= .ok () t):∃ks,P x.L x.fin K.tv bx n (.prog []) s= .ok ks t:=by
 have h:bS (P x.L x.fin K.tv bx n (.prog [])) (fun _=>ret ()) s= .ok () t:=h;unfold bS at h;revert h;cases P x.L x.fin K.tv bx n (.prog []) s with
 |ok a u=>intro h;cases h;exact⟨a,rfl⟩
 |stop p e u=>intro h;cases h
 |out=>intro h;cases h
theorem OL{p e:Int}(h:cf K x n s= .stop p e t):P x.L x.fin K.tv bx n (.prog []) s= .stop p e t:=by
 have h:bS (P x.L x.fin K.tv bx n (.prog [])) (fun _=>ret ()) s= .stop p e t:=h;unfold bS at h;revert h;cases P x.L x.fin K.tv bx n (.prog []) s with
 |ok a u=>intro h;cases h
 |stop p e u=>intro h;cases h;rfl
 |out=>intro h;cases h
theorem HX(n:lS K){src:ByteArray}(h:(cn cf K src (cF K src)).2.2=0):Dr src.size (cn cf K src (cF K src)).1:=by
 by_cases j:oL K src
 ·rw[OE j]at h;exfalso;revert h;unfold iU;grind
 ·rw[D4 j]at h⊢;have o:=n.OC j;have l:=aiB (aJ:=K.tv) (wide:=bx) o.d_ (cF K src);cases g:cf K (km K src) (cF K src) dC with
  |out=>exact absurd g D_
  |stop p e t=>
   rw[g]at h;have h:e=0:=h;subst h;exact absurd (OL g) (Lm _ _ _ _ _)
  |ok a t=>
   rw[g]at h;dsimp only at h⊢;obtain⟨ks,f⟩:=OK g;unfold WP at l;rw[show P (km K src).L (km K src).fin K.tv bx (cF K src) (.prog []) ⟨0,[],0,0,0⟩=_ from f]at l;obtain⟨k,b⟩:=l;obtain⟨ms,aB,r⟩:=aiC _ _ _ _ _ f;rcases abF t.nodes with e| ⟨e,m⟩
   ·grind
   rw[e];have q:∀(i:Nat)(d:bP),t.nodes[i]?=some d->∀k∈d.aB,0<=k/\k<(i:Int):=fun i d hd k c=>
    ⟨(NY (b.tI.mem_iff.1 (n4 _ (List.mem_flatMap.2 ⟨d,nk hd,c⟩)))).1,(b.aB i d hd).2 k c⟩
   refine⟨?_,m,?_,fun i d hd=>⟨(b.aB i d hd).1,q i d hd,b.pos d (nk hd)⟩,?_,ajk b⟩
   ·simp[*]
   ·simp[*]
   ·have:=b.tI.length_eq;rw[Vb,dJ]at this;grind
end
section
open Go
def Nx(j:Nat):List LH:=[.ex j (.int .i64),.ex j .str,.ex j (.float .f64),.ex j .slice,.ex j (.int .i64)]
end
section
open Go
structure Ld where
 n:Nat
def Ae:aR where
 X:=Ld
 args x:=[float f64 x.n,float f64 x.n]
 val _ _:=ay (aj true)
theorem ajY(x:Ld)(F:ah)(c:Ae.cond x)(d:Ae.aO x F):yx (a7 Tryz.f19 1 2) [float f64 x.n,float f64 x.n] (fun b=>Br (cG BinOp.neq b.fst b.snd) (yx (a7 Tryz.f19 2 2) [float f64 x.n,float f64 x.n] (fun a=>ar Ae x F (ay (aj (cG BinOp.neq a.fst a.snd))) [(0,F)])) (ar Ae x F (ay (aj ((x.n:Int)==(x.n:Int)))) [(0,F)])):=by
 delta qV yx aj ay;refine⟨nZ (.inr (.inr (.inr rfl))) rfl,(x.n,x.n),rfl,ao,aG (fun h=>⟨nZ (.inr (.inr (.inr rfl))) rfl,(x.n,x.n),rfl,ao,(),ao,?_,aA [0]⟩) (fun h=>⟨(),ao,?_,aA [0]⟩)⟩
 ·show returned (.bool (cG .neq x.n x.n))=returned (.bool true);simp[*]
 ·show returned (.bool (_==_))=returned (.bool true);simp[*]
theorem ajX:aD 19 Ae:=fo 16 Tryz.func19 (fun _ _=>[(1,2,.qo (nj .neq)),(2,2,.qo (nj .neq)),(3,1,aW),(3,3,aW)]) [] aY aY bA [] ajY
structure rT where
 kind:Int
 op:ByteArray
 num:Nat
 pos:Int
 Bz:Int
 aB:List Int
 n:Nat
 a:Option Addr
 ca:Nat
 b:Option Addr
 cb:Nat
 p:Bool
def sM:aR where
 X:=rT
 args x:=[.agg #[.int .i64 x.kind,.string x.op,.float .f64 x.num,.slice x.a x.n x.ca,.int .i64 x.pos],.agg #[.int .i64 x.kind,.string x.op,.float .f64 x.num,.slice x.b x.n x.cb,.int .i64 x.Bz],.bool x.p]
 cond x:=(x.p=true->x.pos=x.Bz)/\jk 1 (bB x.aB) x.a x.n/\jk 1 (bB x.aB) x.b x.n/\x.n<=1048576
 aO x F:=lU F x.a (bB x.aB)/\lU F x.b (bB x.aB)
 val _ _:=ay (aj true)
structure rS where
 b3:Nat
 b4:Nat
 i:Nat
def Xj(x:rT)(F:ah)(d:rS):List ah:=[F,.cells d.b3 [.int .i64 x.kind,.string x.op,.float .f64 x.num,.slice x.a x.n x.ca,.int .i64 x.pos] 35,.cells d.b4 [.int .i64 x.kind,.string x.op,.float .f64 x.num,.slice x.b x.n x.cb,.int .i64 x.Bz] 35]
def xa(d:rS):Option Addr:=some ⟨d.b3,0,none⟩
def xc(d:rS):Option Addr:=some ⟨d.b4,0,none⟩
def akp(x:rT)(F:ah):Nat->Option Inv:=fun
 |0=>some {X:=rS,P:=fun d=>d.i<=x.n,mu:=fun d=>x.n-d.i,lv:=fun d=>[(3,ag (xa d)),(4,ag (xc d)),(7,ad d.i)],st:=Xj x F}
 |_=>none
def ako(x:rT)(F:ah):Nat->Option Inv:=fun
 |3=>some {X:=rS,P:=fun _=>True,mu:=fun _=>0,lv:=fun d=>[(3,ag (xa d)),(4,ag (xc d))],st:=Xj x F}
 |_=>none
def EF(e1:rT):List Value:=[ad e1.kind,ai e1.op,float f64 e1.num,au e1.a e1.n e1.ca,ad e1.pos]
def EE(e1:rT):List Value:=[ad e1.kind,ai e1.op,float f64 e1.num,au e1.b e1.n e1.cb,ad e1.Bz]
def zJ(F:ah)(k:Nat)(x:rT)(j:Nat):=[(0,F),(10,af k (EF x) 35),(20,af j (EE x) 35)]
def wX(e0:ah)(z:rS)(e1:rT):=[(0,e0),(1,af z.b3 (EF e1) 35),(2,af z.b4 (EE e1) 35)]
def Mw(e0:ah)(e1:rT)(v0 v1:Value)(a:St):=∃(z:rS),True/\(v0=ag (xa z)/\v1=ag (xc z)/\True)/\aE a (wX e0 z e1)
theorem akr(x:rT)(F:ah)(p:sM.cond x)(r:sM.aO x F):∀(k j:Nat),(aw k 0/\aw j 0/\Br (x.kind !=x.kind) (ar sM x F cQ (zJ F k x j)) (aw k 1/\aw j 1/\Br (!x.op.toList==x.op.toList) (ar sM x F cQ (zJ F k x j)) (aw k 2/\aw j 2/\aD 19 Ae/\true=true/\∃(c:Ld),[float f64 x.num,float f64 x.num]=[float f64 c.n,float f64 c.n]/\([]:List ah)=[]/\True/\True/\∀(b:Unit),True->aw k 3/\aw j 3/\Br ((x.n:Int)!=(x.n:Int)) (ar sM x F cQ (zJ F k x j)) (Br x.p (aw k 4/\aw j 4/\Br (x.pos !=x.Bz) (ar sM x F cQ (zJ F k x j)) (Mw F x (cr k) (cr j) (zJ F k x j))) (Mw F x (cr k) (cr j) (zJ F k x j))))))/\aT fun(i:rS)_=>True->(∃(a:rS),a.i<=x.n/\(ag (xa i)=ag (xa a)/\ag (xc i)=ag (xc a)/\ad 0=ad ↑a.i/\True)/\aE (wX F i x) (wX F a x))/\aT fun(g:rS)_=>g.i<=x.n->aw g.b3 3/\aS ((g.i:Int)<(x.n:Int)) (true=true/\aw g.b3 3/\i6 (a7 Tryz.f11 6 3) [au x.a x.n x.ca,ad ↑g.i] (fun e=>T1 F ⟨e.b,e.o+e.n.toNat*1,none⟩ (fun d=>aw g.b4 3/\i6 (a7 Tryz.f11 6 8) [au x.b x.n x.cb,ad ↑g.i] (fun c=>T1 F ⟨c.b,c.o+c.n.toNat*1,none⟩ (fun b=>Br (d !=b) (ar sM x F cQ (wX F g x)) (((-9223372036854775808:Int)<=(g.i:Int)+1/\(g.i:Int)+1<=(9223372036854775807:Int))/\∃(a:rS),a.i<=x.n/\(ag (xa g)=ag (xa a)/\ag (xc g)=ag (xc a)/\ad ((g.i:Int)+1)=ad ↑a.i/\True)/\aE (wX F g x) (wX F a x)/\x.n-a.i<x.n-g.i)))))) (ar sM x F gH (wX F g x)):=by
 delta dk cQ EF EE zJ xa xc wX Mw bI cr i6 T1 gH aw ad ai aj ag au af aS ay aT;obtain⟨t,h,o,u⟩:=p;obtain⟨l,m⟩:=r;have l1:x.aB.length=x.n:=by have:=h.len;unfold bB at this;grind
 intro b c;refine⟨⟨al,al,qA aL ⟨al,al,qA aL ⟨al,al,ajX,rfl,⟨x.num⟩,rfl,rfl,ao,ao,fun _ _=>⟨al,al,qA aL (aG (fun hp=>⟨al,al,qA (by simp[*]) ⟨⟨b,c,0⟩,ao,aV,aA [0,10,20]⟩⟩) (fun _=>⟨⟨b,c,0⟩,ao,aV,aA [0,10,20]⟩))⟩⟩⟩⟩,?_⟩;rintro⟨b,c,_⟩ s-;refine⟨⟨⟨b,c,0⟩,dq _,aV,aA [0,1,2]⟩,?_⟩;rintro⟨b,c,i⟩ s hi;dsimp only at hi⊢;refine⟨al,bo (fun q=>?_) (fun _=>iS)⟩;obtain⟨k,hk⟩:∃k,x.aB[i]?=some k:=⟨_,fg ae⟩;obtain⟨b1,o1,e1⟩:=h.some ae;obtain⟨b2,o2,n⟩:=o.some ae;rw[e1]at l⊢;rw[n]at m⊢;have f:(bB x.aB)[i]?=some (.int .i64 k):=N3 hk;refine⟨rfl,al,gG 1 rfl rfl rfl rfl,⟨b1,o1,x.n,x.ca,i⟩,rfl,⟨by simp[*],ae⟩,k,?_,al,gG 1 rfl rfl rfl rfl,⟨b2,o2,x.n,x.cb,i⟩,rfl,⟨by simp[*],ae⟩,k,?_,qA aL ⟨aK,⟨b,c,i+1⟩,by grind,aV,?_,by grind⟩⟩
 ·have:=l.look f;simp[*]
 ·have:=m.look f;simp[*]
 ·exact aA [0,1,2]
theorem akq:aD 11 sM:=fo 65 Tryz.func11 (fun _ _=>[(0,0,.n 10),(0,1,.n 20),(1,1,aP 10),(1,3,aP 20),(1,7,aP 10),(1,9,aP 20),(1,14,aP 10),(1,16,aP 20),(1,17,aX Ae),(1,22,aP 10),(1,25,aP 20),(1,33,aP 10),(1,35,aP 20),(4,2,aP 1),(6,1,aP 1),(6,3,.qo (fJ 1)),(6,4,dd),(6,6,aP 2),(6,8,.qo (fJ 1)),(6,9,dd)]) [] akp ako bA [] akr
end
section
open Go
structure di(s w:ByteArray)(d:Nat):Prop where
 eq:∃a e:List UInt8,w.data.toList=a++(s.data.toList++e)/\a.length=d/\(e=[]\/∃b,e=10::b)
theorem GQ(s:ByteArray)(i:Nat):bt s i=((s.data.toList[i]?).map UInt8.toNat).getD 0:=by
 unfold bt;simp[*]
theorem sm(s:ByteArray):s.data.toList.length=s.size:=aL
theorem Uy(s:ByteArray)(i j:Nat):(s.extract i j).data.toList=(s.data.toList.drop i).take (j-i):=by
 simp[*]
section
variable{s w:ByteArray}{d:Nat}
variable{t:List Nat}{i k:Nat}
theorem di.at_(h:di s w d)(hk:k<s.size):bt w (k+d)=bt s k:=by
 obtain⟨a,e,b,c,_⟩:=h.eq;rw[GQ,GQ,b,jb ae,kq (by simp[*])];simp[*]
theorem di.size(h:di s w d):s.size+d<=w.size:=by
 obtain⟨a,e,b,c,_⟩:=h.eq;have:=congrArg List.length b;rw[sm,dJ,dJ,sm]at this;omega
theorem di.nl(h:di s w d):(w.size=s.size+d/\bt w (s.size+d)=0)\/(s.size+d<w.size/\bt w (s.size+d)=10):=by
 obtain⟨a,e,f,g,c⟩:=h.eq;have hl:=congrArg List.length f;rw[sm,dJ,dJ,sm]at hl;rcases c with c| ⟨b,c⟩
 ·subst c;rw[List.length_nil]at hl;exact .inl ⟨ae,uL ae⟩
 ·subst c;rw[qH]at hl;refine .inr ⟨ae,?_⟩;rw[GQ,f,jb ae,jb (by simp[*]),sm];simp[*]
theorem di.ask(h:di s w d)(hk:k<=s.size){α:Type}(p:Nat->α)(e:p 10=p 0):p (bt w (k+d))=p (bt s k):=by
 rcases Nat.lt_or_ge k s.size with hl|hl
 ·rw[h.at_ hl]
 ·have a:k=s.size:=by omega
  subst a;rw[uL (bZ _)];rcases h.nl with⟨_,b⟩| ⟨_,b⟩ <;> rw[b];exact e
theorem di.Hn(h:di s w d)(hk:k<=s.size)(p:Nat->Bool)(e:p 10=false):(decide (k+d<w.size)&&p (bt w (k+d)))=(decide (k<s.size)&&p (bt s k)):=by
 rcases Nat.lt_or_ge k s.size with hl|hl
 ·rw[h.at_ hl,bw hl,bw (by have:=h.size;omega)]
 ·have a:k=s.size:=by omega
  subst a;rw[bF (Nat.lt_irrefl _),jp];rcases h.nl with⟨c,b⟩| ⟨_,b⟩
  all_goals grind
theorem di.ext(h:di s w d){j:Nat}(hi:i<=s.size)(f:j<=s.size):w.extract (i+d) (j+d)=s.extract i j:=by
 obtain⟨a,e,b,c,_⟩:=h.eq;apply ByteArray.ext;apply Array.ext';rw[Uy,Uy,b,List.drop_append,List.drop_of_length_le ae,List.nil_append,show i+d-a.length=i by omega,List.drop_append_of_le_length (by simp[*]),List.take_append_of_le_length (by rw[List.length_drop,sm];omega),show j+d-(i+d)=j-i by omega]
theorem di.sub(h:di s w d)(hi:i<=s.size):di (s.extract i s.size) (w.extract (i+d) w.size) 0:=by
 obtain⟨a,e,b,f,c⟩:=h.eq;refine⟨[],e,?_,rfl,c⟩;rw[DH,DH,b,List.drop_append,List.drop_of_length_le ae,List.nil_append,List.nil_append,show i+d-a.length=i by omega,List.drop_append_of_le_length (by simp[*])]
theorem acn(n b b1 b2 b3 a c d:Nat)(h:n=1\/a/64≠2):Lib.decodeN 1 b b1 b2 b3=Lib.decodeN n b a c d:=by
 unfold Lib.decodeN;have e1:¬((1:Nat)<1/\b1/64=2):=ae;have e:¬(1<n/\a/64=2):=ae;simp[*]
theorem aco(n b b1 b2 b3 a c:Nat)(hn:2<=n)(h:n=2\/a/64≠2):Lib.decodeN 2 b b1 b2 b3=Lib.decodeN n b b1 a c:=by
 unfold Lib.decodeN;have e0:(1<n)=((1:Nat)<2):=propext ⟨fun _=>ae,fun _=>ae⟩;have e1:¬((2:Nat)<2/\b2/64=2):=ae;have d:¬(2<n/\a/64=2):=ae;simp[*]
theorem acp(n b b1 b2 b3 a:Nat)(hn:3<=n)(h:n=3\/a/64≠2):Lib.decodeN 3 b b1 b2 b3=Lib.decodeN n b b1 b2 a:=by
 unfold Lib.decodeN;have e0:(1<n)=((1:Nat)<3):=propext ⟨fun _=>ae,fun _=>ae⟩;have c:(2<n)=((2:Nat)<3):=propext ⟨fun _=>ae,fun _=>ae⟩;have e1:¬((3:Nat)<3/\b3/64=2):=ae;have d:¬(3<n/\a/64=2):=ae;simp[*]
theorem acq(n m a b1 b2 b3:Nat)(hn:4<=n)(c:4<=m):Lib.decodeN m a b1 b2 b3=Lib.decodeN n a b1 b2 b3:=by
 unfold Lib.decodeN;have e0:(1<n)=(1<m):=propext ⟨fun _=>ae,fun _=>ae⟩;have e1:(2<n)=(2<m):=propext ⟨fun _=>ae,fun _=>ae⟩;have b:(3<n)=(3<m):=propext ⟨fun _=>ae,fun _=>ae⟩;simp[*]
theorem di.next(h:di s w d)(hi:i<s.size):c7 w (i+d)=c7 s i:=by
 unfold c7;have hs:=h.size;rw[bw hi,bw (show i+d<w.size by omega),h.at_ hi];have key:Lib.decodeN (w.size-(i+d)) (bt s i) (bt w (i+d+1)) (bt w (i+d+2)) (bt w (i+d+3))=Lib.decodeN (s.size-i) (bt s i) (bt s (i+1)) (bt s (i+2)) (bt s (i+3)):=by
  have a:i+1<s.size->bt w (i+d+1)=bt s (i+1):=fun hl=>by rw[show i+d+1=i+1+d by omega,h.at_ hl]
  have c:i+2<s.size->bt w (i+d+2)=bt s (i+2):=fun hl=>by rw[show i+d+2=i+2+d by omega,h.at_ hl]
  have e:i+3<s.size->bt w (i+d+3)=bt s (i+3):=fun hl=>by rw[show i+d+3=i+3+d by omega,h.at_ hl]
  by_cases f:i+1=s.size
  ·rw[show s.size-i=1 by omega];refine(acn _ _ _ _ _ _ _ _ ?_).symm;rcases h.nl with⟨b,_⟩| ⟨_,b⟩
   all_goals grind
  by_cases b:i+2=s.size
  ·rw[show s.size-i=2 by omega,a ae];refine(aco _ _ _ _ _ _ _ ae ?_).symm;rcases h.nl with⟨b,_⟩| ⟨_,b⟩
   all_goals grind
  by_cases g:i+3=s.size
  ·rw[show s.size-i=3 by omega,a ae,c ae];refine(acp _ _ _ _ _ _ ae ?_).symm;rcases h.nl with⟨b,_⟩| ⟨_,b⟩
   all_goals grind
  rw[a ae,c ae,e ae];exact acq _ _ _ _ _ _ ae ae
 rw[key]
theorem Oi(h:bt w i=10)(hi:i<w.size):c7 w i=some (10,1):=by
 unfold c7;rw[bw hi,h];rfl
theorem agQ{c:Nat}(h:bt w i=c)(a:c<128)(hi:i<w.size):c7 w i=some (c,1):=by
 unfold c7;have:Lib.decodeN (w.size-i) (bt w i) (bt w (i+1)) (bt w (i+2)) (bt w (i+3))=(c,1):=by
  unfold Lib.decodeN;simp[*]
 grind
theorem HF(hi:w.size<=i):c7 w i=none:=by
 unfold c7;grind
theorem di.hp(h:di s w d)(hi:i<=s.size)(c:∀b∈t,b≠10/\b≠0):dx w (i+d) t=dx s i t:=by
 unfold dx;have hs:=h.size;by_cases hl:i+t.length<=s.size
 ·rw[bw hl,bw (show i+d+t.length<=w.size by omega),Bool.true_and,Bool.true_and,Bool.eq_iff_iff,List.all_eq_true,List.all_eq_true];have e:∀k,k<t.length->bt w (i+d+k)=bt s (i+k):=fun k hk=>by rw[show i+d+k=i+k+d by omega,h.at_ ae]
  grind
 ·rw[bF hl,jp,Bool.and_eq_false_iff];refine .inr ?_;rw[List.all_eq_false];have hk:s.size-i<t.length:=ae;refine⟨s.size-i,List.mem_range.2 hk,?_⟩;rw[show i+d+(s.size-i)=s.size+d by omega,ft,fg hk];have:=c _ (List.getElem_mem hk);rw[beq_iff_eq];rcases h.nl with⟨_,a⟩| ⟨_,a⟩ <;> rw[a]
  all_goals grind
theorem di.aI(h:di s w d):∀(f g i:Nat),i<=s.size->s.size-i<f->w.size-(i+d)<g->fT w g (i+d)=((fT s f i).1+d,(fT s f i).2):=by
 intro f
 induction f with
 |zero=>intro g i _ a _;omega
 |succ f l=>
  intro g i hi m o;obtain⟨g,rfl⟩:∃k,g=k+1:=⟨g-1,ae⟩;have hs:=h.size;rw[fT,fT];rcases Nat.lt_or_ge i s.size with hl|hl
  ·rw[bw hl,bw (show i+d<w.size by omega),h.next hl,aU,aU];cases hn:c7 s i with
   |none=>rfl
   |some b=>
    obtain⟨c,n⟩:=b;obtain⟨e,f2,f3⟩:=kV hn;dsimp only;cases hX c with
    |true=>rfl
    |false=>
     rw[aN,aN,show i+d+n=i+n+d by omega];exact l g (i+n) e ae ae
  ·have:i=s.size:=by omega
   subst this;rw[bF (Nat.lt_irrefl _)];rcases h.nl with⟨a,_⟩| ⟨a,j⟩
   ·simp[*]
   ·rw[bw a,Oi j a];rfl
theorem di.se(h:di s w d)(a:∀b∈t,b≠10/\b≠0):∀(f g i k:Nat),i<=s.size->w.size-(i+d)<g->n9 s t f i=some k->n9 w t g (i+d)=some (k+d):=by
 intro f
 induction f with
 |zero=>intro g i k _ _ h;cases h
 |succ f c=>
  intro g i k hi e hk;obtain⟨g,rfl⟩:∃k,g=k+1:=⟨g-1,ae⟩;have hs:=h.size;rw[n9]at hk⊢;rw[h.hp hi a];cases hp:dx s i t with
  |true=>rw[hp]at hk;cases hk;rfl
  |false=>
   rw[hp,aN]at hk;rw[aN];by_cases hl:i<s.size
   ·rw[bw hl]at hk;rw[bw (show i+d<w.size by omega),aU,show i+d+1=i+1+d by omega];exact c g (i+1) k hl ae hk
   grind
theorem ai9(t:ByteArray):∀(f g i:Nat)(aI:Bool),t.size-i<f->t.size-i<g->eS t f i aI=eS t g i aI:=by
 intro f
 induction f with
 |zero=>intro g i aI h _;omega
 |succ f j=>
  intro g i aI d e;obtain⟨g,rfl⟩:∃k,g=k+1:=⟨g-1,ae⟩;rw[eS,eS];by_cases hi:i<t.size
  ·rw[bw hi];cases hn:c7 t i with
   |none=>rfl
   |some a=>
    obtain⟨c,n⟩:=a;obtain⟨b,f2,f3⟩:=kV hn;grind
  simp[*]
theorem abt(t:ByteArray):∀(f g i:Nat)(aI:Bool),i<=t.size->t.size-i<f->t.size-i<g->cT t f i aI=cT t g i aI:=by
 intro f
 induction f with
 |zero=>intro g i aI _ h _;omega
 |succ f b=>
  intro g i aI hi q r;obtain⟨g,rfl⟩:∃k,g=k+1:=⟨g-1,ae⟩;rw[cT,cT];by_cases hl:i<t.size
  ·rw[bw hl];cases hn:c7 t i with
   |none=>rfl
   |some d=>
    obtain⟨c,n⟩:=d;obtain⟨a,f2,f3⟩:=kV hn;dsimp only[aU];rw[b g (i+n) true a ae ae,b g (i+n) aI a ae ae];have p:=DV t (t.size+1) i hi;cases o:dx t i [47,47]with
    |true=>
     rw[aU,aU];have l:i<(fT t (t.size+1) i).1\/hX c=true\/(fT t (t.size+1) i).2=false:=by
      rw[fT,bw hl,hn];dsimp only[cond_true];cases hX c with
      |true=>exact .inr (.inl rfl)
      |false=>rw[aN];exact .inl (by have:=DV t t.size (i+n) a;omega)
     grind
    |false=>
     rw[aN,aN];cases e:dx t i [47,42]with
     |false=>rfl
     |true=>
      rw[aU,aU];have hp:=DN e;have m:([47,42]:List Nat).length=2:=rfl;cases hx:n9 (t.extract (i+2) t.size) [42,47] (t.size+1) 0 with
      |none=>rfl
      |some k=>
       have j:=NX _ _ _ _ _ hx;rw[hT]at j;grind
  simp[*]
theorem di.abs(h:di s w d):∀(f g i j:Nat)(aI l:Bool),i<=s.size->s.size-i<f->w.size-(i+d)<g->cT s f i aI=(-1,j,l)->
  (j<s.size->cT w g (i+d) aI=(-1,j+d,l))/\(j=s.size->∀m,w.size-(s.size+d)<m->cT w g (i+d) aI=cT w m (s.size+d) l):=by
 intro f
 induction f with
 |zero=>intro g i j aI l _ o _;omega
 |succ f p=>
  intro g i j aI l hi J G a;obtain⟨g,rfl⟩:∃k,g=k+1:=⟨g-1,ae⟩;have hs:=h.size;rw[cT]at a;rcases Nat.lt_or_ge i s.size with hl|hl
  ·rw[bw hl]at a;have e0:∀m,cT w (m+1) (i+d) aI=_:=fun m=>by rw[cT,bw (show i+d<w.size by omega),h.next hl,h.hp hi (t:=[47,47]) (by decide),h.hp hi (t:=[47,42]) (by decide),aU]
   rw[e0];cases hn:c7 s i with
   |none=>
    rw[hn]at a;have:=congrArg Prod.fst a;have:(i:Int)= -1:=this;omega
   |some B=>
    obtain⟨c,n⟩:=B;obtain⟨q,f2,f3⟩:=kV hn;rw[hn]at a;dsimp only[cond_true]at a⊢;have x:i+d+n=i+n+d:=ae;cases o:hX c with
    |true=>
     rw[o,aU]at a;rw[aU,x];exact p g (i+n) j true l q ae ae a
    |false=>
     rw[o,aN]at a;rw[aN];cases y:sh c with
     |true=>
      rw[y,aU]at a;rw[aU,x];exact p g (i+n) j aI l q ae ae a
     |false=>
      rw[y,aN]at a;rw[aN];cases z:dx s i [47,47]with
      |true=>
       rw[z,aU]at a;rw[aU,h.aI (s.size+1) (w.size+1) i hi ae ae];dsimp only;have D:=DV s (s.size+1) i hi;have u:(fT s (s.size+1) i).2=true->i<(fT s (s.size+1) i).1:=by
        rw[fT,bw hl,hn];dsimp only[cond_true];rw[o,aN];have:=DV s s.size (i+n) q;intro _;omega
       cases b:(fT s (s.size+1) i).2 with
       |true=>
        rw[b,aU]at a;rw[aU];have:=u b;exact p g _ j aI l D.2 ae ae a
       |false=>
        rw[b,aN]at a;have:=congrArg Prod.fst a;have:((fT s (s.size+1) i).1:Int)= -1:=this;omega
      |false=>
       rw[z,aN]at a;rw[aN];cases b:dx s i [47,42]with
       |false=>
        rw[b,aN]at a;rw[aN];cases a;exact⟨fun _=>rfl,fun e=>ae⟩
       |true=>
        rw[b,aU]at a;rw[aU];have hp:=DN b;have H:([47,42]:List Nat).length=2:=rfl;have E:=h.sub (i:=i+2) ae;cases hx:n9 (s.extract (i+2) s.size) [42,47] (s.size+1) 0 with
        |none=>
         rw[hx]at a;have:=congrArg Prod.fst a;have:(i:Int)= -1:=this;omega
        |some k=>
         rw[hx]at a;have C:=NX _ _ _ _ _ hx;rw[hT]at C;have I:([42,47]:List Nat).length=2:=rfl;have v:n9 (w.extract (i+d+2) w.size) [42,47] (w.size+1) 0=some k:=by
          have:=E.se (t:=[42,47]) (by decide) (s.size+1) (w.size+1) 0 k (dq _) (by rw[hT];omega) hx;rw[show i+d+2=i+2+d by omega];exact this
         rw[v];dsimp only at a⊢;have F:w.extract (i+d+2) (i+d+2+k)=s.extract (i+2) (i+2+k):=by
          rw[show i+d+2=i+2+d by omega,show i+2+d+k=i+2+k+d by omega];exact h.ext ae ae
         rw[F,ai9 _ (w.size+1) (s.size+1) 0 aI (by rw[hT];omega) (by rw[hT];omega)];cases A:(eS (s.extract (i+2) (i+2+k)) (s.size+1) 0 aI).1 with
         |true=>
          rw[A,aU]at a;rw[aU,show i+d+k+4=i+k+4+d by omega];exact p g (i+k+4) j _ l ae ae ae a
         |false=>
          rw[A,aN]at a;have:=congrArg Prod.fst a;have:(i:Int)= -1:=this;omega
  ·have:i=s.size:=by omega
   subst this;rw[bF (Nat.lt_irrefl _)]at a;cases a;exact⟨fun e=>absurd e (Nat.lt_irrefl _),fun _ m r=>abt w _ _ _ _ hs G r⟩
end
end
section
open Go
theorem abu(s:ByteArray):∀(f i:Nat)(aI:Bool),(cT s f i aI).1= -1\/0<=(cT s f i aI).1:=by
 intro f
 induction f with
 |zero=>intro i aI;exact .inl rfl
 |succ f a=>
  intro i aI;rw[cT];cases decide (i<s.size)with
  |false=>exact .inl rfl
  |true=>
   rw[aU];cases c7 s i with
   |none=>exact .inr (Int.natCast_nonneg _)
   |some b=>
    obtain⟨c,n⟩:=b;dsimp only;cases hX c with
    |true=>exact a _ _
    |false=>
     rw[aN];cases sh c with
     |true=>exact a _ _
     |false=>
      grind
section
variable{s w:ByteArray}{d:Nat}
theorem di.ajC(h:di s w d)(p:Nat->Bool)(e:p 10=false):∀(f g i:Nat),i<=s.size->s.size-i<f->w.size-(i+d)<g->gv w p g (i+d)=gv s p f i+d:=by
 intro f
 induction f with
 |zero=>intro g i _ b _;omega
 |succ f a=>
  intro g i hi j l;obtain⟨g,rfl⟩:∃k,g=k+1:=⟨g-1,ae⟩;have hs:=h.size;rw[gv,gv,h.Hn hi p e];cases c:(decide (i<s.size)&&p (bt s i))with
  |false=>rfl
  |true=>
   rw[aU,aU,show i+d+1=i+1+d by omega];have hl:i<s.size:=by
    grind
   exact a g (i+1) hl ae ae
variable{i:Nat}{num kW:Nat->Nat}
theorem di.Kv(h:di s w d)(p:Nat->Bool)(e:p 10=false)(hi:i<=s.size):bE w p (i+d)=bE s p i+d:=by
 unfold bE;exact h.ajC p e _ _ i hi ae ae
theorem di.WY(h:di s w d)(p:Nat->Bool)(e:p 10=false){n:Nat}(hi:i+n<=s.size):bE w p (i+d+n)=bE s p (i+n)+d:=by
 rw[show i+d+n=i+n+d by omega];exact h.Kv p e hi
theorem di.gt(i j k:Nat):decide (j+d>i+d+k)=decide (j>i+k):=by
 grind
theorem di.V9(h:di s w d){j:Nat}(f:j<=s.size):pT w (j+d)=((pT s j).1+d,(pT s j).2):=by
 unfold pT;rw[h.ask f (fun b=>(b|||32)==101) rfl];cases a:(bt s j|||32)==101 with
 |false=>
  rw[aN,aN];unfold aJ;rw[h.ask f (fun b=> !(fX b||bM b)) rfl]
 |true=>
  rw[aU,aU];have hl:j<s.size:=uK (by intro e;rw[e]at a;cases a);rw[show j+d+1=j+1+d by omega,h.ask (k:=j+1) hl (fun b=>b==43||b==45) rfl];have key:∀m,m<=s.size->zl w (m+d)=((zl s m).1+d,(zl s m).2):=fun m g=>by
   unfold zl;have r:=mY s bM g;rw[h.Kv bM rfl g,h.ask r.2 (fun b=> !(fX b||bM b)) rfl];simp[*]
  cases c:(bt s (j+1)==43||bt s (j+1)==45)with
  |true=>
   rw[aU,aU,show j+d+2=j+2+d by omega];have i:j+1<s.size:=uK (by intro e;rw[e]at c;cases c);grind
  |false=>
   grind
theorem di.V8(h:di s w d)(hi:i<s.size):ea w (i+d)=((ea s i).1+d,(ea s i).2):=by
 rw[zk,zk,show i+d+1=i+1+d by omega,h.at_ hi,h.Hn (k:=i+1) hi (fun b=>(b|||32)==120) rfl];cases c:(bt s i==48&&(decide (i+1<s.size)&&(bt s (i+1)|||32)==120))with
 |true=>
  rw[aU,aU];have a:i+1<s.size:=by
   grind
  have r:=mY s fC (show i+2<=s.size by omega);rw[h.WY fC rfl (show i+2<=s.size by omega),h.ask r.2 (fun b=> !(fX b||bM b)) rfl,di.gt]
 |false=>
  rw[aN,aN];unfold HK wL;have r:=mY s bM (Nat.le_of_lt hi);rw[h.Kv bM rfl (Nat.le_of_lt hi),h.at_ hi,show decide (bE s bM i+d-(i+d)>1)=decide (bE s bM i-i>1) by grind];cases f:(decide (bE s bM i-i>1)&&bt s i==48)with
  |true=>rfl
  |false=>
   rw[aN,aN];unfold zj;rw[h.ask r.2 (fun b=>b==46) rfl];cases a:bt s (bE s bM i)==46 with
   |false=>rw[aN,aN];exact h.V9 r.2
   |true=>
    rw[aU,aU];have g:bE s bM i<s.size:=uK (by intro e;rw[e]at a;cases a);rw[h.WY bM rfl (i:=bE s bM i) (n:=1) ae];exact h.V9 (mY s bM (show bE s bM i+1<=s.size by omega)).2
theorem di.fW(h:di s w d):∀(n i u:Nat),i<=s.size->eC w n (i+d) u=((eC s n i u).1+d,(eC s n i u).2):=by
 intro n
 induction n with
 |zero=>intro i u _;rfl
 |succ n b=>
  intro i u hi;rw[eC,eC,h.Hn hi fC rfl];cases a:(decide (i<s.size)&&fC (bt s i))with
  |false=>rfl
  |true=>
   have hl:i<s.size:=by
    grind
   rw[aU,aU,h.at_ hl,show i+d+1=i+1+d by omega];grind
theorem di.esc(h:di s w d)(hi:i<=s.size):eI w (i+d)=((eI s i).1+d,(eI s i).2)\/(s.size+d<w.size/\eI w (i+d)=(s.size+d+1,some [])/\((eI s i).2=none\/(eI s i).1=s.size)):=by
 have hs:=h.size;rcases Nat.lt_or_ge i s.size with hl|hl
 ·unfold eI;rw[h.next hl];cases hn:c7 s i with
  |none=>exact .inl rfl
  |some j=>
   obtain⟨c,n⟩:=j;obtain⟨a,f2,f3⟩:=kV hn;dsimp only;have k:i+d+n=i+n+d:=ae;rw[k];cases uP.find? (fun p=>p.1==c)with
   |some p=>exact .inl rfl
   |none=>
    dsimp only;cases c==120 with
    |true=>
     rw[aU,aU,h.fW 2 (i+n) 0 a];simp[*]
    |false=>
     rw[aN,aN];cases c==117 with
     |true=>
      rw[aU,aU,h.fW 4 (i+n) 0 a];simp[*]
     |false=>
      rw[aN,aN];cases c==48 with
      |true=>
       rw[aU,aU,h.ask a bM rfl];simp[*]
      |false=>
       rw[aN,aN];cases nf c 49 57 with
       |true=>exact .inl rfl
       |false=>
        rw[aN,aN];cases b:c==13 with
        |false=>
         grind
        |true=>
         rw[Bool.true_and,Bool.true_and];have f:hX c=true:=by rw[eq_of_beq b];rfl
         rw[f];rcases Nat.lt_or_ge (i+n) s.size with g|g
         ·rw[h.at_ g];grind
         ·have e:i+n=s.size:=by omega
          rw[e,uL (bZ _)];rcases h.nl with⟨_,q⟩| ⟨q0,q⟩
          all_goals grind
 ·have e:i=s.size:=by omega
  subst e;have l:eI s s.size=(s.size,none):=by
   unfold eI;rw[HF (bZ _)]
  rw[l];rcases h.nl with⟨q0,q⟩| ⟨q0,q⟩
  ·refine .inl ?_;unfold eI;rw[HF ae]
  ·refine .inr ⟨q0,?_,.inl rfl⟩;unfold eI;rw[Oi q q0];rfl
theorem di.text(h:di s w d)(mark:Nat):∀(f g i:Nat)(o:List Nat)(j:Nat)(u:List Nat),i<=s.size->w.size-(i+d)<g->kH s mark f i o=(j,some u)->kH w mark g (i+d) o=(j+d,some u):=by
 intro f
 induction f with
 |zero=>intro g i o j u _ _ b;cases b
 |succ f x=>
  intro g i o j u hi y a;obtain⟨g,rfl⟩:∃k,g=k+1:=⟨g-1,ae⟩;have hs:=h.size;rw[kH]at a;rcases Nat.lt_or_ge i s.size with hl|hl
  ·rw[kH,h.next hl];cases hn:c7 s i with
   |none=>rw[hn]at a;cases a
   |some r=>
    obtain⟨c,n⟩:=r;obtain⟨e,f2,f3⟩:=kV hn;rw[hn]at a;dsimp only at a⊢;have t:i+d+n=i+n+d:=ae;rw[t];cases b:(c==10||c==13)with
    |true=>rw[b]at a;cases a
    |false=>
     rw[b,aN]at a;rw[aN];cases m:c==mark with
     |true=>rw[m,aU]at a;cases a;rfl
     |false=>
      rw[m,aN]at a;rw[aN];cases p:c==92 with
      |false=>
       rw[p,aN]at a;rw[aN];exact x g (i+n) _ j u e ae a
      |true=>
       rw[p,aU]at a;rw[aU];rcases l:eI s (i+n)with⟨k,_|v⟩
       ·grind
       ·rw[l]at a;obtain⟨q1,q2,q3⟩:=DG l e;dsimp only at a;rcases h.esc e with q| ⟨_,_,q|q⟩
        ·grind
        ·grind
        ·rw[l]at q;dsimp only at q;subst q;cases f with
         |zero=>cases a
         |succ f=>
          rw[kH,HF (bZ _)]at a;cases a
  ·rw[HF hl]at a;cases a
def bh.mv(d:Nat)(x:bh):bh:={x with pos:=x.pos+d}
theorem agi:∀m∈fh,∀b∈dP m,b≠10/\b≠0:=by decide+kernel
theorem di.find(h:di s w d)(hi:i<=s.size):(fh.find? fun m=>dx w (i+d) (dP m))=fh.find? fun m=>dx s i (dP m):=by
 have key:∀l:List ByteArray,(∀m∈l,∀b∈dP m,b≠10/\b≠0)->(l.find? fun m=>dx w (i+d) (dP m))=l.find? fun m=>dx s i (dP m):=by
  intro l
  induction l with
  |nil=>intro _;rfl
  |cons m l a=>
   intro hl;rw[List.find?_cons,List.find?_cons,h.hp hi (hl m lC),a (fun x hx=>hl x (pO _ hx))]
 exact key fh agi
theorem di.ae3(h:di s w d)(hi:i<s.size):iA w (i+d)=iA s i:=by
 unfold iA;rw[h.at_ hi,show i+d+1=i+1+d by omega,h.Hn (k:=i+1) hi bM rfl]
theorem di.one(h:di s w d)(hi:i<s.size){aI:Bool}(hn:iA s i=true->(ea s i).2=true->kW (i+d)=num i){k:Nat}{x:bh}(e:gn num s i aI=(k,some x)):gn kW w (i+d) aI=(k+d,some (x.mv d)):=by
 have t:((i+d:Nat):Int)=(i:Int)+d:=ae;have q:=h.at_ hi;have n:=h.ae3 hi;cases hl:fX (bt s i)with
 |true=>
  have b:fX (bt w (i+d))=true:=by simp[*]
  rw[D0 hl]at e;rw[D0 b];cases e;have r:=mY s gM (Nat.le_of_lt hi);rw[h.Kv gM rfl (Nat.le_of_lt hi),h.ext (Nat.le_of_lt hi) r.2];rfl
 |false=>
  have b:fX (bt w (i+d))=false:=by simp[*]
  cases a:iA s i with
  |true=>
   rw[D1 hl a]at e;rw[D1 b (n.trans a),h.V8 hi];cases f:(ea s i).2 with
   |false=>rw[f]at e;cases e
   |true=>
    rw[f]at e;cases e;rw[aU,hn a f];rfl
  |false=>
   have c:=n.trans a;cases p:(bt s i==34||bt s i==39)with
   |true=>
    have g:(bt w (i+d)==34||bt w (i+d)==39)=true:=by simp[*]
    rw[D2 hl a p]at e;rw[D2 b c g];rcases l:lh s i with⟨j,_|u⟩
    ·grind
    ·rw[l]at e;cases e;have hs:=h.size;have:lh w (i+d)=(k+d,some u):=by
      unfold lh at l⊢;rw[q,show i+d+1=i+1+d by omega];exact h.text _ _ _ _ _ _ _ hi ae l
     rw[this];rfl
   |false=>
    have g:(bt w (i+d)==34||bt w (i+d)==39)=false:=by simp[*]
    rw[Bx hl a p]at e;rw[Bx b c g,h.find (Nat.le_of_lt hi)];cases o:fh.find? (fun m=>dx s i (dP m))with
    |none=>rw[o]at e;cases e
    |some m=>
     rw[o]at e;cases e;unfold bh.mv;grind
theorem di.Bl(h:di s w d)(hn:∀i,i<s.size->iA s i=true->(ea s i).2=true->kW (i+d)=num i):∀(f g i:Nat)(aI:Bool)(o r:List bh),i<=s.size->w.size-(i+d)<g->jv num s f i aI o=(r,-1)->
  ∃(x:List bh)(l:Bool)(m:Nat),r=o++x/\w.size-(s.size+d)<m/\∀n,jv kW w g (i+d) aI n=jv kW w m (s.size+d) l (n++x.map (bh.mv d)):=by
 intro f
 induction f with
 |zero=>intro g i aI o r _ _ e;cases e
 |succ f A=>
  intro g i aI o r hi E e;obtain⟨g,rfl⟩:∃k,g=k+1:=⟨g-1,ae⟩;have hs:=h.size;rw[jv]at e;have u:=Na s (s.size+1) i aI hi;have c:=abu s (s.size+1) i aI;rcases t:cT s (s.size+1) i aI with⟨q,j,l⟩;rw[t]at e u c;dsimp only at e u c;have z:q= -1:=by
   grind
  subst z;rw[bF (by decide),aN]at e;obtain⟨w1,B⟩:=h.abs (s.size+1) (w.size+1) i j aI l hi ae ae t;cases b:j==s.size with
  |true=>
   rw[b,aU]at e;have b:=eq_of_beq b;cases e;refine⟨[],l,g+1,(dn _).symm,ae,fun n=>?_⟩;rw[List.map_nil,dn,jv,jv,B b (w.size+1) ae]
  |false=>
   rw[b,aN]at e;have b:=ff.1 b;have a:j<s.size:=ae;rcases p:gn num s j l with⟨k,_|x⟩
   ·grind
   ·rw[p]at e;dsimp only at e;have y:=Ou a p;obtain⟨C,l2,m,e1,v,D⟩:=A g k false (o++[x]) r y.2 ae e;refine⟨x::C,l2,m,by simp[*],v,fun n=>?_⟩;rw[jv,w1 a];dsimp only;rw[bF (by decide),aN,show(j+d==w.size)=false from ff.2 ae,aN,h.one a (hn j a) p];simp[*]
end
end
end Go.Proofs.YtdkchodgklpomaaGreatDoor
