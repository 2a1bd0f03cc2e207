/- Part of the proof that ParseJoins answers true at every input. -/
import Derived.Test.YtdkchodgklpomaaGreatDoorPJae
set_option linter.all false
namespace Go.Proofs.YtdkchodgklpomaaGreatDoor
set_option maxRecDepth 100000
open Go.Value (int slice string bool pointer agg tuple func float iface nilIface)
open Go.IntKind (i64 u8 u64 i32 u32 u16 i8 i16)
open Go.FloatKind (f64)
open Go.Ending (returned panicked)
section
open Go
variable{P:Program}
def lZ(op:BinOp)(a b:Nat):Option Nat:=floatBits op .f64 a b
def sb(op:BinOp):ln where
 X:=Nat×Nat
 args x:=[.float .f64 x.1,.float .f64 x.2]
 cond x:=(lZ op x.1 x.2).isSome=true
 val x:=.float .f64 ((lZ op x.1 x.2).getD 0)
variable{op:BinOp}{d:Ieee.Datum}{o:Oper}{x y:Operand}{rt t:TypeId}
theorem UN(f:op= .mul\/op= .quo)(h:o.op= .binOp op t x y rt):dR P o (sb op):=by
 refine⟨fun q w ρ g e=>?_⟩;obtain⟨a,b⟩:=q;have e:(lZ op a b).isSome=true:=e;simp only[h,Op.operands,sb]at g;have d:ρ x= .float .f64 a/\ρ y= .float .f64 b:=by simpa using g
 obtain⟨hx,j⟩:=d;obtain⟨r,i⟩:=Option.isSome_iff_exists.1 e;have c:floatBits op .f64 a b=some r:=i;show _=_;have:(sb op).val (a,b)= .float .f64 r:=by show float .f64 ((lZ op a b).getD 0)=_;rw[i];rfl
 rw[this];rcases f with rfl|rfl <;> (unfold floatBits at c;simp only at c;simp[execOp,h,hx,j,eqGuard,binOp,Op.floatArith,c,Sem.run])
theorem VS(a:o.op= .binOp .mul t x y rt):dR P o (sb .mul):=UN (.inl rfl) a
theorem ai1(a:o.op= .binOp .quo t x y rt):dR P o (sb .quo):=UN (.inr rfl) a
def cG(op:BinOp)(a b:Nat):Bool:=
 match op with
 | .eql=>f64.format.order a b==some .eq
 | .lss=>f64.format.order a b==some .lt
 | .gtr=>f64.format.order a b==some .gt
 | .neq=>f64.format.order a b !=some .eq
 |_=>false
def nj(op:BinOp):ln where
 X:=Nat×Nat
 args x:=[.float .f64 x.1,.float .f64 x.2]
 cond _:=True
 val x:=.bool (cG op x.1 x.2)
theorem nZ(d:op= .eql\/op= .lss\/op= .gtr\/op= .neq)(f:o.op= .binOp op t x y rt):dR P o (nj op):=by
 refine⟨fun q w ρ e _=>?_⟩;obtain⟨a,b⟩:=q;simp only[f,Op.operands,nj]at e;have c:ρ x= .float .f64 a/\ρ y= .float .f64 b:=by simpa using e
 obtain⟨hx,g⟩:=c;rcases d with rfl|rfl|rfl|rfl <;> simp[execOp,f,hx,g,eqGuard,binOp,Op.floatCmp,nj,cG,Sem.run]
def Bb:ln where
 X:=Nat
 args x:=[.float .f64 x]
 cond _:=True
 val x:=.float .f64 (Op.negFloat .f64 x)
theorem UQ(c:o.op= .unOp .neg t x):dR P o Bb:=by
 refine⟨fun a w ρ b _=>?_⟩;simp only[c,Op.operands,Bb]at b;have hx:ρ x= .float .f64 a:=by simpa using b
 simp[execOp,c,hx,Op.unary,Bb,Sem.run]
def Hm(k:IntKind):ln where
 X:=Int
 args x:=[.int k x]
 cond _:=True
 val x:=.float .f64 (f64.nearest x)
theorem aeD{k:IntKind}{src dst:TypeId}(e:o.op= .convert src dst x)(hs:(P.underlying src).isSome=true)(hd:P.underlying dst=some (.float .f64)):dR P o (Hm k):=by
 refine⟨fun c w ρ d f=>?_⟩;simp only[e,Op.operands,Hm]at d;have b:ρ x= .int k c:=by simpa using d
 have a:=run_convert_int_float (P:=P) w src dst k .f64 c hs hd;simp only[execOp,e,b];show((convert src dst (.int k c))>>=fun v=>(pure (Next.value v):Sem Next)).run P w=_;rw[Sem.run_bind,a];rfl
def NN(x:Nat):Prop:=(Ieee.double.read x).isNaN=false
theorem V5{x:Nat}(h:x%Ieee.double.signWeight<=Ieee.double.infRung):NN x:=by
 unfold NN Ieee.Format.read;dsimp only;split
 ·rfl
 ·split
  ·rfl
  ·split
   ·rfl
   ·omega
theorem Ai:Ieee.double.signWeight=9223372036854775808:=by decide+kernel
theorem Ve:Ieee.double.infRung=9218868437227405312:=by decide+kernel
theorem Om(s:Bool)(r:Nat)(h:r<=Ieee.double.infRung):NN (Ieee.double.word s r):=by
 apply V5;unfold Ieee.Format.word;rw[Ai,Ve]at*;cases s <;> simp <;> omega
theorem V7(h:d.isNaN=false):NN (Ieee.double.write d):=by
 cases d with
 |number s m e=>
  show NN (Ieee.double.nearest s m e);unfold Ieee.Format.nearest;split
  ·exact Om _ _ (dq _)
  ·exact Om _ _ (Nat.min_le_right _ _)
 |infinity s=>exact Om _ _ (bZ _)
 |nan s f=>cases h
theorem ag0{x:Nat}(h:NN x):NN (Op.negFloat .f64 x):=by
 unfold NN at h;by_cases hl:x%Ieee.double.signWeight<=Ieee.double.infRung
 ·apply V5;have:Op.negFloat .f64 x%Ieee.double.signWeight=x%Ieee.double.signWeight:=by
   show(x^^^2^63)%Ieee.double.signWeight=_;rw[show Ieee.double.signWeight=2^63 from by rw[Ai],Nat.xor_mod_two_pow,Nat.mod_self,Nat.xor_zero]
  rw[this];exact hl
 ·exfalso;unfold Ieee.Format.read at h;dsimp only at h;rw[Ai,Ve]at*;have a:Ieee.double.binade=4503599627370496:=by decide+kernel
  rw[a]at h;rw[if_neg ae,if_neg ae,if_neg ae]at h;cases h
theorem V6(n:Int):NN (f64.nearest n):=V7 (d:=.number (n<0) n.natAbs 0) rfl
theorem HH(h:d.isNaN=false):(Option.map Ieee.double.write (some d)).isSome=true/\NN ((Option.map Ieee.double.write (some d)).getD 0):=⟨rfl,V7 (d:=d) h⟩
def FR(y:Nat):Prop:=∃s m j,Ieee.double.read y= .number s m j/\m≠0
theorem VQ{x y:Nat}(hx:NN x)(g:FR y):(lZ .mul x y).isSome=true/\NN ((lZ .mul x y).getD 0):=by
 obtain⟨s,m,j,e,f⟩:=g;show((Ieee.double.mul x y).isSome=true/\NN ((Ieee.double.mul x y).getD 0));unfold Ieee.Format.mul;rw[e];unfold NN at hx;cases hd:Ieee.double.read x with
 |number a b c=>exact HH (d:=.number (a^^s) (b*m) (c+j)) rfl
 |infinity a=>
  have:(Ieee.Datum.infinity a).product (.number s m j)=some (.infinity (a^^s)):=by
   show(if m=0 then none else some (Ieee.Datum.infinity (a^^s)))=_;rw[if_neg f]
  rw[this];exact HH (d:=.infinity (a^^s)) rfl
 |nan a b=>rw[hd]at hx;cases hx
theorem ai0{x y:Nat}(hx:NN x)(g:FR y):(lZ .quo x y).isSome=true/\NN ((lZ .quo x y).getD 0):=by
 obtain⟨s,m,j,e,f⟩:=g;show((Ieee.double.div x y).isSome=true/\NN ((Ieee.double.div x y).getD 0));unfold Ieee.Format.div;rw[e];unfold NN at hx;cases hd:Ieee.double.read x with
 |number a b c=>
  unfold Ieee.Datum.quotient;dsimp only;rw[if_neg f];exact HH (d:=.number _ _ _) rfl
 |infinity a=>exact HH (d:=.infinity (a^^s)) rfl
 |nan a b=>rw[hd]at hx;cases hx
end
section
open Go
def Ha:List Nat:=[4607182418800017408,4621819117588971520,4636737291354636288,4652007308841189376,4666723172467343360,4681608360884174848,4696837146684686336,4711630319722168320,4726483295884279808,4741671816366391296,4756540486875873280,4771362005757984768,4786511204640096256,4801453603149578240,4816244402031689728,4831355200913801216,4846369599423283200,4861130398305394688,4876203697187506176,4891288408196988160,4906019910204099648,4921056587992461136,4936209963552724370]
def mK(i:Nat):Nat:=Ha.getD i 0
def H0:List Nat:=[1,3,6,9,13,16,19,23,26]
def pX(i:Nat):Nat:=H0.getD i 0
structure qn(F:ah)(b:Nat)(t:TypeId):Prop where
 h:∀(I:a8)(m:Hp)(o:uz),CO I m->F.holds I m o->∃vs:Array Value,m b=some (.cells vs t (0,0))
variable{A B:ah}
theorem qn.sub{b:Nat}{t:TypeId}(h:qn A b t)(hs:Sub A B):qn B b t:=⟨fun I m o d c=>let ⟨e,a⟩:=hs I m o c;h.h I m e d a⟩
structure gL(tb:Nat->Nat)(lc:Nat->Nat×ByteArray)(F:ah):Prop where
 pow:∀i,i<1392->aQ F ⟨15,i,none⟩ (.int .u64 (tb i))
 i0:aQ F ⟨11,0,none⟩ (.int .u64 52)
 i1:aQ F ⟨11,1,none⟩ (.int .u64 11)
 i2:aQ F ⟨11,2,none⟩ (.int .i64 (-1023))
 D3:aQ F ⟨10,0,none⟩ (.bool true)
 bi:qn F 11 149
 bj:qn F 9 149
 fp:∃b o c,aQ F ⟨14,0,none⟩ (.slice (some ⟨b,o,none⟩) 23 c)/\∀i,i<23->aQ F ⟨b,o+i,none⟩ (.float .f64 (mK i))
 pt:∃b o c,aQ F ⟨13,0,none⟩ (.slice (some ⟨b,o,none⟩) 9 c)/\∀i,i<9->aQ F ⟨b,o+i,none⟩ (.int .i64 (pX i))
 lc:∃b o c,aQ F ⟨16,0,none⟩ (.slice (some ⟨b,o,none⟩) 61 c)/\∀i,i<61->aQ F ⟨b,o+i*2,none⟩ (.int .i64 (lc i).1)/\aQ F ⟨b,o+i*2+1,none⟩ (.string (lc i).2)
theorem gL.sub{tb:Nat->Nat}{lc:Nat->Nat×ByteArray}(h:gL tb lc A)(hs:Sub A B):gL tb lc B:=
 ⟨fun i hi=>(h.pow i hi).sub hs,h.i0.sub hs,h.i1.sub hs,h.i2.sub hs,h.D3.sub hs,h.bi.sub hs,h.bj.sub hs,
  let ⟨b,o,c,d,a⟩:=h.fp;⟨b,o,c,d.sub hs,fun i hi=>(a i hi).sub hs⟩,
  let ⟨b,o,c,d,a⟩:=h.pt;⟨b,o,c,d.sub hs,fun i hi=>(a i hi).sub hs⟩,
  let ⟨b,o,c,d,a⟩:=h.lc;⟨b,o,c,d.sub hs,fun i hi=>⟨(a i hi).1.sub hs,(a i hi).2.sub hs⟩⟩⟩
structure nL where
 m:Nat
 e:Int
 n:Bool
 tb:Nat->Nat
 lc:Nat->Nat×ByteArray
def jl(x:nL):Nat:=bif x.n then Op.negFloat .f64 (f64.nearest x.m) else f64.nearest x.m
def AY(x:nL):Nat×Int:=bif decide (x.e>22) then ((lZ .mul (jl x) (mK (x.e-22).toNat)).getD 0,22) else (jl x,x.e)
def s_(p:Nat×Int):Nat×Bool:=bif cG .gtr p.1 4831355200913801216 then (p.1,false) else bif cG .lss p.1 14054727237768577024 then (p.1,false) else ((lZ .mul p.1 (mK p.2.toNat)).getD 0,true)
def qy(x:nL):Nat×Bool:=bif decide (x.e<0) then bif decide (x.e>= -22) then ((lZ .quo (jl x) (mK (-x.e).toNat)).getD 0,true) else (jl x,false) else (jl x,false)
def lV(x:nL):Nat×Bool:=
 bif (x.m:Int).fdiv (2^min (Int.toNat 52) u64.bits)!=0 then (0,false)
 else bif x.e==0 then (jl x,true)
 else bif decide (x.e>0) then bif decide (x.e<=37) then s_ (AY x) else qy x
 else qy x
theorem NK:∀i,i<23->FR (mK i):=by
 have h:∀i:Fin 23,(match Ieee.double.read (mK i.val)with| .number _ m _=>decide (m≠0)|_=>false)=true:=by decide+kernel
 intro i hi;have:=h ⟨i,hi⟩;dsimp only at this;revert this;unfold FR;grind
theorem aaC(x:nL):NN (jl x):=by
 unfold jl;cases x.n with
 |true=>exact ag0 (V6 _)
 |false=>exact V6 _
def qz:aR where
 X:=nL
 args x:=[az x.m,ad x.e,aj x.n]
 cond x:= -100000<=x.e/\x.e<=100000
 aO x F:=gL x.tb x.lc F
 val x _:=.returned (.tuple #[.float .f64 (lV x).1,.bool (lV x).2])
structure uu where
 f:Nat
 e:Int
def aaB(x:nL)(F:ah):Nat->Option Inv:=fun
 |5=>some {X:=uu,P:=fun d=>d.f=jl x/\(lV x=bif x.e==0 then (jl x,true) else bif decide (x.e>0) then bif decide (x.e<=37) then s_ (AY x) else qy x else qy x),mu:=fun _=>0,lv:=fun d=>[(1,ad x.e),(6,float f64 d.f),(7,dk)],st:=fun _=>[F]}
 |11=>some {X:=uu,P:=fun d=>0<=d.e/\d.e<=22/\NN d.f/\lV x=s_ (d.f,d.e),mu:=fun _=>0,lv:=fun d=>[(1,ad d.e),(6,float f64 d.f),(7,dk)],st:=fun _=>[F]}
 |_=>none
def lL:=az 52
def AR(b:Oper)(aa:List Value)(a:Nat->Prop):=dR Tryz.prog b Bb/\∃(z:Nat),aa=[float f64 z]/\True/\a z
def PV(z:uu)(e0:nL):=z.f=jl e0/\(lV e0=bif e0.e==0 then (jl e0,true) else bif decide (e0.e>0) then bif decide (e0.e<=37) then s_ (AY e0) else qy e0 else qy e0)
def MN(e0:nL)(e1:ah)(v0:Value)(a:St):=∃(z:uu),PV z e0/\(ad e0.e=ad e0.e/\v0=float f64 z.f/\aj false=aj false/\True)/\aE a [(0,e1)]
def eA(aa:ah)(b:Addr)(c:Option Addr->Nat->Nat->Prop):=∃(z0:Option Addr),∃(a:Nat),∃(z2:Nat),aQ aa b (au z0 a z2)/\c z0 a z2
def qv(aa:ah)(a:Addr)(b:Nat->Prop):=∃(z0:Nat),aQ aa a (float f64 z0)/\b z0
def qV(z:Nat×Nat):List Value:=[float f64 z.fst,float f64 z.snd]
def MO(b:Oper)(aa:List Value)(a:Nat×Nat->Prop):=dR Tryz.prog b (sb BinOp.mul)/\∃(z:Nat×Nat),aa=(qV z)/\(lZ BinOp.mul z.fst z.snd).isSome=true/\a z
def MP(e0:nL)(e1:ah)(v0 v1:Value)(a:St):=∃(z:uu),(0<=z.e/\z.e<=22/\NN z.f/\lV e0=s_ (z.f,z.e))/\(v0=ad z.e/\v1=float f64 z.f/\aj false=aj false/\True)/\aE a [(0,e1)]
def GA(b:Oper)(aa:List Value)(a:Nat×Nat->Prop):=dR Tryz.prog b (nj BinOp.gtr)/\∃(z:Nat×Nat),aa=(qV z)/\True/\a z
def Ey(x:nL)(F:ah)(l:uu):=ar qz x F (ay (tuple ⟨[float f64 l.f,aj false]⟩)) [(0,F)]
def AS(b:Oper)(aa:List Value)(a:Nat×Nat->Prop):=dR Tryz.prog b (nj BinOp.lss)/\∃(z:Nat×Nat),aa=(qV z)/\True/\a z
def Tr(b:Oper)(aa:List Value)(a:Nat×Nat->Prop):=dR Tryz.prog b (sb BinOp.quo)/\∃(z:Nat×Nat),aa=(qV z)/\(lZ BinOp.quo z.fst z.snd).isSome=true/\a z
def R0(x:nL)(F:ah)(l:uu):=aS (x.e<0) (aS (x.e>=(-22:Int)) (eA F ⟨14,0,none⟩ (fun f e d=>i6 (a7 Tryz.f134 14 4) [au f e d,ad (bV ((0:Int)-x.e))] (fun c=>qv F ⟨c.b,c.o+c.n.toNat*1,none⟩ (fun b=>Tr (a7 Tryz.f134 14 6) [float f64 l.f,float f64 b] (fun a=>ar qz x F (ay (tuple ⟨[float f64 ((lZ BinOp.quo a.fst a.snd).getD 0),aj true]⟩)) [(0,F)]))))) (Ey x F l)) (Ey x F l)
theorem aaE(x:nL)(F:ah)(L:qz.cond x)(A:qz.aO x F):aQ F ⟨11,0,none⟩ lL/\Br ((x.m:Int).fdiv ((2:Int)^min (Int.toNat (52:Int)) u64.bits)!=0) (ar qz x F wS [(0,F)]) (dR Tryz.prog (a7 Tryz.f134 2 1) (Hm u64)/\∃(m:Int),[az ↑x.m]=[az m]/\True/\Br x.n (AR ⟨some 17,Op.unOp UnOp.neg 32 (Operand.tmp 16),32,"atof.go:443",⟨[⟨0,Ground.data⟩]⟩,none⟩ [float f64 (f64.nearest m)] (fun b=>MN x F (float f64 (Op.negFloat f64 b)) [(0,F)])) (MN x F (float f64 (f64.nearest m)) [(0,F)])/\aT fun(l:uu)_=>PV l x->Br (x.e==0) (ar qz x F (ay (tuple ⟨[float f64 l.f,aj true]⟩)) [(0,F)]) (aS (x.e>0) (aS (x.e<=37) (aS (x.e>22) (eA F ⟨14,0,none⟩ (fun g f e=>((-9223372036854775808:Int)<=x.e-22/\x.e-22<=(9223372036854775807:Int))/\i6 (a7 Tryz.f134 9 4) [au g f e,ad (x.e-22)] (fun d=>qv F ⟨d.b,d.o+d.n.toNat*1,none⟩ (fun c=>MO (a7 Tryz.f134 9 6) [float f64 l.f,float f64 c] (fun b=>MP x F (ad 22) (float f64 ((lZ BinOp.mul b.fst b.snd).getD 0)) [(0,F)]))))) (MP x F (ad x.e) (float f64 l.f) [(0,F)])/\aT fun(j:uu)_=>(0<=j.e/\j.e<=22/\NN j.f/\lV x=s_ (j.f,j.e))->GA (a7 Tryz.f134 11 1) [float f64 j.f,float f64 4831355200913801216] (fun h=>Br (cG BinOp.gtr h.fst h.snd) (Ey x F j) (AS (a7 Tryz.f134 11 4) [float f64 j.f,float f64 14054727237768577024] (fun g=>Br (cG BinOp.lss g.fst g.snd) (Ey x F j) (eA F ⟨14,0,none⟩ (fun f e d=>i6 (a7 Tryz.f134 12 3) [au f e d,ad j.e] (fun c=>qv F ⟨c.b,c.o+c.n.toNat*1,none⟩ (fun b=>MO (a7 Tryz.f134 12 5) [float f64 j.f,float f64 b] (fun a=>ar qz x F (ay (tuple ⟨[float f64 ((lZ BinOp.mul a.fst a.snd).getD 0),aj true]⟩)) [(0,F)]))))))))) (R0 x F l)) (R0 x F l))):=by
 delta lL wS AR PV MN eA i6 qv qV MO MP GA Ey AS Tr R0 ad az aj au bV aS ay aT;obtain⟨m,e,n,tb,lc⟩:=x;obtain⟨H,I⟩:=L;dsimp only at H I;replace A:gL tb lc F:=A;obtain⟨b,o,c,g1,O⟩:=A.fp;have fin:∀{S:St}(v:Nat×Bool),gt S 0=F->lV ⟨m,e,n,tb,lc⟩=v->aE S [(0,F)]->ar qz ⟨m,e,n,tb,lc⟩ F (returned (tuple #[float .f64 v.1,bool v.2])) S:=fun v _ E K=>
  ⟨(),ao,by show _=returned (.tuple #[.float .f64 (lV ⟨m,e,n,tb,lc⟩).1,.bool (lV ⟨m,e,n,tb,lc⟩).2]);rw[E],K⟩
 have Q:lV ⟨m,e,n,tb,lc⟩=bif (m:Int).fdiv (2^min (Int.toNat 52) u64.bits)!=0 then (0,false) else bif e==0 then (jl ⟨m,e,n,tb,lc⟩,true) else bif decide (e>0) then bif decide (e<=37) then s_ (AY ⟨m,e,n,tb,lc⟩) else qy ⟨m,e,n,tb,lc⟩ else qy ⟨m,e,n,tb,lc⟩:=rfl
 have r:aE [(0,F)] [(0,F)]:=aA [0];refine⟨A.i0,aG (fun h=>fin (0,false) rfl (by grind) r) (fun h=>⟨aeD rfl rfl rfl,(m:Int),rfl,ao,aG (fun hn=>⟨UQ rfl,_,rfl,ao,⟨jl ⟨m,e,n,tb,lc⟩,0⟩,⟨rfl,by grind⟩,⟨rfl,?_,rfl,ao⟩,r⟩) (fun hn=>⟨⟨jl ⟨m,e,n,tb,lc⟩,0⟩,⟨rfl,by grind⟩,⟨rfl,?_,rfl,ao⟩,r⟩),?_⟩)⟩
 ·have hn:n=true:=hn;unfold jl;simp[*]
 ·have hn:n=false:=hn;unfold jl;simp[*]
 rintro⟨f,_⟩ M ⟨C,z⟩;dsimp only at C z⊢;subst C;have s:=aaC ⟨m,e,n,tb,lc⟩;have neg:((e==0)=false)->(decide (e>0)=false\/decide (e<=37)=false)->lV ⟨m,e,n,tb,lc⟩=qy ⟨m,e,n,tb,lc⟩:=fun q h=>by
  grind
 have low:((e==0)=false)->(decide (e>0)=false\/decide (e<=37)=false)->Br (decide (e<0)) (Br (decide (e>= -22)) (∃(a:Option Addr),∃(l:Nat),∃(c:Nat),aQ F ⟨14,0,none⟩ (slice a l c)/\dR Tryz.prog (a7 Tryz.f134 14 4) (fJ 1)/\∃(k:ux),[slice a l c,int i64 (i64.wrap (0-e))]=[slice (some ⟨k.b,k.o,none⟩) k.len k.cap,int i64 k.n]/\(0<=k.n/\k.n<(k.len:Int))/\∃(b:Nat),aQ F ⟨k.b,k.o+k.n.toNat*1,none⟩ (float f64 b)/\dR Tryz.prog (a7 Tryz.f134 14 6) (sb BinOp.quo)/\∃(p:Nat×Nat),[float f64 (jl ⟨m,e,n,tb,lc⟩),float f64 b]=[float f64 p.fst,float f64 p.snd]/\(lZ BinOp.quo p.fst p.snd).isSome=true/\ar qz ⟨m,e,n,tb,lc⟩ F (returned (tuple #[float f64 ((lZ BinOp.quo p.fst p.snd).getD 0),bool true])) [(0,F)])
   (ar qz ⟨m,e,n,tb,lc⟩ F (returned (tuple #[float f64 (jl ⟨m,e,n,tb,lc⟩),bool false])) [(0,F)]))
   (ar qz ⟨m,e,n,tb,lc⟩ F (returned (tuple #[float f64 (jl ⟨m,e,n,tb,lc⟩),bool false])) [(0,F)]):=fun q0 q1=>
  bo (fun hl=>bo (fun D=>by
   have G:i64.wrap (0-e)= -e:=by rw[dG (i:=.i64) (n:=0-e) aK];omega
   have hi:(-e).toNat<23:=by omega
   obtain⟨q2,q3⟩:=ai0 s (NK _ hi);rw[G];exact⟨_,_,_,g1,gG 1 rfl rfl rfl rfl,⟨b,o,23,c,-e⟩,rfl,⟨by grind,by grind⟩,mK (-e).toNat,by simp[*],ai1 rfl,(jl ⟨m,e,n,tb,lc⟩,mK (-e).toNat),rfl,q2,fin (_,true) rfl (by rw[neg q0 q1];unfold qy;grind) r⟩)
   (fun D=>fin (_,false) rfl (by rw[neg q0 q1];unfold qy;dsimp only;rw[bw hl,bF D];rfl) r))
  (fun hl=>fin (_,false) rfl (by rw[neg q0 q1];unfold qy;dsimp only;rw[bF hl];rfl) r)
 refine aG (fun t=>fin (_,true) rfl (by rw[z,t];rfl) r) (fun t=>bo (fun w=>bo (fun y=>⟨bo (fun B=>?_) (fun B=>?_),?_⟩) (fun y=>low t (.inr (bF y)))) (fun w=>low t (.inl (bF w))))
 ·have hi:(e-22).toNat<23:=by omega
  obtain⟨q2,q3⟩:=VQ s (NK _ hi);refine⟨_,_,_,g1,aK,gG 1 rfl rfl rfl rfl,⟨b,o,23,c,e-22⟩,rfl,⟨by grind,by grind⟩,mK (e-22).toNat,by simp[*],VS rfl,(jl ⟨m,e,n,tb,lc⟩,mK (e-22).toNat),rfl,q2,⟨_,22⟩,⟨by simp[*],by simp[*],q3,?_⟩,aV,r⟩;rw[z,t,bw w,bw y];unfold AY;grind
 ·refine⟨⟨jl ⟨m,e,n,tb,lc⟩,e⟩,⟨by grind,by grind,s,?_⟩,aV,r⟩;rw[z,t,bw w,bw y];unfold AY;simp[*]
 rintro⟨f,u⟩ M ⟨q1,q2,q3,q4⟩;dsimp only at q1 q2 q3 q4⊢;refine⟨nZ (.inr (.inr (.inl rfl))) rfl,(f,_),rfl,ao,aG (fun B=>fin (f,false) rfl ?_ r) (fun B=>⟨nZ (.inr (.inl rfl)) rfl,(f,_),rfl,ao,aG (fun J=>fin (f,false) rfl ?_ r) (fun J=>?_)⟩)⟩
 ·rw[q4];unfold s_;simp[*]
 ·rw[q4];unfold s_;simp[*]
 ·have hi:u.toNat<23:=by omega
  obtain⟨N,P⟩:=VQ q3 (NK _ hi);refine⟨_,_,_,g1,gG 1 rfl rfl rfl rfl,⟨b,o,23,c,u⟩,rfl,⟨q1,by grind⟩,mK u.toNat,by simp[*],VS rfl,(f,mK u.toNat),rfl,N,fin (_,true) rfl ?_ r⟩;rw[q4];unfold s_;grind
theorem aaD:aD 134 qz:=fo 64 Tryz.func134 (fun _ _=>[(1,2,.q [.ex 0 (.is (.int .u64 52))]),(1,3,aW),(2,1,.qo (Hm .u64)),(4,1,.qo Bb),(9,6,.qo (sb .mul)),(11,1,.qo (nj .gtr)),(11,4,.qo (nj .lss)),(12,5,.qo (sb .mul)),(14,6,.qo (sb .quo)),(9,1,.q [.ex 0 .slice]),(9,4,.qo (fJ 1)),(9,5,.q [.ex 0 (.float .f64)]),(12,1,.q [.ex 0 .slice]),(12,3,.qo (fJ 1)),(12,4,.q [.ex 0 (.float .f64)]),(14,1,.q [.ex 0 .slice]),(14,4,.qo (fJ 1)),(14,5,.q [.ex 0 (.float .f64)])]) [] aY aaB bA [] aaE
end
section
open Go
structure AX where
 c:Int
def eK(c:Int):Int:=u8.wrap (↑(BitVec.ofInt u8.bits c|||BitVec.ofInt u8.bits 32).toNat:Int)
def lF:aR where
 X:=AX
 args x:=[ba x.c]
 val x _:=ay (ba (eK x.c))
theorem af0(x:AX)(F:ah)(a:lF.cond x)(b:lF.aO x F):ar lF x F (ay (ba (u8.wrap (↑(BitVec.ofInt u8.bits x.c|||BitVec.ofInt u8.bits (32:Int)).toNat:Int)))) [(0,F)]:=by
 delta ba ay;exact iS
theorem qM:aD 146 lF:=fo 5 Tryz.func146 (fun _ _=>[(1,1,aW)]) [] aY aY bA [] af0
structure wh where
 s:ByteArray
 p:ByteArray
def gQ(s p:ByteArray):Int:=if (s.size:Int)<p.size then s.size else p.size
def FK(s:ByteArray)(i:Int):Int:=bif (bif decide (65<=aF s i) then decide (aF s i<=90) else false) then u8.wrap (aF s i+32) else aF s i
def yb(s p:ByteArray):Nat->Int->Int
 |0,_=>gQ s p
 |f+1,i=>bif FK s i !=aF p i then i else yb s p f (i+1)
def ir(s p:ByteArray):Int:=yb s p (gQ s p).toNat 0
def sO:aR where
 X:=wh
 args x:=[ai x.s,ai x.p]
 cond x:=x.s.size<=1000000000/\x.p.size<=1000000000
 val x _:=ay (ad (ir x.s x.p))
def alG(x:wh)(F:ah):Nat->Option Inv:=fun
 |0=>some {X:=Int,P:=fun i=>0<=i/\i<=gQ x.s x.p/\ir x.s x.p=yb x.s x.p (gQ x.s x.p-i).toNat i,mu:=fun i=>(gQ x.s x.p-i).toNat,lv:=fun i=>[(0,ai x.s),(1,ai x.p),(5,ad (gQ x.s x.p)),(6,ad i)],st:=fun _=>[F]}
 |_=>none
def I_(z:Int)(e0:wh):=0<=z/\z<=gQ e0.s e0.p/\ir e0.s e0.p=yb e0.s e0.p (gQ e0.s e0.p-z).toNat z
def dE(c:Int):=(-9223372036854775808:Int)<=c+1/\c+1<=(9223372036854775807:Int)
def MQ(e0:wh)(e1:ah)(v0:Value)(a:St)(mm:Nat):=∃(z:Int),I_ z e0/\(ai e0.s=ai e0.s/\ai e0.p=ai e0.p/\ad (gQ e0.s e0.p)=ad (gQ e0.s e0.p)/\v0=ad z/\True)/\aE a [(0,e1)]/\(gQ e0.s e0.p-z).toNat<mm
def Pt(c:Int)(x:wh)(F:ah):=(0<=c/\c<x.p.size)/\Br (aF x.s c !=aF x.p c) (ar sO x F (ay (ad c)) [(0,F)]) (dE c/\MQ x F (ad (c+1)) [(0,F)] ((gQ x.s x.p-c).toNat))
theorem alH(x:wh)(F:ah)(m:sO.cond x)(q:sO.aO x F):(∃(a:Int),I_ a x/\(ai x.s=ai x.s/\ai x.p=ai x.p/\ad (if (x.s.size:Int)<(x.p.size:Int) then (x.s.size:Int) else (x.p.size:Int))=ad (gQ x.s x.p)/\ad 0=ad a/\True)/\aE [(0,F)] [(0,F)])/\aT fun(c:Int)_=>I_ c x->aS (c<gQ x.s x.p) ((0<=c/\c<x.s.size)/\aS (65<=aF x.s c) (aS (aF x.s c<=90) ((0<=c/\c<x.p.size)/\Br (u8.wrap (aF x.s c+32)!=aF x.p c) (ar sO x F (ay (ad c)) [(0,F)]) (dE c/\MQ x F (ad (c+1)) [(0,F)] ((gQ x.s x.p-c).toNat))) (Pt c x F)) (Pt c x F)) (ar sO x F (ay (ad (gQ x.s x.p))) [(0,F)]):=by
 delta I_ dE MQ Pt ad ai aS ay aT;obtain⟨s,p⟩:=x;obtain⟨g,j⟩:=m;dsimp only at g j⊢;have l:0<=gQ s p/\gQ s p<=s.size/\gQ s p<=p.size:=by unfold gQ;split <;> omega
 have f:aE [(0,F)] [(0,F)]:=aA [0];have fin:∀v,ir s p=v->ar sO ⟨s,p⟩ F (returned (int .i64 v)) [(0,F)]:=fun v e=>
  ⟨(),ao,by show _=returned (.int .i64 (ir s p));rw[e],f⟩
 refine⟨⟨0,⟨cE _,l.1,by unfold ir;simp[*]⟩,aV,f⟩,?_⟩;rintro i r ⟨i0,i1,i2⟩;refine bo (fun o=>?_) (fun n=>fin _ ?_)
 ·obtain⟨k,hk⟩:∃k,(gQ s p-i).toNat=k+1:=⟨(gQ s p-i).toNat-1,ae⟩;rw[hk]at i2;have b:∀c,FK s i=c->((0<=i/\i<(p.size:Int))/\Br (c !=aF p i) (ar sO ⟨s,p⟩ F (returned (int .i64 i)) [(0,F)]) ((-9223372036854775808<=i+1/\i+1<=9223372036854775807)/\∃(y:Int),(0<=y/\y<=gQ s p/\ir s p=yb s p (gQ s p-y).toNat y)/\(string s=string s/\string p=string p/\int .i64 (gQ s p)=int .i64 (gQ s p)/\int .i64 (i+1)=int .i64 y/\True)/\aE [(0,F)] [(0,F)]/\(gQ s p-y).toNat<(gQ s p-i).toNat)):=by
   intro c d;refine⟨⟨i0,ae⟩,aG (fun h=>fin _ ?_) (fun h=>⟨aK,i+1,⟨ae,ae,?_⟩,aV,f,ae⟩)⟩
   ·rw[i2,yb,d,show(c !=aF p i)=true from h];rfl
   ·rw[i2,yb,d,show(c !=aF p i)=false from h,aN,show(gQ s p-(i+1)).toNat=k by omega]
  refine⟨⟨i0,ae⟩,bo (fun q1=>bo (fun q2=>b _ ?_) (fun q2=>b _ ?_)) (fun q1=>b _ ?_)⟩
  ·unfold FK;simp[*]
  ·unfold FK;simp[*]
  ·unfold FK;simp[*]
 ·have:(gQ s p-i).toNat=0:=by omega
  rw[i2,this,yb]
theorem XS:aD 143 sO:=fo 36 Tryz.func143 (fun _ _=>[(1,4,aW),(7,1,aW)]) [] alG aY bA [] alH
def CL(s:Int):Nat:=bif decide (s>=0) then 9218868437227405312 else 18442240474082181120
def At:aR where
 X:=Int
 args x:=[ad x]
 val x _:=ay (float f64 (CL x))
theorem alT(x:Int)(F:ah)(a:At.cond x)(b:At.aO x F):aS (x>=0) (ar At x F (ay (float f64 9218868437227405312)) [(0,F)]) (ar At x F (ay (float f64 18442240474082181120)) [(0,F)]):=by
 delta aS ay;exact aG (fun h=>⟨(),ao,by show _=returned (.float .f64 (bif decide (x>=0) then 9218868437227405312 else 18442240474082181120));simp[*],aA [0]⟩) (fun h=>⟨(),ao,by show _=returned (.float .f64 (bif decide (x>=0) then 9218868437227405312 else 18442240474082181120));simp[*],aA [0]⟩)
theorem XX:aD 144 At:=fo 8 Tryz.func144 (fun _ _=>[]) [(5,1,aW)] aY aY bA [] alT
def CM:aR where
 X:=Unit
 args _:=[]
 val _ _:=ay (float f64 9221120237041090561)
theorem alV(x:PUnit)(F:ah)(a:CM.cond x)(b:CM.aO x F):ar CM x F zH [(0,F)]:=by
 delta zH ay;exact iS
theorem alU:aD 145 CM:=fo 2 Tryz.func145 (fun _ _=>[]) [(1,0,aW)] aY aY bA [] alV
def uo:ByteArray:=ByteArray.mk #[105,110,102,105,110,105,116,121]
def vP:ByteArray:=ByteArray.mk #[110,97,110]
def nK(t:ByteArray):Int:=bif (bif decide (3<ir t uo) then decide (ir t uo<8) else false) then 3 else ir t uo
def rE(t:ByteArray)(sg ns:Int):Nat×Int×Bool:=bif (bif nK t==3 then true else nK t==8) then (CL sg,ns+nK t,true) else (0,0,false)
def et(s:ByteArray):Nat×Int×Bool:=
 bif (s.size:Int)==0 then (0,0,false)
 else bif aF s 0==43||aF s 0==45 then rE (s.extract 1 s.size) (bif aF s 0==45 then-1 else 1) 1
 else bif aF s 0==105||aF s 0==73 then rE s 1 0
 else bif aF s 0==110||aF s 0==78 then (bif ir s vP==3 then (9221120237041090561,3,true) else (0,0,false))
 else (0,0,false)
structure bL where
 s:ByteArray
def yf:aR where
 X:=bL
 args x:=[ai x.s]
 cond x:=x.s.size<=1000000000
 val x _:=.returned (.tuple #[.float .f64 (et x.s).1,.int .i64 (et x.s).2.1,.bool (et x.s).2.2])
structure s9 where
 t:ByteArray
 sg:Int
 ns:Int
 n:Int
def al9(x:bL)(F:ah):Nat->Option Inv:=fun
 |12=>some {X:=Unit,P:=fun _=>0<x.s.size/\et x.s=rE (x.s.extract 1 x.s.size) (bif aF x.s 0==45 then-1 else 1) 1,mu:=fun _=>0,lv:=fun _=>[(0,ai x.s),(5,ad 1)],st:=fun _=>[F]}
 |16=>some {X:=s9,P:=fun d=>d.t.size<=1000000000/\et x.s=rE d.t d.sg d.ns/\0<=d.ns/\d.ns<=1,mu:=fun _=>0,lv:=fun d=>[(0,ai d.t),(5,ad d.sg),(6,ad d.ns)],st:=fun _=>[F]}
 |19=>some {X:=s9,P:=fun d=>et x.s=(bif (bif d.n==3 then true else d.n==8) then (CL d.sg,d.ns+d.n,true) else (0,0,false))/\0<=d.ns/\d.ns<=1,mu:=fun _=>0,lv:=fun d=>[(5,ad d.sg),(6,ad d.ns),(7,ad d.n)],st:=fun _=>[F]}
 |21=>some {X:=Unit,P:=fun _=>et x.s=(bif ir x.s vP==3 then (9221120237041090561,3,true) else (0,0,false)),mu:=fun _=>0,lv:=fun _=>[(0,ai x.s)],st:=fun _=>[F]}
 |23=>some {X:=Unit,P:=fun _=>et x.s=(0,0,false),mu:=fun _=>0,lv:=fun _=>[],st:=fun _=>[F]}
 |_=>none
def Ra:=ay (tuple ⟨[float f64 0,ad 0,aj false]⟩)
def qR(x:bL):=(0:Int)<=(0:Int)/\0<(x.s.size:Int)
def vk(x:bL):=aF x.s (0:Int)==(43:Int)
def P0(e0:bL):=0<e0.s.size/\et e0.s=rE (e0.s.extract 1 e0.s.size) (bif aF e0.s (0:Int)==(45:Int) then (-1:Int) else (1:Int)) (1:Int)
def MR(e0:bL)(e1:ah)(a:St):=∃(z:Unit),P0 e0/\(ai e0.s=ai e0.s/\ad 1=ad 1/\True)/\aE a [(0,e1)]
def RT(z:s9)(e0:bL):=z.t.size<=1000000000/\et e0.s=rE z.t z.sg z.ns/\0<=z.ns/\z.ns<=1
def Dn(e0:bL)(e1:ah)(v0 v1 v2:Value)(a:St):=∃(z:s9),RT z e0/\(v0=ai z.t/\v1=ad z.sg/\v2=ad z.ns/\True)/\aE a [(0,e1)]
def MS(e0:bL)(e1:ah)(a:St):=∃(z:Unit),(et e0.s=bif ir e0.s vP==3 then (9221120237041090561,(3:Int),true) else (0,(0:Int),false))/\(ai e0.s=ai e0.s/\True)/\aE a [(0,e1)]
def Ez(x:bL)(F:ah):=∃(a:Unit),et x.s=(0,(0:Int),false)/\True/\aE [(0,F)] [(0,F)]
def Qy(x:bL)(F:ah):=Br (aF x.s (0:Int)==(110:Int)) (Br (aF x.s (0:Int)==(110:Int)) (MS x F [(0,F)]) (Ez x F)) (Br (aF x.s (0:Int)==(78:Int)) (MS x F [(0,F)]) (Ez x F))
def O7(x:bL)(F:ah):=Br (aF x.s (0:Int)==(105:Int)) (Br (aF x.s (0:Int)==(105:Int)) (Dn x F (ai x.s) (ad 1) (ad 0) [(0,F)]) (Qy x F)) (Br (aF x.s (0:Int)==(73:Int)) (Dn x F (ai x.s) (ad 1) (ad 0) [(0,F)]) (Qy x F))
def tU(x:bL):=aF x.s (0:Int)==(45:Int)
def wR(x:bL):=(0:Int)<=(1:Int)/\1<=(x.s.size:Int)/\(x.s.size:Int)<=(x.s.size:Int)
def wT(x:bL):=ai (x.s.extract (Int.toNat (1:Int)) (x.s.size:Int).toNat)
def MT(aa:List Value)(a:wh->Unit->Prop):=aD 143 sO/\true=true/\∃(z:wh),aa=[ai z.s,ai z.p]/\([]:List ah)=[]/\(z.s.size<=1000000000/\z.p.size<=1000000000)/\True/\∀(b:Unit),True->a z b
def Qd(e0:bL)(z:s9):=(et e0.s=bif bif z.n==3 then true else z.n==8 then (CL z.sg,z.ns+z.n,true) else (0,(0:Int),false))/\0<=z.ns/\z.ns<=1
def GB(e0:bL)(e1:ah)(v0 v1 v2:Value)(a:St):=∃(z:s9),Qd e0 z/\(v0=ad z.sg/\v1=ad z.ns/\v2=ad z.n/\True)/\aE a [(0,e1)]
def Ts(aa:List Value)(a:Int->Unit->Prop):=aD 144 At/\true=true/\∃(z:Int),aa=[ad z]/\([]:List ah)=[]/\True/\True/\∀(b:Unit),True->a z b
def PH(d:s9)(x:bL)(F:ah):=Ts [ad d.sg] (fun b a=>bK (d.ns+d.n)/\ar yf x F (ay (tuple ⟨[float f64 (CL b),ad (d.ns+d.n),aj true]⟩)) [(0,F)])
theorem amb(x:bL)(F:ah)(w:yf.cond x)(D:yf.aO x F):Br ((x.s.size:Int)==0) (ar yf x F Ra [(0,F)]) ((qR x/\((Br (vk x) (Br (vk x) (MR x F [(0,F)]) (O7 x F)) (Br (tU x) (MR x F [(0,F)]) (O7 x F))/\aT fun(c:Unit)_=>P0 x->qR x/\Br (tU x) (wR x/\Dn x F (wT x) (ad (-1)) (ad 1) [(0,F)]) (wR x/\Dn x F (wT x) (ad 1) (ad 1) [(0,F)]))/\aT fun(h:s9)_=>RT h x->MT [ai h.t,ai ⟨#[105,110,102,105,110,105,116,121]⟩] (fun f e=>aS (3<ir f.s f.p) (aS (ir f.s f.p<8) (GB x F (ad h.sg) (ad h.ns) (ad 3) [(0,F)]) (GB x F (ad h.sg) (ad h.ns) (ad (ir f.s f.p)) [(0,F)])) (GB x F (ad h.sg) (ad h.ns) (ad (ir f.s f.p)) [(0,F)])/\aT fun(d:s9)_=>Qd x d->Br (d.n==3) (PH d x F) (Br (d.n==8) (PH d x F) (Ez x F))))/\aT fun(f:Unit)_=>(et x.s=bif ir x.s vP==3 then (9221120237041090561,(3:Int),true) else (0,(0:Int),false))->MT [ai x.s,ai ⟨#[110,97,110]⟩] (fun d c=>Br (ir d.s d.p==3) (aD 145 CM/\true=true/\∃(b:Unit),([]:List Value)=[]/\([]:List ah)=[]/\True/\True/\∀(a:Unit),True->ar yf x F (ay (tuple ⟨[float f64 9221120237041090561,ad 3,aj true]⟩)) [(0,F)]) (Ez x F)))/\aT fun(b:Unit)_=>et x.s=(0,(0:Int),false)->ar yf x F Ra [(0,F)]):=by
 delta Ra qR vk P0 MR RT Dn MS Ez Qy O7 tU wR wT MT Qd GB Ts PH bK ad ai aj aS ay aT;obtain⟨s⟩:=x;have w:s.size<=1000000000:=w;dsimp only;have i:aE [(0,F)] [(0,F)]:=aA [0];have fin:∀v:Nat×Int×Bool,et s=v->ar yf ⟨s⟩ F (returned (tuple #[float .f64 v.1,int .i64 v.2.1,bool v.2.2])) [(0,F)]:=fun v e=>
  ⟨(),ao,by show _=returned (.tuple #[.float .f64 (et s).1,.int .i64 (et s).2.1,.bool (et s).2.2]);rw[e],i⟩
 have C:et s=bif (s.size:Int)==0 then (0,0,false)
  else bif aF s 0==43||aF s 0==45 then rE (s.extract 1 s.size) (bif aF s 0==45 then-1 else 1) 1
  else bif aF s 0==105||aF s 0==73 then rE s 1 0
  else bif aF s 0==110||aF s 0==78 then (bif ir s vP==3 then (9221120237041090561,3,true) else (0,0,false))
  else (0,0,false):=rfl
 refine aG (fun A=>fin (0,0,false) (by simp[*])) (fun A=>?_);have u:0<s.size:=by
  grind
 rw[show((s.size:Int)==0)=false from A,aN]at C;refine⟨⟨⟨cE _,ae⟩,⟨⟨⟨?_,?_⟩,?_⟩,?_⟩⟩,?_⟩
 ·have m:(aF s 0==43||aF s 0==45)=true->(∃(g:Unit),(0<s.size/\et s=rE (s.extract 1 s.size) (bif aF s 0==45 then-1 else 1) 1)/\(string s=string s/\int .i64 1=int .i64 1/\True)/\aE [(0,F)] [(0,F)]):=fun h=>
   ⟨(),⟨u,by simp[*]⟩,aV,i⟩
  have o:(aF s 0==43||aF s 0==45)=false->(aF s 0==105||aF s 0==73)=true->(∃(g:s9),(g.t.size<=1000000000/\et s=rE g.t g.sg g.ns/\0<=g.ns/\g.ns<=1)/\(string s=string g.t/\int .i64 1=int .i64 g.sg/\int .i64 0=int .i64 g.ns/\True)/\aE [(0,F)] [(0,F)]):=fun h j=>
   ⟨⟨s,1,0,0⟩,⟨w,by simp[*],by simp[*],by simp[*]⟩,aV,i⟩
  have p:(aF s 0==43||aF s 0==45)=false->(aF s 0==105||aF s 0==73)=false->(aF s 0==110||aF s 0==78)=true->(∃(g:Unit),(et s=bif ir s vP==3 then (9221120237041090561,3,true) else (0,0,false))/\(string s=string s/\True)/\aE [(0,F)] [(0,F)]):=fun h j l=>
   ⟨(),by simp[*],⟨rfl,ao⟩,i⟩
  have r:(aF s 0==43||aF s 0==45)=false->(aF s 0==105||aF s 0==73)=false->(aF s 0==110||aF s 0==78)=false->(∃(g:Unit),et s=(0,0,false)/\True/\aE [(0,F)] [(0,F)]):=fun h j l=>
   ⟨(),by simp[*],ao,i⟩
  revert m o p r;generalize (aF s 0==43)=a1,(aF s 0==45)=a2,(aF s 0==105)=a3,(aF s 0==73)=a4,(aF s 0==110)=a5,(aF s 0==78)=B;intro m o p r;cases a1 <;> cases a2 <;> cases a3 <;> cases a4 <;> cases a5 <;> cases B <;> first|exact m rfl|exact o rfl rfl|exact p rfl rfl rfl|exact r rfl rfl rfl
 ·rintro _ z ⟨y,k⟩;refine⟨⟨cE _,ae⟩,aG (fun h=>⟨⟨ae,ae,ae⟩,⟨s.extract 1 s.size,-1,1,0⟩,⟨by dsimp only;rw[hT];omega,by simp[*],by simp[*],by simp[*]⟩,aV,i⟩) (fun h=>⟨⟨ae,ae,ae⟩,⟨s.extract 1 s.size,1,1,0⟩,⟨by dsimp only;rw[hT];omega,by grind,by simp[*],by simp[*]⟩,aV,i⟩)⟩
 ·rintro⟨t,sg,ns,_⟩ z ⟨y,k,j,l⟩;dsimp only at y k j l⊢;have G:et s=(bif (bif nK t==3 then true else nK t==8) then (CL sg,ns+nK t,true) else (0,0,false)):=k;have E:0<=ir t uo\/True:=.inr trivial;refine bO XS ⟨t,uo⟩ ⟨y,by show uo.size<=_;decide⟩ fun _ _=>⟨aG (fun q1=>aG (fun q2=>⟨⟨t,sg,ns,3⟩,⟨?_,j,l⟩,aV,i⟩) (fun q2=>⟨⟨t,sg,ns,ir t uo⟩,⟨?_,j,l⟩,aV,i⟩)) (fun q1=>⟨⟨t,sg,ns,ir t uo⟩,⟨?_,j,l⟩,aV,i⟩),?_⟩
  ·have:nK t=3:=by unfold nK;simp[*]
   grind
  ·have:nK t=ir t uo:=by unfold nK;simp[*]
   grind
  ·have:nK t=ir t uo:=by unfold nK;simp[*]
   grind
  rintro⟨_,sg,ns,n⟩ z ⟨k,j,l⟩;dsimp only at k j l⊢;refine aG (fun q=>l6 XX sg fun _ _=>⟨?_,fin (_,_,true) (by rw[k,show(n==3)=true from q];rfl)⟩) (fun q=>aG (fun q2=>l6 XX sg fun _ _=>⟨?_,fin (_,_,true) (by rw[k,show(n==3)=false from q,show(n==8)=true from q2];rfl)⟩) (fun q2=>⟨(),by grind,ao,i⟩))
  all_goals grind
 ·rintro _ z k;exact bO XS ⟨s,vP⟩ ⟨w,by show vP.size<=_;decide⟩ fun _ _=>aG (fun q=>l6 alU () fun _ _=>fin (9221120237041090561,3,true) (by grind)) (fun q=>⟨(),by grind,ao,i⟩)
 grind
theorem ama:aD 123 yf:=fo 50 Tryz.func123 (fun _ _=>[(16,1,aX sO),(20,1,aX At),(21,1,aX sO),(22,0,aX CM)]) [] aY al9 bA [] amb
end
section
open Go
def cA(s:ByteArray):ByteArray:=bif (bif decide ((s.size:Int)>=1) then (bif aF s 0==45 then true else aF s 0==43) else false) then s.extract 1 s.size else s
def po(t:ByteArray):Bool:=bif (bif decide ((t.size:Int)>=2) then aF t 0==48 else false) then (bif (bif eK (aF t 1)==98 then true else eK (aF t 1)==111) then true else eK (aF t 1)==120) else false
def qj(t:ByteArray)(hx:Bool)(i:Int):Bool:=bif (bif decide (48<=aF t i) then decide (aF t i<=57) else false) then true else (bif (bif hx then decide (97<=eK (aF t i)) else false) then decide (eK (aF t i)<=102) else false)
def rF(t:ByteArray)(hx:Bool):Nat->Int->Int->Bool
 |0,_,eU=>eU !=95
 |f+1,i,eU=>bif qj t hx i then rF t hx f (i+1) 48 else bif aF t i==95 then (bif eU !=48 then false else rF t hx f (i+1) 95) else (bif eU==95 then false else rF t hx f (i+1) 33)
def pq(s:ByteArray):Bool:=bif po (cA s) then rF (cA s) (eK (aF (cA s) 1)==120) ((cA s).size-2) 2 48 else rF (cA s) false (cA s).size 0 94
def vV:aR where
 X:=bL
 args x:=[ai x.s]
 cond x:=x.s.size<=1000000000
 val x _:=ay (aj (pq x.s))
structure gU where
 t:ByteArray
 hx:Bool
 i:Int
 eU:Int
def Aw:(T:Type)×(gU->T):=⟨gU,fun d=>d⟩
def ami(x:bL)(F:ah):Nat->Option Inv:=fun
 |5=>some {X:=Unit,P:=fun _=>True,mu:=fun _=>0,lv:=fun _=>[(0,ai (cA x.s)),(3,eh 94),(4,ad 0)],st:=fun _=>[F]}
 |7=>some {X:=Unit,P:=fun _=>True,mu:=fun _=>0,lv:=fun _=>[(0,ai (cA x.s)),(3,eh 94),(4,ad 0),(5,dk),(46,aj (po (cA x.s)))],st:=fun _=>[F]}
 |10=>some {X:=gU,P:=fun d=>0<=d.i/\d.i<=(cA x.s).size/\pq x.s=rF (cA x.s) d.hx ((cA x.s).size-d.i).toNat d.i d.eU,mu:=fun _=>0,lv:=fun d=>[(0,ai (cA x.s)),(3,eh d.eU),(4,ad d.i),(5,aj d.hx)],st:=fun _=>[F]}
 |13=>some {X:=gU,gh:=some Aw,P:=fun d=>0<=d.i/\d.i<(cA x.s).size,mu:=fun _=>0,lv:=fun d=>[(0,ai (cA x.s)),(3,eh d.eU),(4,ad d.i),(5,aj d.hx),(83,aj (qj (cA x.s) d.hx d.i))],st:=fun _=>[F]}
 |_=>none
def amj(x:bL)(F:ah):Nat->Option Inv:=fun
 |0=>some {X:=gU,P:=fun d=>0<=d.i/\d.i<=(cA x.s).size/\pq x.s=rF (cA x.s) d.hx ((cA x.s).size-d.i).toNat d.i d.eU,mu:=fun d=>((cA x.s).size-d.i).toNat,lv:=fun d=>[(0,ai (cA x.s)),(3,eh d.eU),(4,ad d.i),(5,aj d.hx)],st:=fun _=>[F]}
 |_=>none
def Dp(e0:ah)(e1:bL)(v0:Value)(a:St):=∃(z:Unit),True/\(v0=ai (cA e1.s)/\eh 94=eh 94/\ad 0=ad 0/\True)/\aE a [(0,e0)]
def EI(x:bL):=(0:Int)<=(1:Int)/\1<(↑(cA x.s).size:Int)
def nS(aa:List Value)(a:AX->Unit->Prop):=aD 146 lF/\true=true/\∃(z:AX),aa=[ba z.c]/\([]:List ah)=[]/\True/\True/\∀(b:Unit),True->a z b
def EV(x:bL):List Value:=[ba (aF (cA x.s) (1:Int))]
def AT(e0:ah)(e1:bL)(v0:Value)(a:St):=∃(z:Unit),True/\(ai (cA e1.s)=ai (cA e1.s)/\eh 94=eh 94/\ad 0=ad 0/\aj false=aj false/\v0=aj (po (cA e1.s))/\True)/\aE a [(0,e0)]
def Ee(z:gU)(e0:bL):=0<=z.i/\z.i<=(↑(cA e0.s).size:Int)/\pq e0.s=rF (cA e0.s) z.hx ((↑(cA e0.s).size:Int)-z.i).toNat z.i z.eU
def GC(e0:bL)(e1:ah)(v0 v1 v2:Value)(a:St):=∃(z:gU),Ee z e0/\(ai (cA e0.s)=ai (cA e0.s)/\v0=eh z.eU/\v1=ad z.i/\v2=aj z.hx/\True)/\aE a [(0,e1)]
def wW(h:gU)(x:bL):=0<=h.i/\h.i<(↑(cA x.s).size:Int)
def Dq(e0:bL)(e1:gU)(a:ah)(v0 v1 v2 v3:Value)(b:St):=∃(z:gU),(wW z e0/\Aw.snd z=e1)/\(ai (cA e0.s)=ai (cA e0.s)/\v0=eh z.eU/\v1=ad z.i/\v2=aj z.hx/\v3=aj (qj (cA e0.s) z.hx z.i)/\True)/\aE b [(0,a)]
def OO(h:gU)(x:bL)(f:gU)(F:ah):=Br h.hx (wW h x/\nS [ba (aF (cA x.s) h.i)] (fun e d=>aS (97<=eK e.c) (wW h x/\nS [ba (aF (cA x.s) h.i)] (fun c b=>Dq x f F (eh h.eU) (ad h.i) (aj h.hx) (aj (decide (eK c.c<=102))) [(0,F)])) (Dq x f F (eh h.eU) (ad h.i) (aj h.hx) dk [(0,F)]))) (Dq x f F (eh h.eU) (ad h.i) (aj h.hx) dk [(0,F)])
def I7(c:gU):=(-9223372036854775808:Int)<=c.i+1/\c.i+1<=(9223372036854775807:Int)
def GD(e0:bL)(e1:ah)(v0 v1 v2:Value)(a:St)(mm:Nat):=∃(z:gU),Ee z e0/\(ai (cA e0.s)=ai (cA e0.s)/\v0=eh z.eU/\v1=ad z.i/\v2=aj z.hx/\True)/\aE a [(0,e1)]/\((↑(cA e0.s).size:Int)-z.i).toNat<mm
theorem aml(x:bL)(F:ah)(G:vV.cond x)(N:vV.aO x F):aS ((x.s.size:Int)>=1) (qR x/\Br (tU x) (wR x/\Dp F x (wT x) [(0,F)]) (qR x/\Br (vk x) (wR x/\Dp F x (wT x) [(0,F)]) (Dp F x (ai x.s) [(0,F)]))) (Dp F x (ai x.s) [(0,F)])/\aT fun(l:Unit)_=>True->(aS ((↑(cA x.s).size:Int)>=2) (((0:Int)<=(0:Int)/\0<(↑(cA x.s).size:Int))/\Br (aF (cA x.s) (0:Int)==(48:Int)) (EI x/\nS (EV x) (fun g f=>Br (eK g.c==98) (AT F x (aj true) [(0,F)]) (EI x/\nS (EV x) (fun e d=>Br (eK e.c==111) (AT F x (aj true) [(0,F)]) (EI x/\nS (EV x) (fun c b=>AT F x (aj (eK c.c==120)) [(0,F)])))))) (AT F x dk [(0,F)])) (AT F x dk [(0,F)])/\aT fun(e:Unit)_=>True->Br (po (cA x.s)) (EI x/\nS (EV x) (fun c b=>GC x F (eh 48) (ad 2) (aj (eK c.c==120)) [(0,F)])) (GC x F (eh 94) (ad 0) dk [(0,F)]))/\aT fun(j:gU)_=>Ee j x->GC x F (eh j.eU) (ad j.i) (aj j.hx) [(0,F)]/\aT fun(h:gU)_=>Ee h x->aS (h.i<(↑(cA x.s).size:Int)) (∃(f:gU),(wW h x/\aS (48<=aF (cA x.s) h.i) (wW h x/\aS (aF (cA x.s) h.i<=57) (Dq x f F (eh h.eU) (ad h.i) (aj h.hx) (aj true) [(0,F)]) (OO h x f F)) (OO h x f F))/\aT fun(c:gU)_=>(wW c x/\Aw.snd c=f)->Br (qj (cA x.s) c.hx c.i) (I7 c/\GD x F (eh 48) (ad (c.i+1)) (aj c.hx) [(0,F)] (((↑(cA x.s).size:Int)-h.i).toNat)) (wW c x/\Br (aF (cA x.s) c.i==95) (Br (c.eU !=48) (ar vV x F cQ [(0,F)]) (I7 c/\GD x F (eh 95) (ad (c.i+1)) (aj c.hx) [(0,F)] (((↑(cA x.s).size:Int)-h.i).toNat))) (Br (c.eU==95) (ar vV x F cQ [(0,F)]) (I7 c/\GD x F (eh 33) (ad (c.i+1)) (aj c.hx) [(0,F)] (((↑(cA x.s).size:Int)-h.i).toNat))))) (ar vV x F (ay (aj (h.eU !=95))) [(0,F)]):=by
 delta qR tU wR Dp wT vk EI nS EV AT dk Ee GC wW Dq OO I7 GD cQ ad ba eh ai aj aS ay aT;obtain⟨s⟩:=x;have G:s.size<=1000000000:=G;dsimp only;have r:aE [(0,F)] [(0,F)]:=aA [0];have O:(cA s).size<=1000000000:=by
  unfold cA;cases (bif decide ((s.size:Int)>=1) then (bif aF s 0==45 then true else aF s 0==43) else false)with
  |true=>rw[aU,hT];omega
  |false=>exact G
 have fin:∀v:Bool,pq s=v->ar vV ⟨s⟩ F (returned (bool v)) [(0,F)]:=fun v e=>
  ⟨(),ao,by show _=returned (.bool (pq s));rw[e],r⟩
 refine⟨?_,fun _ C _=>⟨⟨?_,fun _ C _=>?_⟩,?_⟩⟩
 ·have y:∀t,t=cA s->(∃(L:Unit),True/\(string t=string (cA s)/\int .i32 94=int .i32 94/\int .i64 0=int .i64 0/\True)/\aE [(0,F)] [(0,F)]):=fun t e=>⟨(),ao,⟨by rw[e],rfl,rfl,ao⟩,r⟩;refine bo (fun u=>⟨⟨cE _,ae⟩,aG (fun p=>⟨⟨ae,ae,ae⟩,y _ ?_⟩) (fun p=>⟨⟨cE _,ae⟩,aG (fun A=>⟨⟨ae,ae,ae⟩,y _ ?_⟩) (fun A=>y _ ?_)⟩)⟩) (fun u=>y _ ?_)
  ·unfold cA;simp[*]
  ·unfold cA;simp[*]
  ·unfold cA;simp[*]
  ·unfold cA;simp[*]
 ·generalize cA s=t at*;have y:∀b,b=po t->(∃(M:Unit),True/\(string t=string t/\int .i32 94=int .i32 94/\int .i64 0=int .i64 0/\bool false=bool false/\bool b=bool (po t)/\True)/\aE [(0,F)] [(0,F)]):=fun t e=>⟨(),ao,⟨rfl,rfl,rfl,rfl,by rw[e],ao⟩,r⟩;refine bo (fun u=>⟨⟨cE _,ae⟩,aG (fun p=>⟨aK,qM,rfl,⟨_⟩,rfl,rfl,ao,ao,fun _ _=>aG (fun A=>y _ ?_) (fun A=>⟨aK,qM,rfl,⟨_⟩,rfl,rfl,ao,ao,fun _ _=>aG (fun E=>y _ ?_) (fun E=>⟨aK,qM,rfl,⟨_⟩,rfl,rfl,ao,ao,fun _ _=>y _ ?_⟩)⟩)⟩) (fun p=>y _ ?_)⟩) (fun u=>y _ ?_)
  ·unfold po;rw[bw u,show(aF t 0==48)=true from p,show(eK (aF t 1)==98)=true from A];rfl
  ·unfold po;rw[bw u,show(aF t 0==48)=true from p,show(eK (aF t 1)==98)=false from A,show(eK (aF t 1)==111)=true from E];rfl
  ·unfold po;rw[bw u,show(aF t 0==48)=true from p,show(eK (aF t 1)==98)=false from A,show(eK (aF t 1)==111)=false from E];rfl
  ·unfold po;simp[*]
  ·unfold po;simp[*]
 ·refine aG (fun h=>?_) (fun h=>⟨⟨cA s,false,0,94⟩,⟨by simp[*],by simp[*],?_⟩,aV,r⟩)
  ·have p:2<=(cA s).size:=by
    have h:po (cA s)=true:=h;unfold po at h;grind
   refine⟨aK,qM,rfl,⟨_⟩,rfl,rfl,ao,ao,fun _ _=>⟨⟨cA s,_,2,48⟩,⟨by simp[*],by grind,?_⟩,aV,r⟩⟩;unfold pq;rw[show po (cA s)=true from h,aU];dsimp only;rw[show(((cA s).size:Int)-2).toNat=(cA s).size-2 by omega];rfl
  ·unfold pq;simp[*]
 generalize cA s=t at*;intro d C hd;refine⟨⟨d,hd,aV,r⟩,?_⟩;rintro⟨_,hx,i,eU⟩ C ⟨w,u,p⟩;dsimp only at w u p⊢;refine bo (fun o=>?_) (fun J=>fin _ ?_)
 ·obtain⟨k,hk⟩:∃k,((t.size:Int)-i).toNat=k+1:=⟨((t.size:Int)-i).toNat-1,ae⟩;rw[hk,rF]at p;refine⟨(⟨t,hx,i,eU⟩:gU),⟨⟨w,o⟩,?_⟩,?_⟩
  ·have y:∀b,b=qj t hx i->(∃(a:gU),((0<=a.i/\a.i<(t.size:Int))/\Aw.2 a=(⟨t,hx,i,eU⟩:gU))/\(string t=string t/\int .i32 eU=int .i32 a.eU/\int .i64 i=int .i64 a.i/\bool hx=bool a.hx/\bool b=bool (qj t a.hx a.i)/\True)/\aE [(0,F)] [(0,F)]):=fun b e=>⟨⟨t,hx,i,eU⟩,⟨⟨w,o⟩,rfl⟩,⟨rfl,rfl,rfl,rfl,by rw[e],ao⟩,r⟩;have z:(bif decide (48<=aF t i) then decide (aF t i<=57) else false)=false->Br hx ((0<=i/\i<(t.size:Int))/\aD 146 lF/\true=true/\∃(a:AX),[int .u8 (aF t i)]=[int .u8 a.c]/\([]:List ah)=[]/\True/\True/\∀(y:Unit),True->Br (decide (97<=eK a.c)) ((0<=i/\i<(t.size:Int))/\aD 146 lF/\true=true/\∃(m:AX),[int .u8 (aF t i)]=[int .u8 m.c]/\([]:List ah)=[]/\True/\True/\∀(y:Unit),True->∃(n:gU),((0<=n.i/\n.i<(t.size:Int))/\Aw.2 n=(⟨t,hx,i,eU⟩:gU))/\(string t=string t/\int .i32 eU=int .i32 n.eU/\int .i64 i=int .i64 n.i/\bool hx=bool n.hx/\bool (decide (eK m.c<=102))=bool (qj t n.hx n.i)/\True)/\aE [(0,F)] [(0,F)])
    (∃(m:gU),((0<=m.i/\m.i<(t.size:Int))/\Aw.2 m=(⟨t,hx,i,eU⟩:gU))/\(string t=string t/\int .i32 eU=int .i32 m.eU/\int .i64 i=int .i64 m.i/\bool hx=bool m.hx/\bool false=bool (qj t m.hx m.i)/\True)/\aE [(0,F)] [(0,F)]))
    (∃(a:gU),((0<=a.i/\a.i<(t.size:Int))/\Aw.2 a=(⟨t,hx,i,eU⟩:gU))/\(string t=string t/\int .i32 eU=int .i32 a.eU/\int .i64 i=int .i64 a.i/\bool hx=bool a.hx/\bool false=bool (qj t a.hx a.i)/\True)/\aE [(0,F)] [(0,F)]):=fun e=>by
    refine aG (fun q=>⟨⟨w,o⟩,qM,rfl,⟨_⟩,rfl,rfl,ao,ao,fun _ _=>aG (fun q2=>⟨⟨w,o⟩,qM,rfl,⟨_⟩,rfl,rfl,ao,ao,fun _ _=>y _ ?_⟩) (fun q2=>y _ ?_)⟩) (fun q=>y _ ?_)
    ·unfold qj;rw[e,show hx=true from q,show decide (97<=eK (aF t i))=true from q2];rfl
    ·unfold qj;rw[e,show hx=true from q,show decide (97<=eK (aF t i))=false from q2];rfl
    ·unfold qj;simp[*]
   refine aG (fun q1=>⟨⟨w,o⟩,aG (fun q2=>y _ ?_) (fun q2=>z ?_)⟩) (fun q1=>z ?_)
   ·unfold qj;simp[*]
   all_goals grind
  ·rintro⟨t',H,K,B⟩ C ⟨_,e⟩;have e:(⟨t',H,K,B⟩:gU)=⟨t,hx,i,eU⟩:=e;cases e;dsimp only;have I:∀D,pq s=rF t hx k (i+1) D->((-9223372036854775808<=i+1/\i+1<=9223372036854775807)/\∃(y:gU),(0<=y.i/\y.i<=(t.size:Int)/\pq s=rF t y.hx ((t.size:Int)-y.i).toNat y.i y.eU)/\(string t=string t/\int .i32 D=int .i32 y.eU/\int .i64 (i+1)=int .i64 y.i/\bool hx=bool y.hx/\True)/\aE [(0,F)] [(0,F)]/\((t.size:Int)-y.i).toNat<((t.size:Int)-i).toNat):=fun D e=>
    ⟨aK,⟨t,hx,i+1,D⟩,⟨by grind,by grind,by dsimp only;rw[show((t.size:Int)-(i+1)).toNat=k by omega];exact e⟩,aV,r,by grind⟩
   refine aG (fun q=>I _ ?_) (fun q=>⟨⟨w,o⟩,aG (fun q2=>aG (fun q3=>fin _ ?_) (fun q3=>I _ ?_)) (fun q2=>aG (fun q3=>fin _ ?_) (fun q3=>I _ ?_))⟩)
   all_goals grind
 ·rw[p,show((t.size:Int)-i).toNat=0 by omega,rF]
theorem amk:aD 147 vV:=fo 94 Tryz.func147 (fun _ _=>[(6,11,aX lF),(6,16,aX lF),(6,22,aX lF),(9,2,aX lF),(12,16,aX lF),(12,23,aX lF)]) [] amj ami bA [] aml
end
section
open Go
variable{I J:a8}{k:Nat}{S:St}{v:Value}{w:World}
theorem Sat.freeze(h:Sat I S w){j b:Nat}{vs:List Value}{t:TypeId}(s:gt S j= .cells b vs t):
  ∃J,a8.le I J/\J b=some (.cells ⟨vs⟩ t (0,0))/\Sat J (f_ S j .d8) w:=by
 obtain⟨⟨f,k,p,l⟩,hi⟩:=h;have m:=k j;rw[s]at m;obtain⟨g,r⟩:=m;have q:=(l j b g).1;refine⟨fun c=>if c=b then some (.cells ⟨vs⟩ t (0,0)) else I c,fun c o a=>?_,aL,⟨⟨fun i c=>i≠j/\f i c,fun i=>?_,fun i u c a d=>p _ _ _ a.2 d.2,fun i c a=>⟨?_,(l i c a.2).2⟩⟩,fun c o a=>?_⟩⟩
 ·grind
 ·rw[tw];by_cases e:i=j
  ·simp[e];trivial
  ·have n:(fun c=>i≠j/\f i c)=f i:=by simp[*]
   simp only[e,if_false];rw[show(fun c=>¬i=j/\f i c)=f i from n];refine ah.mono (fun c o a=>?_) (k i);grind
 ·grind
 ·by_cases e:c=b
  ·grind
  ·simp[e]at a;exact hi c o a
theorem Sat.Oy{Y:Type}{R:Y->Prop}{B:Y->ah}(j:Nat)(h:Sat I S w)(d:∀h o,(gt S j).holds I h o->∃y,R y/\(B y).holds I h o):∃y,R y/\Sat I (f_ S j (B y)) w:=by
 obtain⟨⟨f,a,b,c⟩,hi⟩:=h;obtain⟨y,e,g⟩:=d (hp w) (f j) (a j);refine⟨y,e,⟨⟨f,fun i=>?_,b,c⟩,hi⟩⟩;rw[tw];grind
theorem Sat.Cx{B:ah}(j:Nat)(h:Sat I S w)(d:∀h o,(gt S j).holds I h o->B.holds I h o):Sat I (f_ S j B) w:=by
 obtain⟨⟨f,c,a,b⟩,hi⟩:=h;refine⟨⟨f,fun i=>?_,a,b⟩,hi⟩;rw[tw];grind
def bB(ns:List Int):List Value:=ns.map fun n=>.int .i64 n
theorem Bg(ns:List Int):(bB ns).length=ns.length:=by unfold bB;simp
theorem uU(ns ms:List Int):bB (ns++ms)=bB ns++bB ms:=by unfold bB;simp
theorem TX(h:a8.le I J){a:Addr}(b:uM I a=some v):uM J a=some v:=by
 unfold uM at b⊢;cases e:I a.block with
 |none=>rw[e]at b;simp at b
 |some o=>rw[e]at b;rw[h _ _ e];exact b
def Ay(I:a8)(k:Nat)(v:Value)(c:List Value):Prop:=∃a n cap,v= .slice a n cap/\jk k c a n/\∀b,a=some b->∀j u,c[j]?=some u->uM I (b.add j)=some u
theorem Ay.mono(h:a8.le I J){b:List Value}(i:Ay I k v b):Ay J k v b:=by
 obtain⟨a,n,cap,d,f,g⟩:=i;exact⟨a,n,cap,d,f,fun c e j u l=>TX h (g c e j u l)⟩
theorem Sat.adD(h:Sat I S w)(j:Nat){e:TypeId}{cs:List Value}{r:Row}(g:bz e k cs r)(b:gt S j=r.A):
  ∃J,a8.le I J/\Ay J k r.v cs/\Sat J (f_ S j .d8) w:=by
 have a:=g.src;cases g with
 |nil hn=>exact⟨I,a8.le_refl I,⟨none,0,0,rfl,a,fun _ e=>by cases e⟩,h.Cx j fun _ _ _=>ao⟩
 |fU rb n cap sp hl l d=>
  obtain⟨J,c,i,f⟩:=h.freeze b;refine⟨J,c,⟨_,_,_,rfl,a,fun m e j u b=>?_⟩,f⟩;cases e;rw[pE,Nk i,hU,kq (jq.1 b).1];exact b
end
section
open Go
def eO:(Nat->Option Nat)->Code->Code
 |ρ,.seq a b=>.seq (eO ρ a) (eO ρ b)
 |ρ,.cond x a b=>.cond x (eO ρ a) (eO ρ b)
 |ρ,.block i c=>.block i (eO ρ c)
 |ρ,.loop c=>.loop (eO ρ c)
 |_,.scope c=>.scope (eO (fun _=>none) c)
 |_,.label _=>.skip
 |ρ,.goto l=>match ρ l with|some i=>.exit i|none=>.goto l
 |_,c=>c
def mN:Code->Bool
 | .seq a b=>mN a&&mN b
 | .cond _ a b=>mN a&&mN b
 | .block i c=>Nat.blt i 1000000&&mN c
 | .loop c=>mN c
 | .scope c=>mN c
 |_=>true
def qp(P:Program)(N:Nat)(fn:Func)(H:jj)(a:List LH)(c:Code)(T:Tm)(S:St)(lv:List (Nat×Value))(R:Ending->St->Prop):Prop:=
 E P N H c 0 T S fun e T S=>match e with
  | .normal=>match lv with| []=>True|_::_=>rd P S (jG fn T) a fun v=>R (.returned v) S
  | .ret=>rd P S (jG fn T) a fun v=>R (.returned v) S
  | .panic b=>ji T lv/\R (.panicked b) S
  |_=>False
noncomputable def hH(fn:Func):Code:=fn.body.getD .skip
section
variable{P:Program}{N:Nat}
theorem X6(hm:P.follows .mixedOrders=true)(H:jj):∀(c:Code){ρ:Nat->Option Nat}{key:Nat}{T:Tm}{S:St}{K:Exit->Tm->St->Prop}{a:Act}{I:a8}{w:World}{ds:List Deferred}{Q:Exit->Act->World->Prop},
  E P N H (eO ρ c) key T S K->dY N T a->a.defers=ds->Sat I S w->(∀e g w',e9 N I w ds (K e) g w'->Q e g w')->(∀l i,ρ l=some i->1000000<=i/\∀g w',Q (.exit i) g w'->Q (.goto l) g w')->mN c=true->c.wp P Q a w:=by
 intro c
 induction c with
 |skip=>
  intro ρ key T S K a I w ds Q h b hd hs f j hl;exact wp_skip (f _ _ _ ⟨T,S,I,b,hd,a8.le_refl I,hs,cv.refl w,h⟩)
 |exit id=>
  intro ρ key T S K a I w ds Q h b hd hs f j hl;exact wp_exit (f _ _ _ ⟨T,S,I,b,hd,a8.le_refl I,hs,cv.refl w,h⟩)
 |ret=>
  intro ρ key T S K a I w ds Q h b hd hs f j hl;exact wp_ret (f _ _ _ ⟨T,S,I,b,hd,a8.le_refl I,hs,cv.refl w,h⟩)
 |seq x y Y Z=>
  intro ρ key T S K a I w ds Q h b hd hs f j hl;simp only[eO,E]at h;refine wp_seq ?_;have M:∀l i,ρ l=some i->1000000<=i/\∀g w',Exit.then (Code.wp P y Q) Q (.exit i) g w'->Exit.then (Code.wp P y Q) Q (.goto l) g w':=j;have k:mN x=true/\mN y=true:=by simpa[mN]using hl
  split at h
  ·refine Y h b hd hs (fun e g w' d=>?_) M k.1;cases e with
   |normal=>
    obtain⟨T',S',J,D,s,F,G,L,h6⟩:=d;exact Z h6 D s G (fun e a w h=>f e a w (h.from F L)) j k.2
   |_=>exact f _ _ _ d
  ·rename_i V hV
   have go:∀m:V.X->Prop,(E P N H (eO ρ x) key T S fun e T S=>match e with| .normal=>∃x,m x/\ji T (V.lv x)/\aE S (bC (V.st x))|e=>K e T S)->
     (∀x C,m x->E P N H (eO ρ y) key (jy C (V.lv x)) (bC (V.st x)) K)->Code.wp P x (Exit.then (Code.wp P y Q) Q) a w:=by
    intro m hx W;refine Y hx b hd hs (fun e g w' d=>?_) M k.1;cases e with
    |normal=>
     obtain⟨T',S',J,D,s,F,G,L,x,hp,he,O⟩:=d;obtain⟨J',o,B⟩:=O.h J w' G;exact Z (W x T'.z00 hp) (oY D he) s B (fun e a w h=>f e a w (h.from (a8.le_trans F o) L)) j k.2
    |_=>exact f _ _ _ d
   split at h
   ·exact go _ h.1 h.2
   ·obtain⟨_,hx,W⟩:=h;exact go _ hx W
 |cond x c1 c2 ih1 ih2=>
  intro ρ key T S K a I w ds Q h b hd hs f j hl;simp only[eO,E]at h;split at h
  ·rename_i t ht
   have hc:a.eval x= .bool t:=by rw[b.eval];exact ht
   refine wp_cond hc ?_;have k:mN c1=true/\mN c2=true:=by simpa[mN]using hl
   rcases Br.cases h with⟨rfl,hk⟩| ⟨rfl,hk⟩
   all_goals grind
  grind
 |block id c X=>
  intro ρ key T S K a I w ds Q h b hd hs f j hl;simp only[eO,E]at h;have k:id<1000000/\mN c=true:=by simpa[mN]using hl
  refine wp_block (X h b hd hs (fun e g w' d=>?_) (fun l i z=>⟨(j l i z).1,fun g w' hq=>by
   have D:=(j l i z).1;have s:i≠id:=by omega
   simp only[Exit.inBlock,s,if_false]at hq;exact(j l i z).2 g w' hq⟩) k.2)
  cases e with
  |exit i=>
   simp only[Exit.inBlock];by_cases hi:i=id
   ·subst hi;simp only[if_true];refine f _ _ _ (d.mono fun T S h=>?_);simpa using h
   ·simp only[hi,if_false];refine f _ _ _ (d.mono fun T S h=>?_);simpa[tf hi]using h
  |_=>exact f _ _ _ d
 |scope c X=>
  intro ρ key T S K a I w ds Q h b hd hs f j hl;simp only[eO,E]at h;refine wp_scope_straight (X h b hd hs (fun e g w' d=>?_) (fun l r z=>by cases z) hl);cases e with
  |goto l=>
   obtain⟨_,_,_,_,_,_,_,_,h6⟩:=d;grind
  |_=>exact f _ _ _ d
 |loop c X=>
  intro ρ key T S K a I w ds Q h b hd hs f j hl;simp only[eO,E]at h;split at h
  ·grind
  ·rename_i V hV
   have go:∀m:V.X->Prop,(∃x,m x/\ji T (V.lv x)/\aE S (bC (V.st x)))->(∀x C,m x->E P N H (eO ρ c) key (jy C (V.lv x)) (bC (V.st x)) fun e T S=>match e with
     | .normal=>∃y,m y/\ji T (V.lv y)/\aE S (bC (V.st y))/\V.mu y<V.mu x
     |e=>K e T S)->Code.wp P (.loop c) Q a w:=by
    rintro m ⟨x0,x5,x2,u⟩ p;obtain⟨J0,R,x7⟩:=u.h I w hs;refine wp_loop_ghost (fun n g w'=>∃x C J,V.mu x=n/\m x/\dY N (jy C (V.lv x)) g/\g.defers=ds/\a8.le I J/\Sat J (bC (V.st x)) w'/\cv w w') (V.mu x0)
     ⟨x0,T.z00,J0,rfl,x5,oY b x2,hd,R,x7,cv.refl w⟩ ?_
    rintro n g w' ⟨x,C,J,rfl,hp,A,x1,o,B,q⟩;refine X (p x C hp) A x1 B (fun e a2 w2 d=>?_) j hl;cases e with
    |normal=>
     obtain⟨T',S',J',D,s,F,G,L,y,x6,x3,v,x4⟩:=d;obtain⟨J2,U,x8⟩:=v.h J' w2 G;exact⟨V.mu y,x4,y,T'.z00,J2,rfl,x6,oY D x3,s,a8.le_trans o (a8.le_trans F U),x8,q.trans L⟩
    |_=>exact f _ _ _ (d.from o q)
   split at h
   ·exact go _ h.1 h.2
   ·obtain⟨_,hx,W⟩:=h;exact go _ hx W
 |region id aM Uo=>
  intro ρ key T S K a I w ds Q h b hd hs f j hl;simp only[eO,E]at h;split at h
  ·exact wp_region (R9 _ h b hd hs (fun a w h=>f _ a w h) (fun ch a w h=>f _ a w h))
  ·exact wp_region_any hm (Nq h.1 h.2 b hd (hs.heap (w':={w with drawn:=w.drawn+1}) rfl) (fun a w h=>f _ a w (h.from (a8.le_refl _) al)) (fun ch a w h=>f _ a w (h.from (a8.le_refl _) al)))
 |label l=>
  intro ρ key T S K a I w ds Q h b hd hs f j hl;exact wp_label (f _ _ _ ⟨T,S,I,b,hd,a8.le_refl I,hs,cv.refl w,h⟩)
 |goto l=>
  intro ρ key T S K a I w ds Q h b hd hs f j hl;simp only[eO]at h;split at h
  ·rename_i r z
   exact wp_goto ((j l r z).2 a w (f _ _ _ ⟨T,S,I,b,hd,a8.le_refl I,hs,cv.refl w,h⟩))
  ·exact h.elim
 |_=>intro ρ key T S K a I w ds Q h;exact h.elim
theorem adz(Y:P.follows .mixedOrders=true){f:FuncId}{fn b:Func}{c:Code}{C:aR}(X:P.funcs[f]?=some fn)(V:fn.body=some c)(S:fn.ntmps=N)(hl:∀x,(C.args x).length<=N)
  (o:mN c=true) (t:hH b=eO (fun _=>none) c) (B:b.results=fn.results) (H:C.X->ah->jj) (L:List LH) (lv:C.X->List (Nat×Value)) (z:∀x,lv x≠[])
  (h:∀x F,C.cond x->C.aO x F->qp P N b (H x F) L (hH b) (nh (C.args x)) (bC (C.pre x++[F])) (lv x) (ar C x F)):kf P f C:=by
 refine⟨fun x F I w W A hs=>?_⟩;have j:=h x F W A;rw[t]at j;refine calls_of_wp X V ?_;rw[S];refine X6 Y (H x F) c j (Ff (C.args x) (hl x)) rfl hs (fun e a w' i=>?_) (fun l r A=>by cases A) o;obtain⟨T,S',J,O,E,Q,G,R,g⟩:=i;have q:jG b T=jG fn T:=by unfold jG;rw[B]
 have out:∀(s:Ending)(d:World),d=w'->ar C x F s S'->∃y J,C.b_ x y/\s=C.val x y/\a8.le I J/\Sat J (bC (C.post x y++[F])) d/\cv w d:=by
  rintro s d rfl ⟨y,p,rfl,k⟩;obtain⟨M,n,D⟩:=k.h J d G;exact⟨y,M,p,rfl,a8.le_trans Q n,D,R⟩
 have fin:rd P S' (jG b T) L (fun v=>ar C x F (.returned v) S')->a.defers=[]/\∃v,(results fn a.tmps).run P w'= .ok v w'/\∃y J,C.b_ x y/\returned v=C.val x y/\a8.le I J/\Sat J (bC (C.post x y++[F])) w'/\cv w w':=fun g=>by
  rw[q]at g;obtain⟨v,K,U⟩:=vu G _ _ _ g;exact⟨E,v,by rw[Cr O];omega,out _ _ rfl U⟩
 cases e with
 |normal=>
  cases m:lv x with
  |nil=>exact absurd m (z x)
  |cons u l=>rw[m]at g;exact fin g
 |ret=>exact fin g
 |panic Z=>exact⟨E,out _ _ rfl g.2⟩
 |_=>exact g.elim
end
end
end Go.Proofs.YtdkchodgklpomaaGreatDoor
