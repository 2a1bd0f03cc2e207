/- Part of the proof that ParseParens answers true at every input. -/
import Derived.Test.YtdkchodgklpomaaGreatDoorPPae
set_option linter.all false
namespace Go.Proofs.YtdkchodgklpomaaGreatDoor
set_option maxRecDepth 100000
open Go.Value (int slice string bool pointer agg tuple func float iface nilIface)
open Go.IntKind (i64 u8 u64 i32 u32 u16 i8 i16)
open Go.FloatKind (f64)
open Go.Ending (returned panicked)
section
open Go
variable{P:Program}
def lC(op:BinOp)(a b:Nat):Option Nat:=floatBits op .f64 a b
def rB(op:BinOp):kP where
 X:=Nat×Nat
 args x:=[.float .f64 x.1,.float .f64 x.2]
 cond x:=(lC op x.1 x.2).isSome=true
 val x:=.float .f64 ((lC op x.1 x.2).getD 0)
variable{op:BinOp}{d:Ieee.Datum}{o:Oper}{x y:Operand}{rt t:TypeId}
theorem Ut(f:op= .mul\/op= .quo)(h:o.op= .binOp op t x y rt):dJ P o (rB op):=by
 refine⟨fun q w ρ g e=>?_⟩;obtain⟨a,b⟩:=q;have e:(lC op a b).isSome=true:=e;simp only[h,Op.operands,rB]at g;have d:ρ x= .float .f64 a/\ρ y= .float .f64 b:=by simpa using g
 obtain⟨hx,j⟩:=d;obtain⟨r,i⟩:=Option.isSome_iff_exists.1 e;have c:floatBits op .f64 a b=some r:=i;show _=_;have:(rB op).val (a,b)= .float .f64 r:=by show float .f64 ((lC op a b).getD 0)=_;rw[i];rfl
 rw[this];rcases f with rfl|rfl <;> (unfold floatBits at c;simp only at c;simp[execOp,h,hx,j,eqGuard,binOp,Op.floatArith,c,Sem.run])
theorem Vt(a:o.op= .binOp .mul t x y rt):dJ P o (rB .mul):=Ut (.inl rfl) a
theorem aiH(a:o.op= .binOp .quo t x y rt):dJ P o (rB .quo):=Ut (.inr rfl) a
def cG(op:BinOp)(a b:Nat):Bool:=
 match op with
 | .eql=>f64.format.order a b==some .eq
 | .lss=>f64.format.order a b==some .lt
 | .gtr=>f64.format.order a b==some .gt
 | .neq=>f64.format.order a b !=some .eq
 |_=>false
def mM(op:BinOp):kP where
 X:=Nat×Nat
 args x:=[.float .f64 x.1,.float .f64 x.2]
 cond _:=True
 val x:=.bool (cG op x.1 x.2)
theorem nz(d:op= .eql\/op= .lss\/op= .gtr\/op= .neq)(f:o.op= .binOp op t x y rt):dJ P o (mM op):=by
 refine⟨fun q w ρ e _=>?_⟩;obtain⟨a,b⟩:=q;simp only[f,Op.operands,mM]at e;have c:ρ x= .float .f64 a/\ρ y= .float .f64 b:=by simpa using e
 obtain⟨hx,g⟩:=c;rcases d with rfl|rfl|rfl|rfl <;> simp[execOp,f,hx,g,eqGuard,binOp,Op.floatCmp,mM,cG,Sem.run]
def A1:kP where
 X:=Nat
 args x:=[.float .f64 x]
 cond _:=True
 val x:=.float .f64 (Op.negFloat .f64 x)
theorem Uw(c:o.op= .unOp .neg t x):dJ P o A1:=by
 refine⟨fun a w ρ b _=>?_⟩;simp only[c,Op.operands,A1]at b;have hx:ρ x= .float .f64 a:=by simpa using b
 simp[execOp,c,hx,Op.unary,A1,Sem.run]
def Hd(k:IntKind):kP where
 X:=Int
 args x:=[.int k x]
 cond _:=True
 val x:=.float .f64 (f64.nearest x)
theorem aen{k:IntKind}{src dst:TypeId}(e:o.op= .convert src dst x)(hs:(P.underlying src).isSome=true)(hd:P.underlying dst=some (.float .f64)):dJ P o (Hd k):=by
 refine⟨fun c w ρ d f=>?_⟩;simp only[e,Op.operands,Hd]at d;have b:ρ x= .int k c:=by simpa using d
 have a:=run_convert_int_float (P:=P) w src dst k .f64 c hs hd;simp only[execOp,e,b];show((convert src dst (.int k c))>>=fun v=>(pure (Next.value v):Sem Next)).run P w=_;rw[Sem.run_bind,a];rfl
def NN(x:Nat):Prop:=(Ieee.double.read x).isNaN=false
theorem VK{x:Nat}(h:x%Ieee.double.signWeight<=Ieee.double.infRung):NN x:=by
 unfold NN Ieee.Format.read;dsimp only;split
 ·rfl
 ·split
  ·rfl
  ·split
   ·rfl
   ·omega
theorem zO:Ieee.double.signWeight=9223372036854775808:=by decide+kernel
theorem UT:Ieee.double.infRung=9218868437227405312:=by decide+kernel
theorem N3(s:Bool)(r:Nat)(h:r<=Ieee.double.infRung):NN (Ieee.double.word s r):=by
 apply VK;unfold Ieee.Format.word;rw[zO,UT]at*;cases s <;> simp <;> omega
theorem VM(h:d.isNaN=false):NN (Ieee.double.write d):=by
 cases d with
 |number s m e=>
  show NN (Ieee.double.nearest s m e);unfold Ieee.Format.nearest;split
  ·exact N3 _ _ (df _)
  ·exact N3 _ _ (Nat.min_le_right _ _)
 |infinity s=>exact N3 _ _ (bT _)
 |nan s f=>cases h
theorem agB{x:Nat}(h:NN x):NN (Op.negFloat .f64 x):=by
 unfold NN at h;by_cases hl:x%Ieee.double.signWeight<=Ieee.double.infRung
 ·apply VK;have:Op.negFloat .f64 x%Ieee.double.signWeight=x%Ieee.double.signWeight:=by
   show(x^^^2^63)%Ieee.double.signWeight=_;rw[show Ieee.double.signWeight=2^63 from by rw[zO],Nat.xor_mod_two_pow,Nat.mod_self,Nat.xor_zero]
  rw[this];exact hl
 ·exfalso;unfold Ieee.Format.read at h;dsimp only at h;rw[zO,UT]at*;have a:Ieee.double.binade=4503599627370496:=by decide+kernel
  rw[a]at h;rw[if_neg ae,if_neg ae,if_neg ae]at h;cases h
theorem VL(n:Int):NN (f64.nearest n):=VM (d:=.number (n<0) n.natAbs 0) rfl
theorem Hx(h:d.isNaN=false):(Option.map Ieee.double.write (some d)).isSome=true/\NN ((Option.map Ieee.double.write (some d)).getD 0):=⟨rfl,VM (d:=d) h⟩
def FL(y:Nat):Prop:=∃s m j,Ieee.double.read y= .number s m j/\m≠0
theorem Vs{x y:Nat}(hx:NN x)(g:FL y):(lC .mul x y).isSome=true/\NN ((lC .mul x y).getD 0):=by
 obtain⟨s,m,j,e,f⟩:=g;show((Ieee.double.mul x y).isSome=true/\NN ((Ieee.double.mul x y).getD 0));unfold Ieee.Format.mul;rw[e];unfold NN at hx;cases hd:Ieee.double.read x with
 |number a b c=>exact Hx (d:=.number (a^^s) (b*m) (c+j)) rfl
 |infinity a=>
  have:(Ieee.Datum.infinity a).product (.number s m j)=some (.infinity (a^^s)):=by
   show(if m=0 then none else some (Ieee.Datum.infinity (a^^s)))=_;rw[if_neg f]
  rw[this];exact Hx (d:=.infinity (a^^s)) rfl
 |nan a b=>rw[hd]at hx;cases hx
theorem aiG{x y:Nat}(hx:NN x)(g:FL y):(lC .quo x y).isSome=true/\NN ((lC .quo x y).getD 0):=by
 obtain⟨s,m,j,e,f⟩:=g;show((Ieee.double.div x y).isSome=true/\NN ((Ieee.double.div x y).getD 0));unfold Ieee.Format.div;rw[e];unfold NN at hx;cases hd:Ieee.double.read x with
 |number a b c=>
  unfold Ieee.Datum.quotient;dsimp only;rw[if_neg f];exact Hx (d:=.number _ _ _) rfl
 |infinity a=>exact Hx (d:=.infinity (a^^s)) rfl
 |nan a b=>rw[hd]at hx;cases hx
end
section
open Go
def G4:List Nat:=[4607182418800017408,4621819117588971520,4636737291354636288,4652007308841189376,4666723172467343360,4681608360884174848,4696837146684686336,4711630319722168320,4726483295884279808,4741671816366391296,4756540486875873280,4771362005757984768,4786511204640096256,4801453603149578240,4816244402031689728,4831355200913801216,4846369599423283200,4861130398305394688,4876203697187506176,4891288408196988160,4906019910204099648,4921056587992461136,4936209963552724370]
def md(i:Nat):Nat:=G4.getD i 0
def HO:List Nat:=[1,3,6,9,13,16,19,23,26]
def pw(i:Nat):Nat:=HO.getD i 0
structure pU(F:ah)(b:Nat)(t:TypeId):Prop where
 h:∀(I:a_)(m:Hp)(o:tW),CH I m->F.holds I m o->∃vs:Array Value,m b=some (.cells vs t (0,0))
variable{A B:ah}
theorem pU.sub{b:Nat}{t:TypeId}(h:pU A b t)(hs:Sub A B):pU B b t:=⟨fun I m o d c=>let ⟨e,a⟩:=hs I m o c;h.h I m e d a⟩
structure gF(tb:Nat->Nat)(lc:Nat->Nat×ByteArray)(F:ah):Prop where
 pow:∀i,i<1392->aP F ⟨15,i,none⟩ (.int .u64 (tb i))
 i0:aP F ⟨11,0,none⟩ (.int .u64 52)
 i1:aP F ⟨11,1,none⟩ (.int .u64 11)
 i2:aP F ⟨11,2,none⟩ (.int .i64 (-1023))
 DY:aP F ⟨10,0,none⟩ (.bool true)
 bi:pU F 11 149
 bj:pU F 9 149
 fp:∃b o c,aP F ⟨14,0,none⟩ (.slice (some ⟨b,o,none⟩) 23 c)/\∀i,i<23->aP F ⟨b,o+i,none⟩ (.float .f64 (md i))
 pt:∃b o c,aP F ⟨13,0,none⟩ (.slice (some ⟨b,o,none⟩) 9 c)/\∀i,i<9->aP F ⟨b,o+i,none⟩ (.int .i64 (pw i))
 lc:∃b o c,aP F ⟨16,0,none⟩ (.slice (some ⟨b,o,none⟩) 61 c)/\∀i,i<61->aP F ⟨b,o+i*2,none⟩ (.int .i64 (lc i).1)/\aP F ⟨b,o+i*2+1,none⟩ (.string (lc i).2)
theorem gF.sub{tb:Nat->Nat}{lc:Nat->Nat×ByteArray}(h:gF tb lc A)(hs:Sub A B):gF tb lc B:=
 ⟨fun i hi=>(h.pow i hi).sub hs,h.i0.sub hs,h.i1.sub hs,h.i2.sub hs,h.DY.sub hs,h.bi.sub hs,h.bj.sub hs,
  let ⟨b,o,c,d,a⟩:=h.fp;⟨b,o,c,d.sub hs,fun i hi=>(a i hi).sub hs⟩,
  let ⟨b,o,c,d,a⟩:=h.pt;⟨b,o,c,d.sub hs,fun i hi=>(a i hi).sub hs⟩,
  let ⟨b,o,c,d,a⟩:=h.lc;⟨b,o,c,d.sub hs,fun i hi=>⟨(a i hi).1.sub hs,(a i hi).2.sub hs⟩⟩⟩
structure m_ where
 m:Nat
 e:Int
 n:Bool
 tb:Nat->Nat
 lc:Nat->Nat×ByteArray
def je(x:m_):Nat:=bif x.n then Op.negFloat .f64 (f64.nearest x.m) else f64.nearest x.m
def AJ(x:m_):Nat×Int:=bif decide (x.e>22) then ((lC .mul (je x) (md (x.e-22).toNat)).getD 0,22) else (je x,x.e)
def sw(p:Nat×Int):Nat×Bool:=bif cG .gtr p.1 4831355200913801216 then (p.1,false) else bif cG .lss p.1 14054727237768577024 then (p.1,false) else ((lC .mul p.1 (md p.2.toNat)).getD 0,true)
def p5(x:m_):Nat×Bool:=bif decide (x.e<0) then bif decide (x.e>= -22) then ((lC .quo (je x) (md (-x.e).toNat)).getD 0,true) else (je x,false) else (je x,false)
def lu(x:m_):Nat×Bool:=
 bif (x.m:Int).fdiv (2^min (Int.toNat 52) u64.bits)!=0 then (0,false)
 else bif x.e==0 then (je x,true)
 else bif decide (x.e>0) then bif decide (x.e<=37) then sw (AJ x) else p5 x
 else p5 x
theorem Nt:∀i,i<23->FL (md i):=by
 have h:∀i:Fin 23,(match Ieee.double.read (md i.val)with| .number _ m _=>decide (m≠0)|_=>false)=true:=by decide+kernel
 intro i hi;have:=h ⟨i,hi⟩;dsimp only at this;revert this;unfold FL;grind
theorem aap(x:m_):NN (je x):=by
 unfold je;cases x.n with
 |true=>exact agB (VL _)
 |false=>exact VL _
def p6:aQ where
 X:=m_
 args x:=[aA x.m,ad x.e,aj x.n]
 cond x:= -100000<=x.e/\x.e<=100000
 aO x F:=gF x.tb x.lc F
 val x _:=.returned (.tuple #[.float .f64 (lu x).1,.bool (lu x).2])
structure tR where
 f:Nat
 e:Int
def aao(x:m_)(F:ah):Nat->Option Inv:=fun
 |5=>some {X:=tR,P:=fun d=>d.f=je x/\(lu x=bif x.e==0 then (je x,true) else bif decide (x.e>0) then bif decide (x.e<=37) then sw (AJ x) else p5 x else p5 x),mu:=fun _=>0,lv:=fun d=>[(1,ad x.e),(6,float f64 d.f),(7,c6)],st:=fun _=>[F]}
 |11=>some {X:=tR,P:=fun d=>0<=d.e/\d.e<=22/\NN d.f/\lu x=sw (d.f,d.e),mu:=fun _=>0,lv:=fun d=>[(1,ad d.e),(6,float f64 d.f),(7,c6)],st:=fun _=>[F]}
 |_=>none
def ld:=aA 52
def AA(b:Oper)(aa:List Value)(a:Nat->Prop):=dJ Tryz.prog b A1/\∃(z:Nat),aa=[float f64 z]/\True/\a z
def Pv(z:tR)(e0:m_):=z.f=je e0/\(lu e0=bif e0.e==0 then (je e0,true) else bif decide (e0.e>0) then bif decide (e0.e<=37) then sw (AJ e0) else p5 e0 else p5 e0)
def Mw(e0:m_)(e1:ah)(v0:Value)(a:St):=∃(z:tR),Pv z e0/\(ad e0.e=ad e0.e/\v0=float f64 z.f/\aj false=aj false/\True)/\aE a [(0,e1)]
def eI(aa:ah)(b:Addr)(c:Option Addr->Nat->Nat->Prop):=∃(z0:Option Addr),∃(a:Nat),∃(z2:Nat),aP aa b (au z0 a z2)/\c z0 a z2
def rj(aa:ah)(a:Addr)(b:Nat->Prop):=∃(z0:Nat),aP aa a (float f64 z0)/\b z0
def qs(z:Nat×Nat):List Value:=[float f64 z.fst,float f64 z.snd]
def Mx(b:Oper)(aa:List Value)(a:Nat×Nat->Prop):=dJ Tryz.prog b (rB BinOp.mul)/\∃(z:Nat×Nat),aa=(qs z)/\(lC BinOp.mul z.fst z.snd).isSome=true/\a z
def My(e0:m_)(e1:ah)(v0 v1:Value)(a:St):=∃(z:tR),(0<=z.e/\z.e<=22/\NN z.f/\lu e0=sw (z.f,z.e))/\(v0=ad z.e/\v1=float f64 z.f/\aj false=aj false/\True)/\aE a [(0,e1)]
def Gv(b:Oper)(aa:List Value)(a:Nat×Nat->Prop):=dJ Tryz.prog b (mM BinOp.gtr)/\∃(z:Nat×Nat),aa=(qs z)/\True/\a z
def Et(x:m_)(F:ah)(l:tR):=ar p6 x F (ax (tuple ⟨[float f64 l.f,aj false]⟩)) [(0,F)]
def AB(b:Oper)(aa:List Value)(a:Nat×Nat->Prop):=dJ Tryz.prog b (mM BinOp.lss)/\∃(z:Nat×Nat),aa=(qs z)/\True/\a z
def S6(b:Oper)(aa:List Value)(a:Nat×Nat->Prop):=dJ Tryz.prog b (rB BinOp.quo)/\∃(z:Nat×Nat),aa=(qs z)/\(lC BinOp.quo z.fst z.snd).isSome=true/\a z
def RD(x:m_)(F:ah)(l:tR):=aS (x.e<0) (aS (x.e>=(-22:Int)) (eI F ⟨14,0,none⟩ (fun f e d=>iS (ba Tryz.f134 14 4) [au f e d,ad (bU ((0:Int)-x.e))] (fun c=>rj F ⟨c.b,c.o+c.n.toNat*1,none⟩ (fun b=>S6 (ba Tryz.f134 14 6) [float f64 l.f,float f64 b] (fun a=>ar p6 x F (ax (tuple ⟨[float f64 ((lC BinOp.quo a.fst a.snd).getD 0),aj true]⟩)) [(0,F)]))))) (Et x F l)) (Et x F l)
theorem aar(x:m_)(F:ah)(L:p6.cond x)(A:p6.aO x F):aP F ⟨11,0,none⟩ ld/\Br ((x.m:Int).fdiv ((2:Int)^min (Int.toNat (52:Int)) u64.bits)!=0) (ar p6 x F wt [(0,F)]) (dJ Tryz.prog (ba Tryz.f134 2 1) (Hd u64)/\∃(m:Int),[aA ↑x.m]=[aA m]/\True/\Br x.n (AA ⟨some 17,Op.unOp UnOp.neg 32 (Operand.tmp 16),32,"atof.go:443",⟨[⟨0,Ground.data⟩]⟩,none⟩ [float f64 (f64.nearest m)] (fun b=>Mw x F (float f64 (Op.negFloat f64 b)) [(0,F)])) (Mw x F (float f64 (f64.nearest m)) [(0,F)])/\aT fun(l:tR)_=>Pv l x->Br (x.e==0) (ar p6 x F (ax (tuple ⟨[float f64 l.f,aj true]⟩)) [(0,F)]) (aS (x.e>0) (aS (x.e<=37) (aS (x.e>22) (eI F ⟨14,0,none⟩ (fun g f e=>((-9223372036854775808:Int)<=x.e-22/\x.e-22<=(9223372036854775807:Int))/\iS (ba Tryz.f134 9 4) [au g f e,ad (x.e-22)] (fun d=>rj F ⟨d.b,d.o+d.n.toNat*1,none⟩ (fun c=>Mx (ba Tryz.f134 9 6) [float f64 l.f,float f64 c] (fun b=>My x F (ad 22) (float f64 ((lC BinOp.mul b.fst b.snd).getD 0)) [(0,F)]))))) (My x F (ad x.e) (float f64 l.f) [(0,F)])/\aT fun(j:tR)_=>(0<=j.e/\j.e<=22/\NN j.f/\lu x=sw (j.f,j.e))->Gv (ba Tryz.f134 11 1) [float f64 j.f,float f64 4831355200913801216] (fun h=>Br (cG BinOp.gtr h.fst h.snd) (Et x F j) (AB (ba Tryz.f134 11 4) [float f64 j.f,float f64 14054727237768577024] (fun g=>Br (cG BinOp.lss g.fst g.snd) (Et x F j) (eI F ⟨14,0,none⟩ (fun f e d=>iS (ba Tryz.f134 12 3) [au f e d,ad j.e] (fun c=>rj F ⟨c.b,c.o+c.n.toNat*1,none⟩ (fun b=>Mx (ba Tryz.f134 12 5) [float f64 j.f,float f64 b] (fun a=>ar p6 x F (ax (tuple ⟨[float f64 ((lC BinOp.mul a.fst a.snd).getD 0),aj true]⟩)) [(0,F)]))))))))) (RD x F l)) (RD x F l))):=by
 delta ld wt AA Pv Mw eI iS rj qs Mx My Gv Et AB S6 RD ad aA aj au bU aS ax aT;obtain⟨m,e,n,tb,lc⟩:=x;obtain⟨H,I⟩:=L;dsimp only at H I;replace A:gF tb lc F:=A;obtain⟨b,o,c,g1,O⟩:=A.fp;have fin:∀{S:St}(v:Nat×Bool),gt S 0=F->lu ⟨m,e,n,tb,lc⟩=v->aE S [(0,F)]->ar p6 ⟨m,e,n,tb,lc⟩ F (returned (tuple #[float .f64 v.1,bool v.2])) S:=fun v _ E K=>
  ⟨(),ao,by show _=returned (.tuple #[.float .f64 (lu ⟨m,e,n,tb,lc⟩).1,.bool (lu ⟨m,e,n,tb,lc⟩).2]);rw[E],K⟩
 have Q:lu ⟨m,e,n,tb,lc⟩=bif (m:Int).fdiv (2^min (Int.toNat 52) u64.bits)!=0 then (0,false) else bif e==0 then (je ⟨m,e,n,tb,lc⟩,true) else bif decide (e>0) then bif decide (e<=37) then sw (AJ ⟨m,e,n,tb,lc⟩) else p5 ⟨m,e,n,tb,lc⟩ else p5 ⟨m,e,n,tb,lc⟩:=rfl
 have r:aE [(0,F)] [(0,F)]:=az [0];refine⟨A.i0,aG (fun h=>fin (0,false) rfl (by grind) r) (fun h=>⟨aen rfl rfl rfl,(m:Int),rfl,ao,aG (fun hn=>⟨Uw rfl,_,rfl,ao,⟨je ⟨m,e,n,tb,lc⟩,0⟩,⟨rfl,by grind⟩,⟨rfl,?_,rfl,ao⟩,r⟩) (fun hn=>⟨⟨je ⟨m,e,n,tb,lc⟩,0⟩,⟨rfl,by grind⟩,⟨rfl,?_,rfl,ao⟩,r⟩),?_⟩)⟩
 ·have hn:n=true:=hn;unfold je;simp[*]
 ·have hn:n=false:=hn;unfold je;simp[*]
 rintro⟨f,_⟩ M ⟨C,z⟩;dsimp only at C z⊢;subst C;have s:=aap ⟨m,e,n,tb,lc⟩;have neg:((e==0)=false)->(decide (e>0)=false\/decide (e<=37)=false)->lu ⟨m,e,n,tb,lc⟩=p5 ⟨m,e,n,tb,lc⟩:=fun q h=>by
  grind
 have low:((e==0)=false)->(decide (e>0)=false\/decide (e<=37)=false)->Br (decide (e<0)) (Br (decide (e>= -22)) (∃(a:Option Addr),∃(l:Nat),∃(c:Nat),aP F ⟨14,0,none⟩ (slice a l c)/\dJ Tryz.prog (ba Tryz.f134 14 4) (gb 1)/\∃(k:tU),[slice a l c,int i64 (i64.wrap (0-e))]=[slice (some ⟨k.b,k.o,none⟩) k.len k.cap,int i64 k.n]/\(0<=k.n/\k.n<(k.len:Int))/\∃(b:Nat),aP F ⟨k.b,k.o+k.n.toNat*1,none⟩ (float f64 b)/\dJ Tryz.prog (ba Tryz.f134 14 6) (rB BinOp.quo)/\∃(p:Nat×Nat),[float f64 (je ⟨m,e,n,tb,lc⟩),float f64 b]=[float f64 p.fst,float f64 p.snd]/\(lC BinOp.quo p.fst p.snd).isSome=true/\ar p6 ⟨m,e,n,tb,lc⟩ F (returned (tuple #[float f64 ((lC BinOp.quo p.fst p.snd).getD 0),bool true])) [(0,F)])
   (ar p6 ⟨m,e,n,tb,lc⟩ F (returned (tuple #[float f64 (je ⟨m,e,n,tb,lc⟩),bool false])) [(0,F)]))
   (ar p6 ⟨m,e,n,tb,lc⟩ F (returned (tuple #[float f64 (je ⟨m,e,n,tb,lc⟩),bool false])) [(0,F)]):=fun q0 q1=>
  bo (fun hl=>bo (fun D=>by
   have G:i64.wrap (0-e)= -e:=by rw[dz (i:=.i64) (n:=0-e) aK];omega
   have hi:(-e).toNat<23:=by omega
   obtain⟨q2,q3⟩:=aiG s (Nt _ hi);rw[G];exact⟨_,_,_,g1,h9 1 rfl rfl rfl rfl,⟨b,o,23,c,-e⟩,rfl,⟨by grind,by grind⟩,md (-e).toNat,by simp[*],aiH rfl,(je ⟨m,e,n,tb,lc⟩,md (-e).toNat),rfl,q2,fin (_,true) rfl (by rw[neg q0 q1];unfold p5;grind) r⟩)
   (fun D=>fin (_,false) rfl (by rw[neg q0 q1];unfold p5;dsimp only;rw[bv hl,bF D];rfl) r))
  (fun hl=>fin (_,false) rfl (by rw[neg q0 q1];unfold p5;dsimp only;rw[bF hl];rfl) r)
 refine aG (fun t=>fin (_,true) rfl (by rw[z,t];rfl) r) (fun t=>bo (fun w=>bo (fun y=>⟨bo (fun B=>?_) (fun B=>?_),?_⟩) (fun y=>low t (.inr (bF y)))) (fun w=>low t (.inl (bF w))))
 ·have hi:(e-22).toNat<23:=by omega
  obtain⟨q2,q3⟩:=Vs s (Nt _ hi);refine⟨_,_,_,g1,aK,h9 1 rfl rfl rfl rfl,⟨b,o,23,c,e-22⟩,rfl,⟨by grind,by grind⟩,md (e-22).toNat,by simp[*],Vt rfl,(je ⟨m,e,n,tb,lc⟩,md (e-22).toNat),rfl,q2,⟨_,22⟩,⟨by simp[*],by simp[*],q3,?_⟩,aV,r⟩;rw[z,t,bv w,bv y];unfold AJ;grind
 ·refine⟨⟨je ⟨m,e,n,tb,lc⟩,e⟩,⟨by grind,by grind,s,?_⟩,aV,r⟩;rw[z,t,bv w,bv y];unfold AJ;simp[*]
 rintro⟨f,u⟩ M ⟨q1,q2,q3,q4⟩;dsimp only at q1 q2 q3 q4⊢;refine⟨nz (.inr (.inr (.inl rfl))) rfl,(f,_),rfl,ao,aG (fun B=>fin (f,false) rfl ?_ r) (fun B=>⟨nz (.inr (.inl rfl)) rfl,(f,_),rfl,ao,aG (fun J=>fin (f,false) rfl ?_ r) (fun J=>?_)⟩)⟩
 ·rw[q4];unfold sw;simp[*]
 ·rw[q4];unfold sw;simp[*]
 ·have hi:u.toNat<23:=by omega
  obtain⟨N,P⟩:=Vs q3 (Nt _ hi);refine⟨_,_,_,g1,h9 1 rfl rfl rfl rfl,⟨b,o,23,c,u⟩,rfl,⟨q1,by grind⟩,md u.toNat,by simp[*],Vt rfl,(f,md u.toNat),rfl,N,fin (_,true) rfl ?_ r⟩;rw[q4];unfold sw;grind
theorem aaq:aC 134 p6:=fo 64 Tryz.func134 (fun _ _=>[(1,2,.q [.ex 0 (.is (.int .u64 52))]),(1,3,aX),(2,1,.qo (Hd .u64)),(4,1,.qo A1),(9,6,.qo (rB .mul)),(11,1,.qo (mM .gtr)),(11,4,.qo (mM .lss)),(12,5,.qo (rB .mul)),(14,6,.qo (rB .quo)),(9,1,.q [.ex 0 .slice]),(9,4,.qo (gb 1)),(9,5,.q [.ex 0 (.float .f64)]),(12,1,.q [.ex 0 .slice]),(12,3,.qo (gb 1)),(12,4,.q [.ex 0 (.float .f64)]),(14,1,.q [.ex 0 .slice]),(14,4,.qo (gb 1)),(14,5,.q [.ex 0 (.float .f64)])]) [] aY aao bA [] aar
end
section
open Go
structure AI where
 c:Int
def eA(c:Int):Int:=u8.wrap (↑(BitVec.ofInt u8.bits c|||BitVec.ofInt u8.bits 32).toNat:Int)
def kY:aQ where
 X:=AI
 args x:=[a8 x.c]
 val x _:=ax (a8 (eA x.c))
theorem afB(x:AI)(F:ah)(a:kY.cond x)(b:kY.aO x F):ar kY x F (ax (a8 (u8.wrap (↑(BitVec.ofInt u8.bits x.c|||BitVec.ofInt u8.bits (32:Int)).toNat:Int)))) [(0,F)]:=by
 delta a8 ax;exact im
theorem qh:aC 146 kY:=fo 5 Tryz.func146 (fun _ _=>[(1,1,aX)]) [] aY aY bA [] afB
structure vM where
 s:ByteArray
 p:ByteArray
def gK(s p:ByteArray):Int:=if (s.size:Int)<p.size then s.size else p.size
def FE(s:ByteArray)(i:Int):Int:=bif (bif decide (65<=aF s i) then decide (aF s i<=90) else false) then u8.wrap (aF s i+32) else aF s i
def xv(s p:ByteArray):Nat->Int->Int
 |0,_=>gK s p
 |f+1,i=>bif FE s i !=aF p i then i else xv s p f (i+1)
def ij(s p:ByteArray):Int:=xv s p (gK s p).toNat 0
def r_:aQ where
 X:=vM
 args x:=[ai x.s,ai x.p]
 cond x:=x.s.size<=1000000000/\x.p.size<=1000000000
 val x _:=ax (ad (ij x.s x.p))
def alt(x:vM)(F:ah):Nat->Option Inv:=fun
 |0=>some {X:=Int,P:=fun i=>0<=i/\i<=gK x.s x.p/\ij x.s x.p=xv x.s x.p (gK x.s x.p-i).toNat i,mu:=fun i=>(gK x.s x.p-i).toNat,lv:=fun i=>[(0,ai x.s),(1,ai x.p),(5,ad (gK x.s x.p)),(6,ad i)],st:=fun _=>[F]}
 |_=>none
def IV(z:Int)(e0:vM):=0<=z/\z<=gK e0.s e0.p/\ij e0.s e0.p=xv e0.s e0.p (gK e0.s e0.p-z).toNat z
def dx(c:Int):=(-9223372036854775808:Int)<=c+1/\c+1<=(9223372036854775807:Int)
def Mz(e0:vM)(e1:ah)(v0:Value)(a:St)(mm:Nat):=∃(z:Int),IV z e0/\(ai e0.s=ai e0.s/\ai e0.p=ai e0.p/\ad (gK e0.s e0.p)=ad (gK e0.s e0.p)/\v0=ad z/\True)/\aE a [(0,e1)]/\(gK e0.s e0.p-z).toNat<mm
def O9(c:Int)(x:vM)(F:ah):=(0<=c/\c<x.p.size)/\Br (aF x.s c !=aF x.p c) (ar r_ x F (ax (ad c)) [(0,F)]) (dx c/\Mz x F (ad (c+1)) [(0,F)] ((gK x.s x.p-c).toNat))
theorem alu(x:vM)(F:ah)(m:r_.cond x)(q:r_.aO x F):(∃(a:Int),IV a x/\(ai x.s=ai x.s/\ai x.p=ai x.p/\ad (if (x.s.size:Int)<(x.p.size:Int) then (x.s.size:Int) else (x.p.size:Int))=ad (gK x.s x.p)/\ad 0=ad a/\True)/\aE [(0,F)] [(0,F)])/\aT fun(c:Int)_=>IV c x->aS (c<gK x.s x.p) ((0<=c/\c<x.s.size)/\aS (65<=aF x.s c) (aS (aF x.s c<=90) ((0<=c/\c<x.p.size)/\Br (u8.wrap (aF x.s c+32)!=aF x.p c) (ar r_ x F (ax (ad c)) [(0,F)]) (dx c/\Mz x F (ad (c+1)) [(0,F)] ((gK x.s x.p-c).toNat))) (O9 c x F)) (O9 c x F)) (ar r_ x F (ax (ad (gK x.s x.p))) [(0,F)]):=by
 delta IV dx Mz O9 ad ai aS ax aT;obtain⟨s,p⟩:=x;obtain⟨g,j⟩:=m;dsimp only at g j⊢;have l:0<=gK s p/\gK s p<=s.size/\gK s p<=p.size:=by unfold gK;split <;> omega
 have f:aE [(0,F)] [(0,F)]:=az [0];have fin:∀v,ij s p=v->ar r_ ⟨s,p⟩ F (returned (int .i64 v)) [(0,F)]:=fun v e=>
  ⟨(),ao,by show _=returned (.int .i64 (ij s p));rw[e],f⟩
 refine⟨⟨0,⟨cD _,l.1,by unfold ij;simp[*]⟩,aV,f⟩,?_⟩;rintro i r ⟨i0,i1,i2⟩;refine bo (fun o=>?_) (fun n=>fin _ ?_)
 ·obtain⟨k,hk⟩:∃k,(gK s p-i).toNat=k+1:=⟨(gK s p-i).toNat-1,ae⟩;rw[hk]at i2;have b:∀c,FE s i=c->((0<=i/\i<(p.size:Int))/\Br (c !=aF p i) (ar r_ ⟨s,p⟩ F (returned (int .i64 i)) [(0,F)]) ((-9223372036854775808<=i+1/\i+1<=9223372036854775807)/\∃(y:Int),(0<=y/\y<=gK s p/\ij s p=xv s p (gK s p-y).toNat y)/\(string s=string s/\string p=string p/\int .i64 (gK s p)=int .i64 (gK s p)/\int .i64 (i+1)=int .i64 y/\True)/\aE [(0,F)] [(0,F)]/\(gK s p-y).toNat<(gK s p-i).toNat)):=by
   intro c d;refine⟨⟨i0,ae⟩,aG (fun h=>fin _ ?_) (fun h=>⟨aK,i+1,⟨ae,ae,?_⟩,aV,f,ae⟩)⟩
   ·rw[i2,xv,d,show(c !=aF p i)=true from h];rfl
   ·rw[i2,xv,d,show(c !=aF p i)=false from h,aM,show(gK s p-(i+1)).toNat=k by omega]
  refine⟨⟨i0,ae⟩,bo (fun q1=>bo (fun q2=>b _ ?_) (fun q2=>b _ ?_)) (fun q1=>b _ ?_)⟩
  ·unfold FE;simp[*]
  ·unfold FE;simp[*]
  ·unfold FE;simp[*]
 ·have:(gK s p-i).toNat=0:=by omega
  rw[i2,this,xv]
theorem XD:aC 143 r_:=fo 36 Tryz.func143 (fun _ _=>[(1,4,aX),(7,1,aX)]) [] alt aY bA [] alu
def CE(s:Int):Nat:=bif decide (s>=0) then 9218868437227405312 else 18442240474082181120
def z_:aQ where
 X:=Int
 args x:=[ad x]
 val x _:=ax (float f64 (CE x))
theorem alG(x:Int)(F:ah)(a:z_.cond x)(b:z_.aO x F):aS (x>=0) (ar z_ x F (ax (float f64 9218868437227405312)) [(0,F)]) (ar z_ x F (ax (float f64 18442240474082181120)) [(0,F)]):=by
 delta aS ax;exact aG (fun h=>⟨(),ao,by show _=returned (.float .f64 (bif decide (x>=0) then 9218868437227405312 else 18442240474082181120));simp[*],az [0]⟩) (fun h=>⟨(),ao,by show _=returned (.float .f64 (bif decide (x>=0) then 9218868437227405312 else 18442240474082181120));simp[*],az [0]⟩)
theorem XI:aC 144 z_:=fo 8 Tryz.func144 (fun _ _=>[]) [(5,1,aX)] aY aY bA [] alG
def CF:aQ where
 X:=Unit
 args _:=[]
 val _ _:=ax (float f64 9221120237041090561)
theorem alI(x:PUnit)(F:ah)(a:CF.cond x)(b:CF.aO x F):ar CF x F zi [(0,F)]:=by
 delta zi ax;exact im
theorem alH:aC 145 CF:=fo 2 Tryz.func145 (fun _ _=>[]) [(1,0,aX)] aY aY bA [] alI
def tN:ByteArray:=ByteArray.mk #[105,110,102,105,110,105,116,121]
def vl:ByteArray:=ByteArray.mk #[110,97,110]
def m9(t:ByteArray):Int:=bif (bif decide (3<ij t tN) then decide (ij t tN<8) else false) then 3 else ij t tN
def qO(t:ByteArray)(sg ns:Int):Nat×Int×Bool:=bif (bif m9 t==3 then true else m9 t==8) then (CE sg,ns+m9 t,true) else (0,0,false)
def ei(s:ByteArray):Nat×Int×Bool:=
 bif (s.size:Int)==0 then (0,0,false)
 else bif aF s 0==43||aF s 0==45 then qO (s.extract 1 s.size) (bif aF s 0==45 then-1 else 1) 1
 else bif aF s 0==105||aF s 0==73 then qO s 1 0
 else bif aF s 0==110||aF s 0==78 then (bif ij s vl==3 then (9221120237041090561,3,true) else (0,0,false))
 else (0,0,false)
structure bK where
 s:ByteArray
def xz:aQ where
 X:=bK
 args x:=[ai x.s]
 cond x:=x.s.size<=1000000000
 val x _:=.returned (.tuple #[.float .f64 (ei x.s).1,.int .i64 (ei x.s).2.1,.bool (ei x.s).2.2])
structure sv where
 t:ByteArray
 sg:Int
 ns:Int
 n:Int
def alW(x:bK)(F:ah):Nat->Option Inv:=fun
 |12=>some {X:=Unit,P:=fun _=>0<x.s.size/\ei x.s=qO (x.s.extract 1 x.s.size) (bif aF x.s 0==45 then-1 else 1) 1,mu:=fun _=>0,lv:=fun _=>[(0,ai x.s),(5,ad 1)],st:=fun _=>[F]}
 |16=>some {X:=sv,P:=fun d=>d.t.size<=1000000000/\ei x.s=qO d.t d.sg d.ns/\0<=d.ns/\d.ns<=1,mu:=fun _=>0,lv:=fun d=>[(0,ai d.t),(5,ad d.sg),(6,ad d.ns)],st:=fun _=>[F]}
 |19=>some {X:=sv,P:=fun d=>ei x.s=(bif (bif d.n==3 then true else d.n==8) then (CE d.sg,d.ns+d.n,true) else (0,0,false))/\0<=d.ns/\d.ns<=1,mu:=fun _=>0,lv:=fun d=>[(5,ad d.sg),(6,ad d.ns),(7,ad d.n)],st:=fun _=>[F]}
 |21=>some {X:=Unit,P:=fun _=>ei x.s=(bif ij x.s vl==3 then (9221120237041090561,3,true) else (0,0,false)),mu:=fun _=>0,lv:=fun _=>[(0,ai x.s)],st:=fun _=>[F]}
 |23=>some {X:=Unit,P:=fun _=>ei x.s=(0,0,false),mu:=fun _=>0,lv:=fun _=>[],st:=fun _=>[F]}
 |_=>none
def QP:=ax (tuple ⟨[float f64 0,ad 0,aj false]⟩)
def qn(x:bK):=(0:Int)<=(0:Int)/\0<(x.s.size:Int)
def uQ(x:bK):=aF x.s (0:Int)==(43:Int)
def PC(e0:bK):=0<e0.s.size/\ei e0.s=qO (e0.s.extract 1 e0.s.size) (bif aF e0.s (0:Int)==(45:Int) then (-1:Int) else (1:Int)) (1:Int)
def MA(e0:bK)(e1:ah)(a:St):=∃(z:Unit),PC e0/\(ai e0.s=ai e0.s/\ad 1=ad 1/\True)/\aE a [(0,e1)]
def Rw(z:sv)(e0:bK):=z.t.size<=1000000000/\ei e0.s=qO z.t z.sg z.ns/\0<=z.ns/\z.ns<=1
def Dh(e0:bK)(e1:ah)(v0 v1 v2:Value)(a:St):=∃(z:sv),Rw z e0/\(v0=ai z.t/\v1=ad z.sg/\v2=ad z.ns/\True)/\aE a [(0,e1)]
def MB(e0:bK)(e1:ah)(a:St):=∃(z:Unit),(ei e0.s=bif ij e0.s vl==3 then (9221120237041090561,(3:Int),true) else (0,(0:Int),false))/\(ai e0.s=ai e0.s/\True)/\aE a [(0,e1)]
def Eu(x:bK)(F:ah):=∃(a:Unit),ei x.s=(0,(0:Int),false)/\True/\aE [(0,F)] [(0,F)]
def P8(x:bK)(F:ah):=Br (aF x.s (0:Int)==(110:Int)) (Br (aF x.s (0:Int)==(110:Int)) (MB x F [(0,F)]) (Eu x F)) (Br (aF x.s (0:Int)==(78:Int)) (MB x F [(0,F)]) (Eu x F))
def OM(x:bK)(F:ah):=Br (aF x.s (0:Int)==(105:Int)) (Br (aF x.s (0:Int)==(105:Int)) (Dh x F (ai x.s) (ad 1) (ad 0) [(0,F)]) (P8 x F)) (Br (aF x.s (0:Int)==(73:Int)) (Dh x F (ai x.s) (ad 1) (ad 0) [(0,F)]) (P8 x F))
def tj(x:bK):=aF x.s (0:Int)==(45:Int)
def wq(x:bK):=(0:Int)<=(1:Int)/\1<=(x.s.size:Int)/\(x.s.size:Int)<=(x.s.size:Int)
def wu(x:bK):=ai (x.s.extract (Int.toNat (1:Int)) (x.s.size:Int).toNat)
def MC(aa:List Value)(a:vM->Unit->Prop):=aC 143 r_/\true=true/\∃(z:vM),aa=[ai z.s,ai z.p]/\([]:List ah)=[]/\(z.s.size<=1000000000/\z.p.size<=1000000000)/\True/\∀(b:Unit),True->a z b
def PT(e0:bK)(z:sv):=(ei e0.s=bif bif z.n==3 then true else z.n==8 then (CE z.sg,z.ns+z.n,true) else (0,(0:Int),false))/\0<=z.ns/\z.ns<=1
def Gw(e0:bK)(e1:ah)(v0 v1 v2:Value)(a:St):=∃(z:sv),PT e0 z/\(v0=ad z.sg/\v1=ad z.ns/\v2=ad z.n/\True)/\aE a [(0,e1)]
def S7(aa:List Value)(a:Int->Unit->Prop):=aC 144 z_/\true=true/\∃(z:Int),aa=[ad z]/\([]:List ah)=[]/\True/\True/\∀(b:Unit),True->a z b
def Pj(d:sv)(x:bK)(F:ah):=S7 [ad d.sg] (fun b a=>bM (d.ns+d.n)/\ar xz x F (ax (tuple ⟨[float f64 (CE b),ad (d.ns+d.n),aj true]⟩)) [(0,F)])
theorem alZ(x:bK)(F:ah)(w:xz.cond x)(D:xz.aO x F):Br ((x.s.size:Int)==0) (ar xz x F QP [(0,F)]) ((qn x/\((Br (uQ x) (Br (uQ x) (MA x F [(0,F)]) (OM x F)) (Br (tj x) (MA x F [(0,F)]) (OM x F))/\aT fun(c:Unit)_=>PC x->qn x/\Br (tj x) (wq x/\Dh x F (wu x) (ad (-1)) (ad 1) [(0,F)]) (wq x/\Dh x F (wu x) (ad 1) (ad 1) [(0,F)]))/\aT fun(h:sv)_=>Rw h x->MC [ai h.t,ai ⟨#[105,110,102,105,110,105,116,121]⟩] (fun f e=>aS (3<ij f.s f.p) (aS (ij f.s f.p<8) (Gw x F (ad h.sg) (ad h.ns) (ad 3) [(0,F)]) (Gw x F (ad h.sg) (ad h.ns) (ad (ij f.s f.p)) [(0,F)])) (Gw x F (ad h.sg) (ad h.ns) (ad (ij f.s f.p)) [(0,F)])/\aT fun(d:sv)_=>PT x d->Br (d.n==3) (Pj d x F) (Br (d.n==8) (Pj d x F) (Eu x F))))/\aT fun(f:Unit)_=>(ei x.s=bif ij x.s vl==3 then (9221120237041090561,(3:Int),true) else (0,(0:Int),false))->MC [ai x.s,ai ⟨#[110,97,110]⟩] (fun d c=>Br (ij d.s d.p==3) (aC 145 CF/\true=true/\∃(b:Unit),([]:List Value)=[]/\([]:List ah)=[]/\True/\True/\∀(a:Unit),True->ar xz x F (ax (tuple ⟨[float f64 9221120237041090561,ad 3,aj true]⟩)) [(0,F)]) (Eu x F)))/\aT fun(b:Unit)_=>ei x.s=(0,(0:Int),false)->ar xz x F QP [(0,F)]):=by
 delta QP qn uQ PC MA Rw Dh MB Eu P8 OM tj wq wu MC PT Gw S7 Pj bM ad ai aj aS ax aT;obtain⟨s⟩:=x;have w:s.size<=1000000000:=w;dsimp only;have i:aE [(0,F)] [(0,F)]:=az [0];have fin:∀v:Nat×Int×Bool,ei s=v->ar xz ⟨s⟩ F (returned (tuple #[float .f64 v.1,int .i64 v.2.1,bool v.2.2])) [(0,F)]:=fun v e=>
  ⟨(),ao,by show _=returned (.tuple #[.float .f64 (ei s).1,.int .i64 (ei s).2.1,.bool (ei s).2.2]);rw[e],i⟩
 have C:ei s=bif (s.size:Int)==0 then (0,0,false)
  else bif aF s 0==43||aF s 0==45 then qO (s.extract 1 s.size) (bif aF s 0==45 then-1 else 1) 1
  else bif aF s 0==105||aF s 0==73 then qO s 1 0
  else bif aF s 0==110||aF s 0==78 then (bif ij s vl==3 then (9221120237041090561,3,true) else (0,0,false))
  else (0,0,false):=rfl
 refine aG (fun A=>fin (0,0,false) (by simp[*])) (fun A=>?_);have u:0<s.size:=by
  grind
 rw[show((s.size:Int)==0)=false from A,aM]at C;refine⟨⟨⟨cD _,ae⟩,⟨⟨⟨?_,?_⟩,?_⟩,?_⟩⟩,?_⟩
 ·have m:(aF s 0==43||aF s 0==45)=true->(∃(g:Unit),(0<s.size/\ei s=qO (s.extract 1 s.size) (bif aF s 0==45 then-1 else 1) 1)/\(string s=string s/\int .i64 1=int .i64 1/\True)/\aE [(0,F)] [(0,F)]):=fun h=>
   ⟨(),⟨u,by simp[*]⟩,aV,i⟩
  have o:(aF s 0==43||aF s 0==45)=false->(aF s 0==105||aF s 0==73)=true->(∃(g:sv),(g.t.size<=1000000000/\ei s=qO g.t g.sg g.ns/\0<=g.ns/\g.ns<=1)/\(string s=string g.t/\int .i64 1=int .i64 g.sg/\int .i64 0=int .i64 g.ns/\True)/\aE [(0,F)] [(0,F)]):=fun h j=>
   ⟨⟨s,1,0,0⟩,⟨w,by simp[*],by simp[*],by simp[*]⟩,aV,i⟩
  have p:(aF s 0==43||aF s 0==45)=false->(aF s 0==105||aF s 0==73)=false->(aF s 0==110||aF s 0==78)=true->(∃(g:Unit),(ei s=bif ij s vl==3 then (9221120237041090561,3,true) else (0,0,false))/\(string s=string s/\True)/\aE [(0,F)] [(0,F)]):=fun h j l=>
   ⟨(),by simp[*],⟨rfl,ao⟩,i⟩
  have r:(aF s 0==43||aF s 0==45)=false->(aF s 0==105||aF s 0==73)=false->(aF s 0==110||aF s 0==78)=false->(∃(g:Unit),ei s=(0,0,false)/\True/\aE [(0,F)] [(0,F)]):=fun h j l=>
   ⟨(),by simp[*],ao,i⟩
  revert m o p r;generalize (aF s 0==43)=a1,(aF s 0==45)=a2,(aF s 0==105)=a3,(aF s 0==73)=a4,(aF s 0==110)=a5,(aF s 0==78)=B;intro m o p r;cases a1 <;> cases a2 <;> cases a3 <;> cases a4 <;> cases a5 <;> cases B <;> first|exact m rfl|exact o rfl rfl|exact p rfl rfl rfl|exact r rfl rfl rfl
 ·rintro _ z ⟨y,k⟩;refine⟨⟨cD _,ae⟩,aG (fun h=>⟨⟨ae,ae,ae⟩,⟨s.extract 1 s.size,-1,1,0⟩,⟨by dsimp only;rw[gS];omega,by simp[*],by simp[*],by simp[*]⟩,aV,i⟩) (fun h=>⟨⟨ae,ae,ae⟩,⟨s.extract 1 s.size,1,1,0⟩,⟨by dsimp only;rw[gS];omega,by grind,by simp[*],by simp[*]⟩,aV,i⟩)⟩
 ·rintro⟨t,sg,ns,_⟩ z ⟨y,k,j,l⟩;dsimp only at y k j l⊢;have G:ei s=(bif (bif m9 t==3 then true else m9 t==8) then (CE sg,ns+m9 t,true) else (0,0,false)):=k;have E:0<=ij t tN\/True:=.inr trivial;refine bO XD ⟨t,tN⟩ ⟨y,by show tN.size<=_;decide⟩ fun _ _=>⟨aG (fun q1=>aG (fun q2=>⟨⟨t,sg,ns,3⟩,⟨?_,j,l⟩,aV,i⟩) (fun q2=>⟨⟨t,sg,ns,ij t tN⟩,⟨?_,j,l⟩,aV,i⟩)) (fun q1=>⟨⟨t,sg,ns,ij t tN⟩,⟨?_,j,l⟩,aV,i⟩),?_⟩
  ·have:m9 t=3:=by unfold m9;simp[*]
   grind
  ·have:m9 t=ij t tN:=by unfold m9;simp[*]
   grind
  ·have:m9 t=ij t tN:=by unfold m9;simp[*]
   grind
  rintro⟨_,sg,ns,n⟩ z ⟨k,j,l⟩;dsimp only at k j l⊢;refine aG (fun q=>kV XI sg fun _ _=>⟨?_,fin (_,_,true) (by rw[k,show(n==3)=true from q];rfl)⟩) (fun q=>aG (fun q2=>kV XI sg fun _ _=>⟨?_,fin (_,_,true) (by rw[k,show(n==3)=false from q,show(n==8)=true from q2];rfl)⟩) (fun q2=>⟨(),by grind,ao,i⟩))
  all_goals grind
 ·rintro _ z k;exact bO XD ⟨s,vl⟩ ⟨w,by show vl.size<=_;decide⟩ fun _ _=>aG (fun q=>kV alH () fun _ _=>fin (9221120237041090561,3,true) (by grind)) (fun q=>⟨(),by grind,ao,i⟩)
 grind
theorem alY:aC 123 xz:=fo 50 Tryz.func123 (fun _ _=>[(16,1,aW r_),(20,1,aW z_),(21,1,aW r_),(22,0,aW CF)]) [] aY alW bA [] alZ
end
section
open Go
def cy(s:ByteArray):ByteArray:=bif (bif decide ((s.size:Int)>=1) then (bif aF s 0==45 then true else aF s 0==43) else false) then s.extract 1 s.size else s
def oV(t:ByteArray):Bool:=bif (bif decide ((t.size:Int)>=2) then aF t 0==48 else false) then (bif (bif eA (aF t 1)==98 then true else eA (aF t 1)==111) then true else eA (aF t 1)==120) else false
def pS(t:ByteArray)(hx:Bool)(i:Int):Bool:=bif (bif decide (48<=aF t i) then decide (aF t i<=57) else false) then true else (bif (bif hx then decide (97<=eA (aF t i)) else false) then decide (eA (aF t i)<=102) else false)
def qP(t:ByteArray)(hx:Bool):Nat->Int->Int->Bool
 |0,_,eN=>eN !=95
 |f+1,i,eN=>bif pS t hx i then qP t hx f (i+1) 48 else bif aF t i==95 then (bif eN !=48 then false else qP t hx f (i+1) 95) else (bif eN==95 then false else qP t hx f (i+1) 33)
def oW(s:ByteArray):Bool:=bif oV (cy s) then qP (cy s) (eA (aF (cy s) 1)==120) ((cy s).size-2) 2 48 else qP (cy s) false (cy s).size 0 94
def vt:aQ where
 X:=bK
 args x:=[ai x.s]
 cond x:=x.s.size<=1000000000
 val x _:=ax (aj (oW x.s))
structure gO where
 t:ByteArray
 hx:Bool
 i:Int
 eN:Int
def Ac:(T:Type)×(gO->T):=⟨gO,fun d=>d⟩
def al6(x:bK)(F:ah):Nat->Option Inv:=fun
 |5=>some {X:=Unit,P:=fun _=>True,mu:=fun _=>0,lv:=fun _=>[(0,ai (cy x.s)),(3,ec 94),(4,ad 0)],st:=fun _=>[F]}
 |7=>some {X:=Unit,P:=fun _=>True,mu:=fun _=>0,lv:=fun _=>[(0,ai (cy x.s)),(3,ec 94),(4,ad 0),(5,c6),(46,aj (oV (cy x.s)))],st:=fun _=>[F]}
 |10=>some {X:=gO,P:=fun d=>0<=d.i/\d.i<=(cy x.s).size/\oW x.s=qP (cy x.s) d.hx ((cy x.s).size-d.i).toNat d.i d.eN,mu:=fun _=>0,lv:=fun d=>[(0,ai (cy x.s)),(3,ec d.eN),(4,ad d.i),(5,aj d.hx)],st:=fun _=>[F]}
 |13=>some {X:=gO,gh:=some Ac,P:=fun d=>0<=d.i/\d.i<(cy x.s).size,mu:=fun _=>0,lv:=fun d=>[(0,ai (cy x.s)),(3,ec d.eN),(4,ad d.i),(5,aj d.hx),(83,aj (pS (cy x.s) d.hx d.i))],st:=fun _=>[F]}
 |_=>none
def al7(x:bK)(F:ah):Nat->Option Inv:=fun
 |0=>some {X:=gO,P:=fun d=>0<=d.i/\d.i<=(cy x.s).size/\oW x.s=qP (cy x.s) d.hx ((cy x.s).size-d.i).toNat d.i d.eN,mu:=fun d=>((cy x.s).size-d.i).toNat,lv:=fun d=>[(0,ai (cy x.s)),(3,ec d.eN),(4,ad d.i),(5,aj d.hx)],st:=fun _=>[F]}
 |_=>none
def Di(e0:ah)(e1:bK)(v0:Value)(a:St):=∃(z:Unit),True/\(v0=ai (cy e1.s)/\ec 94=ec 94/\ad 0=ad 0/\True)/\aE a [(0,e0)]
def EC(x:bK):=(0:Int)<=(1:Int)/\1<(↑(cy x.s).size:Int)
def nn(aa:List Value)(a:AI->Unit->Prop):=aC 146 kY/\true=true/\∃(z:AI),aa=[a8 z.c]/\([]:List ah)=[]/\True/\True/\∀(b:Unit),True->a z b
def EP(x:bK):List Value:=[a8 (aF (cy x.s) (1:Int))]
def AD(e0:ah)(e1:bK)(v0:Value)(a:St):=∃(z:Unit),True/\(ai (cy e1.s)=ai (cy e1.s)/\ec 94=ec 94/\ad 0=ad 0/\aj false=aj false/\v0=aj (oV (cy e1.s))/\True)/\aE a [(0,e0)]
def D_(z:gO)(e0:bK):=0<=z.i/\z.i<=(↑(cy e0.s).size:Int)/\oW e0.s=qP (cy e0.s) z.hx ((↑(cy e0.s).size:Int)-z.i).toNat z.i z.eN
def Gx(e0:bK)(e1:ah)(v0 v1 v2:Value)(a:St):=∃(z:gO),D_ z e0/\(ai (cy e0.s)=ai (cy e0.s)/\v0=ec z.eN/\v1=ad z.i/\v2=aj z.hx/\True)/\aE a [(0,e1)]
def wx(h:gO)(x:bK):=0<=h.i/\h.i<(↑(cy x.s).size:Int)
def Dj(e0:bK)(e1:gO)(a:ah)(v0 v1 v2 v3:Value)(b:St):=∃(z:gO),(wx z e0/\Ac.snd z=e1)/\(ai (cy e0.s)=ai (cy e0.s)/\v0=ec z.eN/\v1=ad z.i/\v2=aj z.hx/\v3=aj (pS (cy e0.s) z.hx z.i)/\True)/\aE b [(0,a)]
def Oq(h:gO)(x:bK)(f:gO)(F:ah):=Br h.hx (wx h x/\nn [a8 (aF (cy x.s) h.i)] (fun e d=>aS (97<=eA e.c) (wx h x/\nn [a8 (aF (cy x.s) h.i)] (fun c b=>Dj x f F (ec h.eN) (ad h.i) (aj h.hx) (aj (decide (eA c.c<=102))) [(0,F)])) (Dj x f F (ec h.eN) (ad h.i) (aj h.hx) c6 [(0,F)]))) (Dj x f F (ec h.eN) (ad h.i) (aj h.hx) c6 [(0,F)])
def IS(c:gO):=(-9223372036854775808:Int)<=c.i+1/\c.i+1<=(9223372036854775807:Int)
def Gy(e0:bK)(e1:ah)(v0 v1 v2:Value)(a:St)(mm:Nat):=∃(z:gO),D_ z e0/\(ai (cy e0.s)=ai (cy e0.s)/\v0=ec z.eN/\v1=ad z.i/\v2=aj z.hx/\True)/\aE a [(0,e1)]/\((↑(cy e0.s).size:Int)-z.i).toNat<mm
theorem al9(x:bK)(F:ah)(G:vt.cond x)(N:vt.aO x F):aS ((x.s.size:Int)>=1) (qn x/\Br (tj x) (wq x/\Di F x (wu x) [(0,F)]) (qn x/\Br (uQ x) (wq x/\Di F x (wu x) [(0,F)]) (Di F x (ai x.s) [(0,F)]))) (Di F x (ai x.s) [(0,F)])/\aT fun(l:Unit)_=>True->(aS ((↑(cy x.s).size:Int)>=2) (((0:Int)<=(0:Int)/\0<(↑(cy x.s).size:Int))/\Br (aF (cy x.s) (0:Int)==(48:Int)) (EC x/\nn (EP x) (fun g f=>Br (eA g.c==98) (AD F x (aj true) [(0,F)]) (EC x/\nn (EP x) (fun e d=>Br (eA e.c==111) (AD F x (aj true) [(0,F)]) (EC x/\nn (EP x) (fun c b=>AD F x (aj (eA c.c==120)) [(0,F)])))))) (AD F x c6 [(0,F)])) (AD F x c6 [(0,F)])/\aT fun(e:Unit)_=>True->Br (oV (cy x.s)) (EC x/\nn (EP x) (fun c b=>Gx x F (ec 48) (ad 2) (aj (eA c.c==120)) [(0,F)])) (Gx x F (ec 94) (ad 0) c6 [(0,F)]))/\aT fun(j:gO)_=>D_ j x->Gx x F (ec j.eN) (ad j.i) (aj j.hx) [(0,F)]/\aT fun(h:gO)_=>D_ h x->aS (h.i<(↑(cy x.s).size:Int)) (∃(f:gO),(wx h x/\aS (48<=aF (cy x.s) h.i) (wx h x/\aS (aF (cy x.s) h.i<=57) (Dj x f F (ec h.eN) (ad h.i) (aj h.hx) (aj true) [(0,F)]) (Oq h x f F)) (Oq h x f F))/\aT fun(c:gO)_=>(wx c x/\Ac.snd c=f)->Br (pS (cy x.s) c.hx c.i) (IS c/\Gy x F (ec 48) (ad (c.i+1)) (aj c.hx) [(0,F)] (((↑(cy x.s).size:Int)-h.i).toNat)) (wx c x/\Br (aF (cy x.s) c.i==95) (Br (c.eN !=48) (ar vt x F cV [(0,F)]) (IS c/\Gy x F (ec 95) (ad (c.i+1)) (aj c.hx) [(0,F)] (((↑(cy x.s).size:Int)-h.i).toNat))) (Br (c.eN==95) (ar vt x F cV [(0,F)]) (IS c/\Gy x F (ec 33) (ad (c.i+1)) (aj c.hx) [(0,F)] (((↑(cy x.s).size:Int)-h.i).toNat))))) (ar vt x F (ax (aj (h.eN !=95))) [(0,F)]):=by
 delta qn tj wq Di wu uQ EC nn EP AD c6 D_ Gx wx Dj Oq IS Gy cV ad a8 ec ai aj aS ax aT;obtain⟨s⟩:=x;have G:s.size<=1000000000:=G;dsimp only;have r:aE [(0,F)] [(0,F)]:=az [0];have O:(cy s).size<=1000000000:=by
  unfold cy;cases (bif decide ((s.size:Int)>=1) then (bif aF s 0==45 then true else aF s 0==43) else false)with
  |true=>rw[aU,gS];omega
  |false=>exact G
 have fin:∀v:Bool,oW s=v->ar vt ⟨s⟩ F (returned (bool v)) [(0,F)]:=fun v e=>
  ⟨(),ao,by show _=returned (.bool (oW s));rw[e],r⟩
 refine⟨?_,fun _ C _=>⟨⟨?_,fun _ C _=>?_⟩,?_⟩⟩
 ·have y:∀t,t=cy s->(∃(L:Unit),True/\(string t=string (cy s)/\int .i32 94=int .i32 94/\int .i64 0=int .i64 0/\True)/\aE [(0,F)] [(0,F)]):=fun t e=>⟨(),ao,⟨by rw[e],rfl,rfl,ao⟩,r⟩;refine bo (fun u=>⟨⟨cD _,ae⟩,aG (fun p=>⟨⟨ae,ae,ae⟩,y _ ?_⟩) (fun p=>⟨⟨cD _,ae⟩,aG (fun A=>⟨⟨ae,ae,ae⟩,y _ ?_⟩) (fun A=>y _ ?_)⟩)⟩) (fun u=>y _ ?_)
  ·unfold cy;simp[*]
  ·unfold cy;simp[*]
  ·unfold cy;simp[*]
  ·unfold cy;simp[*]
 ·generalize cy s=t at*;have y:∀b,b=oV t->(∃(M:Unit),True/\(string t=string t/\int .i32 94=int .i32 94/\int .i64 0=int .i64 0/\bool false=bool false/\bool b=bool (oV t)/\True)/\aE [(0,F)] [(0,F)]):=fun t e=>⟨(),ao,⟨rfl,rfl,rfl,rfl,by rw[e],ao⟩,r⟩;refine bo (fun u=>⟨⟨cD _,ae⟩,aG (fun p=>⟨aK,qh,rfl,⟨_⟩,rfl,rfl,ao,ao,fun _ _=>aG (fun A=>y _ ?_) (fun A=>⟨aK,qh,rfl,⟨_⟩,rfl,rfl,ao,ao,fun _ _=>aG (fun E=>y _ ?_) (fun E=>⟨aK,qh,rfl,⟨_⟩,rfl,rfl,ao,ao,fun _ _=>y _ ?_⟩)⟩)⟩) (fun p=>y _ ?_)⟩) (fun u=>y _ ?_)
  ·unfold oV;rw[bv u,show(aF t 0==48)=true from p,show(eA (aF t 1)==98)=true from A];rfl
  ·unfold oV;rw[bv u,show(aF t 0==48)=true from p,show(eA (aF t 1)==98)=false from A,show(eA (aF t 1)==111)=true from E];rfl
  ·unfold oV;rw[bv u,show(aF t 0==48)=true from p,show(eA (aF t 1)==98)=false from A,show(eA (aF t 1)==111)=false from E];rfl
  ·unfold oV;simp[*]
  ·unfold oV;simp[*]
 ·refine aG (fun h=>?_) (fun h=>⟨⟨cy s,false,0,94⟩,⟨by simp[*],by simp[*],?_⟩,aV,r⟩)
  ·have p:2<=(cy s).size:=by
    have h:oV (cy s)=true:=h;unfold oV at h;grind
   refine⟨aK,qh,rfl,⟨_⟩,rfl,rfl,ao,ao,fun _ _=>⟨⟨cy s,_,2,48⟩,⟨by simp[*],by grind,?_⟩,aV,r⟩⟩;unfold oW;rw[show oV (cy s)=true from h,aU];dsimp only;rw[show(((cy s).size:Int)-2).toNat=(cy s).size-2 by omega];rfl
  ·unfold oW;simp[*]
 generalize cy s=t at*;intro d C hd;refine⟨⟨d,hd,aV,r⟩,?_⟩;rintro⟨_,hx,i,eN⟩ C ⟨w,u,p⟩;dsimp only at w u p⊢;refine bo (fun o=>?_) (fun J=>fin _ ?_)
 ·obtain⟨k,hk⟩:∃k,((t.size:Int)-i).toNat=k+1:=⟨((t.size:Int)-i).toNat-1,ae⟩;rw[hk,qP]at p;refine⟨(⟨t,hx,i,eN⟩:gO),⟨⟨w,o⟩,?_⟩,?_⟩
  ·have y:∀b,b=pS t hx i->(∃(a:gO),((0<=a.i/\a.i<(t.size:Int))/\Ac.2 a=(⟨t,hx,i,eN⟩:gO))/\(string t=string t/\int .i32 eN=int .i32 a.eN/\int .i64 i=int .i64 a.i/\bool hx=bool a.hx/\bool b=bool (pS t a.hx a.i)/\True)/\aE [(0,F)] [(0,F)]):=fun b e=>⟨⟨t,hx,i,eN⟩,⟨⟨w,o⟩,rfl⟩,⟨rfl,rfl,rfl,rfl,by rw[e],ao⟩,r⟩;have z:(bif decide (48<=aF t i) then decide (aF t i<=57) else false)=false->Br hx ((0<=i/\i<(t.size:Int))/\aC 146 kY/\true=true/\∃(a:AI),[int .u8 (aF t i)]=[int .u8 a.c]/\([]:List ah)=[]/\True/\True/\∀(y:Unit),True->Br (decide (97<=eA a.c)) ((0<=i/\i<(t.size:Int))/\aC 146 kY/\true=true/\∃(m:AI),[int .u8 (aF t i)]=[int .u8 m.c]/\([]:List ah)=[]/\True/\True/\∀(y:Unit),True->∃(n:gO),((0<=n.i/\n.i<(t.size:Int))/\Ac.2 n=(⟨t,hx,i,eN⟩:gO))/\(string t=string t/\int .i32 eN=int .i32 n.eN/\int .i64 i=int .i64 n.i/\bool hx=bool n.hx/\bool (decide (eA m.c<=102))=bool (pS t n.hx n.i)/\True)/\aE [(0,F)] [(0,F)])
    (∃(m:gO),((0<=m.i/\m.i<(t.size:Int))/\Ac.2 m=(⟨t,hx,i,eN⟩:gO))/\(string t=string t/\int .i32 eN=int .i32 m.eN/\int .i64 i=int .i64 m.i/\bool hx=bool m.hx/\bool false=bool (pS t m.hx m.i)/\True)/\aE [(0,F)] [(0,F)]))
    (∃(a:gO),((0<=a.i/\a.i<(t.size:Int))/\Ac.2 a=(⟨t,hx,i,eN⟩:gO))/\(string t=string t/\int .i32 eN=int .i32 a.eN/\int .i64 i=int .i64 a.i/\bool hx=bool a.hx/\bool false=bool (pS t a.hx a.i)/\True)/\aE [(0,F)] [(0,F)]):=fun e=>by
    refine aG (fun q=>⟨⟨w,o⟩,qh,rfl,⟨_⟩,rfl,rfl,ao,ao,fun _ _=>aG (fun q2=>⟨⟨w,o⟩,qh,rfl,⟨_⟩,rfl,rfl,ao,ao,fun _ _=>y _ ?_⟩) (fun q2=>y _ ?_)⟩) (fun q=>y _ ?_)
    ·unfold pS;rw[e,show hx=true from q,show decide (97<=eA (aF t i))=true from q2];rfl
    ·unfold pS;rw[e,show hx=true from q,show decide (97<=eA (aF t i))=false from q2];rfl
    ·unfold pS;simp[*]
   refine aG (fun q1=>⟨⟨w,o⟩,aG (fun q2=>y _ ?_) (fun q2=>z ?_)⟩) (fun q1=>z ?_)
   ·unfold pS;simp[*]
   all_goals grind
  ·rintro⟨t',H,K,B⟩ C ⟨_,e⟩;have e:(⟨t',H,K,B⟩:gO)=⟨t,hx,i,eN⟩:=e;cases e;dsimp only;have I:∀D,oW s=qP t hx k (i+1) D->((-9223372036854775808<=i+1/\i+1<=9223372036854775807)/\∃(y:gO),(0<=y.i/\y.i<=(t.size:Int)/\oW s=qP t y.hx ((t.size:Int)-y.i).toNat y.i y.eN)/\(string t=string t/\int .i32 D=int .i32 y.eN/\int .i64 (i+1)=int .i64 y.i/\bool hx=bool y.hx/\True)/\aE [(0,F)] [(0,F)]/\((t.size:Int)-y.i).toNat<((t.size:Int)-i).toNat):=fun D e=>
    ⟨aK,⟨t,hx,i+1,D⟩,⟨by grind,by grind,by dsimp only;rw[show((t.size:Int)-(i+1)).toNat=k by omega];exact e⟩,aV,r,by grind⟩
   refine aG (fun q=>I _ ?_) (fun q=>⟨⟨w,o⟩,aG (fun q2=>aG (fun q3=>fin _ ?_) (fun q3=>I _ ?_)) (fun q2=>aG (fun q3=>fin _ ?_) (fun q3=>I _ ?_))⟩)
   all_goals grind
 ·rw[p,show((t.size:Int)-i).toNat=0 by omega,qP]
theorem al8:aC 147 vt:=fo 94 Tryz.func147 (fun _ _=>[(6,11,aW kY),(6,16,aW kY),(6,22,aW kY),(9,2,aW kY),(12,16,aW kY),(12,23,aW kY)]) [] al7 al6 bA [] al9
end
section
open Go
variable{I J:a_}{k:Nat}{S:St}{v:Value}{w:World}
theorem Sat.freeze(h:Sat I S w){j b:Nat}{vs:List Value}{t:TypeId}(s:gt S j= .cells b vs t):
  ∃J,a_.le I J/\J b=some (.cells ⟨vs⟩ t (0,0))/\Sat J (fT S j .d0) w:=by
 obtain⟨⟨f,k,p,l⟩,hi⟩:=h;have m:=k j;rw[s]at m;obtain⟨g,r⟩:=m;have q:=(l j b g).1;refine⟨fun c=>if c=b then some (.cells ⟨vs⟩ t (0,0)) else I c,fun c o a=>?_,aL,⟨⟨fun i c=>i≠j/\f i c,fun i=>?_,fun i u c a d=>p _ _ _ a.2 d.2,fun i c a=>⟨?_,(l i c a.2).2⟩⟩,fun c o a=>?_⟩⟩
 ·grind
 ·rw[sM];by_cases e:i=j
  ·simp[e];trivial
  ·have n:(fun c=>i≠j/\f i c)=f i:=by simp[*]
   simp only[e,if_false];rw[show(fun c=>¬i=j/\f i c)=f i from n];refine ah.mono (fun c o a=>?_) (k i);grind
 ·grind
 ·by_cases e:c=b
  ·grind
  ·simp[e]at a;exact hi c o a
theorem Sat.Oa{Y:Type}{R:Y->Prop}{B:Y->ah}(j:Nat)(h:Sat I S w)(d:∀h o,(gt S j).holds I h o->∃y,R y/\(B y).holds I h o):∃y,R y/\Sat I (fT S j (B y)) w:=by
 obtain⟨⟨f,a,b,c⟩,hi⟩:=h;obtain⟨y,e,g⟩:=d (hp w) (f j) (a j);refine⟨y,e,⟨⟨f,fun i=>?_,b,c⟩,hi⟩⟩;rw[sM];grind
theorem Sat.Cp{B:ah}(j:Nat)(h:Sat I S w)(d:∀h o,(gt S j).holds I h o->B.holds I h o):Sat I (fT S j B) w:=by
 obtain⟨⟨f,c,a,b⟩,hi⟩:=h;refine⟨⟨f,fun i=>?_,a,b⟩,hi⟩;rw[sM];grind
def bB(ns:List Int):List Value:=ns.map fun n=>.int .i64 n
theorem A_(ns:List Int):(bB ns).length=ns.length:=by unfold bB;simp
theorem um(ns ms:List Int):bB (ns++ms)=bB ns++bB ms:=by unfold bB;simp
theorem TA(h:a_.le I J){a:Addr}(b:ue I a=some v):ue J a=some v:=by
 unfold ue at b⊢;cases e:I a.block with
 |none=>rw[e]at b;simp at b
 |some o=>rw[e]at b;rw[h _ _ e];exact b
def Ae(I:a_)(k:Nat)(v:Value)(c:List Value):Prop:=∃a n cap,v= .slice a n cap/\jd k c a n/\∀b,a=some b->∀j u,c[j]?=some u->ue I (b.add j)=some u
theorem Ae.mono(h:a_.le I J){b:List Value}(i:Ae I k v b):Ae J k v b:=by
 obtain⟨a,n,cap,d,f,g⟩:=i;exact⟨a,n,cap,d,f,fun c e j u l=>TA h (g c e j u l)⟩
theorem Sat.adl(h:Sat I S w)(j:Nat){e:TypeId}{cs:List Value}{r:Row}(g:bz e k cs r)(b:gt S j=r.A):
  ∃J,a_.le I J/\Ae J k r.v cs/\Sat J (fT S j .d0) w:=by
 have a:=g.src;cases g with
 |nil hn=>exact⟨I,a_.le_refl I,⟨none,0,0,rfl,a,fun _ e=>by cases e⟩,h.Cp j fun _ _ _=>ao⟩
 |fO rb n cap sp hl l d=>
  obtain⟨J,c,i,f⟩:=h.freeze b;refine⟨J,c,⟨_,_,_,rfl,a,fun m e j u b=>?_⟩,f⟩;cases e;rw[pa,M2 i,gT,lD (kw.1 b).1];exact b
end
section
open Go
def eF:(Nat->Option Nat)->Code->Code
 |ρ,.seq a b=>.seq (eF ρ a) (eF ρ b)
 |ρ,.cond x a b=>.cond x (eF ρ a) (eF ρ b)
 |ρ,.block i c=>.block i (eF ρ c)
 |ρ,.loop c=>.loop (eF ρ c)
 |_,.scope c=>.scope (eF (fun _=>none) c)
 |_,.label _=>.skip
 |ρ,.goto l=>match ρ l with|some i=>.exit i|none=>.goto l
 |_,c=>c
def mg:Code->Bool
 | .seq a b=>mg a&&mg b
 | .cond _ a b=>mg a&&mg b
 | .block i c=>Nat.blt i 1000000&&mg c
 | .loop c=>mg c
 | .scope c=>mg c
 |_=>true
def pW(P:Program)(N:Nat)(fn:Func)(H:jc)(a:List LH)(c:Code)(T:Tm)(S:St)(lv:List (Nat×Value))(R:Ending->St->Prop):Prop:=
 E P N H c 0 T S fun e T S=>match e with
  | .normal=>match lv with| []=>True|_::_=>rd P S (jx fn T) a fun v=>R (.returned v) S
  | .ret=>rd P S (jx fn T) a fun v=>R (.returned v) S
  | .panic b=>jb T lv/\R (.panicked b) S
  |_=>False
noncomputable def g_(fn:Func):Code:=fn.body.getD .skip
section
variable{P:Program}{N:Nat}
theorem XS(hm:P.follows .mixedOrders=true)(H:jc):∀(c:Code){ρ:Nat->Option Nat}{key:Nat}{T:Tm}{S:St}{K:Exit->Tm->St->Prop}{a:Act}{I:a_}{w:World}{ds:List Deferred}{Q:Exit->Act->World->Prop},
  E P N H (eF ρ c) key T S K->dR N T a->a.defers=ds->Sat I S w->(∀e g w',eZ N I w ds (K e) g w'->Q e g w')->(∀l i,ρ l=some i->1000000<=i/\∀g w',Q (.exit i) g w'->Q (.goto l) g w')->mg c=true->c.wp P Q a w:=by
 intro c
 induction c with
 |skip=>
  intro ρ key T S K a I w ds Q h b hd hs f j hl;exact wp_skip (f _ _ _ ⟨T,S,I,b,hd,a_.le_refl I,hs,cv.refl w,h⟩)
 |exit id=>
  intro ρ key T S K a I w ds Q h b hd hs f j hl;exact wp_exit (f _ _ _ ⟨T,S,I,b,hd,a_.le_refl I,hs,cv.refl w,h⟩)
 |ret=>
  intro ρ key T S K a I w ds Q h b hd hs f j hl;exact wp_ret (f _ _ _ ⟨T,S,I,b,hd,a_.le_refl I,hs,cv.refl w,h⟩)
 |seq x y Y Z=>
  intro ρ key T S K a I w ds Q h b hd hs f j hl;simp only[eF,E]at h;refine wp_seq ?_;have M:∀l i,ρ l=some i->1000000<=i/\∀g w',Exit.then (Code.wp P y Q) Q (.exit i) g w'->Exit.then (Code.wp P y Q) Q (.goto l) g w':=j;have k:mg x=true/\mg y=true:=by simpa[mg]using hl
  split at h
  ·refine Y h b hd hs (fun e g w' d=>?_) M k.1;cases e with
   |normal=>
    obtain⟨T',S',J,D,s,F,G,L,h6⟩:=d;exact Z h6 D s G (fun e a w h=>f e a w (h.from F L)) j k.2
   |_=>exact f _ _ _ d
  ·rename_i V hV
   have go:∀m:V.X->Prop,(E P N H (eF ρ x) key T S fun e T S=>match e with| .normal=>∃x,m x/\jb T (V.lv x)/\aE S (bD (V.st x))|e=>K e T S)->
     (∀x C,m x->E P N H (eF ρ y) key (jq C (V.lv x)) (bD (V.st x)) K)->Code.wp P x (Exit.then (Code.wp P y Q) Q) a w:=by
    intro m hx W;refine Y hx b hd hs (fun e g w' d=>?_) M k.1;cases e with
    |normal=>
     obtain⟨T',S',J,D,s,F,G,L,x,hp,he,O⟩:=d;obtain⟨J',o,B⟩:=O.h J w' G;exact Z (W x T'.z00 hp) (oB D he) s B (fun e a w h=>f e a w (h.from (a_.le_trans F o) L)) j k.2
    |_=>exact f _ _ _ d
   split at h
   ·exact go _ h.1 h.2
   ·obtain⟨_,hx,W⟩:=h;exact go _ hx W
 |cond x c1 c2 ih1 ih2=>
  intro ρ key T S K a I w ds Q h b hd hs f j hl;simp only[eF,E]at h;split at h
  ·rename_i t ht
   have hc:a.eval x= .bool t:=by rw[b.eval];exact ht
   refine wp_cond hc ?_;have k:mg c1=true/\mg c2=true:=by simpa[mg]using hl
   rcases Br.cases h with⟨rfl,hk⟩| ⟨rfl,hk⟩
   all_goals grind
  grind
 |block id c X=>
  intro ρ key T S K a I w ds Q h b hd hs f j hl;simp only[eF,E]at h;have k:id<1000000/\mg c=true:=by simpa[mg]using hl
  refine wp_block (X h b hd hs (fun e g w' d=>?_) (fun l i z=>⟨(j l i z).1,fun g w' hq=>by
   have D:=(j l i z).1;have s:i≠id:=by omega
   simp only[Exit.inBlock,s,if_false]at hq;exact(j l i z).2 g w' hq⟩) k.2)
  cases e with
  |exit i=>
   simp only[Exit.inBlock];by_cases hi:i=id
   ·subst hi;simp only[if_true];refine f _ _ _ (d.mono fun T S h=>?_);simpa using h
   ·simp only[hi,if_false];refine f _ _ _ (d.mono fun T S h=>?_);simpa[sz hi]using h
  |_=>exact f _ _ _ d
 |scope c X=>
  intro ρ key T S K a I w ds Q h b hd hs f j hl;simp only[eF,E]at h;refine wp_scope_straight (X h b hd hs (fun e g w' d=>?_) (fun l r z=>by cases z) hl);cases e with
  |goto l=>
   obtain⟨_,_,_,_,_,_,_,_,h6⟩:=d;grind
  |_=>exact f _ _ _ d
 |loop c X=>
  intro ρ key T S K a I w ds Q h b hd hs f j hl;simp only[eF,E]at h;split at h
  ·grind
  ·rename_i V hV
   have go:∀m:V.X->Prop,(∃x,m x/\jb T (V.lv x)/\aE S (bD (V.st x)))->(∀x C,m x->E P N H (eF ρ c) key (jq C (V.lv x)) (bD (V.st x)) fun e T S=>match e with
     | .normal=>∃y,m y/\jb T (V.lv y)/\aE S (bD (V.st y))/\V.mu y<V.mu x
     |e=>K e T S)->Code.wp P (.loop c) Q a w:=by
    rintro m ⟨x0,x5,x2,u⟩ p;obtain⟨J0,R,x7⟩:=u.h I w hs;refine wp_loop_ghost (fun n g w'=>∃x C J,V.mu x=n/\m x/\dR N (jq C (V.lv x)) g/\g.defers=ds/\a_.le I J/\Sat J (bD (V.st x)) w'/\cv w w') (V.mu x0)
     ⟨x0,T.z00,J0,rfl,x5,oB b x2,hd,R,x7,cv.refl w⟩ ?_
    rintro n g w' ⟨x,C,J,rfl,hp,A,x1,o,B,q⟩;refine X (p x C hp) A x1 B (fun e a2 w2 d=>?_) j hl;cases e with
    |normal=>
     obtain⟨T',S',J',D,s,F,G,L,y,x6,x3,v,x4⟩:=d;obtain⟨J2,U,x8⟩:=v.h J' w2 G;exact⟨V.mu y,x4,y,T'.z00,J2,rfl,x6,oB D x3,s,a_.le_trans o (a_.le_trans F U),x8,q.trans L⟩
    |_=>exact f _ _ _ (d.from o q)
   split at h
   ·exact go _ h.1 h.2
   ·obtain⟨_,hx,W⟩:=h;exact go _ hx W
 |region id aN TT=>
  intro ρ key T S K a I w ds Q h b hd hs f j hl;simp only[eF,E]at h;split at h
  ·exact wp_region (RK _ h b hd hs (fun a w h=>f _ a w h) (fun ch a w h=>f _ a w h))
  ·exact wp_region_any hm (M7 h.1 h.2 b hd (hs.heap (w':={w with drawn:=w.drawn+1}) rfl) (fun a w h=>f _ a w (h.from (a_.le_refl _) aq)) (fun ch a w h=>f _ a w (h.from (a_.le_refl _) aq)))
 |label l=>
  intro ρ key T S K a I w ds Q h b hd hs f j hl;exact wp_label (f _ _ _ ⟨T,S,I,b,hd,a_.le_refl I,hs,cv.refl w,h⟩)
 |goto l=>
  intro ρ key T S K a I w ds Q h b hd hs f j hl;simp only[eF]at h;split at h
  ·rename_i r z
   exact wp_goto ((j l r z).2 a w (f _ _ _ ⟨T,S,I,b,hd,a_.le_refl I,hs,cv.refl w,h⟩))
  ·exact h.elim
 |_=>intro ρ key T S K a I w ds Q h;exact h.elim
theorem adh(Y:P.follows .mixedOrders=true){f:FuncId}{fn b:Func}{c:Code}{C:aQ}(X:P.funcs[f]?=some fn)(V:fn.body=some c)(S:fn.ntmps=N)(hl:∀x,(C.args x).length<=N)
  (o:mg c=true) (t:g_ b=eF (fun _=>none) c) (B:b.results=fn.results) (H:C.X->ah->jc) (L:List LH) (lv:C.X->List (Nat×Value)) (z:∀x,lv x≠[])
  (h:∀x F,C.cond x->C.aO x F->pW P N b (H x F) L (g_ b) (mK (C.args x)) (bD (C.pre x++[F])) (lv x) (ar C x F)):jW P f C:=by
 refine⟨fun x F I w W A hs=>?_⟩;have j:=h x F W A;rw[t]at j;refine calls_of_wp X V ?_;rw[S];refine XS Y (H x F) c j (Fa (C.args x) (hl x)) rfl hs (fun e a w' i=>?_) (fun l r A=>by cases A) o;obtain⟨T,S',J,O,E,Q,G,R,g⟩:=i;have q:jx b T=jx fn T:=by unfold jx;rw[B]
 have out:∀(s:Ending)(d:World),d=w'->ar C x F s S'->∃y J,C.bZ x y/\s=C.val x y/\a_.le I J/\Sat J (bD (C.post x y++[F])) d/\cv w d:=by
  rintro s d rfl ⟨y,p,rfl,k⟩;obtain⟨M,n,D⟩:=k.h J d G;exact⟨y,M,p,rfl,a_.le_trans Q n,D,R⟩
 have fin:rd P S' (jx b T) L (fun v=>ar C x F (.returned v) S')->a.defers=[]/\∃v,(results fn a.tmps).run P w'= .ok v w'/\∃y J,C.bZ x y/\returned v=C.val x y/\a_.le I J/\Sat J (bD (C.post x y++[F])) w'/\cv w w':=fun g=>by
  rw[q]at g;obtain⟨v,K,U⟩:=uY G _ _ _ g;exact⟨E,v,by rw[Ci O];omega,out _ _ rfl U⟩
 cases e with
 |normal=>
  cases m:lv x with
  |nil=>exact absurd m (z x)
  |cons u l=>rw[m]at g;exact fin g
 |ret=>exact fin g
 |panic Z=>exact⟨E,out _ _ rfl g.2⟩
 |_=>exact g.elim
end
end
end Go.Proofs.YtdkchodgklpomaaGreatDoor
