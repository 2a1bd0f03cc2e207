/- Part of the proof that ParseJoins answers true at every input. -/
import Derived.Test.YtdkchodgklpomaaGreatDoorPJao
set_option linter.all false
namespace Go.Proofs.YtdkchodgklpomaaGreatDoor
set_option maxRecDepth 100000
open Go.Value (int slice string bool pointer agg tuple func float iface nilIface)
open Go.IntKind (i64 u8 u64 i32 u32 u16 i8 i16)
open Go.FloatKind (f64)
open Go.Ending (returned panicked)
section
open Go
section
variable{P:Program}
structure K4 where
 ts:List ByteArray
 n:Nat
def GM:ln where
 X:=K4
 args x:=[.agg ⟨x.ts.map string⟩,.int .i64 x.n]
 cond x:=x.ts.length=2/\x.n<2
 val x:=.string (x.ts.getD x.n .empty)
theorem TI{o:Oper}{t e:TypeId}{x i:Operand}{g:TypeInfo}(j:o.op= .index t x i)(p:P.underlying t=some (.array 2 e))(hi:P.info? e=some g)(k:P.cellsOf e=1)(r:P.underlying e=some .string):dR P o GM:=by
 refine⟨fun q w ρ h l=>?_⟩;obtain⟨ts,n⟩:=q;obtain⟨hl,hn⟩:=l;dsimp only at hl hn;obtain⟨vs,c⟩:∃vs,vs=ts.map string:=⟨_,rfl⟩;simp only[j,Op.operands,GM]at h;have a:ρ x= .agg ⟨vs⟩/\ρ i= .int .i64 n:=by rw[c];simpa using h
 have v:(0:Int)<=n/\(n:Int)<(2:Nat):=ae;have d:(isAgg e).run P w= .ok false w:=by simp[isAgg,run_underlying r]
 obtain⟨u,b⟩:∃u,ts[n]?=some u:=⟨_,fg ae⟩;have s:vs[n]?=some (.string u):=by rw[c,fV,b];rfl
 have f:(n:Int)<2:=ae;have m:ts.getD n .empty=u:=by rw[ft,b];rfl
 show(execOp ρ o).run P w= .ok (.value (.string (ts.getD n .empty))) w;rw[m];simp[execOp,j,a.1,a.2,Instr.index,asIntOf,run_underlying p,f,hn,run_sizeOf w hi,k,part,d,s]
end
def G9(L:List bh)(fin:Int)(tv:Nat->ByteArray)(n:Nat)(pos:Int)(ks:List Int):PM (List Int):=do
 cw L fin rp
 let b <-one (P L fin tv bx n .loop)
 cm ⟨26,.empty,0,ks++[b],pos⟩
def G8(L:List bh)(fin:Int)(tv:Nat->ByteArray)(n:Nat)(pos:Int)(ks:List Int):PM (List Int):=do
 cw L fin cU
 let h <-iT L 0 rp
 let d <-bif h then iv L fin else one (P L fin tv bx n .bf)
 G9 L fin tv n pos (ks++[d])
def Ba(L:List bh)(fin:Int)(tv:Nat->ByteArray)(n:Nat)(pos:Int)(ks:List Int):PM (List Int):=do
 cw L fin cU
 let h <-iT L 0 cU
 let c <-bif h then iv L fin else one (P L fin tv bx n .bf)
 G8 L fin tv n pos (ks++[c])
def UP(L:List bh)(fin:Int)(tv:Nat->ByteArray)(n:Nat)(pos:Int):Nat->List Int->PM (List Int)
 |0,ks=>Ba L fin tv n pos ks
 |1,ks=>G8 L fin tv n pos ks
 |_,ks=>G9 L fin tv n pos ks
def UO(L:List bh)(fin:Int)(tv:Nat->ByteArray)(n:Nat)(pos:Int)(v:Nat)(s:ap):PM (List Int):=do
 let a <-bif v==1 then one (P L fin tv bx n .vars) else bif bg L s 0 cU then iv L fin else do
  let x <-fv L fin
  let e <-one (P L fin tv bx n .bf)
  dj ⟨20,.empty,0,[e],x.pos⟩
 Ba L fin tv n pos [a]
def NH(L:List bh)(fin:Int)(tv:Nat->ByteArray)(n:Nat)(pos:Int)(v:Nat)(s:ap):PM (List Int):=
 bif nameV L s v&&bg L s (v+1) uf then do
  io {s with i:=s.i+v+2}
  let e <-one (P L fin tv bx n .bf)
  cw L fin rp
  let b <-one (P L fin tv bx n .loop)
  cm ⟨27,((L[s.i+v]?).map (·.text)).getD .empty,bif v==1 then lG else 0,[e,b],pos⟩
 else UO L fin tv n pos v s
structure iX where
 v:Nat
 t:ap
 ks:List Int
 r:Row
 c:Nat
def iX.ok(d:iX)(x:cj)(s:ap)(os:List Int):Prop:=PG x d.t (os++d.ks)/\bz 3 1 (bB d.ks) d.r/\s.i+1<=d.t.i/\d.t.loops=s.loops/\d.t.bm=s.bm
def Cb:List Value:=[ai cU,ai rp]
def BZ(d:iX):=ag (some ⟨d.c,0,none⟩)
def ahG(x:bk Int)(F:ah):Nat->Option Inv:=fun
 |1=>some {X:=iX,P:=fun d=>d.ok x.x x.s x.os/\d.v<=2/\UP x.x.L x.x.fin x.K.tv x.n x.t d.v d.ks d.t=br x.K x.x (x.n+1) (.dr x.t) x.s,mu:=fun d=>2-d.v,lv:=fun d=>[(0,ag (cu x)),(8,BZ d),(102,agg ⟨Cb⟩),(103,ad d.v)],st:=fun d=>[ak x.x d.t,F,(l_ d.c 26 .empty 0 d.r x.t),d.r.A]}
 |_=>none
def ahF(x:bk Int)(F:ah):Nat->Option Inv:=fun
 |5=>some {X:=iX,P:=fun d=>d.v<=1/\(d.v=1->x.s.ax.i<x.x.L.length)/\PG x.x x.s.ax x.os/\NH x.x.L x.x.fin x.K.tv x.n x.t d.v x.s.ax x.s.ax=br x.K x.x (x.n+1) (.dr x.t) x.s,mu:=fun _=>0,lv:=fun d=>[(0,ag (cu x)),(1,ad x.t),(5,ad d.v)],st:=fun _=>[ak x.x x.s.ax,F]}
 |20=>some {X:=iX,P:=fun d=>d.ok x.x x.s x.os/\Ba x.x.L x.x.fin x.K.tv x.n x.t d.ks d.t=br x.K x.x (x.n+1) (.dr x.t) x.s,mu:=fun _=>0,lv:=fun d=>[(0,ag (cu x)),(8,BZ d)],st:=fun d=>[ak x.x d.t,F,(l_ d.c 26 .empty 0 d.r x.t),d.r.A]}
 |_=>none
theorem fP.look{x:cj}{F:ah}(h:fP x F){b o i j:Nat}{d:bh}{u:Value}(e:x.la=some ⟨b,o,none⟩)(hd:x.L[i]?=some d)(a:(kS d)[j]?=some u):aQ F ⟨b,o+i*5+j,none⟩ u:=by
 have hs:=h.CC;rw[e]at hs;have:=hs.look (N7 x.L i j d u hd a);rw[Nat.add_assoc];exact this
theorem agL{v:Nat}(h:v<=1):f64.nearest (v:Int)=bif v==1 then lG else 0:=by
 have:v=0\/v=1:=ae;rcases this with rfl|rfl <;> rfl
def ahH(x:bk Int)(a:ah):List (Nat×Nat×OH):=[(1,1,bv ik),(3,1,aX gF),(5,2,aX wJ),(5,7,aX gF),(6,3,.q [.ex 0 .slice]),(6,7,dd),(6,10,.qo (fJ 5)),(6,12,.q [.ex 1 .str]),(6,17,.n 7170),(6,18,.w (eG 7170)),(7,3,dd),(7,9,d3 fL),(8,1,bv (cz x.n 14)),(9,1,bv ik),(10,2,bv (cz x.n 45)),(10,3,.n 11030),(10,5,.w [.z00 7170]),(11,1,.q (eG 7170)),(11,2,.c fK [0,11030] [0]),
 (12,2,.n 13020),(12,3,.w (eG 13020)),(17,1,aP 13020),(17,3,bv (cz x.n 41)),(17,4,.n 18040),(17,5,.o (dm 3 1 8) [999] [998]),(17,7,.w [.z00 13020]),(18,1,aX gF),(19,1,aP 13020),(19,3,bv wu),(19,4,.n 20040),(19,5,.o (dm 3 1 8) [999] [998]),(19,7,.w [.z00 13020]),
 (13,1,aX iz),(14,1,bv (cz x.n 14)),(15,1,aP 13020),(15,4,.n 16040),(15,7,.c fK [0,16040] [0]),(15,8,.n 16080),(15,9,.o (dm 3 1 8) [999] [998]),(15,11,.w [.z00 13020]),
 (22,0,.qo GM),(23,1,bv ik),(24,2,aX gF),(25,1,aP 2),(25,3,bv wu),(25,4,.n 26040),(25,5,.o (dm 3 1 8) [3] [3]),(25,7,.w [.z00 2]),(26,1,aP 2),(26,3,bv (cz x.n 14)),(26,4,.n 27040),(26,5,.o (dm 3 1 8) [3] [3]),(26,7,.w [.z00 2]),
 (28,1,bv ik),(29,1,aP 2),(29,3,bv (cz x.n 45)),(29,4,.n 30040),(29,5,.o (dm 3 1 8) [3] [3]),(29,7,.w [.z00 2]),(30,1,.q (eG 2)),(30,2,.c fK [0,3] [0])]
def PF(z:iX)(e0:bk Int):=z.v<=1/\(z.v=1->e0.s.i+1<e0.x.L.length)/\PG e0.x e0.s.ax e0.os/\NH e0.x.L e0.x.fin e0.K.tv e0.n e0.t z.v e0.s.ax e0.s.ax=br e0.K e0.x (e0.n+1) (aq.dr e0.t) e0.s
def Mp(e0:bk Int)(e1:ah)(v0:Value)(a:St):=∃(z:iX),PF z e0/\(ag (cu e0)=ag (cu e0)/\ad e0.t=ad e0.t/\v0=ad ↑z.v/\True)/\aE a [(0,ak e0.x e0.s.ax),(1,e1)]
def IY(m:iX):=(-9223372036854775808:Int)<=(m.v:Int)+1/\(m.v:Int)+1<=(9223372036854775807:Int)
def zy(o:ByteArray)(A:iX)(x:bk Int):List Value:=[ad 27,ai o,float f64 (f64.nearest (A.v:Int)),au none 0 0,ad x.t]
def zZ(x:bk Int):List Value:=[ad 26,ai ⟨#[]⟩,float f64 0,au none 0 0,ad x.t]
def BT(x:bk Int)(F:ah)(p:Nat):=[(0,ak x.x x.s.ax),(1,F),(13020,af p (zZ x) 35)]
def QI(o:iX)(x:bk Int):=o.ok x.x x.s x.os/\Ba x.x.L x.x.fin x.K.tv x.n x.t o.ks o.t=br x.K x.x (x.n+1) (aq.dr x.t) x.s
def zE(o:iX)(x:bk Int):List Value:=[ad 26,ai ByteArray.empty,float f64 0,au o.r.a o.r.n o.r.cap,ad x.t]
def zD(x:bk Int)(o:iX)(F:ah):=[(0,ak x.x o.t),(1,F),(2,af o.c (zE o x) 35),(3,o.r.A)]
def Gs(e0:bk Int)(e1:ah)(v0:Value)(a:St):=∃(z:iX),QI z e0/\(ag (cu e0)=ag (cu e0)/\v0=ag (some ⟨z.c,0,none⟩)/\True)/\aE a (zD e0 z e1)
def Ji(b:Row)(x:bk Int):List Value:=[ad 26,ai ⟨#[]⟩,float f64 0,au b.a b.n b.cap,ad x.t]
def Df(aa:List Value)(pp:List ah)(rr:ah)(a:jK->Unit->Prop):=aD 31 wu/\true=true/\∃(z:jK),aa=(mi z)/\pp=[ak z.x z.s]/\(z.x.L.length<=1048576/\z.s.nodes.length<=4194304)/\fP z.x rr/\∀(b:Unit),True->a z b
def E5(f:jK):List Value:=[ad ↑f.s.nodes.length]
def Iv(m:iX)(x:bk Int):=m.ok x.x x.s x.os/\m.v<=2/\UP x.x.L x.x.fin x.K.tv x.n x.t m.v m.ks m.t=br x.K x.x (x.n+1) (aq.dr x.t) x.s
def Ti(e0:bk Int)(e1:ah)(v0 v1 v2:Value)(a:St):=∃(z:iX),Iv z e0/\(ag (cu e0)=ag (cu e0)/\v0=ag (some ⟨z.c,0,none⟩)/\v1=agg ⟨Cb⟩/\v2=ad ↑z.v/\True)/\aE a (zD e0 z e1)
def Tj(b:Oper)(aa:List Value)(a:K4->Prop):=dR Tryz.prog b GM/\∃(z:K4),aa=[agg ⟨List.map ai z.ts⟩,ad ↑z.n]/\(z.ts.length=2/\z.n<2)/\a z
def EG(j:iK)(F:ah)(m:iX)(x:bk Int):=[(0,ak j.x j.s.ax),(1,F),(2,af m.c (zE m x) 35),(3,m.r.A)]
def JX(m:iX)(d:Nat):List Value:=[au m.r.a m.r.n m.r.cap,au (bI d) 1 1]
def Mq(e0:bk Int)(e1:ah)(v0 v1:Value)(a:St)(mm:Nat):=∃(z:iX),Iv z e0/\(ag (cu e0)=ag (cu e0)/\v0=ag (some ⟨z.c,0,none⟩)/\agg ⟨Cb⟩=agg ⟨Cb⟩/\v1=ad ↑z.v/\True)/\aE a (zD e0 z e1)/\2-z.v<mm
def Eu(b:Row)(x:bk Int):List Value:=[ad 26,ai ByteArray.empty,float f64 0,au b.a b.n b.cap,ad x.t]
def EM(F:ah)(m:iX)(x:bk Int):=[(0,bc),(1,F),(2,af m.c (zE m x) 35),(3,m.r.A)]
def q1(A:iX)(x:bk Int)(F:ah):=∀(p:Nat),cx p (Br ((A.v:Int)==1) (true=true/\aw p 3/\cq x.n 41 (jF x) [ak x.x x.s.ax] (aH (BT x F p) [0]) (fun f e=>∀(d:Nat),fG (a7 Tryz.f46 17 5) (w9 d) [bc] (aH [(0,ak f.x e.snd),(1,F),(13020,af p (zZ x) 35),(18040,af d (bN e) 3)] [999]) (fun c b=>aw p 3/\Gs x F (cr p) [(0,ak f.x e.snd),(1,F),(998,b.A),(999,bc),(13020,af p (Ji b x) 35),(18040,af d (bN e) 3)])) (fun f c=>∀(b:Tm),ar (bn fun(a:Int)=>aq.dr a) x F (ci c) [(0,bc),(1,F),(13020,af p (zZ x) 35)])) (gA [ag (cu x),ad 0,ai ⟨#[59]⟩] (aH (BT x F p) []) (fun m l=>Br (ii m.p.L (m.p.i+m.a) m.t) (true=true/\aw p 3/\Df (jF x) [ak x.x x.s.ax] (aH (BT x F p) [0]) (fun f e=>∀(d:Nat),fG (a7 Tryz.f46 19 5) (w9 d) [bc] (aH [(0,ak f.x (f.s.add ⟨(36:Int),ByteArray.empty,0,[],(aC f.x.L f.x.fin f.s).pos⟩)),(1,F),(13020,af p (zZ x) 35),(20040,af d (E5 f) 3)] [999]) (fun c b=>aw p 3/\Gs x F (cr p) [(0,ak f.x (f.s.add ⟨(36:Int),ByteArray.empty,0,[],(aC f.x.L f.x.fin f.s).pos⟩)),(1,F),(998,b.A),(999,bc),(13020,af p (Ji b x) 35),(20040,af d (E5 f) 3)]))) (fd (jF x) (aH (BT x F p) []) (fun k j=>cq x.n 14 (jF x) [ak x.x x.s.ax] (aH (BT x F p) [0]) (fun i h=>true=true/\aw p 3/\∀(g:Nat),db [ag (cu x),agg ⟨[ad 20,ai ⟨#[]⟩,float f64 0,au (bI g) 1 1,ad (co k.L k.fin k.i).pos]⟩] [ak i.x h.snd,af g (bN h) 3] (fun f e=>∀(d:Nat),fG (a7 Tryz.f46 15 9) (w9 d) [bc] (aH [(0,ak f.x (f.s.add f.n)),(1,F),(13020,af p (zZ x) 35),(16040,bc),(16080,af d (o5 f) 3)] [999]) (fun c b=>aw p 3/\Gs x F (cr p) [(0,ak f.x (f.s.add f.n)),(1,F),(998,b.A),(999,bc),(13020,af p (Ji b x) 35),(16040,bc),(16080,af d (o5 f) 3)]))) (fun i b=>ar (bn fun(a:Int)=>aq.dr a) x F (ci b) [(0,bc),(1,F),(13020,af p (zZ x) 35)])))))/\aT fun(o:iX)_=>QI o x->Ti x F (BZ o) (agg ⟨[ai ⟨#[59]⟩,ai ⟨#[41]⟩]⟩) (ad 0) (zD x o F)/\aT fun(m:iX)_=>Iv m x->aS ((m.v:Int)<2) (Tj ⟨some 105,Op.index 87 (Operand.tmp 102) (Operand.tmp 103),9,"esparse.go:375",⟨[]⟩,none⟩ [agg ⟨Cb⟩,ad ↑m.v] (fun k=>gi [ag (cu x),ai ⟨#[59]⟩] [ak x.x m.t] (aH (zD x m F) [0]) (fun j i=>gA [ag (cu x),ad 0,ai (k.ts.getD k.n ByteArray.empty)] (aH (EG j F m x) []) (fun h g=>Br (ii h.p.L (h.p.i+h.a) h.t) (true=true/\aw m.c 3/\Df (jF x) [ak j.x j.s.ax] (aH (EG j F m x) [0]) (fun f e=>∀(d:Nat),fG (a7 Tryz.f46 25 5) (JX m d) [m.r.A] (aH [(0,ak f.x (f.s.add ⟨(36:Int),ByteArray.empty,0,[],(aC f.x.L f.x.fin f.s).pos⟩)),(1,F),(2,af m.c (zE m x) 35),(3,m.r.A),(26040,af d (E5 f) 3)] [3]) (fun c b=>aw m.c 3/\IY m/\Mq x F (BZ m) (ad ((m.v:Int)+1)) [(0,ak f.x (f.s.add ⟨(36:Int),ByteArray.empty,0,[],(aC f.x.L f.x.fin f.s).pos⟩)),(1,F),(2,af m.c (Eu b x) 35),(3,b.A),(26040,af d (E5 f) 3)] (2-m.v)))) (true=true/\aw m.c 3/\cq x.n 14 (jF x) [ak j.x j.s.ax] (aH (EG j F m x) [0]) (fun f e=>∀(d:Nat),fG (a7 Tryz.f46 26 5) (JX m d) [m.r.A] (aH [(0,ak f.x e.snd),(1,F),(2,af m.c (zE m x) 35),(3,m.r.A),(27040,af d (bN e) 3)] [3]) (fun c b=>aw m.c 3/\IY m/\Mq x F (BZ m) (ad ((m.v:Int)+1)) [(0,ak f.x e.snd),(1,F),(2,af m.c (Eu b x) 35),(3,b.A),(27040,af d (bN e) 3)] (2-m.v))) (fun f c=>∀(b:Tm),ar (bn fun(a:Int)=>aq.dr a) x F (ci c) (EM F m x))))) (fun j b=>ar (bn fun(a:Int)=>aq.dr a) x F (gr j) (EM F m x)))) (gi (zT x) [ak x.x m.t] (aH (zD x m F) [0]) (fun j i=>true=true/\aw m.c 3/\cq x.n 45 (jF x) [ak j.x j.s.ax] (aH (EG j F m x) [0]) (fun h g=>∀(f:Nat),fG (a7 Tryz.f46 29 5) (JX m f) [m.r.A] (aH [(0,ak h.x g.snd),(1,F),(2,af m.c (zE m x) 35),(3,m.r.A),(30040,af f (bN g) 3)] [3]) (fun e d=>aw m.c 3/\cx m.c (db [ag (cu x),agg ⟨Eu d x⟩] [ak h.x g.snd,d.A] (fun c b=>ar (bn fun(a:Int)=>aq.dr a) x F (fx c) [(0,ak c.x (c.s.add c.n)),(1,F),(2,af m.c (Eu d x) 35),(3,bc),(30040,af f (bN g) 3)])))) (fun h c=>∀(b:Tm),ar (bn fun(a:Int)=>aq.dr a) x F (ci c) (EM F m x))) (fun j b=>ar (bn fun(a:Int)=>aq.dr a) x F (gr j) (EM F m x))))
theorem ahJ(x:bk Int)(F:ah)(hc:aR.cond (bn (fun(p:Int)=>aq.dr p)) x)(O:aR.aO (bn (fun(p:Int)=>aq.dr p)) x F):gi [ag (cu x),ai ⟨#[40]⟩] [ak x.x x.s] (aH [(0,ak x.x x.s),(1,F)] [0]) (fun C B=>gA [ag (cu x),ad 0,ai ⟨#[118,97,114]⟩] (aH (mU C F) []) (fun c b=>Br (ii c.p.L (c.p.i+c.a) c.t) (Mp x F (ad 1) (mU C F)) (Mp x F (ad 0) (mU C F)))/\aT fun(A:iX)_=>PF A x->Gq [ag (cu x),ad ↑A.v] (aH [(0,ak x.x x.s.ax),(1,F)] []) (fun y w=>Br (Bp y.p.L (y.p.i+y.a)) (IY A/\gA [ag (cu x),ad ((A.v:Int)+1),ai ⟨#[105,110]⟩] (aH [(0,ak x.x x.s.ax),(1,F)] []) (fun v u=>Br (ii v.p.L (v.p.i+v.a) v.t) (true=true/\eA (ak x.x x.s.ax) ⟨x.x.b,0,none⟩ (fun t s r=>T1 (ak x.x x.s.ax) ⟨x.x.b,1,none⟩ (fun q=>bK (q+A.v)/\iP (a7 Tryz.f46 6 10) [au t s r,ad (q+A.v)] (fun p=>T2 F ⟨p.b,p.o+p.n.toNat*5+1,none⟩ (fun o=>∀(n:Nat),cx n (T1 (ak x.x x.s.ax) ⟨x.x.b,1,none⟩ (fun m=>((-9223372036854775808:Int)<=(A.v:Int)+2/\(A.v:Int)+2<=(9223372036854775807:Int))/\bK (m+((A.v:Int)+2))/\dS (a7 Tryz.f46 7 9) [ag (some ⟨x.x.b,1,none⟩),ad (m+((A.v:Int)+2))] [ak x.x x.s.ax] (fun l k=>cq x.n 14 (jF x) [ak l.x l.t] (aH [(0,ak l.x l.t),(1,F),(7170,af n (zy o A x) 35)] [0]) (fun j i=>gi (zT x) [ak j.x i.snd] (aH [(0,ak j.x i.snd),(1,F),(7170,af n (zy o A x) 35)] [0]) (fun h g=>cq x.n 45 (jF x) [ak h.x h.s.ax] (aH [(0,ak h.x h.s.ax),(1,F),(7170,af n (zy o A x) 35)] [0]) (fun f e=>∀(d:Nat),aw n 3/\cx n (db [ag (cu x),agg ⟨[ad 27,ai o,float f64 (f64.nearest (A.v:Int)),au (bI d) 2 2,ad x.t]⟩] [ak f.x e.snd,af d [ad i.fst,ad e.fst] 3] (fun c b=>ar (bn fun(a:Int)=>aq.dr a) x F (fx c) [(0,ak c.x (c.s.add c.n)),(1,F),(7170,af n [ad 27,ai o,float f64 (f64.nearest (A.v:Int)),au (bI d) 2 2,ad x.t] 35),(11030,bc)]))) (fun f b=>ar (bn fun(a:Int)=>aq.dr a) x F (ci b) [(0,bc),(1,F),(7170,af n (zy o A x) 35)])) (fun h b=>ar (bn fun(a:Int)=>aq.dr a) x F (gr h) [(0,bc),(1,F),(7170,af n (zy o A x) 35)])) (fun j b=>ar (bn fun(a:Int)=>aq.dr a) x F (ci b) [(0,bc),(1,F),(7170,af n (zy o A x) 35)]))))))))) (q1 A x F))) (q1 A x F))) (fun C b=>ar (bn fun(a:Int)=>aq.dr a) x F (gr C) (h9 F)):=by
 delta jh gi cu p7 p8 gA mU PF Mp Gq IY eA T1 iP T2 lN lO dS cq jF zy zT kz kC db bI j5 fx ci gr zZ BT k7 fG w9 bN QI zE zD Gs cr Ji mR mi Df E5 im fd o5 Iv Cb Ti BZ Tj EG JX Mq Eu EM q1 h9 dT aH ak aw bK cx ad ai ag au af bc aS ay aT;obtain⟨K,x,s,os,n,Y⟩:=x;obtain⟨ih,hK,hG,hp,DM,y5,Q⟩:=hc;replace O:cB K x F:=O;replace Q:br K x (n+1) (.dr Y) s≠.out:=Q;dsimp only at ih hK hG hp DM y5⊢;obtain⟨r,e0⟩:∃r,br K x (n+1) (.dr Y) s=r:=⟨_,rfl⟩;rw[e0]at Q;have hk:=e0;unfold br at hk;rw[P]at hk;have hl:=hK.len;refine ma hG hk (fun hk g1=>?_);rw[iF]at hk;have c0:x.L.length<=1048576/\s.ax.i<=1048576/\0<=1048576:=⟨hl,hO g1.i hl,dq _⟩;have amM:s.nodes.length<=2*s.i:=hG.nd;have aej:=hG.l;have aek:=hG.b;refine⟨?_,?_⟩
 ·refine bs jW ⟨x.p s.ax,0,lg⟩ c0 (O.ls.df 0 1 aL aL rfl rfl) fun _ _=>aG (fun h=>⟨⟨1,s.ax,[],dL,0⟩,⟨bZ _,fun _=>je h,g1,?_⟩,aV,aA [0,1]⟩) (fun h=>⟨⟨0,s.ax,[],dL,0⟩,⟨dq _,(fun e=>nomatch e),g1,?_⟩,aV,aA [0,1]⟩)
  ·rw[show bg x.L s.ax 0 lg=true from h]at hk;exact hk.trans e0.symm
  ·rw[show bg x.L s.ax 0 lg=false from h]at hk;exact hk.trans e0.symm
 clear hk;rintro⟨v,t0,ks0,r0,cc⟩ js ⟨hv,U,-,hk⟩;replace hv:v<=1:=hv;replace U:v=1->s.ax.i<x.L.length:=U;dsimp only at hk⊢;rw[e0,NH]at hk;have hgi:=g1.i;refine lj (A:=(nameV x.L s.ax v&&bg x.L s.ax (v+1) uf)=false) (fun kx=>bs VU ⟨x.p s.ax,v⟩ ⟨hl,hO g1.i hl,a_⟩ (O.ls.df 0 1 aL aL rfl rfl) fun _ _=>aG (fun h1=>⟨aK,jW,rfl,⟨x.p s.ax,v+1,uf⟩,rfl,rfl,⟨hl,hO g1.i hl,a_⟩,O.ls.df 0 1 aL aL rfl rfl,fun _ _=>aG (fun D=>?_) (fun D=>kx ?_)⟩) (fun h1=>kx ?_)) (fun hx=>?_)
 ·have hx:(nameV x.L s.ax v&&bg x.L s.ax (v+1) uf)=true:=by rw[show nameV x.L s.ax v=true from h1,show bg x.L s.ax (v+1) uf=true from D];rfl
  have hin:=VV hx;rw[hx,aU,Ah]at hk;obtain⟨d,hd⟩:∃d,x.L[s.ax.i+v]?=some d:=⟨_,fg ae⟩;obtain⟨lb,lo,U2⟩:=O.ls.src.some ae;have en:((s.ax.i:Int)+(v:Int)).toNat=s.ax.i+v:=ae;rw[hd]at hk;refine⟨rfl,_,_,_,el fun _=>rfl,_,el fun _=>rfl,⟨by(try dsimp only);omega,by(try dsimp only);omega⟩,gG 5 rfl rfl rfl rfl,⟨lb,lo,x.L.length,x.lc,(s.ax.i:Int)+(v:Int)⟩,by rw[U2],⟨by(try dsimp only);omega,by(try dsimp only);omega⟩,d.text,by dsimp only;rw[en];exact O.ls.look (j:=1) U2 hd rfl,fun c=>?_⟩
  repeat (refine⟨al,?_⟩)
  have E:PG x ⟨s.ax.i+v+2,s.ax.nodes,s.ax.bu,s.ax.loops,s.ax.bm⟩ os:=by
   obtain⟨a1,a2,a3,a4,a5,a6⟩:=g1;exact⟨a_,a2.same rfl,a_,a_,a_,a_⟩
  refine⟨_,el fun _=>rfl,⟨by(try dsimp only);omega,by(try dsimp only);omega⟩,⟨by(try dsimp only);omega,by(try dsimp only);omega⟩,gw rfl rfl rfl,rfl,⟨x,s.ax,⟨s.ax.i+v+2,s.ax.nodes,s.ax.bu,s.ax.loops,s.ax.bm⟩,1,_⟩,rfl,rfl,⟨fun _=>rfl,rfl,a_,rfl,rfl⟩,ao,fun _ _=>?_⟩;refine ca E (fy hk Q) (fun e t1 hk g3 I L H J G N=>?_) (cC:=ao) (ct:=ao) (cN:=ao);dsimp only[aq.sl,ap.ax,ap.add]at I L H J G N;refine ma g3 hk (fun hk g4=>?_);refine ca g4 (fy hk Q) (fun b t2 hk g5 N1 Ol NF Ob bg5 SC=>?_) (cC:=ao) (ct:=ao) (cN:=(show t1.loops<((t1.i+1:Nat):Int)/\t1.bm<((t1.i+1:Nat):Int) by omega));dsimp only[aq.sl,ap.ax,ap.add]at N1 Ol NF Ob bg5 SC;rw[h_]at hk;intro Hv
  repeat (refine⟨al,?_⟩)
  rw[agL hv];refine bO fi ⟨x,t2,⟨27,d.text,bif v==1 then lG else 0,[e,b],Y⟩,kT Hv [e,b]⟩ ⟨by have:=g5.cap hl;dsimp only[ap.ax,ap.add]at*;omega,jw Hv [e,b]⟩ fun _ _=>?_;exact eH (e0.trans hk.symm)
 ·rw[show bg x.L s.ax (v+1) uf=false from D,lB]
 ·rw[show nameV x.L s.ax v=false from h1,jp]
 rw[hx,aN,UO]at hk;intro c
 repeat (refine⟨al,?_⟩)
 refine⟨?_,?_⟩
 ·refine aG (fun h=>?_) (fun h=>?_)
  ·have h:((v:Int)==1)=true:=h;have ev:v=1:=by
    simp at h;omega
   rw[fS 1 h,aU]at hk;refine⟨rfl,al,?_⟩;refine ca g1 (fy hk Q) (fun a t1 hk E V X T W R Z=>?_) (cC:=ao) (ct:=U ev) (cN:=ao);dsimp only[aq.sl,ap.ax,ap.add]at V X T W R Z;intro lb;refine lq (ks:=[]) (k:=a) 18040 zh (by simp only[dJ,qH,List.length_nil];omega) (fun M D=>?_);exact⟨al,⟨v,t1,[a],M,c⟩,⟨⟨E,D,ae,ae,ae⟩,hk.trans e0.symm⟩,aV,aA [0,1,13020,998]⟩
  ·have h:((v:Int)==1)=false:=h;rw[fS 1 h,aN]at hk;refine bs jW ⟨x.p s.ax,0,cU⟩ ⟨hl,by have:=g1.i;show s.ax.i<=1048576;omega,a_⟩ (O.ls.df 0 1 aL aL rfl rfl) fun _ _=>?_;refine aG (fun D=>?_) (fun D=>?_)
   ·rw[show bg x.L s.ax 0 cU=true from D,aU,Ft]at hk;refine⟨rfl,al,G2,rfl,⟨x,s.ax⟩,rfl,rfl,⟨hl,by have:=g1.cap hl;dsimp only;omega⟩,O.ls.sub (bU 1),fun _ _ lb=>?_⟩;refine lq (ks:=[]) (k:=(s.nodes.length:Int)) 20040 zh (by simp only[dJ,qH,List.length_nil];omega) (fun M D=>?_);have E:=PG.node (n:=⟨36,.empty,0,[],(aC x.L x.fin s.ax).pos⟩) (g1.cast (dn _).symm) (PG.hp hK s.ax) (by show s.nodes.length+1<=2*(s.i+1);omega);exact⟨al,⟨v,_,[(s.nodes.length:Int)],M,c⟩,⟨⟨E,D,bZ _,rfl,rfl⟩,hk.trans e0.symm⟩,aV,aA [0,1,13020,998]⟩
   ·rw[show bg x.L s.ax 0 cU=false from D,aN,eV,m6,eV]at hk;refine bs kR (x.p s.ax) hl (O.ls.df 0 1 aL aL rfl rfl) fun _ _=>?_;refine ca g1 (fy hk Q) (fun e t1 hk E V X T W R Z=>?_) (cC:=ao) (ct:=ao) (cN:=ao);dsimp only[aq.sl,ap.ax,ap.add]at V X T W R Z;rw[xP]at hk;have amN:=E.nd;have g3:=PG.node (n:=⟨20,.empty,0,[e],(aC x.L x.fin s.ax).pos⟩) E (PG.hp hK s.ax) (by dsimp only[ap.ax]at*;omega);refine⟨rfl,al,fun Vu=>?_⟩;refine bO fi ⟨x,t1,⟨20,.empty,0,[e],(aC x.L x.fin s.ax).pos⟩,kT Vu [e]⟩ ⟨by have:=E.cap hl;dsimp only[ap.ax,ap.add]at*;omega,jw Vu [e]⟩ fun _ _=>?_;intro lb;refine lq (ks:=[]) (k:=(t1.nodes.length:Int)) 16080 zh (by simp only[dJ,qH,List.length_nil];omega) (fun M D=>?_);exact⟨al,⟨v,_,[(t1.nodes.length:Int)],M,c⟩,⟨⟨g3,D,by show s.i+1<=t1.i;omega,by show t1.loops=s.loops;omega,by show t1.bm=s.bm;omega⟩,hk.trans e0.symm⟩,aV,aA [0,1,13020,998]⟩
 clear hk;rintro⟨v',t,ks,r',c⟩ js ⟨⟨g,z,hi,S,f2⟩,hk⟩;dsimp only at g z hi S f2 hk⊢;refine⟨⟨⟨0,t,ks,r',c⟩,⟨⟨g,z,hi,S,f2⟩,dq _,hk⟩,aV,aA [0,1,2,3]⟩,?_⟩;clear hk g z hi S f2;rintro⟨j,t,ks,r',c⟩ js ⟨⟨g,z,hi,S,f2⟩,hj,hk⟩;dsimp only at g z hi S f2 hj hk⊢;rw[e0]at hk;have NS:=g.nd;have wD:=py g hl;refine bo (fun h=>?_) (fun h=>?_)
 ·have hj2:j=0\/j=1:=by omega
  clear hj h;rcases hj2 with rfl|rfl
  ·replace hk:Ba x.L x.fin K.tv n Y ks t=r:=hk;rw[Ba]at hk;refine⟨TI rfl rfl rfl rfl rfl,⟨[cU,rp],0⟩,rfl,⟨rfl,by decide⟩,?_⟩;refine ma g hk (fun hk E=>?_);rw[Fu]at hk;refine bs jW ⟨x.p t.ax,0,cU⟩ ⟨hl,by have:=E.i;show t.ax.i<=1048576;omega,a_⟩ (O.ls.df 0 1 aL aL rfl rfl) fun _ _=>?_;refine aG (fun D=>?_) (fun D=>?_)
   ·rw[show bg x.L t.ax 0 cU=true from D,aU,Ft]at hk;refine⟨rfl,al,G2,rfl,⟨x,t.ax⟩,rfl,rfl,⟨hl,by have:=E.cap hl;dsimp only;omega⟩,O.ls.sub (bU 1),fun _ _ lb=>?_⟩;refine lq (ks:=ks) (k:=(t.nodes.length:Int)) 26040 z ae (fun M D=>?_);have g3:=PG.node (n:=⟨36,.empty,0,[],(aC x.L x.fin t.ax).pos⟩) (E.cast (dn _).symm) (PG.hp hK t.ax) (by show t.nodes.length+1<=2*(t.i+1);omega);exact⟨al,⟨by(try dsimp only);omega,by(try dsimp only);omega⟩,⟨1,_,ks++[(t.nodes.length:Int)],M,c⟩,⟨⟨g3.cast (gW _ _ _),D,Nat.le_succ_of_le hi,S,f2⟩,a_,hk.trans e0.symm⟩,aV,aA [0,1,2,3],a_⟩
   ·rw[show bg x.L t.ax 0 cU=false from D,aN]at hk;refine⟨rfl,al,?_⟩;refine ca E (fy hk Q) (fun e t1 hk g3 I L H J G N=>?_) (cC:=ao) (ct:=ao) (cN:=ao);dsimp only[aq.sl,ap.ax,ap.add]at I L H J G N;intro lb;refine lq (ks:=ks) (k:=e) 27040 z ae (fun M D=>?_);exact⟨al,⟨by(try dsimp only);omega,by(try dsimp only);omega⟩,⟨1,t1,ks++[e],M,c⟩,⟨⟨g3.cast (gW _ _ _),D,a_,a_,a_⟩,a_,hk.trans e0.symm⟩,aV,aA [0,1,2,3],a_⟩
  ·replace hk:G8 x.L x.fin K.tv n Y ks t=r:=hk;rw[G8]at hk;refine⟨TI rfl rfl rfl rfl rfl,⟨[cU,rp],1⟩,rfl,⟨rfl,by decide⟩,?_⟩;refine ma g hk (fun hk E=>?_);rw[Fu]at hk;refine bs jW ⟨x.p t.ax,0,rp⟩ ⟨hl,by have:=E.i;show t.ax.i<=1048576;omega,a_⟩ (O.ls.df 0 1 aL aL rfl rfl) fun _ _=>?_;refine aG (fun D=>?_) (fun D=>?_)
   ·rw[show bg x.L t.ax 0 rp=true from D,aU,Ft]at hk;refine⟨rfl,al,G2,rfl,⟨x,t.ax⟩,rfl,rfl,⟨hl,by have:=E.cap hl;dsimp only;omega⟩,O.ls.sub (bU 1),fun _ _ lb=>?_⟩;refine lq (ks:=ks) (k:=(t.nodes.length:Int)) 26040 z ae (fun M D=>?_);have g3:=PG.node (n:=⟨36,.empty,0,[],(aC x.L x.fin t.ax).pos⟩) (E.cast (dn _).symm) (PG.hp hK t.ax) (by show t.nodes.length+1<=2*(t.i+1);omega);exact⟨al,⟨by(try dsimp only);omega,by(try dsimp only);omega⟩,⟨2,_,ks++[(t.nodes.length:Int)],M,c⟩,⟨⟨g3.cast (gW _ _ _),D,Nat.le_succ_of_le hi,S,f2⟩,a_,hk.trans e0.symm⟩,aV,aA [0,1,2,3],a_⟩
   ·rw[show bg x.L t.ax 0 rp=false from D,aN]at hk;refine⟨rfl,al,?_⟩;refine ca E (fy hk Q) (fun e t1 hk g3 I L H J G N=>?_) (cC:=ao) (ct:=ao) (cN:=ao);dsimp only[aq.sl,ap.ax,ap.add]at I L H J G N;intro lb;refine lq (ks:=ks) (k:=e) 27040 z ae (fun M D=>?_);exact⟨al,⟨by(try dsimp only);omega,by(try dsimp only);omega⟩,⟨2,t1,ks++[e],M,c⟩,⟨⟨g3.cast (gW _ _ _),D,a_,a_,a_⟩,a_,hk.trans e0.symm⟩,aV,aA [0,1,2,3],a_⟩
 ·have ej:j=2:=by omega
  subst ej;replace hk:G9 x.L x.fin K.tv n Y ks t=r:=hk;rw[G9]at hk;refine ma g hk (fun hk E=>?_);refine⟨rfl,al,?_⟩;refine ca E (fy hk Q) (fun b t2 hk g3 I L H J G N=>?_) (cC:=ao) (ct:=ao) (cN:=(show t.loops<((t.i+1:Nat):Int)/\t.bm<((t.i+1:Nat):Int) by omega));dsimp only[aq.sl,ap.ax,ap.add]at I L H J G N;rw[h_]at hk;intro lb;refine lq (ks:=ks) (k:=b) 30040 z ae (fun M D=>?_)
  repeat (refine⟨al,?_⟩)
  refine bO fi ⟨x,t2,⟨26,.empty,0,ks++[b],Y⟩,M⟩ ⟨by have:=g3.cap hl;dsimp only[ap.ax,ap.add]at*;omega,D⟩ fun _ _=>?_;exact eH (e0.trans hk.symm)
theorem ahI:aD 46 (bn (fun(p:Int)=>aq.dr p)):=fo 138 Tryz.func46 ahH [] ahG ahF bA [] ahJ
end
section
open Go
def yM(L:List bh)(pos:Int)(aB:List Int):PM (List Int):=do
 let t <-eZ
 io {t with bm:=t.bm-1}
 cm ⟨33,.empty,0,aB,pos⟩
def GU(L:List bh)(fin:Int)(tv:Nat->ByteArray)(f:Nat)(ks:List Int)(seen:Bool)(num:Nat)(p:Int)(all:List Int):PM (List Int):=do
 let k <-dj ⟨34,.empty,num,all,p⟩
 P L fin tv bx f (.ec (ks++[k]) seen)
def Nl(L:List bh)(fin:Int)(tv:Nat->ByteArray)(f:Nat)(ks:List Int)(seen:Bool)(num:Nat)(p:Int)(kc:List Int):PM (List Int):=do
 cw L fin colon
 let all <-P L fin tv bx f (.eu kc)
 GU L fin tv f ks seen num p all
structure rR where
 t:ap
 ks:List Int
 r:Row
 seen:Bool
 f:Nat
 c:Nat
structure mz where
 t:ap
 ks:List Int
 r:Row
 seen:Bool
 f:Nat
 c:Nat
 d:Nat
 kc:List Int
 rc:Row
 num:Nat
 p:Int
 f2:Nat
def mz.ok(d:mz)(x:cj)(s:ap)(os:List Int)(n:Nat):Prop:=PG x d.t (os++d.ks++d.kc)/\bz 3 1 (bB d.ks) d.r/\bz 3 1 (bB d.kc) d.rc/\d.f<=n/\(0<=d.p/\d.p<=x.fin)
def EY(d:rR):=ag (some ⟨d.c,0,none⟩)
def ahA(x:bk Int)(F:ah):Nat->Option Inv:=fun
 |0=>some {X:=rR,P:=fun d=>PG x.x d.t (x.os++d.ks)/\bz 3 1 (bB d.ks) d.r/\d.f<=x.n/\(P x.x.L x.x.fin x.K.tv bx d.f (.ec d.ks d.seen)>>=yM x.x.L x.t) d.t=br x.K x.x (x.n+1) (.choose x.t) x.s,mu:=fun d=>d.f,lv:=fun d=>[(0,ag (cu x)),(5,EY d),(6,aj d.seen)],st:=fun d=>[ak x.x d.t,F,(l_ d.c 33 .empty 0 d.r x.t),d.r.A]}
 |3=>some {X:=mz,gh:=some ⟨Nat,fun d=>d.f⟩,P:=fun d=>d.ok x.x x.s x.os x.n/\d.t.nodes.length+1<=2*d.t.i/\d.f2<=x.n/\((P x.x.L x.x.fin x.K.tv bx d.f2 (.eu d.kc)>>=GU x.x.L x.x.fin x.K.tv d.f d.ks d.seen d.num d.p)>>=yM x.x.L x.t) d.t=br x.K x.x (x.n+1) (.choose x.t) x.s,mu:=fun d=>d.f2,lv:=fun d=>[(0,ag (cu x)),(5,ag (some ⟨d.c,0,none⟩)),(6,aj d.seen),(7,ag (some ⟨d.d,0,none⟩))],st:=fun d=>[ak x.x d.t,F,(l_ d.c 33 .empty 0 d.r x.t),d.r.A,(l_ d.d 34 .empty d.num d.rc d.p),d.rc.A]}
 |_=>none
def ahz(x:bk Int)(F:ah):Nat->Option Inv:=fun
 |14=>some {X:=mz,gh:=some ⟨Nat,fun d=>d.f⟩,P:=fun d=>d.ok x.x x.s x.os x.n/\(Nl x.x.L x.x.fin x.K.tv d.f d.ks d.seen d.num d.p d.kc>>=yM x.x.L x.t) d.t=br x.K x.x (x.n+1) (.choose x.t) x.s,mu:=fun _=>0,lv:=fun d=>[(0,.pointer (some ⟨x.x.b,0,none⟩)),(5,.pointer (some ⟨d.c,0,none⟩)),(6,.bool d.seen),(7,.pointer (some ⟨d.d,0,none⟩))],st:=fun d=>[ak x.x d.t,F,l_ d.c 33 .empty 0 d.r x.t,d.r.A,l_ d.d 34 .empty d.num d.rc d.p,d.rc.A]}
 |_=>none
def ahB(x:bk Int)(a:ah):List (Nat×Nat×OH):=[(1,1,bv (cz x.n 44)),(1,2,.n 2020),(1,5,.n 2050),(1,6,.w (eG 2050)),(2,1,bv ik),(3,3,dd),(3,7,d3 fL),(5,1,bv ig),(6,1,aX iz),(6,4,.n 7040),(6,5,.w (eG 7040)),(8,1,bv ig),(9,1,aP 7040),(9,3,bv (cz x.n 14)),(9,4,.n 10040),(9,5,.o (dm 3 1 8) [999] [998]),(9,7,.w [.z00 7040]),(10,1,aX gF),(11,3,dd),(11,7,d3 fL),(13,1,.w [.z00 7040]),(7,1,aX ly),(14,1,bv ik),
 (15,1,aX gF),(15,5,aX gF),(15,10,aX gF),(16,1,aP 4),(16,3,bv (cz x.n 17)),(16,4,.n 17040),(16,5,.o (dm 3 1 8) [5] [5]),(16,7,.w [.z00 4]),(17,1,aP 2),(17,3,.q (eG 4)),(17,4,.c fK [0,5] [0]),(17,5,.n 18050),(17,6,.o (dm 3 1 8) [3] [3]),(17,8,.w [.z00 2]),(18,3,dd),(18,7,d3 fL),(19,1,.q (eG 2)),(19,2,.c fK [0,3] [0])]
def Jl(J:Nat)(x:bk Int):List Value:=[ad 33,ai ⟨#[]⟩,float f64 0,au (bI J) 1 1,ad x.t]
def H7(e0:bk Int)(z:rR):=PG e0.x z.t (e0.os++z.ks)/\bz 3 1 (bB z.ks) z.r/\z.f<=e0.n/\(P e0.x.L e0.x.fin e0.K.tv bx z.f (aq.ec z.ks z.seen)>>=yM e0.x.L e0.t) z.t=br e0.K e0.x (e0.n+1) (aq.choose e0.t) e0.s
def sC(z:rR)(e0:bk Int):List Value:=[ad 33,ai ByteArray.empty,float f64 0,au z.r.a z.r.n z.r.cap,ad e0.t]
def JO(e0:bk Int)(z:rR)(e1:ah):=[(0,ak e0.x z.t),(1,e1),(2,af z.c (sC z e0) 35),(3,z.r.A)]
def Ej(w:cX):List Value:=[ad 34,ai ⟨#[]⟩,float f64 0,au none 0 0,ad (co w.L w.fin w.i).pos]
def E0(z:iK)(F:ah)(B:rR)(x:bk Int)(u:Nat)(w:cX):=[(0,ak z.x z.s),(1,F),(2,af B.c (sC B x) 35),(3,B.r.A),(7040,af u (Ej w) 35)]
def PU(z:mz)(e0:bk Int):=z.ok e0.x e0.s e0.os e0.n/\(Nl e0.x.L e0.x.fin e0.K.tv z.f z.ks z.seen z.num z.p z.kc>>=yM e0.x.L e0.t) z.t=br e0.K e0.x (e0.n+1) (aq.choose e0.t) e0.s
def zv(z:mz)(e0:bk Int):List Value:=[ad 33,ai ByteArray.empty,float f64 0,au z.r.a z.r.n z.r.cap,ad e0.t]
def xv(z:mz):List Value:=[ad 34,ai ByteArray.empty,float f64 z.num,au z.rc.a z.rc.n z.rc.cap,ad z.p]
def vc(e0:bk Int)(z:mz)(a:ah):=[(0,ak e0.x z.t),(1,a),(2,af z.c (zv z e0) 35),(3,z.r.A),(4,af z.d (xv z) 35),(5,z.rc.A)]
def Mr(e0:bk Int)(e1:Nat)(a:ah)(v0 v1 v2:Value)(b:St):=∃(z:mz),(PU z e0/\z.f=e1)/\(ag (cu e0)=ag (cu e0)/\v0=ag (some ⟨z.c,0,none⟩)/\v1=aj z.seen/\v2=ag (some ⟨z.d,0,none⟩)/\True)/\aE b (vc e0 z a)
def RD(x:bk Int):List Value:=[ag (cu x),ad 0,ai ⟨#[100,101,102,97,117,108,116]⟩]
def Q_(x:bk Int)(h:iK)(F:ah)(B:rR)(u:Nat)(w:cX):=kO (jF x) (aH (E0 h F B x u w) []) (fun c b=>ar (bn fun(a:Int)=>aq.choose a) x F (jC c) (E0 h F B x u w))
def H2(a:mz)(x:bk Int)(o:Nat):=(a.ok x.x x.s x.os x.n/\a.t.nodes.length+1<=2*a.t.i/\a.f2<=x.n/\(P x.x.L x.x.fin x.K.tv bx a.f2 (aq.eu a.kc)>>=GU x.x.L x.x.fin x.K.tv a.f a.ks a.seen a.num a.p>>=yM x.x.L x.t) a.t=br x.K x.x (x.n+1) (aq.choose x.t) x.s)/\a.f=o
def Pk(x:bk Int)(s a:mz):=ag (cu x)=ag (cu x)/\ag (some ⟨s.c,0,none⟩)=ag (some ⟨a.c,0,none⟩)/\aj s.seen=aj a.seen/\ag (some ⟨s.d,0,none⟩)=ag (some ⟨a.d,0,none⟩)/\True
def Rv(F:ah)(n:mz)(x:bk Int):=[(0,bc),(1,F),(2,af n.c (zv n x) 35),(3,n.r.A),(4,af n.d (xv n) 35),(5,n.rc.A)]
def Tk(e0:bk Int)(e1:ah)(v0 v1:Value)(a:St)(mm:Nat):=∃(z:rR),H7 e0 z/\(ag (cu e0)=ag (cu e0)/\v0=ag (some ⟨z.c,0,none⟩)/\v1=aj z.seen/\True)/\aE a (JO e0 z e1)/\z.f<mm
def H_(n:mz)(x:bk Int)(F:ah)(B:rR):=true=true/\aw n.c 3/\cx n.d (db [ag (cu x),agg ⟨xv n⟩] [ak x.x n.t,n.rc.A] (fun f e=>∀(d:Nat),fG (a7 Tryz.f48 17 6) [au n.r.a n.r.n n.r.cap,au (bI d) 1 1] [n.r.A] (aH [(0,ak f.x (f.s.add f.n)),(1,F),(2,af n.c (zv n x) 35),(3,n.r.A),(4,af n.d (xv n) 35),(5,bc),(18050,af d (o5 f) 3)] [3]) (fun c b=>aw n.c 3/\Tk x F (ag (some ⟨n.c,0,none⟩)) (aj n.seen) [(0,ak f.x (f.s.add f.n)),(1,F),(2,af n.c [ad 33,ai ByteArray.empty,float f64 0,au b.a b.n b.cap,ad x.t] 35),(3,b.A),(4,af n.d (xv n) 35),(5,bc),(18050,af d (o5 f) 3)] B.f)))
theorem ahD(x:bk Int)(F:ah)(hc:aR.cond (bn (fun(p:Int)=>aq.choose p)) x)(U:aR.aO (bn (fun(p:Int)=>aq.choose p)) x F):cq x.n 44 (jF x) [ak x.x x.s] (aH [(0,ak x.x x.s),(1,F)] [0]) (fun L K=>∀(J I:Nat),cx I (gi [ag (cu x),ai ⟨#[123]⟩] [ak L.x K.snd] (aH [(0,ak L.x K.snd),(1,F),(2020,af J (bN K) 3),(2050,af I (Jl J x) 35)] [0]) (fun H G=>T1 (ak H.x H.s.ax) ⟨x.x.b,6,none⟩ (fun E=>dE E/\dS (a7 Tryz.f48 3 7) [ag (some ⟨x.x.b,6,none⟩),ad (E+1)] [ak H.x H.s.ax] (fun D C=>(∃(a:rR),H7 x a/\(ag (cu x)=ag (cu x)/\ag (bI I)=ag (some ⟨a.c,0,none⟩)/\aj false=aj a.seen/\True)/\aE [(0,ak D.x D.t),(1,F),(2020,af J (bN K) 3),(2050,af I (Jl J x) 35)] (JO x a F))/\aT fun(B:rR)_=>H7 x B->fQ [ag (cu x),ai ⟨#[125]⟩] [ak x.x B.t] (aH (JO x B F) [0]) (fun z g=>T1 (ak z.x z.s.ax) ⟨x.x.b,6,none⟩ (fun f=>ou f/\dS (a7 Tryz.f48 18 7) [ag (some ⟨x.x.b,6,none⟩),ad (f-1)] [ak z.x z.s.ax] (fun e d=>cx B.c (db [ag (cu x),agg ⟨sC B x⟩] [ak e.x e.t,B.r.A] (fun c b=>ar (bn fun(a:Int)=>aq.choose a) x F (fx c) [(0,ak c.x (c.s.add c.n)),(1,F),(2,af B.c (sC B x) 35),(3,bc)]))))) (fun z y=>fd (jF x) (aH [(0,ak z.x z.s),(1,F),(2,af B.c (sC B x) 35),(3,B.r.A)] []) (fun w v=>∀(u:Nat),cx u (∃(t:Nat),fQ [ag (cu x),ai ⟨#[99,97,115,101]⟩] [ak z.x z.s] (aH (E0 z F B x u w) [0]) (fun h g=>true=true/\aw u 3/\cq x.n 14 (jF x) [ak h.x h.s.ax] (aH [(0,ak h.x h.s.ax),(1,F),(2,af B.c (sC B x) 35),(3,B.r.A),(7040,af u (Ej w) 35)] [0]) (fun f e=>∀(d:Nat),fG (a7 Tryz.f48 9 5) (w9 d) [bc] (aH [(0,ak f.x e.snd),(1,F),(2,af B.c (sC B x) 35),(3,B.r.A),(7040,af u (Ej w) 35),(10040,af d (bN e) 3)] [999]) (fun c b=>aw u 3/\Mr x t F (EY B) (aj B.seen) (cr u) [(0,ak f.x e.snd),(1,F),(2,af B.c (sC B x) 35),(3,B.r.A),(998,b.A),(999,bc),(7040,af u [ad 34,ai ⟨#[]⟩,float f64 0,au b.a b.n b.cap,ad (co w.L w.fin w.i).pos] 35),(10040,af d (bN e) 3)])) (fun f c=>∀(b:Tm),ar (bn fun(a:Int)=>aq.choose a) x F (ci c) [(0,bc),(1,F),(2,af B.c (sC B x) 35),(3,B.r.A),(7040,af u (Ej w) 35)])) (fun h g=>gA (RD x) (aH (E0 h F B x u w) []) (fun f e=>Br (ii f.p.L (f.p.i+f.a) f.t) (Br (!B.seen) (T1 (ak h.x h.s) ⟨x.x.b,1,none⟩ (fun d=>dE d/\dS (a7 Tryz.f48 11 7) [ag (some ⟨x.x.b,1,none⟩),ad (d+1)] [ak h.x h.s] (fun c b=>aw u 2/\Mr x t F (EY B) (aj true) (cr u) [(0,ak c.x c.t),(1,F),(2,af B.c (sC B x) 35),(3,B.r.A),(7040,af u [ad 34,ai ⟨#[]⟩,float f64 4607182418800017408,au none 0 0,ad (co w.L w.fin w.i).pos] 35)]))) (Q_ x h F B u w)) (Q_ x h F B u w)))/\aT fun(s:mz)_=>(PU s x/\s.f=t)->gi [ag (cu x),ai ⟨#[58]⟩] [ak x.x s.t] (aH (vc x s F) [0]) (fun q p=>∃(o:Nat),(∃(a:mz),H2 a x o/\Pk x s a/\aE [(0,ak q.x q.s.ax),(1,F),(2,af s.c (zv s x) 35),(3,s.r.A),(4,af s.d (xv s) 35),(5,s.rc.A)] (vc x a F))/\aT fun(n:mz)_=>H2 n x o->gA [ag (cu x),ad 0,ai ⟨#[99,97,115,101]⟩] (aH (vc x n F) []) (fun l k=>Br (!ii l.p.L (l.p.i+l.a) l.t) (gA (RD x) (aH (vc x n F) []) (fun j i=>Br (!ii j.p.L (j.p.i+j.a) j.t) (gA [ag (cu x),ad 0,ai ⟨#[125]⟩] (aH (vc x n F) []) (fun h g=>Br (!ii h.p.L (h.p.i+h.a) h.t) (true=true/\aw n.d 3/\cq x.n 17 (zS x) [ak x.x n.t] (aH (vc x n F) [0]) (fun f e=>∀(d:Nat),fG (a7 Tryz.f48 16 5) [au n.rc.a n.rc.n n.rc.cap,au (bI d) 1 1] [n.rc.A] (aH [(0,ak f.x e.snd),(1,F),(2,af n.c (zv n x) 35),(3,n.r.A),(4,af n.d (xv n) 35),(5,n.rc.A),(17040,af d (bN e) 3)] [5]) (fun c b=>aw n.d 3/\∃(a:mz),H2 a x o/\Pk x n a/\aE [(0,ak f.x e.snd),(1,F),(2,af n.c (zv n x) 35),(3,n.r.A),(4,af n.d [ad 34,ai ByteArray.empty,float f64 n.num,au b.a b.n b.cap,ad n.p] 35),(5,b.A),(17040,af d (bN e) 3)] (vc x a F)/\a.f2<n.f2)) (fun f c=>∀(b:Tm),ar (bn fun(a:Int)=>aq.choose a) x F (ci c) (Rv F n x))) (H_ n x F B))) (H_ n x F B))) (H_ n x F B))) (fun q b=>ar (bn fun(a:Int)=>aq.choose a) x F (gr q) (Rv F s x)))))))) (fun H b=>ar (bn fun(a:Int)=>aq.choose a) x F (gr H) [(0,bc),(1,F),(2020,af J (bN K) 3),(2050,af I (Jl J x) 35)]))) (fun L b=>ar (bn fun(a:Int)=>aq.choose a) x F (ci b) (h9 F)):=by
 delta cq cu jF jh gi bN bI Jl T1 dE lN lO dS H7 sC JO fQ ou kz kC db j5 fx im fd Ej E0 k7 fG w9 PU zv xv vc Mr EY cr ci p7 p8 gA RD kO jC Q_ H2 Pk zS Rv o5 Tk H_ gr h9 dT aH ak aw cx ad ai aj ag au af bc ay aT;obtain⟨K,x,s,os,n,tp⟩:=x;obtain⟨ih,hK,hG,hp,DM,y5,ho⟩:=hc;replace U:cB K x F:=U;replace ho:br K x (n+1) (.choose tp) s≠.out:=ho;dsimp only at ih hK hG hp DM y5⊢;obtain⟨r,e0⟩:∃r,br K x (n+1) (.choose tp) s=r:=⟨_,rfl⟩;rw[e0]at ho;have hk:=e0;unfold br at hk;rw[P]at hk;have hl:=hK.len;refine ca hG (fy hk ho) (fun c0 t1 hk g1 X Z W Y V x1=>?_) (cC:=ao) (ct:=ao) (cN:=ao);dsimp only[aq.sl,ap.ax,ap.add]at X Z W Y V x1;intro lb c
 repeat (refine⟨al,?_⟩)
 refine ma g1 hk (fun hk R=>?_);rw[iF,Ah]at hk;have b2:=hG.b;have b3:=R.i;refine⟨_,el fun _=>rfl,⟨by show-9223372036854775808<=t1.bm+1;omega,by show t1.bm+1<=9223372036854775807;have:=hG.i;omega⟩,gw rfl rfl rfl,rfl,⟨x,t1.ax,⟨t1.ax.i,t1.ax.nodes,t1.ax.bu,t1.ax.loops,t1.ax.bm+1⟩,6,_⟩,rfl,rfl,⟨fun _=>rfl,rfl,a_,rfl,rfl⟩,ao,fun _ _=>?_⟩;have g3:PG x ⟨t1.ax.i,t1.ax.nodes,t1.ax.bu,t1.ax.loops,t1.ax.bm+1⟩ (os++[c0]):=R.NG (t:=⟨t1.ax.i,t1.ax.nodes,t1.ax.bu,t1.ax.loops,t1.ax.bm+1⟩) rfl rfl R.f R.l ⟨by show 0<=t1.bm+1;omega,by show t1.bm+1<=((t1.i+1:Nat):Int);omega⟩;refine⟨⟨⟨_,[c0],kT lb [c0],false,n,c⟩,⟨g3,jw lb [c0],bZ _,hk.trans e0.symm⟩,aV,aA [0,1,2050,2020]⟩,?_⟩;clear hk g3 R b3 g1 X Z W Y V x1;rintro⟨t,ks,r',seen,f,c⟩ js ⟨g,m,O,hk⟩;dsimp only at g m O hk⊢;rw[e0]at hk;obtain _|f:=f
 ·exact absurd hk (fun e=>ho (e.symm.trans (by rw[P];rfl)))
 replace O:f<=n:=Nat.le_of_succ_le O;rw[P,eV]at hk;have wD:=py g hl;have S:=g.nd;refine bs jT ⟨x,t,rc⟩ ⟨hl,g.i⟩ (U.ls.sub (bU 1)) ⟨fun _ q=>?_,fun _ q=>?_⟩
 ·rw[lf q,aU,ip,yM,iF,Ah,h_]at hk;have R:=g.is q;have b1:=g.b;have b4:=g.i;refine⟨_,el fun _=>rfl,⟨by show-9223372036854775808<=t.bm-1;omega,by show t.bm-1<=9223372036854775807;omega⟩,gw rfl rfl rfl,rfl,⟨x,t.ax,⟨t.ax.i,t.ax.nodes,t.ax.bu,t.ax.loops,t.ax.bm-1⟩,6,_⟩,rfl,rfl,⟨fun _=>rfl,rfl,a_,rfl,rfl⟩,ao,fun _ _=>?_⟩
  repeat (refine⟨al,?_⟩)
  have cap:=R.cap hl;refine bO fi ⟨x,⟨t.ax.i,t.ax.nodes,t.ax.bu,t.ax.loops,t.ax.bm-1⟩,⟨33,.empty,0,ks,tp⟩,r'⟩ ⟨by show t.ax.nodes.length<=4194304;omega,m⟩ fun _ _=>?_;exact eH (e0.trans hk.symm)
 rw[lP q,aN,eV,m6,eV]at hk;refine bs kR (x.p t) hl (U.ls.df 0 1 aL aL rfl rfl) fun _ _ d=>?_
 repeat (refine⟨al,?_⟩)
 have M:=PG.hp hK t;refine⟨f,?_,?_⟩
 ·skip
  refine bs jT ⟨x,t,Aj⟩ ⟨hl,g.i⟩ (U.ls.sub (bU 1)) ⟨fun _ q=>?_,fun _ q=>?_⟩
  ·rw[lf q,aU,eV]at hk;have R:=g.is q;refine⟨rfl,al,?_⟩;refine ca R ((z_ hk ho).up O) (fun k t1 hk g3 ig3 ng3 fg3 lg3 bg3 vg3=>?_) (cC:=ao) (ct:=ao) (cN:=ao);dsimp only[aq.sl,ap.ax,ap.add]at ig3 ng3 fg3 lg3 bg3 vg3;intro lb;refine lq (ks:=[]) (k:=k) 10040 zh (by simp only[dJ,qH,List.length_nil];omega) (fun r2 Q=>?_);exact⟨al,⟨t1,ks,r',seen,f,c,d,[k],r2,0,(aC x.L x.fin t).pos,0⟩,⟨⟨⟨g3,m,Q,O,M⟩,hk.trans e0.symm⟩,rfl⟩,aV,aA [0,1,2,3,7040,998]⟩
  rw[lP q,aN,eV,eV,Fu]at hk;refine bs jW ⟨x.p t,0,rx⟩ ⟨hl,by have:=g.i;show t.i<=1048576;omega,a_⟩ (U.ls.df 0 1 aL aL rfl rfl) fun _ _=>?_;refine aG (fun h1=>?_) (fun h1=>?_)
  ·refine aG (fun Q=>?_) (fun Q=>?_)
   ·have hi:=je (show bg x.L t 0 rx=true from h1);rw[show bg x.L t 0 rx=true from h1,show(!seen)=true from Q,Bool.and_self,aU,eV,kG,ip]at hk;have R:=g.step hi;refine⟨_,el fun _=>rfl,nq (i:=t.i) (hO g.i hl),gw rfl rfl rfl,rfl,⟨x,t,t.ax,1,_⟩,rfl,rfl,⟨fun _=>rfl,rfl,a_,rfl,rfl⟩,ao,fun _ _=>?_⟩;exact⟨al,⟨t.ax,ks,r',true,f,c,d,[],dL,lG,(aC x.L x.fin t).pos,0⟩,⟨⟨⟨R.cast (dn _).symm,m,zh,O,M⟩,hk.trans e0.symm⟩,rfl⟩,aV,aA [0,1,2,3,7040,999]⟩
   ·rw[show(!seen)=false from Q,lB,aN,Fs]at hk;exact bs pG (x.p t) hl (U.ls.df 0 1 aL aL rfl rfl) fun _ _=>⟨.inr (_,_),⟨_,e0.trans hk.symm⟩,rfl,aA [1]⟩
  ·rw[show bg x.L t 0 rx=false from h1,jp,aN,Fs]at hk;exact bs pG (x.p t) hl (U.ls.df 0 1 aL aL rfl rfl) fun _ _=>⟨.inr (_,_),⟨_,e0.trans hk.symm⟩,rfl,aA [1]⟩
 clear hk wD S q g m O M;rintro⟨t,ks,r',seen,f',c,d,kc,x0,num,p,f2⟩ js ⟨⟨⟨g,m,N,O,M⟩,hk⟩,e1⟩;have e1:f'=f:=e1;subst e1;dsimp only at g m N O M hk⊢;rw[e0,Nl,eV]at hk;have S:=g.nd;refine ma g hk (fun hk R=>?_);refine⟨f',⟨⟨t.ax,ks,r',seen,f',c,d,kc,x0,num,p,f'⟩,⟨⟨⟨R,m,N,O,M⟩,by show t.nodes.length+1<=2*(t.i+1);omega,O,hk.trans e0.symm⟩,rfl⟩,aV,aA [0,1,2,3,4,5]⟩,?_⟩;clear hk;clear hk g m N M R S O;rintro⟨t,ks,r',seen,f,c,d,kc,x0,num,p,f2⟩ js ⟨⟨⟨g,m,N,O,M⟩,S,T,hk⟩,e1⟩;have e1:f=f':=e1;subst e1;dsimp only at g m N O M S T hk⊢;rw[e0]at hk;obtain _|f2:=f2
 ·exact absurd hk (fun e=>ho (e.symm.trans (by rw[P];rfl)))
 replace T:f2<=n:=Nat.le_of_succ_le T;rw[P,eV,eV,iF]at hk;have hf0:=O;have wD:=py (os:=os) (ks:=ks++kc) (g.cast (gW _ _ _)) hl;rw[dJ]at wD;have Nh:x.L.length<=1048576/\t.i<=1048576/\0<=1048576:=⟨hl,hO g.i hl,dq _⟩;refine lj (A:=(!bg x.L t 0 Aj&&(!bg x.L t 0 rx&& !bg x.L t 0 rc))=false) (fun kx=>bs jW ⟨x.p t,0,Aj⟩ Nh (U.ls.df 0 1 aL aL rfl rfl) fun _ _=>aG (fun h1=>bs jW ⟨x.p t,0,rx⟩ Nh (U.ls.df 0 1 aL aL rfl rfl) fun _ _=>aG (fun Q=>bs jW ⟨x.p t,0,rc⟩ Nh (U.ls.df 0 1 aL aL rfl rfl) fun _ _=>aG (fun h3=>?_) (fun h3=>kx ?_)) (fun Q=>kx ?_)) (fun h1=>kx ?_)) (fun hx=>?_)
 ·rw[show(!bg x.L t 0 Aj)=true from h1,show(!bg x.L t 0 rx)=true from Q,show(!bg x.L t 0 rc)=true from h3,Bool.and_self,Bool.and_self,aU,eV]at hk;refine⟨rfl,al,?_⟩;replace O:=T;refine ca g ((fy hk ho).up O) (fun k t1 hk g1 X Z W Y V x1=>?_) (cC:=ao) (ct:=ao) (cN:=ao);dsimp only[aq.sl,ap.ax,ap.add]at X Z W Y V x1;intro lb;refine bs (jN 1 8 rfl rfl rfl rfl rfl rfl rfl (by decide)) ⟨x0,bB kc,some ⟨lb,0,none⟩,1,1,bB [k]⟩ ⟨N,rfl,uV _,vz N ae,vA N ae,fun h=>nomatch h⟩ (vF 17040 rfl) fun r2 Q=>?_;replace Q:bz 3 1 (bB (kc++[k])) r2:=by rw[uU];exact Q.1
  exact⟨al,⟨t1,ks,r',seen,f,c,d,kc++[k],r2,num,p,f2⟩,⟨⟨⟨g1.cast (gW _ _ _),m,Q,hf0,M⟩,by(try dsimp only);omega,T,(eV.trans hk).trans e0.symm⟩,rfl⟩,aV,aA [0,1,2,3,4,5],gZ _⟩
 ·rw[show(!bg x.L t 0 rc)=false from h3,lB,lB]
 ·rw[show(!bg x.L t 0 rx)=false from Q,jp,lB]
 ·rw[show(!bg x.L t 0 Aj)=false from h1,jp]
 rw[hx,aN,ip,GU,eV,xP]at hk;refine⟨rfl,al,?_⟩
 repeat (refine⟨al,?_⟩)
 have g3:=PG.node (n:=⟨34,.empty,num,kc,p⟩) g M S;refine bO fi ⟨x,t,⟨34,.empty,num,kc,p⟩,x0⟩ ⟨by have:=g.cap hl;dsimp only[ap.ax,ap.add]at*;omega,N⟩ fun _ _=>?_;intro lb;refine lq (ks:=ks) (k:=(t.nodes.length:Int)) 18050 m ae (fun r2 Q=>?_);exact⟨al,⟨_,_,r2,seen,f,c⟩,⟨g3.cast (gW _ _ _),Q,O,hk.trans e0.symm⟩,aV,aA [0,1,2,3],gZ _⟩
theorem ahC:aD 48 (bn (fun(p:Int)=>aq.choose p)):=fo 96 Tryz.func48 ahB [] ahA ahz bA [] ahD
end
section
open Go
def g_(L:List bh)(fin:Int)(tv:Nat->ByteArray)(f:Nat)(x:bh)(body:Bool):Option (PM (List Int)):=
 bif bD x.text lg then some (do
  let v <-one (P L fin tv bx f .vars)
  dQ L fin
  ret [v])
 else bif cM [pi,pe,pg,qf] x.text then some (P L fin tv bx f (.simple x))
 else bif bD x.text rz then some (bif !body then kj L fin else P L fin tv bx f (.func 35))
 else bif bD x.text xT then some (do
  eF
  let c <-one (P L fin tv bx f .paren)
  let a <-one (P L fin tv bx f (.bT false))
  let g <-cZ L ry
  let ks <-bif g then P L fin tv bx f (.bT false) else ret []
  cm ⟨24,.empty,0,[c,a]++ks,x.pos⟩)
 else bif bD x.text xV then some (do
  eF
  let c <-one (P L fin tv bx f .paren)
  let b <-one (P L fin tv bx f .loop)
  cm ⟨25,.empty,0,[c,b],x.pos⟩)
 else bif bD x.text xS then some (do
  eF
  P L fin tv bx f (.dr x.pos))
 else bif bD x.text xU then some (do
  eF
  P L fin tv bx f (.dF x.pos))
 else bif bD x.text Ak then some (do
  eF
  P L fin tv bx f (.choose x.pos))
 else none
def lQ(L:List bh)(fin:Int)(tv:Nat->ByteArray)(f:Nat)(x:bh)(body:Bool)(s:ap):PR (List Int):=match g_ L fin tv f x body with
 |some m=>m s
 |none=>.out
def x_:List ByteArray:=[pi,pe,pg,qf]
def vO:List ByteArray:=[xT,xV,xS,xU,Ak]
structure jM where
 K:bR
 x:cj
 s:ap
 os:List Int
 n:Nat
 d:bh
 body:Bool
def ll:aR where
 X:=jM
 Y:=(Int×ap×Bool) ⊕ (Int×Int)
 args x:=[.pointer (some ⟨x.x.b,0,none⟩),.agg #[.int .i64 x.d.kind,.string x.d.text,.float .f64 x.d.num,.int .i64 x.d.pos,.bool x.d.aI],.bool x.body]
 pre x:=[ak x.x x.s]
 cond x:=(∀bJ,aD bJ (cz x.n bJ))/\gS x.K x.x/\PG x.x x.s x.os/\x.d=aC x.x.L x.x.fin x.s/\x.s.i<x.x.L.length/\(g_ x.x.L x.x.fin x.K.tv x.n x.d x.body=none\/lQ x.x.L x.x.fin x.K.tv x.n x.d x.body x.s≠.out)
 aO x F:=cB x.K x.x F
 b_ x y:=match y with
  | .inl a=>(a.2.2=true/\lQ x.x.L x.x.fin x.K.tv x.n x.d x.body x.s= .ok [a.1] a.2.1)\/(a.2.2=false/\g_ x.x.L x.x.fin x.K.tv x.n x.d x.body=none/\a.2.1=x.s)
  | .inr a=>∃t,lQ x.x.L x.x.fin x.K.tv x.n x.d x.body x.s= .stop a.1 a.2 t
 val x y:=match y with
  | .inl a=>.returned (.tuple #[.int .i64 a.1,.bool a.2.2])
  | .inr a=>.panicked [⟨iG a.1 a.2,false,false⟩]
 post x y:=match y with
  | .inl a=>[ak x.x a.2.1]
  | .inr _=>[]
 eT _ _ _ hs h:=cB.sub hs h
 sum:=some (ia (Int×ap×Bool) (Int×Int))
def md(x:jM):Option Addr:=some ⟨x.x.b,0,none⟩
def alo(x:jM)(F:ah):Nat->Option Inv:=fun
 |11=>some {X:=iL,P:=fun _=>bD x.d.text lg=false,mu:=fun _=>0,lv:=fun d=>[(0,ag (md x)),(2,aj x.body),(4,o0 d),(12,ai x.d.text),(20,aj (cM x_ x.d.text))],st:=fun d=>[ak x.x x.s,F,DU d.c x.d]}
 |21=>some {X:=iL,P:=fun _=>bD x.d.text lg=false/\cM x_ x.d.text=false/\bD x.d.text rz=false,mu:=fun _=>0,lv:=fun d=>[(0,ag (md x)),(4,o0 d),(36,aj (cM vO x.d.text))],st:=fun d=>[ak x.x x.s,F,DU d.c x.d]}
 |_=>none
def alp(x:jM)(a:ah):List (Nat×Nat×OH):=[(0,0,.n 1000),(1,1,aP 1000),(4,1,bv (cz x.n 41)),(5,1,bv rk),(11,1,.q (eG 2)),(11,2,bv (cz x.n 42)),(14,1,aX ly),(15,1,bv (cz x.n 43)),(21,3,dd),(21,7,d3 fL),(22,1,aP 2),
 (24,1,bv (cz x.n 44)),(24,2,.n 25020),(25,2,bv (cz x.n 17)),(25,3,.n 26030),(25,4,.o (dm 3 1 8) [25020] [25020]),(26,1,bv ig),(27,2,bv (cz x.n 17)),(27,3,.n 28030),(27,4,.o (dm 3 1 8) [25020] [25020]),(28,3,aP 2),(28,5,.c fK [0,25020] [0]),
 (30,1,bv (cz x.n 44)),(30,2,.n 31020),(31,2,bv (cz x.n 45)),(31,3,.n 32030),(31,4,.o (dm 3 1 8) [31020] [31020]),(32,3,aP 2),(32,5,.c fK [0,31020] [0]),
 (34,2,aP 2),(34,3,bv (cz x.n 46)),(36,2,aP 2),(36,3,bv (cz x.n 47)),(37,2,aP 2),(37,3,bv (cz x.n 48))]
theorem Hg(a:ByteArray)(l:List ByteArray)(t:ByteArray):cM (a::l) t=(bD t a||cM l t):=rfl
theorem Hh(t:ByteArray):cM [] t=false:=rfl
def zY(x:jM):List Value:=[ag (md x)]
def q6(e0:jM):List Value:=[ad e0.d.kind,ai e0.d.text,float f64 e0.d.num,ad e0.d.pos,aj e0.d.aI]
def BW(x:jM)(F:ah)(z:Nat):=[(0,ak x.x x.s),(1,F),(1000,af z (q6 x) 53)]
def pY(e0:jM)(e1:ah)(z:iL):=[(0,ak e0.x e0.s),(1,e1),(2,af z.c (q6 e0) 53)]
def Dg(e0:jM)(e1:ah)(v0 v1:Value)(a:St):=∃(z:iL),bD e0.d.text lg=false/\(ag (md e0)=ag (md e0)/\aj e0.body=aj e0.body/\v0=ag (vp z)/\ai e0.d.text=ai e0.d.text/\v1=aj (cM x_ e0.d.text)/\True)/\aE a (pY e0 e1 z)
def Co(x:jM)(F:ah)(y:iL):nQ->Int×ap->Prop:=fun c a=>ar ll x F (ay (tuple ⟨[ad a.fst,aj true]⟩)) [(0,ak c.x a.snd),(1,F),(2,af y.c (q6 x) 53)]
def BJ(x:jM)(F:ah)(y:iL):nQ->Int×Int->Prop:=fun c b=>ar ll x F (ci b) [(0,bc),(1,F),(2,af y.c (q6 x) 53)]
def Jx(x:jM):=x.d.text.toList==(ByteArray.mk #[105,102]).toList
def QW(e0:jM):=bD e0.d.text lg=false/\cM x_ e0.d.text=false/\bD e0.d.text rz=false
def AJ(e0:jM)(e1:ah)(v0 v1:Value)(a:St):=∃(z:iL),QW e0/\(ag (md e0)=ag (md e0)/\v0=ag (vp z)/\v1=aj (cM vO e0.d.text)/\True)/\aE a (pY e0 e1 z)
def Jg(x:jM):=x.d.text.toList==(ByteArray.mk #[119,104,105,108,101]).toList
def Jq(x:jM):=x.d.text.toList==(ByteArray.mk #[102,111,114]).toList
def Jr(x:jM):=x.d.text.toList==(ByteArray.mk #[116,114,121]).toList
def BR(s:sY)(F:ah)(v:iL)(x:jM):=aH [(0,ak s.x s.t),(1,F),(2,af v.c (q6 x) 53)] [0]
def Qv(x:jM)(c:Row):List Value:=[ag (md x),agg ⟨[ad 24,ai ⟨#[]⟩,float f64 0,au c.a c.n c.cap,ad x.d.pos]⟩]
def Jh(b:oF):=ay (tuple ⟨[ad ↑b.s.nodes.length,aj true]⟩)
def J_(x:jM):List Value:=[ag (md x),ad x.d.pos]
theorem alr(x:jM)(F:ah)(hc:ll.cond x)(Y:ll.aO x F):∀(z:Nat),aw z 1/\Br (x.d.text.toList==(ByteArray.mk #[118,97,114]).toList) (cq x.n 41 (zY x) [ak x.x x.s] (aH (BW x F z) [0]) (fun d c=>AI (zY x) [ak d.x c.snd] (aH [(0,ak d.x c.snd),(1,F),(1000,af z (q6 x) 53)] [0]) (fun b a=>ar ll x F (ay (tuple ⟨[ad c.fst,aj true]⟩)) [(0,ak b.x a),(1,F),(1000,af z (q6 x) 53)]) (fun b a=>ar ll x F (dT a 60) [(0,bc),(1,F),(1000,af z (q6 x) 53)])) (fun d b=>ar ll x F (ci b) [(0,bc),(1,F),(1000,af z (q6 x) 53)])) (Br (x.d.text.toList==EX.toList) (Dg x F (cr z) (aj (x.d.text.toList==EX.toList)) (BW x F z)) (Br (x.d.text.toList==E4.toList) (Dg x F (cr z) (aj (x.d.text.toList==E4.toList)) (BW x F z)) (Br (x.d.text.toList==ES.toList) (Dg x F (cr z) (aj (x.d.text.toList==ES.toList)) (BW x F z)) (Dg x F (cr z) (aj (x.d.text.toList==(ByteArray.mk #[116,104,114,111,119]).toList)) (BW x F z))))/\aT fun(y:iL)_=>bD x.d.text lg=false->Br (cM x_ x.d.text) (cx y.c (cq x.n 42 [ag (md x),agg ⟨q6 x⟩] [ak x.x x.s] (aH (pY x F y) [0]) (Co x F y) (BJ x F y))) (Br (x.d.text.toList==(ByteArray.mk #[102,117,110,99,116,105,111,110]).toList) (Br (!x.body) (kO (zY x) (aH (pY x F y) []) (fun b a=>ar ll x F (jC b) (pY x F y))) (cq x.n 43 [ag (md x),ad 35] [ak x.x x.s] (aH (pY x F y) [0]) (Co x F y) (BJ x F y))) (Br (Jx x) (AJ x F (o0 y) (aj (Jx x)) (pY x F y)) (Br (Jg x) (AJ x F (o0 y) (aj (Jg x)) (pY x F y)) (Br (Jq x) (AJ x F (o0 y) (aj (Jq x)) (pY x F y)) (Br (Jr x) (AJ x F (o0 y) (aj (Jr x)) (pY x F y)) (AJ x F (o0 y) (aj (x.d.text.toList==(ByteArray.mk #[115,119,105,116,99,104]).toList)) (pY x F y)))))/\aT fun(v:iL)_=>QW x->Br (cM vO x.d.text) (T1 (ak x.x x.s) ⟨x.x.b,1,none⟩ (fun t=>dE t/\dS (a7 Tryz.f32 21 7) [ag (some ⟨x.x.b,1,none⟩),ad (t+1)] [ak x.x x.s] (fun s r=>aw v.c 1/\Br (Jx x) (cq x.n 44 (zY x) [ak s.x s.t] (BR s F v x) (fun q p=>∀(o:Nat),cq x.n 17 [ag (md x),aj false] [ak q.x p.snd] (aH [(0,ak q.x p.snd),(1,F),(2,af v.c (q6 x) 53),(25020,af o (bN p) 3)] [0]) (fun n m=>∀(l:Nat),fG (a7 Tryz.f32 25 4) [au (bI o) 1 1,au (bI l) 1 1] [af o (bN p) 3] (aH [(0,ak n.x m.snd),(1,F),(2,af v.c (q6 x) 53),(25020,af o (bN p) 3),(26030,af l (bN m) 3)] [25020]) (fun k j=>fQ [ag (md x),ai ⟨#[101,108,115,101]⟩] [ak n.x m.snd] (aH [(0,ak n.x m.snd),(1,F),(2,af v.c (q6 x) 53),(25020,j.A),(26030,af l (bN m) 3)] [0]) (fun i h=>cq x.n 17 [ag (md x),aj false] [ak i.x i.s.ax] (aH [(0,ak i.x i.s.ax),(1,F),(2,af v.c (q6 x) 53),(25020,j.A),(26030,af l (bN m) 3)] [0]) (fun g f=>∀(e:Nat),fG (a7 Tryz.f32 27 4) (tR j e) [j.A] (aH [(0,ak g.x f.snd),(1,F),(2,af v.c (q6 x) 53),(25020,j.A),(26030,af l (bN m) 3),(28030,af e (bN f) 3)] [25020]) (fun d c=>aw v.c 3/\db (Qv x c) [ak g.x f.snd,c.A] (fun b a=>ar ll x F (Jh b) [(0,ak b.x (b.s.add b.n)),(1,F),(2,af v.c (q6 x) 53),(25020,bc),(26030,af l (bN m) 3),(28030,af e (bN f) 3)]))) (fun g b=>ar ll x F (ci b) [(0,bc),(1,F),(2,af v.c (q6 x) 53),(25020,j.A),(26030,af l (bN m) 3)])) (fun i c=>aw v.c 3/\db (Qv x j) [ak i.x i.s,j.A] (fun b a=>ar ll x F (Jh b) [(0,ak b.x (b.s.add b.n)),(1,F),(2,af v.c (q6 x) 53),(25020,bc),(26030,af l (bN m) 3)])))) (fun n b=>ar ll x F (ci b) [(0,bc),(1,F),(2,af v.c (q6 x) 53),(25020,af o (bN p) 3)])) (fun q b=>ar ll x F (ci b) [(0,bc),(1,F),(2,af v.c (q6 x) 53)])) (Br (Jg x) (cq x.n 44 (zY x) [ak s.x s.t] (BR s F v x) (fun j i=>∀(h:Nat),cq x.n 45 (zY x) [ak j.x i.snd] (aH [(0,ak j.x i.snd),(1,F),(2,af v.c (q6 x) 53),(31020,af h (bN i) 3)] [0]) (fun g f=>∀(e:Nat),fG (a7 Tryz.f32 31 4) [au (bI h) 1 1,au (bI e) 1 1] [af h (bN i) 3] (aH [(0,ak g.x f.snd),(1,F),(2,af v.c (q6 x) 53),(31020,af h (bN i) 3),(32030,af e (bN f) 3)] [31020]) (fun d c=>aw v.c 3/\db [ag (md x),agg ⟨[ad 25,ai ⟨#[]⟩,float f64 0,au c.a c.n c.cap,ad x.d.pos]⟩] [ak g.x f.snd,c.A] (fun b a=>ar ll x F (Jh b) [(0,ak b.x (b.s.add b.n)),(1,F),(2,af v.c (q6 x) 53),(31020,bc),(32030,af e (bN f) 3)]))) (fun g b=>ar ll x F (ci b) [(0,bc),(1,F),(2,af v.c (q6 x) 53),(31020,af h (bN i) 3)])) (fun j b=>ar ll x F (ci b) [(0,bc),(1,F),(2,af v.c (q6 x) 53)])) (Br (Jq x) (aw v.c 3/\cq x.n 46 (J_ x) [ak s.x s.t] (BR s F v x) (Co x F v) (BJ x F v)) (Br (Jr x) (aw v.c 3/\cq x.n 47 (J_ x) [ak s.x s.t] (BR s F v x) (Co x F v) (BJ x F v)) (aw v.c 3/\cq x.n 48 (J_ x) [ak s.x s.t] (BR s F v x) (Co x F v) (BJ x F v)))))))) (ar ll x F Kc (pY x F v))))):=by
 delta cq md zY q6 BW mR mi AI ci EX vp pY Dg bI cr E4 ES Co BJ im kO jC Jx QW AJ o0 Jg Jq Jr T1 dE lN lO dS BR bN k7 fG jh fQ tR kz kC db Qv Jh J_ Kc dT aH ak aw cx ad ai aj ag au af bc ay aT;obtain⟨K,x,s,os,n,d,body⟩:=x;obtain⟨ih,hK,I,hd,hi,E⟩:=hc;replace Y:cB K x F:=Y;dsimp only at ih hK I hd hi E⊢;have hl:=hK.len;have hp:0<=d.pos/\d.pos<=x.fin:=by rw[hd];exact PG.hp hK s
 obtain⟨r,e0⟩:∃r,lQ x.L x.fin K.tv n d body s=r:=⟨_,rfl⟩;clear hd;intro c
 repeat (refine⟨al,?_⟩)
 refine aG (fun w=>?_) (fun w=>?_)
 ·rw[fZ]at w;replace w:bD d.text lg=true:=w;have hk:=e0;simp only[lQ,g_,w,aU,aN]at hk;have G:r≠.out:=by
   rcases E with h|h
   ·exfalso;revert h;simp[g_,w]
   ·rw[e0]at h;exact h
  refine ca I (fy hk G) (fun v t1 hk g1 N0 Oj fg1 Oa Z SB=>?_) (cC:=ao) (ct:=hi) (cN:=ao);dsimp only[aq.sl,ap.ax,ap.add]at N0 Oj fg1 Oa Z SB;refine bs Sn ⟨x,t1⟩ ⟨hl,g1.i⟩ (Y.ls.sub (bU 1)) ⟨fun u q=>?_,fun p q=>⟨.inr (p,60),⟨_,e0.trans (hk.symm.trans (Sv q))⟩,rfl,aA [1]⟩⟩;rw[Su q,Ag]at hk;exact GZ (e0.trans hk.symm)
 rw[fZ]at w;replace w:bD d.text lg=false:=w;refine⟨?_,?_⟩
 ·refine aG (fun e1=>⟨⟨c⟩,w,⟨rfl,rfl,rfl,rfl,?_,ao⟩,aA [0,1,1000]⟩) (fun e1=>aG (fun e2=>⟨⟨c⟩,w,⟨rfl,rfl,rfl,rfl,?_,ao⟩,aA [0,1,1000]⟩) (fun e2=>aG (fun e3=>⟨⟨c⟩,w,⟨rfl,rfl,rfl,rfl,?_,ao⟩,aA [0,1,1000]⟩) (fun e3=>⟨⟨c⟩,w,⟨rfl,rfl,rfl,rfl,?_,ao⟩,aA [0,1,1000]⟩)))
  all_goals
   simp only[fZ]at*;show bool (bD d.text _)=bool (cM x_ d.text);congr 1;simp only[x_,Hg,Hh,pi,pe,pg,qf, *,Bool.true_or,Bool.false_or,Bool.or_false]
 rintro⟨c⟩ js-;refine aG (fun C=>?_) (fun C=>?_)
 ·have A:cM [pi,pe,pg,qf] d.text=true:=C;have hk:=e0;simp only[lQ,g_,w,A,aU,aN]at hk;have G:r≠.out:=by
   rcases E with h|h
   ·exfalso;revert h;simp[g_,w,A]
   ·rw[e0]at h;exact h
  repeat (refine⟨al,?_⟩)
  exact ca I (t8 hk G) (fun _ _ q _ _ _ _ _ _ _=>⟨.inl (_,_,true),.inl ⟨rfl,e0.trans q.symm⟩,rfl,aA [0,1]⟩) (cC:=hp) (ct:=hi) (cN:=ao)
 replace C:cM x_ d.text=false:=C;refine aG (fun B=>?_) (fun B=>?_)
 ·rw[fZ]at B;replace B:bD d.text rz=true:=B;have A:cM [pi,pe,pg,qf] d.text=false:=C;have hk:=e0;simp only[lQ,g_,w,A,B,aU,aN]at hk;have G:r≠.out:=by
   rcases E with h|h
   ·exfalso;revert h;simp[g_,w,A,B]
   ·rw[e0]at h;exact h
  refine aG (fun hb=>?_) (fun hb=>?_)
  ·rw[hb,aU]at hk;exact bs pG (x.p s) hl (Y.ls.df 0 1 aL aL rfl rfl) fun _ _=>⟨.inr (_,_),⟨_,e0.trans hk.symm⟩,rfl,aA [1]⟩
  ·rw[hb,aN]at hk;exact ca I (t8 hk G) (fun _ _ q _ _ _ _ _ _ _=>⟨.inl (_,_,true),.inl ⟨rfl,e0.trans q.symm⟩,rfl,aA [0,1]⟩) (cC:=ao) (ct:=hi) (cN:=ao)
 rw[fZ]at B;replace B:bD d.text rz=false:=B;refine⟨?_,?_⟩
 ·refine aG (fun e1=>⟨⟨c⟩,⟨w,C,B⟩,⟨rfl,rfl,?_,ao⟩,aA [0,1,2]⟩) (fun e1=>aG (fun e2=>⟨⟨c⟩,⟨w,C,B⟩,⟨rfl,rfl,?_,ao⟩,aA [0,1,2]⟩) (fun e2=>aG (fun e3=>⟨⟨c⟩,⟨w,C,B⟩,⟨rfl,rfl,?_,ao⟩,aA [0,1,2]⟩) (fun e3=>aG (fun e4=>⟨⟨c⟩,⟨w,C,B⟩,⟨rfl,rfl,?_,ao⟩,aA [0,1,2]⟩) (fun e4=>⟨⟨c⟩,⟨w,C,B⟩,⟨rfl,rfl,?_,ao⟩,aA [0,1,2]⟩))))
  all_goals
   simp only[fZ]at*;show bool (bD d.text _)=bool (cM vO d.text);congr 1;simp only[vO,Hg,Hh,xT,xV,xS,xU,Ak, *,Bool.true_or,Bool.false_or,Bool.or_false]
 rintro⟨c⟩ js-;refine aG (fun H=>?_) (fun H=>?_);rotate_left
 ·have H:cM vO d.text=false:=H;simp only[vO,Hg,Hh,Bool.or_false,Bool.or_eq_false_iff]at H;obtain⟨a1,a2,a3,a4,a5⟩:=H;have hm:g_ x.L x.fin K.tv n d body=none:=by unfold g_;rw[w,show cM [pi,pe,pg,qf] d.text=false from C,B,a1,a2,a3,a4,a5];rfl
  exact⟨.inl (0,s,false),.inr ⟨rfl,hm,rfl⟩,rfl,aA [0,1]⟩
 have g1:=I.step hi;have aej:=I.l;have aek:=I.b;refine⟨_,el fun _=>rfl,nq (i:=s.i) (hO I.i hl),gw rfl rfl rfl,rfl,⟨x,s,s.ax,1,_⟩,rfl,rfl,⟨fun _=>rfl,rfl,a_,rfl,rfl⟩,ao,fun _ _=>?_⟩;refine⟨al,?_⟩;have A:cM [pi,pe,pg,qf] d.text=false:=C;refine aG (fun a1=>?_) (fun a1=>?_)
 ·rw[fZ]at a1;replace a1:bD d.text xT=true:=a1;have hk:=e0;simp only[lQ,g_,w,A,B,a1,aU,aN]at hk;have G:r≠.out:=by
   rcases E with h|h
   ·exfalso;revert h;simp[g_,w,A,B,a1]
   ·rw[e0]at h;exact h
  rw[kG]at hk;refine ca g1 (fy hk G) (fun D t1 hk g2 O T M R J V=>?_) (cC:=ao) (ct:=ao) (cN:=ao);dsimp only[aq.sl,ap.ax,ap.add]at O T M R J V;intro lb;refine ca g2 (fy hk G) (fun a t2 hk g3 P U N S L W=>?_) (cC:=ao) (ct:=ao) (cN:=ao);dsimp only[aq.sl,ap.ax,ap.add]at P U N S L W;intro Q;refine bs (jN 1 8 rfl rfl rfl rfl rfl rfl rfl (by decide)) ⟨kT lb [D],bB [D],some ⟨Q,0,none⟩,1,1,bB [a]⟩ ⟨jw lb [D],rfl,uV _,vz (jw lb [D]) aL,vA (jw lb [D]) aL,fun h=>nomatch h⟩ (vF 26030 rfl) fun X C=>?_;replace C:bz 3 1 (bB ([D]++[a])) X:=by rw[uU];exact C.1
  refine bs jT ⟨x,t2,ry⟩ ⟨hl,g3.i⟩ (Y.ls.sub (bU 1)) ⟨fun _ q=>?_,fun _ q=>?_⟩
  ·rw[lf q,aU]at hk;have g4:=g3.is q;refine ca g4 (z_ hk G) (fun b t3 hk g5 N1 Ol NF Ob x0 SC=>?_) (cC:=ao) (ct:=ao) (cN:=ao);dsimp only[aq.sl,ap.ax,ap.add]at N1 Ol NF Ob x0 SC;rw[h_]at hk;intro lb3;refine bs (jN 1 8 rfl rfl rfl rfl rfl rfl rfl (by decide)) ⟨X,bB ([D]++[a]),some ⟨lb3,0,none⟩,1,1,bB [b]⟩ ⟨C,rfl,uV _,vz C aL,vA C aL,fun h=>nomatch h⟩ (vF 28030 rfl) fun r3 B=>?_;replace B:bz 3 1 (bB ([D,a]++[b])) r3:=by rw[show[D,a]++[b]=[D]++[a]++[b]from rfl,uU];exact B.1
   refine⟨al,?_⟩;refine bO fi ⟨x,t3,⟨24,.empty,0,[D,a]++[b],d.pos⟩,r3⟩ ⟨by have:=g5.cap hl;dsimp only[ap.ax,ap.add]at*;omega,B⟩ fun _ _=>?_;exact GZ (e0.trans hk.symm)
  ·rw[lP q,aN,ip,h_]at hk;refine⟨al,?_⟩;refine bO fi ⟨x,t2,⟨24,.empty,0,[D,a]++[],d.pos⟩,X⟩ ⟨by have:=g3.cap hl;dsimp only[ap.ax,ap.add]at*;omega,C⟩ fun _ _=>?_;exact GZ (e0.trans hk.symm)
 rw[fZ]at a1;replace a1:bD d.text xT=false:=a1;refine aG (fun a2=>?_) (fun a2=>?_)
 ·rw[fZ]at a2;replace a2:bD d.text xV=true:=a2;have hk:=e0;simp only[lQ,g_,w,A,B,a1,a2,aU,aN]at hk;have G:r≠.out:=by
   rcases E with h|h
   ·exfalso;revert h;simp[g_,w,A,B,a1,a2]
   ·rw[e0]at h;exact h
  rw[kG]at hk;refine ca g1 (fy hk G) (fun D t1 hk g2 O T M R J V=>?_) (cC:=ao) (ct:=ao) (cN:=ao);dsimp only[aq.sl,ap.ax,ap.add]at O T M R J V;intro lb;refine ca g2 (fy hk G) (fun a t2 hk g3 P U N S L W=>?_) (cC:=ao) (ct:=ao) (cN:=(show t1.loops<(t1.i:Int)/\t1.bm<(t1.i:Int) by omega));dsimp only[aq.sl,ap.ax,ap.add]at P U N S L W;rw[h_]at hk;intro Q;refine bs (jN 1 8 rfl rfl rfl rfl rfl rfl rfl (by decide)) ⟨kT lb [D],bB [D],some ⟨Q,0,none⟩,1,1,bB [a]⟩ ⟨jw lb [D],rfl,uV _,vz (jw lb [D]) aL,vA (jw lb [D]) aL,fun h=>nomatch h⟩ (vF 32030 rfl) fun X C=>?_;replace C:bz 3 1 (bB ([D]++[a])) X:=by rw[uU];exact C.1
  refine⟨al,?_⟩;refine bO fi ⟨x,t2,⟨25,.empty,0,[D,a],d.pos⟩,X⟩ ⟨by have:=g3.cap hl;dsimp only[ap.ax,ap.add]at*;omega,C⟩ fun _ _=>?_;exact GZ (e0.trans hk.symm)
 rw[fZ]at a2;replace a2:bD d.text xV=false:=a2;refine aG (fun a3=>?_) (fun a3=>?_)
 ·rw[fZ]at a3;replace a3:bD d.text xS=true:=a3;have hk:=e0;simp only[lQ,g_,w,A,B,a1,a2,a3,aU,aN]at hk;have G:r≠.out:=by
   rcases E with h|h
   ·exfalso;revert h;simp[g_,w,A,B,a1,a2,a3]
   ·rw[e0]at h;exact h
  rw[kG]at hk;refine⟨al,?_⟩;exact ca g1 (t8 hk G) (fun _ _ q _ _ _ _ _ _ _=>⟨.inl (_,_,true),.inl ⟨rfl,e0.trans q.symm⟩,rfl,aA [0,1]⟩) (cC:=hp) (ct:=ao) (cN:=ao)
 rw[fZ]at a3;replace a3:bD d.text xS=false:=a3;refine aG (fun a4=>?_) (fun a4=>?_)
 ·rw[fZ]at a4;replace a4:bD d.text xU=true:=a4;have hk:=e0;simp only[lQ,g_,w,A,B,a1,a2,a3,a4,aU,aN]at hk;have G:r≠.out:=by
   rcases E with h|h
   ·exfalso;revert h;simp[g_,w,A,B,a1,a2,a3,a4]
   ·rw[e0]at h;exact h
  rw[kG]at hk;refine⟨al,?_⟩;exact ca g1 (t8 hk G) (fun _ _ q _ _ _ _ _ _ _=>⟨.inl (_,_,true),.inl ⟨rfl,e0.trans q.symm⟩,rfl,aA [0,1]⟩) (cC:=hp) (ct:=ao) (cN:=ao)
 rw[fZ]at a4;replace a4:bD d.text xU=false:=a4;have a5:bD d.text Ak=true:=by
  have H:cM vO d.text=true:=H;simpa only[vO,Hg,Hh,a1,a2,a3,a4,Bool.false_or,Bool.or_false]using H
 have hk:=e0;simp only[lQ,g_,w,A,B,a1,a2,a3,a4,a5,aU,aN]at hk;have G:r≠.out:=by
  rcases E with h|h
  ·exfalso;revert h;simp[g_,w,A,B,a1,a2,a3,a4,a5]
  ·rw[e0]at h;exact h
 rw[kG]at hk;refine⟨al,?_⟩;exact ca g1 (t8 hk G) (fun _ _ q _ _ _ _ _ _ _=>⟨.inl (_,_,true),.inl ⟨rfl,e0.trans q.symm⟩,rfl,aA [0,1]⟩) (cC:=hp) (ct:=ao) (cN:=ao)
theorem alq:aD 32 ll:=fo 106 Tryz.func32 alp [] aY alo bA [] alr
def Fq(L:List bh)(fin:Int)(tv:Nat->ByteArray)(f:Nat)(pos:Int):PM (List Int):=do
 let e <-one (P L fin tv bx f .bf)
 dQ L fin
 cm ⟨20,.empty,0,[e],pos⟩
theorem akm{L:List bh}{fin:Int}{tv:Nat->ByteArray}{f:Nat}{body:Bool}{s:ap}(a:bg L s 0 lc=false)(b:bg L s 0 cU=false)(c:((aC L fin s).kind==2)=true):P L fin tv bx (f+1) (.bT body) s=(match g_ L fin tv f (aC L fin s) body with|some m=>m s|none=>Fq L fin tv f (aC L fin s).pos s):=by
 rw[P,m6,iF,a,aN,b,aN,c,aU];unfold g_;cases bD (aC L fin s).text lg with
 |true=>rfl
 |false=>
  rw[aN,aN];cases cM [pi,pe,pg,qf] (aC L fin s).text with
  |true=>rfl
  |false=>
   rw[aN,aN];cases bD (aC L fin s).text rz with
   |true=>rfl
   |false=>
    rw[aN,aN];cases bD (aC L fin s).text xT with
    |true=>rfl
    |false=>
     rw[aN,aN];cases bD (aC L fin s).text xV with
     |true=>rfl
     |false=>
      rw[aN,aN];cases bD (aC L fin s).text xS with
      |true=>rfl
      |false=>
       rw[aN,aN];cases bD (aC L fin s).text xU with
       |true=>rfl
       |false=>
        rw[aN,aN];cases bD (aC L fin s).text Ak with
        |true=>rfl
        |false=>rfl
def aiL(x:bk Bool)(F:ah):Nat->Option Inv:=fun
 |12=>some {X:=iL,P:=fun _=>Fq x.x.L x.x.fin x.K.tv x.n (aC x.x.L x.x.fin x.s).pos x.s=br x.K x.x (x.n+1) (.bT x.t) x.s,mu:=fun _=>0,lv:=fun d=>[(0,ag (jg x)),(5,o0 d)],st:=fun d=>[ak x.x x.s,F,DU d.c (aC x.x.L x.x.fin x.s)]}
 |_=>none
def aiM(x:bk Bool)(a:ah):List (Nat×Nat×OH):=[(1,1,aX iz),(1,2,.n 2020),(1,3,.w (eG 2020)),(2,1,aX gF),(3,1,bv (cz x.n 30)),(4,1,aX gF),(5,1,bv wu),(6,3,dd),(6,7,d3 fL),(8,1,aP 2020),(9,1,.q (eG 2020)),(9,3,bv ll),(12,1,bv (cz x.n 14)),(13,1,bv rk),(14,2,.n 15020),(14,4,aP 2),(14,6,.c fK [0,15020] [0])]
def zF(x:bk Bool)(F:ah)(o:Nat)(q:cX):=[(0,ak x.x x.s),(1,F),(2020,af o (q0 q) 53)]
def zK(e0:bk Bool):List Value:=[ad (aC e0.x.L e0.x.fin e0.s).kind,ai (aC e0.x.L e0.x.fin e0.s).text,float f64 (aC e0.x.L e0.x.fin e0.s).num,ad (aC e0.x.L e0.x.fin e0.s).pos,aj (aC e0.x.L e0.x.fin e0.s).aI]
def Mt(e0:bk Bool)(e1:ah)(v0:Value)(a:St):=∃(z:iL),Fq e0.x.L e0.x.fin e0.K.tv e0.n (aC e0.x.L e0.x.fin e0.s).pos e0.s=br e0.K e0.x (e0.n+1) (aq.bT e0.t) e0.s/\(ag (jg e0)=ag (jg e0)/\v0=ag (vp z)/\True)/\aE a [(0,ak e0.x e0.s),(1,e1),(2,af z.c (zK e0) 53)]
theorem aiO(x:bk Bool)(F:ah)(W:aR.cond (bn (fun(b:Bool)=>aq.bT b)) x)(A:aR.aO (bn (fun(b:Bool)=>aq.bT b)) x F):fd [ag (jg x)] (aH [(0,ak x.x x.s),(1,F)] []) (fun q p=>∀(o:Nat),cx o (gA [ag (jg x),ad 0,ai ⟨#[123]⟩] (aH (zF x F o q) []) (fun n m=>Br (ii n.p.L (n.p.i+n.a) n.t) (cq x.n 30 [ag (jg x),aj false] [ak x.x x.s] (aH (zF x F o q) [0]) (fun c b=>ar (bn fun(a:Bool)=>aq.bT a) x F (jE b) [(0,ak c.x b.snd),(1,F),(2020,af o (q0 q) 53)]) (fun c b=>ar (bn fun(a:Bool)=>aq.bT a) x F (ci b) [(0,bc),(1,F),(2020,af o (q0 q) 53)])) (gA [ag (jg x),ad 0,ai ⟨#[59]⟩] (aH (zF x F o q) []) (fun l k=>Br (ii l.p.L (l.p.i+l.a) l.t) (Df [ag (jg x)] [ak x.x x.s] (aH (zF x F o q) [0]) (fun f e=>T1 (ak f.x (f.s.add ⟨(36:Int),ByteArray.empty,0,[],(aC f.x.L f.x.fin f.s).pos⟩)) ⟨x.x.b,1,none⟩ (fun d=>dE d/\dS (a7 Tryz.f17 6 7) [ag (some ⟨x.x.b,1,none⟩),ad (d+1)] [ak f.x (f.s.add ⟨(36:Int),ByteArray.empty,0,[],(aC f.x.L f.x.fin f.s).pos⟩)] (fun c b=>ar (bn fun(a:Bool)=>aq.bT a) x F (ay (ad ↑f.s.nodes.length)) [(0,ak c.x c.t),(1,F),(2020,af o (q0 q) 53)])))) ((aw o 0/\Br ((co q.L q.fin q.i).kind==2) (cx o (aD 32 ll/\true=true/\∃(c:jM),[ag (jg x),agg ⟨q0 q⟩,aj x.t]=[ag (md c),agg ⟨q6 c⟩,aj c.body]/\[ak x.x x.s]=[ak c.x c.s]/\((∀(a:FuncId),aD a (cz c.n a))/\gS c.K c.x/\PG c.x c.s c.os/\c.d=aC c.x.L c.x.fin c.s/\c.s.i<c.x.L.length/\(g_ c.x.L c.x.fin c.K.tv c.n c.d c.body=none\/lQ c.x.L c.x.fin c.K.tv c.n c.d c.body c.s≠PR.out))/\cB c.K c.x (aH (zF x F o q) [0])/\(∀(b:Int×ap×Bool),(b.snd.snd=true/\lQ c.x.L c.x.fin c.K.tv c.n c.d c.body c.s=PR.ok [b.fst] b.snd.fst\/b.snd.snd=false/\g_ c.x.L c.x.fin c.K.tv c.n c.d c.body=none/\b.snd.fst=c.s)->Br b.snd.snd (ar (bn fun(a:Bool)=>aq.bT a) x F (ay (ad b.fst)) [(0,ak c.x b.snd.fst),(1,F),(2020,af o (q0 q) 53)]) (Mt x F (cr o) [(0,ak c.x b.snd.fst),(1,F),(2020,af o (q0 q) 53)]))/\∀(b:Int×Int),(∃(a:ap),lQ c.x.L c.x.fin c.K.tv c.n c.d c.body c.s=PR.stop b.fst b.snd a)->ar (bn fun(a:Bool)=>aq.bT a) x F (ci b) [(0,bc),(1,F),(2020,af o (q0 q) 53)])) (Mt x F (cr o) (zF x F o q)))/\aT fun(j:iL)_=>Fq x.x.L x.x.fin x.K.tv x.n (aC x.x.L x.x.fin x.s).pos x.s=br x.K x.x (x.n+1) (aq.bT x.t) x.s->cq x.n 14 [ag (jg x)] [ak x.x x.s] (aH [(0,ak x.x x.s),(1,F),(2,af j.c (zK x) 53)] [0]) (fun h g=>AI [ag (jg x)] [ak h.x g.snd] (aH [(0,ak h.x g.snd),(1,F),(2,af j.c (zK x) 53)] [0]) (fun f e=>∀(d:Nat),aw j.c 3/\db [ag (jg x),agg ⟨[ad 20,ai ⟨#[]⟩,float f64 0,au (bI d) 1 1,ad (aC x.x.L x.x.fin x.s).pos]⟩] [ak f.x e,af d (bN g) 3] (fun c b=>ar (bn fun(a:Bool)=>aq.bT a) x F (fx c) [(0,ak c.x (c.s.add c.n)),(1,F),(2,af j.c (zK x) 53),(15020,bc)])) (fun f b=>ar (bn fun(a:Bool)=>aq.bT a) x F (dT b 60) [(0,bc),(1,F),(2,af j.c (zK x) 53)])) (fun h b=>ar (bn fun(a:Bool)=>aq.bT a) x F (ci b) [(0,bc),(1,F),(2,af j.c (zK x) 53)]))))))):=by
 delta im fd jg p7 p8 gA q0 zF cq jE ci mR mi Df T1 dE lN lO dS md q6 vp zK Mt bI cr AI kz kC db bN j5 fx dT aH ak aw cx ad ai aj ag au af bc ay aT;obtain⟨K,x,s,os,n,t⟩:=x;obtain⟨U,E,z,hp,N,M,C⟩:=W;replace A:cB K x F:=A;replace C:br K x (n+1) (.bT t) s≠.out:=C;dsimp only at U E z hp N M⊢;obtain⟨r,e0⟩:∃r,br K x (n+1) (.bT t) s=r:=⟨_,rfl⟩;rw[e0]at C;have hk:=e0;unfold br at hk;rw[P]at hk;have hl:=E.len;rw[m6,iF]at hk;refine bs kR (x.p s) hl (A.ls.df 0 1 aL aL rfl rfl) fun _ _ c=>?_
 repeat (refine⟨al,?_⟩)
 refine bs jW ⟨x.p s,0,lc⟩ ⟨hl,by have:=z.i;show s.i<=1048576;omega,a_⟩ (A.ls.df 0 1 aL aL rfl rfl) fun _ _=>?_;refine aG (fun B=>?_) (fun B=>?_)
 ·rw[show bg x.L s 0 lc=true from B,aU]at hk;exact ca z (t8 hk C) (fun _ _ q _ _ _ _ _ _ _=>eH (e0.trans q.symm)) (cC:=ao) (ct:=ao) (cN:=ao)
 replace B:bg x.L s 0 lc=false:=B;rw[B,aN]at hk;refine bs jW ⟨x.p s,0,cU⟩ ⟨hl,by have:=z.i;show s.i<=1048576;omega,a_⟩ (A.ls.df 0 1 aL aL rfl rfl) fun _ _=>?_;refine aG (fun v=>?_) (fun v=>?_)
 ·replace v:bg x.L s 0 cU=true:=v;rw[v,aU,Ft,kG,Ag]at hk;have hi:=je v;have X:=z.cap hl;have J:=z.i;refine bs G2 ⟨x,s⟩ ⟨hl,a_⟩ (A.ls.sub (bU 1)) fun _ _=>?_;refine⟨_,el fun _=>rfl,nq (i:=s.i) (hO J hl),gw rfl rfl rfl,rfl,⟨x,s.add ⟨36,.empty,0,[],(aC x.L x.fin s).pos⟩,(s.add ⟨36,.empty,0,[],(aC x.L x.fin s).pos⟩).ax,1,_⟩,rfl,rfl,⟨fun _=>rfl,rfl,a_,rfl,rfl⟩,ao,fun _ _=>?_⟩;exact eH (e0.trans hk.symm)
 replace v:bg x.L s 0 cU=false:=v;rw[v,aN]at hk;refine⟨⟨al,aG (fun w=>?_) (fun w=>?_)⟩,?_⟩
 ·replace w:((aC x.L x.fin s).kind==2)=true:=w;have hi:s.i<x.L.length:=wz w (by decide);have e1:=akm (L:=x.L) (fin:=x.fin) (tv:=K.tv) (f:=n) (body:=t) B v w;have Y:g_ x.L x.fin K.tv n (aC x.L x.fin s) t=none\/lQ x.L x.fin K.tv n (aC x.L x.fin s) t s≠.out:=by
   cases D:g_ x.L x.fin K.tv n (aC x.L x.fin s) t with
   |none=>exact .inl rfl
   |some m=>
    rw[D]at e1;refine .inr fun e=>C ?_;rw[lQ,D]at e;rw[<-e0,br,e1];exact e
  have T:∀{y:PR (List Int)},lQ x.L x.fin K.tv n (aC x.L x.fin s) t s=y->y≠.out->br K x (n+1) (.bT t) s=y:=fun{y}e Z=>by
   unfold br;rw[e1];unfold lQ at e;cases D:g_ x.L x.fin K.tv n (aC x.L x.fin s) t with
   |none=>rw[D]at e;exact absurd e.symm Z
   |some m=>rw[D]at e;exact e
  repeat (refine⟨al,?_⟩)
  refine bs alq ⟨K,x,s,os,n,aC x.L x.fin s,t⟩ ⟨U,E,z,rfl,hi,Y⟩ (A.sub (bU 1)) ⟨fun a q=>aG (fun I=>?_) (fun I=>?_),fun a⟨u,q⟩=>⟨.inr a,⟨u,T q (fun e=>nomatch e)⟩,rfl,aA [1]⟩⟩
  ·rcases q with⟨_,q⟩| ⟨q,_⟩
   ·exact⟨.inl (a.1,a.2.1),T q (fun e=>nomatch e),rfl,aA [0,1]⟩
   ·rw[I]at q;cases q
  ·rcases q with⟨q,_⟩| ⟨_,q,e⟩
   ·rw[I]at q;cases q
   ·obtain⟨k,u,b⟩:=a;have e:u=s:=e;subst e;refine⟨⟨c⟩,?_,aV,aA [0,1,2020]⟩;have q:g_ x.L x.fin K.tv n (aC x.L x.fin u) t=none:=q;rw[q]at e1;exact e1.symm
 ·replace w:((aC x.L x.fin s).kind==2)=false:=w;rw[w,aN]at hk;exact⟨⟨c⟩,hk.trans e0.symm,aV,aA [0,1,2020]⟩
 clear hk;rintro⟨c⟩ js hk;rw[e0,Fq]at hk;refine ca z (fy hk C) (fun e t1 hk g1 O R H Q G S=>?_) (cC:=ao) (ct:=ao) (cN:=ao);dsimp only[aq.sl,ap.ax,ap.add]at O R H Q G S;refine bs Sn ⟨x,t1⟩ ⟨hl,g1.i⟩ (A.ls.sub (bU 1)) ⟨fun u q=>?_,fun p q=>⟨.inr (p,60),⟨_,e0.trans (hk.symm.trans (Sv q))⟩,rfl,aA [1]⟩⟩;rw[Su q,h_]at hk;obtain⟨V,-⟩:=PG.qc E g1 q;intro lb;refine⟨al,?_⟩;refine bO fi ⟨x,u,⟨20,.empty,0,[e],(aC x.L x.fin s).pos⟩,kT lb [e]⟩ ⟨by have:=V.cap hl;dsimp only[ap.ax,ap.add]at*;omega,jw lb [e]⟩ fun _ _=>?_;exact eH (e0.trans hk.symm)
theorem aiN:aD 17 (bn (fun(b:Bool)=>aq.bT b)):=fo 53 Tryz.func17 aiM [] aY aiL bA [] aiO
theorem OD:∀(n:Nat)(bJ:FuncId),aD bJ (cz n bJ)
 |0,bJ=>⟨fun q F I w a e hs=>absurd rfl a.2.2.2.2.2.2⟩
 |n+1,bJ=>⟨fun q F I w a e hs=>by
  have f:=OD n;obtain⟨K,x,s,os,tag⟩:=q;have c:tag.bJ=some bJ:=a.2.2.1;cases tag with
  |bf=>cases c;exact(mP acR (fun tag h=>by cases tag <;> first|exact⟨(),rfl⟩|cases h) f).h _ F I w a e hs
  |cond=>cases c;exact(mP abL (fun tag h=>by cases tag <;> first|exact⟨(),rfl⟩|cases h) f).h _ F I w a e hs
  |level m=>cases c;exact(mP ah_ (fun tag h=>by cases tag <;> first|exact⟨_,rfl⟩|cases h) f).h _ F I w a e hs
  |unary=>cases c;exact(mP akO (fun tag h=>by cases tag <;> first|exact⟨(),rfl⟩|cases h) f).h _ F I w a e hs
  |dO=>cases c;exact(mP abl (fun tag h=>by cases tag <;> first|exact⟨(),rfl⟩|cases h) f).h _ F I w a e hs
  |suffix=>cases c;exact(mP aiu (fun tag h=>by cases tag <;> first|exact⟨(),rfl⟩|cases h) f).h _ F I w a e hs
  |dv=>cases c;exact(mP aio (fun tag h=>by cases tag <;> first|exact⟨(),rfl⟩|cases h) f).h _ F I w a e hs
  |func k=>cases c;exact(mP ahO (fun tag h=>by cases tag <;> first|exact⟨_,rfl⟩|cases h) f).h _ F I w a e hs
  |block b=>cases c;exact(mP ahu (fun tag h=>by cases tag <;> first|exact⟨_,rfl⟩|cases h) f).h _ F I w a e hs
  |paren=>cases c;exact(mP aix (fun tag h=>by cases tag <;> first|exact⟨(),rfl⟩|cases h) f).h _ F I w a e hs
  |vars=>cases c;exact(mP aiY (fun tag h=>by cases tag <;> first|exact⟨(),rfl⟩|cases h) f).h _ F I w a e hs
  |loop=>cases c;exact(mP af3 (fun tag h=>by cases tag <;> first|exact⟨(),rfl⟩|cases h) f).h _ F I w a e hs
  |dr p=>cases c;exact(mP ahI (fun tag h=>by cases tag <;> first|exact⟨_,rfl⟩|cases h) f).h _ F I w a e hs
  |dF p=>cases c;exact(mP aiQ (fun tag h=>by cases tag <;> first|exact⟨_,rfl⟩|cases h) f).h _ F I w a e hs
  |choose p=>cases c;exact(mP ahC (fun tag h=>by cases tag <;> first|exact⟨_,rfl⟩|cases h) f).h _ F I w a e hs
  |simple d=>cases c;exact(mP aiJ (fun tag h=>by cases tag <;> first|exact⟨_,rfl⟩|cases h) f).h _ F I w a e hs
  |bT b=>cases c;exact(mP aiN (fun tag h=>by cases tag <;> first|exact⟨_,rfl⟩|cases h) f).h _ F I w a e hs
  |_=>cases c⟩
end
section
open Go
def mo(ab:List Int)(ks:List Int)(v:Int):List Int:=ks.foldl (fun a k=>a.set k.toNat v) ab
def jP(ns:List bP):Nat->List Int->Bool
 |0,_=>false
 |i+1,ab=>bif decide (ab.getD i 0>=48) then true else jP ns i (mo ab (((ns[i]?).map (·.aB)).getD []) (ab.getD i 0+1))
def kP(ns:List bP):Bool:=jP ns ns.length (List.replicate ns.length 0)
theorem Ab(ks:List Int)(v:Int):∀ab:List Int,(mo ab ks v).length=ab.length:=by
 induction ks with
 |nil=>intro ab;rfl
 |cons k ks a=>intro ab;show(mo (ab.set k.toNat v) ks v).length=_;rw[a,List.length_set]
def kM(ns:List bP)(vs:List Value):Prop:=qk (fun x v=>∃a n cap,v= .slice a n cap/\jk 1 (bB x.aB) a n) ns vs
variable{k:Int}{ns:List bP}{vs:List Value}
theorem ym.pure{I:a8}(h:ym I ns vs):kM ns vs:=qk.mono (fun _ _⟨a,n,cap,e,hs,_⟩=>⟨a,n,cap,e,hs⟩) h
theorem GJ{α β:Type}{R:α->β->Prop}:∀{l:List α}{m:List β},qk R l m->∀(i:Nat)(a:α),l[i]?=some a->∃b,m[i]?=some b/\R a b
 |a::l,b::m,h,0,c,e=>by
  have e:a=c:=by simpa using e
  subst e;exact⟨b,rfl,h.1⟩
 |a::l,b::m,h,i+1,c,e=>by
  obtain⟨d,f,g⟩:=GJ h.2 i c (by simpa using e);exact⟨d,by simpa using f,g⟩
 | [],_,_,i,c,e=>by simp at e
 |_::_,[],h,_,_,_=>h.elim
theorem N4{i j:Nat}{d:bP}{b o n cap:Nat}(hd:ns[i]?=some d)(m:vs[i]?=some (.slice (some ⟨b,o,none⟩) n cap))(hk:d.aB[j]?=some k):aQ (eD ns vs) ⟨b,o+j,none⟩ (.int .i64 k):=⟨fun I h s l g=>by
 obtain⟨v,e,p,r,c,e1,q,f⟩:=GJ (show ym I ns vs from g) i d hd;rw[m]at e;cases e;cases e1;have a:a8.le I h:=l;have:=TX a (f ⟨b,o,none⟩ rfl j (.int .i64 k) (by unfold bB;rw[fV,hk];rfl));rw[pE]at this;exact this⟩
structure oD where
 x:cj
 s:ap
 y:ew
 os:List Int
def ot(x:oD):Option Addr:=some ⟨x.x.b,0,none⟩
def Ki(x:oD):=af x.x.b [au x.x.la x.x.L.length x.x.lc,ad x.s.i,ad x.x.fin,au x.y.r.a x.y.r.n x.y.r.cap,ad x.s.bu,ad x.s.loops,ad x.s.bm] 43
def yT:aR where
 X:=oD
 args x:=[ag (ot x)]
 pre x:=[Ki x,x.y.r.A,eD x.s.nodes x.y.vs]
 cond x:=x.y.ok x.s.nodes/\kM x.s.nodes x.y.vs/\bQ x.x.fin x.s x.os/\x.s.nodes.length<=4194304
 val x _:=ay (aj (kP x.s.nodes))
 post x _:=[Ki x,x.y.r.A,eD x.s.nodes x.y.vs]
structure pv where
 i:Nat
 ab:List Int
 b:Nat
 j:Nat
 a:Option Addr
 n:Nat
 cap:Nat
 d:bP
def tT(d:pv):Option Addr:=some ⟨d.b,0,none⟩
def E3(d:pv):=af d.b (bB d.ab) 3
def acz(x:oD)(F:ah):Nat->Option Inv:=fun
 |0=>some {X:=pv,P:=fun d=>d.i<=x.s.nodes.length/\d.ab.length=x.s.nodes.length/\(∀k∈d.ab,0<=k/\k<=48)/\jP x.s.nodes d.i d.ab=kP x.s.nodes,mu:=fun d=>d.i,lv:=fun d=>[(0,ag (ot x)),(3,au (tT d) x.s.nodes.length x.s.nodes.length),(4,ad ((d.i:Int)-1))],st:=fun d=>[Ki x,x.y.r.A,eD x.s.nodes x.y.vs,F,E3 d]}
 |2=>some {X:=pv,gh:=some ⟨Nat,fun d=>d.i⟩,P:=fun d=>x.s.nodes[d.i]?=some d.d/\x.y.vs[d.i]?=some (.slice d.a d.n d.cap)/\jk 1 (bB d.d.aB) d.a d.n/\d.j<=d.n/\d.ab.length=x.s.nodes.length/\(∀k∈d.ab,0<=k/\k<=48)/\d.ab.getD d.i 0<48/\jP x.s.nodes d.i (mo d.ab (d.d.aB.drop d.j) (d.ab.getD d.i 0+1))=kP x.s.nodes,mu:=fun d=>d.n-d.j,lv:=fun d=>[(0,ag (ot x)),(3,au (tT d) x.s.nodes.length x.s.nodes.length),(4,ad d.i),(35,au d.a d.n d.cap),(36,ad d.n),(37,ad d.j)],st:=fun d=>[Ki x,x.y.r.A,eD x.s.nodes x.y.vs,F,E3 d]}
 |_=>none
theorem N3{l:List Int}{i:Nat}(h:l[i]?=some k):(bB l)[i]?=some (.int .i64 k):=by unfold bB;rw[fV,h];rfl
theorem aeU(l:List Int)(i:Nat)(k:Int):(bB l).set i (.int .i64 k)=bB (l.set i k):=by unfold bB;rw[List.map_set]
theorem alK(n:Nat):iu [.int .i64 0] n=bB (List.replicate n 0):=by rw[XT];unfold bB;simp
def Il(b:pv)(x:oD):=b.i<=x.s.nodes.length/\b.ab.length=x.s.nodes.length/\(∀(a:Int),a∈b.ab->0<=a/\a<=48)/\jP x.s.nodes b.i b.ab=kP x.s.nodes
def va(x:oD):List Value:=[au x.x.la x.x.L.length x.x.lc,ad ↑x.s.i,ad x.x.fin,au x.y.r.a x.y.r.n x.y.r.cap,ad x.s.bu,ad x.s.loops,ad x.s.bm]
def vo(x:oD)(F:ah)(b:pv):=[(0,af x.x.b (va x) 43),(1,x.y.r.A),(2,dU (Kf.rest x.s.nodes x.y.vs)),(3,F),(4,af b.b (bB b.ab) 3)]
def Kg(x:oD)(b:pv)(h:Nat):=(x.s.nodes[b.i]?=some b.d/\x.y.vs[b.i]?=some (au b.a b.n b.cap)/\jk 1 (bB b.d.aB) b.a b.n/\b.j<=b.n/\b.ab.length=x.s.nodes.length/\(∀(a:Int),a∈b.ab->0<=a/\a<=48)/\b.ab.getD b.i (0:Int)<(48:Int)/\jP x.s.nodes b.i (mo b.ab (List.drop b.j b.d.aB) (b.ab.getD b.i (0:Int)+(1:Int)))=kP x.s.nodes)/\b.i=h
theorem acA(x:oD)(F:ah)(hc:yT.cond x)(hr:yT.aO x F):aw x.x.b 3/\e_ Tryz.prog (a7 Tryz.f22 1 5) (u0 (3:TypeId) [ad 0] 8)/\true=true/\∃(q:FT),[ad ↑x.y.r.n,ad ↑x.y.r.n]=[ad q.n,ad q.c]/\([]:List ah)=[]/\(0<=q.n/\q.n<=q.c/\q.c*(↑(8:Nat):Int)<=281474976710656/\q.c<=9223372036854775807)/\True/\∀(p:Nat),True->aw x.x.b 3/\((-9223372036854775808:Int)<=(x.y.r.n:Int)-1/\(x.y.r.n:Int)-1<=(9223372036854775807:Int))/\(∃(b:pv),Il b x/\(ag (ot x)=ag (ot x)/\au (bI p) q.n.toNat q.c.toNat=au (tT b) x.s.nodes.length x.s.nodes.length/\ad ((x.y.r.n:Int)-1)=ad ((b.i:Int)-1)/\True)/\aE [(0,af x.x.b (va x) 43),(1,x.y.r.A),(2,dU (Kf.rest x.s.nodes x.y.vs)),(3,F),(2050,af p (iu [ad 0] q.c.toNat) 3)] (vo x F b))/\aT fun(o:pv)_=>Il o x->aS ((o.i:Int)-1>=(0:Int)) ((0<=(o.i:Int)-1/\(o.i:Int)-1<(x.s.nodes.length:Int))/\T1 (E3 o) ⟨o.b,0+((o.i:Int)-1).toNat*1,none⟩ (fun m=>aS (m>=48) (ar yT x F gH (vo x F o)) (aw x.x.b 3/\iP (a7 Tryz.f22 7 5) [au x.y.r.a x.y.r.n x.y.r.cap,ad ((o.i:Int)-1)] (fun l=>eA x.y.r.A ⟨l.b,l.o+l.n.toNat*5+3,none⟩ (fun k j i=>∃(h:Nat),(∃(b:pv),Kg x b h/\(ag (ot x)=ag (ot x)/\au (tT o) x.s.nodes.length x.s.nodes.length=au (tT b) x.s.nodes.length x.s.nodes.length/\ad ((o.i:Int)-1)=ad ↑b.i/\au k j i=au b.a b.n b.cap/\ad ↑j=ad ↑b.n/\ad 0=ad ↑b.j/\True)/\aE (vo x F o) (vo x F b))/\aT fun(g:pv)_=>Kg x g h->aS ((g.j:Int)<(g.n:Int)) (i6 (a7 Tryz.f22 9 0) [au g.a g.n g.cap,ad ↑g.j] (fun e=>T1 (dU (Kf.rest x.s.nodes x.y.vs)) ⟨e.b,e.o+e.n.toNat*1,none⟩ (fun d=>(0<=(g.i:Int)/\(g.i:Int)<(x.s.nodes.length:Int))/\T1 (E3 g) ⟨g.b,0+(g.i:Int).toNat*1,none⟩ (fun c=>dE c/\(0<=d/\d<x.s.nodes.length)/\(ed ⟨g.b,0+d.toNat*1,none⟩ g.b/\0+d.toNat*1<(bB g.ab).length)/\((-9223372036854775808:Int)<=(g.j:Int)+1/\(g.j:Int)+1<=(9223372036854775807:Int))/\∃(b:pv),Kg x b h/\(ag (ot x)=ag (ot x)/\au (tT g) x.s.nodes.length x.s.nodes.length=au (tT b) x.s.nodes.length x.s.nodes.length/\ad ↑g.i=ad ↑b.i/\au g.a g.n g.cap=au b.a b.n b.cap/\ad ↑g.n=ad ↑b.n/\ad ((g.j:Int)+1)=ad ↑b.j/\True)/\aE [(0,af x.x.b (va x) 43),(1,x.y.r.A),(2,dU (Kf.rest x.s.nodes x.y.vs)),(3,F),(4,af g.b ((bB g.ab).set (0+d.toNat*1) (ad (c+1))) 3)] (vo x F b)/\b.n-b.j<g.n-g.j)))) (((-9223372036854775808:Int)<=(g.i:Int)-1/\(g.i:Int)-1<=(9223372036854775807:Int))/\∃(b:pv),Il b x/\(ag (ot x)=ag (ot x)/\au (tT g) x.s.nodes.length x.s.nodes.length=au (tT b) x.s.nodes.length x.s.nodes.length/\ad ((g.i:Int)-1)=ad ((b.i:Int)-1)/\True)/\aE (vo x F g) (vo x F b)/\b.i<o.i)))))) (ar yT x F cQ (vo x F o)):=by
 delta Il ot bI tT va vo T1 E3 gH iP eA Kg i6 dE dk cQ aw ad aj ag au af dU aS ay aT;obtain⟨⟨b,la,lc,L,fin⟩,s,y,os⟩:=x;obtain⟨H,hk,K,hn⟩:=hc;dsimp only at H hk K hn⊢;have hl:=H.len;have hz:∀(i:Nat)(d:bP),s.nodes[i]?=some d->∀k∈d.aB,0<=k/\k<(i:Int):=fun i d hd k f=>
  ⟨(NY (K.tI.mem_iff.1 (n4 _ (List.mem_flatMap.2 ⟨d,nk hd,f⟩)))).1,(K.aB i d hd).2 k f⟩
 refine⟨al,DW (P:=Tryz.prog) [.int .i64 0] 8 rfl rfl rfl rfl rfl rfl aL rfl,rfl,⟨y.r.n,y.r.n⟩,rfl,rfl,⟨a_,a_,a_,a_⟩,ao,fun B _=>⟨al,aK,⟨⟨s.nodes.length,List.replicate s.nodes.length 0,B,0,none,0,0,⟨0,⟨#[]⟩,0,[],0⟩⟩,⟨bZ _,List.length_replicate ..,fun k f=>by rw[List.eq_of_mem_replicate f];decide,rfl⟩,⟨rfl,?_,?_,ao⟩,?_⟩,?_⟩⟩
 ·dsimp only;rw[hl];rfl
 ·dsimp only;rw[hl]
 ·dsimp only;rw[show iu [.int .i64 0] (y.r.n:Int).toNat=bB (List.replicate s.nodes.length 0) by rw[cy,alK,hl]];exact aA [0,1,2,3,2050]
 have U:∀(i:Nat)(d:bP),s.nodes[i]?=some d->d.aB.length<=s.nodes.length:=by
  intro i d hd;have D:=K.tI.length_eq;have J:d.aB.length<=(s.nodes.flatMap (·.aB)).length:=by
   rw[List.flatMap_def];exact(List.sublist_flatten_of_mem (List.mem_map.2 ⟨d,nk hd,rfl⟩)).length_le
  unfold sf at D;rw[dJ,List.length_map,List.length_range]at D;omega
 rintro⟨i,ab,B,_,_,_,_,_⟩ js ⟨D,J,Q,r⟩;dsimp only at D J Q r⊢;refine bo (fun T=>?_) (fun u=>⟨(),ao,?_,aA [0,1,2,3]⟩)
 ·obtain⟨n,rfl⟩:∃n,i=n+1:=⟨i-1,ae⟩;rw[show((n+1:Nat):Int)-1=(n:Int) by omega];obtain⟨d,hd⟩:∃d,s.nodes[n]?=some d:=⟨_,fg ae⟩;obtain⟨v,V,W,kn,kc,rfl,E⟩:=GJ hk n d hd;obtain⟨m,A⟩:∃m,ab[n]?=some m:=⟨_,fg ae⟩;have t:ab.getD n 0=m:=by rw[ft,A];rfl
  rw[jP,t,hd]at r;obtain⟨rb,Y⟩:=H.1.uH (by rw[H.len];omega);have G:aQ y.r.A ⟨rb,0+n*5+3,none⟩ (.slice W kn kc):=by
   have hs:=H.1.CB;rw[Y]at hs;have:=hs.look (G3 s.nodes y.vs n 3 d _ _ hd V rfl);rw[Nat.add_assoc];exact this
  refine⟨aK,m,aQ.cells (by rw[cy];exact N3 (by rw[hU,Nat.mul_one];exact A)),bo (fun u=>⟨(),ao,?_,aA [0,1,2,3]⟩) (fun z=>⟨al,gG 5 rfl rfl rfl rfl,⟨rb,0,y.r.n,y.r.cap,n⟩,by rw[Y],hS,W,kn,kc,?_,n,⟨⟨n,ab,B,0,W,kn,kc,d⟩,⟨⟨hd,V,E,dq _,J,Q,by rw[t];omega,?_⟩,rfl⟩,aV,aA [0,1,2,3,4]⟩,?_⟩)⟩
  ·rw[show decide (m>=48)=true from bw u,aU]at r;show returned (.bool true)=returned (.bool (kP s.nodes));rw[<-r]
  ·rw[cy];exact G
  ·rw[show decide (m>=48)=false from bF z,aN]at r;dsimp only;rw[t];exact r
  clear A t r hd V E G D J Q;rintro⟨i,ab,B,j,a,q,c,d⟩ js ⟨⟨g1,M,g3,g4,N,I,O,C⟩,rfl⟩;dsimp only at g1 M g3 g4 N I O C⊢;have wD:d.aB.length=q:=by
   have:=g3.len;unfold bB at this;rw[List.length_map]at this;omega
  have hi:i<s.nodes.length:=(jq.1 g1).1;have hkn:=U i d g1;obtain⟨m,A⟩:∃m,ab[i]?=some m:=⟨_,fg ae⟩;have t:ab.getD i 0=m:=by rw[ft,A];rfl
  have Z:=I m (nk A);rw[t]at O C;refine bo (fun T=>?_) (fun u=>⟨aK,⟨i,ab,B,0,a,q,c,d⟩,⟨a_,N,I,?_⟩,aV,aA [0,1,2,3,4],a_⟩)
  ·obtain⟨X,o',rfl⟩:=g3.some ae;obtain⟨k,w⟩:∃k,d.aB[j]?=some k:=⟨_,fg ae⟩;have hkr:=hz i d g1 k (nk w);refine⟨gG 1 rfl rfl rfl rfl,⟨X,o',q,c,j⟩,rfl,hS,k,?_,aK,m,aQ.cells (by rw[cy];exact N3 (by rw[hU,Nat.mul_one];exact A)),aK,aK,⟨al,?_⟩,aK,⟨i,ab.set k.toNat (m+1),B,j+1,some ⟨X,o',none⟩,q,c,d⟩,⟨⟨g1,M,g3,a_,?_,?_,?_,?_⟩,rfl⟩,aV,?_,a_⟩
   ·rw[cy,Nat.mul_one];exact N4 g1 M w
   ·unfold bB;rw[List.length_map];omega
   ·dsimp only;rw[List.length_set];exact N
   ·intro k' f;rcases List.mem_or_eq_of_mem_set f with h|h
    ·exact I k' h
    ·omega
   ·dsimp only;rw[ft,List.getElem?_set_ne ae,<-ft,t];exact O
   ·dsimp only;rw[ft,List.getElem?_set_ne ae,<-ft,t];have R:d.aB.drop j=k::d.aB.drop (j+1):=by
     obtain⟨S,rfl⟩:=jq.1 w;exact List.drop_eq_getElem_cons S
    rw[R]at C;exact C
   ·dsimp only;rw[hU,Nat.mul_one,aeU];exact aA [0,1,2,3,4]
  ·dsimp only;rw[List.drop_eq_nil_of_le ae]at C;exact C
 ·have:i=0:=by omega
  subst this;rw[jP]at r;show returned (.bool false)=returned (.bool (kP s.nodes));rw[<-r]
theorem Un:aD 22 yT:=fo 50 Tryz.func22 (fun _ _=>[(1,3,aP 0),(1,5,.o (u0 3 [.int .i64 0] 8) [] [2050]),(2,3,aP 0),(5,3,.q [.ex 4 (.int .i64)]),(7,3,aP 0),(7,5,.qo (fJ 5)),(7,7,.q [.ex 1 .slice]),(9,0,.qo (fJ 1)),(9,1,.q [.ex 2 (.int .i64)]),(10,5,.q [.ex 4 (.int .i64)]),(10,8,.w [.ex 4 .any])]) [] acz aY bA [] acA
end
section
open Go
def Ux(L:List bh)(fin:Int)(aJ:Nat->ByteArray)(wide:ByteArray->ByteArray)(f:Nat):PM Unit:=
 P L fin aJ wide f .bf>>=fun _=>eZ>>=fun s=>bif decide (s.i<L.length) then kj L fin else ret ()
section
variable{L W:List bh}{k:Nat}{fin fI:Int}{aJ:Nat->ByteArray}{wide:ByteArray->ByteArray}
theorem Hd{α:Type}{l:List α}{i:Nat}(h:l.length<=i):l[i]?=none:=pN h
end
end
section
open Go
def cf(K:bR)(x:cj)(n:Nat):PM Unit:=P x.L x.fin K.tv bx n (.prog [])>>=fun _=>ret ()
def cL(K:bR)(x:cj)(n:Nat):PM Unit:=Ux x.L x.fin K.tv bx n
structure oA where
 K:bR
 x:cj
 s:ap
 n:Nat
def mS(x:oA):Option Addr:=some ⟨x.x.b,0,none⟩
def nc(M:bR->cj->Nat->PM Unit):aR where
 X:=oA
 Y:=ap ⊕ (Int×Int)
 args x:=[ag (mS x)]
 pre x:=[ak x.x x.s]
 cond x:=gS x.K x.x/\PG x.x x.s []/\M x.K x.x x.n x.s≠.out
 aO x F:=cB x.K x.x F
 b_ x y:=match y with
  | .inl t=>M x.K x.x x.n x.s= .ok () t/\(∃os,bQ x.x.fin t os)/\t.nodes.length<=4194304
  | .inr a=>∃t,M x.K x.x x.n x.s= .stop a.1 a.2 t
 val x y:=match y with
  | .inl _=>.returned (.tuple #[])
  | .inr a=>.panicked [⟨iG a.1 a.2,false,false⟩]
 post x y:=match y with
  | .inl t=>[ak x.x t]
  | .inr _=>[]
 eT _ _ _ hs h:=cB.sub hs h
 sum:=some (ia ap (Int×Int))
def abT(x:oA)(a:ah):List (Nat×Nat×OH):=[(0,1,bv (cz x.n 14)),(1,3,dd),(1,7,.q [.ex 0 .slice]),(2,1,aX ly)]
theorem abV(x:oA)(F:ah)(w:(nc cL).cond x)(m:(nc cL).aO x F):cq x.n 14 [ag (mS x)] [ak x.x x.s] (aH [(0,ak x.x x.s),(1,F)] [0]) (fun h g=>true=true/\T1 (ak h.x g.snd) ⟨x.x.b,1,none⟩ (fun f=>eA (ak h.x g.snd) ⟨x.x.b,0,none⟩ (fun e d c=>aS (f<d) (kO [ag (mS x)] (aH (lM h g F) []) (fun b a=>ar (nc cL) x F (jC b) (lM h g F))) (ar (nc cL) x F eM (lM h g F))))) (fun h b=>ar (nc cL) x F (ci b) (h9 F)):=by
 delta cq mS T1 eA im kO lM jC eM ci h9 dT aH ak ad ag au bc aS ay;obtain⟨K,x,s,n⟩:=x;obtain⟨v,u,l⟩:=w;replace m:cB K x F:=m;dsimp only at v u l⊢;have y:=OD n;obtain⟨r,e0⟩:∃r,cL K x n s=r:=⟨_,rfl⟩;rw[e0]at l;have hk:=e0;unfold cL Ux at hk;have hl:=v.len;refine ca u (z_ hk l) (fun k t1 hk g1 o q j p i t=>?_) (cC:=ao) (ct:=ao) (cN:=ao);dsimp only[aq.sl,ap.ax,ap.add]at o q j p i t;rw[iF]at hk;refine⟨rfl,_,el fun _=>rfl,_,_,_,el fun _=>rfl,bo (fun h=>?_) (fun h=>?_)⟩
 ·replace h:(t1.i:Int)<(x.L.length:Int):=h;rw[bw (show t1.i<x.L.length by omega),aU,show kj x.L x.fin t1= .stop (aC x.L x.fin t1).pos 60 t1 from rfl]at hk;exact bs pG (x.p t1) hl (m.ls.df 0 1 aL aL rfl rfl) fun _ _=>⟨.inr (_,_),⟨_,e0.trans hk.symm⟩,rfl,aA [1]⟩
 ·replace h:¬(t1.i:Int)<(x.L.length:Int):=h;rw[bF (show ¬t1.i<x.L.length by omega),aN,Ag]at hk;have cap:=g1.cap hl;exact⟨.inl t1,⟨e0.trans hk.symm,⟨_,g1.fo⟩,ae⟩,rfl,aA [0,1]⟩
theorem abU:aD 13 (nc cL):=fo 16 Tryz.func13 abT [] aY aY bA [] abV
structure yn where
 t:ap
 ks:List Int
 r:Row
 f:Nat
 c:Nat
def abX(x:oA)(F:ah):Nat->Option Inv:=fun
 |0=>some {X:=yn,P:=fun d=>PG x.x d.t d.ks/\bz 3 1 (bB d.ks) d.r/\d.f<=x.n/\(P x.x.L x.x.fin x.K.tv bx d.f (.prog d.ks)>>=fun _=>ret ()) d.t=cf x.K x.x x.n x.s,mu:=fun d=>d.f,lv:=fun d=>[(0,ag (mS x)),(2,ag (some ⟨d.c,0,none⟩))],st:=fun d=>[ak x.x d.t,F,(l_ d.c 37 .empty 0 d.r 0),d.r.A]}
 |_=>none
def abY(x:oA)(a:ah):List (Nat×Nat×OH):=[(0,1,.n 1010),(0,2,.w (eG 1010)),(1,3,dd),(1,7,.q [.ex 0 .slice]),(2,1,aP 2),(2,3,bv (cz x.n 17)),(2,4,.n 3040),(2,5,.o (dm 3 1 8) [3] [3]),(2,7,.w [.z00 2]),(3,1,.q (eG 2)),(3,2,.c fK [0,3] [0])]
def Ib(x:oA)(b:yn):=PG x.x b.t b.ks/\bz 3 1 (bB b.ks) b.r/\b.f<=x.n/\(P x.x.L x.x.fin x.K.tv bx b.f (aq.prog b.ks)>>=fun(a:List Int)=>ret ()) b.t=cf x.K x.x x.n x.s
def Cp(b:yn):List Value:=[ad 37,ai ByteArray.empty,float f64 0,au b.r.a b.r.n b.r.cap,ad 0]
def JJ(x:oA)(b:yn)(F:ah):=[(0,ak x.x b.t),(1,F),(2,af b.c (Cp b) 35),(3,b.r.A)]
theorem ab0(x:oA)(F:ah)(E:(nc cf).cond x)(C:(nc cf).aO x F):∀(n:Nat),cx n ((∃(b:yn),Ib x b/\(ag (mS x)=ag (mS x)/\ag (bI n)=ag (some ⟨b.c,0,none⟩)/\True)/\aE [(0,ak x.x x.s),(1,F),(1010,af n [ad 37,ai ⟨#[]⟩,float f64 0,au none 0 0,ad 0] 35)] (JJ x b F))/\aT fun(m:yn)_=>Ib x m->true=true/\T1 (ak x.x m.t) ⟨x.x.b,1,none⟩ (fun k=>eA (ak x.x m.t) ⟨x.x.b,0,none⟩ (fun j i h=>aS (k<i) (true=true/\aw m.c 3/\cq x.n 17 [ag (mS x),aj true] [ak x.x m.t] (aH (JJ x m F) [0]) (fun g f=>∀(e:Nat),fG (a7 Tryz.f16 2 5) [au m.r.a m.r.n m.r.cap,au (bI e) 1 1] [m.r.A] (aH [(0,ak g.x f.snd),(1,F),(2,af m.c (Cp m) 35),(3,m.r.A),(3040,af e (bN f) 3)] [3]) (fun d c=>aw m.c 3/\∃(b:yn),Ib x b/\(ag (mS x)=ag (mS x)/\ag (some ⟨m.c,0,none⟩)=ag (some ⟨b.c,0,none⟩)/\True)/\aE [(0,ak g.x f.snd),(1,F),(2,af m.c [ad 37,ai ByteArray.empty,float f64 0,au c.a c.n c.cap,ad 0] 35),(3,c.A),(3040,af e (bN f) 3)] (JJ x b F)/\b.f<m.f)) (fun g b=>∀(a:Tm),ar (nc cf) x F (ci b) [(0,bc),(1,F),(2,af m.c (Cp m) 35),(3,m.r.A)])) (cx m.c (db [ag (mS x),agg ⟨Cp m⟩] [ak x.x m.t,m.r.A] (fun b a=>ar (nc cf) x F eM [(0,ak b.x (b.s.add b.n)),(1,F),(2,af m.c (Cp m) 35),(3,bc)])))))):=by
 delta Ib mS bI Cp JJ T1 eA cq k7 fG bN ci kz kC db eM dT aH ak aw cx ad ai aj ag au af bc aS ay aT;obtain⟨K,x,s,n⟩:=x;obtain⟨v,B,p⟩:=E;replace C:cB K x F:=C;dsimp only at v B p⊢;have J:=OD n;obtain⟨r,e0⟩:∃r,cf K x n s=r:=⟨_,rfl⟩;rw[e0]at p;have hk:=e0;unfold cf at hk;have hl:=v.len;intro c
 repeat (refine⟨al,?_⟩)
 refine⟨⟨⟨s,[],dL,n,c⟩,⟨B,.nil rfl,bZ _,rfl⟩,aV,aA [0,1,1010,999]⟩,?_⟩;clear hk;rintro⟨t,ks,H,f,c⟩ L ⟨g,l,o,hk⟩;dsimp only at g l o hk⊢;rw[e0]at hk;obtain _|f:=f
 ·exact absurd hk (fun e=>p (e.symm.trans (by rw[P];rfl)))
 replace o:f<=n:=Nat.le_of_succ_le o;rw[P,eV]at hk;rw[iF]at hk;have G:=py (os:=[]) g hl;refine⟨rfl,_,el fun _=>rfl,_,_,_,el fun _=>rfl,bo (fun h=>?_) (fun h=>?_)⟩
 ·have hi:t.i<x.L.length:=by omega
  rw[bw hi,aU,eV]at hk;refine⟨rfl,al,?_⟩;refine ca g ((fy hk p).up o) (fun k t1 hk g1 w z u y q A=>?_) (cC:=ao) (ct:=ao) (cN:=ao);dsimp only[aq.sl,ap.ax,ap.add]at w z u y q A;intro lb;refine lq (ks:=ks) (k:=k) 3040 l ae (fun I D=>?_);exact⟨al,⟨t1,ks++[k],I,f,c⟩,⟨g1,D,o,hk.trans e0.symm⟩,aV,aA [0,1,2,3],gZ _⟩
 ·rw[bF (show ¬t.i<x.L.length by omega),aN,show(cm ⟨37,.empty,0,ks,0⟩>>=fun _=>(ret ():PM Unit)) t= .ok () (t.add ⟨37,.empty,0,ks,0⟩)from rfl]at hk;have cap:=g.cap hl
  repeat (refine⟨al,?_⟩)
  refine bO fi ⟨x,t,⟨37,.empty,0,ks,0⟩,H⟩ ⟨by have:=g.cap hl;dsimp only[ap.ax,ap.add]at*;omega,l⟩ fun _ _=>?_;refine⟨.inl (t.add ⟨37,.empty,0,ks,0⟩),⟨e0.trans hk.symm,⟨_,bQ.node (os:=[]) g.fo ⟨cE 0,v.d_.f0⟩⟩,?_⟩,rfl,aA [0,1]⟩;show(t.nodes++[_]).length<=_;rw[dJ,tq];omega
theorem abZ:aD 16 (nc cf):=fo 24 Tryz.func16 abY [] abX aY bA [] ab0
end
end Go.Proofs.YtdkchodgklpomaaGreatDoor
