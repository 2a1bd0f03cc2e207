/- Part of the proof that ParseParens answers true at every input. -/
import Derived.Test.YtdkchodgklpomaaGreatDoorPPao
set_option linter.all false
namespace Go.Proofs.YtdkchodgklpomaaGreatDoor
set_option maxRecDepth 100000
open Go.Value (int slice string bool pointer agg tuple func float iface nilIface)
open Go.IntKind (i64 u8 u64 i32 u32 u16 i8 i16)
open Go.FloatKind (f64)
open Go.Ending (returned panicked)
section
open Go
section
variable{P:Program}
structure KT where
 ts:List ByteArray
 n:Nat
def GH:kP where
 X:=KT
 args x:=[.agg ⟨x.ts.map string⟩,.int .i64 x.n]
 cond x:=x.ts.length=2/\x.n<2
 val x:=.string (x.ts.getD x.n .empty)
theorem Tl{o:Oper}{t e:TypeId}{x i:Operand}{g:TypeInfo}(j:o.op= .index t x i)(p:P.underlying t=some (.array 2 e))(hi:P.info? e=some g)(k:P.cellsOf e=1)(r:P.underlying e=some .string):dJ P o GH:=by
 refine⟨fun q w ρ h l=>?_⟩;obtain⟨ts,n⟩:=q;obtain⟨hl,hn⟩:=l;dsimp only at hl hn;obtain⟨vs,c⟩:∃vs,vs=ts.map string:=⟨_,rfl⟩;simp only[j,Op.operands,GH]at h;have a:ρ x= .agg ⟨vs⟩/\ρ i= .int .i64 n:=by rw[c];simpa using h
 have v:(0:Int)<=n/\(n:Int)<(2:Nat):=ae;have d:(isAgg e).run P w= .ok false w:=by simp[isAgg,run_underlying r]
 obtain⟨u,b⟩:∃u,ts[n]?=some u:=⟨_,gy ae⟩;have s:vs[n]?=some (.string u):=by rw[c,fP,b];rfl
 have f:(n:Int)<2:=ae;have m:ts.getD n .empty=u:=by rw[fg,b];rfl
 show(execOp ρ o).run P w= .ok (.value (.string (ts.getD n .empty))) w;rw[m];simp[execOp,j,a.1,a.2,Instr.index,asIntOf,run_underlying p,f,hn,run_sizeOf w hi,k,part,d,s]
end
def G3(L:List bh)(fin:Int)(tv:Nat->ByteArray)(n:Nat)(pos:Int)(ks:List Int):PM (List Int):=do
 cr L fin rp
 let b <-one (P L fin tv bx n .loop)
 cg ⟨26,.empty,0,ks++[b],pos⟩
def G2(L:List bh)(fin:Int)(tv:Nat->ByteArray)(n:Nat)(pos:Int)(ks:List Int):PM (List Int):=do
 cr L fin dm
 let h <-iK L 0 rp
 let d <-bif h then iJ L fin else one (P L fin tv bx n .aZ)
 G3 L fin tv n pos (ks++[d])
def A0(L:List bh)(fin:Int)(tv:Nat->ByteArray)(n:Nat)(pos:Int)(ks:List Int):PM (List Int):=do
 cr L fin dm
 let h <-iK L 0 dm
 let c <-bif h then iJ L fin else one (P L fin tv bx n .aZ)
 G2 L fin tv n pos (ks++[c])
def Uv(L:List bh)(fin:Int)(tv:Nat->ByteArray)(n:Nat)(pos:Int):Nat->List Int->PM (List Int)
 |0,ks=>A0 L fin tv n pos ks
 |1,ks=>G2 L fin tv n pos ks
 |_,ks=>G3 L fin tv n pos ks
def Uu(L:List bh)(fin:Int)(tv:Nat->ByteArray)(n:Nat)(pos:Int)(v:Nat)(s:al):PM (List Int):=do
 let a <-bif v==1 then one (P L fin tv bx n .vars) else bif bc L s 0 dm then iJ L fin else do
  let x <-e9 L fin
  let e <-one (P L fin tv bx n .aZ)
  db ⟨20,.empty,0,[e],x.pos⟩
 A0 L fin tv n pos [a]
def Np(L:List bh)(fin:Int)(tv:Nat->ByteArray)(n:Nat)(pos:Int)(v:Nat)(s:al):PM (List Int):=
 bif nameV L s v&&bc L s (v+1) tG then do
  ic {s with i:=s.i+v+2}
  let e <-one (P L fin tv bx n .aZ)
  cr L fin rp
  let b <-one (P L fin tv bx n .loop)
  cg ⟨27,((L[s.i+v]?).map (·.text)).getD .empty,bif v==1 then kZ else 0,[e,b],pos⟩
 else Uu L fin tv n pos v s
structure iP where
 v:Nat
 t:al
 ks:List Int
 r:Row
 c:Nat
def iP.ok(d:iP)(x:cf)(s:al)(os:List Int):Prop:=PG x d.t (os++d.ks)/\bz 3 1 (bB d.ks) d.r/\s.i+1<=d.t.i/\d.t.loops=s.loops/\d.t.bn=s.bn
def B2:List Value:=[ai dm,ai rp]
def BS(d:iP):=ag (some ⟨d.c,0,none⟩)
def ahk(x:bk Int)(F:ah):Nat->Option Inv:=fun
 |1=>some {X:=iP,P:=fun d=>d.ok x.x x.s x.os/\d.v<=2/\Uv x.x.L x.x.fin x.K.tv x.n x.t d.v d.ks d.t=bs x.K x.x (x.n+1) (.di x.t) x.s,mu:=fun d=>2-d.v,lv:=fun d=>[(0,ag (cu x)),(8,BS d),(102,agg ⟨B2⟩),(103,ad d.v)],st:=fun d=>[ak x.x d.t,F,(lH d.c 26 .empty 0 d.r x.t),d.r.A]}
 |_=>none
def ahj(x:bk Int)(F:ah):Nat->Option Inv:=fun
 |5=>some {X:=iP,P:=fun d=>d.v<=1/\(d.v=1->x.s.ay.i<x.x.L.length)/\PG x.x x.s.ay x.os/\Np x.x.L x.x.fin x.K.tv x.n x.t d.v x.s.ay x.s.ay=bs x.K x.x (x.n+1) (.di x.t) x.s,mu:=fun _=>0,lv:=fun d=>[(0,ag (cu x)),(1,ad x.t),(5,ad d.v)],st:=fun _=>[ak x.x x.s.ay,F]}
 |20=>some {X:=iP,P:=fun d=>d.ok x.x x.s x.os/\A0 x.x.L x.x.fin x.K.tv x.n x.t d.ks d.t=bs x.K x.x (x.n+1) (.di x.t) x.s,mu:=fun _=>0,lv:=fun d=>[(0,ag (cu x)),(8,BS d)],st:=fun d=>[ak x.x d.t,F,(lH d.c 26 .empty 0 d.r x.t),d.r.A]}
 |_=>none
theorem fI.look{x:cf}{F:ah}(h:fI x F){b o i j:Nat}{d:bh}{u:Value}(e:x.la=some ⟨b,o,none⟩)(hd:x.L[i]?=some d)(a:(kA d)[j]?=some u):aP F ⟨b,o+i*5+j,none⟩ u:=by
 have hs:=h.Cu;rw[e]at hs;have:=hs.look (NL x.L i j d u hd a);rw[Nat.add_assoc];exact this
theorem ago{v:Nat}(h:v<=1):f64.nearest (v:Int)=bif v==1 then kZ else 0:=by
 have:v=0\/v=1:=ae;rcases this with rfl|rfl <;> rfl
def ahl(x:bk Int)(a:ah):List (Nat×Nat×OH):=[(1,1,bu ia),(3,1,aW gz),(5,2,aW wc),(5,7,aW gz),(6,3,.q [.ex 0 .slice]),(6,7,c9),(6,10,.qo (gb 5)),(6,12,.q [.ex 1 .str]),(6,17,.n 7170),(6,18,.w (eJ 7170)),(7,3,c9),(7,9,dV fE),(8,1,bu (cx x.n 14)),(9,1,bu ia),(10,2,bu (cx x.n 45)),(10,3,.n 11030),(10,5,.w [.z00 7170]),(11,1,.q (eJ 7170)),(11,2,.c fD [0,11030] [0]),
 (12,2,.n 13020),(12,3,.w (eJ 13020)),(17,1,aR 13020),(17,3,bu (cx x.n 41)),(17,4,.n 18040),(17,5,.o (de 3 1 8) [999] [998]),(17,7,.w [.z00 13020]),(18,1,aW gz),(19,1,aR 13020),(19,3,bu vV),(19,4,.n 20040),(19,5,.o (de 3 1 8) [999] [998]),(19,7,.w [.z00 13020]),
 (13,1,aW iq),(14,1,bu (cx x.n 14)),(15,1,aR 13020),(15,4,.n 16040),(15,7,.c fD [0,16040] [0]),(15,8,.n 16080),(15,9,.o (de 3 1 8) [999] [998]),(15,11,.w [.z00 13020]),
 (22,0,.qo GH),(23,1,bu ia),(24,2,aW gz),(25,1,aR 2),(25,3,bu vV),(25,4,.n 26040),(25,5,.o (de 3 1 8) [3] [3]),(25,7,.w [.z00 2]),(26,1,aR 2),(26,3,bu (cx x.n 14)),(26,4,.n 27040),(26,5,.o (de 3 1 8) [3] [3]),(26,7,.w [.z00 2]),
 (28,1,bu ia),(29,1,aR 2),(29,3,bu (cx x.n 45)),(29,4,.n 30040),(29,5,.o (de 3 1 8) [3] [3]),(29,7,.w [.z00 2]),(30,1,.q (eJ 2)),(30,2,.c fD [0,3] [0])]
def Pi(z:iP)(e0:bk Int):=z.v<=1/\(z.v=1->e0.s.i+1<e0.x.L.length)/\PG e0.x e0.s.ay e0.os/\Np e0.x.L e0.x.fin e0.K.tv e0.n e0.t z.v e0.s.ay e0.s.ay=bs e0.K e0.x (e0.n+1) (ap.di e0.t) e0.s
def Ma(e0:bk Int)(e1:ah)(v0:Value)(a:St):=∃(z:iP),Pi z e0/\(ag (cu e0)=ag (cu e0)/\ad e0.t=ad e0.t/\v0=ad ↑z.v/\True)/\aE a [(0,ak e0.x e0.s.ay),(1,e1)]
def IJ(m:iP):=(-9223372036854775808:Int)<=(m.v:Int)+1/\(m.v:Int)+1<=(9223372036854775807:Int)
def y8(o:ByteArray)(A:iP)(x:bk Int):List Value:=[ad 27,ai o,float f64 (f64.nearest (A.v:Int)),au none 0 0,ad x.t]
def zA(x:bk Int):List Value:=[ad 26,ai ⟨#[]⟩,float f64 0,au none 0 0,ad x.t]
def BM(x:bk Int)(F:ah)(p:Nat):=[(0,ak x.x x.s.ay),(1,F),(13020,af p (zA x) 35)]
def Qn(o:iP)(x:bk Int):=o.ok x.x x.s x.os/\A0 x.x.L x.x.fin x.K.tv x.n x.t o.ks o.t=bs x.K x.x (x.n+1) (ap.di x.t) x.s
def zd(o:iP)(x:bk Int):List Value:=[ad 26,ai ByteArray.empty,float f64 0,au o.r.a o.r.n o.r.cap,ad x.t]
def zc(x:bk Int)(o:iP)(F:ah):=[(0,ak x.x o.t),(1,F),(2,af o.c (zd o x) 35),(3,o.r.A)]
def Gk(e0:bk Int)(e1:ah)(v0:Value)(a:St):=∃(z:iP),Qn z e0/\(ag (cu e0)=ag (cu e0)/\v0=ag (some ⟨z.c,0,none⟩)/\True)/\aE a (zc e0 z e1)
def I5(b:Row)(x:bk Int):List Value:=[ad 26,ai ⟨#[]⟩,float f64 0,au b.a b.n b.cap,ad x.t]
def Da(aa:List Value)(pp:List ah)(rr:ah)(a:jC->Unit->Prop):=aC 31 vV/\true=true/\∃(z:jC),aa=(lN z)/\pp=[ak z.x z.s]/\(z.x.L.length<=1048576/\z.s.nodes.length<=4194304)/\fI z.x rr/\∀(b:Unit),True->a z b
def E0(f:jC):List Value:=[ad ↑f.s.nodes.length]
def Ih(m:iP)(x:bk Int):=m.ok x.x x.s x.os/\m.v<=2/\Uv x.x.L x.x.fin x.K.tv x.n x.t m.v m.ks m.t=bs x.K x.x (x.n+1) (ap.di x.t) x.s
def SW(e0:bk Int)(e1:ah)(v0 v1 v2:Value)(a:St):=∃(z:iP),Ih z e0/\(ag (cu e0)=ag (cu e0)/\v0=ag (some ⟨z.c,0,none⟩)/\v1=agg ⟨B2⟩/\v2=ad ↑z.v/\True)/\aE a (zc e0 z e1)
def SX(b:Oper)(aa:List Value)(a:KT->Prop):=dJ Tryz.prog b GH/\∃(z:KT),aa=[agg ⟨List.map ai z.ts⟩,ad ↑z.n]/\(z.ts.length=2/\z.n<2)/\a z
def EB(j:iB)(F:ah)(m:iP)(x:bk Int):=[(0,ak j.x j.s.ay),(1,F),(2,af m.c (zd m x) 35),(3,m.r.A)]
def JH(m:iP)(d:Nat):List Value:=[au m.r.a m.r.n m.r.cap,au (bI d) 1 1]
def Mb(e0:bk Int)(e1:ah)(v0 v1:Value)(a:St)(mm:Nat):=∃(z:iP),Ih z e0/\(ag (cu e0)=ag (cu e0)/\v0=ag (some ⟨z.c,0,none⟩)/\agg ⟨B2⟩=agg ⟨B2⟩/\v1=ad ↑z.v/\True)/\aE a (zc e0 z e1)/\2-z.v<mm
def Eo(b:Row)(x:bk Int):List Value:=[ad 26,ai ByteArray.empty,float f64 0,au b.a b.n b.cap,ad x.t]
def EG(F:ah)(m:iP)(x:bk Int):=[(0,bd),(1,F),(2,af m.c (zd m x) 35),(3,m.r.A)]
def q1(A:iP)(x:bk Int)(F:ah):=∀(p:Nat),cz p (Br ((A.v:Int)==1) (true=true/\aw p 3/\cq x.n 41 (jw x) [ak x.x x.s.ay] (aH (BM x F p) [0]) (fun f e=>∀(d:Nat),fz (ba Tryz.f46 17 5) (wH d) [bd] (aH [(0,ak f.x e.snd),(1,F),(13020,af p (zA x) 35),(18040,af d (bN e) 3)] [999]) (fun c b=>aw p 3/\Gk x F (cE p) [(0,ak f.x e.snd),(1,F),(998,b.A),(999,bd),(13020,af p (I5 b x) 35),(18040,af d (bN e) 3)])) (fun f c=>∀(b:Tm),ar (bm fun(a:Int)=>ap.di a) x F (cd c) [(0,bd),(1,F),(13020,af p (zA x) 35)])) (gr [ag (cu x),ad 0,ai ⟨#[59]⟩] (aH (BM x F p) []) (fun m l=>Br (h8 m.p.L (m.p.i+m.a) m.t) (true=true/\aw p 3/\Da (jw x) [ak x.x x.s.ay] (aH (BM x F p) [0]) (fun f e=>∀(d:Nat),fz (ba Tryz.f46 19 5) (wH d) [bd] (aH [(0,ak f.x (f.s.add ⟨(36:Int),ByteArray.empty,0,[],(aB f.x.L f.x.fin f.s).pos⟩)),(1,F),(13020,af p (zA x) 35),(20040,af d (E0 f) 3)] [999]) (fun c b=>aw p 3/\Gk x F (cE p) [(0,ak f.x (f.s.add ⟨(36:Int),ByteArray.empty,0,[],(aB f.x.L f.x.fin f.s).pos⟩)),(1,F),(998,b.A),(999,bd),(13020,af p (I5 b x) 35),(20040,af d (E0 f) 3)]))) (e7 (jw x) (aH (BM x F p) []) (fun k j=>cq x.n 14 (jw x) [ak x.x x.s.ay] (aH (BM x F p) [0]) (fun i h=>true=true/\aw p 3/\∀(g:Nat),c7 [ag (cu x),agg ⟨[ad 20,ai ⟨#[]⟩,float f64 0,au (bI g) 1 1,ad (cn k.L k.fin k.i).pos]⟩] [ak i.x h.snd,af g (bN h) 3] (fun f e=>∀(d:Nat),fz (ba Tryz.f46 15 9) (wH d) [bd] (aH [(0,ak f.x (f.s.add f.n)),(1,F),(13020,af p (zA x) 35),(16040,bd),(16080,af d (oF f) 3)] [999]) (fun c b=>aw p 3/\Gk x F (cE p) [(0,ak f.x (f.s.add f.n)),(1,F),(998,b.A),(999,bd),(13020,af p (I5 b x) 35),(16040,bd),(16080,af d (oF f) 3)]))) (fun i b=>ar (bm fun(a:Int)=>ap.di a) x F (cd b) [(0,bd),(1,F),(13020,af p (zA x) 35)])))))/\aT fun(o:iP)_=>Qn o x->SW x F (BS o) (agg ⟨[ai ⟨#[59]⟩,ai ⟨#[41]⟩]⟩) (ad 0) (zc x o F)/\aT fun(m:iP)_=>Ih m x->aS ((m.v:Int)<2) (SX ⟨some 105,Op.index 87 (Operand.tmp 102) (Operand.tmp 103),9,"esparse.go:375",⟨[]⟩,none⟩ [agg ⟨B2⟩,ad ↑m.v] (fun k=>fZ [ag (cu x),ai ⟨#[59]⟩] [ak x.x m.t] (aH (zc x m F) [0]) (fun j i=>gr [ag (cu x),ad 0,ai (k.ts.getD k.n ByteArray.empty)] (aH (EB j F m x) []) (fun h g=>Br (h8 h.p.L (h.p.i+h.a) h.t) (true=true/\aw m.c 3/\Da (jw x) [ak j.x j.s.ay] (aH (EB j F m x) [0]) (fun f e=>∀(d:Nat),fz (ba Tryz.f46 25 5) (JH m d) [m.r.A] (aH [(0,ak f.x (f.s.add ⟨(36:Int),ByteArray.empty,0,[],(aB f.x.L f.x.fin f.s).pos⟩)),(1,F),(2,af m.c (zd m x) 35),(3,m.r.A),(26040,af d (E0 f) 3)] [3]) (fun c b=>aw m.c 3/\IJ m/\Mb x F (BS m) (ad ((m.v:Int)+1)) [(0,ak f.x (f.s.add ⟨(36:Int),ByteArray.empty,0,[],(aB f.x.L f.x.fin f.s).pos⟩)),(1,F),(2,af m.c (Eo b x) 35),(3,b.A),(26040,af d (E0 f) 3)] (2-m.v)))) (true=true/\aw m.c 3/\cq x.n 14 (jw x) [ak j.x j.s.ay] (aH (EB j F m x) [0]) (fun f e=>∀(d:Nat),fz (ba Tryz.f46 26 5) (JH m d) [m.r.A] (aH [(0,ak f.x e.snd),(1,F),(2,af m.c (zd m x) 35),(3,m.r.A),(27040,af d (bN e) 3)] [3]) (fun c b=>aw m.c 3/\IJ m/\Mb x F (BS m) (ad ((m.v:Int)+1)) [(0,ak f.x e.snd),(1,F),(2,af m.c (Eo b x) 35),(3,b.A),(27040,af d (bN e) 3)] (2-m.v))) (fun f c=>∀(b:Tm),ar (bm fun(a:Int)=>ap.di a) x F (cd c) (EG F m x))))) (fun j b=>ar (bm fun(a:Int)=>ap.di a) x F (gg j) (EG F m x)))) (fZ (zu x) [ak x.x m.t] (aH (zc x m F) [0]) (fun j i=>true=true/\aw m.c 3/\cq x.n 45 (jw x) [ak j.x j.s.ay] (aH (EB j F m x) [0]) (fun h g=>∀(f:Nat),fz (ba Tryz.f46 29 5) (JH m f) [m.r.A] (aH [(0,ak h.x g.snd),(1,F),(2,af m.c (zd m x) 35),(3,m.r.A),(30040,af f (bN g) 3)] [3]) (fun e d=>aw m.c 3/\cz m.c (c7 [ag (cu x),agg ⟨Eo d x⟩] [ak h.x g.snd,d.A] (fun c b=>ar (bm fun(a:Int)=>ap.di a) x F (fq c) [(0,ak c.x (c.s.add c.n)),(1,F),(2,af m.c (Eo d x) 35),(3,bd),(30040,af f (bN g) 3)])))) (fun h c=>∀(b:Tm),ar (bm fun(a:Int)=>ap.di a) x F (cd c) (EG F m x))) (fun j b=>ar (bm fun(a:Int)=>ap.di a) x F (gg j) (EG F m x))))
theorem ahn(x:bk Int)(F:ah)(hc:aQ.cond (bm (fun(p:Int)=>ap.di p)) x)(O:aQ.aO (bm (fun(p:Int)=>ap.di p)) x F):fZ [ag (cu x),ai ⟨#[40]⟩] [ak x.x x.s] (aH [(0,ak x.x x.s),(1,F)] [0]) (fun C B=>gr [ag (cu x),ad 0,ai ⟨#[118,97,114]⟩] (aH (mr C F) []) (fun c b=>Br (h8 c.p.L (c.p.i+c.a) c.t) (Ma x F (ad 1) (mr C F)) (Ma x F (ad 0) (mr C F)))/\aT fun(A:iP)_=>Pi A x->Gi [ag (cu x),ad ↑A.v] (aH [(0,ak x.x x.s.ay),(1,F)] []) (fun y w=>Br (Bh y.p.L (y.p.i+y.a)) (IJ A/\gr [ag (cu x),ad ((A.v:Int)+1),ai ⟨#[105,110]⟩] (aH [(0,ak x.x x.s.ay),(1,F)] []) (fun v u=>Br (h8 v.p.L (v.p.i+v.a) v.t) (true=true/\eI (ak x.x x.s.ay) ⟨x.x.b,0,none⟩ (fun t s r=>T1 (ak x.x x.s.ay) ⟨x.x.b,1,none⟩ (fun q=>bM (q+A.v)/\j0 (ba Tryz.f46 6 10) [au t s r,ad (q+A.v)] (fun p=>T2 F ⟨p.b,p.o+p.n.toNat*5+1,none⟩ (fun o=>∀(n:Nat),cz n (T1 (ak x.x x.s.ay) ⟨x.x.b,1,none⟩ (fun m=>((-9223372036854775808:Int)<=(A.v:Int)+2/\(A.v:Int)+2<=(9223372036854775807:Int))/\bM (m+((A.v:Int)+2))/\dK (ba Tryz.f46 7 9) [ag (some ⟨x.x.b,1,none⟩),ad (m+((A.v:Int)+2))] [ak x.x x.s.ay] (fun l k=>cq x.n 14 (jw x) [ak l.x l.t] (aH [(0,ak l.x l.t),(1,F),(7170,af n (y8 o A x) 35)] [0]) (fun j i=>fZ (zu x) [ak j.x i.snd] (aH [(0,ak j.x i.snd),(1,F),(7170,af n (y8 o A x) 35)] [0]) (fun h g=>cq x.n 45 (jw x) [ak h.x h.s.ay] (aH [(0,ak h.x h.s.ay),(1,F),(7170,af n (y8 o A x) 35)] [0]) (fun f e=>∀(d:Nat),aw n 3/\cz n (c7 [ag (cu x),agg ⟨[ad 27,ai o,float f64 (f64.nearest (A.v:Int)),au (bI d) 2 2,ad x.t]⟩] [ak f.x e.snd,af d [ad i.fst,ad e.fst] 3] (fun c b=>ar (bm fun(a:Int)=>ap.di a) x F (fq c) [(0,ak c.x (c.s.add c.n)),(1,F),(7170,af n [ad 27,ai o,float f64 (f64.nearest (A.v:Int)),au (bI d) 2 2,ad x.t] 35),(11030,bd)]))) (fun f b=>ar (bm fun(a:Int)=>ap.di a) x F (cd b) [(0,bd),(1,F),(7170,af n (y8 o A x) 35)])) (fun h b=>ar (bm fun(a:Int)=>ap.di a) x F (gg h) [(0,bd),(1,F),(7170,af n (y8 o A x) 35)])) (fun j b=>ar (bm fun(a:Int)=>ap.di a) x F (cd b) [(0,bd),(1,F),(7170,af n (y8 o A x) 35)]))))))))) (q1 A x F))) (q1 A x F))) (fun C b=>ar (bm fun(a:Int)=>ap.di a) x F (gg C) (hT F)):=by
 delta ja fZ cu pE pF gr mr Pi Ma Gi IJ eI T1 j0 T2 lg lh dK cq jw y8 zu kg kh c7 bI jQ fq cd gg zA BM kF fz wH bN Qn zd zc Gk cE I5 mn lN Da E0 ib e7 oF Ih B2 SW BS SX EB JH Mb Eo EG q1 hT dL aH ak aw bM cz ad ai ag au af bd aS ax aT;obtain⟨K,x,s,os,n,Y⟩:=x;obtain⟨ih,hK,hG,hp,DH,yx,Q⟩:=hc;replace O:cA K x F:=O;replace Q:bs K x (n+1) (.di Y) s≠.out:=Q;dsimp only at ih hK hG hp DH yx⊢;obtain⟨r,e0⟩:∃r,bs K x (n+1) (.di Y) s=r:=⟨_,rfl⟩;rw[e0]at Q;have hk:=e0;unfold bs at hk;rw[P]at hk;have hl:=hK.len;refine ma hG hk (fun hk g1=>?_);rw[lU]at hk;have c0:x.L.length<=1048576/\s.ay.i<=1048576/\0<=1048576:=⟨hl,gR g1.i hl,df _⟩;have amx:s.nodes.length<=2*s.i:=hG.nd;have ad1:=hG.l;have ad2:=hG.b;refine⟨?_,?_⟩
 ·refine br jK ⟨x.p s.ay,0,lk⟩ c0 (O.ls.da 0 1 aL aL rfl rfl) fun _ _=>aG (fun h=>⟨⟨1,s.ay,[],dG,0⟩,⟨bT _,fun _=>iZ h,g1,?_⟩,aV,az [0,1]⟩) (fun h=>⟨⟨0,s.ay,[],dG,0⟩,⟨df _,(fun e=>nomatch e),g1,?_⟩,aV,az [0,1]⟩)
  ·rw[show bc x.L s.ay 0 lk=true from h]at hk;exact hk.trans e0.symm
  ·rw[show bc x.L s.ay 0 lk=false from h]at hk;exact hk.trans e0.symm
 clear hk;rintro⟨v,t0,ks0,r0,cc⟩ js ⟨hv,U,-,hk⟩;replace hv:v<=1:=hv;replace U:v=1->s.ay.i<x.L.length:=U;dsimp only at hk⊢;rw[e0,Np]at hk;have hgi:=g1.i;refine kL (A:=(nameV x.L s.ay v&&bc x.L s.ay (v+1) tG)=false) (fun kx=>br Vv ⟨x.p s.ay,v⟩ ⟨hl,gR g1.i hl,bg⟩ (O.ls.da 0 1 aL aL rfl rfl) fun _ _=>aG (fun h1=>⟨aK,jK,rfl,⟨x.p s.ay,v+1,tG⟩,rfl,rfl,⟨hl,gR g1.i hl,bg⟩,O.ls.da 0 1 aL aL rfl rfl,fun _ _=>aG (fun D=>?_) (fun D=>kx ?_)⟩) (fun h1=>kx ?_)) (fun hx=>?_)
 ·have hx:(nameV x.L s.ay v&&bc x.L s.ay (v+1) tG)=true:=by rw[show nameV x.L s.ay v=true from h1,show bc x.L s.ay (v+1) tG=true from D];rfl
  have hin:=Vx hx;rw[hx,aU,zN]at hk;obtain⟨d,hd⟩:∃d,x.L[s.ay.i+v]?=some d:=⟨_,gy ae⟩;obtain⟨lb,lo,UJ⟩:=O.ls.src.some ae;have en:((s.ay.i:Int)+(v:Int)).toNat=s.ay.i+v:=ae;rw[hd]at hk;refine⟨rfl,_,_,_,ef fun _=>rfl,_,ef fun _=>rfl,⟨by(try dsimp only);omega,by(try dsimp only);omega⟩,h9 5 rfl rfl rfl rfl,⟨lb,lo,x.L.length,x.lc,(s.ay.i:Int)+(v:Int)⟩,by rw[UJ],⟨by(try dsimp only);omega,by(try dsimp only);omega⟩,d.text,by dsimp only;rw[en];exact O.ls.look (j:=1) UJ hd rfl,fun c=>?_⟩
  repeat (refine⟨aq,?_⟩)
  have E:PG x ⟨s.ay.i+v+2,s.ay.nodes,s.ay.bw,s.ay.loops,s.ay.bn⟩ os:=by
   obtain⟨a1,a2,a3,a4,a5,a6⟩:=g1;exact⟨bg,a2.same rfl,bg,bg,bg,bg⟩
  refine⟨_,ef fun _=>rfl,⟨by(try dsimp only);omega,by(try dsimp only);omega⟩,⟨by(try dsimp only);omega,by(try dsimp only);omega⟩,gk rfl rfl rfl,rfl,⟨x,s.ay,⟨s.ay.i+v+2,s.ay.nodes,s.ay.bw,s.ay.loops,s.ay.bn⟩,1,_⟩,rfl,rfl,⟨fun _=>rfl,rfl,bg,rfl,rfl⟩,ao,fun _ _=>?_⟩;refine ca E (ft hk Q) (fun e t1 hk g3 I L H J G N=>?_) (cB:=ao) (ct:=ao) (cN:=ao);dsimp only[ap.sl,al.ay,al.add]at I L H J G N;refine ma g3 hk (fun hk g4=>?_);refine ca g4 (ft hk Q) (fun b t2 hk g5 NF N2 Nn NT bg5 Sf=>?_) (cB:=ao) (ct:=ao) (cN:=(show t1.loops<((t1.i+1:Nat):Int)/\t1.bn<((t1.i+1:Nat):Int) by omega));dsimp only[ap.sl,al.ay,al.add]at NF N2 Nn NT bg5 Sf;rw[iM]at hk;intro DO
  repeat (refine⟨aq,?_⟩)
  rw[ago hv];refine bO e_ ⟨x,t2,⟨27,d.text,bif v==1 then kZ else 0,[e,b],Y⟩,kB DO [e,b]⟩ ⟨by have:=g5.cap hl;dsimp only[al.ay,al.add]at*;omega,jo DO [e,b]⟩ fun _ _=>?_;exact ew (e0.trans hk.symm)
 ·rw[show bc x.L s.ay (v+1) tG=false from D,j5]
 ·rw[show nameV x.L s.ay v=false from h1,jk]
 rw[hx,aM,Uu]at hk;intro c
 repeat (refine⟨aq,?_⟩)
 refine⟨?_,?_⟩
 ·refine aG (fun h=>?_) (fun h=>?_)
  ·have h:((v:Int)==1)=true:=h;have ev:v=1:=by
    simp at h;omega
   rw[fL 1 h,aU]at hk;refine⟨rfl,aq,?_⟩;refine ca g1 (ft hk Q) (fun a t1 hk E V X T W R Z=>?_) (cB:=ao) (ct:=U ev) (cN:=ao);dsimp only[ap.sl,al.ay,al.add]at V X T W R Z;intro lb;refine kQ (ks:=[]) (k:=a) 18040 yK (by simp only[eS,sJ,List.length_nil];omega) (fun M D=>?_);exact⟨aq,⟨v,t1,[a],M,c⟩,⟨⟨E,D,ae,ae,ae⟩,hk.trans e0.symm⟩,aV,az [0,1,13020,998]⟩
  ·have h:((v:Int)==1)=false:=h;rw[fL 1 h,aM]at hk;refine br jK ⟨x.p s.ay,0,dm⟩ ⟨hl,by have:=g1.i;show s.ay.i<=1048576;omega,bg⟩ (O.ls.da 0 1 aL aL rfl rfl) fun _ _=>?_;refine aG (fun D=>?_) (fun D=>?_)
   ·rw[show bc x.L s.ay 0 dm=true from D,aU,Kt]at hk;refine⟨rfl,aq,GW,rfl,⟨x,s.ay⟩,rfl,rfl,⟨hl,by have:=g1.cap hl;dsimp only;omega⟩,O.ls.sub (bP 1),fun _ _ lb=>?_⟩;refine kQ (ks:=[]) (k:=(s.nodes.length:Int)) 20040 yK (by simp only[eS,sJ,List.length_nil];omega) (fun M D=>?_);have E:=PG.node (n:=⟨36,.empty,0,[],(aB x.L x.fin s.ay).pos⟩) (g1.cast (dv _).symm) (PG.hp hK s.ay) (by show s.nodes.length+1<=2*(s.i+1);omega);exact⟨aq,⟨v,_,[(s.nodes.length:Int)],M,c⟩,⟨⟨E,D,bT _,rfl,rfl⟩,hk.trans e0.symm⟩,aV,az [0,1,13020,998]⟩
   ·rw[show bc x.L s.ay 0 dm=false from D,aM,eO,m6,eO]at hk;refine br kz (x.p s.ay) hl (O.ls.da 0 1 aL aL rfl rfl) fun _ _=>?_;refine ca g1 (ft hk Q) (fun e t1 hk E V X T W R Z=>?_) (cB:=ao) (ct:=ao) (cN:=ao);dsimp only[ap.sl,al.ay,al.add]at V X T W R Z;rw[xi]at hk;have amy:=E.nd;have g3:=PG.node (n:=⟨20,.empty,0,[e],(aB x.L x.fin s.ay).pos⟩) E (PG.hp hK s.ay) (by dsimp only[al.ay]at*;omega);refine⟨rfl,aq,fun U6=>?_⟩;refine bO e_ ⟨x,t1,⟨20,.empty,0,[e],(aB x.L x.fin s.ay).pos⟩,kB U6 [e]⟩ ⟨by have:=E.cap hl;dsimp only[al.ay,al.add]at*;omega,jo U6 [e]⟩ fun _ _=>?_;intro lb;refine kQ (ks:=[]) (k:=(t1.nodes.length:Int)) 16080 yK (by simp only[eS,sJ,List.length_nil];omega) (fun M D=>?_);exact⟨aq,⟨v,_,[(t1.nodes.length:Int)],M,c⟩,⟨⟨g3,D,by show s.i+1<=t1.i;omega,by show t1.loops=s.loops;omega,by show t1.bn=s.bn;omega⟩,hk.trans e0.symm⟩,aV,az [0,1,13020,998]⟩
 clear hk;rintro⟨v',t,ks,r',c⟩ js ⟨⟨g,z,hi,S,f2⟩,hk⟩;dsimp only at g z hi S f2 hk⊢;refine⟨⟨⟨0,t,ks,r',c⟩,⟨⟨g,z,hi,S,f2⟩,df _,hk⟩,aV,az [0,1,2,3]⟩,?_⟩;clear hk g z hi S f2;rintro⟨j,t,ks,r',c⟩ js ⟨⟨g,z,hi,S,f2⟩,hj,hk⟩;dsimp only at g z hi S f2 hj hk⊢;rw[e0]at hk;have Ny:=g.nd;have A6:=o4 g hl;refine bo (fun h=>?_) (fun h=>?_)
 ·have hj2:j=0\/j=1:=by omega
  clear hj h;rcases hj2 with rfl|rfl
  ·replace hk:A0 x.L x.fin K.tv n Y ks t=r:=hk;rw[A0]at hk;refine⟨Tl rfl rfl rfl rfl rfl,⟨[dm,rp],0⟩,rfl,⟨rfl,by decide⟩,?_⟩;refine ma g hk (fun hk E=>?_);rw[Fm]at hk;refine br jK ⟨x.p t.ay,0,dm⟩ ⟨hl,by have:=E.i;show t.ay.i<=1048576;omega,bg⟩ (O.ls.da 0 1 aL aL rfl rfl) fun _ _=>?_;refine aG (fun D=>?_) (fun D=>?_)
   ·rw[show bc x.L t.ay 0 dm=true from D,aU,Kt]at hk;refine⟨rfl,aq,GW,rfl,⟨x,t.ay⟩,rfl,rfl,⟨hl,by have:=E.cap hl;dsimp only;omega⟩,O.ls.sub (bP 1),fun _ _ lb=>?_⟩;refine kQ (ks:=ks) (k:=(t.nodes.length:Int)) 26040 z ae (fun M D=>?_);have g3:=PG.node (n:=⟨36,.empty,0,[],(aB x.L x.fin t.ay).pos⟩) (E.cast (dv _).symm) (PG.hp hK t.ay) (by show t.nodes.length+1<=2*(t.i+1);omega);exact⟨aq,⟨by(try dsimp only);omega,by(try dsimp only);omega⟩,⟨1,_,ks++[(t.nodes.length:Int)],M,c⟩,⟨⟨g3.cast (jj _ _ _),D,Nat.le_succ_of_le hi,S,f2⟩,bg,hk.trans e0.symm⟩,aV,az [0,1,2,3],bg⟩
   ·rw[show bc x.L t.ay 0 dm=false from D,aM]at hk;refine⟨rfl,aq,?_⟩;refine ca E (ft hk Q) (fun e t1 hk g3 I L H J G N=>?_) (cB:=ao) (ct:=ao) (cN:=ao);dsimp only[ap.sl,al.ay,al.add]at I L H J G N;intro lb;refine kQ (ks:=ks) (k:=e) 27040 z ae (fun M D=>?_);exact⟨aq,⟨by(try dsimp only);omega,by(try dsimp only);omega⟩,⟨1,t1,ks++[e],M,c⟩,⟨⟨g3.cast (jj _ _ _),D,bg,bg,bg⟩,bg,hk.trans e0.symm⟩,aV,az [0,1,2,3],bg⟩
  ·replace hk:G2 x.L x.fin K.tv n Y ks t=r:=hk;rw[G2]at hk;refine⟨Tl rfl rfl rfl rfl rfl,⟨[dm,rp],1⟩,rfl,⟨rfl,by decide⟩,?_⟩;refine ma g hk (fun hk E=>?_);rw[Fm]at hk;refine br jK ⟨x.p t.ay,0,rp⟩ ⟨hl,by have:=E.i;show t.ay.i<=1048576;omega,bg⟩ (O.ls.da 0 1 aL aL rfl rfl) fun _ _=>?_;refine aG (fun D=>?_) (fun D=>?_)
   ·rw[show bc x.L t.ay 0 rp=true from D,aU,Kt]at hk;refine⟨rfl,aq,GW,rfl,⟨x,t.ay⟩,rfl,rfl,⟨hl,by have:=E.cap hl;dsimp only;omega⟩,O.ls.sub (bP 1),fun _ _ lb=>?_⟩;refine kQ (ks:=ks) (k:=(t.nodes.length:Int)) 26040 z ae (fun M D=>?_);have g3:=PG.node (n:=⟨36,.empty,0,[],(aB x.L x.fin t.ay).pos⟩) (E.cast (dv _).symm) (PG.hp hK t.ay) (by show t.nodes.length+1<=2*(t.i+1);omega);exact⟨aq,⟨by(try dsimp only);omega,by(try dsimp only);omega⟩,⟨2,_,ks++[(t.nodes.length:Int)],M,c⟩,⟨⟨g3.cast (jj _ _ _),D,Nat.le_succ_of_le hi,S,f2⟩,bg,hk.trans e0.symm⟩,aV,az [0,1,2,3],bg⟩
   ·rw[show bc x.L t.ay 0 rp=false from D,aM]at hk;refine⟨rfl,aq,?_⟩;refine ca E (ft hk Q) (fun e t1 hk g3 I L H J G N=>?_) (cB:=ao) (ct:=ao) (cN:=ao);dsimp only[ap.sl,al.ay,al.add]at I L H J G N;intro lb;refine kQ (ks:=ks) (k:=e) 27040 z ae (fun M D=>?_);exact⟨aq,⟨by(try dsimp only);omega,by(try dsimp only);omega⟩,⟨2,t1,ks++[e],M,c⟩,⟨⟨g3.cast (jj _ _ _),D,bg,bg,bg⟩,bg,hk.trans e0.symm⟩,aV,az [0,1,2,3],bg⟩
 ·have ej:j=2:=by omega
  subst ej;replace hk:G3 x.L x.fin K.tv n Y ks t=r:=hk;rw[G3]at hk;refine ma g hk (fun hk E=>?_);refine⟨rfl,aq,?_⟩;refine ca E (ft hk Q) (fun b t2 hk g3 I L H J G N=>?_) (cB:=ao) (ct:=ao) (cN:=(show t.loops<((t.i+1:Nat):Int)/\t.bn<((t.i+1:Nat):Int) by omega));dsimp only[ap.sl,al.ay,al.add]at I L H J G N;rw[iM]at hk;intro lb;refine kQ (ks:=ks) (k:=b) 30040 z ae (fun M D=>?_)
  repeat (refine⟨aq,?_⟩)
  refine bO e_ ⟨x,t2,⟨26,.empty,0,ks++[b],Y⟩,M⟩ ⟨by have:=g3.cap hl;dsimp only[al.ay,al.add]at*;omega,D⟩ fun _ _=>?_;exact ew (e0.trans hk.symm)
theorem ahm:aC 46 (bm (fun(p:Int)=>ap.di p)):=fo 138 Tryz.func46 ahl [] ahk ahj bA [] ahn
end
section
open Go
def yg(L:List bh)(pos:Int)(aJ:List Int):PM (List Int):=do
 let t <-ez
 ic {t with bn:=t.bn-1}
 cg ⟨33,.empty,0,aJ,pos⟩
def GM(L:List bh)(fin:Int)(tv:Nat->ByteArray)(f:Nat)(ks:List Int)(seen:Bool)(num:Nat)(p:Int)(all:List Int):PM (List Int):=do
 let k <-db ⟨34,.empty,num,all,p⟩
 P L fin tv bx f (.d8 (ks++[k]) seen)
def M3(L:List bh)(fin:Int)(tv:Nat->ByteArray)(f:Nat)(ks:List Int)(seen:Bool)(num:Nat)(p:Int)(kc:List Int):PM (List Int):=do
 cr L fin colon
 let all <-P L fin tv bx f (.ek kc)
 GM L fin tv f ks seen num p all
structure ra where
 t:al
 ks:List Int
 r:Row
 seen:Bool
 f:Nat
 c:Nat
structure lZ where
 t:al
 ks:List Int
 r:Row
 seen:Bool
 f:Nat
 c:Nat
 d:Nat
 kc:List Int
 rc:Row
 num:Nat
 p:Int
 f2:Nat
def lZ.ok(d:lZ)(x:cf)(s:al)(os:List Int)(n:Nat):Prop:=PG x d.t (os++d.ks++d.kc)/\bz 3 1 (bB d.ks) d.r/\bz 3 1 (bB d.kc) d.rc/\d.f<=n/\(0<=d.p/\d.p<=x.fin)
def ES(d:ra):=ag (some ⟨d.c,0,none⟩)
def ahe(x:bk Int)(F:ah):Nat->Option Inv:=fun
 |0=>some {X:=ra,P:=fun d=>PG x.x d.t (x.os++d.ks)/\bz 3 1 (bB d.ks) d.r/\d.f<=x.n/\(P x.x.L x.x.fin x.K.tv bx d.f (.d8 d.ks d.seen)>>=yg x.x.L x.t) d.t=bs x.K x.x (x.n+1) (.choose x.t) x.s,mu:=fun d=>d.f,lv:=fun d=>[(0,ag (cu x)),(5,ES d),(6,aj d.seen)],st:=fun d=>[ak x.x d.t,F,(lH d.c 33 .empty 0 d.r x.t),d.r.A]}
 |3=>some {X:=lZ,gh:=some ⟨Nat,fun d=>d.f⟩,P:=fun d=>d.ok x.x x.s x.os x.n/\d.t.nodes.length+1<=2*d.t.i/\d.f2<=x.n/\((P x.x.L x.x.fin x.K.tv bx d.f2 (.ek d.kc)>>=GM x.x.L x.x.fin x.K.tv d.f d.ks d.seen d.num d.p)>>=yg x.x.L x.t) d.t=bs x.K x.x (x.n+1) (.choose x.t) x.s,mu:=fun d=>d.f2,lv:=fun d=>[(0,ag (cu x)),(5,ag (some ⟨d.c,0,none⟩)),(6,aj d.seen),(7,ag (some ⟨d.d,0,none⟩))],st:=fun d=>[ak x.x d.t,F,(lH d.c 33 .empty 0 d.r x.t),d.r.A,(lH d.d 34 .empty d.num d.rc d.p),d.rc.A]}
 |_=>none
def ahd(x:bk Int)(F:ah):Nat->Option Inv:=fun
 |14=>some {X:=lZ,gh:=some ⟨Nat,fun d=>d.f⟩,P:=fun d=>d.ok x.x x.s x.os x.n/\(M3 x.x.L x.x.fin x.K.tv d.f d.ks d.seen d.num d.p d.kc>>=yg x.x.L x.t) d.t=bs x.K x.x (x.n+1) (.choose x.t) x.s,mu:=fun _=>0,lv:=fun d=>[(0,.pointer (some ⟨x.x.b,0,none⟩)),(5,.pointer (some ⟨d.c,0,none⟩)),(6,.bool d.seen),(7,.pointer (some ⟨d.d,0,none⟩))],st:=fun d=>[ak x.x d.t,F,lH d.c 33 .empty 0 d.r x.t,d.r.A,lH d.d 34 .empty d.num d.rc d.p,d.rc.A]}
 |_=>none
def ahf(x:bk Int)(a:ah):List (Nat×Nat×OH):=[(1,1,bu (cx x.n 44)),(1,2,.n 2020),(1,5,.n 2050),(1,6,.w (eJ 2050)),(2,1,bu ia),(3,3,c9),(3,7,dV fE),(5,1,bu hZ),(6,1,aW iq),(6,4,.n 7040),(6,5,.w (eJ 7040)),(8,1,bu hZ),(9,1,aR 7040),(9,3,bu (cx x.n 14)),(9,4,.n 10040),(9,5,.o (de 3 1 8) [999] [998]),(9,7,.w [.z00 7040]),(10,1,aW gz),(11,3,c9),(11,7,dV fE),(13,1,.w [.z00 7040]),(7,1,aW kS),(14,1,bu ia),
 (15,1,aW gz),(15,5,aW gz),(15,10,aW gz),(16,1,aR 4),(16,3,bu (cx x.n 17)),(16,4,.n 17040),(16,5,.o (de 3 1 8) [5] [5]),(16,7,.w [.z00 4]),(17,1,aR 2),(17,3,.q (eJ 4)),(17,4,.c fD [0,5] [0]),(17,5,.n 18050),(17,6,.o (de 3 1 8) [3] [3]),(17,8,.w [.z00 2]),(18,3,c9),(18,7,dV fE),(19,1,.q (eJ 2)),(19,2,.c fD [0,3] [0])]
def I8(J:Nat)(x:bk Int):List Value:=[ad 33,ai ⟨#[]⟩,float f64 0,au (bI J) 1 1,ad x.t]
def HU(e0:bk Int)(z:ra):=PG e0.x z.t (e0.os++z.ks)/\bz 3 1 (bB z.ks) z.r/\z.f<=e0.n/\(P e0.x.L e0.x.fin e0.K.tv bx z.f (ap.d8 z.ks z.seen)>>=yg e0.x.L e0.t) z.t=bs e0.K e0.x (e0.n+1) (ap.choose e0.t) e0.s
def rR(z:ra)(e0:bk Int):List Value:=[ad 33,ai ByteArray.empty,float f64 0,au z.r.a z.r.n z.r.cap,ad e0.t]
def Jz(e0:bk Int)(z:ra)(e1:ah):=[(0,ak e0.x z.t),(1,e1),(2,af z.c (rR z e0) 35),(3,z.r.A)]
def Ee(w:cW):List Value:=[ad 34,ai ⟨#[]⟩,float f64 0,au none 0 0,ad (cn w.L w.fin w.i).pos]
def ET(z:iB)(F:ah)(B:ra)(x:bk Int)(u:Nat)(w:cW):=[(0,ak z.x z.s),(1,F),(2,af B.c (rR B x) 35),(3,B.r.A),(7040,af u (Ee w) 35)]
def Pu(z:lZ)(e0:bk Int):=z.ok e0.x e0.s e0.os e0.n/\(M3 e0.x.L e0.x.fin e0.K.tv z.f z.ks z.seen z.num z.p z.kc>>=yg e0.x.L e0.t) z.t=bs e0.K e0.x (e0.n+1) (ap.choose e0.t) e0.s
def y5(z:lZ)(e0:bk Int):List Value:=[ad 33,ai ByteArray.empty,float f64 0,au z.r.a z.r.n z.r.cap,ad e0.t]
def wU(z:lZ):List Value:=[ad 34,ai ByteArray.empty,float f64 z.num,au z.rc.a z.rc.n z.rc.cap,ad z.p]
def uH(e0:bk Int)(z:lZ)(a:ah):=[(0,ak e0.x z.t),(1,a),(2,af z.c (y5 z e0) 35),(3,z.r.A),(4,af z.d (wU z) 35),(5,z.rc.A)]
def Mc(e0:bk Int)(e1:Nat)(a:ah)(v0 v1 v2:Value)(b:St):=∃(z:lZ),(Pu z e0/\z.f=e1)/\(ag (cu e0)=ag (cu e0)/\v0=ag (some ⟨z.c,0,none⟩)/\v1=aj z.seen/\v2=ag (some ⟨z.d,0,none⟩)/\True)/\aE b (uH e0 z a)
def Rg(x:bk Int):List Value:=[ag (cu x),ad 0,ai ⟨#[100,101,102,97,117,108,116]⟩]
def QO(x:bk Int)(h:iB)(F:ah)(B:ra)(u:Nat)(w:cW):=kv (jw x) (aH (ET h F B x u w) []) (fun c b=>ar (bm fun(a:Int)=>ap.choose a) x F (jt c) (ET h F B x u w))
def J9(a:lZ)(x:bk Int)(o:Nat):=(a.ok x.x x.s x.os x.n/\a.t.nodes.length+1<=2*a.t.i/\a.f2<=x.n/\(P x.x.L x.x.fin x.K.tv bx a.f2 (ap.ek a.kc)>>=GM x.x.L x.x.fin x.K.tv a.f a.ks a.seen a.num a.p>>=yg x.x.L x.t) a.t=bs x.K x.x (x.n+1) (ap.choose x.t) x.s)/\a.f=o
def O0(x:bk Int)(s a:lZ):=ag (cu x)=ag (cu x)/\ag (some ⟨s.c,0,none⟩)=ag (some ⟨a.c,0,none⟩)/\aj s.seen=aj a.seen/\ag (some ⟨s.d,0,none⟩)=ag (some ⟨a.d,0,none⟩)/\True
def Q9(F:ah)(n:lZ)(x:bk Int):=[(0,bd),(1,F),(2,af n.c (y5 n x) 35),(3,n.r.A),(4,af n.d (wU n) 35),(5,n.rc.A)]
def SY(e0:bk Int)(e1:ah)(v0 v1:Value)(a:St)(mm:Nat):=∃(z:ra),HU e0 z/\(ag (cu e0)=ag (cu e0)/\v0=ag (some ⟨z.c,0,none⟩)/\v1=aj z.seen/\True)/\aE a (Jz e0 z e1)/\z.f<mm
def HS(n:lZ)(x:bk Int)(F:ah)(B:ra):=true=true/\aw n.c 3/\cz n.d (c7 [ag (cu x),agg ⟨wU n⟩] [ak x.x n.t,n.rc.A] (fun f e=>∀(d:Nat),fz (ba Tryz.f48 17 6) [au n.r.a n.r.n n.r.cap,au (bI d) 1 1] [n.r.A] (aH [(0,ak f.x (f.s.add f.n)),(1,F),(2,af n.c (y5 n x) 35),(3,n.r.A),(4,af n.d (wU n) 35),(5,bd),(18050,af d (oF f) 3)] [3]) (fun c b=>aw n.c 3/\SY x F (ag (some ⟨n.c,0,none⟩)) (aj n.seen) [(0,ak f.x (f.s.add f.n)),(1,F),(2,af n.c [ad 33,ai ByteArray.empty,float f64 0,au b.a b.n b.cap,ad x.t] 35),(3,b.A),(4,af n.d (wU n) 35),(5,bd),(18050,af d (oF f) 3)] B.f)))
theorem ahh(x:bk Int)(F:ah)(hc:aQ.cond (bm (fun(p:Int)=>ap.choose p)) x)(U:aQ.aO (bm (fun(p:Int)=>ap.choose p)) x F):cq x.n 44 (jw x) [ak x.x x.s] (aH [(0,ak x.x x.s),(1,F)] [0]) (fun L K=>∀(J I:Nat),cz I (fZ [ag (cu x),ai ⟨#[123]⟩] [ak L.x K.snd] (aH [(0,ak L.x K.snd),(1,F),(2020,af J (bN K) 3),(2050,af I (I8 J x) 35)] [0]) (fun H G=>T1 (ak H.x H.s.ay) ⟨x.x.b,6,none⟩ (fun E=>dx E/\dK (ba Tryz.f48 3 7) [ag (some ⟨x.x.b,6,none⟩),ad (E+1)] [ak H.x H.s.ay] (fun D C=>(∃(a:ra),HU x a/\(ag (cu x)=ag (cu x)/\ag (bI I)=ag (some ⟨a.c,0,none⟩)/\aj false=aj a.seen/\True)/\aE [(0,ak D.x D.t),(1,F),(2020,af J (bN K) 3),(2050,af I (I8 J x) 35)] (Jz x a F))/\aT fun(B:ra)_=>HU x B->fJ [ag (cu x),ai ⟨#[125]⟩] [ak x.x B.t] (aH (Jz x B F) [0]) (fun z g=>T1 (ak z.x z.s.ay) ⟨x.x.b,6,none⟩ (fun f=>nR f/\dK (ba Tryz.f48 18 7) [ag (some ⟨x.x.b,6,none⟩),ad (f-1)] [ak z.x z.s.ay] (fun e d=>cz B.c (c7 [ag (cu x),agg ⟨rR B x⟩] [ak e.x e.t,B.r.A] (fun c b=>ar (bm fun(a:Int)=>ap.choose a) x F (fq c) [(0,ak c.x (c.s.add c.n)),(1,F),(2,af B.c (rR B x) 35),(3,bd)]))))) (fun z y=>e7 (jw x) (aH [(0,ak z.x z.s),(1,F),(2,af B.c (rR B x) 35),(3,B.r.A)] []) (fun w v=>∀(u:Nat),cz u (∃(t:Nat),fJ [ag (cu x),ai ⟨#[99,97,115,101]⟩] [ak z.x z.s] (aH (ET z F B x u w) [0]) (fun h g=>true=true/\aw u 3/\cq x.n 14 (jw x) [ak h.x h.s.ay] (aH [(0,ak h.x h.s.ay),(1,F),(2,af B.c (rR B x) 35),(3,B.r.A),(7040,af u (Ee w) 35)] [0]) (fun f e=>∀(d:Nat),fz (ba Tryz.f48 9 5) (wH d) [bd] (aH [(0,ak f.x e.snd),(1,F),(2,af B.c (rR B x) 35),(3,B.r.A),(7040,af u (Ee w) 35),(10040,af d (bN e) 3)] [999]) (fun c b=>aw u 3/\Mc x t F (ES B) (aj B.seen) (cE u) [(0,ak f.x e.snd),(1,F),(2,af B.c (rR B x) 35),(3,B.r.A),(998,b.A),(999,bd),(7040,af u [ad 34,ai ⟨#[]⟩,float f64 0,au b.a b.n b.cap,ad (cn w.L w.fin w.i).pos] 35),(10040,af d (bN e) 3)])) (fun f c=>∀(b:Tm),ar (bm fun(a:Int)=>ap.choose a) x F (cd c) [(0,bd),(1,F),(2,af B.c (rR B x) 35),(3,B.r.A),(7040,af u (Ee w) 35)])) (fun h g=>gr (Rg x) (aH (ET h F B x u w) []) (fun f e=>Br (h8 f.p.L (f.p.i+f.a) f.t) (Br (!B.seen) (T1 (ak h.x h.s) ⟨x.x.b,1,none⟩ (fun d=>dx d/\dK (ba Tryz.f48 11 7) [ag (some ⟨x.x.b,1,none⟩),ad (d+1)] [ak h.x h.s] (fun c b=>aw u 2/\Mc x t F (ES B) (aj true) (cE u) [(0,ak c.x c.t),(1,F),(2,af B.c (rR B x) 35),(3,B.r.A),(7040,af u [ad 34,ai ⟨#[]⟩,float f64 4607182418800017408,au none 0 0,ad (cn w.L w.fin w.i).pos] 35)]))) (QO x h F B u w)) (QO x h F B u w)))/\aT fun(s:lZ)_=>(Pu s x/\s.f=t)->fZ [ag (cu x),ai ⟨#[58]⟩] [ak x.x s.t] (aH (uH x s F) [0]) (fun q p=>∃(o:Nat),(∃(a:lZ),J9 a x o/\O0 x s a/\aE [(0,ak q.x q.s.ay),(1,F),(2,af s.c (y5 s x) 35),(3,s.r.A),(4,af s.d (wU s) 35),(5,s.rc.A)] (uH x a F))/\aT fun(n:lZ)_=>J9 n x o->gr [ag (cu x),ad 0,ai ⟨#[99,97,115,101]⟩] (aH (uH x n F) []) (fun l k=>Br (!h8 l.p.L (l.p.i+l.a) l.t) (gr (Rg x) (aH (uH x n F) []) (fun j i=>Br (!h8 j.p.L (j.p.i+j.a) j.t) (gr [ag (cu x),ad 0,ai ⟨#[125]⟩] (aH (uH x n F) []) (fun h g=>Br (!h8 h.p.L (h.p.i+h.a) h.t) (true=true/\aw n.d 3/\cq x.n 17 (zr x) [ak x.x n.t] (aH (uH x n F) [0]) (fun f e=>∀(d:Nat),fz (ba Tryz.f48 16 5) [au n.rc.a n.rc.n n.rc.cap,au (bI d) 1 1] [n.rc.A] (aH [(0,ak f.x e.snd),(1,F),(2,af n.c (y5 n x) 35),(3,n.r.A),(4,af n.d (wU n) 35),(5,n.rc.A),(17040,af d (bN e) 3)] [5]) (fun c b=>aw n.d 3/\∃(a:lZ),J9 a x o/\O0 x n a/\aE [(0,ak f.x e.snd),(1,F),(2,af n.c (y5 n x) 35),(3,n.r.A),(4,af n.d [ad 34,ai ByteArray.empty,float f64 n.num,au b.a b.n b.cap,ad n.p] 35),(5,b.A),(17040,af d (bN e) 3)] (uH x a F)/\a.f2<n.f2)) (fun f c=>∀(b:Tm),ar (bm fun(a:Int)=>ap.choose a) x F (cd c) (Q9 F n x))) (HS n x F B))) (HS n x F B))) (HS n x F B))) (fun q b=>ar (bm fun(a:Int)=>ap.choose a) x F (gg q) (Q9 F s x)))))))) (fun H b=>ar (bm fun(a:Int)=>ap.choose a) x F (gg H) [(0,bd),(1,F),(2020,af J (bN K) 3),(2050,af I (I8 J x) 35)]))) (fun L b=>ar (bm fun(a:Int)=>ap.choose a) x F (cd b) (hT F)):=by
 delta cq cu jw ja fZ bN bI I8 T1 dx lg lh dK HU rR Jz fJ nR kg kh c7 jQ fq ib e7 Ee ET kF fz wH Pu y5 wU uH Mc ES cE cd pE pF gr Rg kv jt QO J9 O0 zr Q9 oF SY HS gg hT dL aH ak aw cz ad ai aj ag au af bd ax aT;obtain⟨K,x,s,os,n,tp⟩:=x;obtain⟨ih,hK,hG,hp,DH,yx,ho⟩:=hc;replace U:cA K x F:=U;replace ho:bs K x (n+1) (.choose tp) s≠.out:=ho;dsimp only at ih hK hG hp DH yx⊢;obtain⟨r,e0⟩:∃r,bs K x (n+1) (.choose tp) s=r:=⟨_,rfl⟩;rw[e0]at ho;have hk:=e0;unfold bs at hk;rw[P]at hk;have hl:=hK.len;refine ca hG (ft hk ho) (fun c0 t1 hk g1 X Z W Y V x1=>?_) (cB:=ao) (ct:=ao) (cN:=ao);dsimp only[ap.sl,al.ay,al.add]at X Z W Y V x1;intro lb c
 repeat (refine⟨aq,?_⟩)
 refine ma g1 hk (fun hk R=>?_);rw[lU,zN]at hk;have b2:=hG.b;have b3:=R.i;refine⟨_,ef fun _=>rfl,⟨by show-9223372036854775808<=t1.bn+1;omega,by show t1.bn+1<=9223372036854775807;have:=hG.i;omega⟩,gk rfl rfl rfl,rfl,⟨x,t1.ay,⟨t1.ay.i,t1.ay.nodes,t1.ay.bw,t1.ay.loops,t1.ay.bn+1⟩,6,_⟩,rfl,rfl,⟨fun _=>rfl,rfl,bg,rfl,rfl⟩,ao,fun _ _=>?_⟩;have g3:PG x ⟨t1.ay.i,t1.ay.nodes,t1.ay.bw,t1.ay.loops,t1.ay.bn+1⟩ (os++[c0]):=R.No (t:=⟨t1.ay.i,t1.ay.nodes,t1.ay.bw,t1.ay.loops,t1.ay.bn+1⟩) rfl rfl R.f R.l ⟨by show 0<=t1.bn+1;omega,by show t1.bn+1<=((t1.i+1:Nat):Int);omega⟩;refine⟨⟨⟨_,[c0],kB lb [c0],false,n,c⟩,⟨g3,jo lb [c0],bT _,hk.trans e0.symm⟩,aV,az [0,1,2050,2020]⟩,?_⟩;clear hk g3 R b3 g1 X Z W Y V x1;rintro⟨t,ks,r',seen,f,c⟩ js ⟨g,m,O,hk⟩;dsimp only at g m O hk⊢;rw[e0]at hk;obtain _|f:=f
 ·exact absurd hk (fun e=>ho (e.symm.trans (by rw[P];rfl)))
 replace O:f<=n:=Nat.le_of_succ_le O;rw[P,eO]at hk;have A6:=o4 g hl;have S:=g.nd;refine br jI ⟨x,t,rc⟩ ⟨hl,g.i⟩ (U.ls.sub (bP 1)) ⟨fun _ q=>?_,fun _ q=>?_⟩
 ·rw[kJ q,aU,ie,yg,lU,zN,iM]at hk;have R:=g.is q;have b1:=g.b;have b4:=g.i;refine⟨_,ef fun _=>rfl,⟨by show-9223372036854775808<=t.bn-1;omega,by show t.bn-1<=9223372036854775807;omega⟩,gk rfl rfl rfl,rfl,⟨x,t.ay,⟨t.ay.i,t.ay.nodes,t.ay.bw,t.ay.loops,t.ay.bn-1⟩,6,_⟩,rfl,rfl,⟨fun _=>rfl,rfl,bg,rfl,rfl⟩,ao,fun _ _=>?_⟩
  repeat (refine⟨aq,?_⟩)
  have cap:=R.cap hl;refine bO e_ ⟨x,⟨t.ay.i,t.ay.nodes,t.ay.bw,t.ay.loops,t.ay.bn-1⟩,⟨33,.empty,0,ks,tp⟩,r'⟩ ⟨by show t.ay.nodes.length<=4194304;omega,m⟩ fun _ _=>?_;exact ew (e0.trans hk.symm)
 rw[lj q,aM,eO,m6,eO]at hk;refine br kz (x.p t) hl (U.ls.da 0 1 aL aL rfl rfl) fun _ _ d=>?_
 repeat (refine⟨aq,?_⟩)
 have M:=PG.hp hK t;refine⟨f,?_,?_⟩
 ·skip
  refine br jI ⟨x,t,zP⟩ ⟨hl,g.i⟩ (U.ls.sub (bP 1)) ⟨fun _ q=>?_,fun _ q=>?_⟩
  ·rw[kJ q,aU,eO]at hk;have R:=g.is q;refine⟨rfl,aq,?_⟩;refine ca R ((zF hk ho).up O) (fun k t1 hk g3 ig3 ng3 fg3 lg3 bg3 vg3=>?_) (cB:=ao) (ct:=ao) (cN:=ao);dsimp only[ap.sl,al.ay,al.add]at ig3 ng3 fg3 lg3 bg3 vg3;intro lb;refine kQ (ks:=[]) (k:=k) 10040 yK (by simp only[eS,sJ,List.length_nil];omega) (fun r2 Q=>?_);exact⟨aq,⟨t1,ks,r',seen,f,c,d,[k],r2,0,(aB x.L x.fin t).pos,0⟩,⟨⟨⟨g3,m,Q,O,M⟩,hk.trans e0.symm⟩,rfl⟩,aV,az [0,1,2,3,7040,998]⟩
  rw[lj q,aM,eO,eO,Fm]at hk;refine br jK ⟨x.p t,0,qI⟩ ⟨hl,by have:=g.i;show t.i<=1048576;omega,bg⟩ (U.ls.da 0 1 aL aL rfl rfl) fun _ _=>?_;refine aG (fun h1=>?_) (fun h1=>?_)
  ·refine aG (fun Q=>?_) (fun Q=>?_)
   ·have hi:=iZ (show bc x.L t 0 qI=true from h1);rw[show bc x.L t 0 qI=true from h1,show(!seen)=true from Q,Bool.and_self,aU,eO,kK,ie]at hk;have R:=g.step hi;refine⟨_,ef fun _=>rfl,mP (i:=t.i) (gR g.i hl),gk rfl rfl rfl,rfl,⟨x,t,t.ay,1,_⟩,rfl,rfl,⟨fun _=>rfl,rfl,bg,rfl,rfl⟩,ao,fun _ _=>?_⟩;exact⟨aq,⟨t.ay,ks,r',true,f,c,d,[],dG,kZ,(aB x.L x.fin t).pos,0⟩,⟨⟨⟨R.cast (dv _).symm,m,yK,O,M⟩,hk.trans e0.symm⟩,rfl⟩,aV,az [0,1,2,3,7040,999]⟩
   ·rw[show(!seen)=false from Q,j5,aM,Fl]at hk;exact br pe (x.p t) hl (U.ls.da 0 1 aL aL rfl rfl) fun _ _=>⟨.inr (_,_),⟨_,e0.trans hk.symm⟩,rfl,az [1]⟩
  ·rw[show bc x.L t 0 qI=false from h1,jk,aM,Fl]at hk;exact br pe (x.p t) hl (U.ls.da 0 1 aL aL rfl rfl) fun _ _=>⟨.inr (_,_),⟨_,e0.trans hk.symm⟩,rfl,az [1]⟩
 clear hk A6 S q g m O M;rintro⟨t,ks,r',seen,f',c,d,kc,x0,num,p,f2⟩ js ⟨⟨⟨g,m,N,O,M⟩,hk⟩,e1⟩;have e1:f'=f:=e1;subst e1;dsimp only at g m N O M hk⊢;rw[e0,M3,eO]at hk;have S:=g.nd;refine ma g hk (fun hk R=>?_);refine⟨f',⟨⟨t.ay,ks,r',seen,f',c,d,kc,x0,num,p,f'⟩,⟨⟨⟨R,m,N,O,M⟩,by show t.nodes.length+1<=2*(t.i+1);omega,O,hk.trans e0.symm⟩,rfl⟩,aV,az [0,1,2,3,4,5]⟩,?_⟩;clear hk;clear hk g m N M R S O;rintro⟨t,ks,r',seen,f,c,d,kc,x0,num,p,f2⟩ js ⟨⟨⟨g,m,N,O,M⟩,S,T,hk⟩,e1⟩;have e1:f=f':=e1;subst e1;dsimp only at g m N O M S T hk⊢;rw[e0]at hk;obtain _|f2:=f2
 ·exact absurd hk (fun e=>ho (e.symm.trans (by rw[P];rfl)))
 replace T:f2<=n:=Nat.le_of_succ_le T;rw[P,eO,eO,lU]at hk;have hf0:=O;have A6:=o4 (os:=os) (ks:=ks++kc) (g.cast (jj _ _ _)) hl;rw[eS]at A6;have MZ:x.L.length<=1048576/\t.i<=1048576/\0<=1048576:=⟨hl,gR g.i hl,df _⟩;refine kL (A:=(!bc x.L t 0 zP&&(!bc x.L t 0 qI&& !bc x.L t 0 rc))=false) (fun kx=>br jK ⟨x.p t,0,zP⟩ MZ (U.ls.da 0 1 aL aL rfl rfl) fun _ _=>aG (fun h1=>br jK ⟨x.p t,0,qI⟩ MZ (U.ls.da 0 1 aL aL rfl rfl) fun _ _=>aG (fun Q=>br jK ⟨x.p t,0,rc⟩ MZ (U.ls.da 0 1 aL aL rfl rfl) fun _ _=>aG (fun h3=>?_) (fun h3=>kx ?_)) (fun Q=>kx ?_)) (fun h1=>kx ?_)) (fun hx=>?_)
 ·rw[show(!bc x.L t 0 zP)=true from h1,show(!bc x.L t 0 qI)=true from Q,show(!bc x.L t 0 rc)=true from h3,Bool.and_self,Bool.and_self,aU,eO]at hk;refine⟨rfl,aq,?_⟩;replace O:=T;refine ca g ((ft hk ho).up O) (fun k t1 hk g1 X Z W Y V x1=>?_) (cB:=ao) (ct:=ao) (cN:=ao);dsimp only[ap.sl,al.ay,al.add]at X Z W Y V x1;intro lb;refine br (jE 1 8 rfl rfl rfl rfl rfl rfl rfl (by decide)) ⟨x0,bB kc,some ⟨lb,0,none⟩,1,1,bB [k]⟩ ⟨N,rfl,uo _,u5 N ae,u6 N ae,fun h=>nomatch h⟩ (vb 17040 rfl) fun r2 Q=>?_;replace Q:bz 3 1 (bB (kc++[k])) r2:=by rw[um];exact Q.1
  exact⟨aq,⟨t1,ks,r',seen,f,c,d,kc++[k],r2,num,p,f2⟩,⟨⟨⟨g1.cast (jj _ _ _),m,Q,hf0,M⟩,by(try dsimp only);omega,T,(eO.trans hk).trans e0.symm⟩,rfl⟩,aV,az [0,1,2,3,4,5],io _⟩
 ·rw[show(!bc x.L t 0 rc)=false from h3,j5,j5]
 ·rw[show(!bc x.L t 0 qI)=false from Q,jk,j5]
 ·rw[show(!bc x.L t 0 zP)=false from h1,jk]
 rw[hx,aM,ie,GM,eO,xi]at hk;refine⟨rfl,aq,?_⟩
 repeat (refine⟨aq,?_⟩)
 have g3:=PG.node (n:=⟨34,.empty,num,kc,p⟩) g M S;refine bO e_ ⟨x,t,⟨34,.empty,num,kc,p⟩,x0⟩ ⟨by have:=g.cap hl;dsimp only[al.ay,al.add]at*;omega,N⟩ fun _ _=>?_;intro lb;refine kQ (ks:=ks) (k:=(t.nodes.length:Int)) 18050 m ae (fun r2 Q=>?_);exact⟨aq,⟨_,_,r2,seen,f,c⟩,⟨g3.cast (jj _ _ _),Q,O,hk.trans e0.symm⟩,aV,az [0,1,2,3],io _⟩
theorem ahg:aC 48 (bm (fun(p:Int)=>ap.choose p)):=fo 96 Tryz.func48 ahf [] ahe ahd bA [] ahh
end
section
open Go
def gX(L:List bh)(fin:Int)(tv:Nat->ByteArray)(f:Nat)(x:bh)(body:Bool):Option (PM (List Int)):=
 bif bC x.text lk then some (do
  let v <-one (P L fin tv bx f .vars)
  dP L fin
  ret [v])
 else bif cI [pP,pN,pO,qJ] x.text then some (P L fin tv bx f (.simple x))
 else bif bC x.text r7 then some (bif !body then iU L fin else P L fin tv bx f (.func 35))
 else bif bC x.text zS then some (do
  eE
  let c <-one (P L fin tv bx f .paren)
  let a <-one (P L fin tv bx f (.ci false))
  let g <-cH L zQ
  let ks <-bif g then P L fin tv bx f (.ci false) else ret []
  cg ⟨24,.empty,0,[c,a]++ks,x.pos⟩)
 else bif bC x.text zU then some (do
  eE
  let c <-one (P L fin tv bx f .paren)
  let b <-one (P L fin tv bx f .loop)
  cg ⟨25,.empty,0,[c,b],x.pos⟩)
 else bif bC x.text zR then some (do
  eE
  P L fin tv bx f (.di x.pos))
 else bif bC x.text zT then some (do
  eE
  P L fin tv bx f (.dy x.pos))
 else bif bC x.text Cx then some (do
  eE
  P L fin tv bx f (.choose x.pos))
 else none
def ll(L:List bh)(fin:Int)(tv:Nat->ByteArray)(f:Nat)(x:bh)(body:Bool)(s:al):PR (List Int):=match gX L fin tv f x body with
 |some m=>m s
 |none=>.out
def xt:List ByteArray:=[pP,pN,pO,qJ]
def vk:List ByteArray:=[zS,zU,zR,zT,Cx]
structure jD where
 K:bQ
 x:cf
 s:al
 os:List Int
 n:Nat
 d:bh
 body:Bool
def kM:aQ where
 X:=jD
 Y:=(Int×al×Bool) ⊕ (Int×Int)
 args x:=[.pointer (some ⟨x.x.b,0,none⟩),.agg #[.int .i64 x.d.kind,.string x.d.text,.float .f64 x.d.num,.int .i64 x.d.pos,.bool x.d.aD],.bool x.body]
 pre x:=[ak x.x x.s]
 cond x:=(∀bJ,aC bJ (cx x.n bJ))/\gM x.K x.x/\PG x.x x.s x.os/\x.d=aB x.x.L x.x.fin x.s/\x.s.i<x.x.L.length/\(gX x.x.L x.x.fin x.K.tv x.n x.d x.body=none\/ll x.x.L x.x.fin x.K.tv x.n x.d x.body x.s≠.out)
 aO x F:=cA x.K x.x F
 bZ x y:=match y with
  | .inl a=>(a.2.2=true/\ll x.x.L x.x.fin x.K.tv x.n x.d x.body x.s= .ok [a.1] a.2.1)\/(a.2.2=false/\gX x.x.L x.x.fin x.K.tv x.n x.d x.body=none/\a.2.1=x.s)
  | .inr a=>∃t,ll x.x.L x.x.fin x.K.tv x.n x.d x.body x.s= .stop a.1 a.2 t
 val x y:=match y with
  | .inl a=>.returned (.tuple #[.int .i64 a.1,.bool a.2.2])
  | .inr a=>.panicked [⟨iz a.1 a.2,false,false⟩]
 post x y:=match y with
  | .inl a=>[ak x.x a.2.1]
  | .inr _=>[]
 eM _ _ _ hs h:=cA.sub hs h
 sum:=some (hU (Int×al×Bool) (Int×Int))
def lJ(x:jD):Option Addr:=some ⟨x.x.b,0,none⟩
def ak7(x:jD)(F:ah):Nat->Option Inv:=fun
 |11=>some {X:=iC,P:=fun _=>bC x.d.text lk=false,mu:=fun _=>0,lv:=fun d=>[(0,ag (lJ x)),(2,aj x.body),(4,oD d),(12,ai x.d.text),(20,aj (cI xt x.d.text))],st:=fun d=>[ak x.x x.s,F,DQ d.c x.d]}
 |21=>some {X:=iC,P:=fun _=>bC x.d.text lk=false/\cI xt x.d.text=false/\bC x.d.text r7=false,mu:=fun _=>0,lv:=fun d=>[(0,ag (lJ x)),(4,oD d),(36,aj (cI vk x.d.text))],st:=fun d=>[ak x.x x.s,F,DQ d.c x.d]}
 |_=>none
def ak8(x:jD)(a:ah):List (Nat×Nat×OH):=[(0,0,.n 1000),(1,1,aR 1000),(4,1,bu (cx x.n 41)),(5,1,bu qB),(11,1,.q (eJ 2)),(11,2,bu (cx x.n 42)),(14,1,aW kS),(15,1,bu (cx x.n 43)),(21,3,c9),(21,7,dV fE),(22,1,aR 2),
 (24,1,bu (cx x.n 44)),(24,2,.n 25020),(25,2,bu (cx x.n 17)),(25,3,.n 26030),(25,4,.o (de 3 1 8) [25020] [25020]),(26,1,bu hZ),(27,2,bu (cx x.n 17)),(27,3,.n 28030),(27,4,.o (de 3 1 8) [25020] [25020]),(28,3,aR 2),(28,5,.c fD [0,25020] [0]),
 (30,1,bu (cx x.n 44)),(30,2,.n 31020),(31,2,bu (cx x.n 45)),(31,3,.n 32030),(31,4,.o (de 3 1 8) [31020] [31020]),(32,3,aR 2),(32,5,.c fD [0,31020] [0]),
 (34,2,aR 2),(34,3,bu (cx x.n 46)),(36,2,aR 2),(36,3,bu (cx x.n 47)),(37,2,aR 2),(37,3,bu (cx x.n 48))]
theorem G_(a:ByteArray)(l:List ByteArray)(t:ByteArray):cI (a::l) t=(bC t a||cI l t):=rfl
theorem Ha(t:ByteArray):cI [] t=false:=rfl
def zz(x:jD):List Value:=[ag (lJ x)]
def q6(e0:jD):List Value:=[ad e0.d.kind,ai e0.d.text,float f64 e0.d.num,ad e0.d.pos,aj e0.d.aD]
def BP(x:jD)(F:ah)(z:Nat):=[(0,ak x.x x.s),(1,F),(1000,af z (q6 x) 53)]
def px(e0:jD)(e1:ah)(z:iC):=[(0,ak e0.x e0.s),(1,e1),(2,af z.c (q6 e0) 53)]
def Db(e0:jD)(e1:ah)(v0 v1:Value)(a:St):=∃(z:iC),bC e0.d.text lk=false/\(ag (lJ e0)=ag (lJ e0)/\aj e0.body=aj e0.body/\v0=ag (uV z)/\ai e0.d.text=ai e0.d.text/\v1=aj (cI xt e0.d.text)/\True)/\aE a (px e0 e1 z)
def Cf(x:jD)(F:ah)(y:iC):nj->Int×al->Prop:=fun c a=>ar kM x F (ax (tuple ⟨[ad a.fst,aj true]⟩)) [(0,ak c.x a.snd),(1,F),(2,af y.c (q6 x) 53)]
def BC(x:jD)(F:ah)(y:iC):nj->Int×Int->Prop:=fun c b=>ar kM x F (cd b) [(0,bd),(1,F),(2,af y.c (q6 x) 53)]
def Ji(x:jD):=x.d.text.toList==(ByteArray.mk #[105,102]).toList
def QB(e0:jD):=bC e0.d.text lk=false/\cI xt e0.d.text=false/\bC e0.d.text r7=false
def Ar(e0:jD)(e1:ah)(v0 v1:Value)(a:St):=∃(z:iC),QB e0/\(ag (lJ e0)=ag (lJ e0)/\v0=ag (uV z)/\v1=aj (cI vk e0.d.text)/\True)/\aE a (px e0 e1 z)
def I3(x:jD):=x.d.text.toList==(ByteArray.mk #[119,104,105,108,101]).toList
def Jb(x:jD):=x.d.text.toList==(ByteArray.mk #[102,111,114]).toList
def Jc(x:jD):=x.d.text.toList==(ByteArray.mk #[116,114,121]).toList
def BK(s:sq)(F:ah)(v:iC)(x:jD):=aH [(0,ak s.x s.t),(1,F),(2,af v.c (q6 x) 53)] [0]
def Qb(x:jD)(c:Row):List Value:=[ag (lJ x),agg ⟨[ad 24,ai ⟨#[]⟩,float f64 0,au c.a c.n c.cap,ad x.d.pos]⟩]
def I4(b:n6):=ax (tuple ⟨[ad ↑b.s.nodes.length,aj true]⟩)
def JS(x:jD):List Value:=[ag (lJ x),ad x.d.pos]
theorem ak_(x:jD)(F:ah)(hc:kM.cond x)(Y:kM.aO x F):∀(z:Nat),aw z 1/\Br (x.d.text.toList==(ByteArray.mk #[118,97,114]).toList) (cq x.n 41 (zz x) [ak x.x x.s] (aH (BP x F z) [0]) (fun d c=>Aq (zz x) [ak d.x c.snd] (aH [(0,ak d.x c.snd),(1,F),(1000,af z (q6 x) 53)] [0]) (fun b a=>ar kM x F (ax (tuple ⟨[ad c.fst,aj true]⟩)) [(0,ak b.x a),(1,F),(1000,af z (q6 x) 53)]) (fun b a=>ar kM x F (dL a 60) [(0,bd),(1,F),(1000,af z (q6 x) 53)])) (fun d b=>ar kM x F (cd b) [(0,bd),(1,F),(1000,af z (q6 x) 53)])) (Br (x.d.text.toList==ER.toList) (Db x F (cE z) (aj (x.d.text.toList==ER.toList)) (BP x F z)) (Br (x.d.text.toList==EY.toList) (Db x F (cE z) (aj (x.d.text.toList==EY.toList)) (BP x F z)) (Br (x.d.text.toList==EM.toList) (Db x F (cE z) (aj (x.d.text.toList==EM.toList)) (BP x F z)) (Db x F (cE z) (aj (x.d.text.toList==(ByteArray.mk #[116,104,114,111,119]).toList)) (BP x F z))))/\aT fun(y:iC)_=>bC x.d.text lk=false->Br (cI xt x.d.text) (cz y.c (cq x.n 42 [ag (lJ x),agg ⟨q6 x⟩] [ak x.x x.s] (aH (px x F y) [0]) (Cf x F y) (BC x F y))) (Br (x.d.text.toList==(ByteArray.mk #[102,117,110,99,116,105,111,110]).toList) (Br (!x.body) (kv (zz x) (aH (px x F y) []) (fun b a=>ar kM x F (jt b) (px x F y))) (cq x.n 43 [ag (lJ x),ad 35] [ak x.x x.s] (aH (px x F y) [0]) (Cf x F y) (BC x F y))) (Br (Ji x) (Ar x F (oD y) (aj (Ji x)) (px x F y)) (Br (I3 x) (Ar x F (oD y) (aj (I3 x)) (px x F y)) (Br (Jb x) (Ar x F (oD y) (aj (Jb x)) (px x F y)) (Br (Jc x) (Ar x F (oD y) (aj (Jc x)) (px x F y)) (Ar x F (oD y) (aj (x.d.text.toList==(ByteArray.mk #[115,119,105,116,99,104]).toList)) (px x F y)))))/\aT fun(v:iC)_=>QB x->Br (cI vk x.d.text) (T1 (ak x.x x.s) ⟨x.x.b,1,none⟩ (fun t=>dx t/\dK (ba Tryz.f32 21 7) [ag (some ⟨x.x.b,1,none⟩),ad (t+1)] [ak x.x x.s] (fun s r=>aw v.c 1/\Br (Ji x) (cq x.n 44 (zz x) [ak s.x s.t] (BK s F v x) (fun q p=>∀(o:Nat),cq x.n 17 [ag (lJ x),aj false] [ak q.x p.snd] (aH [(0,ak q.x p.snd),(1,F),(2,af v.c (q6 x) 53),(25020,af o (bN p) 3)] [0]) (fun n m=>∀(l:Nat),fz (ba Tryz.f32 25 4) [au (bI o) 1 1,au (bI l) 1 1] [af o (bN p) 3] (aH [(0,ak n.x m.snd),(1,F),(2,af v.c (q6 x) 53),(25020,af o (bN p) 3),(26030,af l (bN m) 3)] [25020]) (fun k j=>fJ [ag (lJ x),ai ⟨#[101,108,115,101]⟩] [ak n.x m.snd] (aH [(0,ak n.x m.snd),(1,F),(2,af v.c (q6 x) 53),(25020,j.A),(26030,af l (bN m) 3)] [0]) (fun i h=>cq x.n 17 [ag (lJ x),aj false] [ak i.x i.s.ay] (aH [(0,ak i.x i.s.ay),(1,F),(2,af v.c (q6 x) 53),(25020,j.A),(26030,af l (bN m) 3)] [0]) (fun g f=>∀(e:Nat),fz (ba Tryz.f32 27 4) (tg j e) [j.A] (aH [(0,ak g.x f.snd),(1,F),(2,af v.c (q6 x) 53),(25020,j.A),(26030,af l (bN m) 3),(28030,af e (bN f) 3)] [25020]) (fun d c=>aw v.c 3/\c7 (Qb x c) [ak g.x f.snd,c.A] (fun b a=>ar kM x F (I4 b) [(0,ak b.x (b.s.add b.n)),(1,F),(2,af v.c (q6 x) 53),(25020,bd),(26030,af l (bN m) 3),(28030,af e (bN f) 3)]))) (fun g b=>ar kM x F (cd b) [(0,bd),(1,F),(2,af v.c (q6 x) 53),(25020,j.A),(26030,af l (bN m) 3)])) (fun i c=>aw v.c 3/\c7 (Qb x j) [ak i.x i.s,j.A] (fun b a=>ar kM x F (I4 b) [(0,ak b.x (b.s.add b.n)),(1,F),(2,af v.c (q6 x) 53),(25020,bd),(26030,af l (bN m) 3)])))) (fun n b=>ar kM x F (cd b) [(0,bd),(1,F),(2,af v.c (q6 x) 53),(25020,af o (bN p) 3)])) (fun q b=>ar kM x F (cd b) [(0,bd),(1,F),(2,af v.c (q6 x) 53)])) (Br (I3 x) (cq x.n 44 (zz x) [ak s.x s.t] (BK s F v x) (fun j i=>∀(h:Nat),cq x.n 45 (zz x) [ak j.x i.snd] (aH [(0,ak j.x i.snd),(1,F),(2,af v.c (q6 x) 53),(31020,af h (bN i) 3)] [0]) (fun g f=>∀(e:Nat),fz (ba Tryz.f32 31 4) [au (bI h) 1 1,au (bI e) 1 1] [af h (bN i) 3] (aH [(0,ak g.x f.snd),(1,F),(2,af v.c (q6 x) 53),(31020,af h (bN i) 3),(32030,af e (bN f) 3)] [31020]) (fun d c=>aw v.c 3/\c7 [ag (lJ x),agg ⟨[ad 25,ai ⟨#[]⟩,float f64 0,au c.a c.n c.cap,ad x.d.pos]⟩] [ak g.x f.snd,c.A] (fun b a=>ar kM x F (I4 b) [(0,ak b.x (b.s.add b.n)),(1,F),(2,af v.c (q6 x) 53),(31020,bd),(32030,af e (bN f) 3)]))) (fun g b=>ar kM x F (cd b) [(0,bd),(1,F),(2,af v.c (q6 x) 53),(31020,af h (bN i) 3)])) (fun j b=>ar kM x F (cd b) [(0,bd),(1,F),(2,af v.c (q6 x) 53)])) (Br (Jb x) (aw v.c 3/\cq x.n 46 (JS x) [ak s.x s.t] (BK s F v x) (Cf x F v) (BC x F v)) (Br (Jc x) (aw v.c 3/\cq x.n 47 (JS x) [ak s.x s.t] (BK s F v x) (Cf x F v) (BC x F v)) (aw v.c 3/\cq x.n 48 (JS x) [ak s.x s.t] (BK s F v x) (Cf x F v) (BC x F v)))))))) (ar kM x F JU (px x F v))))):=by
 delta cq lJ zz q6 BP mn lN Aq cd ER uV px Db bI cE EY EM Cf BC ib kv jt Ji QB Ar oD I3 Jb Jc T1 dx lg lh dK BK bN kF fz ja fJ tg kg kh c7 Qb I4 JS JU dL aH ak aw cz ad ai aj ag au af bd ax aT;obtain⟨K,x,s,os,n,d,body⟩:=x;obtain⟨ih,hK,I,hd,hi,E⟩:=hc;replace Y:cA K x F:=Y;dsimp only at ih hK I hd hi E⊢;have hl:=hK.len;have hp:0<=d.pos/\d.pos<=x.fin:=by rw[hd];exact PG.hp hK s
 obtain⟨r,e0⟩:∃r,ll x.L x.fin K.tv n d body s=r:=⟨_,rfl⟩;clear hd;intro c
 repeat (refine⟨aq,?_⟩)
 refine aG (fun w=>?_) (fun w=>?_)
 ·rw[fS]at w;replace w:bC d.text lk=true:=w;have hk:=e0;simp only[ll,gX,w,aU,aM]at hk;have G:r≠.out:=by
   rcases E with h|h
   ·exfalso;revert h;simp[gX,w]
   ·rw[e0]at h;exact h
  refine ca I (ft hk G) (fun v t1 hk g1 NE N1 fg1 NS Z Se=>?_) (cB:=ao) (ct:=hi) (cN:=ao);dsimp only[ap.sl,al.ay,al.add]at NE N1 fg1 NS Z Se;refine br RY ⟨x,t1⟩ ⟨hl,g1.i⟩ (Y.ls.sub (bP 1)) ⟨fun u q=>?_,fun p q=>⟨.inr (p,60),⟨_,e0.trans (hk.symm.trans (R8 q))⟩,rfl,az [1]⟩⟩;rw[R7 q,zM]at hk;exact GS (e0.trans hk.symm)
 rw[fS]at w;replace w:bC d.text lk=false:=w;refine⟨?_,?_⟩
 ·refine aG (fun e1=>⟨⟨c⟩,w,⟨rfl,rfl,rfl,rfl,?_,ao⟩,az [0,1,1000]⟩) (fun e1=>aG (fun e2=>⟨⟨c⟩,w,⟨rfl,rfl,rfl,rfl,?_,ao⟩,az [0,1,1000]⟩) (fun e2=>aG (fun e3=>⟨⟨c⟩,w,⟨rfl,rfl,rfl,rfl,?_,ao⟩,az [0,1,1000]⟩) (fun e3=>⟨⟨c⟩,w,⟨rfl,rfl,rfl,rfl,?_,ao⟩,az [0,1,1000]⟩)))
  all_goals
   simp only[fS]at*;show bool (bC d.text _)=bool (cI xt d.text);congr 1;simp only[xt,G_,Ha,pP,pN,pO,qJ, *,Bool.true_or,Bool.false_or,Bool.or_false]
 rintro⟨c⟩ js-;refine aG (fun C=>?_) (fun C=>?_)
 ·have A:cI [pP,pN,pO,qJ] d.text=true:=C;have hk:=e0;simp only[ll,gX,w,A,aU,aM]at hk;have G:r≠.out:=by
   rcases E with h|h
   ·exfalso;revert h;simp[gX,w,A]
   ·rw[e0]at h;exact h
  repeat (refine⟨aq,?_⟩)
  exact ca I (ty hk G) (fun _ _ q _ _ _ _ _ _ _=>⟨.inl (_,_,true),.inl ⟨rfl,e0.trans q.symm⟩,rfl,az [0,1]⟩) (cB:=hp) (ct:=hi) (cN:=ao)
 replace C:cI xt d.text=false:=C;refine aG (fun B=>?_) (fun B=>?_)
 ·rw[fS]at B;replace B:bC d.text r7=true:=B;have A:cI [pP,pN,pO,qJ] d.text=false:=C;have hk:=e0;simp only[ll,gX,w,A,B,aU,aM]at hk;have G:r≠.out:=by
   rcases E with h|h
   ·exfalso;revert h;simp[gX,w,A,B]
   ·rw[e0]at h;exact h
  refine aG (fun hb=>?_) (fun hb=>?_)
  ·rw[hb,aU]at hk;exact br pe (x.p s) hl (Y.ls.da 0 1 aL aL rfl rfl) fun _ _=>⟨.inr (_,_),⟨_,e0.trans hk.symm⟩,rfl,az [1]⟩
  ·rw[hb,aM]at hk;exact ca I (ty hk G) (fun _ _ q _ _ _ _ _ _ _=>⟨.inl (_,_,true),.inl ⟨rfl,e0.trans q.symm⟩,rfl,az [0,1]⟩) (cB:=ao) (ct:=hi) (cN:=ao)
 rw[fS]at B;replace B:bC d.text r7=false:=B;refine⟨?_,?_⟩
 ·refine aG (fun e1=>⟨⟨c⟩,⟨w,C,B⟩,⟨rfl,rfl,?_,ao⟩,az [0,1,2]⟩) (fun e1=>aG (fun e2=>⟨⟨c⟩,⟨w,C,B⟩,⟨rfl,rfl,?_,ao⟩,az [0,1,2]⟩) (fun e2=>aG (fun e3=>⟨⟨c⟩,⟨w,C,B⟩,⟨rfl,rfl,?_,ao⟩,az [0,1,2]⟩) (fun e3=>aG (fun e4=>⟨⟨c⟩,⟨w,C,B⟩,⟨rfl,rfl,?_,ao⟩,az [0,1,2]⟩) (fun e4=>⟨⟨c⟩,⟨w,C,B⟩,⟨rfl,rfl,?_,ao⟩,az [0,1,2]⟩))))
  all_goals
   simp only[fS]at*;show bool (bC d.text _)=bool (cI vk d.text);congr 1;simp only[vk,G_,Ha,zS,zU,zR,zT,Cx, *,Bool.true_or,Bool.false_or,Bool.or_false]
 rintro⟨c⟩ js-;refine aG (fun H=>?_) (fun H=>?_);rotate_left
 ·have H:cI vk d.text=false:=H;simp only[vk,G_,Ha,Bool.or_false,Bool.or_eq_false_iff]at H;obtain⟨a1,a2,a3,a4,a5⟩:=H;have hm:gX x.L x.fin K.tv n d body=none:=by unfold gX;rw[w,show cI [pP,pN,pO,qJ] d.text=false from C,B,a1,a2,a3,a4,a5];rfl
  exact⟨.inl (0,s,false),.inr ⟨rfl,hm,rfl⟩,rfl,az [0,1]⟩
 have g1:=I.step hi;have ad1:=I.l;have ad2:=I.b;refine⟨_,ef fun _=>rfl,mP (i:=s.i) (gR I.i hl),gk rfl rfl rfl,rfl,⟨x,s,s.ay,1,_⟩,rfl,rfl,⟨fun _=>rfl,rfl,bg,rfl,rfl⟩,ao,fun _ _=>?_⟩;refine⟨aq,?_⟩;have A:cI [pP,pN,pO,qJ] d.text=false:=C;refine aG (fun a1=>?_) (fun a1=>?_)
 ·rw[fS]at a1;replace a1:bC d.text zS=true:=a1;have hk:=e0;simp only[ll,gX,w,A,B,a1,aU,aM]at hk;have G:r≠.out:=by
   rcases E with h|h
   ·exfalso;revert h;simp[gX,w,A,B,a1]
   ·rw[e0]at h;exact h
  rw[kK]at hk;refine ca g1 (ft hk G) (fun D t1 hk g2 O T M R J V=>?_) (cB:=ao) (ct:=ao) (cN:=ao);dsimp only[ap.sl,al.ay,al.add]at O T M R J V;intro lb;refine ca g2 (ft hk G) (fun a t2 hk g3 P U N S L W=>?_) (cB:=ao) (ct:=ao) (cN:=ao);dsimp only[ap.sl,al.ay,al.add]at P U N S L W;intro Q;refine br (jE 1 8 rfl rfl rfl rfl rfl rfl rfl (by decide)) ⟨kB lb [D],bB [D],some ⟨Q,0,none⟩,1,1,bB [a]⟩ ⟨jo lb [D],rfl,uo _,u5 (jo lb [D]) aL,u6 (jo lb [D]) aL,fun h=>nomatch h⟩ (vb 26030 rfl) fun X C=>?_;replace C:bz 3 1 (bB ([D]++[a])) X:=by rw[um];exact C.1
  refine br jI ⟨x,t2,zQ⟩ ⟨hl,g3.i⟩ (Y.ls.sub (bP 1)) ⟨fun _ q=>?_,fun _ q=>?_⟩
  ·rw[kJ q,aU]at hk;have g4:=g3.is q;refine ca g4 (zF hk G) (fun b t3 hk g5 NF N2 Nn NT x0 Sf=>?_) (cB:=ao) (ct:=ao) (cN:=ao);dsimp only[ap.sl,al.ay,al.add]at NF N2 Nn NT x0 Sf;rw[iM]at hk;intro lb3;refine br (jE 1 8 rfl rfl rfl rfl rfl rfl rfl (by decide)) ⟨X,bB ([D]++[a]),some ⟨lb3,0,none⟩,1,1,bB [b]⟩ ⟨C,rfl,uo _,u5 C aL,u6 C aL,fun h=>nomatch h⟩ (vb 28030 rfl) fun r3 B=>?_;replace B:bz 3 1 (bB ([D,a]++[b])) r3:=by rw[show[D,a]++[b]=[D]++[a]++[b]from rfl,um];exact B.1
   refine⟨aq,?_⟩;refine bO e_ ⟨x,t3,⟨24,.empty,0,[D,a]++[b],d.pos⟩,r3⟩ ⟨by have:=g5.cap hl;dsimp only[al.ay,al.add]at*;omega,B⟩ fun _ _=>?_;exact GS (e0.trans hk.symm)
  ·rw[lj q,aM,ie,iM]at hk;refine⟨aq,?_⟩;refine bO e_ ⟨x,t2,⟨24,.empty,0,[D,a]++[],d.pos⟩,X⟩ ⟨by have:=g3.cap hl;dsimp only[al.ay,al.add]at*;omega,C⟩ fun _ _=>?_;exact GS (e0.trans hk.symm)
 rw[fS]at a1;replace a1:bC d.text zS=false:=a1;refine aG (fun a2=>?_) (fun a2=>?_)
 ·rw[fS]at a2;replace a2:bC d.text zU=true:=a2;have hk:=e0;simp only[ll,gX,w,A,B,a1,a2,aU,aM]at hk;have G:r≠.out:=by
   rcases E with h|h
   ·exfalso;revert h;simp[gX,w,A,B,a1,a2]
   ·rw[e0]at h;exact h
  rw[kK]at hk;refine ca g1 (ft hk G) (fun D t1 hk g2 O T M R J V=>?_) (cB:=ao) (ct:=ao) (cN:=ao);dsimp only[ap.sl,al.ay,al.add]at O T M R J V;intro lb;refine ca g2 (ft hk G) (fun a t2 hk g3 P U N S L W=>?_) (cB:=ao) (ct:=ao) (cN:=(show t1.loops<(t1.i:Int)/\t1.bn<(t1.i:Int) by omega));dsimp only[ap.sl,al.ay,al.add]at P U N S L W;rw[iM]at hk;intro Q;refine br (jE 1 8 rfl rfl rfl rfl rfl rfl rfl (by decide)) ⟨kB lb [D],bB [D],some ⟨Q,0,none⟩,1,1,bB [a]⟩ ⟨jo lb [D],rfl,uo _,u5 (jo lb [D]) aL,u6 (jo lb [D]) aL,fun h=>nomatch h⟩ (vb 32030 rfl) fun X C=>?_;replace C:bz 3 1 (bB ([D]++[a])) X:=by rw[um];exact C.1
  refine⟨aq,?_⟩;refine bO e_ ⟨x,t2,⟨25,.empty,0,[D,a],d.pos⟩,X⟩ ⟨by have:=g3.cap hl;dsimp only[al.ay,al.add]at*;omega,C⟩ fun _ _=>?_;exact GS (e0.trans hk.symm)
 rw[fS]at a2;replace a2:bC d.text zU=false:=a2;refine aG (fun a3=>?_) (fun a3=>?_)
 ·rw[fS]at a3;replace a3:bC d.text zR=true:=a3;have hk:=e0;simp only[ll,gX,w,A,B,a1,a2,a3,aU,aM]at hk;have G:r≠.out:=by
   rcases E with h|h
   ·exfalso;revert h;simp[gX,w,A,B,a1,a2,a3]
   ·rw[e0]at h;exact h
  rw[kK]at hk;refine⟨aq,?_⟩;exact ca g1 (ty hk G) (fun _ _ q _ _ _ _ _ _ _=>⟨.inl (_,_,true),.inl ⟨rfl,e0.trans q.symm⟩,rfl,az [0,1]⟩) (cB:=hp) (ct:=ao) (cN:=ao)
 rw[fS]at a3;replace a3:bC d.text zR=false:=a3;refine aG (fun a4=>?_) (fun a4=>?_)
 ·rw[fS]at a4;replace a4:bC d.text zT=true:=a4;have hk:=e0;simp only[ll,gX,w,A,B,a1,a2,a3,a4,aU,aM]at hk;have G:r≠.out:=by
   rcases E with h|h
   ·exfalso;revert h;simp[gX,w,A,B,a1,a2,a3,a4]
   ·rw[e0]at h;exact h
  rw[kK]at hk;refine⟨aq,?_⟩;exact ca g1 (ty hk G) (fun _ _ q _ _ _ _ _ _ _=>⟨.inl (_,_,true),.inl ⟨rfl,e0.trans q.symm⟩,rfl,az [0,1]⟩) (cB:=hp) (ct:=ao) (cN:=ao)
 rw[fS]at a4;replace a4:bC d.text zT=false:=a4;have a5:bC d.text Cx=true:=by
  have H:cI vk d.text=true:=H;simpa only[vk,G_,Ha,a1,a2,a3,a4,Bool.false_or,Bool.or_false]using H
 have hk:=e0;simp only[ll,gX,w,A,B,a1,a2,a3,a4,a5,aU,aM]at hk;have G:r≠.out:=by
  rcases E with h|h
  ·exfalso;revert h;simp[gX,w,A,B,a1,a2,a3,a4,a5]
  ·rw[e0]at h;exact h
 rw[kK]at hk;refine⟨aq,?_⟩;exact ca g1 (ty hk G) (fun _ _ q _ _ _ _ _ _ _=>⟨.inl (_,_,true),.inl ⟨rfl,e0.trans q.symm⟩,rfl,az [0,1]⟩) (cB:=hp) (ct:=ao) (cN:=ao)
theorem ak9:aC 32 kM:=fo 106 Tryz.func32 ak8 [] aY ak7 bA [] ak_
def Fk(L:List bh)(fin:Int)(tv:Nat->ByteArray)(f:Nat)(pos:Int):PM (List Int):=do
 let e <-one (P L fin tv bx f .aZ)
 dP L fin
 cg ⟨20,.empty,0,[e],pos⟩
theorem aj5{L:List bh}{fin:Int}{tv:Nat->ByteArray}{f:Nat}{body:Bool}{s:al}(a:bc L s 0 lc=false)(b:bc L s 0 dm=false)(c:((aB L fin s).kind==2)=true):P L fin tv bx (f+1) (.ci body) s=(match gX L fin tv f (aB L fin s) body with|some m=>m s|none=>Fk L fin tv f (aB L fin s).pos s):=by
 rw[P,m6,lU,a,aM,b,aM,c,aU];unfold gX;cases bC (aB L fin s).text lk with
 |true=>rfl
 |false=>
  rw[aM,aM];cases cI [pP,pN,pO,qJ] (aB L fin s).text with
  |true=>rfl
  |false=>
   rw[aM,aM];cases bC (aB L fin s).text r7 with
   |true=>rfl
   |false=>
    rw[aM,aM];cases bC (aB L fin s).text zS with
    |true=>rfl
    |false=>
     rw[aM,aM];cases bC (aB L fin s).text zU with
     |true=>rfl
     |false=>
      rw[aM,aM];cases bC (aB L fin s).text zR with
      |true=>rfl
      |false=>
       rw[aM,aM];cases bC (aB L fin s).text zT with
       |true=>rfl
       |false=>
        rw[aM,aM];cases bC (aB L fin s).text Cx with
        |true=>rfl
        |false=>rfl
def air(x:bk Bool)(F:ah):Nat->Option Inv:=fun
 |12=>some {X:=iC,P:=fun _=>Fk x.x.L x.x.fin x.K.tv x.n (aB x.x.L x.x.fin x.s).pos x.s=bs x.K x.x (x.n+1) (.ci x.t) x.s,mu:=fun _=>0,lv:=fun d=>[(0,ag (i_ x)),(5,oD d)],st:=fun d=>[ak x.x x.s,F,DQ d.c (aB x.x.L x.x.fin x.s)]}
 |_=>none
def ais(x:bk Bool)(a:ah):List (Nat×Nat×OH):=[(1,1,aW iq),(1,2,.n 2020),(1,3,.w (eJ 2020)),(2,1,aW gz),(3,1,bu (cx x.n 30)),(4,1,aW gz),(5,1,bu vV),(6,3,c9),(6,7,dV fE),(8,1,aR 2020),(9,1,.q (eJ 2020)),(9,3,bu kM),(12,1,bu (cx x.n 14)),(13,1,bu qB),(14,2,.n 15020),(14,4,aR 2),(14,6,.c fD [0,15020] [0])]
def ze(x:bk Bool)(F:ah)(o:Nat)(q:cW):=[(0,ak x.x x.s),(1,F),(2020,af o (q0 q) 53)]
def zh(e0:bk Bool):List Value:=[ad (aB e0.x.L e0.x.fin e0.s).kind,ai (aB e0.x.L e0.x.fin e0.s).text,float f64 (aB e0.x.L e0.x.fin e0.s).num,ad (aB e0.x.L e0.x.fin e0.s).pos,aj (aB e0.x.L e0.x.fin e0.s).aD]
def Me(e0:bk Bool)(e1:ah)(v0:Value)(a:St):=∃(z:iC),Fk e0.x.L e0.x.fin e0.K.tv e0.n (aB e0.x.L e0.x.fin e0.s).pos e0.s=bs e0.K e0.x (e0.n+1) (ap.ci e0.t) e0.s/\(ag (i_ e0)=ag (i_ e0)/\v0=ag (uV z)/\True)/\aE a [(0,ak e0.x e0.s),(1,e1),(2,af z.c (zh e0) 53)]
theorem aiu(x:bk Bool)(F:ah)(W:aQ.cond (bm (fun(b:Bool)=>ap.ci b)) x)(A:aQ.aO (bm (fun(b:Bool)=>ap.ci b)) x F):e7 [ag (i_ x)] (aH [(0,ak x.x x.s),(1,F)] []) (fun q p=>∀(o:Nat),cz o (gr [ag (i_ x),ad 0,ai ⟨#[123]⟩] (aH (ze x F o q) []) (fun n m=>Br (h8 n.p.L (n.p.i+n.a) n.t) (cq x.n 30 [ag (i_ x),aj false] [ak x.x x.s] (aH (ze x F o q) [0]) (fun c b=>ar (bm fun(a:Bool)=>ap.ci a) x F (jv b) [(0,ak c.x b.snd),(1,F),(2020,af o (q0 q) 53)]) (fun c b=>ar (bm fun(a:Bool)=>ap.ci a) x F (cd b) [(0,bd),(1,F),(2020,af o (q0 q) 53)])) (gr [ag (i_ x),ad 0,ai ⟨#[59]⟩] (aH (ze x F o q) []) (fun l k=>Br (h8 l.p.L (l.p.i+l.a) l.t) (Da [ag (i_ x)] [ak x.x x.s] (aH (ze x F o q) [0]) (fun f e=>T1 (ak f.x (f.s.add ⟨(36:Int),ByteArray.empty,0,[],(aB f.x.L f.x.fin f.s).pos⟩)) ⟨x.x.b,1,none⟩ (fun d=>dx d/\dK (ba Tryz.f17 6 7) [ag (some ⟨x.x.b,1,none⟩),ad (d+1)] [ak f.x (f.s.add ⟨(36:Int),ByteArray.empty,0,[],(aB f.x.L f.x.fin f.s).pos⟩)] (fun c b=>ar (bm fun(a:Bool)=>ap.ci a) x F (ax (ad ↑f.s.nodes.length)) [(0,ak c.x c.t),(1,F),(2020,af o (q0 q) 53)])))) ((aw o 0/\Br ((cn q.L q.fin q.i).kind==2) (cz o (aC 32 kM/\true=true/\∃(c:jD),[ag (i_ x),agg ⟨q0 q⟩,aj x.t]=[ag (lJ c),agg ⟨q6 c⟩,aj c.body]/\[ak x.x x.s]=[ak c.x c.s]/\((∀(a:FuncId),aC a (cx c.n a))/\gM c.K c.x/\PG c.x c.s c.os/\c.d=aB c.x.L c.x.fin c.s/\c.s.i<c.x.L.length/\(gX c.x.L c.x.fin c.K.tv c.n c.d c.body=none\/ll c.x.L c.x.fin c.K.tv c.n c.d c.body c.s≠PR.out))/\cA c.K c.x (aH (ze x F o q) [0])/\(∀(b:Int×al×Bool),(b.snd.snd=true/\ll c.x.L c.x.fin c.K.tv c.n c.d c.body c.s=PR.ok [b.fst] b.snd.fst\/b.snd.snd=false/\gX c.x.L c.x.fin c.K.tv c.n c.d c.body=none/\b.snd.fst=c.s)->Br b.snd.snd (ar (bm fun(a:Bool)=>ap.ci a) x F (ax (ad b.fst)) [(0,ak c.x b.snd.fst),(1,F),(2020,af o (q0 q) 53)]) (Me x F (cE o) [(0,ak c.x b.snd.fst),(1,F),(2020,af o (q0 q) 53)]))/\∀(b:Int×Int),(∃(a:al),ll c.x.L c.x.fin c.K.tv c.n c.d c.body c.s=PR.stop b.fst b.snd a)->ar (bm fun(a:Bool)=>ap.ci a) x F (cd b) [(0,bd),(1,F),(2020,af o (q0 q) 53)])) (Me x F (cE o) (ze x F o q)))/\aT fun(j:iC)_=>Fk x.x.L x.x.fin x.K.tv x.n (aB x.x.L x.x.fin x.s).pos x.s=bs x.K x.x (x.n+1) (ap.ci x.t) x.s->cq x.n 14 [ag (i_ x)] [ak x.x x.s] (aH [(0,ak x.x x.s),(1,F),(2,af j.c (zh x) 53)] [0]) (fun h g=>Aq [ag (i_ x)] [ak h.x g.snd] (aH [(0,ak h.x g.snd),(1,F),(2,af j.c (zh x) 53)] [0]) (fun f e=>∀(d:Nat),aw j.c 3/\c7 [ag (i_ x),agg ⟨[ad 20,ai ⟨#[]⟩,float f64 0,au (bI d) 1 1,ad (aB x.x.L x.x.fin x.s).pos]⟩] [ak f.x e,af d (bN g) 3] (fun c b=>ar (bm fun(a:Bool)=>ap.ci a) x F (fq c) [(0,ak c.x (c.s.add c.n)),(1,F),(2,af j.c (zh x) 53),(15020,bd)])) (fun f b=>ar (bm fun(a:Bool)=>ap.ci a) x F (dL b 60) [(0,bd),(1,F),(2,af j.c (zh x) 53)])) (fun h b=>ar (bm fun(a:Bool)=>ap.ci a) x F (cd b) [(0,bd),(1,F),(2,af j.c (zh x) 53)]))))))):=by
 delta ib e7 i_ pE pF gr q0 ze cq jv cd mn lN Da T1 dx lg lh dK lJ q6 uV zh Me bI cE Aq kg kh c7 bN jQ fq dL aH ak aw cz ad ai aj ag au af bd ax aT;obtain⟨K,x,s,os,n,t⟩:=x;obtain⟨U,E,z,hp,N,M,C⟩:=W;replace A:cA K x F:=A;replace C:bs K x (n+1) (.ci t) s≠.out:=C;dsimp only at U E z hp N M⊢;obtain⟨r,e0⟩:∃r,bs K x (n+1) (.ci t) s=r:=⟨_,rfl⟩;rw[e0]at C;have hk:=e0;unfold bs at hk;rw[P]at hk;have hl:=E.len;rw[m6,lU]at hk;refine br kz (x.p s) hl (A.ls.da 0 1 aL aL rfl rfl) fun _ _ c=>?_
 repeat (refine⟨aq,?_⟩)
 refine br jK ⟨x.p s,0,lc⟩ ⟨hl,by have:=z.i;show s.i<=1048576;omega,bg⟩ (A.ls.da 0 1 aL aL rfl rfl) fun _ _=>?_;refine aG (fun B=>?_) (fun B=>?_)
 ·rw[show bc x.L s 0 lc=true from B,aU]at hk;exact ca z (ty hk C) (fun _ _ q _ _ _ _ _ _ _=>ew (e0.trans q.symm)) (cB:=ao) (ct:=ao) (cN:=ao)
 replace B:bc x.L s 0 lc=false:=B;rw[B,aM]at hk;refine br jK ⟨x.p s,0,dm⟩ ⟨hl,by have:=z.i;show s.i<=1048576;omega,bg⟩ (A.ls.da 0 1 aL aL rfl rfl) fun _ _=>?_;refine aG (fun v=>?_) (fun v=>?_)
 ·replace v:bc x.L s 0 dm=true:=v;rw[v,aU,Kt,kK,zM]at hk;have hi:=iZ v;have X:=z.cap hl;have J:=z.i;refine br GW ⟨x,s⟩ ⟨hl,bg⟩ (A.ls.sub (bP 1)) fun _ _=>?_;refine⟨_,ef fun _=>rfl,mP (i:=s.i) (gR J hl),gk rfl rfl rfl,rfl,⟨x,s.add ⟨36,.empty,0,[],(aB x.L x.fin s).pos⟩,(s.add ⟨36,.empty,0,[],(aB x.L x.fin s).pos⟩).ay,1,_⟩,rfl,rfl,⟨fun _=>rfl,rfl,bg,rfl,rfl⟩,ao,fun _ _=>?_⟩;exact ew (e0.trans hk.symm)
 replace v:bc x.L s 0 dm=false:=v;rw[v,aM]at hk;refine⟨⟨aq,aG (fun w=>?_) (fun w=>?_)⟩,?_⟩
 ·replace w:((aB x.L x.fin s).kind==2)=true:=w;have hi:s.i<x.L.length:=v6 w (by decide);have e1:=aj5 (L:=x.L) (fin:=x.fin) (tv:=K.tv) (f:=n) (body:=t) B v w;have Y:gX x.L x.fin K.tv n (aB x.L x.fin s) t=none\/ll x.L x.fin K.tv n (aB x.L x.fin s) t s≠.out:=by
   cases D:gX x.L x.fin K.tv n (aB x.L x.fin s) t with
   |none=>exact .inl rfl
   |some m=>
    rw[D]at e1;refine .inr fun e=>C ?_;rw[ll,D]at e;rw[<-e0,bs,e1];exact e
  have T:∀{y:PR (List Int)},ll x.L x.fin K.tv n (aB x.L x.fin s) t s=y->y≠.out->bs K x (n+1) (.ci t) s=y:=fun{y}e Z=>by
   unfold bs;rw[e1];unfold ll at e;cases D:gX x.L x.fin K.tv n (aB x.L x.fin s) t with
   |none=>rw[D]at e;exact absurd e.symm Z
   |some m=>rw[D]at e;exact e
  repeat (refine⟨aq,?_⟩)
  refine br ak9 ⟨K,x,s,os,n,aB x.L x.fin s,t⟩ ⟨U,E,z,rfl,hi,Y⟩ (A.sub (bP 1)) ⟨fun a q=>aG (fun I=>?_) (fun I=>?_),fun a⟨u,q⟩=>⟨.inr a,⟨u,T q (fun e=>nomatch e)⟩,rfl,az [1]⟩⟩
  ·rcases q with⟨_,q⟩| ⟨q,_⟩
   ·exact⟨.inl (a.1,a.2.1),T q (fun e=>nomatch e),rfl,az [0,1]⟩
   ·rw[I]at q;cases q
  ·rcases q with⟨q,_⟩| ⟨_,q,e⟩
   ·rw[I]at q;cases q
   ·obtain⟨k,u,b⟩:=a;have e:u=s:=e;subst e;refine⟨⟨c⟩,?_,aV,az [0,1,2020]⟩;have q:gX x.L x.fin K.tv n (aB x.L x.fin u) t=none:=q;rw[q]at e1;exact e1.symm
 ·replace w:((aB x.L x.fin s).kind==2)=false:=w;rw[w,aM]at hk;exact⟨⟨c⟩,hk.trans e0.symm,aV,az [0,1,2020]⟩
 clear hk;rintro⟨c⟩ js hk;rw[e0,Fk]at hk;refine ca z (ft hk C) (fun e t1 hk g1 O R H Q G S=>?_) (cB:=ao) (ct:=ao) (cN:=ao);dsimp only[ap.sl,al.ay,al.add]at O R H Q G S;refine br RY ⟨x,t1⟩ ⟨hl,g1.i⟩ (A.ls.sub (bP 1)) ⟨fun u q=>?_,fun p q=>⟨.inr (p,60),⟨_,e0.trans (hk.symm.trans (R8 q))⟩,rfl,az [1]⟩⟩;rw[R7 q,iM]at hk;obtain⟨V,-⟩:=PG.pK E g1 q;intro lb;refine⟨aq,?_⟩;refine bO e_ ⟨x,u,⟨20,.empty,0,[e],(aB x.L x.fin s).pos⟩,kB lb [e]⟩ ⟨by have:=V.cap hl;dsimp only[al.ay,al.add]at*;omega,jo lb [e]⟩ fun _ _=>?_;exact ew (e0.trans hk.symm)
theorem ait:aC 17 (bm (fun(b:Bool)=>ap.ci b)):=fo 53 Tryz.func17 ais [] aY air bA [] aiu
theorem Of:∀(n:Nat)(bJ:FuncId),aC bJ (cx n bJ)
 |0,bJ=>⟨fun q F I w a e hs=>absurd rfl a.2.2.2.2.2.2⟩
 |n+1,bJ=>⟨fun q F I w a e hs=>by
  have f:=Of n;obtain⟨K,x,s,os,tag⟩:=q;have c:tag.bJ=some bJ:=a.2.2.1;cases tag with
  |aZ=>cases c;exact(mi acA (fun tag h=>by cases tag <;> first|exact⟨(),rfl⟩|cases h) f).h _ F I w a e hs
  |cond=>cases c;exact(mi abw (fun tag h=>by cases tag <;> first|exact⟨(),rfl⟩|cases h) f).h _ F I w a e hs
  |level m=>cases c;exact(mi ahO (fun tag h=>by cases tag <;> first|exact⟨_,rfl⟩|cases h) f).h _ F I w a e hs
  |unary=>cases c;exact(mi akx (fun tag h=>by cases tag <;> first|exact⟨(),rfl⟩|cases h) f).h _ F I w a e hs
  |dD=>cases c;exact(mi aa9 (fun tag h=>by cases tag <;> first|exact⟨(),rfl⟩|cases h) f).h _ F I w a e hs
  |suffix=>cases c;exact(mi ah_ (fun tag h=>by cases tag <;> first|exact⟨(),rfl⟩|cases h) f).h _ F I w a e hs
  |dk=>cases c;exact(mi ah4 (fun tag h=>by cases tag <;> first|exact⟨(),rfl⟩|cases h) f).h _ F I w a e hs
  |func k=>cases c;exact(mi ahs (fun tag h=>by cases tag <;> first|exact⟨_,rfl⟩|cases h) f).h _ F I w a e hs
  |block b=>cases c;exact(mi ag9 (fun tag h=>by cases tag <;> first|exact⟨_,rfl⟩|cases h) f).h _ F I w a e hs
  |paren=>cases c;exact(mi aic (fun tag h=>by cases tag <;> first|exact⟨(),rfl⟩|cases h) f).h _ F I w a e hs
  |vars=>cases c;exact(mi aiE (fun tag h=>by cases tag <;> first|exact⟨(),rfl⟩|cases h) f).h _ F I w a e hs
  |loop=>cases c;exact(mi afF (fun tag h=>by cases tag <;> first|exact⟨(),rfl⟩|cases h) f).h _ F I w a e hs
  |di p=>cases c;exact(mi ahm (fun tag h=>by cases tag <;> first|exact⟨_,rfl⟩|cases h) f).h _ F I w a e hs
  |dy p=>cases c;exact(mi aiw (fun tag h=>by cases tag <;> first|exact⟨_,rfl⟩|cases h) f).h _ F I w a e hs
  |choose p=>cases c;exact(mi ahg (fun tag h=>by cases tag <;> first|exact⟨_,rfl⟩|cases h) f).h _ F I w a e hs
  |simple d=>cases c;exact(mi aip (fun tag h=>by cases tag <;> first|exact⟨_,rfl⟩|cases h) f).h _ F I w a e hs
  |ci b=>cases c;exact(mi ait (fun tag h=>by cases tag <;> first|exact⟨_,rfl⟩|cases h) f).h _ F I w a e hs
  |_=>cases c⟩
end
section
open Go
def R0(ab:List Int)(ks:List Int)(v:Int):List Int:=ks.foldl (fun a k=>a.set k.toNat v) ab
def p8(ns:List cj):Nat->List Int->Bool
 |0,_=>false
 |i+1,ab=>bif decide (ab.getD i 0>=48) then true else p8 ns i (R0 ab (((ns[i]?).map (·.aJ)).getD []) (ab.getD i 0+1))
def lA(ns:List cj):Bool:=p8 ns ns.length (List.replicate ns.length 0)
def kO(ns:List cj)(vs:List Value):Prop:=pT (fun x v=>∃a n cap,v= .slice a n cap/\jd 1 (bB x.aJ) a n) ns vs
variable{k:Int}{ns:List cj}{vs:List Value}
theorem xG.pure{I:a_}(h:xG I ns vs):kO ns vs:=pT.mono (fun _ _⟨a,n,cap,e,hs,_⟩=>⟨a,n,cap,e,hs⟩) h
theorem GD{α β:Type}{R:α->β->Prop}:∀{l:List α}{m:List β},pT R l m->∀(i:Nat)(a:α),l[i]?=some a->∃b,m[i]?=some b/\R a b
 |a::l,b::m,h,0,c,e=>by
  have e:a=c:=by simpa using e
  subst e;exact⟨b,rfl,h.1⟩
 |a::l,b::m,h,i+1,c,e=>by
  obtain⟨d,f,g⟩:=GD h.2 i c (by simpa using e);exact⟨d,by simpa using f,g⟩
 | [],_,_,i,c,e=>by simp at e
 |_::_,[],h,_,_,_=>h.elim
theorem NJ{i j:Nat}{d:cj}{b o n cap:Nat}(hd:ns[i]?=some d)(m:vs[i]?=some (.slice (some ⟨b,o,none⟩) n cap))(hk:d.aJ[j]?=some k):aP (fR ns vs) ⟨b,o+j,none⟩ (.int .i64 k):=⟨fun I h s l g=>by
 obtain⟨v,e,p,r,c,e1,q,f⟩:=GD (show xG I ns vs from g) i d hd;rw[m]at e;cases e;cases e1;have a:a_.le I h:=l;have:=TA a (f ⟨b,o,none⟩ rfl j (.int .i64 k) (by unfold bB;rw[fP,hk];rfl));rw[pa]at this;exact this⟩
structure n4 where
 x:cf
 s:al
 y:eP
 os:List Int
def nQ(x:n4):Option Addr:=some ⟨x.x.b,0,none⟩
def J4(x:n4):=af x.x.b [au x.x.la x.x.L.length x.x.lc,ad x.s.i,ad x.x.fin,au x.y.r.a x.y.r.n x.y.r.cap,ad x.s.bw,ad x.s.loops,ad x.s.bn] 43
def yn:aQ where
 X:=n4
 args x:=[ag (nQ x)]
 pre x:=[J4 x,x.y.r.A,fR x.s.nodes x.y.vs]
 cond x:=x.y.ok x.s.nodes/\kO x.s.nodes x.y.vs/\bR x.x.fin x.s x.os/\x.s.nodes.length<=4194304
 val x _:=ax (aj (lA x.s.nodes))
 post x _:=[J4 x,x.y.r.A,fR x.s.nodes x.y.vs]
structure o0 where
 i:Nat
 ab:List Int
 b:Nat
 j:Nat
 a:Option Addr
 n:Nat
 cap:Nat
 d:cj
def ti(d:o0):Option Addr:=some ⟨d.b,0,none⟩
def EX(d:o0):=af d.b (bB d.ab) 3
def acj(x:n4)(F:ah):Nat->Option Inv:=fun
 |0=>some {X:=o0,P:=fun d=>d.i<=x.s.nodes.length/\d.ab.length=x.s.nodes.length/\(∀k∈d.ab,0<=k/\k<=48)/\p8 x.s.nodes d.i d.ab=lA x.s.nodes,mu:=fun d=>d.i,lv:=fun d=>[(0,ag (nQ x)),(3,au (ti d) x.s.nodes.length x.s.nodes.length),(4,ad ((d.i:Int)-1))],st:=fun d=>[J4 x,x.y.r.A,fR x.s.nodes x.y.vs,F,EX d]}
 |2=>some {X:=o0,gh:=some ⟨Nat,fun d=>d.i⟩,P:=fun d=>x.s.nodes[d.i]?=some d.d/\x.y.vs[d.i]?=some (.slice d.a d.n d.cap)/\jd 1 (bB d.d.aJ) d.a d.n/\d.j<=d.n/\d.ab.length=x.s.nodes.length/\(∀k∈d.ab,0<=k/\k<=48)/\d.ab.getD d.i 0<48/\p8 x.s.nodes d.i (R0 d.ab (d.d.aJ.drop d.j) (d.ab.getD d.i 0+1))=lA x.s.nodes,mu:=fun d=>d.n-d.j,lv:=fun d=>[(0,ag (nQ x)),(3,au (ti d) x.s.nodes.length x.s.nodes.length),(4,ad d.i),(35,au d.a d.n d.cap),(36,ad d.n),(37,ad d.j)],st:=fun d=>[J4 x,x.y.r.A,fR x.s.nodes x.y.vs,F,EX d]}
 |_=>none
theorem NH{l:List Int}{i:Nat}(h:l[i]?=some k):(bB l)[i]?=some (.int .i64 k):=by unfold bB;rw[fP,h];rfl
theorem aeD(l:List Int)(i:Nat)(k:Int):(bB l).set i (.int .i64 k)=bB (l.set i k):=by unfold bB;rw[List.map_set]
theorem alx(n:Nat):ik [.int .i64 0] n=bB (List.replicate n 0):=by rw[XE];unfold bB;simp
def H8(b:o0)(x:n4):=b.i<=x.s.nodes.length/\b.ab.length=x.s.nodes.length/\(∀(a:Int),a∈b.ab->0<=a/\a<=48)/\p8 x.s.nodes b.i b.ab=lA x.s.nodes
def uD(x:n4):List Value:=[au x.x.la x.x.L.length x.x.lc,ad ↑x.s.i,ad x.x.fin,au x.y.r.a x.y.r.n x.y.r.cap,ad x.s.bw,ad x.s.loops,ad x.s.bn]
def uU(x:n4)(F:ah)(b:o0):=[(0,af x.x.b (uD x) 43),(1,x.y.r.A),(2,eT (Kf.rest x.s.nodes x.y.vs)),(3,F),(4,af b.b (bB b.ab) 3)]
def JY(x:n4)(b:o0)(h:Nat):=(x.s.nodes[b.i]?=some b.d/\x.y.vs[b.i]?=some (au b.a b.n b.cap)/\jd 1 (bB b.d.aJ) b.a b.n/\b.j<=b.n/\b.ab.length=x.s.nodes.length/\(∀(a:Int),a∈b.ab->0<=a/\a<=48)/\b.ab.getD b.i (0:Int)<(48:Int)/\p8 x.s.nodes b.i (R0 b.ab (List.drop b.j b.d.aJ) (b.ab.getD b.i (0:Int)+(1:Int)))=lA x.s.nodes)/\b.i=h
theorem ack(x:n4)(F:ah)(hc:yn.cond x)(hr:yn.aO x F):aw x.x.b 3/\e5 Tryz.prog (ba Tryz.f22 1 5) (uw (3:TypeId) [ad 0] 8)/\true=true/\∃(q:FM),[ad ↑x.y.r.n,ad ↑x.y.r.n]=[ad q.n,ad q.c]/\([]:List ah)=[]/\(0<=q.n/\q.n<=q.c/\q.c*(↑(8:Nat):Int)<=281474976710656/\q.c<=9223372036854775807)/\True/\∀(p:Nat),True->aw x.x.b 3/\((-9223372036854775808:Int)<=(x.y.r.n:Int)-1/\(x.y.r.n:Int)-1<=(9223372036854775807:Int))/\(∃(b:o0),H8 b x/\(ag (nQ x)=ag (nQ x)/\au (bI p) q.n.toNat q.c.toNat=au (ti b) x.s.nodes.length x.s.nodes.length/\ad ((x.y.r.n:Int)-1)=ad ((b.i:Int)-1)/\True)/\aE [(0,af x.x.b (uD x) 43),(1,x.y.r.A),(2,eT (Kf.rest x.s.nodes x.y.vs)),(3,F),(2050,af p (ik [ad 0] q.c.toNat) 3)] (uU x F b))/\aT fun(o:o0)_=>H8 o x->aS ((o.i:Int)-1>=(0:Int)) ((0<=(o.i:Int)-1/\(o.i:Int)-1<(x.s.nodes.length:Int))/\T1 (EX o) ⟨o.b,0+((o.i:Int)-1).toNat*1,none⟩ (fun m=>aS (m>=48) (ar yn x F fm (uU x F o)) (aw x.x.b 3/\j0 (ba Tryz.f22 7 5) [au x.y.r.a x.y.r.n x.y.r.cap,ad ((o.i:Int)-1)] (fun l=>eI x.y.r.A ⟨l.b,l.o+l.n.toNat*5+3,none⟩ (fun k j i=>∃(h:Nat),(∃(b:o0),JY x b h/\(ag (nQ x)=ag (nQ x)/\au (ti o) x.s.nodes.length x.s.nodes.length=au (ti b) x.s.nodes.length x.s.nodes.length/\ad ((o.i:Int)-1)=ad ↑b.i/\au k j i=au b.a b.n b.cap/\ad ↑j=ad ↑b.n/\ad 0=ad ↑b.j/\True)/\aE (uU x F o) (uU x F b))/\aT fun(g:o0)_=>JY x g h->aS ((g.j:Int)<(g.n:Int)) (iS (ba Tryz.f22 9 0) [au g.a g.n g.cap,ad ↑g.j] (fun e=>T1 (eT (Kf.rest x.s.nodes x.y.vs)) ⟨e.b,e.o+e.n.toNat*1,none⟩ (fun d=>(0<=(g.i:Int)/\(g.i:Int)<(x.s.nodes.length:Int))/\T1 (EX g) ⟨g.b,0+(g.i:Int).toNat*1,none⟩ (fun c=>dx c/\(0<=d/\d<x.s.nodes.length)/\(d9 ⟨g.b,0+d.toNat*1,none⟩ g.b/\0+d.toNat*1<(bB g.ab).length)/\((-9223372036854775808:Int)<=(g.j:Int)+1/\(g.j:Int)+1<=(9223372036854775807:Int))/\∃(b:o0),JY x b h/\(ag (nQ x)=ag (nQ x)/\au (ti g) x.s.nodes.length x.s.nodes.length=au (ti b) x.s.nodes.length x.s.nodes.length/\ad ↑g.i=ad ↑b.i/\au g.a g.n g.cap=au b.a b.n b.cap/\ad ↑g.n=ad ↑b.n/\ad ((g.j:Int)+1)=ad ↑b.j/\True)/\aE [(0,af x.x.b (uD x) 43),(1,x.y.r.A),(2,eT (Kf.rest x.s.nodes x.y.vs)),(3,F),(4,af g.b ((bB g.ab).set (0+d.toNat*1) (ad (c+1))) 3)] (uU x F b)/\b.n-b.j<g.n-g.j)))) (((-9223372036854775808:Int)<=(g.i:Int)-1/\(g.i:Int)-1<=(9223372036854775807:Int))/\∃(b:o0),H8 b x/\(ag (nQ x)=ag (nQ x)/\au (ti g) x.s.nodes.length x.s.nodes.length=au (ti b) x.s.nodes.length x.s.nodes.length/\ad ((g.i:Int)-1)=ad ((b.i:Int)-1)/\True)/\aE (uU x F g) (uU x F b)/\b.i<o.i)))))) (ar yn x F cV (uU x F o)):=by
 delta H8 nQ bI ti uD uU T1 EX fm j0 eI JY iS dx c6 cV aw ad aj ag au af eT aS ax aT;obtain⟨⟨b,la,lc,L,fin⟩,s,y,os⟩:=x;obtain⟨H,hk,K,hn⟩:=hc;dsimp only at H hk K hn⊢;have hl:=H.len;have hz:∀(i:Nat)(d:cj),s.nodes[i]?=some d->∀k∈d.aJ,0<=k/\k<(i:Int):=fun i d hd k f=>
  ⟨(UQ (K.yW.mem_iff.1 (qd _ (List.mem_flatMap.2 ⟨d,ou hd,f⟩)))).1,(K.aJ i d hd).2 k f⟩
 refine⟨aq,DS (P:=Tryz.prog) [.int .i64 0] 8 rfl rfl rfl rfl rfl rfl aL rfl,rfl,⟨y.r.n,y.r.n⟩,rfl,rfl,⟨bg,bg,bg,bg⟩,ao,fun B _=>⟨aq,aK,⟨⟨s.nodes.length,List.replicate s.nodes.length 0,B,0,none,0,0,⟨0,⟨#[]⟩,0,[],0⟩⟩,⟨bT _,List.length_replicate ..,fun k f=>by rw[List.eq_of_mem_replicate f];decide,rfl⟩,⟨rfl,?_,?_,ao⟩,?_⟩,?_⟩⟩
 ·dsimp only;rw[hl];rfl
 ·dsimp only;rw[hl]
 ·dsimp only;rw[show ik [.int .i64 0] (y.r.n:Int).toNat=bB (List.replicate s.nodes.length 0) by rw[cw,alx,hl]];exact az [0,1,2,3,2050]
 have U:∀(i:Nat)(d:cj),s.nodes[i]?=some d->d.aJ.length<=s.nodes.length:=by
  intro i d hd;have D:=K.yW.length_eq;have J:d.aJ.length<=(s.nodes.flatMap (·.aJ)).length:=by
   rw[List.flatMap_def];exact(List.sublist_flatten_of_mem (List.mem_map.2 ⟨d,ou hd,rfl⟩)).length_le
  unfold yy at D;rw[eS,List.length_map,List.length_range]at D;omega
 rintro⟨i,ab,B,_,_,_,_,_⟩ js ⟨D,J,Q,r⟩;dsimp only at D J Q r⊢;refine bo (fun T=>?_) (fun u=>⟨(),ao,?_,az [0,1,2,3]⟩)
 ·obtain⟨n,rfl⟩:∃n,i=n+1:=⟨i-1,ae⟩;rw[show((n+1:Nat):Int)-1=(n:Int) by omega];obtain⟨d,hd⟩:∃d,s.nodes[n]?=some d:=⟨_,gy ae⟩;obtain⟨v,V,W,kn,kc,rfl,E⟩:=GD hk n d hd;obtain⟨m,A⟩:∃m,ab[n]?=some m:=⟨_,gy ae⟩;have t:ab.getD n 0=m:=by rw[fg,A];rfl
  rw[p8,t,hd]at r;obtain⟨rb,Y⟩:=H.1.AK (by rw[H.len];omega);have G:aP y.r.A ⟨rb,0+n*5+3,none⟩ (.slice W kn kc):=by
   have hs:=H.1.Ct;rw[Y]at hs;have:=hs.look (GX s.nodes y.vs n 3 d _ _ hd V rfl);rw[Nat.add_assoc];exact this
  refine⟨aK,m,aP.cells (by rw[cw];exact NH (by rw[gT,Nat.mul_one];exact A)),bo (fun u=>⟨(),ao,?_,az [0,1,2,3]⟩) (fun z=>⟨aq,h9 5 rfl rfl rfl rfl,⟨rb,0,y.r.n,y.r.cap,n⟩,by rw[Y],hC,W,kn,kc,?_,n,⟨⟨n,ab,B,0,W,kn,kc,d⟩,⟨⟨hd,V,E,df _,J,Q,by rw[t];omega,?_⟩,rfl⟩,aV,az [0,1,2,3,4]⟩,?_⟩)⟩
  ·rw[show decide (m>=48)=true from bv u,aU]at r;show returned (.bool true)=returned (.bool (lA s.nodes));rw[<-r]
  ·rw[cw];exact G
  ·rw[show decide (m>=48)=false from bF z,aM]at r;dsimp only;rw[t];exact r
  clear A t r hd V E G D J Q;rintro⟨i,ab,B,j,a,q,c,d⟩ js ⟨⟨g1,M,g3,g4,N,I,O,C⟩,rfl⟩;dsimp only at g1 M g3 g4 N I O C⊢;have A6:d.aJ.length=q:=by
   have:=g3.len;unfold bB at this;rw[List.length_map]at this;omega
  have hi:i<s.nodes.length:=(kw.1 g1).1;have hkn:=U i d g1;obtain⟨m,A⟩:∃m,ab[i]?=some m:=⟨_,gy ae⟩;have t:ab.getD i 0=m:=by rw[fg,A];rfl
  have Z:=I m (ou A);rw[t]at O C;refine bo (fun T=>?_) (fun u=>⟨aK,⟨i,ab,B,0,a,q,c,d⟩,⟨bg,N,I,?_⟩,aV,az [0,1,2,3,4],bg⟩)
  ·obtain⟨X,o',rfl⟩:=g3.some ae;obtain⟨k,w⟩:∃k,d.aJ[j]?=some k:=⟨_,gy ae⟩;have hkr:=hz i d g1 k (ou w);refine⟨h9 1 rfl rfl rfl rfl,⟨X,o',q,c,j⟩,rfl,hC,k,?_,aK,m,aP.cells (by rw[cw];exact NH (by rw[gT,Nat.mul_one];exact A)),aK,aK,⟨aq,?_⟩,aK,⟨i,ab.set k.toNat (m+1),B,j+1,some ⟨X,o',none⟩,q,c,d⟩,⟨⟨g1,M,g3,bg,?_,?_,?_,?_⟩,rfl⟩,aV,?_,bg⟩
   ·rw[cw,Nat.mul_one];exact NJ g1 M w
   ·unfold bB;rw[List.length_map];omega
   ·dsimp only;rw[List.length_set];exact N
   ·intro k' f;rcases List.mem_or_eq_of_mem_set f with h|h
    ·exact I k' h
    ·omega
   ·dsimp only;rw[fg,List.getElem?_set_ne ae,<-fg,t];exact O
   ·dsimp only;rw[fg,List.getElem?_set_ne ae,<-fg,t];have R:d.aJ.drop j=k::d.aJ.drop (j+1):=by
     obtain⟨S,rfl⟩:=kw.1 w;exact List.drop_eq_getElem_cons S
    rw[R]at C;exact C
   ·dsimp only;rw[gT,Nat.mul_one,aeD];exact az [0,1,2,3,4]
  ·dsimp only;rw[List.drop_eq_nil_of_le ae]at C;exact C
 ·have:i=0:=by omega
  subst this;rw[p8]at r;show returned (.bool false)=returned (.bool (lA s.nodes));rw[<-r]
theorem TS:aC 22 yn:=fo 50 Tryz.func22 (fun _ _=>[(1,3,aR 0),(1,5,.o (uw 3 [.int .i64 0] 8) [] [2050]),(2,3,aR 0),(5,3,.q [.ex 4 (.int .i64)]),(7,3,aR 0),(7,5,.qo (gb 5)),(7,7,.q [.ex 1 .slice]),(9,0,.qo (gb 1)),(9,1,.q [.ex 2 (.int .i64)]),(10,5,.q [.ex 4 (.int .i64)]),(10,8,.w [.ex 4 .any])]) [] acj aY bA [] ack
end
section
open Go
def j4(L:List bh)(fin:Int)(aI:Nat->ByteArray)(wide:ByteArray->ByteArray)(f:Nat):PM Unit:=
 P L fin aI wide f .aZ>>=fun _=>ez>>=fun s=>bif decide (s.i<L.length) then iU L fin else ret ()
structure Dn(L W:List bh)(k:Nat):Prop where
 len:W.length=k+L.length+k
 Vi:∀i,i<k->∃x:bh,W[i]?=some x/\x.kind=5/\x.text=lp
 mid:∀i,i<L.length->∃x y:bh,L[i]?=some x/\W[i+k]?=some y/\y.kind=x.kind/\y.text=x.text/\y.num=x.num/\y.aD=x.aD
 Cj:∀i,k+L.length<=i->i<k+L.length+k->∃y:bh,W[i]?=some y/\y.kind=5/\y.aD=true/\y.text=rp
structure C3(ns ms:List cj):Prop where
 len:ms.length=ns.length
 get:∀(i:Nat)(x:cj),ns[i]?=some x->∃y:cj,ms[i]?=some y/\y.kind=x.kind/\y.op=x.op/\y.num=x.num/\y.aJ=x.aJ
section
variable{L W:List bh}{k:Nat}{fin d1:Int}{aI:Nat->ByteArray}{wide:ByteArray->ByteArray}
theorem A5{α:Type}{l:List α}{i:Nat}(h:l.length<=i):l[i]?=none:=ot h
theorem Dn.A4(h:Dn L W k){f:Nat}{t:al}(e:j4 L fin aI wide f hF= .ok () t):∃F t',(∀G,F<=G->j4 W d1 aI wide G hF= .ok () t')/\C3 t.nodes t'.nodes:=by
 obtain⟨r,t1,e1,C⟩:=ru e;have b:(bif decide (t1.i<L.length) then iU L fin else ret ()) t1=PR.ok () t:=C;have p:¬t1.i<L.length:=fun hl=>by rw[bv hl]at b;cases b
 rw[bF p]at b;cases b
 let V:Vw:=⟨L,W,fin,d1,L.length,0,k,[],false,false,aI,wide⟩
 have R:V.Ok:=by
  refine⟨fun i hi=>?_,fun _=>A5 (bT _),(fun e=>nomatch e),?_,(fun e=>nomatch e),(fun e=>nomatch e),fun x hx=>?_⟩
  ·obtain⟨x,y,a,c,d,g,K,M⟩:=h.mid i hi;exact⟨x,y,a,c,d,g,K,M,fun e=>nomatch e⟩
  ·show W[L.length+k]?=none\/_;rcases Nat.eq_zero_or_pos k with E|E
   ·exact .inl (A5 (by rw[h.len];omega))
   ·obtain⟨y,a,c,d,g⟩:=h.Cj (L.length+k) ae ae;exact .inr ⟨y,a,c,d,.inl g⟩
  ·have l:W[L.length+k+1]?=some x:=hx;have hl:L.length+k+1<W.length:=by
    rcases Nat.lt_or_ge (L.length+k+1) W.length with hl|hl
    ·exact hl
    ·rw[A5 hl]at l;cases l
   obtain⟨y,a,_,_,g⟩:=h.Cj (L.length+k+1) ae (by rw[h.len]at hl;omega);rw[l]at a;cases a;rw[g];exact j5 _
 have Q:V.R hF {hF with i:=k}:=⟨⟨rfl,rfl,fun i x hx=>(by simp[hF]at hx),rfl,rfl,rfl⟩,0,df _,rfl,(gT _).symm⟩;obtain⟨X,u,D,hp⟩:=K6 R f .aZ .aZ hF _ f (bT _) .aZ (fun e=>nomatch e) trivial Q r t e1;have w:V.R t u:=by
  rcases hp.2.2 with h| ⟨h,_⟩
  ·exact h
  ·cases h
 have A:u.i=L.length+k:=by
  obtain⟨i,a,c,d⟩:=w.at_;have H:i<=L.length:=a;have I:t.i=i+0:=c;have J:u.i=i+k:=d;omega
 have up:∀j,j<=k->∃q,P W d1 aI wide (f+17*j) .aZ {hF with i:=k-j}= .ok q {u with i:=L.length+k+j}:=by
  intro j
  induction j with
  |zero=>intro _;exact⟨X,by rw[<-A];exact D⟩
  |succ j U=>
   intro hj;obtain⟨q,m⟩:=U ae;obtain⟨x,x1,x2,x3⟩:=h.Vi (k-(j+1)) ae;obtain⟨y,Y,Z,y3,y4⟩:=h.Cj (L.length+k+j) ae ae;refine⟨[q.headD 0],?_⟩;have N:lY W {{u with i:=L.length+k+j}with i:=L.length+k+j+1}:=by
    rcases Nat.lt_or_ge (L.length+k+j+1) W.length with hl|hl
    ·obtain⟨z,z1,z2,_,z4⟩:=h.Cj (L.length+k+j+1) ae (by rw[h.len]at hl;omega);exact .inr ⟨z,z1,z2,z4⟩
    ·exact .inl (A5 hl)
   have:=afG (fin:=d1) (aI:=aI) (wide:=wide) (T:=W) (s:={hF with i:=k-(j+1)}) (u:={u with i:=L.length+k+j}) (f:=f+17*j) (r:=q) ⟨x,x1,x2,x3⟩ (by rw[show k-(j+1)+1=k-j by omega];exact m)
    (by
     unfold bc;have B:W[L.length+k+j+0]?=some y:=Y;show(match W[L.length+k+j+0]? with|none=>false|some x=>(x.kind==5||x.kind==2)&&bC x.text rp)=true;rw[B];simp only[Z,y4];rfl) N
   exact this
 obtain⟨q,m⟩:=up k (bT _);rw[Nat.sub_self]at m;refine⟨f+17*k,{u with i:=L.length+k+k},fun G O=>?_,?_,?_⟩
 ·have v:P W d1 aI wide G .aZ hF= .ok q {u with i:=L.length+k+k}:=by
   rcases FP W d1 aI wide O .aZ hF with o|o
   ·have:P W d1 aI wide (f+17*k) .aZ hF= .ok q _:=m;rw[this]at o;cases o
   ·rw[o];exact m
  unfold j4;rw[og v,Nv];have:decide (({u with i:=L.length+k+k}:al).i<W.length)=false:=bF (by show ¬L.length+k+k<W.length;rw[h.len];omega);rw[this];rfl
 ·have:=w.len;show u.nodes.length=t.nodes.length;rw[this];exact gT _
 ·intro i x hx;obtain⟨y,S,a,c,d,g,_⟩:=w.get i x hx;refine⟨y,by have n:u.nodes[0+i]?=some y:=S;rw[gT]at n;exact n,a,c,d,?_⟩;rw[g];have:(fun z:Int=>z+V.c)=id:=by funext z;show z+(0:Int)=z;omega
  rw[this,List.map_id]
theorem Dn.cK(h:Dn L W k)(hk:0<k)(E:∀x,x∈L->((x.kind==5||x.kind==2)&&(bC x.text lp||bC x.text rp))=false){F:Nat}{u:al}(e:j4 W d1 aI wide F hF= .ok () u):∃f t,j4 L fin aI wide f hF= .ok () t:=by
 obtain⟨r,t1,e1,_⟩:=ru e;have down:∀j,j<=k->∃f q t,P W d1 aI wide f .aZ {hF with i:=j}= .ok q t/\(0<j->bc W t 0 rp=true):=by
  intro j
  induction j with
  |zero=>intro _;exact⟨F,r,t1,e1,fun h=>absurd h (Nat.lt_irrefl 0)⟩
  |succ j K=>
   intro R;obtain⟨f,q,t,c,_⟩:=K ae;obtain⟨x,x1,x2,x3⟩:=h.Vi j ae;obtain⟨Q,o,t',b,n⟩:=afE (T:=W) (s:={hF with i:=j}) ⟨x,x1,x2,x3⟩ f c;grind
 obtain⟨f,q,t,c,b⟩:=down k (bT _);have b:=b hk
 let V:Vw:=⟨W,L,d1,fin,L.length,k,0,[],false,true,aI,wide⟩
 have m:∀i,k+L.length<=i->∀y,W[i]?=some y->y.kind=5/\y.text=rp:=by
  intro i hi y S;have hl:i<W.length:=by
   grind
  obtain⟨z,O,z2,_,z4⟩:=h.Cj i hi (by rw[h.len]at hl;exact hl);grind
 have a:∀i,i<L.length->∃x y:bh,L[i]?=some x/\W[i+k]?=some y/\y.kind=x.kind/\y.text=x.text/\y.num=x.num/\y.aD=x.aD:=h.mid;have B:V.Ok:=by
  refine⟨fun i hi=>?_,(fun e=>nomatch e),fun _=>?_,.inl (A5 (bT _)),fun _=>A5 (bT _),fun _ i x hi hx=>?_,fun x hx=>?_⟩
  ·obtain⟨x,y,c,b,n,v,g,w⟩:=a i hi;exact⟨y,x,b,c,n.symm,v.symm,g.symm,w.symm,fun e=>nomatch e⟩
  ·obtain⟨y,M,N,_,X⟩:=h.Cj (L.length+k) ae ae;grind
  ·have C:k<=i:=hi;have l:W[i]?=some x:=hx;by_cases hl:i<k+L.length
   ·obtain⟨z,y,O,z2,z3,z4,_⟩:=a (i-k) ae;grind
   ·obtain⟨_,g⟩:=m i ae x l;rw[g];exact j5 _
  grind
 have A:V.R {hF with i:=k} hF:=⟨⟨rfl,rfl,fun i x hx=>(by simp[hF]at hx),rfl,rfl,rfl⟩,0,df _,(gT _).symm,rfl⟩;obtain⟨o,t',p,hp⟩:=K6 B f .aZ .aZ _ _ f (bT _) .aZ (fun _=>rfl) trivial A q t c;have G:V.R t t':=by
  rcases hp.2.2 with h| ⟨h,_⟩
  ·exact h
  ·cases h
 obtain⟨i,i1,i2,i3⟩:=G.at_;have H:i<=L.length:=i1;have I:t.i=i+k:=i2;have J:t'.i=i:=i3;have D:i=L.length:=by
  rcases Nat.lt_or_ge i L.length with hl|hl
  ·exfalso;obtain⟨x,y,x1,M,N,U,_⟩:=a i hl;unfold bc at b;grind
  ·omega
 refine⟨f,t',?_⟩;have d:P L fin aI wide f .aZ hF= .ok o t':=p;unfold j4;rw[og d,Nv,bF ae];rfl
end
end
end Go.Proofs.YtdkchodgklpomaaGreatDoor
