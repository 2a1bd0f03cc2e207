/- Part of the proof that ParseShape answers true at every input. -/
import Derived.Test.YtdkchodgklpomaaGreatDoorPSal
set_option linter.all false
namespace Go.Proofs.YtdkchodgklpomaaGreatDoor
set_option maxRecDepth 100000
open Go.Value (int slice string bool pointer agg tuple func float iface nilIface)
open Go.IntKind (i64 u8 u64 i32 u32 u16 i8 i16)
open Go.FloatKind (f64)
open Go.Ending (returned panicked)
section
open Go
structure QA where
 n:Nat
def Hg(K:cj):aR where
 X:=QA
 args x:=[float f64 x.n]
 aQ _ F:=K.rd F
 val x _:=az (aj (K.tv x.n))
 eX _ _ _ hs h:=K.mono h hs
structure jA(F:ai):Prop where
 X8:∀i m,xq[i]?=some m->aO F ⟨0,i,none⟩ (.string m)
 aam:∀n row,x8[n]?=some row->∃b o c,aO F ⟨3,n,none⟩ (.slice (some ⟨b,o,none⟩) row.length c)/\da F ⟨b,o,none⟩ (row.map string)
variable{A B:ai}{fin:Int}{L:List bA}{tv:Nat->ByteArray}
theorem jA.sub(h:jA A)(hs:Sub A B):jA B:=⟨fun i m e=>(h.X8 i m e).sub hs,fun n row e=>let ⟨b,o,c,h1,h2⟩:=h.aam n row e;⟨b,o,c,h1.sub hs,h2.sub hs⟩⟩
structure cI(K:cj)(x:co)(F:ai):Prop where
 ls:fW x F
 gl:eT K F
 gp:jA F
theorem cI.sub{K:cj}{x:co}(hs:Sub A B)(h:cI K x A):cI K x B:=⟨h.ls.sub hs,h.gl.sub hs,h.gp.sub hs⟩
structure PaK(K:cj)(x:co):Prop where
 num:aC 122 (Hg K)
 Ol:∀n,(K.tv n).size<=1048576
 len:x.L.length<=1048576
 On:∀(i:Nat)(d:bA),x.L[i]?=some d->d.text.size<=1048576
theorem PaK.dj{K:cj}{x:co}(h:PaK K x)(s:aw):(aI x.L x.fin s).text.size<=1048576:=by
 unfold aI;cases e:x.L[s.i]? with
 |none=>exact dC _
 |some d=>exact h.On _ _ e
structure nQ where
 K:cj
 x:co
 s:aw
def wA(x:nQ):Option Addr:=some ⟨x.x.b,0,none⟩
def BP:aR where
 X:=nQ
 Y:=aw ⊕ Int
 args x:=[ah (wA x)]
 pre x:=[al x.x x.s]
 cond x:=PaK x.K x.x/\x.s.nodes.length<=4194304
 aQ x F:=cI x.K x.x F
 cd x y:=match y with
  | .inl u=>eV x.x.L x.x.fin x.K.tv br x.s= .ok x.s.nodes.length u
  | .inr p=>eV x.x.L x.x.fin x.K.tv br x.s= .stop p 60 x.s
 val x y:=match y with
  | .inl _=>.returned (.int .i64 x.s.nodes.length)
  | .inr p=>.panicked [⟨jy p 60,false,false⟩]
 post x y:=match y with
  | .inl u=>[al x.x u]
  | .inr _=>[]
 eX _ _ _ hs h:=cI.sub hs h
 sum:=some (iX aw Int)
theorem aad{s:aw}(h:((aI L fin s).kind==1||(aI L fin s).kind==2)=true):eV L fin tv br s= .ok s.nodes.length {s with i:=s.i+1,nodes:=s.nodes++[⟨2,br (aI L fin s).text,0,[],(aI L fin s).pos⟩]}:=by
 unfold eV;dsimp only;rw[h];rfl
theorem ako{s:aw}(h:((aI L fin s).kind==1||(aI L fin s).kind==2)=false)(h3:((aI L fin s).kind==3)=true):eV L fin tv br s= .ok s.nodes.length {s with i:=s.i+1,nodes:=s.nodes++[⟨2,br (tv (aI L fin s).num),0,[],(aI L fin s).pos⟩]}:=by
 unfold eV;dsimp only;rw[h,h3];rfl
theorem akq{s:aw}(h:((aI L fin s).kind==1||(aI L fin s).kind==2)=false)(h3:((aI L fin s).kind==3)=false)(h4:((aI L fin s).kind==4)=true):eV L fin tv br s= .ok s.nodes.length {s with i:=s.i+1,nodes:=s.nodes++[⟨2,(aI L fin s).text,0,[],(aI L fin s).pos⟩]}:=by
 unfold eV;dsimp only;rw[h,h3,h4];rfl
theorem akn{s:aw}(h:((aI L fin s).kind==1||(aI L fin s).kind==2)=false)(h3:((aI L fin s).kind==3)=false)(h4:((aI L fin s).kind==4)=false):eV L fin tv br s= .stop (aI L fin s).pos 60 s:=by
 unfold eV;dsimp only;rw[h,h3,h4];rfl
theorem zD{s:aw}{k:Int}(h:((aI L fin s).kind==k)=true)(hk:k≠0):s.i<L.length:=jX (fin:=fin) (fun e=>by rw[e]at h;exact hk (by simp at h;exact h.symm))
structure FP where
 op:ByteArray
 c:Nat
def HB(d:FP)(x:nQ):List Value:=[ae 2,aj d.op,float f64 0,au none 0 0,ae (aI x.x.L x.x.fin x.s).pos]
def akl(x:nQ)(F:ai):Nat->Option Inv:=fun
 |11=>some {X:=FP,P:=fun d=>x.s.i<x.x.L.length/\eV x.x.L x.x.fin x.K.tv br x.s= .ok x.s.nodes.length {x.s with i:=x.s.i+1,nodes:=x.s.nodes++[⟨2,d.op,0,[],(aI x.x.L x.x.fin x.s).pos⟩]},mu:=fun _=>0,lv:=fun d=>[(0,ah (wA x)),(4,ah (some ⟨d.c,0,none⟩))],st:=fun d=>[al x.x x.s,F,ag d.c (HB d x) 35]}
 |_=>none
def akm(x:nQ)(_F:ai):List (Nat×Nat×OH):=[(1,1,aX jm),(1,2,.n 2020),(1,3,.w (eF 2020)),(2,1,aT 2020),(2,3,aT 2020),(2,5,.n 3050),(2,6,.w (eF 3050)),(3,1,aT 2020),(7,1,aT 2020),(7,2,aX wC),(7,4,.w [.z00 3050]),(9,1,aT 2020),(9,2,aX (Hg x.K)),(9,3,aX wC),(9,5,.w [.z00 3050]),(4,1,aX mD),(11,3,dm),(11,7,dO fS),(12,1,.q (eF 2)),(12,2,.c fR [0,999] [0])]
def Ik(k:c8):=(cu k.L k.fin k.i).kind==1
def M_(k:c8):List Value:=[ae 2,aj (cu k.L k.fin k.i).text,float f64 0,au none 0 0,ae (cu k.L k.fin k.i).pos]
def Ce(x:nQ)(F:ai)(i:Nat)(k:c8)(h:Nat):=[(0,al x.x x.s),(1,F),(2020,ag i (q0 k) 53),(3050,ag h (M_ k) 35)]
def TA(e0:nQ)(z:FP):=e0.s.i<e0.x.L.length/\eV e0.x.L e0.x.fin e0.K.tv br e0.s=PR.ok (e0.s.nodes.length:Int) (have __src:=e0.s;⟨e0.s.i+1,e0.s.nodes++[⟨(2:Int),z.op,0,[],(aI e0.x.L e0.x.fin e0.s).pos⟩],__src.bQ,__src.loops,__src.bI⟩)
def PO(e0:nQ)(e1:ai)(v0:Value)(ss:St):=∃(z:FP),TA e0 z/\(ah (wA e0)=ah (wA e0)/\v0=ah (some ⟨z.c,0,none⟩)/\True)/\aD ss [(0,al e0.x e0.s),(1,e1),(2,ag z.c (HB z e0) 35)]
def Tg(h:Nat)(x:nQ)(F:ai)(i:Nat)(k:c8):fq->Unit->Prop:=fun c b=>ax h 1/\PO x F (cW h) [(0,al x.x x.s),(1,F),(2020,ag i (q0 k) 53),(3050,ag h [ae 2,aj (br c.s),float f64 0,au none 0 0,ae (cu k.L k.fin k.i).pos] 35)]
def Wm(i:Nat)(k:c8)(x:nQ)(F:ai)(h:Nat):=ax i 1/\vr 121 [aj (cu k.L k.fin k.i).text] (aH (Ce x F i k h) []) (Tg h x F i k)
def XH(e0:nQ)(aa:List Value)(rr:ai)(k0:QA->Unit->Prop):=aC 122 (Hg e0.K)/\true=true/\∃(z:QA),aa=[float f64 z.n]/\([]:List ai)=[]/\True/\e0.K.3 rr/\∀(u0:Unit),True->k0 z u0
def Wq(k:c8)(i:Nat)(x:nQ)(F:ai)(h:Nat):=Br ((cu k.L k.fin k.i).kind==3) (ax i 2/\XH x [float f64 (cu k.L k.fin k.i).num] (aH (Ce x F i k h) []) (fun e d=>vr 121 [aj (x.K.tv e.n)] (aH (Ce x F i k h) []) (Tg h x F i k))) (Br ((cu k.L k.fin k.i).kind==4) (PO x F (cW h) (Ce x F i k h)) (l6 [ah (wA x)] (aH (Ce x F i k h) []) (fun b a=>aq BP x F (kG b) (Ce x F i k h))))
theorem akr(x:nQ)(F:ai)(hc:BP.cond x)(hr:BP.aQ x F):fm [ah (wA x)] (aH [(0,al x.x x.s),(1,F)] []) (fun k j=>∀(i:Nat),cF i (ax i 1/\ax i 3/\∀(h:Nat),cF h ((ax i 0/\Br (Ik k) (Br (Ik k) (Wm i k x F h) (Wq k i x F h)) (Br ((cu k.L k.fin k.i).kind==2) (Wm i k x F h) (Wq k i x F h)))/\aS fun(g:FP)_=>TA x g->T1 (al x.x x.s) ⟨x.x.b,1,none⟩ (fun e=>dw e/\dI (a8 Tryz.f115 11 7) [ah (some ⟨x.x.b,1,none⟩),ae (e+1)] [al x.x x.s] (fun d c=>cF g.c (dc [ah (wA x),agg ⟨HB g x⟩] [al d.x d.t,ba] (fun b a=>aq BP x F (fK b) [(0,al b.x (b.s.add b.n)),(1,F),(2,ag g.c (HB g x) 35),(999,ba)]))))))):=by
 delta je fm wA Ik vr q0 M_ Ce TA HB PO bJ cW Tg Wm XH l6 kG Wq T1 dw mT mU dI lR lS dc lm fK dK aH al ax cF ae aj ak ah au ag ba az aS;obtain⟨K,x,s⟩:=x;obtain⟨hK,hn⟩:=hc;replace hr:cI K x F:=hr;dsimp only at hK hn⊢;have hw:(aI x.L x.fin s).text.size<=1048576:=hK.dj s;refine bp l9 (x.p s) hK.len (hr.ls.di 0 1 aM aM rfl rfl) fun _ _ c=>?_
 repeat (refine⟨ap,?_⟩)
 intro c2
 repeat (refine⟨ap,?_⟩)
 refine⟨?_,?_⟩
 ·skip
  refine⟨ap,aG (fun h1=>afU h1 ?_) (fun h1=>aG (fun h2=>?_) (fun h2=>aG (fun h3=>?_) (fun h3=>aG (fun h4=>?_) (fun h4=>?_))))⟩
  ·replace h1:((aI x.L x.fin s).kind==1)=true:=h1;exact⟨ap,W_,rfl,⟨(aI x.L x.fin s).text⟩,rfl,rfl,hw,gE.rest (j:=1) aM hr.gl.gl.qQ,fun _ _=>⟨ap,⟨br (aI x.L x.fin s).text,c2⟩,⟨zD h1 (by decide),aad (by rw[h1];rfl)⟩,aV,aB [0,1,3050]⟩⟩
  ·replace h2:((aI x.L x.fin s).kind==2)=true:=h2;exact⟨ap,W_,rfl,⟨(aI x.L x.fin s).text⟩,rfl,rfl,hw,gE.rest (j:=1) aM hr.gl.gl.qQ,fun _ _=>⟨ap,⟨br (aI x.L x.fin s).text,c2⟩,⟨zD h2 (by decide),aad (by rw[h2,n7])⟩,aV,aB [0,1,3050]⟩⟩
  all_goals
   replace h1:((aI x.L x.fin s).kind==1)=false:=h1;replace h2:((aI x.L x.fin s).kind==2)=false:=h2;have Ru:((aI x.L x.fin s).kind==1||(aI x.L x.fin s).kind==2)=false:=by rw[h1,h2];rfl
  ·replace h3:((aI x.L x.fin s).kind==3)=true:=h3;exact⟨ap,hK.num,rfl,⟨(aI x.L x.fin s).num⟩,rfl,rfl,ao,K.rest (j:=1) aM hr.gl.rd,fun _ _=>bp W_ ⟨K.tv (aI x.L x.fin s).num⟩ (hK.Ol _) (gE.rest (j:=1) aM hr.gl.gl.qQ) fun _ _=>⟨ap,⟨br (K.tv (aI x.L x.fin s).num),c2⟩,⟨zD h3 (by decide),ako Ru h3⟩,aV,aB [0,1,3050]⟩⟩
  all_goals replace h3:((aI x.L x.fin s).kind==3)=false:=h3
  ·replace h4:((aI x.L x.fin s).kind==4)=true:=h4;exact⟨⟨(aI x.L x.fin s).text,c2⟩,⟨zD h4 (by decide),akq Ru h3 h4⟩,aV,aB [0,1,3050]⟩
  ·replace h4:((aI x.L x.fin s).kind==4)=false:=h4;exact bp ru (x.p s) hK.len (hr.ls.di 0 1 aM aM rfl rfl) fun _ _=>⟨.inr (aI x.L x.fin s).pos,akn Ru h3 h4,rfl,aB [1]⟩
 ·rintro⟨op,c⟩ js ⟨hi,hk⟩;dsimp only at hk⊢;have hl:=hK.len;refine⟨_,d_ fun _=>rfl,aJ,gQ rfl rfl rfl,rfl,⟨x,s,s.ay,1,_⟩,rfl,rfl,⟨fun _=>rfl,rfl,bd,rfl,rfl⟩,ao,fun _ _=>?_⟩;exact⟨ap,ap,ap,ap,ap,fv,rfl,⟨x,s.ay,⟨2,op,0,[],(aI x.L x.fin s).pos⟩,dF⟩,rfl,rfl,⟨hn,.nil rfl⟩,ao,fun _ _=>⟨.inl _,hk,rfl,aB [0,1]⟩⟩
theorem akp:aC 115 BP:=fo 42 Tryz.func115 akm [] aY akl bz [] akr
end
section
open Go
structure zh where
 tb:Nat->Nat
 n:Nat
def wR:aR where
 X:=zh
 args x:=[float f64 x.n]
 cond x:=pC x.tb/\cR .lss x.n 0=false
 aQ x F:=mr x.tb F
 val x _:=az (aj (qP x.tb x.n))
def AJ:aR where
 X:=zh
 args x:=[float f64 x.n]
 cond x:=pC x.tb
 aQ x F:=mr x.tb F
 val x _:=az (aj (pn x.tb x.n))
def acn(C:aR):List (Nat×Nat×OH):=[(1,2,.qo (qn .neq)),(3,1,.qo (qn .eql)),(5,1,.qo (qn .lss)),(6,1,.qo DO),(6,2,.c C [] []),(7,1,.c Ss [] []),(9,1,.c Rg [] []),(9,2,.c QX [] []),(10,1,.c QH [] []),(11,1,.c WD [] []),(11,4,.c SD [] [])]
def apr(_x:zh)(_F:ai):List (Nat×Nat×OH):=acn Em
def aps(_x:zh)(_F:ai):List (Nat×Nat×OH):=acn wR
theorem acm{tb:Nat->Nat}(hb:pC tb){n:Nat}(h:cR .lss n 0=false):(qP tb n).size<=4000:=by
 unfold qP;cases h1:cR .neq n n with
 |true=>show(ByteArray.mk #[78,97,78]).size<=4000;decide
 |false=>
  rw[aU];cases h2:cR .eql n 0 with
  |true=>show(ByteArray.mk #[48]).size<=4000;decide
  |false=>
   rw[aU];cases h4:rI n with
   |true=>show(ByteArray.mk #[73,110,102,105,110,105,116,121]).size<=4000;decide
   |false=>
    rw[aU];exact aco hb (Kt h1 h2 h h4)
theorem apt{tb:Nat->Nat}(hb:pC tb)(n:Nat):(pn tb n).size<=4001:=by
 unfold pn;cases h1:cR .neq n n with
 |true=>show(ByteArray.mk #[78,97,78]).size<=4001;decide
 |false=>
  rw[aU];cases h2:cR .eql n 0 with
  |true=>show(ByteArray.mk #[48]).size<=4001;decide
  |false=>
   rw[aU];cases h3:cR .lss n 0 with
   |true=>
    rw[bf,mH];have:=acm hb (aaN h3);show 1+_<=4001;omega
   |false=>
    rw[aU];cases h4:rI n with
    |true=>show(ByteArray.mk #[73,110,102,105,110,105,116,121]).size<=4001;decide
    |false=>
     rw[aU];have:=aco hb (Kt h1 h2 h3 h4);omega
def Js(oo:Oper)(aa:List Value)(k0:Nat×Nat->Prop):=dH Tryz.prog oo (qn BinOp.neq)/\∃(z:Nat×Nat),aa=(u5 z)/\True/\k0 z
def E7(x:zh):List Value:=[float f64 x.n,float f64 0]
def Jt(aa:List Value)(k0:FL->Bool->Prop):=aC 137 Ss/\true=true/\∃(z:FL),aa=[float f64 z.f,ae 1]/\([]:List ai)=[]/\True/\True/\∀(u0:Bool),u0=rI z.f->k0 z u0
def Nv:=az (aj ⟨#[73,110,102,105,110,105,116,121]⟩)
def Ju(aa:List Value)(rr:ai)(k0:y9->ByteArray->Prop):=aC 139 Rg/\true=true/\∃(z:y9),aa=(EU z)/\([]:List ai)=[]/\(pC z.tb/\qb z.n)/\mr z.tb rr/\∀(u0:ByteArray),u0=qp z.tb z.n->k0 z u0
def Jv(aa:List Value)(rr:ai)(k0:I2->OK->Prop):=aC 138 QX/\true=true/\∃(z:I2),aa=[aj z.s,aj z.t]/\([]:List ai)=[]/\z.s.size<4294967281/\jQ rr/\∀(u0:OK),u0=⟨⟨(uz z.s z.t).fst.toArray⟩,⟨(uz z.s z.t).snd.fst.toArray⟩,(uz z.s z.t).snd.snd⟩->k0 z u0
def Jw(aa:List Value)(k0:bR->Int->Prop):=aC 140 QH/\true=true/\∃(z:bR),aa=[aj z.s]/\([]:List ai)=[]/\wZ z.s/\True/\∀(u0:Int),u0=m8 z.s->k0 z u0
def Jx(aa:List Value)(rr:ai)(k0:FY->ByteArray->Prop):=aC 142 WD/\true=true/\∃(z:FY),aa=[aj z.s,aj z.t,aj z.u,ae z.n]/\([]:List ai)=[]/\(z.s.size<4294967281/\1<=z.t.size/\z.s.size+Lib.countB z.s z.t*z.u.size<=140737488355328)/\jQ rr/\∀(u0:ByteArray),u0=⟨(It z).toArray⟩->k0 z u0
def Jy(aa:List Value)(rr:ai)(k0:uf->ByteArray->Prop):=aC 141 SD/\true=true/\∃(z:uf),aa=[aj z.ds,ae z.n]/\([]:List ai)=[]/\(1<=z.ds.size/\z.ds.size<=1000/\(-1000:Int)<=z.n/\z.n<=1000)/\jQ rr/\∀(u0:ByteArray),u0=ld z.ds z.n->k0 z u0
theorem apx(x:zh)(F:ai)(hc:wR.cond x)(hr:wR.aQ x F):Js (a8 Tryz.f122 1 2) [float f64 x.n,float f64 x.n] (fun o=>Br (cR BinOp.neq o.fst o.snd) (aq wR x F (az (aj ⟨#[78,97,78]⟩)) [(0,F)]) (A6 (a8 Tryz.f122 3 1) (E7 x) (fun n=>Br (cR BinOp.eql n.fst n.snd) (aq wR x F E6 [(0,F)]) (Dr (a8 Tryz.f122 5 1) (E7 x) (fun m=>Br (cR BinOp.lss m.fst m.snd) (Dq ⟨some 19,Op.unOp UnOp.neg 32 (Operand.tmp 18),32,"esnum.go:41",⟨[⟨0,Ground.data⟩]⟩,none⟩ [float f64 x.n] (fun c=>F3 122 [float f64 (Op.negFloat f64 c)] (fun b a=>aq wR x F (panicked []) [(0,F)]))) (Jt [float f64 x.n,ae 1] (fun l k=>Br k (aq wR x F Nv [(0,F)]) (Ju [float f64 x.n,a_ 101,ae (-1),ae 64] (cX F) (fun j i=>Jv [aj i,aj ⟨#[101]⟩] (cX F) (fun h g=>Jw [aj g.x] (fun f e=>Jx [aj g.m,aj ⟨#[46]⟩,aj ⟨#[]⟩,ae 1] (cX F) (fun d c=>dw e/\Jy [aj c,ae (e+1)] (cX F) (fun b a=>aq wR x F (az (aj a)) [(0,F)]))))))))))))):=by
 delta u5 Js A6 E7 E6 Dr Dq F3 Jt Nv EU Ju cX Jv Jw Jx dw Jy aH ae a_ aj az;obtain⟨tb,n⟩:=x;obtain⟨hb,hl⟩:=hc;replace hr:mr tb F:=hr;dsimp only at hb hl⊢;refine⟨rA (.inr (.inr (.inr rfl))) rfl,(n,n),rfl,ao,aG (fun h1=>⟨(),ao,?_,aB [0]⟩) (fun h1=>⟨rA (.inl rfl) rfl,(n,0),rfl,ao,aG (fun h2=>⟨(),ao,?_,aB [0]⟩) (fun h2=>⟨rA (.inr (.inl rfl)) rfl,(n,0),rfl,ao,aG (fun h3=>?_) (fun h3=>nf Z6 ⟨n⟩ fun q hq=>aG (fun h4=>⟨(),ao,?_,aB [0]⟩) (fun h4=>?_))⟩)⟩)⟩
 ·show returned (.string _)=returned (.string (qP tb n));unfold qP;rw[show cR .neq n n=true from h1];rfl
 ·show returned (.string _)=returned (.string (qP tb n));unfold qP;rw[show cR .neq n n=false from h1,show cR .eql n 0=true from h2];rfl
 ·rw[show cR .lss n 0=true from h3]at hl;cases hl
 ·show returned (.string _)=returned (.string (qP tb n));unfold qP;rw[show cR .neq n n=false from h1,show cR .eql n 0=false from h2,<-show q=rI n from hq,h4];rfl
 replace hq:q=rI n:=hq;rw[h4]at hq;have hf:qb n:=Kt h1 h2 h3 hq.symm;have hT:=W0 hb hf;refine bp Y6 ⟨tb,n⟩ ⟨hb,hf⟩ (by exact hr.sub (b_ 0)) fun y hy=>bp YB ⟨y,⟨#[101]⟩⟩ (?_) (by exact hr.tx.sub (b_ 0)) fun z hz=>?_
 ·rw[show y=qp tb n from hy];have:=hT.fs;show(qp tb n).size<_;omega
 replace hy:y=qp tb n:=hy;subst hy;have G3:z.m=tX tb n:=by rw[show z=_ from hz];rfl
 have Sk:z.x=pq tb n:=by rw[show z=_ from hz];rfl
 rw[G3,Sk];refine bV X6 ⟨pq tb n⟩ hT.xo fun e he=>bp abB ⟨tX tb n,⟨#[46]⟩,⟨#[]⟩,1⟩ ⟨?_,cr 1,?_⟩ (by exact hr.tx.sub (b_ 0)) fun d hd=>?_
 ·have:=hT.ms;show(tX tb n).size<_;omega
 ·have:=hT.ms;show(tX tb n).size+_*0<=_;omega
 replace he:e=m8 (pq tb n):=he;replace hd:d=yU tb n:=hd;subst he hd;have b1:=hT.dl;have b2:=hT.dh;have b3:=hT.xl;refine⟨aJ,aas,rfl,⟨yU tb n,m8 (pq tb n)+1⟩,rfl,rfl,⟨b1,b2,bd,bd⟩,by exact hr.tx.sub (b_ 0),fun v hv=>⟨(),ao,?_,aB [0]⟩⟩;rw[show v=IQ tb n from hv];show returned (.string _)=returned (.string (qP tb n));unfold qP;rw[show cR .neq n n=false from h1,show cR .eql n 0=false from h2,<-hq];rfl
theorem apw:aC 122 wR:=fo 42 Tryz.func122 apr [] aY aY bz [] apx
theorem apv(x:zh)(F:ai)(hc:AJ.cond x)(hr:AJ.aQ x F):Js (a8 Tryz.f122 1 2) [float f64 x.n,float f64 x.n] (fun o=>Br (cR BinOp.neq o.fst o.snd) (aq AJ x F (az (aj ⟨#[78,97,78]⟩)) [(0,F)]) (A6 (a8 Tryz.f122 3 1) (E7 x) (fun n=>Br (cR BinOp.eql n.fst n.snd) (aq AJ x F E6 [(0,F)]) (Dr (a8 Tryz.f122 5 1) (E7 x) (fun m=>Br (cR BinOp.lss m.fst m.snd) (Dq ⟨some 19,Op.unOp UnOp.neg 32 (Operand.tmp 18),32,"esnum.go:41",⟨[⟨0,Ground.data⟩]⟩,none⟩ [float f64 x.n] (fun c=>aC 122 wR/\true=true/\∃(b:zh),[float f64 (Op.negFloat f64 c)]=[float f64 b.n]/\([]:List ai)=[]/\(pC b.tb/\cR BinOp.lss b.n 0=false)/\mr b.tb (cX F)/\∀(a:Unit),True->1+(qP b.tb b.n).size<=9223372036854775807/\aq AJ x F (az (aj ((ByteArray.mk #[45])++qP b.tb b.n))) [(0,F)])) (Jt [float f64 x.n,ae 1] (fun l k=>Br k (aq AJ x F Nv [(0,F)]) (Ju [float f64 x.n,a_ 101,ae (-1),ae 64] (cX F) (fun j i=>Jv [aj i,aj ⟨#[101]⟩] (cX F) (fun h g=>Jw [aj g.x] (fun f e=>Jx [aj g.m,aj ⟨#[46]⟩,aj ⟨#[]⟩,ae 1] (cX F) (fun d c=>dw e/\Jy [aj c,ae (e+1)] (cX F) (fun b a=>aq AJ x F (az (aj a)) [(0,F)]))))))))))))):=by
 delta u5 Js A6 E7 E6 Dr Dq cX Jt Nv EU Ju Jv Jw Jx dw Jy aH ae a_ aj az;obtain⟨tb,n⟩:=x;replace hc:pC tb:=hc;have hb:=hc;replace hr:mr tb F:=hr;dsimp only;refine⟨rA (.inr (.inr (.inr rfl))) rfl,(n,n),rfl,ao,aG (fun h1=>⟨(),ao,?_,aB [0]⟩) (fun h1=>⟨rA (.inl rfl) rfl,(n,0),rfl,ao,aG (fun h2=>⟨(),ao,?_,aB [0]⟩) (fun h2=>⟨rA (.inr (.inl rfl)) rfl,(n,0),rfl,ao,aG (fun h3=>?_) (fun h3=>nf Z6 ⟨n⟩ fun q hq=>aG (fun h4=>⟨(),ao,?_,aB [0]⟩) (fun h4=>?_))⟩)⟩)⟩
 ·show returned (.string _)=returned (.string (pn tb n));unfold pn;rw[show cR .neq n n=true from h1];rfl
 ·show returned (.string _)=returned (.string (pn tb n));unfold pn;rw[show cR .neq n n=false from h1,show cR .eql n 0=true from h2];rfl
 ·have hn:cR .lss (Op.negFloat .f64 n) 0=false:=aaN h3;have hs:=acm hb hn;refine⟨Y_ rfl,n,rfl,ao,apw,rfl,⟨tb,Op.negFloat .f64 n⟩,rfl,rfl,⟨hb,hn⟩,by exact hr.sub (b_ 0),fun _ _=>⟨bd,(),ao,?_,aB [0]⟩⟩;show returned (.string _)=returned (.string (pn tb n));unfold pn;rw[show cR .neq n n=false from h1,show cR .eql n 0=false from h2,show cR .lss n 0=true from h3];rfl
 ·show returned (.string _)=returned (.string (pn tb n));unfold pn;rw[show cR .neq n n=false from h1,show cR .eql n 0=false from h2,show cR .lss n 0=false from h3,<-show q=rI n from hq,h4];rfl
 replace hq:q=rI n:=hq;rw[h4]at hq;have hf:qb n:=Kt h1 h2 h3 hq.symm;have hT:=W0 hb hf;refine bp Y6 ⟨tb,n⟩ ⟨hb,hf⟩ (by exact hr.sub (b_ 0)) fun y hy=>bp YB ⟨y,⟨#[101]⟩⟩ (?_) (by exact hr.tx.sub (b_ 0)) fun z hz=>?_
 ·rw[show y=qp tb n from hy];have:=hT.fs;show(qp tb n).size<_;omega
 replace hy:y=qp tb n:=hy;subst hy;have G3:z.m=tX tb n:=by rw[show z=_ from hz];rfl
 have Sk:z.x=pq tb n:=by rw[show z=_ from hz];rfl
 rw[G3,Sk];refine bV X6 ⟨pq tb n⟩ hT.xo fun e he=>bp abB ⟨tX tb n,⟨#[46]⟩,⟨#[]⟩,1⟩ ⟨?_,cr 1,?_⟩ (by exact hr.tx.sub (b_ 0)) fun d hd=>?_
 ·have:=hT.ms;show(tX tb n).size<_;omega
 ·have:=hT.ms;show(tX tb n).size+_*0<=_;omega
 replace he:e=m8 (pq tb n):=he;replace hd:d=yU tb n:=hd;subst he hd;have b1:=hT.dl;have b2:=hT.dh;have b3:=hT.xl;refine⟨aJ,aas,rfl,⟨yU tb n,m8 (pq tb n)+1⟩,rfl,rfl,⟨b1,b2,bd,bd⟩,by exact hr.tx.sub (b_ 0),fun v hv=>⟨(),ao,?_,aB [0]⟩⟩;rw[show v=IQ tb n from hv];show returned (.string _)=returned (.string (pn tb n));unfold pn;rw[show cR .neq n n=false from h1,show cR .eql n 0=false from h2,show cR .lss n 0=false from h3,<-hq];rfl
theorem apu:aC 122 AJ:=fo 42 Tryz.func122 aps [] aY aY bz [] apv
theorem apC{K:cj}{tb:Nat->Nat}(hb:pC tb)(hv:K.tv=pn tb)(hr:∀F,K.rd F->mr tb F):aC 122 (Hg K):=apu.view (fun x=>⟨tb,x.n⟩) (fun _=>rfl) (fun _=>rfl) (fun _ _=>hb) (fun x F _ h=>hr F h) (fun x _ _ _=>⟨(),ao,by show returned (.string (pn tb x.n))=returned (.string (K.tv x.n));rw[hv],rfl⟩)
end
section
open Go Go.RowKit
def aah:List (String×DataW Unit):=Rows.parseShapeRow.laid
noncomputable def pJ(g:Nat):TypeId:=((Tryz.prog.globals[g]?).map (·.type)).getD 0
variable{g:Nat}{t:TypeId}
theorem n9(h:((Tryz.prog.globals[g]?).map (·.type)).isSome=true):(Tryz.prog.globals[g]?).map (·.type)=some (pJ g):=by
 unfold pJ;cases e:(Tryz.prog.globals[g]?).map (·.type)with
 |none=>rw[e]at h;cases h
 |some t=>rfl
set_option maxRecDepth 100000
theorem aho:kv Tryz.prog 2 (pJ 2) Rows.laid_pennant_eslex_marks=some (jK.map string):=bh
theorem ahm:kv Tryz.prog 2 (pJ 0) Rows.laid_pennant_esparse_assigns=some (xq.map string):=bh
theorem ahn:kv Tryz.prog 2 (pJ 5) Rows.laid_unicode_utf8_first=some ((List.range 256).map fun c=>int .u8 (Lib.firstT c)):=bh
theorem YW:kv Tryz.prog 3 (pJ 6) Rows.laid_unicode_utf8_acceptRanges=some ((List.range 32).map fun i=>int .u8 (bif i%2==0 then Lib.accLo (i/2) else Lib.accHi (i/2))):=bh
theorem Rc:kv Tryz.prog 2 (pJ 11) Rows.laid_internal_strconv_float64info=some [.int .u64 52,.int .u64 11,.int .i64 (-1023)]:=bh
theorem ahp:kv Tryz.prog 2 (pJ 10) Rows.laid_internal_strconv_optimize=some [.bool true]:=bh
theorem ahr:kv Tryz.prog 2 (pJ 17) Rows.laid_internal_strconv_uint64pow10=some S0:=bh
theorem ahq:kv Tryz.prog 3 (pJ 15) Rows.laid_internal_strconv_pow10Tab=some ((List.range 1392).map fun i=>int .u64 (wP i)):=bh
def Za:List (DataW Unit):=Kr.map fun b=>.lit (.float .f64 b)
def ptD:List (DataW Unit):=LF.map fun z=>.lit (.int .i64 (z:Nat))
def Sx:List (DataW Unit):=Pinned.cheatRows.map fun x=>.agg [.lit (.int .i64 x.1),.lit (.string x.2)]
theorem agz:(Rows.laid_internal_strconv_float64pow10:DataW Unit)= .slice Za []:=bh
theorem agB:(Rows.laid_internal_strconv_powtab:DataW Unit)= .slice ptD []:=bh
theorem agA:(Rows.laid_internal_strconv_leftcheats:DataW Unit)= .slice Sx []:=rfl
theorem N0{α:Type}{f:Nat->α}{n i:Nat}(h:i<n):((List.range n).map f)[i]?=some (f i):=by
 rw[gw,List.getElem?_range h];rfl
theorem acy(u:TypeId)(e:Tryz.prog.typeName? 3 u=some "*errors.errorString"):u=164:=
 typeName_ptr_named (nm:= "errors.errorString") bh bh (by decide) u e
section
variable{W:World}(h:laidMet Tryz.prog aah W)
include h
theorem ap1:gE (gM W):=by
 have h1:=ti h 17 (n:= "unicode/utf8.first") (d:=Rows.laid_unicode_utf8_first) rfl;have h2:=ti h 9 (n:= "unicode/utf8.acceptRanges") (d:=Rows.laid_unicode_utf8_acceptRanges) rfl;refine⟨fun c hc=>h1.look bh (n9 bh) 2 ahn c (N0 hc),fun i hi=>h2.look bh (n9 bh) 3 YW (2*i) ?_,fun i hi=>h2.look bh (n9 bh) 3 YW (2*i+1) ?_⟩
 ·rw[N0 af,show(2*i%2==0)=true by rw[beq_iff_eq];omega,show 2*i/2=i by omega];rfl
 ·rw[N0 af,show((2*i+1)%2==0)=false by rw[ga];omega,show(2*i+1)/2=i by omega];rfl
theorem apX:∀i m,jK[i]?=some m->aO (gM W) ⟨2,i,none⟩ (.string m):=fun i m hm=>by
 have h1:=ti h 12 (n:= "pennant/eslex.marks") (d:=Rows.laid_pennant_eslex_marks) rfl;exact h1.look bh (n9 bh) 2 aho i (by rw[gw,hm];rfl)
theorem apR:∀i m,xq[i]?=some m->aO (gM W) ⟨0,i,none⟩ (.string m):=fun i m hm=>by
 have h1:=ti h 14 (n:= "pennant/esparse.assigns") (d:=Rows.laid_pennant_esparse_assigns) rfl;exact h1.look bh (n9 bh) 2 ahm i (by rw[gw,hm];rfl)
theorem apZ:Ba (gM W) 17 S0:=by
 have h1:=ti h 8 (n:= "internal/strconv.uint64pow10") (d:=Rows.laid_internal_strconv_uint64pow10) rfl;obtain⟨t,fr,e⟩:=h1.flat bh (n9 bh) 2 ahr;exact⟨fun I g o hc hA=>⟨t,fr,hc _ _ ((show a7.le (hp W) I from hA) _ _ e)⟩⟩
theorem acz:∀i,i<1392->aO (gM W) ⟨15,i,none⟩ (.int .u64 (wP i)):=fun i hi=>by
 have h1:=ti h 16 (n:= "internal/strconv.pow10Tab") (d:=Rows.laid_internal_strconv_pow10Tab) rfl;exact h1.look bh (n9 bh) 3 ahq i (N0 hi)
theorem apU:aO (gM W) ⟨11,0,none⟩ (.int .u64 52)/\aO (gM W) ⟨11,1,none⟩ (.int .u64 11)/\aO (gM W) ⟨11,2,none⟩ (.int .i64 (-1023)):=by
 have h1:=ti h 3 (n:= "internal/strconv.float64info") (d:=Rows.laid_internal_strconv_float64info) rfl;exact⟨h1.look bh (n9 bh) 2 Rc 0 rfl,h1.look bh (n9 bh) 2 Rc 1 rfl,h1.look bh (n9 bh) 2 Rc 2 rfl⟩
theorem apY:aO (gM W) ⟨10,0,none⟩ (.bool true):=by
 have h1:=ti h 4 (n:= "internal/strconv.optimize") (d:=Rows.laid_internal_strconv_optimize) rfl;exact h1.look bh (n9 bh) 2 ahp 0 rfl
theorem apT:∃b o c,aO (gM W) ⟨14,0,none⟩ (.slice (some ⟨b,o,none⟩) 23 c)/\∀i,i<23->aO (gM W) ⟨b,o+i,none⟩ (.float .f64 (n8 i)):=by
 have h1:=ti h 6 (n:= "internal/strconv.float64pow10") (d:=Rows.laid_internal_strconv_float64pow10) rfl;rw[agz]at h1;obtain⟨b,o,c,e1,e2⟩:=h1.WT bh (n9 bh) (e:=32) bh 0 ⟨.lit (.float .f64 4607182418800017408),.float .f64 4607182418800017408,[],rfl,bh⟩;refine⟨b,o,c,e1,fun i hi=>?_⟩;have hl:Kr[i]?=some (n8 i):=by
  unfold n8;rw[fD];have:i<Kr.length:=hi;rw[gv this];rfl
 have:=e2 i (.lit (.float .f64 (n8 i))) [.float .f64 (n8 i)] (by unfold Za;rw[gw,hl];rfl) (by unfold kv u_;rw[show Tryz.prog.underlying 32=some (.float .f64) by kernel_rfl];rfl) 0 _ rfl;rw[show Tryz.prog.cellsOf 32=1 by kernel_rfl,Nat.mul_one,Nat.add_zero]at this;exact this
theorem ap0:∃b o c,aO (gM W) ⟨13,0,none⟩ (.slice (some ⟨b,o,none⟩) 9 c)/\∀i,i<9->aO (gM W) ⟨b,o+i,none⟩ (.int .i64 (rM i)):=by
 have h1:=ti h 5 (n:= "internal/strconv.powtab") (d:=Rows.laid_internal_strconv_powtab) rfl;rw[agB]at h1;obtain⟨b,o,c,e1,e2⟩:=h1.WT bh (n9 bh) (e:=3) bh 0 ⟨.lit (.int .i64 1),.int .i64 1,[],rfl,bh⟩;refine⟨b,o,c,e1,fun i hi=>?_⟩;have hl:LF[i]?=some (rM i):=by
  unfold rM;rw[fD];have:i<LF.length:=hi;rw[gv this];rfl
 have:=e2 i (.lit (.int .i64 (rM i))) [.int .i64 (rM i)] (by unfold ptD;rw[gw,hl];rfl) (by unfold kv u_;rw[show Tryz.prog.underlying 3=some (.int .i64) by kernel_rfl];rfl) 0 _ rfl;rw[show Tryz.prog.cellsOf 3=1 by kernel_rfl,Nat.mul_one,Nat.add_zero]at this;exact this
theorem apV:∃b o c,aO (gM W) ⟨16,0,none⟩ (.slice (some ⟨b,o,none⟩) 61 c)/\∀i,i<61->aO (gM W) ⟨b,o+i*2,none⟩ (.int .i64 (kB i).1)/\aO (gM W) ⟨b,o+i*2+1,none⟩ (.string (kB i).2):=by
 have h1:=ti h 15 (n:= "internal/strconv.leftcheats") (d:=Rows.laid_internal_strconv_leftcheats) rfl;rw[agA]at h1;obtain⟨b,o,c,e1,e2⟩:=h1.WT bh (n9 bh) (e:=210) bh 1 ⟨.agg [.lit (.int .i64 0),.lit (.string [])],.int .i64 0,[.string ⟨#[]⟩],rfl,bh⟩;have hn:Sx.length=61:=bh;rw[hn]at e1;refine⟨b,o,c,e1,fun i hi=>?_⟩;have jY:i<Pinned.cheatRows.length:=by
  have:Pinned.cheatRows.length=61:=bh;omega
 have hl:Pinned.cheatRows[i]?=some ((kB i).1,(kB i).2.data.toList):=by
  unfold kB;rw[fD,gv jY];simp
 have hf:kv Tryz.prog 1 210 (.agg [.lit (.int .i64 (kB i).1),.lit (.string (kB i).2.data.toList)])=some [.int .i64 (kB i).1,.string ⟨(kB i).2.data.toList.toArray⟩]:=by
  kernel_rfl
 have h3:=e2 i _ _ (by unfold Sx;rw[gw,hl];rfl) hf;rw[show Tryz.prog.cellsOf 210=2 by kernel_rfl]at h3;have h4:=h3 1 _ rfl;rw[<-Nat.add_assoc,Array.toArray_toList]at h4;exact⟨h3 0 _ rfl,h4⟩
def lvD:List (List (DataW Unit)):=x8.map fun r=>r.map fun m=>.lit (.string m.data.toList)
theorem apW:∀n row,x8[n]?=some row->∃b o c,aO (gM W) ⟨3,n,none⟩ (.slice (some ⟨b,o,none⟩) row.length c)/\da (gM W) ⟨b,o,none⟩ (row.map string):=by
 have h1:=ti h 13 (n:= "pennant/esparse.levels") (d:=Rows.laid_pennant_esparse_levels) rfl;rw[show(Rows.laid_pennant_esparse_levels:DataW Unit)= .agg (lvD.map fun ds=>.slice ds []) by kernel_rfl]at h1;intro n row hn;have sc:∀m:ByteArray,u_ Tryz.prog 9 (.lit (.string m.data.toList))=some (.string m):=fun m=>by
  unfold u_;rw[show Tryz.prog.underlying 9=some .string by kernel_rfl]
 have jI:∃m r,row=m::r:=by
  have:(x8.all fun r=> !r.isEmpty)=true:=by decide
  have:=List.all_eq_true.1 this row (oU hn);cases row with
  |nil=>cases this
  |cons m r=>exact⟨m,r,rfl⟩
 obtain⟨m0,r0,rfl⟩:=jI;obtain⟨b,o,c,e1,e2⟩:=h1.aoe (t:=pJ 3) (k:=10) (e:=56) (s:=9) bh (n9 bh) bh bh bh bh n ((m0::r0).map fun m=>.lit (.string m.data.toList)) (by unfold lvD;rw[gw,hn];rfl) ⟨_,_,rfl,sc m0⟩;rw[List.length_map]at e1;refine⟨b,o,c,e1,fun j u hj=>?_⟩;rw[gw,Option.map_eq_some_iff]at hj;obtain⟨m,hm,rfl⟩:=hj;rw[sD];exact e2 j _ _ (by rw[gw,hm];rfl) (sc m)
theorem apS:vk (gM W):=by
 have DR:=h.tail.tail.tail.tail.tail.tail.tail.tail.tail.tail;have hi:Tryz.prog.underlying (pJ 8)=some (.interface (match Tryz.prog.underlying (pJ 8)with|some (.interface ms)=>ms|_=>#[])):=bh;have jY:Tryz.prog.underlying (pJ 7)=some (.interface (match Tryz.prog.underlying (pJ 7)with|some (.interface ms)=>ms|_=>#[])):=bh;have rG:Tryz.prog.underlying 166=some (.struct #[((match Tryz.prog.underlying 166 with|some (.struct fs)=>fs|_=>#[])[0]'(l7 bh))]):=bh;have hs:Tryz.prog.underlying 9=some .string:=bh;obtain⟨a1,s1,GZ,-⟩:=laid_sentinel DR bh (n9 bh) hi acy (te:=166) bh rG (ts:=9) bh bh hs bh bh;obtain⟨a2,s2,D3,-⟩:=laid_sentinel DR.tail bh (n9 bh) jY acy (te:=166) bh rG (ts:=9) bh bh hs bh bh;exact⟨⟨_,a2,zJ (World.var?_cell bh D3 0)⟩,⟨_,a1,zJ (World.var?_cell bh GZ 0)⟩⟩
end
section
variable{W:World}(h:W.ShapedOpen Tryz.prog)
include h
theorem abM(hg:g<Tryz.prog.globals.size)(hz:((((begin Tryz.prog (fun _ _=>0) default).world.heap[g]?).bind Obj.row?).map (·.2))=some t):sr (gM W) g t:=by
 obtain⟨⟨z,t'⟩,h0,e⟩:=Option.map_eq_some_iff.1 hz;have e:t'=t:=e;subst e;obtain⟨cs,hh,-,-⟩:=h.1 g z t' hg h0;exact⟨fun I m o hc hA=>⟨cs,hc _ _ ((show a7.le (hp W) I from hA) _ _ hh)⟩⟩
theorem aou{k:IntKind}{zero:Array Value}(hg:g<Tryz.prog.globals.size)(h0:((begin Tryz.prog (fun _ _=>0) default).world.heap[g]?).bind Obj.row?=some (zero,t))(hz:zero.size=1)
  (hb:Tryz.prog.buildable t=true) (hc:Tryz.prog.cellTypes Tryz.prog.depth t=some [t]) (hu:Tryz.prog.underlying t=some (.int k)):∃m,aO (gM W) ⟨g,0,none⟩ (.int k m):=by
 obtain⟨cs,hh,hs,hr⟩:=h.1 g zero t hg h0;obtain⟨ts,GY,_,sW⟩:=hr hb;rw[hc]at GY;cases GY;have h1:0<cs.size:=af;obtain⟨u,hu',ii⟩:=sW 0 cs[0] (by simp[h1]);have:u=t:=by simpa using hu'.symm
 subst this;have xD:W.cell? ⟨g,0,none⟩=some cs[0]:=by simp[World.cell?,hh,h1]
 unfold Cell.ok at ii;rw[hu]at ii
 suffices hx:∃m,cs[0]= .int k m by
  obtain⟨m,hm⟩:=hx;exact⟨m,zJ (by rw[xD,hm])⟩
 cases hv:cs[0] <;> rw[hv]at ii <;> simp at ii
 rename_i k' m
 exact⟨m,by first|rw[ii]|rw[ii.1]⟩
end
noncomputable def QW:cj where
 nv:=me (Ly (zk wP kB))
 tv:=pn wP
 rd F:=ic wP kB F/\vk F/\mr wP F
 mono h hs:=⟨h.1.sub hs,h.2.1.sub hs,h.2.2.sub hs⟩
 rest hj h:=⟨h.1.sub (qN _ hj rfl),h.2.1.sub (qN _ hj rfl),h.2.2.sub (qN _ hj rfl)⟩
theorem ah8{W:World}(h:laidMet Tryz.prog aah W)(hs:W.ShapedOpen Tryz.prog):eT QW (gM W)/\jA (gM W):=by
 have mx:∃m,aO (gM W) ⟨4,0,none⟩ (.int .i64 m):=aou hs (t:=3) (zero:=#[.int .i64 0]) (l7 bh) bh rfl bh bh bh;obtain⟨i0,i1,i2⟩:=apU h;exact⟨⟨⟨ap1 h,mx,apX h⟩,⟨acz h,i0,i1,i2,apY h,abM hs (l7 bh) bh,abM hs (l7 bh) bh,apT h,ap0 h,apV h⟩,apS h,⟨apZ h,mx⟩,acz h⟩,apR h,apW h⟩
end
section
open Go
def uI(t:ByteArray):List ByteArray->Nat->Int
 | [],_=> -1
 |m::r,k=>bif bW t m then (k:Int) else uI t r (k+1)
theorem Z_(t:ByteArray):∀(l:List ByteArray)(k:Nat),decide (uI t l k>=0)=dy l t
 | [],k=>by simp[uI,dy]
 |m::r,k=>by
  have ih:=Z_ t r (k+1);unfold dy at ih⊢;rw[uI,List.any_cons];cases bW t m with
  |true=>simp
  |false=>rw[aU,Bool.false_or];exact ih
structure ue where
 b:Nat
 o:Nat
 c:Nat
 row:List ByteArray
 t:ByteArray
def rR(x:ue):Option Addr:=some ⟨x.b,x.o,none⟩
def BN:aR where
 X:=ue
 args x:=[au (rR x) x.row.length x.c,aj x.t]
 cond x:=x.row.length<=1000
 aQ x F:=da F ⟨x.b,x.o,none⟩ (x.row.map string)
 val x _:=az (ae (uI x.t x.row 0))
structure FK where
 k:Nat
def aj1(x:ue)(F:ai):Nat->Option Inv:=fun
 |0=>some {X:=FK,P:=fun d=>d.k<=x.row.length/\uI x.t x.row 0=uI x.t (x.row.drop d.k) d.k,mu:=fun d=>x.row.length-d.k,lv:=fun d=>[(0,au (rR x) x.row.length x.c),(1,aj x.t),(7,ae x.row.length),(8,ae d.k)],st:=fun _=>[F]}
 |_=>none
def MU(a:FK)(x:ue):=a.k<=x.row.length/\uI x.t x.row 0=uI x.t (List.drop a.k x.row) a.k
theorem aj7(x:ue)(F:ai)(hc:BN.cond x)(hr:BN.aQ x F):(∃(a:FK),MU a x/\(au (rR x) x.row.length x.c=au (rR x) x.row.length x.c/\aj x.t=aj x.t/\ae ↑x.row.length=ae ↑x.row.length/\ae 0=ae ↑a.k/\True)/\aD [(0,F)] [(0,F)])/\aS fun(e:FK)_=>MU e x->aP ((e.k:Int)<(x.row.length:Int)) (kl (a8 Tryz.f40 4 3) [au (rR x) x.row.length x.c,ae ↑e.k] (fun c=>T2 F ⟨c.b,c.o+c.n.toNat*1,none⟩ (fun b=>Br (x.t.toList==b.toList) (aq BN x F (az (ae ↑e.k)) [(0,F)]) (((-9223372036854775808:Int)<=(e.k:Int)+1/\(e.k:Int)+1<=(9223372036854775807:Int))/\∃(a:FK),MU a x/\(au (rR x) x.row.length x.c=au (rR x) x.row.length x.c/\aj x.t=aj x.t/\ae ↑x.row.length=ae ↑x.row.length/\ae ((e.k:Int)+1)=ae ↑a.k/\True)/\aD [(0,F)] [(0,F)]/\x.row.length-a.k<x.row.length-e.k)))) (aq BN x F u2 [(0,F)]):=by
 delta MU rR kl T2 u2 ae aj au aP az aS;obtain⟨b,o,c,row,t⟩:=x;have hn:row.length<=1000:=hc;replace hr:da F ⟨b,o,none⟩ (row.map string):=hr;dsimp only;refine⟨⟨⟨0⟩,⟨dC _,rfl⟩,aV,aB [0]⟩,?_⟩;rintro⟨k⟩ js ⟨h1,h2⟩;dsimp only at h1 h2⊢;refine bl (fun bP=>?_) (fun jn=>⟨(),ao,At ?_,aB [0]⟩)
 ·obtain⟨m,hm⟩:∃m,row[k]?=some m:=⟨_,gv af⟩;have hd:row.drop k=m::row.drop (k+1):=by
   obtain⟨hk,rfl⟩:=mG.1 hm;exact List.drop_eq_getElem_cons hk
  rw[hd,uI]at h2;have lk:aO F ⟨b,o+(k:Int).toNat*1,none⟩ (.string m):=by
   have:=hr k (.string m) (by rw[gw,hm];rfl);rw[sD]at this;rw[show(k:Int).toNat*1=k by omega];exact this
  refine⟨jp 1 rfl rfl rfl rfl,⟨b,o,row.length,c,k⟩,rfl,bd,m,lk,aG (fun hg=>⟨(),ao,At ?_,aB [0]⟩) (fun hg=>⟨aJ,⟨k+1⟩,⟨bd,?_⟩,aV,aB [0],bd⟩)⟩
  ·rw[gj]at hg;rw[hg]at h2;exact h2.symm
  ·rw[gj]at hg;rw[hg]at h2;exact h2
 ·rw[h2,List.drop_eq_nil_of_le af];rfl
theorem aj6:aC 40 BN:=fo 19 Tryz.func40 (fun _ _=>[(4,3,.qo (h_ 1)),(4,4,.q [.ex 0 .str])]) [] aj1 aY bz [] aj7
def Bn:aR where
 X:=ue
 args x:=[au (rR x) x.row.length x.c,aj x.t]
 cond x:=x.row.length<=1000
 aQ x F:=da F ⟨x.b,x.o,none⟩ (x.row.map string)
 val x _:=az (ak (dy x.row x.t))
def EW(x:ue):List Value:=[au (rR x) x.row.length x.c,aj x.t]
theorem agu(x:ue)(F:ai)(hc:Bn.cond x)(hr:Bn.aQ x F):aC 40 BN/\true=true/\∃(b:ue),(EW x)=(EW b)/\([]:List ai)=[]/\b.row.length<=1000/\da (cX F) ⟨b.b,b.o,none⟩ (List.map aj b.row)/\∀(a:Unit),True->aq Bn x F (az (ak (decide (uI b.t b.row 0>=0)))) [(0,F)]:=by
 delta rR EW cX aH aj ak au az;exact bp aj6 x hc (da.rest (j:=0) aM hr) fun _ _=>⟨(),ao,mh (Z_ _ _ _),aB [0]⟩
theorem YA:aC 25 Bn:=fo 9 Tryz.func25 (fun _ _=>[(1,2,aX BN)]) [] aY aY bz [] agu
def ar.args:ar->List Value
 | .level n=>[.int .i64 n]
 | .func k=>[.int .i64 k]
 | .block b=>[.bool b]
 | .ef p=>[.int .i64 p]
 | .eQ p=>[.int .i64 p]
 | .choose p=>[.int .i64 p]
 | .simple d=>[.agg ⟨mb d⟩]
 | .cS b=>[.bool b]
 |_=>[]
def ar.bO:ar->Option FuncId
 | .bx=>some 14
 | .cond=>some 23
 | .level _=>some 37
 | .unary=>some 64
 | .gf=>some 77
 | .suffix=>some 92
 | .fx=>some 106
 | .func _=>some 43
 | .block _=>some 30
 | .paren=>some 44
 | .vars=>some 41
 | .loop=>some 45
 | .ef _=>some 46
 | .eQ _=>some 47
 | .choose _=>some 48
 | .simple _=>some 42
 | .cS _=>some 17
 |_=>none
structure PG(x:co)(s:aw)(os:List Int):Prop where
 i:s.i<=x.L.length
 fo:bX x.fin s os
 nd:s.nodes.length<=2*s.i
 f:0<=s.bQ/\s.bQ<=s.i
 l:0<=s.loops/\s.loops<=s.i
 b:0<=s.bI/\s.bI<=s.i
theorem PG.step{x:co}{s:aw}{os:List Int}(h:PG x s os)(hi:s.i<x.L.length):PG x s.ay os:=by
 obtain⟨h1,h2,h3,h4,h5,h6⟩:=h;exact⟨hi,h2.same rfl,by dsimp only[aw.ay];omega,by dsimp only[aw.ay];omega,by dsimp only[aw.ay];omega,by dsimp only[aw.ay];omega⟩
theorem PG.is{x:co}{s:aw}{os:List Int}(h:PG x s os){t:ByteArray}(hi:bE x.L s 0 t=true):PG x s.ay os:=h.step (j5 hi)
theorem PG.kf{x:co}{s:aw}{os:List Int}(h:PG x s os){k:Int}(hk:k∈os):0<=k/\k<s.nodes.length:=h.fo.kf hk
theorem PG.cast{x:co}{s:aw}{os ps:List Int}(h:PG x s os)(e:os=ps):PG x s ps:=e▸h
theorem PG.node{x:co}{s:aw}{os:List Int}{n:cA}(h:PG x s (os++n.aF))(hp:0<=n.pos/\n.pos<=x.fin)(hn:s.nodes.length+1<=2*s.i):PG x (s.add n) (os++[(s.nodes.length:Int)]):=by
 obtain⟨h1,h2,h3,h4,h5,h6⟩:=h;exact⟨h1,h2.node hp,by dsimp only[aw.add];rw[gi];exact hn,h4,h5,h6⟩
abbrev bo(K:cj)(x:co)(n:Nat)(tag:ar)(s:aw):PR (List Int):=P x.L x.fin K.tv br n tag s
structure iu(K:cj)(x:co):Prop extends PaK K x where
 dQ:gq x.L x.fin
theorem PG.run{K:cj}{x:co}(hK:iu K x){f:Nat}{tag:ar}{s t:aw}{os ks:List Int}(h:PG x s os)(hp:tag.cL x.fin)(hn:tag.cC x.L s)(hi:tag.dQ=[])(hs:tag.sk=0)(e:bo K x f tag s= .ok ks t):PG x t (os++ks)/\(tag.BU=false->∃k,ks=[k])/\s.i<=t.i/\t.nodes.length+2*s.i+tag.sl<=s.nodes.length+2*t.i/\t.bQ=s.bQ/\t.loops=s.loops/\t.bI=s.bI/\s.nodes.length<=t.nodes.length:=by
 obtain⟨h1,h2,h3,h4,h5,h6⟩:=h;have k:Kp x.L tag s t:=Xs (fin:=x.fin) (aL:=K.tv) (wide:=br) f tag s h1 hn ks t e;have w:=OV (aL:=K.tv) (wide:=br) hK.dQ f tag s os hp (by rw[hi,dJ];exact h2);unfold WP at w;rw[show P x.L x.fin K.tv br f tag s= .ok ks t from e]at w;obtain⟨w1,w2⟩:=w;obtain⟨k1,k2,k3,k4,k5,k6,k7⟩:=k;rw[hs]at k4;exact⟨⟨k2,w1,af,af,af,af⟩,w2,k1,af,k5,k6,k7,k3⟩
theorem PG.cap{x:co}{s:aw}{os:List Int}(h:PG x s os)(hl:x.L.length<=1048576):s.nodes.length<=2097152:=by
 have:=h.nd;have:=h.i;omega
variable{rr:ai}{pp:List ai}{aa:List Value}{u:aw}{q:Prop}
theorem PG.yO{K:cj}{x:co}(hK:iu K x){s:aw}{os:List Int}(h:PG x s os)(e:fy x.L x.fin s= .ok () u):PG x u os/\s.i<=u.i/\u.nodes.length=s.nodes.length/\u.bQ=s.bQ/\u.loops=s.loops/\u.bI=s.bI:=by
 have k:Dk x.L 0 0 s u\/Dk x.L 1 0 s u:=FO (Q:=fun _ t=>Dk x.L 0 0 s t\/Dk x.L 1 0 s t) (L:=x.L) (fin:=x.fin) h.i (fun t ht=>ht) () u e;have w:u.nodes=s.nodes:=by
  have w:=Gg (fin:=x.fin) (Q:=fun _ t=>t.nodes=s.nodes) (s:=s) hK.dQ (fun t ht=>ht);unfold WP at w;rw[e]at w;exact w
 obtain⟨h1,h2,h3,h4,h5,h6⟩:=h;have hn:u.nodes.length=s.nodes.length:=by rw[w]
 exact⟨⟨af,h2.same w,af,af,af,af⟩,af,hn,af,af,af⟩
theorem PG.key{K:cj}{x:co}(hK:iu K x){s:aw}{os:List Int}{k:Int}(h:PG x s os)(e:eV x.L x.fin K.tv br s= .ok k u):PG x u (os++[k])/\u.i=s.i+1/\u.nodes.length=s.nodes.length+1/\u.bQ=s.bQ/\u.loops=s.loops/\u.bI=s.bI:=by
 have q:Dk x.L 1 1 s u:=KP.key (Q:=fun _ t=>Dk x.L 1 1 s t) (L:=x.L) (fin:=x.fin) (aL:=K.tv) (wide:=br) (fun _ t ht=>ht) k u e;have w:bX x.fin u (os++[k]):=by
  have w:=WP.key (fin:=x.fin) (aL:=K.tv) (wide:=br) (Q:=fun k t=>bX x.fin t (os++[k])) (s:=s) hK.dQ h.fo (fun k t ht=>ht);unfold WP at w;rw[e]at w;exact w
 obtain⟨h1,h2,h3,h4,h5,h6⟩:=h;exact⟨⟨af,w,af,af,af,af⟩,af,af,af,af,af⟩
theorem w9{K:cj}{x:co}(hK:iu K x)(s:aw):0<=(aI x.L x.fin s).pos/\(aI x.L x.fin s).pos<=x.fin:=kW hK.dQ s
theorem PG.pos{x:co}{s:aw}{os:List Int}(h:PG x s os){k:Int}(hk:k∈os):0<=dG s k/\dG s k<=x.fin:=h.fo.uS hk
def ar.cU(s:aw):ar->Prop
 | .loop=>s.loops<s.i/\s.bI<s.i
 |_=>True
structure pA where
 K:cj
 x:co
 s:aw
 os:List Int
 tag:ar
def cG(n:Nat)(bO:FuncId):aR where
 X:=pA
 Y:=(Int×aw) ⊕ (Int×Int)
 args x:=ah (some ⟨x.x.b,0,none⟩)::x.tag.args
 pre x:=[al x.x x.s]
 cond x:=iu x.K x.x/\PG x.x x.s x.os/\x.tag.bO=some bO/\x.tag.cL x.x.fin/\x.tag.cC x.x.L x.s/\x.tag.cU x.s/\bo x.K x.x n x.tag x.s≠.out
 aQ x F:=cI x.K x.x F
 cd x y:=match y with
  | .inl a=>bo x.K x.x n x.tag x.s= .ok [a.1] a.2
  | .inr a=>∃t,bo x.K x.x n x.tag x.s= .stop a.1 a.2 t
 val x y:=match y with
  | .inl a=>.returned (.int .i64 a.1)
  | .inr a=>.panicked [⟨jy a.1 a.2,false,false⟩]
 post x y:=match y with
  | .inl a=>[al x.x a.2]
  | .inr _=>[]
 eX _ _ _ hs h:=cI.sub hs h
 sum:=some (iX (Int×aw) (Int×Int))
structure bg(T:Type)where
 K:cj
 x:co
 s:aw
 os:List Int
 n:Nat
 t:T
def bk{T:Type}(tg:T->ar):aR where
 X:=bg T
 Y:=(Int×aw) ⊕ (Int×Int)
 args x:=ah (some ⟨x.x.b,0,none⟩)::(tg x.t).args
 pre x:=[al x.x x.s]
 cond x:=(∀bO,aC bO (cG x.n bO))/\iu x.K x.x/\PG x.x x.s x.os/\(tg x.t).cL x.x.fin/\(tg x.t).cC x.x.L x.s/\(tg x.t).cU x.s/\bo x.K x.x (x.n+1) (tg x.t) x.s≠.out
 aQ x F:=cI x.K x.x F
 cd x y:=match y with
  | .inl a=>bo x.K x.x (x.n+1) (tg x.t) x.s= .ok [a.1] a.2
  | .inr a=>∃t,bo x.K x.x (x.n+1) (tg x.t) x.s= .stop a.1 a.2 t
 val x y:=match y with
  | .inl a=>.returned (.int .i64 a.1)
  | .inr a=>.panicked [⟨jy a.1 a.2,false,false⟩]
 post x y:=match y with
  | .inl a=>[al x.x a.2]
  | .inr _=>[]
 eX _ _ _ hs h:=cI.sub hs h
 sum:=some (iX (Int×aw) (Int×Int))
theorem oy{T:Type}{tg:T->ar}{bO:FuncId}{n:Nat}(h:aC bO (bk tg))(hf:∀tag:ar,tag.bO=some bO->∃t,tg t=tag)(ih:∀bO,aC bO (cG n bO)):aC bO (cG (n+1) bO):=h.DE fun q F I w hc hr hs=>by
 obtain⟨K,x,s,os,tag⟩:=q;obtain⟨h1,h2,h3,h4,h5,h6,h7⟩:=hc;obtain⟨t,rfl⟩:=hf tag h3;exact⟨⟨K,x,s,os,n,t⟩,I,a7.le_refl I,⟨ih,h1,h2,h4,h5,h6,h7⟩,hr,rfl,hs,fun y hy=>⟨y,hy,rfl,aD.refl _⟩⟩
structure Rn{α:Type}(m:PR (List Int))(kk:Int->aw->PR α)(r:PR α):Prop where
 o:m≠.out
 p:∀a e u,m= .stop a e u->r= .stop a e u
 k:∀c t,m= .ok [c] t->kk c t=r
section
variable{α:Type}{m:PM (List Int)}{s:aw}{r:PR α}
theorem CF{k:List Int->PM α}(hk:(m>>=k) s=r)(ho:r≠.out):Rn (m s) (fun c=>k [c]) r:=
 ⟨Ob (by rw[hk];exact ho),fun _ _ _ q=>hk.symm.trans (Fs q),fun _ _ q=>(Fq q).symm.trans hk⟩
theorem fL{k:Int->PM α}(hk:(one m>>=k) s=r)(ho:r≠.out):Rn (m s) k r:=
 ⟨WV (by rw[hk];exact ho),fun _ _ _ q=>hk.symm.trans (ab4 q),fun _ _ q=>(ab3 q).symm.trans hk⟩
end
theorem wI{m r:PR (List Int)}(hk:m=r)(ho:r≠.out):Rn m (fun c t=>.ok [c] t) r:=
 ⟨fun e=>ho (hk.symm.trans e),fun _ _ _ q=>hk.symm.trans q,fun _ _ q=>q.symm.trans hk⟩
theorem ca{f:FuncId}{n:Nat}{K:cj}{x:co}{tag:ar}{s:aw}{os:List Int}{α:Type}{kk:Int->aw->PR α}{r:PR α}{k0:pA->Int×aw->Prop}{k1:pA->Int×Int->Prop}
  (G:PG x s os) (hk:Rn (bo K x n tag s) kk r)
  (xx:∀c t,kk c t=r->PG x t (os++[c])->s.i<=t.i->t.nodes.length+2*s.i+tag.sl<=s.nodes.length+2*t.i->t.bQ=s.bQ->t.loops=s.loops->t.bI=s.bI->s.nodes.length<=t.nodes.length->k0 ⟨K,x,s,os,tag⟩ (c,t))
  (cL:tag.cL x.fin:=by exact ao) (cC:tag.cC x.L s:=by exact ao) (cU:tag.cU s:=by exact ao)
  (hr:cI K x rr:=by first|exact cI.sub (b_ 1) (by assumption)|exact cI.sub (b_ 0) (by assumption)|exact cI.sub (b_ 2) (by assumption)|exact cI.sub (b_ 3) (by assumption)|exact cI.sub (b_ 4) (by assumption))
  (stop:∀a:Int×Int,(∃u,r= .stop a.1 a.2 u)->k1 ⟨K,x,s,os,tag⟩ a:=by
   intro a h;obtain⟨u,q⟩:=h
   try intro _
   first|exact⟨.inr a,⟨u,Eq.trans (by assumption) q⟩,rfl,aB [1]⟩|exact⟨.inr a,⟨u,Eq.trans (by assumption) q⟩,rfl,aB [0]⟩|exact⟨.inr a,⟨u,Eq.trans (by assumption) q⟩,rfl,aB [2]⟩|exact⟨.inr a,⟨u,Eq.trans (by assumption) q⟩,rfl,aB [3]⟩|exact⟨.inr a,⟨u,Eq.trans (by assumption) q⟩,rfl,aB [4]⟩)
  (ih:∀bO,aC bO (cG n bO):=by assumption) (hK:iu K x:=by assumption)
  (hf:tag.bO=some f:=by exact rfl) (ha:aa= .pointer (some ⟨x.b,0,none⟩)::tag.args:=by exact rfl) (hp:pp=[al x s]:=by exact rfl) (hi:tag.dQ=[]:=by exact rfl) (hs:tag.sk=0:=by exact rfl):
  aC f (cG n f)/\true=true/\∃z:pA,aa= .pointer (some ⟨z.x.b,0,none⟩)::z.tag.args/\pp=[al z.x z.s]/\
   (iu z.K z.x/\PG z.x z.s z.os/\z.tag.bO=some f/\z.tag.cL z.x.fin/\z.tag.cC z.x.L z.s/\z.tag.cU z.s/\bo z.K z.x n z.tag z.s≠.out)/\cI z.K z.x rr/\
   (∀a:Int×aw,bo z.K z.x n z.tag z.s= .ok [a.1] a.2->k0 z a)/\(∀a:Int×Int,(∃t,bo z.K z.x n z.tag z.s= .stop a.1 a.2 t)->k1 z a):=by
 refine⟨ih _,rfl,⟨K,x,s,os,tag⟩,ha,hp,⟨hK,G,hf,cL,cC,cU,hk.o⟩,hr,fun a q=>?_,fun a⟨u,q⟩=>stop a ⟨u,hk.p _ _ _ q⟩⟩;obtain⟨c,t⟩:=a;obtain⟨g,-,i1,i2,i3,i4,i5,i6⟩:=PG.run hK G cL cC hi hs q;exact xx c t (hk.k _ _ q) g i1 i2 i3 i4 i5 i6
theorem ma{α:Type}{x:co}{T:ByteArray}{s:aw}{os:List Int}{k:Unit->PM α}{r:PR α}{k0 k1:jB->Unit->Prop}
  (G:PG x s os) (hk:(dn x.L x.fin T>>=k) s=r) (xx:k () s.ay=r->PG x s.ay os->k0 ⟨x,s,T⟩ ()) (hl:x.L.length<=1048576:=by assumption)
  (hr:fW x rr:=by first|exact fW.sub (b_ 1) (cI.ls (by assumption))|exact fW.sub (b_ 0) (cI.ls (by assumption))|exact fW.sub (b_ 2) (cI.ls (by assumption))|exact fW.sub (b_ 3) (cI.ls (by assumption))|exact fW.sub (b_ 4) (cI.ls (by assumption)))
  (stop:r= .stop (aI x.L x.fin s).pos 60 s->k1 ⟨x,s,T⟩ ():=by
   intro q
   first|exact⟨.inr (_,_),⟨_,Eq.trans (by assumption) q⟩,rfl,aB [1]⟩|exact⟨.inr (_,_),⟨_,Eq.trans (by assumption) q⟩,rfl,aB [0]⟩|exact⟨.inr (_,_),⟨_,Eq.trans (by assumption) q⟩,rfl,aB [2]⟩|exact⟨.inr (_,_),⟨_,Eq.trans (by assumption) q⟩,rfl,aB [3]⟩|exact⟨.inr (_,_),⟨_,Eq.trans (by assumption) q⟩,rfl,aB [4]⟩)
  (ha:aa=[.pointer (some ⟨x.b,0,none⟩),.string T]:=by exact rfl) (hp:pp=[al x s]:=by exact rfl):
  aC 39 jd/\true=true/\∃z:jB,aa=[.pointer (some ⟨z.x.b,0,none⟩),.string z.t]/\pp=[al z.x z.s]/\(z.x.L.length<=1048576/\z.s.i<=z.x.L.length)/\fW z.x rr/\
   (∀a:Unit,bE z.x.L z.s 0 z.t=true->k0 z a)/\(∀a:Unit,bE z.x.L z.s 0 z.t=false->k1 z a):=
 ⟨alp,rfl,⟨x,s,T⟩,ha,hp,⟨hl,G.i⟩,hr,fun _ q=>xx ((wO q).symm.trans hk) (G.is q),fun _ q=>stop (hk.symm.trans (IH q))⟩
theorem eH{p:Prop}(h:q)(g:q->p:=by exact fun h=>⟨.inl (_,_),h,rfl,aB [0,1]⟩):p:=g h
theorem Kc{p:Prop}(h:q)(g:q->p:=by exact fun h=>⟨.inl (_,_,true),.inl ⟨rfl,h⟩,rfl,aB [0,1]⟩):p:=g h
end
section
open Go
theorem afl{F:ai}(h:jA F):da F ⟨0,0,none⟩ (xq.map string):=fun j u hj=>by
 rw[gw]at hj;cases hm:xq[j]? with
 |none=>rw[hm]at hj;cases hj
 |some m=>
  rw[hm]at hj;cases hj;rw[sD,jk];exact h.X8 j m hm
theorem oZ{i:Nat}(h:i<=1048576): -9223372036854775808<=(i:Int)+1/\(i:Int)+1<=9223372036854775807:=af
theorem aks(b:Nat)(ks:List Int):bv 3 1 (bC ks) ⟨some ⟨b,0,none⟩,ks.length,ks.length,.cells b (bC ks) 3⟩:=by
 have:=bv.gg (e:=3) (k:=1) (cs:=bC ks) b ks.length ks.length [] (by rw[D6,Nat.mul_one]) (by rw[dJ,D6,Nat.mul_one]) (cr _);rw[dJ]at this;exact this
def mc(b:Nat)(ks:List Int):Row:=⟨some ⟨b,0,none⟩,ks.length,ks.length,.cells b (bC ks) 3⟩
theorem kC(b:Nat)(ks:List Int):bv 3 1 (bC ks) (mc b ks):=aks b ks
def ag9(x:bg Unit)(_F:ai):List (Nat×Nat×OH):=[(1,1,bq (cG x.n 23)),(2,1,aX jm),(2,2,.n 3020),(2,3,.w (eF 3020)),(3,1,aT 3020),(3,4,.qo (vy 6)),(3,6,aT 3020),(3,7,aX Bn),(5,2,bq B5),(6,3,dm),(6,7,dO fS),(7,1,bq (cG x.n 14)),(8,2,aT 3020),(8,5,.n 9050),(8,8,bq vz),(8,10,.c fR [0,9050] [0])]
def ag8:Nat->List Nat:=fun r=>if r=8 then [0,1,2,3,4,6,7,8,5,9,10,11] else []
def cw(nn:Nat)(ff:FuncId)(aa:List Value)(pp:List ai)(rr:ai)(k0:pA->Int×aw->Prop)(k1:pA->Int×Int->Prop):=aC ff (cG nn ff)/\true=true/\∃(z:pA),aa=ah (some ⟨z.x.b,0,none⟩)::z.tag.args/\pp=[al z.x z.s]/\(iu z.K z.x/\PG z.x z.s z.os/\z.tag.bO=some ff/\ar.cL z.x.fin z.tag/\ar.cC z.x.L z.s z.tag/\ar.cU z.s z.tag/\bo z.K z.x nn z.tag z.s≠PR.out)/\cI z.K z.x rr/\(∀(u0:Int×aw),bo z.K z.x nn z.tag z.s=PR.ok [u0.fst] u0.snd->k0 z u0)/\∀(u1:Int×Int),(∃(w0:aw),bo z.K z.x nn z.tag z.s=PR.stop u1.fst u1.snd w0)->k1 z u1
def cg(x:bg Unit):Option Addr:=some ⟨x.x.b,0,none⟩
def eb(x:bg Unit):List Value:=[ah (cg x)]
def wD(x:bg Unit)(F:ai):=aH [(0,al x.x x.s),(1,F)] [0]
def mS(u:pA)(t:Int×aw)(F:ai):=[(0,al u.x t.snd),(1,F)]
def Aj(s:c8):=(cu s.L s.fin s.i).kind !=5
def kI(t:Int×aw):=az (ae t.fst)
def zX(u:pA)(t:Int×aw)(F:ai)(q:Nat)(s:c8):=[(0,al u.x t.snd),(1,F),(3020,ag q (q0 s) 53)]
def Jz(aa:List Value)(rr:ai)(k0:ue->Unit->Prop):=aC 25 Bn/\true=true/\∃(z:ue),aa=(EW z)/\([]:List ai)=[]/\z.row.length<=1000/\da rr ⟨z.b,z.o,none⟩ (List.map aj z.row)/\∀(u0:Unit),True->k0 z u0
def F4(aa:List Value)(pp:List ai)(k0:Db->Unit->Prop)(k1:Db->Unit->Prop):=aC 26 B5/\true=true/\∃(z:Db),aa=[ah (some ⟨z.x.b,0,none⟩),ae z.k,ak z.jr]/\pp=[al z.x z.s]/\(0<=z.k/\z.k<z.s.nodes.length)/\True/\(∀(u0:Unit),lO z.s z.k z.jr=false->k0 z u0)/\∀(u1:Unit),lO z.s z.k z.jr=true->k1 z u1
def pd(x:bg Unit)(k:Int):List Value:=[ah (some ⟨x.x.b,1,none⟩),ae (k+1)]
def uq(aa:List Value)(pp:List ai)(k0:I1->Unit->Prop):=aC 27 vz/\true=true/\∃(z:I1),aa=[ah (some ⟨z.x.b,0,none⟩),ae z.k]/\pp=[al z.x z.s]/\(0<=z.k/\z.k<z.s.nodes.length)/\True/\∀(u0:Unit),True->k0 z u0
def ci(b:Int×Int):=dK b.fst b.snd
def iV(F:ai):=[(0,ba),(1,F)]
theorem aha(x:bg Unit)(F:ai)(hc:aR.cond (bk (fun(_:Unit)=>ar.bx)) x)(hr:aR.aQ (bk (fun(_:Unit)=>ar.bx)) x F):cw x.n 23 (eb x) [al x.x x.s] (wD x F) (fun u t=>fm (eb x) (aH (mS u t F) []) (fun s r=>∀(q:Nat),cF q (true=true/\ax q 0/\Br (Aj s) (aq (bk fun(a:Unit)=>ar.bx) x F (kI t) (zX u t F q s)) (dH Tryz.prog (a8 Tryz.f14 3 4) (vy 6)/\∃(p:y7),[ah (some ⟨0,0,none⟩)]=[ah (some p.a)]/\(p.a.off=0/\p.a.spot=none)/\ax q 1/\Jz [au (some p.a) 6 6,aj (cu s.L s.fin s.i).text] (aH (zX u t F q s) []) (fun o n=>Br (!dy o.row o.t) (aq (bk fun(a:Unit)=>ar.bx) x F (kI t) (zX u t F q s)) (F4 [ah (cg x),ae t.fst,ak true] [al u.x t.snd] (fun m l=>T1 (al m.x m.s) ⟨x.x.b,1,none⟩ (fun k=>dw k/\dI (a8 Tryz.f14 6 7) (pd x k) [al m.x m.s] (fun j i=>cw x.n 14 (eb x) [al j.x j.t] (aH [(0,al j.x j.t),(1,F),(3020,ag q (q0 s) 53)] [0]) (fun h g=>true=true/\ax q 1/\uq [ah (cg x),ae t.fst] [al h.x g.snd] (fun f e=>∀(d:Nat),dc [ah (cg x),agg ⟨[ae 16,aj (cu s.L s.fin s.i).text,float f64 0,au (bJ d) 2 2,ae (dG f.s f.k)]⟩] [al f.x f.s,ag d [ae t.fst,ae g.fst] 3] (fun c b=>aq (bk fun(a:Unit)=>ar.bx) x F (fK c) [(0,al c.x (c.s.add c.n)),(1,F),(3020,ag q (q0 s) 53),(9050,ba)]))) (fun h b=>aq (bk fun(a:Unit)=>ar.bx) x F (ci b) [(0,ba),(1,F),(3020,ag q (q0 s) 53)])))) (fun m b=>aq (bk fun(a:Unit)=>ar.bx) x F (dK (dG m.s m.k) 61) [(0,ba),(1,F),(3020,ag q (q0 s) 53)]))))))) (fun u b=>aq (bk fun(a:Unit)=>ar.bx) x F (ci b) (iV F)):=by
 delta cw cg eb wD je fm mS Aj kI q0 zX rR EW Jz F4 T1 dw mT mU dI pd uq lR lS dc bJ lm fK ci iV dK aH al ax cF ae aj ak ah au ag ba az;obtain⟨K,x,s,os,n,tp⟩:=x;obtain⟨ih,hK,hG,hp,dP,cJ,ho⟩:=hc;replace hr:cI K x F:=hr;replace ho:bo K x (n+1) .bx s≠.out:=ho;dsimp only at ih hK hG hp dP cJ⊢;obtain⟨r,e0⟩:∃r,bo K x (n+1) .bx s=r:=⟨_,rfl⟩;rw[e0]at ho;have hk:=e0;unfold bo at hk;rw[P]at hk;have hl:=hK.len;refine ca hG (fL hk ho) (fun k t1 hk g1 gJ gL gH gK gF gS=>?_) (cL:=ao) (cC:=ao) (cU:=ao);dsimp only[ar.sl,aw.ay,aw.add]at gJ gL gH gK gF gS;rw[pl]at hk;refine bp l9 (x.p t1) hl (hr.ls.di 0 1 aM aM rfl rfl) fun _ _ c=>?_
 repeat (refine⟨ap,?_⟩)
 refine⟨rfl,ap,aG (fun h1=>?_) (fun h1=>?_)⟩
 ·replace h1:((aI x.L x.fin t1).kind !=5)=true:=h1;rw[h1,Bool.true_or,bf]at hk;exact eH (e0.trans hk.symm)
 replace h1:((aI x.L x.fin t1).kind !=5)=false:=h1;refine⟨JV rfl rfl rfl rfl rfl,⟨⟨0,0,none⟩⟩,rfl,ap,ap,YA,rfl,⟨0,0,6,xq,(aI x.L x.fin t1).text⟩,rfl,rfl,by show 6<=1000;omega,da.rest (j:=1) aM (afl hr.gp),fun _ _=>aG (fun h2=>?_) (fun h2=>?_)⟩
 ·replace h2:(!dy xq (aI x.L x.fin t1).text)=true:=h2;rw[h2,n7,bf]at hk;exact eH (e0.trans hk.symm)
 replace h2:(!dy xq (aI x.L x.fin t1).text)=false:=h2;rw[h1,h2,Bool.or_false,aU]at hk;have hi:t1.i<x.L.length:=xG (fin:=x.fin) (fun e=>by rw[e]at h1;cases h1);refine bV Lz ⟨x,t1,k,true⟩ (g1.kf aM) ⟨fun _ q=>?_,fun _ q=>⟨.inr (_,_),⟨_,e0.trans (hk.symm.trans (Od q))⟩,rfl,aB [1]⟩⟩;rw[Oe q]at hk;rw[mn]at hk;refine⟨_,d_ fun _=>rfl,oZ (i:=t1.i) (i_ g1.i hl),gQ rfl rfl rfl,rfl,⟨x,t1,t1.ay,1,_⟩,rfl,rfl,⟨fun _=>rfl,rfl,bd,rfl,rfl⟩,ao,fun _ _=>?_⟩;refine ca ((g1.step hi)) (fL hk ho) (fun k2 t2 hk g2 oi ow nZ oq nR oL=>?_) (cL:=ao) (cC:=ao) (cU:=ao);dsimp only[ar.sl,aw.ay,aw.add]at oi ow nZ oq nR oL;rw[CJ,jx]at hk;refine⟨rfl,ap,zl,rfl,⟨x,t2,k⟩,rfl,rfl,g2.kf aM,ao,fun _ _ b=>?_⟩;refine bV fv ⟨x,t2,⟨16,(aI x.L x.fin t1).text,0,[k,k2],dG t2 k⟩,mc b [k,k2]⟩ ⟨by have:=g2.cap hl;dsimp only[aw.ay,aw.add]at*;omega,kC b [k,k2]⟩ fun _ _=>?_;exact eH (e0.trans hk.symm)
theorem ag_:aC 14 (bk (fun(_:Unit)=>ar.bx)):=fo 44 Tryz.func14 ag9 [] aY aY ag8 [] aha
def af5(x:bg Unit)(_F:ai):List (Nat×Nat×OH):=[(1,1,bq (cG x.n 37)),(2,1,bq ja),(4,1,bq (cG x.n 14)),(5,1,bq jd),(6,1,bq (cG x.n 14)),(7,4,.n 8040),(7,7,bq vz),(7,9,.c fR [0,8040] [0])]
def gD(aa:List Value)(pp:List ai)(rr:ai)(k0:jB->Unit->Prop)(k1:jB->Unit->Prop):=aC 39 jd/\true=true/\∃(z:jB),aa=[ah (j_ z),aj z.t]/\pp=[al z.x z.s]/\(z.x.L.length<=1048576/\z.s.i<=z.x.L.length)/\fW z.x rr/\(∀(u0:Unit),bE z.x.L z.s 0 z.t=true->k0 z u0)/\∀(u1:Unit),bE z.x.L z.s 0 z.t=false->k1 z u1
def gO(j:jB):=dK (aI j.x.L j.x.fin j.s).pos 60
theorem af7(x:bg Unit)(F:ai)(hc:aR.cond (bk (fun(_:Unit)=>ar.cond)) x)(hr:aR.aQ (bk (fun(_:Unit)=>ar.cond)) x F):cw x.n 37 [ah (cg x),ae 0] [al x.x x.s] (wD x F) (fun p o=>fX [ah (cg x),aj ⟨#[63]⟩] [al p.x o.snd] (aH (mS p o F) [0]) (fun n m=>cw x.n 14 (eb x) [al n.x n.s.ay] (aH (oD n F) [0]) (fun l k=>gD [ah (cg x),aj ⟨#[58]⟩] [al l.x k.snd] (aH (mS l k F) [0]) (fun j i=>cw x.n 14 (eb x) [al j.x j.s.ay] (aH (oD j F) [0]) (fun h g=>∀(f:Nat),uq [ah (cg x),ae o.fst] [al h.x g.snd] (fun e d=>dc [ah (cg x),agg ⟨[ae 15,aj ⟨#[]⟩,float f64 0,au (bJ f) 3 3,ae (dG e.s e.k)]⟩] [al e.x e.s,ag f [ae o.fst,ae k.fst,ae g.fst] 3] (fun c b=>aq (bk fun(a:Unit)=>ar.cond) x F (fK c) [(0,al c.x (c.s.add c.n)),(1,F),(8040,ba)]))) (fun h b=>aq (bk fun(a:Unit)=>ar.cond) x F (ci b) (iV F))) (fun j b=>aq (bk fun(a:Unit)=>ar.cond) x F (gO j) (iV F))) (fun l b=>aq (bk fun(a:Unit)=>ar.cond) x F (ci b) (iV F))) (fun n b=>aq (bk fun(a:Unit)=>ar.cond) x F (kI o) (lQ n F))) (fun p b=>aq (bk fun(a:Unit)=>ar.cond) x F (ci b) (iV F)):=by
 delta cw cg wD j_ fX mS eb oD gD uq lR lS dc bJ lm fK ci iV gO kI lQ dK aH al ae aj ah au ag ba az;obtain⟨K,x,s,os,n,tp⟩:=x;obtain⟨ih,hK,hG,hp,dP,cJ,ho⟩:=hc;replace hr:cI K x F:=hr;replace ho:bo K x (n+1) .cond s≠.out:=ho;dsimp only at ih hK hG hp dP cJ⊢;obtain⟨r,e0⟩:∃r,bo K x (n+1) .cond s=r:=⟨_,rfl⟩;rw[e0]at ho;have hk:=e0;unfold bo at hk;rw[P]at hk;have hl:=hK.len;refine ca hG (fL hk ho) (fun c t1 hk g1 gJ gL gH gK gF gS=>?_) (cL:=ao) (cC:=dC _) (cU:=ao);dsimp only[ar.sl,aw.ay,aw.add]at gJ gL gH gK gF gS;refine bp kV ⟨x,t1,qm⟩ ⟨hl,g1.i⟩ (hr.ls.sub (b_ 1)) ⟨fun _ q=>?_,fun _ q=>?_⟩;rotate_left
 ·rw[mW q]at hk;exact eH (e0.trans hk.symm)
 rw[ml q]at hk;simp only[Bool.not_true,aU,bf]at hk;have g2:=g1.is q;refine ca g2 (fL hk ho) (fun a t2 hk g3 lL lN lH lM lG lX=>?_) (cL:=ao) (cC:=ao) (cU:=ao);dsimp only[ar.sl,aw.ay,aw.add]at lL lN lH lM lG lX;refine ma g3 hk (fun hk g3'=>?_);refine ca g3' (fL hk ho) (fun b t3 hk g4 G6 Hf Gy Hd Gm IV=>?_) (cL:=ao) (cC:=ao) (cU:=ao);dsimp only[ar.sl,aw.ay,aw.add]at G6 Hf Gy Hd Gm IV;rw[CJ,jx]at hk;intro lb;refine bV zl ⟨x,t3,c⟩ (g4.kf aM) fun _ _=>?_;refine bV fv ⟨x,t3,⟨15,.empty,0,[c,a,b],dG t3 c⟩,mc lb [c,a,b]⟩ ⟨by have:=g4.cap hl;dsimp only[aw.ay,aw.add]at*;omega,kC lb [c,a,b]⟩ fun _ _=>?_;exact eH (e0.trans hk.symm)
theorem af6:aC 23 (bk (fun(_:Unit)=>ar.cond)):=fo 28 Tryz.func23 af5 [] aY aY bz [] af7
end
section
open Go
theorem Eh{a b:Int}(h:(a !=b)=false):a=b:=by simpa using h
structure jC where
 c:Nat
def Hc(c:Nat)(d:bA):ai:=.cells c [.int .i64 d.kind,.string d.text,.float .f64 d.num,.int .i64 d.pos,.bool d.aK] 53
def x9(x:co)(s:aw):Prop:=(aI x.L x.fin s).kind=5\/(aI x.L x.fin s).kind=2
variable{s:aw}{x:co}
theorem x9.lt(h:x9 x s):s.i<x.L.length:=xG (fin:=x.fin) (fun e=>by rcases h with h|h <;> rw[e]at h <;> cases h)
def yz(d:jC):Option Addr:=some ⟨d.c,0,none⟩
def qD(d:jC):=ah (yz d)
def apD(x:bg Unit)(F:ai):Nat->Option Inv:=fun
 |11=>some {X:=jC,P:=fun _=>x9 x.x x.s,mu:=fun _=>0,lv:=fun d=>[(0,ah (cg x)),(3,qD d),(19,(aj (aI x.x.L x.x.fin x.s).text)),(20,ak (dy AM (aI x.x.L x.x.fin x.s).text))],st:=fun d=>[al x.x x.s,F,Hc d.c (aI x.x.L x.x.fin x.s)]}
 |18=>some {X:=jC,P:=fun _=>x9 x.x x.s/\dy AM (aI x.x.L x.x.fin x.s).text=false,mu:=fun _=>0,lv:=fun d=>[(0,ah (cg x)),(3,qD d),(51,ak (dy [pp,mm] (aI x.x.L x.x.fin x.s).text))],st:=fun d=>[al x.x x.s,F,Hc d.c (aI x.x.L x.x.fin x.s)]}
 |_=>none
def apE(x:bg Unit)(_F:ai):List (Nat×Nat×OH):=[(1,1,aX jm),(1,2,.n 2020),(1,3,.w (eF 2020)),(2,1,aT 2020),(2,5,aT 2020),(3,1,bq (cG x.n 77)),(4,1,aT 2020),
 (11,3,dm),(11,7,dO fS),(12,1,bq (cG x.n 64)),(13,1,aT 2),(14,2,bq B5),(15,2,aT 2),(15,4,.n 16040),(15,6,aT 2),(15,8,.c fR [0,16040] [0]),
 (18,3,dm),(18,7,dO fS),(19,1,bq (cG x.n 64)),(20,2,bq B5),(21,2,aT 2),(21,4,.n 22040),(21,6,aT 2),(21,8,.c fR [0,22040] [0]),(22,1,bq (cG x.n 77))]
def zV(x:bg Unit)(F:ai)(p:Nat)(r:c8):=[(0,al x.x x.s),(1,F),(2020,ag p (q0 r) 53)]
def VU(r:c8):=(cu r.L r.fin r.i).text.toList==(ByteArray.mk #[45]).toList
def q8(x:bg Unit):List Value:=[ae (aI x.x.L x.x.fin x.s).kind,aj (aI x.x.L x.x.fin x.s).text,float f64 (aI x.x.L x.x.fin x.s).num,ae (aI x.x.L x.x.fin x.s).pos,ak (aI x.x.L x.x.fin x.s).aK]
def EM(x:bg Unit)(F:ai)(o:jC):=[(0,al x.x x.s),(1,F),(2,ag o.c (q8 x) 53)]
def A7(e0:bg Unit)(e1:ai)(v0 v1 v2:Value)(ss:St):=∃(z:jC),x9 e0.x e0.s/\(ah (cg e0)=ah (cg e0)/\v0=ah (yz z)/\v1=aj (aI e0.x.L e0.x.fin e0.s).text/\v2=ak (dy AM (aI e0.x.L e0.x.fin e0.s).text)/\True)/\aD ss (EM e0 e1 z)
def VT(r:c8):=(cu r.L r.fin r.i).text.toList==(ByteArray.mk #[43]).toList
def VS(r:c8):=(cu r.L r.fin r.i).text.toList==(ByteArray.mk #[33]).toList
def VO(r:c8):=(cu r.L r.fin r.i).text.toList==(ByteArray.mk #[126]).toList
def U6(r:c8):=(cu r.L r.fin r.i).text.toList==(ByteArray.mk #[116,121,112,101,111,102]).toList
def Um(x:bg Unit)(d:Nat):List Value:=[ah (cg x),agg ⟨[ae 11,aj (aI x.x.L x.x.fin x.s).text,float f64 0,au (bJ d) 1 1,ae (aI x.x.L x.x.fin x.s).pos]⟩]
def bU(g:Int×aw):List Value:=[ae g.fst]
def UF(x:bg Unit)(F:ai)(o:jC):qc->Unit->Prop:=fun c b=>aq (bk fun(a:Unit)=>ar.unary) x F (fK c) [(0,al c.x (c.s.add c.n)),(1,F),(2,ag o.c (q8 x) 53),(16040,ba)]
def H0(F:ai)(o:jC)(x:bg Unit):=[(0,ba),(1,F),(2,ag o.c (q8 x) 53)]
def Wd(x:bg Unit)(F:ai)(o:jC):Db->Unit->Prop:=fun f b=>aq (bk fun(a:Unit)=>ar.unary) x F (dK (dG f.s f.k) 61) (H0 F o x)
def VL(x:bg Unit):=(aI x.x.L x.x.fin x.s).text.toList==(ByteArray.mk #[43,43]).toList
def Wb(x:bg Unit):=x9 x.x x.s/\dy AM (aI x.x.L x.x.fin x.s).text=false
def PP(e0:bg Unit)(e1:ai)(v0 v1:Value)(ss:St):=∃(z:jC),Wb e0/\(ah (cg e0)=ah (cg e0)/\v0=ah (yz z)/\v1=ak (dy [pp,mm] (aI e0.x.L e0.x.fin e0.s).text)/\True)/\aD ss (EM e0 e1 z)
def q3(p:Nat)(r:c8)(x:bg Unit)(F:ai):=ax p 1/\Br (VU r) (A7 x F (cW p) (ym r) (ak (VU r)) (zV x F p r)) (Br (VT r) (A7 x F (cW p) (ym r) (ak (VT r)) (zV x F p r)) (Br (VS r) (A7 x F (cW p) (ym r) (ak (VS r)) (zV x F p r)) (Br (VO r) (A7 x F (cW p) (ym r) (ak (VO r)) (zV x F p r)) (Br (U6 r) (A7 x F (cW p) (ym r) (ak (U6 r)) (zV x F p r)) (A7 x F (cW p) (ym r) (ak ((cu r.L r.fin r.i).text.toList==(ByteArray.mk #[100,101,108,101,116,101]).toList)) (zV x F p r))))))/\aS fun(o:jC)_=>x9 x.x x.s->Br (dy AM (aI x.x.L x.x.fin x.s).text) (T1 (al x.x x.s) ⟨x.x.b,1,none⟩ (fun k=>dw k/\dI (a8 Tryz.f64 11 7) (pd x k) [al x.x x.s] (fun j i=>cw x.n 64 (eb x) [al j.x j.t] (aH [(0,al j.x j.t),(1,F),(2,ag o.c (q8 x) 53)] [0]) (fun h g=>ax o.c 1/\Br ((aI x.x.L x.x.fin x.s).text.toList==(ByteArray.mk #[100,101,108,101,116,101]).toList) (F4 [ah (cg x),ae g.fst,ak false] [al h.x g.snd] (fun f e=>ax o.c 1/\∀(d:Nat),ax o.c 3/\dc (Um x d) [al f.x f.s,ag d (bU g) 3] (UF x F o)) (Wd x F o)) (ax o.c 1/\∀(d:Nat),ax o.c 3/\dc (Um x d) [al h.x g.snd,ag d (bU g) 3] (UF x F o))) (fun h b=>aq (bk fun(a:Unit)=>ar.unary) x F (ci b) (H0 F o x))))) (Br (VL x) (PP x F (qD o) (ak (VL x)) (EM x F o)) (PP x F (qD o) (ak ((aI x.x.L x.x.fin x.s).text.toList==(ByteArray.mk #[45,45]).toList)) (EM x F o))/\aS fun(m:jC)_=>Wb x->Br (dy [pp,mm] (aI x.x.L x.x.fin x.s).text) (T1 (al x.x x.s) ⟨x.x.b,1,none⟩ (fun k=>dw k/\dI (a8 Tryz.f64 18 7) (pd x k) [al x.x x.s] (fun j i=>cw x.n 64 (eb x) [al j.x j.t] (aH [(0,al j.x j.t),(1,F),(2,ag m.c (q8 x) 53)] [0]) (fun h g=>F4 [ah (cg x),ae g.fst,ak true] [al h.x g.snd] (fun f e=>ax m.c 1/\∀(d:Nat),ax m.c 3/\dc [ah (cg x),agg ⟨[ae 12,aj (aI x.x.L x.x.fin x.s).text,float f64 4607182418800017408,au (bJ d) 1 1,ae (aI x.x.L x.x.fin x.s).pos]⟩] [al f.x f.s,ag d (bU g) 3] (fun c b=>aq (bk fun(a:Unit)=>ar.unary) x F (fK c) [(0,al c.x (c.s.add c.n)),(1,F),(2,ag m.c (q8 x) 53),(22040,ba)])) (Wd x F m)) (fun h b=>aq (bk fun(a:Unit)=>ar.unary) x F (ci b) (H0 F m x))))) (cw x.n 77 (eb x) [al x.x x.s] (aH (EM x F m) [0]) (fun c b=>aq (bk fun(a:Unit)=>ar.unary) x F (kI b) [(0,al c.x b.snd),(1,F),(2,ag m.c (q8 x) 53)]) (fun c b=>aq (bk fun(a:Unit)=>ar.unary) x F (ci b) (H0 F m x))))
theorem apG(x:bg Unit)(F:ai)(hc:aR.cond (bk (fun(_:Unit)=>ar.unary)) x)(hr:aR.aQ (bk (fun(_:Unit)=>ar.unary)) x F):fm (eb x) (aH [(0,al x.x x.s),(1,F)] []) (fun r q=>∀(p:Nat),cF p (ax p 0/\Br (Aj r) (ax p 0/\Br ((cu r.L r.fin r.i).kind !=2) (cw x.n 77 (eb x) [al x.x x.s] (aH (zV x F p r) [0]) (fun c b=>aq (bk fun(a:Unit)=>ar.unary) x F (kI b) [(0,al c.x b.snd),(1,F),(2020,ag p (q0 r) 53)]) (fun c b=>aq (bk fun(a:Unit)=>ar.unary) x F (ci b) [(0,ba),(1,F),(2020,ag p (q0 r) 53)])) (q3 p r x F)) (q3 p r x F))):=by
 delta je fm cg eb Aj cw q0 zV kI ci VU yz q8 EM A7 bJ cW ym VT VS VO U6 T1 dw mT mU dI pd F4 lR lS dc Um bU lm fK UF H0 Wd VL Wb PP qD q3 dK aH al ax cF ae aj ak ah au ag ba az aS;obtain⟨K,x,s,os,n,tp⟩:=x;obtain⟨ih,hK,hG,hp,dP,cJ,ho⟩:=hc;replace hr:cI K x F:=hr;replace ho:bo K x (n+1) .unary s≠.out:=ho;dsimp only at ih hK hG hp dP cJ⊢;obtain⟨r,e0⟩:∃r,bo K x (n+1) .unary s=r:=⟨_,rfl⟩;rw[e0]at ho;have hk:=e0;unfold bo at hk;rw[P]at hk;have hl:=hK.len;rw[pl]at hk;refine bp l9 (x.p s) hl (hr.ls.di 0 1 aM aM rfl rfl) fun _ _ c=>?_
 repeat (refine⟨ap,?_⟩)
 refine mo (A:=x9 x s) (fun kx=>aG (fun h1=>⟨ap,aG (fun h2=>?_) (fun h2=>kx ?_)⟩) (fun h1=>kx ?_)) (fun hx=>?_)
 ·replace h1:((aI x.L x.fin s).kind !=5)=true:=h1;replace h2:((aI x.L x.fin s).kind !=2)=true:=h2;rw[h1,h2,Bool.and_self,bf]at hk;exact ca hG (wI hk ho) (fun _ _ q _ _ _ _ _ _ _=>eH (e0.trans q.symm)) (cL:=ao) (cC:=ao) (cU:=ao)
 ·exact .inr (Eh h2)
 ·exact .inl (Eh h1)
 have hb:((aI x.L x.fin s).kind !=5&&(aI x.L x.fin s).kind !=2)=false:=by rcases hx with h|h <;> rw[h] <;> rfl
 rw[hb,aU]at hk;refine⟨ap,?_,?_⟩
 ·refine aG (fun e1=>⟨⟨c⟩,hx,⟨rfl,rfl,rfl,?_,ao⟩,aB [0,1,2020]⟩) (fun e1=>aG (fun e2=>⟨⟨c⟩,hx,⟨rfl,rfl,rfl,?_,ao⟩,aB [0,1,2020]⟩) (fun e2=>aG (fun e3=>⟨⟨c⟩,hx,⟨rfl,rfl,rfl,?_,ao⟩,aB [0,1,2020]⟩) (fun e3=>aG (fun e4=>⟨⟨c⟩,hx,⟨rfl,rfl,rfl,?_,ao⟩,aB [0,1,2020]⟩) (fun e4=>aG (fun e5=>⟨⟨c⟩,hx,⟨rfl,rfl,rfl,?_,ao⟩,aB [0,1,2020]⟩) (fun e5=>⟨⟨c⟩,hx,⟨rfl,rfl,rfl,?_,ao⟩,aB [0,1,2020]⟩)))))
  all_goals
   simp only[gj]at*;show bool (bW (aI x.L x.fin s).text _)=bool (dy AM (aI x.L x.fin s).text);congr 1;simp only[aiH,dy,AM,List.any_cons,List.any_nil];simp only[co.p]at*;simp[*]
 rintro⟨c⟩ js-;refine aG (fun h=>?_) (fun h=>?_)
 ·rw[h,bf,mn]at hk;refine⟨_,d_ fun _=>rfl,oZ (i:=s.i) (i_ hG.i hl),gQ rfl rfl rfl,rfl,⟨x,s,s.ay,1,_⟩,rfl,rfl,⟨fun _=>rfl,rfl,bd,rfl,rfl⟩,ao,fun _ _=>?_⟩;refine ca ((hG.step hx.lt)) (fL hk ho) (fun k t1 hk g1 gJ gL gH gK gF gS=>?_) (cL:=ao) (cC:=ao) (cU:=ao);dsimp only[ar.sl,aw.ay,aw.add]at gJ gL gH gK gF gS;refine⟨ap,aG (fun hd=>?_) (fun hd=>?_)⟩
  ·rw[gj]at hd;rw[show bW (aI x.L x.fin s).text WY=true from hd,bf]at hk;refine bV Lz ⟨x,t1,k,false⟩ (g1.kf aM) ⟨fun _ q=>?_,fun _ q=>⟨.inr (_,_),⟨_,e0.trans (hk.symm.trans (Od q))⟩,rfl,aB [1]⟩⟩;rw[Oe q]at hk;rw[jx]at hk;refine⟨ap,fun lb=>⟨ap,?_⟩⟩;refine bV fv ⟨x,t1,⟨11,(aI x.L x.fin s).text,0,[k],(aI x.L x.fin s).pos⟩,mc lb [k]⟩ ⟨by have:=g1.cap hl;dsimp only[aw.ay,aw.add]at*;omega,kC lb [k]⟩ fun _ _=>?_;exact eH (e0.trans hk.symm)
  ·rw[gj]at hd;rw[show bW (aI x.L x.fin s).text WY=false from hd,aU,jf]at hk;rw[jx]at hk;refine⟨ap,fun lb=>⟨ap,?_⟩⟩;refine bV fv ⟨x,t1,⟨11,(aI x.L x.fin s).text,0,[k],(aI x.L x.fin s).pos⟩,mc lb [k]⟩ ⟨by have:=g1.cap hl;dsimp only[aw.ay,aw.add]at*;omega,kC lb [k]⟩ fun _ _=>?_;exact eH (e0.trans hk.symm)
 rw[h,aU]at hk;refine⟨aG (fun e1=>⟨⟨c⟩,⟨hx,h⟩,⟨rfl,rfl,?_,ao⟩,aB [0,1,2]⟩) (fun e1=>⟨⟨c⟩,⟨hx,h⟩,⟨rfl,rfl,?_,ao⟩,aB [0,1,2]⟩),?_⟩
 ·simp only[gj]at*;show bool (bW (aI x.L x.fin s).text _)=bool (dy [pp,mm] (aI x.L x.fin s).text);congr 1;simp only[dy,pp,mm,List.any_cons,List.any_nil];simp[*]
 ·simp only[gj]at*;show bool (bW (aI x.L x.fin s).text _)=bool (dy [pp,mm] (aI x.L x.fin s).text);congr 1;simp only[dy,pp,mm,List.any_cons,List.any_nil];simp[*]
 rintro⟨c⟩ js-;refine aG (fun h2=>?_) (fun h2=>?_)
 ·rw[h2,bf,mn]at hk;refine⟨_,d_ fun _=>rfl,oZ (i:=s.i) (i_ hG.i hl),gQ rfl rfl rfl,rfl,⟨x,s,s.ay,1,_⟩,rfl,rfl,⟨fun _=>rfl,rfl,bd,rfl,rfl⟩,ao,fun _ _=>?_⟩;refine ca ((hG.step hx.lt)) (fL hk ho) (fun k t1 hk g1 gJ gL gH gK gF gS=>?_) (cL:=ao) (cC:=ao) (cU:=ao);dsimp only[ar.sl,aw.ay,aw.add]at gJ gL gH gK gF gS;refine bV Lz ⟨x,t1,k,true⟩ (g1.kf aM) ⟨fun _ q=>?_,fun _ q=>⟨.inr (_,_),⟨_,e0.trans (hk.symm.trans (Od q))⟩,rfl,aB [1]⟩⟩;rw[Oe q]at hk;rw[jx]at hk;refine⟨ap,fun lb=>⟨ap,?_⟩⟩;refine bV fv ⟨x,t1,⟨12,(aI x.L x.fin s).text,ox,[k],(aI x.L x.fin s).pos⟩,mc lb [k]⟩ ⟨by have:=g1.cap hl;dsimp only[aw.ay,aw.add]at*;omega,kC lb [k]⟩ fun _ _=>?_;exact eH (e0.trans hk.symm)
 rw[h2,aU]at hk;exact ca hG (wI hk ho) (fun _ _ q _ _ _ _ _ _ _=>eH (e0.trans q.symm)) (cL:=ao) (cC:=ao) (cU:=ao)
theorem apF:aC 64 (bk (fun(_:Unit)=>ar.unary)):=fo 77 Tryz.func64 apE [] aY apD bz [] apG
def afK(x:bg Unit)(_F:ai):List (Nat×Nat×OH):=[(1,1,bq (cG x.n 92)),(2,1,aX jm),(2,2,.n 3020),(2,3,.w (eF 3020)),(3,1,aT 3020),(3,5,aT 3020),(3,9,aT 3020),(3,13,aT 3020),(5,2,bq B5),(6,3,dm),(6,7,dO fS),(7,2,aT 3020),(7,4,.n 8040),(7,7,bq vz),(7,9,.c fR [0,8040] [0])]
def afJ:Nat->List Nat:=fun r=>if r=7 then [0,1,2,3,5,6,7,4,8,9,10] else []
def Tn(x:bg Unit)(o:Int×aw)(p:pA)(l:Nat)(n:c8)(F:ai):=aC 26 B5/\true=true/\∃(k:Db),[ah (cg x),ae o.fst,ak true]=[ah (some ⟨k.x.b,0,none⟩),ae k.k,ak k.jr]/\[al p.x o.snd]=[al k.x k.s]/\(0<=k.k/\k.k<k.s.nodes.length)/\True/\(∀(j:Unit),lO k.s k.k k.jr=false->∃(i:Int),aO (al k.x k.s) ⟨x.x.b,1,none⟩ (ae i)/\dw i/\fj Tryz.prog (a8 Tryz.f77 6 7) fS/\true=true/\∃(h:vq),(pd x i)=[ah (some ⟨h.x.b,h.k,none⟩),h.v]/\[al k.x k.s]=[al h.x h.s]/\((∀(a:Value),(mT h a).set h.k h.v=(mU h a))/\h.t.nodes=h.s.nodes/\h.k<7/\h.v.oneCell'=true/\h.v.cells=⟨[h.v]⟩)/\True/\∀(g:Unit),True->true=true/\dS ⟨l,1,none⟩ l/\aC 27 vz/\true=true/\∃(f:I1),[ah (cg x),ae o.fst]=[ah (some ⟨f.x.b,0,none⟩),ae f.k]/\[al h.x h.t]=[al f.x f.s]/\(0<=f.k/\f.k<f.s.nodes.length)/\True/\∀(e:Unit),True->∀(d:Nat),aC 18 fR/\true=true/\∃(c:qc),[ah (cg x),agg ⟨[ae 12,aj (cu n.L n.fin n.i).text,float f64 0,au (bJ d) 1 1,ae (dG f.s f.k)]⟩]=(lR c)/\[al f.x f.s,ag d (bU o) 3]=[al c.x c.s,c.kr.A]/\lS c/\True/\∀(b:Unit),True->aq (bk fun(a:Unit)=>ar.gf) x F (fK c) [(0,al c.x (c.s.add c.n)),(1,F),(3020,ag l (q0 n) 53),(8040,ba)])/\∀(b:Unit),lO k.s k.k k.jr=true->aq (bk fun(a:Unit)=>ar.gf) x F (dK (dG k.s k.k) 61) [(0,ba),(1,F),(3020,ag l (q0 n) 53)]
theorem afM(x:bg Unit)(F:ai)(hc:aR.cond (bk (fun(_:Unit)=>ar.gf)) x)(hr:aR.aQ (bk (fun(_:Unit)=>ar.gf)) x F):cw x.n 92 (eb x) [al x.x x.s] (wD x F) (fun p o=>fm (eb x) (aH (mS p o F) []) (fun n m=>∀(l:Nat),cF l (ax l 0/\Br (Aj n) (aq (bk fun(a:Unit)=>ar.gf) x F (kI o) (zX p o F l n)) (ax l 4/\Br (cu n.L n.fin n.i).aK (aq (bk fun(a:Unit)=>ar.gf) x F (kI o) (zX p o F l n)) (dS ⟨l,1,none⟩ l/\Br (!(cu n.L n.fin n.i).text.toList==(ByteArray.mk #[43,43]).toList) (dS ⟨l,1,none⟩ l/\Br (!(cu n.L n.fin n.i).text.toList==(ByteArray.mk #[45,45]).toList) (aq (bk fun(a:Unit)=>ar.gf) x F (kI o) (zX p o F l n)) (Tn x o p l n F)) (Tn x o p l n F)))))) (fun p b=>aq (bk fun(a:Unit)=>ar.gf) x F (ci b) (iV F)):=by
 delta cw cg eb wD je fm mS Aj kI q0 zX dw pd mT mU bJ lR bU lS lm fK Tn ci iV dK aH al ax cF ae aj ak ah au ag ba az;obtain⟨K,x,s,os,n,tp⟩:=x;obtain⟨ih,hK,hG,hp,dP,cJ,ho⟩:=hc;replace hr:cI K x F:=hr;replace ho:bo K x (n+1) .gf s≠.out:=ho;dsimp only at ih hK hG hp dP cJ⊢;obtain⟨r,e0⟩:∃r,bo K x (n+1) .gf s=r:=⟨_,rfl⟩;rw[e0]at ho;have hk:=e0;unfold bo at hk;rw[P]at hk;have hl:=hK.len;refine ca hG (fL hk ho) (fun k t1 hk g1 gJ gL gH gK gF gS=>?_) (cL:=ao) (cC:=ao) (cU:=ao);dsimp only[ar.sl,aw.ay,aw.add]at gJ gL gH gK gF gS;rw[pl]at hk;refine bp l9 (x.p t1) hl (hr.ls.di 0 1 aM aM rfl rfl) fun _ _ c=>?_
 repeat (refine⟨ap,?_⟩)
 refine mo (A:=(aI x.L x.fin t1).kind=5/\(aI x.L x.fin t1).aK=false/\(bW (aI x.L x.fin t1).text pp||bW (aI x.L x.fin t1).text mm)=true) (fun kx=>aG (fun h1=>?_) (fun h1=>⟨ap,aG (fun h2=>?_) (fun h2=>⟨ap,aG (fun h3=>⟨ap,aG (fun h4=>?_) (fun h4=>kx ⟨Eh h1,h2,?_⟩)⟩) (fun h3=>kx ⟨Eh h1,h2,?_⟩)⟩)⟩)) (fun hx=>?_)
 ·replace h1:((aI x.L x.fin t1).kind !=5)=true:=h1;rw[h1,Bool.true_or,bf]at hk;exact eH (e0.trans hk.symm)
 ·replace h1:((aI x.L x.fin t1).kind !=5)=false:=h1;replace h2:(aI x.L x.fin t1).aK=true:=h2;rw[h1,h2,Bool.true_or,n7,bf]at hk;exact eH (e0.trans hk.symm)
 ·replace h1:((aI x.L x.fin t1).kind !=5)=false:=h1;replace h2:(aI x.L x.fin t1).aK=false:=h2;rw[gj]at h3 h4;rw[h1,h2,show(!bW (aI x.L x.fin t1).text pp)=true from h3,show(!bW (aI x.L x.fin t1).text mm)=true from h4]at hk;exact eH (e0.trans hk.symm)
 ·rw[gj]at h4;have h4:(!bW (aI x.L x.fin t1).text mm)=false:=h4;rw[Bool.not_eq_false']at h4;rw[h4,n7]
 ·rw[gj]at h3;have h3:(!bW (aI x.L x.fin t1).text pp)=false:=h3;rw[Bool.not_eq_false']at h3;rw[h3,Bool.true_or]
 obtain⟨h1,h2,h3⟩:=hx;have h4:(!bW (aI x.L x.fin t1).text pp&& !bW (aI x.L x.fin t1).text mm)=false:=by rw[<-Bool.not_or,h3];rfl
 rw[h1,h2,h4]at hk;simp only[bne_self_eq_false,Bool.or_false,aU]at hk;have hi:t1.i<x.L.length:=xG (fin:=x.fin) (fun e=>by rw[e]at h1;cases h1);refine bV Lz ⟨x,t1,k,true⟩ (g1.kf aM) ⟨fun _ q=>?_,fun _ q=>⟨.inr (_,_),⟨_,e0.trans (hk.symm.trans (Od q))⟩,rfl,aB [1]⟩⟩;rw[Oe q]at hk;rw[mn,CJ,jx]at hk;refine⟨_,d_ fun _=>rfl,oZ (i:=t1.i) (i_ g1.i hl),gQ rfl rfl rfl,rfl,⟨x,t1,t1.ay,1,_⟩,rfl,rfl,⟨fun _=>rfl,rfl,bd,rfl,rfl⟩,ao,fun _ _=>?_⟩;refine⟨rfl,ap,?_⟩;refine bV zl ⟨x,t1.ay,k⟩ (((g1.step hi)).kf aM) fun _ _=>?_;intro lb;refine bV fv ⟨x,t1.ay,⟨12,(aI x.L x.fin t1).text,0,[k],dG t1.ay k⟩,mc lb [k]⟩ ⟨by have:=((g1.step hi)).cap hl;dsimp only[aw.ay,aw.add]at*;omega,kC lb [k]⟩ fun _ _=>?_;exact eH (e0.trans hk.symm)
theorem afL:aC 77 (bk (fun(_:Unit)=>ar.gf)):=fo 47 Tryz.func77 afK [] aY aY afJ [] afM
def anl(x:bg Unit)(_F:ai):List (Nat×Nat×OH):=[(1,1,bq jd),(2,1,bq (cG x.n 14)),(3,1,bq jd)]
theorem ann(x:bg Unit)(F:ai)(hc:aR.cond (bk (fun(_:Unit)=>ar.paren)) x)(hr:aR.aQ (bk (fun(_:Unit)=>ar.paren)) x F):gD [ah (cg x),aj ⟨#[40]⟩] [al x.x x.s] (wD x F) (fun g f=>cw x.n 14 (eb x) [al g.x g.s.ay] (aH (oD g F) [0]) (fun e d=>gD [ah (cg x),aj ⟨#[41]⟩] [al e.x d.snd] (aH (mS e d F) [0]) (fun c b=>aq (bk fun(a:Unit)=>ar.paren) x F (kI d) (oD c F)) (fun c b=>aq (bk fun(a:Unit)=>ar.paren) x F (gO c) (iV F))) (fun e b=>aq (bk fun(a:Unit)=>ar.paren) x F (ci b) (iV F))) (fun g b=>aq (bk fun(a:Unit)=>ar.paren) x F (gO g) (iV F)):=by
 delta j_ gD cg wD cw eb oD mS kI gO iV ci dK aH al ae aj ah ba az;obtain⟨K,x,s,os,n,tp⟩:=x;obtain⟨ih,hK,hG,hp,dP,cJ,ho⟩:=hc;replace hr:cI K x F:=hr;replace ho:bo K x (n+1) .paren s≠.out:=ho;dsimp only at ih hK hG hp dP cJ⊢;obtain⟨r,e0⟩:∃r,bo K x (n+1) .paren s=r:=⟨_,rfl⟩;rw[e0]at ho;have hk:=e0;unfold bo at hk;rw[P]at hk;have hl:=hK.len;refine ma hG hk (fun hk g1=>?_);refine ca g1 (fL hk ho) (fun k t1 hk g2 oi ow nZ oq nR oL=>?_) (cL:=ao) (cC:=ao) (cU:=ao);dsimp only[ar.sl,aw.ay,aw.add]at oi ow nZ oq nR oL;refine ma g2 hk (fun hk g3=>?_);exact eH (e0.trans hk.symm)
theorem anm:aC 44 (bk (fun(_:Unit)=>ar.paren)):=fo 11 Tryz.func44 anl [] aY aY bz [] ann
theorem PG.Rj{t:aw}{os:List Int}(h:PG x s os)(e:t.i=s.i)(e2:t.nodes=s.nodes)(h1:0<=t.bQ/\t.bQ<=s.i)(h2:0<=t.loops/\t.loops<=s.i)(h3:0<=t.bI/\t.bI<=s.i):PG x t os:=
 ⟨by rw[e];exact h.i,h.fo.same e2,by rw[e,e2];exact h.nd,by rw[e];exact h1,by rw[e];exact h2,by rw[e];exact h3⟩
def akX(x:bg Unit)(_F:ai):List (Nat×Nat×OH):=[(1,3,dm),(1,7,dO fS),(2,3,dm),(2,7,dO fS),(3,1,bq (cG x.n 17)),(4,3,dm),(4,7,dO fS),(5,3,dm),(5,7,dO fS)]
theorem ak0(x:bg Unit)(F:ai)(hc:aR.cond (bk (fun(_:Unit)=>ar.loop)) x)(hr:aR.aQ (bk (fun(_:Unit)=>ar.loop)) x F):T1 (al x.x x.s) ⟨x.x.b,5,none⟩ (fun o=>dw o/\dI (a8 Tryz.f45 1 7) [ah (some ⟨x.x.b,5,none⟩),ae (o+1)] [al x.x x.s] (fun n m=>T1 (al n.x n.t) ⟨x.x.b,6,none⟩ (fun l=>dw l/\dI (a8 Tryz.f45 2 7) [ah (some ⟨x.x.b,6,none⟩),ae (l+1)] [al n.x n.t] (fun k j=>cw x.n 17 [ah (cg x),ak false] [al k.x k.t] (aH [(0,al k.x k.t),(1,F)] [0]) (fun i h=>T1 (al i.x h.snd) ⟨x.x.b,5,none⟩ (fun g=>pY g/\dI (a8 Tryz.f45 4 7) [ah (some ⟨x.x.b,5,none⟩),ae (g-1)] [al i.x h.snd] (fun f e=>T1 (al f.x f.t) ⟨x.x.b,6,none⟩ (fun d=>pY d/\dI (a8 Tryz.f45 5 7) [ah (some ⟨x.x.b,6,none⟩),ae (d-1)] [al f.x f.t] (fun c b=>aq (bk fun(a:Unit)=>ar.loop) x F (kI h) [(0,al c.x c.t),(1,F)]))))) (fun i b=>aq (bk fun(a:Unit)=>ar.loop) x F (ci b) (iV F)))))):=by
 delta T1 dw mT mU dI cw cg pY kI ci iV dK aH al ae ak ah au ba az;obtain⟨K,x,s,os,n,tp⟩:=x;obtain⟨ih,hK,hG,hp,dP,cJ,ho⟩:=hc;replace hr:cI K x F:=hr;replace ho:bo K x (n+1) .loop s≠.out:=ho;dsimp only at ih hK hG hp dP cJ⊢;obtain⟨r,e0⟩:∃r,bo K x (n+1) .loop s=r:=⟨_,rfl⟩;rw[e0]at ho;have hk:=e0;unfold bo at hk;rw[P]at hk;have hl:=hK.len;rw[mV,CL]at hk;obtain⟨q1,q2⟩:s.loops<s.i/\s.bI<s.i:=cJ;have b1:=hG.l;have b2:=hG.b;have b3:=hG.i;refine⟨_,d_ fun _=>rfl,⟨by(try dsimp only);omega,by(try dsimp only);omega⟩,gQ rfl rfl rfl,rfl,⟨x,s,⟨s.i,s.nodes,s.bQ,s.loops+1,s.bI⟩,5,_⟩,rfl,rfl,⟨fun _=>rfl,rfl,bd,rfl,rfl⟩,ao,fun _ _=>?_⟩;refine⟨_,d_ fun _=>rfl,⟨by(try dsimp only);omega,by(try dsimp only);omega⟩,gQ rfl rfl rfl,rfl,⟨x,⟨s.i,s.nodes,s.bQ,s.loops+1,s.bI⟩,⟨s.i,s.nodes,s.bQ,s.loops+1,s.bI+1⟩,6,_⟩,rfl,rfl,⟨fun _=>rfl,rfl,bd,rfl,rfl⟩,ao,fun _ _=>?_⟩;refine ca ((hG.Rj (t:=⟨s.i,s.nodes,s.bQ,s.loops+1,s.bI+1⟩) rfl rfl hG.f ⟨by(try dsimp only);omega,by(try dsimp only);omega⟩ ⟨by(try dsimp only);omega,by(try dsimp only);omega⟩)) (fL hk ho) (fun k t1 hk g1 gJ gL gH gK gF gS=>?_) (cL:=ao) (cC:=ao) (cU:=ao);dsimp only[ar.sl,aw.ay,aw.add]at gJ gL gH gK gF gS;rw[mV,CL]at hk;refine⟨_,d_ fun _=>rfl,⟨by(try dsimp only);omega,by(try dsimp only);omega⟩,gQ rfl rfl rfl,rfl,⟨x,t1,⟨t1.i,t1.nodes,t1.bQ,t1.loops-1,t1.bI⟩,5,_⟩,rfl,rfl,⟨fun _=>rfl,rfl,bd,rfl,rfl⟩,ao,fun _ _=>?_⟩;refine⟨_,d_ fun _=>rfl,⟨by(try dsimp only);omega,by(try dsimp only);omega⟩,gQ rfl rfl rfl,rfl,⟨x,⟨t1.i,t1.nodes,t1.bQ,t1.loops-1,t1.bI⟩,⟨t1.i,t1.nodes,t1.bQ,t1.loops-1,t1.bI-1⟩,6,_⟩,rfl,rfl,⟨fun _=>rfl,rfl,bd,rfl,rfl⟩,ao,fun _ _=>?_⟩;exact eH (e0.trans hk.symm)
theorem akZ:aC 45 (bk (fun(_:Unit)=>ar.loop)):=fo 35 Tryz.func45 akX [] aY aY bz [] ak0
end
end Go.Proofs.YtdkchodgklpomaaGreatDoor
