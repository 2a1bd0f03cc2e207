/- Part of the proof that ParseJoins answers true at every input. -/
import Derived.Test.YtdkchodgklpomaaGreatDoorPJam
set_option linter.all false
namespace Go.Proofs.YtdkchodgklpomaaGreatDoor
set_option maxRecDepth 100000
open Go.Value (int slice string bool pointer agg tuple func float iface nilIface)
open Go.IntKind (i64 u8 u64 i32 u32 u16 i8 i16)
open Go.FloatKind (f64)
open Go.Ending (returned panicked)
section
open Go
def sj(t:ByteArray):List ByteArray->Nat->Int
 | [],_=> -1
 |m::r,k=>bif bD t m then (k:Int) else sj t r (k+1)
theorem Vi(t:ByteArray):∀(l:List ByteArray)(k:Nat),decide (sj t l k>=0)=cM l t
 | [],k=>by simp[sj,cM]
 |m::r,k=>by
  have a:=Vi t r (k+1);unfold cM at a⊢;rw[sj,List.any_cons];cases bD t m with
  |true=>simp
  |false=>rw[aN,Bool.false_or];exact a
structure rL where
 b:Nat
 o:Nat
 c:Nat
 row:List ByteArray
 t:ByteArray
def p6(x:rL):Option Addr:=some ⟨x.b,x.o,none⟩
def y8:aR where
 X:=rL
 args x:=[au (p6 x) x.row.length x.c,ai x.t]
 cond x:=x.row.length<=1000
 aO x F:=c_ F ⟨x.b,x.o,none⟩ (x.row.map string)
 val x _:=ay (ad (sj x.t x.row 0))
structure CV where
 k:Nat
def aeP(x:rL)(F:ah):Nat->Option Inv:=fun
 |0=>some {X:=CV,P:=fun d=>d.k<=x.row.length/\sj x.t x.row 0=sj x.t (x.row.drop d.k) d.k,mu:=fun d=>x.row.length-d.k,lv:=fun d=>[(0,au (p6 x) x.row.length x.c),(1,ai x.t),(7,ad x.row.length),(8,ad d.k)],st:=fun _=>[F]}
 |_=>none
def Jd(a:CV)(x:rL):=a.k<=x.row.length/\sj x.t x.row 0=sj x.t (List.drop a.k x.row) a.k
theorem aeW(x:rL)(F:ah)(j:y8.cond x)(g:y8.aO x F):(∃(a:CV),Jd a x/\(au (p6 x) x.row.length x.c=au (p6 x) x.row.length x.c/\ai x.t=ai x.t/\ad ↑x.row.length=ad ↑x.row.length/\ad 0=ad ↑a.k/\True)/\aE [(0,F)] [(0,F)])/\aT fun(e:CV)_=>Jd e x->aS ((e.k:Int)<(x.row.length:Int)) (i6 (a7 Tryz.f40 4 3) [au (p6 x) x.row.length x.c,ad ↑e.k] (fun c=>T2 F ⟨c.b,c.o+c.n.toNat*1,none⟩ (fun b=>Br (x.t.toList==b.toList) (ar y8 x F (ay (ad ↑e.k)) [(0,F)]) (((-9223372036854775808:Int)<=(e.k:Int)+1/\(e.k:Int)+1<=(9223372036854775807:Int))/\∃(a:CV),Jd a x/\(au (p6 x) x.row.length x.c=au (p6 x) x.row.length x.c/\ai x.t=ai x.t/\ad ↑x.row.length=ad ↑x.row.length/\ad ((e.k:Int)+1)=ad ↑a.k/\True)/\aE [(0,F)] [(0,F)]/\x.row.length-a.k<x.row.length-e.k)))) (ar y8 x F sE [(0,F)]):=by
 delta Jd p6 i6 T2 sE ad ai au aS ay aT;obtain⟨b,o,c,row,t⟩:=x;have hn:row.length<=1000:=j;replace g:c_ F ⟨b,o,none⟩ (row.map string):=g;dsimp only;refine⟨⟨⟨0⟩,⟨dq _,rfl⟩,aV,aA [0]⟩,?_⟩;rintro⟨k⟩ q ⟨i,d⟩;dsimp only at i d⊢;refine bo (fun n=>?_) (fun l=>⟨(),ao,xA ?_,aA [0]⟩)
 ·obtain⟨m,h⟩:∃m,row[k]?=some m:=⟨_,fg ae⟩;have hd:row.drop k=m::row.drop (k+1):=by
   obtain⟨hk,rfl⟩:=jq.1 h;exact List.drop_eq_getElem_cons hk
  rw[hd,sj]at d;have p:aQ F ⟨b,o+(k:Int).toNat*1,none⟩ (.string m):=by
   have:=g k (.string m) (by rw[fV,h];rfl);rw[pE]at this;rw[show(k:Int).toNat*1=k by omega];exact this
  refine⟨gG 1 rfl rfl rfl rfl,⟨b,o,row.length,c,k⟩,rfl,a_,m,p,aG (fun f=>⟨(),ao,xA ?_,aA [0]⟩) (fun f=>⟨aK,⟨k+1⟩,⟨a_,?_⟩,aV,aA [0],a_⟩)⟩
  ·rw[fZ]at f;rw[f]at d;exact d.symm
  ·rw[fZ]at f;rw[f]at d;exact d
 ·rw[d,List.drop_eq_nil_of_le ae];rfl
theorem aeV:aD 40 y8:=fo 19 Tryz.func40 (fun _ _=>[(4,3,.qo (fJ 1)),(4,4,.q [.ex 0 .str])]) [] aeP aY bA [] aeW
def yO:aR where
 X:=rL
 args x:=[au (p6 x) x.row.length x.c,ai x.t]
 cond x:=x.row.length<=1000
 aO x F:=c_ F ⟨x.b,x.o,none⟩ (x.row.map string)
 val x _:=ay (aj (cM x.row x.t))
def Ca(x:rL):List Value:=[au (p6 x) x.row.length x.c,ai x.t]
theorem ab8(x:rL)(F:ah)(c:yO.cond x)(d:yO.aO x F):aD 40 y8/\true=true/\∃(b:rL),(Ca x)=(Ca b)/\([]:List ah)=[]/\b.row.length<=1000/\c_ (cP F) ⟨b.b,b.o,none⟩ (List.map ai b.row)/\∀(a:Unit),True->ar yO x F (ay (aj (decide (sj b.t b.row 0>=0)))) [(0,F)]:=by
 delta p6 Ca cP aH ai aj au ay;exact bs aeV x c (c_.rest (j:=0) aL d) fun _ _=>⟨(),ao,k8 (Vi _ _ _),aA [0]⟩
theorem Ue:aD 25 yO:=fo 9 Tryz.func25 (fun _ _=>[(1,2,aX y8)]) [] aY aY bA [] ab8
def aq.args:aq->List Value
 | .level n=>[.int .i64 n]
 | .func k=>[.int .i64 k]
 | .block b=>[.bool b]
 | .dr p=>[.int .i64 p]
 | .dF p=>[.int .i64 p]
 | .choose p=>[.int .i64 p]
 | .simple d=>[.agg ⟨kS d⟩]
 | .bT b=>[.bool b]
 |_=>[]
def aq.bJ:aq->Option FuncId
 | .bf=>some 14
 | .cond=>some 23
 | .level _=>some 37
 | .unary=>some 64
 | .dO=>some 77
 | .suffix=>some 92
 | .dv=>some 106
 | .func _=>some 43
 | .block _=>some 30
 | .paren=>some 44
 | .vars=>some 41
 | .loop=>some 45
 | .dr _=>some 46
 | .dF _=>some 47
 | .choose _=>some 48
 | .simple _=>some 42
 | .bT _=>some 17
 |_=>none
structure PG(x:cj)(s:ap)(os:List Int):Prop where
 i:s.i<=x.L.length
 fo:bQ x.fin s os
 nd:s.nodes.length<=2*s.i
 f:0<=s.bu/\s.bu<=s.i
 l:0<=s.loops/\s.loops<=s.i
 b:0<=s.bm/\s.bm<=s.i
theorem PG.step{x:cj}{s:ap}{os:List Int}(h:PG x s os)(hi:s.i<x.L.length):PG x s.ax os:=by
 obtain⟨b,a,c,d,e,f⟩:=h;exact⟨hi,a.same rfl,by dsimp only[ap.ax];omega,by dsimp only[ap.ax];omega,by dsimp only[ap.ax];omega,by dsimp only[ap.ax];omega⟩
theorem PG.is{x:cj}{s:ap}{os:List Int}(h:PG x s os){t:ByteArray}(hi:bg x.L s 0 t=true):PG x s.ax os:=h.step (je hi)
theorem PG.k9{x:cj}{s:ap}{os:List Int}(h:PG x s os){k:Int}(hk:k∈os):0<=k/\k<s.nodes.length:=h.fo.k9 hk
theorem PG.cast{x:cj}{s:ap}{os a:List Int}(h:PG x s os)(e:os=a):PG x s a:=e▸h
theorem PG.node{x:cj}{s:ap}{os:List Int}{n:bP}(h:PG x s (os++n.aB))(hp:0<=n.pos/\n.pos<=x.fin)(hn:s.nodes.length+1<=2*s.i):PG x (s.add n) (os++[(s.nodes.length:Int)]):=by
 obtain⟨a,b,f,c,d,e⟩:=h;exact⟨a,b.node hp,by dsimp only[ap.add];rw[dJ];exact hn,c,d,e⟩
abbrev br(K:bR)(x:cj)(n:Nat)(tag:aq)(s:ap):PR (List Int):=P x.L x.fin K.tv bx n tag s
structure gS(K:bR)(x:cj):Prop extends PaK K x where
 d_:ga x.L x.fin
theorem PG.run{K:bR}{x:cj}(c:gS K x){f:Nat}{tag:aq}{s t:ap}{os ks:List Int}(h:PG x s os)(hp:tag.cC x.fin)(hn:tag.ct x.L s)(hi:tag.d_=[])(hs:tag.sk=0)(e:br K x f tag s= .ok ks t):PG x t (os++ks)/\(tag.ze=false->∃k,ks=[k])/\s.i<=t.i/\t.nodes.length+2*s.i+tag.sl<=s.nodes.length+2*t.i/\t.bu=s.bu/\t.loops=s.loops/\t.bm=s.bm/\s.nodes.length<=t.nodes.length:=by
 obtain⟨a,b,m,n,o,p⟩:=h;have k:Kp x.L tag s t:=FW (fin:=x.fin) (aJ:=K.tv) (wide:=bx) f tag s a hn ks t e;have w:=Lk (aJ:=K.tv) (wide:=bx) c.d_ f tag s os hp (by rw[hi,dn];exact b);unfold WP at w;rw[show P x.L x.fin K.tv bx f tag s= .ok ks t from e]at w;obtain⟨w1,l⟩:=w;obtain⟨k1,k2,k3,d,g,i,j⟩:=k;rw[hs]at d;exact⟨⟨k2,w1,ae,ae,ae,ae⟩,l,k1,ae,g,i,j,k3⟩
theorem PG.cap{x:cj}{s:ap}{os:List Int}(h:PG x s os)(hl:x.L.length<=1048576):s.nodes.length<=2097152:=by
 have:=h.nd;have:=h.i;omega
variable{rr:ah}{pp:List ah}{aa:List Value}{u:ap}{q:Prop}
theorem PG.qc{K:bR}{x:cj}(c:gS K x){s:ap}{os:List Int}(h:PG x s os)(e:dQ x.L x.fin s= .ok () u):PG x u os/\s.i<=u.i/\u.nodes.length=s.nodes.length/\u.bu=s.bu/\u.loops=s.loops/\u.bm=s.bm:=by
 have k:Dk x.L 0 0 s u\/Dk x.L 1 0 s u:=CZ (Q:=fun _ t=>Dk x.L 0 0 s t\/Dk x.L 1 0 s t) (L:=x.L) (fin:=x.fin) h.i (fun t a=>a) () u e;have w:u.nodes=s.nodes:=by
  have w:=Dt (fin:=x.fin) (Q:=fun _ t=>t.nodes=s.nodes) (s:=s) c.d_ (fun t a=>a);unfold WP at w;rw[e]at w;exact w
 obtain⟨d,b,f,g,i,j⟩:=h;have hn:u.nodes.length=s.nodes.length:=by rw[w]
 exact⟨⟨ae,b.same w,ae,ae,ae,ae⟩,ae,hn,ae,ae,ae⟩
theorem PG.key{K:bR}{x:cj}(b:gS K x){s:ap}{os:List Int}{k:Int}(h:PG x s os)(e:d5 x.L x.fin K.tv bx s= .ok k u):PG x u (os++[k])/\u.i=s.i+1/\u.nodes.length=s.nodes.length+1/\u.bu=s.bu/\u.loops=s.loops/\u.bm=s.bm:=by
 have q:Dk x.L 1 1 s u:=KP.key (Q:=fun _ t=>Dk x.L 1 1 s t) (L:=x.L) (fin:=x.fin) (aJ:=K.tv) (wide:=bx) (fun _ t a=>a) k u e;have w:bQ x.fin u (os++[k]):=by
  have w:=WP.key (fin:=x.fin) (aJ:=K.tv) (wide:=bx) (Q:=fun k t=>bQ x.fin t (os++[k])) (s:=s) b.d_ h.fo (fun k t a=>a);unfold WP at w;rw[e]at w;exact w
 obtain⟨c,d,f,g,i,j⟩:=h;exact⟨⟨ae,w,ae,ae,ae,ae⟩,ae,ae,ae,ae,ae⟩
theorem PG.hp{K:bR}{x:cj}(a:gS K x)(s:ap):0<=(aC x.L x.fin s).pos/\(aC x.L x.fin s).pos<=x.fin:=jV a.d_ s
theorem PG.pos{x:cj}{s:ap}{os:List Int}(h:PG x s os){k:Int}(hk:k∈os):0<=dz s k/\dz s k<=x.fin:=h.fo.sv hk
def aq.cN(s:ap):aq->Prop
 | .loop=>s.loops<s.i/\s.bm<s.i
 |_=>True
structure nQ where
 K:bR
 x:cj
 s:ap
 os:List Int
 tag:aq
def cz(n:Nat)(bJ:FuncId):aR where
 X:=nQ
 Y:=(Int×ap) ⊕ (Int×Int)
 args x:=ag (some ⟨x.x.b,0,none⟩)::x.tag.args
 pre x:=[ak x.x x.s]
 cond x:=gS x.K x.x/\PG x.x x.s x.os/\x.tag.bJ=some bJ/\x.tag.cC x.x.fin/\x.tag.ct x.x.L x.s/\x.tag.cN x.s/\br x.K x.x n x.tag x.s≠.out
 aO x F:=cB x.K x.x F
 b_ x y:=match y with
  | .inl a=>br x.K x.x n x.tag x.s= .ok [a.1] a.2
  | .inr a=>∃t,br x.K x.x n x.tag x.s= .stop a.1 a.2 t
 val x y:=match y with
  | .inl a=>.returned (.int .i64 a.1)
  | .inr a=>.panicked [⟨iG a.1 a.2,false,false⟩]
 post x y:=match y with
  | .inl a=>[ak x.x a.2]
  | .inr _=>[]
 eT _ _ _ hs h:=cB.sub hs h
 sum:=some (ia (Int×ap) (Int×Int))
structure bk(T:Type)where
 K:bR
 x:cj
 s:ap
 os:List Int
 n:Nat
 t:T
def bn{T:Type}(b:T->aq):aR where
 X:=bk T
 Y:=(Int×ap) ⊕ (Int×Int)
 args x:=ag (some ⟨x.x.b,0,none⟩)::(b x.t).args
 pre x:=[ak x.x x.s]
 cond x:=(∀bJ,aD bJ (cz x.n bJ))/\gS x.K x.x/\PG x.x x.s x.os/\(b x.t).cC x.x.fin/\(b x.t).ct x.x.L x.s/\(b x.t).cN x.s/\br x.K x.x (x.n+1) (b x.t) x.s≠.out
 aO x F:=cB x.K x.x F
 b_ x y:=match y with
  | .inl a=>br x.K x.x (x.n+1) (b x.t) x.s= .ok [a.1] a.2
  | .inr a=>∃t,br x.K x.x (x.n+1) (b x.t) x.s= .stop a.1 a.2 t
 val x y:=match y with
  | .inl a=>.returned (.int .i64 a.1)
  | .inr a=>.panicked [⟨iG a.1 a.2,false,false⟩]
 post x y:=match y with
  | .inl a=>[ak x.x a.2]
  | .inr _=>[]
 eT _ _ _ hs h:=cB.sub hs h
 sum:=some (ia (Int×ap) (Int×Int))
theorem mP{T:Type}{a:T->aq}{bJ:FuncId}{n:Nat}(h:aD bJ (bn a))(k:∀tag:aq,tag.bJ=some bJ->∃t,a t=tag)(o:∀bJ,aD bJ (cz n bJ)):aD bJ (cz (n+1) bJ):=h.A3 fun q F I w j l hs=>by
 obtain⟨K,x,s,os,tag⟩:=q;obtain⟨b,c,d,e,f,g,i⟩:=j;obtain⟨t,rfl⟩:=k tag d;exact⟨⟨K,x,s,os,n,t⟩,I,a8.le_refl I,⟨o,b,c,e,f,g,i⟩,l,rfl,hs,fun y m=>⟨y,m,rfl,aE.refl _⟩⟩
structure Rn{α:Type}(m:PR (List Int))(kk:Int->ap->PR α)(r:PR α):Prop where
 o:m≠.out
 p:∀a e u,m= .stop a e u->r= .stop a e u
 k:∀c t,m= .ok [c] t->kk c t=r
section
variable{α:Type}{m:PM (List Int)}{s:ap}{r:PR α}
theorem z_{k:List Int->PM α}(hk:(m>>=k) s=r)(a:r≠.out):Rn (m s) (fun c=>k [c]) r:=
 ⟨KF (by rw[hk];exact a),fun _ _ _ q=>hk.symm.trans (CE q),fun _ _ q=>(CD q).symm.trans hk⟩
theorem fy{k:Int->PM α}(hk:(one m>>=k) s=r)(a:r≠.out):Rn (m s) k r:=
 ⟨Ss (by rw[hk];exact a),fun _ _ _ q=>hk.symm.trans (Xg q),fun _ _ q=>(Xf q).symm.trans hk⟩
end
theorem t8{m r:PR (List Int)}(hk:m=r)(a:r≠.out):Rn m (fun c t=>.ok [c] t) r:=
 ⟨fun e=>a (hk.symm.trans e),fun _ _ _ q=>hk.symm.trans q,fun _ _ q=>q.symm.trans hk⟩
theorem ca{f:FuncId}{n:Nat}{K:bR}{x:cj}{tag:aq}{s:ap}{os:List Int}{α:Type}{kk:Int->ap->PR α}{r:PR α}{e:nQ->Int×ap->Prop}{k1:nQ->Int×Int->Prop}
  (G:PG x s os) (hk:Rn (br K x n tag s) kk r)
  (b:∀c t,kk c t=r->PG x t (os++[c])->s.i<=t.i->t.nodes.length+2*s.i+tag.sl<=s.nodes.length+2*t.i->t.bu=s.bu->t.loops=s.loops->t.bm=s.bm->s.nodes.length<=t.nodes.length->e ⟨K,x,s,os,tag⟩ (c,t))
  (cC:tag.cC x.fin:=by exact ao) (ct:tag.ct x.L s:=by exact ao) (cN:tag.cN s:=by exact ao)
  (k:cB K x rr:=by first|exact cB.sub (bU 1) (by assumption)|exact cB.sub (bU 0) (by assumption)|exact cB.sub (bU 2) (by assumption)|exact cB.sub (bU 3) (by assumption)|exact cB.sub (bU 4) (by assumption))
  (stop:∀a:Int×Int,(∃u,r= .stop a.1 a.2 u)->k1 ⟨K,x,s,os,tag⟩ a:=by
   intro a h;obtain⟨u,q⟩:=h
   try intro _
   first|exact⟨.inr a,⟨u,Eq.trans (by assumption) q⟩,rfl,aA [1]⟩|exact⟨.inr a,⟨u,Eq.trans (by assumption) q⟩,rfl,aA [0]⟩|exact⟨.inr a,⟨u,Eq.trans (by assumption) q⟩,rfl,aA [2]⟩|exact⟨.inr a,⟨u,Eq.trans (by assumption) q⟩,rfl,aA [3]⟩|exact⟨.inr a,⟨u,Eq.trans (by assumption) q⟩,rfl,aA [4]⟩)
  (m:∀bJ,aD bJ (cz n bJ):=by assumption) (d:gS K x:=by assumption)
  (j:tag.bJ=some f:=by exact rfl) (i:aa= .pointer (some ⟨x.b,0,none⟩)::tag.args:=by exact rfl) (hp:pp=[ak x s]:=by exact rfl) (hi:tag.d_=[]:=by exact rfl) (hs:tag.sk=0:=by exact rfl):
  aD f (cz n f)/\true=true/\∃z:nQ,aa= .pointer (some ⟨z.x.b,0,none⟩)::z.tag.args/\pp=[ak z.x z.s]/\
   (gS z.K z.x/\PG z.x z.s z.os/\z.tag.bJ=some f/\z.tag.cC z.x.fin/\z.tag.ct z.x.L z.s/\z.tag.cN z.s/\br z.K z.x n z.tag z.s≠.out)/\cB z.K z.x rr/\
   (∀a:Int×ap,br z.K z.x n z.tag z.s= .ok [a.1] a.2->e z a)/\(∀a:Int×Int,(∃t,br z.K z.x n z.tag z.s= .stop a.1 a.2 t)->k1 z a):=by
 refine⟨m _,rfl,⟨K,x,s,os,tag⟩,i,hp,⟨d,G,j,cC,ct,cN,hk.o⟩,k,fun a q=>?_,fun a⟨u,q⟩=>stop a ⟨u,hk.p _ _ _ q⟩⟩;obtain⟨c,t⟩:=a;obtain⟨g,-,i1,i2,i3,i4,i5,l⟩:=PG.run d G cC ct hi hs q;exact b c t (hk.k _ _ q) g i1 i2 i3 i4 i5 l
theorem ma{α:Type}{x:cj}{T:ByteArray}{s:ap}{os:List Int}{k:Unit->PM α}{r:PR α}{c k1:iK->Unit->Prop}
  (G:PG x s os) (hk:(cw x.L x.fin T>>=k) s=r) (b:k () s.ax=r->PG x s.ax os->c ⟨x,s,T⟩ ()) (hl:x.L.length<=1048576:=by assumption)
  (e:fP x rr:=by first|exact fP.sub (bU 1) (cB.ls (by assumption))|exact fP.sub (bU 0) (cB.ls (by assumption))|exact fP.sub (bU 2) (cB.ls (by assumption))|exact fP.sub (bU 3) (cB.ls (by assumption))|exact fP.sub (bU 4) (cB.ls (by assumption)))
  (stop:r= .stop (aC x.L x.fin s).pos 60 s->k1 ⟨x,s,T⟩ ():=by
   intro q
   first|exact⟨.inr (_,_),⟨_,Eq.trans (by assumption) q⟩,rfl,aA [1]⟩|exact⟨.inr (_,_),⟨_,Eq.trans (by assumption) q⟩,rfl,aA [0]⟩|exact⟨.inr (_,_),⟨_,Eq.trans (by assumption) q⟩,rfl,aA [2]⟩|exact⟨.inr (_,_),⟨_,Eq.trans (by assumption) q⟩,rfl,aA [3]⟩|exact⟨.inr (_,_),⟨_,Eq.trans (by assumption) q⟩,rfl,aA [4]⟩)
  (d:aa=[.pointer (some ⟨x.b,0,none⟩),.string T]:=by exact rfl) (hp:pp=[ak x s]:=by exact rfl):
  aD 39 ik/\true=true/\∃z:iK,aa=[.pointer (some ⟨z.x.b,0,none⟩),.string z.t]/\pp=[ak z.x z.s]/\(z.x.L.length<=1048576/\z.s.i<=z.x.L.length)/\fP z.x rr/\
   (∀a:Unit,bg z.x.L z.s 0 z.t=true->c z a)/\(∀a:Unit,bg z.x.L z.s 0 z.t=false->k1 z a):=
 ⟨agv,rfl,⟨x,s,T⟩,d,hp,⟨hl,G.i⟩,e,fun _ q=>b ((ue q).symm.trans hk) (G.is q),fun _ q=>stop (hk.symm.trans (Fw q))⟩
theorem eH{p:Prop}(h:q)(g:q->p:=by exact fun h=>⟨.inl (_,_),h,rfl,aA [0,1]⟩):p:=g h
theorem GZ{p:Prop}(h:q)(g:q->p:=by exact fun h=>⟨.inl (_,_,true),.inl ⟨rfl,h⟩,rfl,aA [0,1]⟩):p:=g h
end
section
open Go
theorem aaU{F:ah}(h:iJ F):c_ F ⟨0,0,none⟩ (rY.map string):=fun j u a=>by
 rw[fV]at a;cases b:rY[j]? with
 |none=>rw[b]at a;cases a
 |some m=>
  rw[b]at a;cases a;rw[pE,hU];exact h.TG j m b
theorem nq{i:Nat}(h:i<=1048576): -9223372036854775808<=(i:Int)+1/\(i:Int)+1<=9223372036854775807:=ae
theorem afv(b:Nat)(ks:List Int):bz 3 1 (bB ks) ⟨some ⟨b,0,none⟩,ks.length,ks.length,.cells b (bB ks) 3⟩:=by
 have:=bz.fU (e:=3) (k:=1) (cs:=bB ks) b ks.length ks.length [] (by rw[Bg,Nat.mul_one]) (by rw[dn,Bg,Nat.mul_one]) (bZ _);rw[dn]at this;exact this
def kT(b:Nat)(ks:List Int):Row:=⟨some ⟨b,0,none⟩,ks.length,ks.length,.cells b (bB ks) 3⟩
theorem jw(b:Nat)(ks:List Int):bz 3 1 (bB ks) (kT b ks):=afv b ks
def acQ(x:bk Unit)(a:ah):List (Nat×Nat×OH):=[(1,1,bv (cz x.n 23)),(2,1,aX iz),(2,2,.n 3020),(2,3,.w (eG 3020)),(3,1,aP 3020),(3,4,.qo (tc 6)),(3,6,aP 3020),(3,7,aX yO),(5,2,bv zs),(6,3,dd),(6,7,d3 fL),(7,1,bv (cz x.n 14)),(8,2,aP 3020),(8,5,.n 9050),(8,8,bv td),(8,10,.c fK [0,9050] [0])]
def acP:Nat->List Nat:=fun r=>if r=8 then [0,1,2,3,4,6,7,8,5,9,10,11] else []
def cq(a:Nat)(b:FuncId)(aa:List Value)(pp:List ah)(rr:ah)(e:nQ->Int×ap->Prop)(k1:nQ->Int×Int->Prop):=aD b (cz a b)/\true=true/\∃(z:nQ),aa=ag (some ⟨z.x.b,0,none⟩)::z.tag.args/\pp=[ak z.x z.s]/\(gS z.K z.x/\PG z.x z.s z.os/\z.tag.bJ=some b/\aq.cC z.x.fin z.tag/\aq.ct z.x.L z.s z.tag/\aq.cN z.s z.tag/\br z.K z.x a z.tag z.s≠PR.out)/\cB z.K z.x rr/\(∀(c:Int×ap),br z.K z.x a z.tag z.s=PR.ok [c.fst] c.snd->e z c)/\∀(d:Int×Int),(∃(w0:ap),br z.K z.x a z.tag z.s=PR.stop d.fst d.snd w0)->k1 z d
def cg(x:bk Unit):Option Addr:=some ⟨x.x.b,0,none⟩
def eo(x:bk Unit):List Value:=[ag (cg x)]
def tX(x:bk Unit)(F:ah):=aH [(0,ak x.x x.s),(1,F)] [0]
def lM(u:nQ)(t:Int×ap)(F:ah):=[(0,ak u.x t.snd),(1,F)]
def xr(s:cX):=(co s.L s.fin s.i).kind !=5
def jE(t:Int×ap):=ay (ad t.fst)
def wY(u:nQ)(t:Int×ap)(F:ah)(q:Nat)(s:cX):=[(0,ak u.x t.snd),(1,F),(3020,af q (q0 s) 53)]
def Gn(aa:List Value)(rr:ah)(a:rL->Unit->Prop):=aD 25 yO/\true=true/\∃(z:rL),aa=(Ca z)/\([]:List ah)=[]/\z.row.length<=1000/\c_ rr ⟨z.b,z.o,none⟩ (List.map ai z.row)/\∀(b:Unit),True->a z b
def Dd(aa:List Value)(pp:List ah)(a:AD->Unit->Prop)(k1:AD->Unit->Prop):=aD 26 zs/\true=true/\∃(z:AD),aa=[ag (some ⟨z.x.b,0,none⟩),ad z.k,aj z.iB]/\pp=[ak z.x z.s]/\(0<=z.k/\z.k<z.s.nodes.length)/\True/\(∀(b:Unit),ku z.s z.k z.iB=false->a z b)/\∀(c:Unit),ku z.s z.k z.iB=true->k1 z c
def nC(x:bk Unit)(k:Int):List Value:=[ag (some ⟨x.x.b,1,none⟩),ad (k+1)]
def rV(aa:List Value)(pp:List ah)(a:FN->Unit->Prop):=aD 27 td/\true=true/\∃(z:FN),aa=[ag (some ⟨z.x.b,0,none⟩),ad z.k]/\pp=[ak z.x z.s]/\(0<=z.k/\z.k<z.s.nodes.length)/\True/\∀(b:Unit),True->a z b
def ci(b:Int×Int):=dT b.fst b.snd
def h9(F:ah):=[(0,bc),(1,F)]
theorem acS(x:bk Unit)(F:ah)(U:aR.cond (bn (fun(_:Unit)=>aq.bf)) x)(z:aR.aO (bn (fun(_:Unit)=>aq.bf)) x F):cq x.n 23 (eo x) [ak x.x x.s] (tX x F) (fun u t=>fd (eo x) (aH (lM u t F) []) (fun s r=>∀(q:Nat),cx q (true=true/\aw q 0/\Br (xr s) (ar (bn fun(a:Unit)=>aq.bf) x F (jE t) (wY u t F q s)) (dR Tryz.prog (a7 Tryz.f14 3 4) (tc 6)/\∃(p:vW),[ag (some ⟨0,0,none⟩)]=[ag (some p.a)]/\(p.a.off=0/\p.a.spot=none)/\aw q 1/\Gn [au (some p.a) 6 6,ai (co s.L s.fin s.i).text] (aH (wY u t F q s) []) (fun o n=>Br (!cM o.row o.t) (ar (bn fun(a:Unit)=>aq.bf) x F (jE t) (wY u t F q s)) (Dd [ag (cg x),ad t.fst,aj true] [ak u.x t.snd] (fun m l=>T1 (ak m.x m.s) ⟨x.x.b,1,none⟩ (fun k=>dE k/\dS (a7 Tryz.f14 6 7) (nC x k) [ak m.x m.s] (fun j i=>cq x.n 14 (eo x) [ak j.x j.t] (aH [(0,ak j.x j.t),(1,F),(3020,af q (q0 s) 53)] [0]) (fun h g=>true=true/\aw q 1/\rV [ag (cg x),ad t.fst] [ak h.x g.snd] (fun f e=>∀(d:Nat),db [ag (cg x),agg ⟨[ad 16,ai (co s.L s.fin s.i).text,float f64 0,au (bI d) 2 2,ad (dz f.s f.k)]⟩] [ak f.x f.s,af d [ad t.fst,ad g.fst] 3] (fun c b=>ar (bn fun(a:Unit)=>aq.bf) x F (fx c) [(0,ak c.x (c.s.add c.n)),(1,F),(3020,af q (q0 s) 53),(9050,bc)]))) (fun h b=>ar (bn fun(a:Unit)=>aq.bf) x F (ci b) [(0,bc),(1,F),(3020,af q (q0 s) 53)])))) (fun m b=>ar (bn fun(a:Unit)=>aq.bf) x F (dT (dz m.s m.k) 61) [(0,bc),(1,F),(3020,af q (q0 s) 53)]))))))) (fun u b=>ar (bn fun(a:Unit)=>aq.bf) x F (ci b) (h9 F)):=by
 delta cq cg eo tX im fd lM xr jE q0 wY p6 Ca Gn Dd T1 dE lN lO dS nC rV kz kC db bI j5 fx ci h9 dT aH ak aw cx ad ai aj ag au af bc ay;obtain⟨K,x,s,os,n,W⟩:=x;obtain⟨V,T,S,hp,G,E,y⟩:=U;replace z:cB K x F:=z;replace y:br K x (n+1) .bf s≠.out:=y;dsimp only at V T S hp G E⊢;obtain⟨r,e0⟩:∃r,br K x (n+1) .bf s=r:=⟨_,rfl⟩;rw[e0]at y;have hk:=e0;unfold br at hk;rw[P]at hk;have hl:=T.len;refine ca S (fy hk y) (fun k t1 hk g1 H M C J A O=>?_) (cC:=ao) (ct:=ao) (cN:=ao);dsimp only[aq.sl,ap.ax,ap.add]at H M C J A O;rw[m6]at hk;refine bs kR (x.p t1) hl (z.ls.df 0 1 aL aL rfl rfl) fun _ _ c=>?_
 repeat (refine⟨al,?_⟩)
 refine⟨rfl,al,aG (fun v=>?_) (fun v=>?_)⟩
 ·replace v:((aC x.L x.fin t1).kind !=5)=true:=v;rw[v,Bool.true_or,aU]at hk;exact eH (e0.trans hk.symm)
 replace v:((aC x.L x.fin t1).kind !=5)=false:=v;refine⟨GI rfl rfl rfl rfl rfl,⟨⟨0,0,none⟩⟩,rfl,al,al,Ue,rfl,⟨0,0,6,rY,(aC x.L x.fin t1).text⟩,rfl,rfl,by show 6<=1000;omega,c_.rest (j:=1) aL (aaU z.gp),fun _ _=>aG (fun w=>?_) (fun w=>?_)⟩
 ·replace w:(!cM rY (aC x.L x.fin t1).text)=true:=w;rw[w,mJ,aU]at hk;exact eH (e0.trans hk.symm)
 replace w:(!cM rY (aC x.L x.fin t1).text)=false:=w;rw[v,w,Bool.or_false,aN]at hk;have hi:t1.i<x.L.length:=uR (fin:=x.fin) (fun e=>by rw[e]at v;cases v);refine bO HU ⟨x,t1,k,true⟩ (g1.k9 aL) ⟨fun _ q=>?_,fun _ q=>⟨.inr (_,_),⟨_,e0.trans (hk.symm.trans (KG q))⟩,rfl,aA [1]⟩⟩;rw[KH q]at hk;rw[kG]at hk;refine⟨_,el fun _=>rfl,nq (i:=t1.i) (hO g1.i hl),gw rfl rfl rfl,rfl,⟨x,t1,t1.ax,1,_⟩,rfl,rfl,⟨fun _=>rfl,rfl,a_,rfl,rfl⟩,ao,fun _ _=>?_⟩;refine ca ((g1.step hi)) (fy hk y) (fun k2 t2 hk R I N D L B Q=>?_) (cC:=ao) (ct:=ao) (cN:=ao);dsimp only[aq.sl,ap.ax,ap.add]at I N D L B Q;rw[Af,h_]at hk;refine⟨rfl,al,wk,rfl,⟨x,t2,k⟩,rfl,rfl,R.k9 aL,ao,fun _ _ b=>?_⟩;refine bO fi ⟨x,t2,⟨16,(aC x.L x.fin t1).text,0,[k,k2],dz t2 k⟩,kT b [k,k2]⟩ ⟨by have:=R.cap hl;dsimp only[ap.ax,ap.add]at*;omega,jw b [k,k2]⟩ fun _ _=>?_;exact eH (e0.trans hk.symm)
theorem acR:aD 14 (bn (fun(_:Unit)=>aq.bf)):=fo 44 Tryz.func14 acQ [] aY aY acP [] acS
def abK(x:bk Unit)(a:ah):List (Nat×Nat×OH):=[(1,1,bv (cz x.n 37)),(2,1,bv ig),(4,1,bv (cz x.n 14)),(5,1,bv ik),(6,1,bv (cz x.n 14)),(7,4,.n 8040),(7,7,bv td),(7,9,.c fK [0,8040] [0])]
def gi(aa:List Value)(pp:List ah)(rr:ah)(a:iK->Unit->Prop)(k1:iK->Unit->Prop):=aD 39 ik/\true=true/\∃(z:iK),aa=[ag (jh z),ai z.t]/\pp=[ak z.x z.s]/\(z.x.L.length<=1048576/\z.s.i<=z.x.L.length)/\fP z.x rr/\(∀(b:Unit),bg z.x.L z.s 0 z.t=true->a z b)/\∀(c:Unit),bg z.x.L z.s 0 z.t=false->k1 z c
def gr(j:iK):=dT (aC j.x.L j.x.fin j.s).pos 60
theorem abM(x:bk Unit)(F:ah)(X:aR.cond (bn (fun(_:Unit)=>aq.cond)) x)(E:aR.aO (bn (fun(_:Unit)=>aq.cond)) x F):cq x.n 37 [ag (cg x),ad 0] [ak x.x x.s] (tX x F) (fun p o=>fQ [ag (cg x),ai ⟨#[63]⟩] [ak p.x o.snd] (aH (lM p o F) [0]) (fun n m=>cq x.n 14 (eo x) [ak n.x n.s.ax] (aH (mU n F) [0]) (fun l k=>gi [ag (cg x),ai ⟨#[58]⟩] [ak l.x k.snd] (aH (lM l k F) [0]) (fun j i=>cq x.n 14 (eo x) [ak j.x j.s.ax] (aH (mU j F) [0]) (fun h g=>∀(f:Nat),rV [ag (cg x),ad o.fst] [ak h.x g.snd] (fun e d=>db [ag (cg x),agg ⟨[ad 15,ai ⟨#[]⟩,float f64 0,au (bI f) 3 3,ad (dz e.s e.k)]⟩] [ak e.x e.s,af f [ad o.fst,ad k.fst,ad g.fst] 3] (fun c b=>ar (bn fun(a:Unit)=>aq.cond) x F (fx c) [(0,ak c.x (c.s.add c.n)),(1,F),(8040,bc)]))) (fun h b=>ar (bn fun(a:Unit)=>aq.cond) x F (ci b) (h9 F))) (fun j b=>ar (bn fun(a:Unit)=>aq.cond) x F (gr j) (h9 F))) (fun l b=>ar (bn fun(a:Unit)=>aq.cond) x F (ci b) (h9 F))) (fun n b=>ar (bn fun(a:Unit)=>aq.cond) x F (jE o) (ky n F))) (fun p b=>ar (bn fun(a:Unit)=>aq.cond) x F (ci b) (h9 F)):=by
 delta cq cg tX jh fQ lM eo mU gi rV kz kC db bI j5 fx ci h9 gr jE ky dT aH ak ad ai ag au af bc ay;obtain⟨K,x,s,os,n,Z⟩:=x;obtain⟨Y,V,U,hp,D,C,t⟩:=X;replace E:cB K x F:=E;replace t:br K x (n+1) .cond s≠.out:=t;dsimp only at Y V U hp D C⊢;obtain⟨r,e0⟩:∃r,br K x (n+1) .cond s=r:=⟨_,rfl⟩;rw[e0]at t;have hk:=e0;unfold br at hk;rw[P]at hk;have hl:=V.len;refine ca U (fy hk t) (fun c t1 hk g1 G N y J u R=>?_) (cC:=ao) (ct:=dq _) (cN:=ao);dsimp only[aq.sl,ap.ax,ap.add]at G N y J u R;refine bs jT ⟨x,t1,qm⟩ ⟨hl,g1.i⟩ (E.ls.sub (bU 1)) ⟨fun _ q=>?_,fun _ q=>?_⟩;rotate_left
 ·rw[lP q]at hk;exact eH (e0.trans hk.symm)
 rw[lf q]at hk;simp only[Bool.not_true,aN,aU]at hk;have W:=g1.is q;refine ca W (fy hk t) (fun a t2 hk g3 H O z L v S=>?_) (cC:=ao) (ct:=ao) (cN:=ao);dsimp only[aq.sl,ap.ax,ap.add]at H O z L v S;refine ma g3 hk (fun hk B=>?_);refine ca B (fy hk t) (fun b t3 hk g4 I Q A M w T=>?_) (cC:=ao) (ct:=ao) (cN:=ao);dsimp only[aq.sl,ap.ax,ap.add]at I Q A M w T;rw[Af,h_]at hk;intro lb;refine bO wk ⟨x,t3,c⟩ (g4.k9 aL) fun _ _=>?_;refine bO fi ⟨x,t3,⟨15,.empty,0,[c,a,b],dz t3 c⟩,kT lb [c,a,b]⟩ ⟨by have:=g4.cap hl;dsimp only[ap.ax,ap.add]at*;omega,jw lb [c,a,b]⟩ fun _ _=>?_;exact eH (e0.trans hk.symm)
theorem abL:aD 23 (bn (fun(_:Unit)=>aq.cond)):=fo 28 Tryz.func23 abK [] aY aY bA [] abM
end
section
open Go
theorem Bs{a b:Int}(h:(a !=b)=false):a=b:=by simpa using h
structure iL where
 c:Nat
def DU(c:Nat)(d:bh):ah:=.cells c [.int .i64 d.kind,.string d.text,.float .f64 d.num,.int .i64 d.pos,.bool d.aI] 53
def uX(x:cj)(s:ap):Prop:=(aC x.L x.fin s).kind=5\/(aC x.L x.fin s).kind=2
variable{s:ap}{x:cj}
theorem uX.lt(h:uX x s):s.i<x.L.length:=uR (fin:=x.fin) (fun e=>by rcases h with h|h <;> rw[e]at h <;> cases h)
def vp(d:iL):Option Addr:=some ⟨d.c,0,none⟩
def o0(d:iL):=ag (vp d)
def akM(x:bk Unit)(F:ah):Nat->Option Inv:=fun
 |11=>some {X:=iL,P:=fun _=>uX x.x x.s,mu:=fun _=>0,lv:=fun d=>[(0,ag (cg x)),(3,o0 d),(19,(ai (aC x.x.L x.x.fin x.s).text)),(20,aj (cM uj (aC x.x.L x.x.fin x.s).text))],st:=fun d=>[ak x.x x.s,F,DU d.c (aC x.x.L x.x.fin x.s)]}
 |18=>some {X:=iL,P:=fun _=>uX x.x x.s/\cM uj (aC x.x.L x.x.fin x.s).text=false,mu:=fun _=>0,lv:=fun d=>[(0,ag (cg x)),(3,o0 d),(51,aj (cM [pp,mm] (aC x.x.L x.x.fin x.s).text))],st:=fun d=>[ak x.x x.s,F,DU d.c (aC x.x.L x.x.fin x.s)]}
 |_=>none
def akN(x:bk Unit)(a:ah):List (Nat×Nat×OH):=[(1,1,aX iz),(1,2,.n 2020),(1,3,.w (eG 2020)),(2,1,aP 2020),(2,5,aP 2020),(3,1,bv (cz x.n 77)),(4,1,aP 2020),
 (11,3,dd),(11,7,d3 fL),(12,1,bv (cz x.n 64)),(13,1,aP 2),(14,2,bv zs),(15,2,aP 2),(15,4,.n 16040),(15,6,aP 2),(15,8,.c fK [0,16040] [0]),
 (18,3,dd),(18,7,d3 fL),(19,1,bv (cz x.n 64)),(20,2,bv zs),(21,2,aP 2),(21,4,.n 22040),(21,6,aP 2),(21,8,.c fK [0,22040] [0]),(22,1,bv (cz x.n 77))]
def wV(x:bk Unit)(F:ah)(p:Nat)(r:cX):=[(0,ak x.x x.s),(1,F),(2020,af p (q0 r) 53)]
def Rq(r:cX):=(co r.L r.fin r.i).text.toList==(ByteArray.mk #[45]).toList
def q9(x:bk Unit):List Value:=[ad (aC x.x.L x.x.fin x.s).kind,ai (aC x.x.L x.x.fin x.s).text,float f64 (aC x.x.L x.x.fin x.s).num,ad (aC x.x.L x.x.fin x.s).pos,aj (aC x.x.L x.x.fin x.s).aI]
def BY(x:bk Unit)(F:ah)(o:iL):=[(0,ak x.x x.s),(1,F),(2,af o.c (q9 x) 53)]
def yy(e0:bk Unit)(e1:ah)(v0 v1 v2:Value)(a:St):=∃(z:iL),uX e0.x e0.s/\(ag (cg e0)=ag (cg e0)/\v0=ag (vp z)/\v1=ai (aC e0.x.L e0.x.fin e0.s).text/\v2=aj (cM uj (aC e0.x.L e0.x.fin e0.s).text)/\True)/\aE a (BY e0 e1 z)
def Rp(r:cX):=(co r.L r.fin r.i).text.toList==(ByteArray.mk #[43]).toList
def Ro(r:cX):=(co r.L r.fin r.i).text.toList==(ByteArray.mk #[33]).toList
def Rk(r:cX):=(co r.L r.fin r.i).text.toList==(ByteArray.mk #[126]).toList
def QC(r:cX):=(co r.L r.fin r.i).text.toList==(ByteArray.mk #[116,121,112,101,111,102]).toList
def PT(x:bk Unit)(d:Nat):List Value:=[ag (cg x),agg ⟨[ad 11,ai (aC x.x.L x.x.fin x.s).text,float f64 0,au (bI d) 1 1,ad (aC x.x.L x.x.fin x.s).pos]⟩]
def bN(g:Int×ap):List Value:=[ad g.fst]
def Qb(x:bk Unit)(F:ah)(o:iL):oF->Unit->Prop:=fun c b=>ar (bn fun(a:Unit)=>aq.unary) x F (fx c) [(0,ak c.x (c.s.add c.n)),(1,F),(2,af o.c (q9 x) 53),(16040,bc)]
def EP(F:ah)(o:iL)(x:bk Unit):=[(0,bc),(1,F),(2,af o.c (q9 x) 53)]
def RL(x:bk Unit)(F:ah)(o:iL):AD->Unit->Prop:=fun f b=>ar (bn fun(a:Unit)=>aq.unary) x F (dT (dz f.s f.k) 61) (EP F o x)
def Rh(x:bk Unit):=(aC x.x.L x.x.fin x.s).text.toList==(ByteArray.mk #[43,43]).toList
def RJ(x:bk Unit):=uX x.x x.s/\cM uj (aC x.x.L x.x.fin x.s).text=false
def Mg(e0:bk Unit)(e1:ah)(v0 v1:Value)(a:St):=∃(z:iL),RJ e0/\(ag (cg e0)=ag (cg e0)/\v0=ag (vp z)/\v1=aj (cM [pp,mm] (aC e0.x.L e0.x.fin e0.s).text)/\True)/\aE a (BY e0 e1 z)
def q3(p:Nat)(r:cX)(x:bk Unit)(F:ah):=aw p 1/\Br (Rq r) (yy x F (cr p) (ve r) (aj (Rq r)) (wV x F p r)) (Br (Rp r) (yy x F (cr p) (ve r) (aj (Rp r)) (wV x F p r)) (Br (Ro r) (yy x F (cr p) (ve r) (aj (Ro r)) (wV x F p r)) (Br (Rk r) (yy x F (cr p) (ve r) (aj (Rk r)) (wV x F p r)) (Br (QC r) (yy x F (cr p) (ve r) (aj (QC r)) (wV x F p r)) (yy x F (cr p) (ve r) (aj ((co r.L r.fin r.i).text.toList==(ByteArray.mk #[100,101,108,101,116,101]).toList)) (wV x F p r))))))/\aT fun(o:iL)_=>uX x.x x.s->Br (cM uj (aC x.x.L x.x.fin x.s).text) (T1 (ak x.x x.s) ⟨x.x.b,1,none⟩ (fun k=>dE k/\dS (a7 Tryz.f64 11 7) (nC x k) [ak x.x x.s] (fun j i=>cq x.n 64 (eo x) [ak j.x j.t] (aH [(0,ak j.x j.t),(1,F),(2,af o.c (q9 x) 53)] [0]) (fun h g=>aw o.c 1/\Br ((aC x.x.L x.x.fin x.s).text.toList==(ByteArray.mk #[100,101,108,101,116,101]).toList) (Dd [ag (cg x),ad g.fst,aj false] [ak h.x g.snd] (fun f e=>aw o.c 1/\∀(d:Nat),aw o.c 3/\db (PT x d) [ak f.x f.s,af d (bN g) 3] (Qb x F o)) (RL x F o)) (aw o.c 1/\∀(d:Nat),aw o.c 3/\db (PT x d) [ak h.x g.snd,af d (bN g) 3] (Qb x F o))) (fun h b=>ar (bn fun(a:Unit)=>aq.unary) x F (ci b) (EP F o x))))) (Br (Rh x) (Mg x F (o0 o) (aj (Rh x)) (BY x F o)) (Mg x F (o0 o) (aj ((aC x.x.L x.x.fin x.s).text.toList==(ByteArray.mk #[45,45]).toList)) (BY x F o))/\aT fun(m:iL)_=>RJ x->Br (cM [pp,mm] (aC x.x.L x.x.fin x.s).text) (T1 (ak x.x x.s) ⟨x.x.b,1,none⟩ (fun k=>dE k/\dS (a7 Tryz.f64 18 7) (nC x k) [ak x.x x.s] (fun j i=>cq x.n 64 (eo x) [ak j.x j.t] (aH [(0,ak j.x j.t),(1,F),(2,af m.c (q9 x) 53)] [0]) (fun h g=>Dd [ag (cg x),ad g.fst,aj true] [ak h.x g.snd] (fun f e=>aw m.c 1/\∀(d:Nat),aw m.c 3/\db [ag (cg x),agg ⟨[ad 12,ai (aC x.x.L x.x.fin x.s).text,float f64 4607182418800017408,au (bI d) 1 1,ad (aC x.x.L x.x.fin x.s).pos]⟩] [ak f.x f.s,af d (bN g) 3] (fun c b=>ar (bn fun(a:Unit)=>aq.unary) x F (fx c) [(0,ak c.x (c.s.add c.n)),(1,F),(2,af m.c (q9 x) 53),(22040,bc)])) (RL x F m)) (fun h b=>ar (bn fun(a:Unit)=>aq.unary) x F (ci b) (EP F m x))))) (cq x.n 77 (eo x) [ak x.x x.s] (aH (BY x F m) [0]) (fun c b=>ar (bn fun(a:Unit)=>aq.unary) x F (jE b) [(0,ak c.x b.snd),(1,F),(2,af m.c (q9 x) 53)]) (fun c b=>ar (bn fun(a:Unit)=>aq.unary) x F (ci b) (EP F m x))))
theorem akP(x:bk Unit)(F:ah)(I:aR.cond (bn (fun(_:Unit)=>aq.unary)) x)(y:aR.aO (bn (fun(_:Unit)=>aq.unary)) x F):fd (eo x) (aH [(0,ak x.x x.s),(1,F)] []) (fun r q=>∀(p:Nat),cx p (aw p 0/\Br (xr r) (aw p 0/\Br ((co r.L r.fin r.i).kind !=2) (cq x.n 77 (eo x) [ak x.x x.s] (aH (wV x F p r) [0]) (fun c b=>ar (bn fun(a:Unit)=>aq.unary) x F (jE b) [(0,ak c.x b.snd),(1,F),(2020,af p (q0 r) 53)]) (fun c b=>ar (bn fun(a:Unit)=>aq.unary) x F (ci b) [(0,bc),(1,F),(2020,af p (q0 r) 53)])) (q3 p r x F)) (q3 p r x F))):=by
 delta im fd cg eo xr cq q0 wV jE ci Rq vp q9 BY yy bI cr ve Rp Ro Rk QC T1 dE lN lO dS nC Dd kz kC db PT bN j5 fx Qb EP RL Rh RJ Mg o0 q3 dT aH ak aw cx ad ai aj ag au af bc ay aT;obtain⟨K,x,s,os,n,M⟩:=x;obtain⟨J,z,g,hp,w,v,j⟩:=I;replace y:cB K x F:=y;replace j:br K x (n+1) .unary s≠.out:=j;dsimp only at J z g hp w v⊢;obtain⟨r,e0⟩:∃r,br K x (n+1) .unary s=r:=⟨_,rfl⟩;rw[e0]at j;have hk:=e0;unfold br at hk;rw[P]at hk;have hl:=z.len;rw[m6]at hk;refine bs kR (x.p s) hl (y.ls.df 0 1 aL aL rfl rfl) fun _ _ c=>?_
 repeat (refine⟨al,?_⟩)
 refine lj (A:=uX x s) (fun B=>aG (fun u=>⟨al,aG (fun d=>?_) (fun d=>B ?_)⟩) (fun u=>B ?_)) (fun hx=>?_)
 ·replace u:((aC x.L x.fin s).kind !=5)=true:=u;replace d:((aC x.L x.fin s).kind !=2)=true:=d;rw[u,d,Bool.and_self,aU]at hk;exact ca g (t8 hk j) (fun _ _ q _ _ _ _ _ _ _=>eH (e0.trans q.symm)) (cC:=ao) (ct:=ao) (cN:=ao)
 ·exact .inr (Bs d)
 ·exact .inl (Bs u)
 have H:((aC x.L x.fin s).kind !=5&&(aC x.L x.fin s).kind !=2)=false:=by rcases hx with h|h <;> rw[h] <;> rfl
 rw[H,aN]at hk;refine⟨al,?_,?_⟩
 ·refine aG (fun e1=>⟨⟨c⟩,hx,⟨rfl,rfl,rfl,?_,ao⟩,aA [0,1,2020]⟩) (fun e1=>aG (fun C=>⟨⟨c⟩,hx,⟨rfl,rfl,rfl,?_,ao⟩,aA [0,1,2020]⟩) (fun C=>aG (fun D=>⟨⟨c⟩,hx,⟨rfl,rfl,rfl,?_,ao⟩,aA [0,1,2020]⟩) (fun D=>aG (fun E=>⟨⟨c⟩,hx,⟨rfl,rfl,rfl,?_,ao⟩,aA [0,1,2020]⟩) (fun E=>aG (fun G=>⟨⟨c⟩,hx,⟨rfl,rfl,rfl,?_,ao⟩,aA [0,1,2020]⟩) (fun G=>⟨⟨c⟩,hx,⟨rfl,rfl,rfl,?_,ao⟩,aA [0,1,2020]⟩)))))
  all_goals
   simp only[fZ]at*;show bool (bD (aC x.L x.fin s).text _)=bool (cM uj (aC x.L x.fin s).text);congr 1;simp only[ad7,cM,uj,List.any_cons,List.any_nil];simp only[cj.p]at*;simp[*]
 rintro⟨c⟩ L-;refine aG (fun h=>?_) (fun h=>?_)
 ·rw[h,aU,kG]at hk;refine⟨_,el fun _=>rfl,nq (i:=s.i) (hO g.i hl),gw rfl rfl rfl,rfl,⟨x,s,s.ax,1,_⟩,rfl,rfl,⟨fun _=>rfl,rfl,a_,rfl,rfl⟩,ao,fun _ _=>?_⟩;refine ca ((g.step hx.lt)) (fy hk j) (fun k t1 hk g1 l o f m e t=>?_) (cC:=ao) (ct:=ao) (cN:=ao);dsimp only[aq.sl,ap.ax,ap.add]at l o f m e t;refine⟨al,aG (fun hd=>?_) (fun hd=>?_)⟩
  ·rw[fZ]at hd;rw[show bD (aC x.L x.fin s).text Sw=true from hd,aU]at hk;refine bO HU ⟨x,t1,k,false⟩ (g1.k9 aL) ⟨fun _ q=>?_,fun _ q=>⟨.inr (_,_),⟨_,e0.trans (hk.symm.trans (KG q))⟩,rfl,aA [1]⟩⟩;rw[KH q]at hk;rw[h_]at hk;refine⟨al,fun lb=>⟨al,?_⟩⟩;refine bO fi ⟨x,t1,⟨11,(aC x.L x.fin s).text,0,[k],(aC x.L x.fin s).pos⟩,kT lb [k]⟩ ⟨by have:=g1.cap hl;dsimp only[ap.ax,ap.add]at*;omega,jw lb [k]⟩ fun _ _=>?_;exact eH (e0.trans hk.symm)
  ·rw[fZ]at hd;rw[show bD (aC x.L x.fin s).text Sw=false from hd,aN,ip]at hk;rw[h_]at hk;refine⟨al,fun lb=>⟨al,?_⟩⟩;refine bO fi ⟨x,t1,⟨11,(aC x.L x.fin s).text,0,[k],(aC x.L x.fin s).pos⟩,kT lb [k]⟩ ⟨by have:=g1.cap hl;dsimp only[ap.ax,ap.add]at*;omega,jw lb [k]⟩ fun _ _=>?_;exact eH (e0.trans hk.symm)
 rw[h,aN]at hk;refine⟨aG (fun e1=>⟨⟨c⟩,⟨hx,h⟩,⟨rfl,rfl,?_,ao⟩,aA [0,1,2]⟩) (fun e1=>⟨⟨c⟩,⟨hx,h⟩,⟨rfl,rfl,?_,ao⟩,aA [0,1,2]⟩),?_⟩
 ·simp only[fZ]at*;show bool (bD (aC x.L x.fin s).text _)=bool (cM [pp,mm] (aC x.L x.fin s).text);congr 1;simp only[cM,pp,mm,List.any_cons,List.any_nil];simp[*]
 ·simp only[fZ]at*;show bool (bD (aC x.L x.fin s).text _)=bool (cM [pp,mm] (aC x.L x.fin s).text);congr 1;simp only[cM,pp,mm,List.any_cons,List.any_nil];simp[*]
 rintro⟨c⟩ L-;refine aG (fun d=>?_) (fun d=>?_)
 ·rw[d,aU,kG]at hk;refine⟨_,el fun _=>rfl,nq (i:=s.i) (hO g.i hl),gw rfl rfl rfl,rfl,⟨x,s,s.ax,1,_⟩,rfl,rfl,⟨fun _=>rfl,rfl,a_,rfl,rfl⟩,ao,fun _ _=>?_⟩;refine ca ((g.step hx.lt)) (fy hk j) (fun k t1 hk g1 l o f m e t=>?_) (cC:=ao) (ct:=ao) (cN:=ao);dsimp only[aq.sl,ap.ax,ap.add]at l o f m e t;refine bO HU ⟨x,t1,k,true⟩ (g1.k9 aL) ⟨fun _ q=>?_,fun _ q=>⟨.inr (_,_),⟨_,e0.trans (hk.symm.trans (KG q))⟩,rfl,aA [1]⟩⟩;rw[KH q]at hk;rw[h_]at hk;refine⟨al,fun lb=>⟨al,?_⟩⟩;refine bO fi ⟨x,t1,⟨12,(aC x.L x.fin s).text,lG,[k],(aC x.L x.fin s).pos⟩,kT lb [k]⟩ ⟨by have:=g1.cap hl;dsimp only[ap.ax,ap.add]at*;omega,jw lb [k]⟩ fun _ _=>?_;exact eH (e0.trans hk.symm)
 rw[d,aN]at hk;exact ca g (t8 hk j) (fun _ _ q _ _ _ _ _ _ _=>eH (e0.trans q.symm)) (cC:=ao) (ct:=ao) (cN:=ao)
theorem akO:aD 64 (bn (fun(_:Unit)=>aq.unary)):=fo 77 Tryz.func64 akN [] aY akM bA [] akP
def abk(x:bk Unit)(a:ah):List (Nat×Nat×OH):=[(1,1,bv (cz x.n 92)),(2,1,aX iz),(2,2,.n 3020),(2,3,.w (eG 3020)),(3,1,aP 3020),(3,5,aP 3020),(3,9,aP 3020),(3,13,aP 3020),(5,2,bv zs),(6,3,dd),(6,7,d3 fL),(7,2,aP 3020),(7,4,.n 8040),(7,7,bv td),(7,9,.c fK [0,8040] [0])]
def abj:Nat->List Nat:=fun r=>if r=7 then [0,1,2,3,5,6,7,4,8,9,10] else []
def O4(x:bk Unit)(o:Int×ap)(p:nQ)(l:Nat)(n:cX)(F:ah):=aD 26 zs/\true=true/\∃(k:AD),[ag (cg x),ad o.fst,aj true]=[ag (some ⟨k.x.b,0,none⟩),ad k.k,aj k.iB]/\[ak p.x o.snd]=[ak k.x k.s]/\(0<=k.k/\k.k<k.s.nodes.length)/\True/\(∀(j:Unit),ku k.s k.k k.iB=false->∃(i:Int),aQ (ak k.x k.s) ⟨x.x.b,1,none⟩ (ad i)/\dE i/\e_ Tryz.prog (a7 Tryz.f77 6 7) fL/\true=true/\∃(h:sY),(nC x i)=[ag (some ⟨h.x.b,h.k,none⟩),h.v]/\[ak k.x k.s]=[ak h.x h.s]/\((∀(a:Value),(lN h a).set h.k h.v=(lO h a))/\h.t.nodes=h.s.nodes/\h.k<7/\h.v.oneCell'=true/\h.v.cells=⟨[h.v]⟩)/\True/\∀(g:Unit),True->true=true/\ed ⟨l,1,none⟩ l/\aD 27 td/\true=true/\∃(f:FN),[ag (cg x),ad o.fst]=[ag (some ⟨f.x.b,0,none⟩),ad f.k]/\[ak h.x h.t]=[ak f.x f.s]/\(0<=f.k/\f.k<f.s.nodes.length)/\True/\∀(e:Unit),True->∀(d:Nat),aD 18 fK/\true=true/\∃(c:oF),[ag (cg x),agg ⟨[ad 12,ai (co n.L n.fin n.i).text,float f64 0,au (bI d) 1 1,ad (dz f.s f.k)]⟩]=(kz c)/\[ak f.x f.s,af d (bN o) 3]=[ak c.x c.s,c.kr.A]/\kC c/\True/\∀(b:Unit),True->ar (bn fun(a:Unit)=>aq.dO) x F (fx c) [(0,ak c.x (c.s.add c.n)),(1,F),(3020,af l (q0 n) 53),(8040,bc)])/\∀(b:Unit),ku k.s k.k k.iB=true->ar (bn fun(a:Unit)=>aq.dO) x F (dT (dz k.s k.k) 61) [(0,bc),(1,F),(3020,af l (q0 n) 53)]
theorem abm(x:bk Unit)(F:ah)(I:aR.cond (bn (fun(_:Unit)=>aq.dO)) x)(y:aR.aO (bn (fun(_:Unit)=>aq.dO)) x F):cq x.n 92 (eo x) [ak x.x x.s] (tX x F) (fun p o=>fd (eo x) (aH (lM p o F) []) (fun n m=>∀(l:Nat),cx l (aw l 0/\Br (xr n) (ar (bn fun(a:Unit)=>aq.dO) x F (jE o) (wY p o F l n)) (aw l 4/\Br (co n.L n.fin n.i).aI (ar (bn fun(a:Unit)=>aq.dO) x F (jE o) (wY p o F l n)) (ed ⟨l,1,none⟩ l/\Br (!(co n.L n.fin n.i).text.toList==(ByteArray.mk #[43,43]).toList) (ed ⟨l,1,none⟩ l/\Br (!(co n.L n.fin n.i).text.toList==(ByteArray.mk #[45,45]).toList) (ar (bn fun(a:Unit)=>aq.dO) x F (jE o) (wY p o F l n)) (O4 x o p l n F)) (O4 x o p l n F)))))) (fun p b=>ar (bn fun(a:Unit)=>aq.dO) x F (ci b) (h9 F)):=by
 delta cq cg eo tX im fd lM xr jE q0 wY dE nC lN lO bI kz bN kC j5 fx O4 ci h9 dT aH ak aw cx ad ai aj ag au af bc ay;obtain⟨K,x,s,os,n,L⟩:=x;obtain⟨J,G,E,hp,w,v,j⟩:=I;replace y:cB K x F:=y;replace j:br K x (n+1) .dO s≠.out:=j;dsimp only at J G E hp w v⊢;obtain⟨r,e0⟩:∃r,br K x (n+1) .dO s=r:=⟨_,rfl⟩;rw[e0]at j;have hk:=e0;unfold br at hk;rw[P]at hk;have hl:=G.len;refine ca E (fy hk j) (fun k t1 hk g1 z C u B t D=>?_) (cC:=ao) (ct:=ao) (cN:=ao);dsimp only[aq.sl,ap.ax,ap.add]at z C u B t D;rw[m6]at hk;refine bs kR (x.p t1) hl (y.ls.df 0 1 aL aL rfl rfl) fun _ _ c=>?_
 repeat (refine⟨al,?_⟩)
 refine lj (A:=(aC x.L x.fin t1).kind=5/\(aC x.L x.fin t1).aI=false/\(bD (aC x.L x.fin t1).text pp||bD (aC x.L x.fin t1).text mm)=true) (fun H=>aG (fun d=>?_) (fun d=>⟨al,aG (fun f=>?_) (fun f=>⟨al,aG (fun g=>⟨al,aG (fun h=>?_) (fun h=>H ⟨Bs d,f,?_⟩)⟩) (fun g=>H ⟨Bs d,f,?_⟩)⟩)⟩)) (fun hx=>?_)
 ·replace d:((aC x.L x.fin t1).kind !=5)=true:=d;rw[d,Bool.true_or,aU]at hk;exact eH (e0.trans hk.symm)
 ·replace d:((aC x.L x.fin t1).kind !=5)=false:=d;replace f:(aC x.L x.fin t1).aI=true:=f;rw[d,f,Bool.true_or,mJ,aU]at hk;exact eH (e0.trans hk.symm)
 ·replace d:((aC x.L x.fin t1).kind !=5)=false:=d;replace f:(aC x.L x.fin t1).aI=false:=f;rw[fZ]at g h;rw[d,f,show(!bD (aC x.L x.fin t1).text pp)=true from g,show(!bD (aC x.L x.fin t1).text mm)=true from h]at hk;exact eH (e0.trans hk.symm)
 ·rw[fZ]at h;have h:(!bD (aC x.L x.fin t1).text mm)=false:=h;rw[Bool.not_eq_false']at h;rw[h,mJ]
 ·rw[fZ]at g;have g:(!bD (aC x.L x.fin t1).text pp)=false:=g;rw[Bool.not_eq_false']at g;rw[g,Bool.true_or]
 obtain⟨d,f,g⟩:=hx;have h:(!bD (aC x.L x.fin t1).text pp&& !bD (aC x.L x.fin t1).text mm)=false:=by rw[<-Bool.not_or,g];rfl
 rw[d,f,h]at hk;simp only[bne_self_eq_false,Bool.or_false,aN]at hk;have hi:t1.i<x.L.length:=uR (fin:=x.fin) (fun e=>by rw[e]at d;cases d);refine bO HU ⟨x,t1,k,true⟩ (g1.k9 aL) ⟨fun _ q=>?_,fun _ q=>⟨.inr (_,_),⟨_,e0.trans (hk.symm.trans (KG q))⟩,rfl,aA [1]⟩⟩;rw[KH q]at hk;rw[kG,Af,h_]at hk;refine⟨_,el fun _=>rfl,nq (i:=t1.i) (hO g1.i hl),gw rfl rfl rfl,rfl,⟨x,t1,t1.ax,1,_⟩,rfl,rfl,⟨fun _=>rfl,rfl,a_,rfl,rfl⟩,ao,fun _ _=>?_⟩;refine⟨rfl,al,?_⟩;refine bO wk ⟨x,t1.ax,k⟩ (((g1.step hi)).k9 aL) fun _ _=>?_;intro lb;refine bO fi ⟨x,t1.ax,⟨12,(aC x.L x.fin t1).text,0,[k],dz t1.ax k⟩,kT lb [k]⟩ ⟨by have:=((g1.step hi)).cap hl;dsimp only[ap.ax,ap.add]at*;omega,jw lb [k]⟩ fun _ _=>?_;exact eH (e0.trans hk.symm)
theorem abl:aD 77 (bn (fun(_:Unit)=>aq.dO)):=fo 47 Tryz.func77 abk [] aY aY abj [] abm
def aiw(x:bk Unit)(a:ah):List (Nat×Nat×OH):=[(1,1,bv ik),(2,1,bv (cz x.n 14)),(3,1,bv ik)]
theorem aiy(x:bk Unit)(F:ah)(z:aR.cond (bn (fun(_:Unit)=>aq.paren)) x)(w:aR.aO (bn (fun(_:Unit)=>aq.paren)) x F):gi [ag (cg x),ai ⟨#[40]⟩] [ak x.x x.s] (tX x F) (fun g f=>cq x.n 14 (eo x) [ak g.x g.s.ax] (aH (mU g F) [0]) (fun e d=>gi [ag (cg x),ai ⟨#[41]⟩] [ak e.x d.snd] (aH (lM e d F) [0]) (fun c b=>ar (bn fun(a:Unit)=>aq.paren) x F (jE d) (mU c F)) (fun c b=>ar (bn fun(a:Unit)=>aq.paren) x F (gr c) (h9 F))) (fun e b=>ar (bn fun(a:Unit)=>aq.paren) x F (ci b) (h9 F))) (fun g b=>ar (bn fun(a:Unit)=>aq.paren) x F (gr g) (h9 F)):=by
 delta jh gi cg tX cq eo mU lM jE gr h9 ci dT aH ak ad ai ag bc ay;obtain⟨K,x,s,os,n,B⟩:=x;obtain⟨A,v,u,hp,m,l,h⟩:=z;replace w:cB K x F:=w;replace h:br K x (n+1) .paren s≠.out:=h;dsimp only at A v u hp m l⊢;obtain⟨r,e0⟩:∃r,br K x (n+1) .paren s=r:=⟨_,rfl⟩;rw[e0]at h;have hk:=e0;unfold br at hk;rw[P]at hk;have hl:=v.len;refine ma u hk (fun hk g1=>?_);refine ca g1 (fy hk h) (fun k t1 hk y o q j p i t=>?_) (cC:=ao) (ct:=ao) (cN:=ao);dsimp only[aq.sl,ap.ax,ap.add]at o q j p i t;refine ma y hk (fun hk g3=>?_);exact eH (e0.trans hk.symm)
theorem aix:aD 44 (bn (fun(_:Unit)=>aq.paren)):=fo 11 Tryz.func44 aiw [] aY aY bA [] aiy
theorem PG.NG{t:ap}{os:List Int}(h:PG x s os)(e:t.i=s.i)(a:t.nodes=s.nodes)(b:0<=t.bu/\t.bu<=s.i)(c:0<=t.loops/\t.loops<=s.i)(d:0<=t.bm/\t.bm<=s.i):PG x t os:=
 ⟨by rw[e];exact h.i,h.fo.same a,by rw[e,a];exact h.nd,by rw[e];exact b,by rw[e];exact c,by rw[e];exact d⟩
def af1(x:bk Unit)(a:ah):List (Nat×Nat×OH):=[(1,3,dd),(1,7,d3 fL),(2,3,dd),(2,7,d3 fL),(3,1,bv (cz x.n 17)),(4,3,dd),(4,7,d3 fL),(5,3,dd),(5,7,d3 fL)]
theorem af4(x:bk Unit)(F:ah)(G:aR.cond (bn (fun(_:Unit)=>aq.loop)) x)(E:aR.aO (bn (fun(_:Unit)=>aq.loop)) x F):T1 (ak x.x x.s) ⟨x.x.b,5,none⟩ (fun o=>dE o/\dS (a7 Tryz.f45 1 7) [ag (some ⟨x.x.b,5,none⟩),ad (o+1)] [ak x.x x.s] (fun n m=>T1 (ak n.x n.t) ⟨x.x.b,6,none⟩ (fun l=>dE l/\dS (a7 Tryz.f45 2 7) [ag (some ⟨x.x.b,6,none⟩),ad (l+1)] [ak n.x n.t] (fun k j=>cq x.n 17 [ag (cg x),aj false] [ak k.x k.t] (aH [(0,ak k.x k.t),(1,F)] [0]) (fun i h=>T1 (ak i.x h.snd) ⟨x.x.b,5,none⟩ (fun g=>ou g/\dS (a7 Tryz.f45 4 7) [ag (some ⟨x.x.b,5,none⟩),ad (g-1)] [ak i.x h.snd] (fun f e=>T1 (ak f.x f.t) ⟨x.x.b,6,none⟩ (fun d=>ou d/\dS (a7 Tryz.f45 5 7) [ag (some ⟨x.x.b,6,none⟩),ad (d-1)] [ak f.x f.t] (fun c b=>ar (bn fun(a:Unit)=>aq.loop) x F (jE h) [(0,ak c.x c.t),(1,F)]))))) (fun i b=>ar (bn fun(a:Unit)=>aq.loop) x F (ci b) (h9 F)))))):=by
 delta T1 dE lN lO dS cq cg ou jE ci h9 dT aH ak ad aj ag au bc ay;obtain⟨K,x,s,os,n,I⟩:=x;obtain⟨H,D,p,hp,y,q,u⟩:=G;replace E:cB K x F:=E;replace u:br K x (n+1) .loop s≠.out:=u;dsimp only at H D p hp y q⊢;obtain⟨r,e0⟩:∃r,br K x (n+1) .loop s=r:=⟨_,rfl⟩;rw[e0]at u;have hk:=e0;unfold br at hk;rw[P]at hk;have hl:=D.len;rw[iF,Ah]at hk;obtain⟨q1,q2⟩:s.loops<s.i/\s.bm<s.i:=q;have b1:=p.l;have b2:=p.b;have b3:=p.i;refine⟨_,el fun _=>rfl,⟨by(try dsimp only);omega,by(try dsimp only);omega⟩,gw rfl rfl rfl,rfl,⟨x,s,⟨s.i,s.nodes,s.bu,s.loops+1,s.bm⟩,5,_⟩,rfl,rfl,⟨fun _=>rfl,rfl,a_,rfl,rfl⟩,ao,fun _ _=>?_⟩;refine⟨_,el fun _=>rfl,⟨by(try dsimp only);omega,by(try dsimp only);omega⟩,gw rfl rfl rfl,rfl,⟨x,⟨s.i,s.nodes,s.bu,s.loops+1,s.bm⟩,⟨s.i,s.nodes,s.bu,s.loops+1,s.bm+1⟩,6,_⟩,rfl,rfl,⟨fun _=>rfl,rfl,a_,rfl,rfl⟩,ao,fun _ _=>?_⟩;refine ca ((p.NG (t:=⟨s.i,s.nodes,s.bu,s.loops+1,s.bm+1⟩) rfl rfl p.f ⟨by(try dsimp only);omega,by(try dsimp only);omega⟩ ⟨by(try dsimp only);omega,by(try dsimp only);omega⟩)) (fy hk u) (fun k t1 hk g1 z B w A v C=>?_) (cC:=ao) (ct:=ao) (cN:=ao);dsimp only[aq.sl,ap.ax,ap.add]at z B w A v C;rw[iF,Ah]at hk;refine⟨_,el fun _=>rfl,⟨by(try dsimp only);omega,by(try dsimp only);omega⟩,gw rfl rfl rfl,rfl,⟨x,t1,⟨t1.i,t1.nodes,t1.bu,t1.loops-1,t1.bm⟩,5,_⟩,rfl,rfl,⟨fun _=>rfl,rfl,a_,rfl,rfl⟩,ao,fun _ _=>?_⟩;refine⟨_,el fun _=>rfl,⟨by(try dsimp only);omega,by(try dsimp only);omega⟩,gw rfl rfl rfl,rfl,⟨x,⟨t1.i,t1.nodes,t1.bu,t1.loops-1,t1.bm⟩,⟨t1.i,t1.nodes,t1.bu,t1.loops-1,t1.bm-1⟩,6,_⟩,rfl,rfl,⟨fun _=>rfl,rfl,a_,rfl,rfl⟩,ao,fun _ _=>?_⟩;exact eH (e0.trans hk.symm)
theorem af3:aD 45 (bn (fun(_:Unit)=>aq.loop)):=fo 35 Tryz.func45 af1 [] aY aY bA [] af4
end
section
open Go
variable{K:bR}{os:List Int}{bG:List Nat}{n:Nat}{s:ap}{x:cj}{S:St}{tag:aq}{α:Type}
theorem eV{β b:Type}{m:PM α}{f:α->PM β}{g:β->PM b}:((m>>=f)>>=g) s=(m>>=fun a=>f a>>=g) s:=by
 show bS (bS m f) g s=bS m (fun a=>bS (f a) g) s;unfold bS;cases m s <;> rfl
theorem Wo{f:Nat}(h:f<=n)(a:br K x f tag s≠.out):br K x n tag s=br K x f tag s:=by
 rcases yp (L:=x.L) (fin:=x.fin) (aJ:=K.tv) (wide:=bx) h tag s with e|e
 ·exact absurd e a
 ·exact e
theorem Rn.up{f:Nat}{kk:Int->ap->PR α}{r:PR α}(h:Rn (br K x f tag s) kk r)(a:f<=n):Rn (br K x n tag s) kk r:=by
 have e:br K x n tag s=br K x f tag s:=Wo a h.o;rw[e];exact h
theorem uV(k:Int):∀u∈bB [k],u.oneCell'=true:=by
 intro u a;have:u= .int .i64 k:=by simpa[bB]using a
 subst this;rfl
theorem vz{ks:List Int}{r:Row}(h:bz 3 1 (bB ks) r)(hn:ks.length<=4194304):(r.n+1)*8<=140737488355328:=by
 have:=h.len;rw[Bg]at this;omega
theorem vA{ks:List Int}{r:Row}(h:bz 3 1 (bB ks) r)(hn:ks.length<=4194304):r.n+1<=9223372036854775807:=by
 have:=h.len;rw[Bg]at this;omega
theorem vF{b:Nat}{ks:List Int}(j:Nat)(e:gt S j= .cells b (bB ks) 3)(c:j∉bG:=by simp):∀a,(some ⟨b,0,none⟩:Option Addr)=some a->c_ (.du (rest S bG)) a (bB ks):=fun a d=>by
 cases d;refine c_.rest c ?_;rw[e];exact c_.cells (fun j u c=>by rw[hU];exact c)
theorem lq{o:Oper}{lb:Nat}{rr:Row}{ks:List Int}{k:Int}{aa:List Value}{pp:List ah}{f:pu->Row->Prop}(j:Nat)(b:bz 3 1 (bB ks) rr)(hn:ks.length<=4194304)
  (c:∀d,bz 3 1 (bB (ks++[k])) d->f ⟨rr,bB ks,some ⟨lb,0,none⟩,1,1,bB [k]⟩ d)
  (h:e_ Tryz.prog o (dm 3 1 8):=by exact jN 1 8 rfl rfl rfl rfl rfl rfl rfl (by decide)) (i:aa=[.slice rr.a rr.n rr.cap,.slice (some ⟨lb,0,none⟩) 1 1]:=by exact rfl) (hp:pp=[rr.A]:=by exact rfl)
  (e:gt S j= .cells lb (bB [k]) 3:=by exact rfl) (l:j∉bG:=by simp):
  e_ Tryz.prog o (dm 3 1 8)/\true=true/\∃z:pu,aa=[.slice z.r.a z.r.n z.r.cap,.slice z.a z.m z.c]/\pp=[z.r.A]/\
   (bz 3 1 z.cs z.r/\z.ys.length=z.m*1/\(∀u:Value,u∈z.ys->u.oneCell'=true)/\(z.r.n+z.m)*8<=140737488355328/\z.r.n+z.m<=9223372036854775807/\(z.a=none->z.m=0/\z.c=0))/\
   (∀a:Addr,z.a=some a->c_ (.du (rest S bG)) a z.ys)/\∀y:Row,(bz 3 1 (z.cs++z.ys) y/\y.n=z.r.n+z.m/\(z.m=0->y=z.r))->f z y:=
 ⟨h,rfl,⟨rr,bB ks,some ⟨lb,0,none⟩,1,1,bB [k]⟩,i,hp,⟨b,rfl,uV _,vz b hn,vA b hn,fun h=>nomatch h⟩,vF j e l,fun d g=>c d (by rw[uU];exact g.1)⟩
theorem Vb(n:Nat):(sf n).length=n:=by unfold sf;simp
theorem bQ.len{fin:Int}(h:bQ fin s os):os.length<=s.nodes.length:=by
 have:=h.tI.length_eq;rw[Vb,dJ]at this;omega
theorem py{ks:List Int}(h:PG x s (os++ks))(hl:x.L.length<=1048576):ks.length<=2097152:=by
 have a:=h.fo.len;have b:=h.cap hl;rw[dJ]at a;omega
structure nP where
 t:ap
 ks:List Int
 r:Row
 f:Nat
 c:Nat
def l_(c:Nat)(kind:Int)(op:ByteArray)(num:Nat)(r:Row)(pos:Int):ah:=.cells c [.int .i64 kind,.string op,.float .f64 num,.slice r.a r.n r.cap,.int .i64 pos] 35
def jg(x:bk Bool):Option Addr:=some ⟨x.x.b,0,none⟩
def sG(d:nP):Option Addr:=some ⟨d.c,0,none⟩
def ahs(x:bk Bool)(F:ah):Nat->Option Inv:=fun
 |0=>some {X:=nP,P:=fun d=>PG x.x d.t (x.os++d.ks)/\bz 3 1 (bB d.ks) d.r/\d.f<=x.n/\(P x.x.L x.x.fin x.K.tv bx d.f (.fH d.ks x.t)>>=fun aB=>cm ⟨23,.empty,0,aB,(aC x.x.L x.x.fin x.s).pos⟩) d.t=br x.K x.x (x.n+1) (.block x.t) x.s,mu:=fun d=>d.f,lv:=fun d=>[(0,ag (jg x)),(1,aj x.t),(5,ag (sG d))],st:=fun d=>[ak x.x d.t,F,(l_ d.c 23 .empty 0 d.r (aC x.x.L x.x.fin x.s).pos),d.r.A]}
 |_=>none
def aht(x:bk Bool)(a:ah):List (Nat×Nat×OH):=[(1,1,aX iz),(1,4,.n 2040),(1,5,.w (eG 2040)),(2,1,bv ik),(3,1,bv ig),(4,1,aP 2),(4,4,bv (cz x.n 17)),(4,5,.n 5050),(4,6,.o (dm 3 1 8) [3] [3]),(4,8,.w [.z00 2]),(5,1,.q (eG 2)),(5,2,.c fK [0,3] [0])]
def IQ(p:cX):List Value:=[ad 23,ai ⟨#[]⟩,float f64 0,au none 0 0,ad (co p.L p.fin p.i).pos]
def Kj(x:bk Bool)(b:nP):=PG x.x b.t (x.os++b.ks)/\bz 3 1 (bB b.ks) b.r/\b.f<=x.n/\(P x.x.L x.x.fin x.K.tv bx b.f (aq.fH b.ks x.t)>>=fun(a:List Int)=>cm ⟨(23:Int),ByteArray.empty,0,a,(aC x.x.L x.x.fin x.s).pos⟩) b.t=br x.K x.x (x.n+1) (aq.block x.t) x.s
def zW(b:nP)(x:bk Bool):List Value:=[ad 23,ai ByteArray.empty,float f64 0,au b.r.a b.r.n b.r.cap,ad (aC x.x.L x.x.fin x.s).pos]
def JI(x:bk Bool)(b:nP)(F:ah):=[(0,ak x.x b.t),(1,F),(2,af b.c (zW b x) 35),(3,b.r.A)]
def fG(c:Oper)(aa:List Value)(pp:List ah)(rr:ah)(b:pu->Row->Prop):=e_ Tryz.prog c (dm (3:TypeId) 1 8)/\true=true/\∃(z:pu),aa=(k7 z)/\pp=[z.r.A]/\(bz 3 1 z.cs z.r/\z.ys.length=z.m*1/\(∀(w0:Value),w0∈z.ys->w0.oneCell'=true)/\(z.r.n+z.m)*8<=140737488355328/\z.r.n+z.m<=9223372036854775807/\(z.a=none->z.m=0/\z.c=0))/\(∀(w0:Addr),z.a=some w0->c_ rr w0 z.ys)/\∀(a:Row),bz 3 1 (z.cs++z.ys) a/\a.n=z.r.n+z.m/\(z.m=0->a=z.r)->b z a
theorem ahv(x:bk Bool)(F:ah)(N:aR.cond (bn (fun(b:Bool)=>aq.block b)) x)(w:aR.aO (bn (fun(b:Bool)=>aq.block b)) x F):fd [ag (jg x)] (aH [(0,ak x.x x.s),(1,F)] []) (fun p o=>∀(n:Nat),cx n (gi [ag (jg x),ai ⟨#[123]⟩] [ak x.x x.s] (aH [(0,ak x.x x.s),(1,F),(2040,af n (IQ p) 35)] [0]) (fun m l=>(∃(b:nP),Kj x b/\(ag (jg x)=ag (jg x)/\aj x.t=aj x.t/\ag (bI n)=ag (sG b)/\True)/\aE [(0,ak m.x m.s.ax),(1,F),(2040,af n (IQ p) 35)] (JI x b F))/\aT fun(k:nP)_=>Kj x k->fQ [ag (jg x),ai ⟨#[125]⟩] [ak x.x k.t] (aH (JI x k F) [0]) (fun i d=>cx k.c (db [ag (jg x),agg ⟨zW k x⟩] [ak i.x i.s.ax,k.r.A] (fun c b=>ar (bn fun(a:Bool)=>aq.block a) x F (fx c) [(0,ak c.x (c.s.add c.n)),(1,F),(2,af k.c (zW k x) 35),(3,bc)]))) (fun i h=>true=true/\aw k.c 3/\cq x.n 17 [ag (jg x),aj x.t] [ak i.x i.s] (aH [(0,ak i.x i.s),(1,F),(2,af k.c (zW k x) 35),(3,k.r.A)] [0]) (fun g f=>∀(e:Nat),fG (a7 Tryz.f30 4 6) [au k.r.a k.r.n k.r.cap,au (bI e) 1 1] [k.r.A] (aH [(0,ak g.x f.snd),(1,F),(2,af k.c (zW k x) 35),(3,k.r.A),(5050,af e (bN f) 3)] [3]) (fun d c=>aw k.c 3/\∃(b:nP),Kj x b/\(ag (jg x)=ag (jg x)/\aj x.t=aj x.t/\ag (sG k)=ag (sG b)/\True)/\aE [(0,ak g.x f.snd),(1,F),(2,af k.c [ad 23,ai ByteArray.empty,float f64 0,au c.a c.n c.cap,ad (aC x.x.L x.x.fin x.s).pos] 35),(3,c.A),(5050,af e (bN f) 3)] (JI x b F)/\b.f<k.f)) (fun g c=>∀(b:Tm),ar (bn fun(a:Bool)=>aq.block a) x F (ci c) [(0,bc),(1,F),(2,af k.c (zW k x) 35),(3,k.r.A)]))) (fun m b=>ar (bn fun(a:Bool)=>aq.block a) x F (gr m) [(0,bc),(1,F),(2040,af n (IQ p) 35)]))):=by
 delta im fd jg jh gi IQ Kj bI sG zW JI fQ kz kC db j5 fx cq k7 fG bN ci gr dT aH ak aw cx ad ai aj ag au af bc ay aT;obtain⟨K,x,s,os,n,J⟩:=x;obtain⟨Q,I,H,hp,B,A,v⟩:=N;replace w:cB K x F:=w;replace v:br K x (n+1) (.block J) s≠.out:=v;dsimp only at Q I H hp B A⊢;obtain⟨r,e0⟩:∃r,br K x (n+1) (.block J) s=r:=⟨_,rfl⟩;rw[e0]at v;have hk:=e0;unfold br at hk;rw[P]at hk;have hl:=I.len;rw[m6]at hk;refine bs kR (x.p s) hl (w.ls.df 0 1 aL aL rfl rfl) fun _ _ c=>?_
 repeat (refine⟨al,?_⟩)
 refine ma H hk (fun hk g1=>?_);refine⟨⟨⟨s.ax,[],dL,n,c⟩,⟨g1.cast (dn _).symm,.nil rfl,bZ _,hk.trans e0.symm⟩,aV,aA [0,1,2040,999]⟩,?_⟩;clear hk;rintro⟨t,ks,R,f,c⟩ T ⟨g,j,u,hk⟩;dsimp only at g j u hk⊢;rw[e0]at hk;obtain _|f:=f
 ·exact absurd hk (fun e=>v (e.symm.trans (by rw[P];rfl)))
 replace u:f<=n:=Nat.le_of_succ_le u;rw[P,eV]at hk;refine bs jT ⟨x,t,rc⟩ ⟨hl,g.i⟩ (w.ls.sub (bU 1)) ⟨fun _ q=>?_,fun _ q=>?_⟩
 ·rw[lf q,aU,ip,h_]at hk;have L:=g.is q
  repeat (refine⟨al,?_⟩)
  refine bO fi ⟨x,t.ax,⟨23,.empty,0,ks,(aC x.L x.fin s).pos⟩,R⟩ ⟨by have:=L.cap hl;dsimp only[ap.ax,ap.add]at*;omega,j⟩ fun _ _=>?_;exact eH (e0.trans hk.symm)
 rw[lP q,aN,eV]at hk;refine⟨rfl,al,?_⟩;refine ca g ((fy hk v).up u) (fun k t1 hk g1 C E z D y G=>?_) (cC:=ao) (ct:=ao) (cN:=ao);dsimp only[aq.sl,ap.ax,ap.add]at C E z D y G;intro lb;have O:=py g hl;refine lq (ks:=ks) (k:=k) 5050 j ae (fun S M=>?_);exact⟨al,⟨t1,ks++[k],S,f,c⟩,⟨g1.cast (gW _ _ _),M,u,hk.trans e0.symm⟩,aV,aA [0,1,2,3],gZ _⟩
theorem ahu:aD 30 (bn (fun(b:Bool)=>aq.block b)):=fo 26 Tryz.func30 aht [] ahs aY bA [] ahv
structure Ds where
 t:ap
 ks:List Int
 r:Row
 f:Nat
 c:Nat
 d:Nat
 w:ByteArray
 kd:List Int
 rd:Row
 p:Int
def aiW(x:bk Unit)(F:ah):Nat->Option Inv:=fun
 |0=>some {X:=nP,P:=fun d=>PG x.x d.t (x.os++d.ks)/\bz 3 1 (bB d.ks) d.r/\d.f<=x.n/\(P x.x.L x.x.fin x.K.tv bx d.f (.dX d.ks)>>=fun aB=>cm ⟨21,.empty,0,aB,(aC x.x.L x.x.fin x.s).pos⟩) d.t=br x.K x.x (x.n+1) .vars x.s,mu:=fun d=>d.f,lv:=fun d=>[(0,ag (cg x)),(3,ag (sG d))],st:=fun d=>[ak x.x d.t,F,(l_ d.c 21 .empty 0 d.r (aC x.x.L x.x.fin x.s).pos),d.r.A]}
 |_=>none
def aiV(x:bk Unit)(F:ah):Nat->Option Inv:=fun
 |7=>some {X:=Ds,gh:=some ⟨Nat,fun d=>d.f⟩,P:=fun d=>PG x.x d.t (x.os++d.ks++d.kd)/\bz 3 1 (bB d.ks) d.r/\bz 3 1 (bB d.kd) d.rd/\d.f<=x.n/\(0<=d.p/\d.p<=x.x.fin)/\d.t.nodes.length+1<=2*d.t.i/\((dj ⟨22,d.w,0,d.kd,d.p⟩>>=fun k=>cZ x.x.L oO>>=fun h=>bif !h then ret (d.ks++[k]) else P x.x.L x.x.fin x.K.tv bx d.f (.dX (d.ks++[k])))>>=fun aB=>cm ⟨21,.empty,0,aB,(aC x.x.L x.x.fin x.s).pos⟩) d.t=br x.K x.x (x.n+1) .vars x.s,mu:=fun _=>0,lv:=fun d=>[(0,.pointer (some ⟨x.x.b,0,none⟩)),(3,.pointer (some ⟨d.c,0,none⟩)),(4,.pointer (some ⟨d.d,0,none⟩))],st:=fun d=>[ak x.x d.t,F,l_ d.c 21 .empty 0 d.r (aC x.x.L x.x.fin x.s).pos,d.r.A,l_ d.d 22 d.w 0 d.rd d.p,d.rd.A]}
 |_=>none
def aiX(x:bk Unit)(a:ah):List (Nat×Nat×OH):=[(1,1,aX iz),(1,4,.n 2040),(1,5,.w (eG 2040)),(2,3,dd),(2,7,d3 fL),(3,1,aX iz),(3,4,.n 4040),(3,5,.w (eG 4040)),(4,1,bv uk),(4,3,.w [.z00 4040]),(5,1,bv ig),(6,1,bv (cz x.n 14)),(6,2,.n 7020),(6,4,.w [.z00 4040]),
 (7,1,aP 2),(7,3,.q (eG 4)),(7,4,.c fK [0,5] [0]),(7,5,.n 8050),(7,6,.o (dm 3 1 8) [3] [3]),(7,8,.w [.z00 2]),(8,1,bv ig),(9,1,.q (eG 2)),(9,2,.c fK [0,3] [0])]
def Kk(x:bk Unit)(b:nP):=PG x.x b.t (x.os++b.ks)/\bz 3 1 (bB b.ks) b.r/\b.f<=x.n/\(P x.x.L x.x.fin x.K.tv bx b.f (aq.dX b.ks)>>=fun(a:List Int)=>cm ⟨(21:Int),ByteArray.empty,0,a,(aC x.x.L x.x.fin x.s).pos⟩) b.t=br x.K x.x (x.n+1) aq.vars x.s
def vg(b:nP)(x:bk Unit):List Value:=[ad 21,ai ByteArray.empty,float f64 0,au b.r.a b.r.n b.r.cap,ad (aC x.x.L x.x.fin x.s).pos]
def JH(x:bk Unit)(b:nP)(F:ah):=[(0,ak x.x b.t),(1,F),(2,af b.c (vg b x) 35),(3,b.r.A)]
def yz(aa:List Value)(pp:List ah)(rr:ah)(a:jK->Unit->Prop)(k1:jK->Unit->Prop):=aD 65 uk/\true=true/\∃(z:jK),aa=(mi z)/\pp=[ak z.x z.s]/\z.x.L.length<=1048576/\fP z.x rr/\(∀(b:Unit),(aC z.x.L z.x.fin z.s).kind=1->a z b)/\∀(c:Unit),((aC z.x.L z.x.fin z.s).kind=1->False)->k1 z c
def QD(t:cX):List Value:=[ad 22,ai ⟨#[]⟩,float f64 0,au none 0 0,ad (co t.L t.fin t.i).pos]
def Ef(q:jK)(t:cX):List Value:=[ad 22,ai (aC q.x.L q.x.fin q.s).text,float f64 0,au none 0 0,ad (co t.L t.fin t.i).pos]
def QG(z:Ds)(e0:bk Unit):List Value:=[ad 21,ai ByteArray.empty,float f64 0,au z.r.a z.r.n z.r.cap,ad (aC e0.x.L e0.x.fin e0.s).pos]
def zz(z:Ds):List Value:=[ad 22,ai z.w,float f64 0,au z.rd.a z.rd.n z.rd.cap,ad z.p]
def Mh(e0:bk Unit)(e1:Nat)(a:ah)(v0 v1:Value)(b:St):=∃(z:Ds),((PG e0.x z.t (e0.os++z.ks++z.kd)/\bz 3 1 (bB z.ks) z.r/\bz 3 1 (bB z.kd) z.rd/\z.f<=e0.n/\(0<=z.p/\z.p<=e0.x.fin)/\z.t.nodes.length+1<=2*z.t.i/\((do let k <-dj ⟨(22:Int),z.w,0,z.kd,z.p⟩ let h <-cZ e0.x.L oO bif !h then ret (z.ks++[k]) else P e0.x.L e0.x.fin e0.K.tv bx z.f (aq.dX (z.ks++[k])))>>=fun(w0:List Int)=>cm ⟨(21:Int),ByteArray.empty,0,w0,(aC e0.x.L e0.x.fin e0.s).pos⟩) z.t=br e0.K e0.x (e0.n+1) aq.vars e0.s)/\z.f=e1)/\(ag (cg e0)=ag (cg e0)/\v0=ag (some ⟨z.c,0,none⟩)/\v1=ag (some ⟨z.d,0,none⟩)/\True)/\aE b [(0,ak e0.x z.t),(1,a),(2,af z.c (QG z e0) 35),(3,z.r.A),(4,af z.d (zz z) 35),(5,z.rd.A)]
def o5(l:oF):List Value:=[ad ↑l.s.nodes.length]
def Eg(f:Row)(x:bk Unit):List Value:=[ad 21,ai ByteArray.empty,float f64 0,au f.a f.n f.cap,ad (aC x.x.L x.x.fin x.s).pos]
def zO(q:jK):=dT (aC q.x.L q.x.fin q.s).pos 60
theorem aiZ(x:bk Unit)(F:ah)(hc:aR.cond (bn (fun(_:Unit)=>aq.vars)) x)(H:aR.aO (bn (fun(_:Unit)=>aq.vars)) x F):fd (eo x) (aH [(0,ak x.x x.s),(1,F)] []) (fun C B=>∀(A:Nat),cx A (T1 (ak x.x x.s) ⟨x.x.b,1,none⟩ (fun z=>dE z/\dS (a7 Tryz.f41 2 7) (nC x z) [ak x.x x.s] (fun y w=>(∃(b:nP),Kk x b/\(ag (cg x)=ag (cg x)/\ag (bI A)=ag (sG b)/\True)/\aE [(0,ak y.x y.t),(1,F),(2040,af A [ad 21,ai ⟨#[]⟩,float f64 0,au none 0 0,ad (co C.L C.fin C.i).pos] 35)] (JH x b F))/\aT fun(v:nP)_=>Kk x v->fd (eo x) (aH (JH x v F) []) (fun t s=>∀(r:Nat),cx r (yz (eo x) [ak x.x v.t] (aH [(0,ak x.x v.t),(1,F),(2,af v.c (vg v x) 35),(3,v.r.A),(4040,af r (QD t) 35)] [0]) (fun q p=>aw r 1/\∃(o:Nat),fQ [ag (cg x),ai ⟨#[61]⟩] [ak q.x q.s.ax] (aH [(0,ak q.x q.s.ax),(1,F),(2,af v.c (vg v x) 35),(3,v.r.A),(4040,af r (Ef q t) 35)] [0]) (fun g f=>cq x.n 14 (eo x) [ak g.x g.s.ax] (aH [(0,ak g.x g.s.ax),(1,F),(2,af v.c (vg v x) 35),(3,v.r.A),(4040,af r (Ef q t) 35)] [0]) (fun e d=>∀(c:Nat),aw r 3/\Mh x o F (ag (sG v)) (cr r) [(0,ak e.x d.snd),(1,F),(2,af v.c (vg v x) 35),(3,v.r.A),(4040,af r [ad 22,ai (aC q.x.L q.x.fin q.s).text,float f64 0,au (bI c) 1 1,ad (co t.L t.fin t.i).pos] 35),(7020,af c (bN d) 3)]) (fun e b=>ar (bn fun(a:Unit)=>aq.vars) x F (ci b) [(0,bc),(1,F),(2,af v.c (vg v x) 35),(3,v.r.A),(4040,af r (Ef q t) 35)])) (fun g c=>Mh x o F (ag (sG v)) (cr r) [(0,ak g.x g.s),(1,F),(2,af v.c (vg v x) 35),(3,v.r.A),(4040,af r (Ef q t) 35)])/\aT fun(n:Ds)_=>((PG x.x n.t (x.os++n.ks++n.kd)/\bz 3 1 (bB n.ks) n.r/\bz 3 1 (bB n.kd) n.rd/\n.f<=x.n/\(0<=n.p/\n.p<=x.x.fin)/\n.t.nodes.length+1<=2*n.t.i/\((do let k <-dj ⟨(22:Int),n.w,0,n.kd,n.p⟩ let h <-cZ x.x.L oO bif !h then ret (n.ks++[k]) else P x.x.L x.x.fin x.K.tv bx n.f (aq.dX (n.ks++[k])))>>=fun(a:List Int)=>cm ⟨(21:Int),ByteArray.empty,0,a,(aC x.x.L x.x.fin x.s).pos⟩) n.t=br x.K x.x (x.n+1) aq.vars x.s)/\n.f=o)->true=true/\aw n.c 3/\cx n.d (db [ag (cg x),agg ⟨zz n⟩] [ak x.x n.t,n.rd.A] (fun l j=>∀(i:Nat),fG (a7 Tryz.f41 7 6) [au n.r.a n.r.n n.r.cap,au (bI i) 1 1] [n.r.A] (aH [(0,ak l.x (l.s.add l.n)),(1,F),(2,af n.c (QG n x) 35),(3,n.r.A),(4,af n.d (zz n) 35),(5,bc),(8050,af i (o5 l) 3)] [3]) (fun g f=>aw n.c 3/\fQ [ag (cg x),ai ⟨#[44]⟩] [ak l.x (l.s.add l.n)] (aH [(0,ak l.x (l.s.add l.n)),(1,F),(2,af n.c (Eg f x) 35),(3,f.A),(4,af n.d (zz n) 35),(5,bc),(8050,af i (o5 l) 3)] [0]) (fun e c=>∃(b:nP),Kk x b/\(ag (cg x)=ag (cg x)/\ag (some ⟨n.c,0,none⟩)=ag (sG b)/\True)/\aE [(0,ak e.x e.s.ax),(1,F),(2,af n.c (Eg f x) 35),(3,f.A),(4,af n.d (zz n) 35),(5,bc),(8050,af i (o5 l) 3)] (JH x b F)/\b.f<v.f) (fun e d=>cx n.c (db [ag (cg x),agg ⟨Eg f x⟩] [ak e.x e.s,f.A] (fun c b=>ar (bn fun(a:Unit)=>aq.vars) x F (fx c) [(0,ak c.x (c.s.add c.n)),(1,F),(2,af n.c (Eg f x) 35),(3,bc),(4,af n.d (zz n) 35),(5,bc),(8050,af i (o5 l) 3)]))))))) (fun q b=>ar (bn fun(a:Unit)=>aq.vars) x F (zO q) [(0,bc),(1,F),(2,af v.c (vg v x) 35),(3,v.r.A),(4040,af r (QD t) 35)]))))))):=by
 delta im fd cg eo T1 dE lN lO dS nC Kk bI sG vg JH mR mi yz QD jh fQ Ef cq QG zz Mh cr bN ci kz kC db k7 fG o5 Eg j5 fx zO dT aH ak aw cx ad ai ag au af bc ay aT;obtain⟨K,x,s,os,n,tp⟩:=x;obtain⟨ih,Q,O,hp,G,S,I⟩:=hc;replace H:cB K x F:=H;replace I:br K x (n+1) .vars s≠.out:=I;dsimp only at ih Q O hp G S⊢;obtain⟨r,e0⟩:∃r,br K x (n+1) .vars s=r:=⟨_,rfl⟩;rw[e0]at I;have hk:=e0;unfold br at hk;rw[P]at hk;have hl:=Q.len;have G:s.i<x.L.length:=G;rw[m6,kG]at hk;refine bs kR (x.p s) hl (H.ls.df 0 1 aL aL rfl rfl) fun _ _ c=>?_
 repeat (refine⟨al,?_⟩)
 refine⟨_,el fun _=>rfl,nq (i:=s.i) (hO O.i hl),gw rfl rfl rfl,rfl,⟨x,s,s.ax,1,_⟩,rfl,rfl,⟨fun _=>rfl,rfl,a_,rfl,rfl⟩,ao,fun _ _=>?_⟩;have g1:=O.step G;refine⟨⟨⟨s.ax,[],dL,n,c⟩,⟨g1.cast (dn _).symm,.nil rfl,bZ _,hk.trans e0.symm⟩,aV,aA [0,1,2040,999]⟩,?_⟩;clear hk;rintro⟨t,ks,W,f,c⟩ js ⟨g,m,D,hk⟩;dsimp only at g m D hk⊢;rw[e0]at hk;obtain _|f:=f
 ·exact absurd hk (fun e=>I (e.symm.trans (by rw[P];rfl)))
 replace D:f<=n:=Nat.le_of_succ_le D;rw[P,eV]at hk;rw[m6,eV]at hk;refine bs kR (x.p t) hl (H.ls.df 0 1 aL aL rfl rfl) fun _ _ d=>?_
 repeat (refine⟨al,?_⟩)
 refine bs KY ⟨x,t⟩ hl (H.ls.sub (bU 1)) ⟨fun _ q=>?_,fun _ q=>⟨.inr (_,_),⟨_,e0.trans (hk.symm.trans (KI q))⟩,rfl,aA [1]⟩⟩;rw[KJ q,eV]at hk;have hi:t.i<x.L.length:=uR (fin:=x.fin) (fun e=>by rw[e]at q;cases q);have L:=g.step hi;have u:=PG.hp Q t;have E:t.nodes.length<=2*t.i:=g.nd;refine⟨al,f,?_,?_⟩
 ·skip
  refine bs jT ⟨x,t.ax,eq⟩ ⟨hl,L.i⟩ (H.ls.sub (bU 1)) ⟨fun _ q=>?_,fun _ q=>?_⟩
  ·have g3:=L.is q;rw[lf q,aU,eV]at hk;refine ca g3 ((z_ hk I).up D) (fun k t1 hk g4 T V N U M X=>?_) (cC:=ao) (ct:=ao) (cN:=ao);dsimp only[aq.sl,ap.ax,ap.add]at T V N U M X;intro lb;exact⟨al,⟨t1,ks,W,f,c,d,(aC x.L x.fin t).text,[k],kT lb [k],(aC x.L x.fin t).pos⟩,⟨⟨g4,m,jw lb [k],D,u,a_,hk.trans e0.symm⟩,rfl⟩,aV,aA [0,1,2,3,4040,7020]⟩
  ·rw[lP q,aN,eV,ip]at hk;exact⟨⟨t.ax,ks,W,f,c,d,(aC x.L x.fin t).text,[],dL,(aC x.L x.fin t).pos⟩,⟨⟨L.cast (dn _).symm,m,.nil rfl,D,u,by dsimp only[ap.ax];omega,hk.trans e0.symm⟩,rfl⟩,aV,aA [0,1,2,3,4040,999]⟩
 clear hk q hi L u E D m g;rintro⟨t,ks,W,f',c,d,w,kd,rd,p⟩ js ⟨⟨g,m,J,D,u,E,hk⟩,e1⟩;have e1:f'=f:=e1;subst e1;dsimp only at g m J D u E hk⊢;rw[e0,eV,xP,eV]at hk;refine⟨rfl,al,?_⟩
 repeat (refine⟨al,?_⟩)
 have g3:=PG.node (n:=⟨22,w,0,kd,p⟩) g u E;refine bO fi ⟨x,t,⟨22,w,0,kd,p⟩,rd⟩ ⟨by have:=g.cap hl;dsimp only[ap.ax,ap.add]at*;omega,J⟩ fun _ _=>?_;intro lb;have R:=py (os:=os) (ks:=ks++kd) (g.cast (gW _ _ _)) hl;rw[dJ]at R;refine lq (ks:=ks) (k:=(t.nodes.length:Int)) 8050 m ae (fun Z Y=>?_);refine⟨al,?_⟩;refine bs jT ⟨x,t.add ⟨22,w,0,kd,p⟩,oO⟩ ⟨hl,g3.i⟩ (H.ls.sub (bU 1)) ⟨fun _ q=>?_,fun _ q=>?_⟩
 ·rw[lf q]at hk;simp only[Bool.not_true,aN]at hk;have g4:=g3.is q;exact⟨⟨_,_,Z,_,c⟩,⟨g4.cast (gW _ _ _),Y,D,hk.trans e0.symm⟩,aV,aA [0,1,2,3],gZ _⟩
 ·rw[lP q]at hk;simp only[Bool.not_false,aU,ip,h_]at hk
  repeat (refine⟨al,?_⟩)
  refine bO fi ⟨x,t.add ⟨22,w,0,kd,p⟩,⟨21,.empty,0,ks++[(t.nodes.length:Int)],(aC x.L x.fin s).pos⟩,Z⟩ ⟨by have:=g3.cap hl;dsimp only[ap.ax,ap.add]at*;omega,Y⟩ fun _ _=>?_;exact eH (e0.trans hk.symm)
theorem aiY:aD 41 (bn (fun(_:Unit)=>aq.vars)):=fo 43 Tryz.func41 aiX [] aiW aiV bA [] aiZ
end
section
open Go
def Bc(L:List bh)(fin:Int)(tv:Nat->ByteArray)(n:Nat)(kind:Int)(op:ByteArray)(pos:Int)(a:List Int):PM (List Int):=do
 let s <-eZ
 io {s with bu:=s.bu+1,loops:=0,bm:=0}
 let b <-one (P L fin tv bx n (.block true))
 let t <-eZ
 io {t with bu:=t.bu-1,loops:=s.loops,bm:=s.bm}
 cm ⟨kind,op,0,a++[b],pos⟩
def NI(L:List bh)(fin:Int)(tv:Nat->ByteArray)(n:Nat)(kind:Int)(op:ByteArray)(pos:Int):PM (List Int):=do
 cw L fin lp
 let a <-P L fin tv bx n (.dy [])
 Bc L fin tv n kind op pos a
def NJ(L:List bh)(fin:Int)(tv:Nat->ByteArray)(f:Nat)(ks:List Int):PM (List Int):=do
 let x <-fv L fin
 let w <-gJ L fin
 let k <-dj ⟨3,w,0,[],x.pos⟩
 P L fin tv bx f (.dy (ks++[k]))
structure kL where
 t:ap
 op:ByteArray
 ks:List Int
 r:Row
 f:Nat
 c:Nat
def kL.ok(d:kL)(x:cj)(s:ap)(os:List Int)(n:Nat):Prop:=PG x d.t (os++d.ks)/\bz 3 1 (bB d.ks) d.r/\d.f<=n/\s.i+1<=d.t.i/\d.t.bu=s.bu/\d.t.loops=s.loops/\d.t.bm=s.bm
def cu(x:bk Int):Option Addr:=some ⟨x.x.b,0,none⟩
def qT(d:kL):Option Addr:=some ⟨d.c,0,none⟩
def ahL(x:bk Int)(F:ah):Nat->Option Inv:=fun
 |0=>some {X:=kL,P:=fun d=>d.ok x.x x.s x.os x.n/\(P x.x.L x.x.fin x.K.tv bx d.f (.dy d.ks)>>=Bc x.x.L x.x.fin x.K.tv x.n x.t d.op (aC x.x.L x.x.fin x.s).pos) d.t=br x.K x.x (x.n+1) (.func x.t) x.s,mu:=fun d=>d.f,lv:=fun d=>[(0,ag (cu x)),(5,ag (qT d))],st:=fun d=>[ak x.x d.t,F,(l_ d.c x.t d.op 0 d.r (aC x.x.L x.x.fin x.s).pos),d.r.A]}
 |_=>none
def ahK(x:bk Int)(F:ah):Nat->Option Inv:=fun
 |5=>some {X:=kL,P:=fun d=>d.ok x.x x.s x.os x.n/\d.ks=[]/\NI x.x.L x.x.fin x.K.tv x.n x.t d.op (aC x.x.L x.x.fin x.s).pos d.t=br x.K x.x (x.n+1) (.func x.t) x.s,mu:=fun _=>0,lv:=fun d=>[(0,ag (cu x)),(5,ag (qT d))],st:=fun d=>[ak x.x d.t,F,(l_ d.c x.t d.op 0 d.r (aC x.x.L x.x.fin x.s).pos),d.r.A]}
 |9=>some {X:=kL,gh:=some ⟨Nat,fun d=>d.f⟩,P:=fun d=>d.ok x.x x.s x.os x.n/\(NJ x.x.L x.x.fin x.K.tv d.f d.ks>>=Bc x.x.L x.x.fin x.K.tv x.n x.t d.op (aC x.x.L x.x.fin x.s).pos) d.t=br x.K x.x (x.n+1) (.func x.t) x.s,mu:=fun _=>0,lv:=fun d=>[(0,ag (cu x)),(5,ag (qT d))],st:=fun d=>[ak x.x d.t,F,(l_ d.c x.t d.op 0 d.r (aC x.x.L x.x.fin x.s).pos),d.r.A]}
 |_=>none
def ahN(x:bk Int)(a:ah):List (Nat×Nat×OH):=[(1,2,aX iz),(1,5,.n 2050),(1,6,.w (eG 2050)),(2,3,dd),(2,7,d3 fL),(3,4,aX wJ),(4,1,bv uk),(4,3,.w [.z00 2050]),(5,1,bv ik),
 (6,1,bv ig),(7,1,aP 2),(8,1,bv ik),(9,1,aX iz),(10,1,aP 2),(10,4,bv uk),(10,7,.c fK [0,999] [0]),(10,8,.n 11080),(10,9,.o (dm 3 1 8) [3] [3]),(10,11,.w [.z00 2]),
 (11,3,dd),(11,7,dd),(12,6,dd),(12,10,d3 fL),(12,13,d3 fL),(12,16,d3 fL),(13,1,aP 2),(13,3,bv (cz x.n 30)),(13,4,.n 14040),(13,5,.o (dm 3 1 8) [3] [3]),(13,7,.w [.z00 2]),
 (14,6,dd),(14,12,d3 fL),(14,15,d3 fL),(14,18,d3 fL),(15,1,.q (eG 2)),(15,2,.c fK [0,3] [0])]
def ahM:Nat->List Nat:=fun r=>if r=10 then [0,1,2,3,5,4,6,7,8,9,10,11] else []
def jF(x:bk Int):List Value:=[ag (cu x)]
def Ek(x:bk Int)(N:cX):List Value:=[ad x.t,ai ⟨#[]⟩,float f64 0,au none 0 0,ad (co N.L N.fin N.i).pos]
def PN(z:kL)(e0:bk Int):=z.ok e0.x e0.s e0.os e0.n/\z.ks=[]/\NI e0.x.L e0.x.fin e0.K.tv e0.n e0.t z.op (aC e0.x.L e0.x.fin e0.s).pos z.t=br e0.K e0.x (e0.n+1) (aq.func e0.t) e0.s
def tO(e0:bk Int)(z:kL):List Value:=[ad e0.t,ai z.op,float f64 0,au z.r.a z.r.n z.r.cap,ad (aC e0.x.L e0.x.fin e0.s).pos]
def u7(e0:bk Int)(z:kL)(e1:ah):=[(0,ak e0.x z.t),(1,e1),(2,af z.c (tO e0 z) 35),(3,z.r.A)]
def Mi(e0:bk Int)(e1:ah)(v0:Value)(a:St):=∃(z:kL),PN z e0/\(ag (cu e0)=ag (cu e0)/\v0=ag (qT z)/\True)/\aE a (u7 e0 z e1)
def RZ(x:bk Int)(J:sY)(F:ah)(L:Nat)(N:cX):=yz (jF x) [ak J.x J.t] (aH [(0,ak J.x J.t),(1,F),(2050,af L (Ek x N) 35)] [0]) (fun c b=>aw L 1/\Mi x F (cr L) [(0,ak c.x c.s.ax),(1,F),(2050,af L [ad x.t,ai (aC c.x.L c.x.fin c.s).text,float f64 0,au none 0 0,ad (co N.L N.fin N.i).pos] 35)]) (fun c b=>ar (bn fun(a:Int)=>aq.func a) x F (zO c) [(0,bc),(1,F),(2050,af L (Ek x N) 35)])
def Gq(aa:List Value)(rr:ah)(a:FU->Unit->Prop):=aD 66 wJ/\true=true/\∃(z:FU),aa=[ag (some ⟨z.p.b,0,none⟩),ad ↑z.a]/\([]:List ah)=[]/\(z.p.L.length<=1048576/\z.p.i<=1048576/\z.a<=1048576)/\iM z.p rr/\∀(b:Unit),True->a z b
def H6(a:kL)(x:bk Int):=a.ok x.x x.s x.os x.n/\(P x.x.L x.x.fin x.K.tv bx a.f (aq.dy a.ks)>>=Bc x.x.L x.x.fin x.K.tv x.n x.t a.op (aC x.x.L x.x.fin x.s).pos) a.t=br x.K x.x (x.n+1) (aq.func x.t) x.s
def zT(x:bk Int):List Value:=[ag (cu x),ai ⟨#[41]⟩]
def IZ(x:bk Int)(C:kL)(k:Row):List Value:=[ad x.t,ai C.op,float f64 0,au k.a k.n k.cap,ad (aC x.x.L x.x.fin x.s).pos]
def EL(F:ah)(C:kL)(x:bk Int):=[(0,bc),(1,F),(2,af C.c (tO x C) 35),(3,C.r.A)]
def Pn(z:kL)(e0:bk Int):=z.ok e0.x e0.s e0.os e0.n/\(NJ e0.x.L e0.x.fin e0.K.tv z.f z.ks>>=Bc e0.x.L e0.x.fin e0.K.tv e0.n e0.t z.op (aC e0.x.L e0.x.fin e0.s).pos) z.t=br e0.K e0.x (e0.n+1) (aq.func e0.t) e0.s
def Mj(e0:bk Int)(e1:Nat)(a:ah)(v0:Value)(b:St):=∃(z:kL),(Pn z e0/\z.f=e1)/\(ag (cu e0)=ag (cu e0)/\v0=ag (qT z)/\True)/\aE b (u7 e0 z a)
theorem ahP(x:bk Int)(F:ah)(hc:aR.cond (bn (fun(k:Int)=>aq.func k)) x)(T:aR.aO (bn (fun(k:Int)=>aq.func k)) x F):fd (jF x) (aH [(0,ak x.x x.s),(1,F)] []) (fun N M=>∀(L:Nat),cx L (T1 (ak x.x x.s) ⟨x.x.b,1,none⟩ (fun K=>dE K/\dS (a7 Tryz.f43 2 7) [ag (some ⟨x.x.b,1,none⟩),ad (K+1)] [ak x.x x.s] (fun J I=>Br (x.t==35) (RZ x J F L N) (Gq [ag (cu x),ad 0] (aH [(0,ak J.x J.t),(1,F),(2050,af L (Ek x N) 35)] []) (fun e d=>Br (Bp e.p.L (e.p.i+e.a)) (RZ x J F L N) (Mi x F (cr L) [(0,ak J.x J.t),(1,F),(2050,af L (Ek x N) 35)])))/\aT fun(H:kL)_=>PN H x->gi [ag (cu x),ai ⟨#[40]⟩] [ak x.x H.t] (aH (u7 x H F) [0]) (fun E D=>(∃(a:kL),H6 a x/\(ag (cu x)=ag (cu x)/\ag (qT H)=ag (qT a)/\True)/\aE [(0,ak E.x E.s.ax),(1,F),(2,af H.c (tO x H) 35),(3,H.r.A)] (u7 x a F))/\aT fun(C:kL)_=>H6 C x->fQ (zT x) [ak x.x C.t] (aH (u7 x C F) [0]) (fun A z=>true=true/\T1 (ak A.x A.s.ax) ⟨x.x.b,5,none⟩ (fun y=>T1 (ak A.x A.s.ax) ⟨x.x.b,6,none⟩ (fun w=>T1 (ak A.x A.s.ax) ⟨x.x.b,4,none⟩ (fun v=>dE v/\dS (a7 Tryz.f43 12 10) [ag (some ⟨x.x.b,4,none⟩),ad (v+1)] [ak A.x A.s.ax] (fun u t=>dS (a7 Tryz.f43 12 13) [ag (some ⟨x.x.b,5,none⟩),ad 0] [ak u.x u.t] (fun s r=>dS (a7 Tryz.f43 12 16) [ag (some ⟨x.x.b,6,none⟩),ad 0] [ak s.x s.t] (fun q p=>true=true/\aw C.c 3/\cq x.n 30 [ag (cu x),aj true] [ak q.x q.t] (aH [(0,ak q.x q.t),(1,F),(2,af C.c (tO x C) 35),(3,C.r.A)] [0]) (fun o n=>∀(m:Nat),fG (a7 Tryz.f43 13 5) [au C.r.a C.r.n C.r.cap,au (bI m) 1 1] [C.r.A] (aH [(0,ak o.x n.snd),(1,F),(2,af C.c (tO x C) 35),(3,C.r.A),(14040,af m (bN n) 3)] [3]) (fun l k=>aw C.c 3/\T1 (ak o.x n.snd) ⟨x.x.b,4,none⟩ (fun j=>ou j/\dS (a7 Tryz.f43 14 12) [ag (some ⟨x.x.b,4,none⟩),ad (j-1)] [ak o.x n.snd] (fun i h=>dS (a7 Tryz.f43 14 15) [ag (some ⟨x.x.b,5,none⟩),ad y] [ak i.x i.t] (fun g f=>dS (a7 Tryz.f43 14 18) [ag (some ⟨x.x.b,6,none⟩),ad w] [ak g.x g.t] (fun e d=>cx C.c (db [ag (cu x),agg ⟨IZ x C k⟩] [ak e.x e.t,k.A] (fun c b=>ar (bn fun(a:Int)=>aq.func a) x F (fx c) [(0,ak c.x (c.s.add c.n)),(1,F),(2,af C.c (IZ x C k) 35),(3,bc),(14040,af m (bN n) 3)])))))))) (fun o c=>∀(b:Tm),ar (bn fun(a:Int)=>aq.func a) x F (ci c) (EL F C x))))))))) (fun A n=>∃(m:Nat),(aw C.c 3/\aS ((C.r.n:Int)>0) (gi [ag (cu x),ai ⟨#[44]⟩] [ak A.x A.s] (aH [(0,ak A.x A.s),(1,F),(2,af C.c (tO x C) 35),(3,C.r.A)] [0]) (fun c b=>Mj x m F (ag (qT C)) [(0,ak c.x c.s.ax),(1,F),(2,af C.c (tO x C) 35),(3,C.r.A)]) (fun c b=>ar (bn fun(a:Int)=>aq.func a) x F (gr c) (EL F C x))) (Mj x m F (ag (qT C)) [(0,ak A.x A.s),(1,F),(2,af C.c (tO x C) 35),(3,C.r.A)]))/\aT fun(l:kL)_=>(Pn l x/\l.f=m)->fd (jF x) (aH (u7 x l F) []) (fun j i=>true=true/\aw l.c 3/\yz (jF x) [ak x.x l.t] (aH (u7 x l F) [0]) (fun h g=>db [ag (cu x),agg ⟨[ad 3,ai (aC h.x.L h.x.fin h.s).text,float f64 0,au none 0 0,ad (co j.L j.fin j.i).pos]⟩] [ak h.x h.s.ax,bc] (fun f e=>∀(d:Nat),fG (a7 Tryz.f43 10 9) [au l.r.a l.r.n l.r.cap,au (bI d) 1 1] [l.r.A] (aH [(0,ak f.x (f.s.add f.n)),(1,F),(2,af l.c (tO x l) 35),(3,l.r.A),(999,bc),(11080,af d (o5 f) 3)] [3]) (fun c b=>aw l.c 3/\∃(a:kL),H6 a x/\(ag (cu x)=ag (cu x)/\ag (qT l)=ag (qT a)/\True)/\aE [(0,ak f.x (f.s.add f.n)),(1,F),(2,af l.c (IZ x l b) 35),(3,b.A),(999,bc),(11080,af d (o5 f) 3)] (u7 x a F)/\a.f<C.f))) (fun h c=>∀(b:Tm),ar (bn fun(a:Int)=>aq.func a) x F (zO h) (EL F l x))))) (fun E b=>ar (bn fun(a:Int)=>aq.func a) x F (gr E) (EL F H x)))))):=by
 delta im fd cu jF T1 dE lN lO dS mR mi yz Ek PN qT tO u7 Mi bI cr zO RZ Gq jh gi H6 fQ zT cq k7 fG bN ou kz kC db IZ j5 fx ci EL Pn Mj gr o5 dT aH ak aw cx ad ai aj ag au af bc aS ay aT;obtain⟨K,x,s,os,n,Y⟩:=x;obtain⟨ih,hK,hG,hp,S,y5,ho⟩:=hc;replace T:cB K x F:=T;replace ho:br K x (n+1) (.func Y) s≠.out:=ho;dsimp only at ih hK hG hp S y5⊢;obtain⟨r,e0⟩:∃r,br K x (n+1) (.func Y) s=r:=⟨_,rfl⟩;rw[e0]at ho;have hk:=e0;unfold br at hk;rw[P]at hk;have hl:=hK.len;have S:s.i<x.L.length:=S;rw[m6,kG,iF]at hk;refine bs kR (x.p s) hl (T.ls.df 0 1 aL aL rfl rfl) fun _ _ c=>?_
 repeat (refine⟨al,?_⟩)
 refine⟨_,el fun _=>rfl,nq (i:=s.i) (hO hG.i hl),gw rfl rfl rfl,rfl,⟨x,s,s.ax,1,_⟩,rfl,rfl,⟨fun _=>rfl,rfl,a_,rfl,rfl⟩,ao,fun _ _=>?_⟩;have g1:=hG.step S;have U6:=PG.hp hK s;have x0:s.i+1<=s.ax.i:=bZ _;refine⟨?_,?_⟩
 ·refine lj (A:=(Y==35||nameV x.L s.ax 0)=true) (fun kx=>aG (fun Z=>kx ?_) (fun Z=>bs VU ⟨x.p s.ax,0⟩ ⟨hl,by have:=g1.i;show s.ax.i<=1048576;omega,a_⟩ (T.ls.df 0 1 aL aL rfl rfl) fun _ _=>aG (fun U=>kx ?_) (fun U=>?_))) (fun hx=>?_)
  ·rw[show(Y==35)=true from Z];rfl
  ·rw[show nameV x.L s.ax 0=true from U,mJ]
  ·rw[show(Y==35)=false from Z,show nameV x.L s.ax 0=false from U,Bool.or_self,aN,ip]at hk;exact⟨⟨s.ax,.empty,[],dL,n,c⟩,⟨⟨g1.cast (dn _).symm,.nil rfl,bZ _,x0,rfl,rfl,rfl⟩,rfl,hk.trans e0.symm⟩,aV,aA [0,1,2050,999]⟩
  ·rw[hx,aU]at hk;refine bs KY ⟨x,s.ax⟩ hl (T.ls.sub (bU 1)) ⟨fun _ q=>?_,fun _ q=>⟨.inr (_,_),⟨_,e0.trans (hk.symm.trans (KI q))⟩,rfl,aA [1]⟩⟩;rw[KJ q]at hk;have hi:s.ax.i<x.L.length:=uR (fin:=x.fin) (fun e=>by rw[e]at q;cases q);have R:=g1.step hi;exact⟨al,⟨s.ax.ax,(aC x.L x.fin s.ax).text,[],dL,n,c⟩,⟨⟨R.cast (dn _).symm,.nil rfl,bZ _,Nat.le_succ_of_le x0,rfl,rfl,rfl⟩,rfl,hk.trans e0.symm⟩,aV,aA [0,1,2050,999]⟩
 clear hk;rintro⟨t,op,ks,X,f,c⟩ js ⟨⟨g,B,O,hi,Q,f2,f3⟩,W,hk⟩;have W:ks=[]:=W;subst W;dsimp only at g B O hi Q f2 f3 hk⊢;rw[e0,NI]at hk;refine ma g hk (fun hk R=>?_);refine⟨⟨⟨t.ax,op,[],X,n,c⟩,⟨⟨R,B,bZ _,Nat.le_succ_of_le hi,Q,f2,f3⟩,hk.trans e0.symm⟩,aV,aA [0,1,2,3]⟩,?_⟩;clear hk g R B O hi Q f2 f3;rintro⟨t,op,ks,X,f,c⟩ js ⟨⟨g,B,O,hi,Q,f2,f3⟩,hk⟩;dsimp only at g B O hi Q f2 f3 hk⊢;rw[e0]at hk;obtain _|f:=f
 ·exact absurd hk (fun e=>ho (e.symm.trans (by rw[P];rfl)))
 replace O:f<=n:=Nat.le_of_succ_le O;rw[P,eV]at hk;have NU:X.n=ks.length:=by have:=B.len;rw[Bg]at this;omega
 refine bs jT ⟨x,t,rp⟩ ⟨hl,g.i⟩ (T.ls.sub (bU 1)) ⟨fun _ q=>?_,fun _ q=>?_⟩
 ·rw[lf q,aU,ip,Bc,iF,Ah]at hk;have R:=g.is q;have b1:=g.f;have b2:=g.i;have b3:s.bu<=s.i:=hG.f.2;refine⟨rfl,_,el fun _=>rfl,_,el fun _=>rfl,?_⟩;refine⟨_,el fun _=>rfl,⟨by show-9223372036854775808<=t.bu+1;omega,by show t.bu+1<=9223372036854775807;omega⟩,gw rfl rfl rfl,rfl,⟨x,t.ax,⟨t.ax.i,t.ax.nodes,t.ax.bu+1,t.ax.loops,t.ax.bm⟩,4,_⟩,rfl,rfl,⟨fun _=>rfl,rfl,a_,rfl,rfl⟩,ao,fun _ _=>?_⟩;refine⟨gw rfl rfl rfl,rfl,⟨x,_,⟨t.ax.i,t.ax.nodes,t.ax.bu+1,0,t.ax.bm⟩,5,_⟩,rfl,rfl,⟨fun _=>rfl,rfl,a_,rfl,rfl⟩,ao,fun _ _=>?_⟩;refine⟨gw rfl rfl rfl,rfl,⟨x,_,⟨t.ax.i,t.ax.nodes,t.ax.bu+1,0,0⟩,6,_⟩,rfl,rfl,⟨fun _=>rfl,rfl,a_,rfl,rfl⟩,ao,fun _ _=>?_⟩;have g3:PG x ⟨t.ax.i,t.ax.nodes,t.ax.bu+1,0,0⟩ (os++ks):=R.NG (t:=⟨t.ax.i,t.ax.nodes,t.ax.bu+1,0,0⟩) rfl rfl ⟨by show 0<=t.bu+1;omega,by show t.bu+1<=((t.i+1:Nat):Int);omega⟩ ⟨cE 0,Int.natCast_nonneg _⟩ ⟨cE 0,Int.natCast_nonneg _⟩;refine⟨rfl,al,?_⟩;refine ca g3 (fy hk ho) (fun b G hk g4 ig4 ng4 fg4 lg4 bg4 vg4=>?_) (cC:=ao) (ct:=ao) (cN:=ao);dsimp only[aq.sl,ap.ax,ap.add]at ig4 ng4 fg4 lg4 bg4 vg4;rw[iF,Ah]at hk;intro lb;have V:=py g hl;refine lq (ks:=ks) (k:=b) 14040 B ae (fun r2 U=>?_);refine⟨al,?_⟩;have b4:=g4.i;refine⟨_,el fun _=>rfl,⟨by show-9223372036854775808<=G.bu-1;omega,by show G.bu-1<=9223372036854775807;omega⟩,gw rfl rfl rfl,rfl,⟨x,G,⟨G.i,G.nodes,G.bu-1,G.loops,G.bm⟩,4,_⟩,rfl,rfl,⟨fun _=>rfl,rfl,a_,rfl,rfl⟩,ao,fun _ _=>?_⟩;refine⟨gw rfl rfl rfl,rfl,⟨x,_,⟨G.i,G.nodes,G.bu-1,t.ax.loops,G.bm⟩,5,_⟩,rfl,rfl,⟨fun _=>rfl,rfl,a_,rfl,rfl⟩,ao,fun _ _=>?_⟩;refine⟨gw rfl rfl rfl,rfl,⟨x,_,⟨G.i,G.nodes,G.bu-1,t.ax.loops,t.ax.bm⟩,6,_⟩,rfl,rfl,⟨fun _=>rfl,rfl,a_,rfl,rfl⟩,ao,fun _ _=>?_⟩
  repeat (refine⟨al,?_⟩)
  have cap:=g4.cap hl;refine bO fi ⟨x,⟨G.i,G.nodes,G.bu-1,t.ax.loops,t.ax.bm⟩,⟨Y,op,0,ks++[b],(aC x.L x.fin s).pos⟩,r2⟩ ⟨by show G.nodes.length<=4194304;omega,U⟩ fun _ _=>?_;exact eH (e0.trans hk.symm)
 ·rw[lP q,aN]at hk;have V:=py g hl;refine⟨f,⟨al,?_⟩,?_⟩
  ·refine bo (fun Z=>?_) (fun Z=>?_)
   ·rw[bw (show ks.length>0 by omega),aU]at hk;rw[eV]at hk;refine ma g hk (fun hk R=>?_);exact⟨⟨t.ax,op,ks,X,f,c⟩,⟨⟨⟨R,B,O,Nat.le_succ_of_le hi,Q,f2,f3⟩,hk.trans e0.symm⟩,rfl⟩,aV,aA [0,1,2,3]⟩
   ·rw[bF (show ¬ks.length>0 by omega),aN,eV,ip]at hk;exact⟨⟨t,op,ks,X,f,c⟩,⟨⟨⟨g,B,O,hi,Q,f2,f3⟩,hk.trans e0.symm⟩,rfl⟩,aV,aA [0,1,2,3]⟩
  clear hk q V O hi Q f2 f3 g NU B;rintro⟨t,op,ks,X,f',c⟩ js ⟨⟨⟨g,B,O,hi,Q,f2,f3⟩,hk⟩,e1⟩;have e1:f'=f:=e1;subst e1;dsimp only at g B O hi Q f2 f3 hk⊢;rw[e0,NJ,eV,m6,eV]at hk;refine bs kR (x.p t) hl (T.ls.df 0 1 aL aL rfl rfl) fun _ _=>?_;refine⟨rfl,al,KY,rfl,⟨x,t⟩,rfl,rfl,hl,T.ls.sub (bU 1),fun _ q=>?_,fun _ q=>fun _=>⟨.inr (_,_),⟨_,e0.trans (hk.symm.trans (KI q))⟩,rfl,aA [1]⟩⟩;rw[KJ q,eV,xP]at hk;have U1:t.i<x.L.length:=uR (fin:=x.fin) (fun e=>by rw[e]at q;cases q);have R:=g.step U1;have NS:=g.nd;have g3:=PG.node (n:=⟨3,(aC x.L x.fin t).text,0,[],(aC x.L x.fin t).pos⟩) (R.cast (dn _).symm) (PG.hp hK t) (by show t.nodes.length+1<=2*(t.i+1);omega);refine bO fi ⟨x,t.ax,⟨3,(aC x.L x.fin t).text,0,[],(aC x.L x.fin t).pos⟩,dL⟩ ⟨by have:=R.cap hl;dsimp only[ap.ax,ap.add]at*;omega,.nil rfl⟩ fun _ _=>?_;intro lb;have V:=py g hl;refine lq (ks:=ks) (k:=(t.nodes.length:Int)) 11080 B ae (fun r2 U=>?_);exact⟨al,⟨_,op,_,r2,_,c⟩,⟨⟨g3.cast (gW _ _ _),U,O,Nat.le_succ_of_le hi,Q,f2,f3⟩,hk.trans e0.symm⟩,aV,aA [0,1,2,3],gZ _⟩
theorem ahO:aD 43 (bn (fun(k:Int)=>aq.func k)):=fo 103 Tryz.func43 ahN [] ahL ahK ahM [] ahP
end
section
open Go
structure oH where
 t:ap
 k:Int
 f:Nat
def Dz(L:List bh)(fin:Int)(tv:Nat->ByteArray)(f:Nat)(k:Int)(aB:List Int):PM (List Int):=do
 let p <-dW k
 let m <-dj ⟨10,.empty,0,aB,p⟩
 P L fin tv bx f (.d6 m)
def Nm(L:List bh)(fin:Int)(tv:Nat->ByteArray)(f:Nat)(ks:List Int):PM (List Int):=do
 let e <-one (P L fin tv bx f .bf)
 P L fin tv bx f (.d0 (ks++[e]))
structure rJ where
 t:ap
 k:Int
 ks:List Int
 r:Row
 f:Nat
 f0:Nat
def rJ.ok(d:rJ)(x:cj)(s:ap)(os:List Int)(n:Nat):Prop:=PG x d.t (os++d.ks)/\bz 3 1 (bB d.ks) d.r/\d.f<=n/\d.f0<=n/\d.k∈d.ks
def air(x:bk Unit)(F:ah):Nat->Option Inv:=fun
 |0=>some {X:=oH,P:=fun d=>PG x.x d.t (x.os++[d.k])/\d.f<=x.n/\P x.x.L x.x.fin x.K.tv bx d.f (.d6 d.k) d.t=br x.K x.x (x.n+1) .suffix x.s,mu:=fun d=>d.f,lv:=fun d=>[(0,ag (cg x)),(3,ad d.k)],st:=fun d=>[ak x.x d.t,F]}
 |3=>some {X:=rJ,gh:=some ⟨Nat,fun d=>d.f0⟩,P:=fun d=>d.ok x.x x.s x.os x.n/\(P x.x.L x.x.fin x.K.tv bx d.f (.d0 d.ks)>>=Dz x.x.L x.x.fin x.K.tv d.f0 d.k) d.t=br x.K x.x (x.n+1) .suffix x.s,mu:=fun d=>d.f,lv:=fun d=>[(0,ag (cg x)),(3,ad d.k),(6,au d.r.a d.r.n d.r.cap)],st:=fun d=>[ak x.x d.t,F,d.r.A]}
 |_=>none
def aiq(x:bk Unit)(F:ah):Nat->Option Inv:=fun
 |18=>some {X:=rJ,gh:=some ⟨Nat×Nat,fun d=>(d.f,d.f0)⟩,P:=fun d=>d.ok x.x x.s x.os x.n/\(Nm x.x.L x.x.fin x.K.tv d.f d.ks>>=Dz x.x.L x.x.fin x.K.tv d.f0 d.k) d.t=br x.K x.x (x.n+1) .suffix x.s,mu:=fun _=>0,lv:=fun d=>[(0,.pointer (some ⟨x.x.b,0,none⟩)),(3,.int .i64 d.k),(6,.slice d.r.a d.r.n d.r.cap)],st:=fun d=>[ak x.x d.t,F,d.r.A]}
 |_=>none
def ait(x:bk Unit)(a:ah):List (Nat×Nat×OH):=[(1,1,bv (cz x.n 106)),(3,1,bv ig),(4,1,aX iz),(4,2,.n 5020),(4,3,.w (eG 5020)),(5,1,aP 5020),(5,5,aP 5020),(6,1,aX ly),(7,3,dd),(7,7,d3 fL),(8,2,aP 5020),(8,4,.n 9040),(8,7,bv td),(8,9,.c fK [0,9040] [0]),
 (9,1,bv ig),(10,1,bv (cz x.n 14)),(11,1,bv ik),(12,3,.n 13030),(12,6,bv td),(12,8,.c fK [0,13030] [0]),
 (13,1,bv ig),(14,1,.n 15010),(15,1,bv ig),(17,1,bv ik),(18,2,bv (cz x.n 14)),(18,3,.n 19030),(18,4,.o (dm 3 1 8) [2] [2]),(19,4,bv td),(19,6,.c fK [0,2] [0])]
def ais:Nat->List Nat:=fun r=>if r=8 then [0,1,2,3,5,6,7,4,8,9,10] else []
def Iw(e0:bk Unit)(z:oH):=PG e0.x z.t (e0.os++[z.k])/\z.f<=e0.n/\P e0.x.L e0.x.fin e0.K.tv bx z.f (aq.d6 z.k) z.t=br e0.K e0.x (e0.n+1) aq.suffix e0.s
def Gr(e0:bk Unit)(e1:ah)(v0:Value)(a:St)(mm:Nat):=∃(z:oH),Iw e0 z/\(ag (cg e0)=ag (cg e0)/\v0=ad z.k/\True)/\aE a [(0,ak e0.x z.t),(1,e1)]/\z.f<mm
def R3(u:iK)(x:bk Unit)(j:Nat)(w:oH)(l:cX)(F:ah):=T1 (ak u.x u.s.ax) ⟨x.x.b,1,none⟩ (fun i=>dE i/\dS (a7 Tryz.f92 7 7) (nC x i) [ak u.x u.s.ax] (fun h g=>true=true/\aw j 1/\rV [ag (cg x),ad w.k] [ak h.x h.t] (fun f e=>∀(d:Nat),db [ag (cg x),agg ⟨[ad 8,ai (co l.L l.fin l.i).text,float f64 0,au (bI d) 1 1,ad (dz f.s f.k)]⟩] [ak f.x f.s,af d [ad w.k] 3] (fun c b=>Gr x F (j5 c) [(0,ak c.x (c.s.add c.n)),(1,F),(5020,af j (q0 l) 53),(9040,bc)] w.f))))
def Ie(a:rJ)(x:bk Unit)(n:Nat):=(a.ok x.x x.s x.os x.n/\(P x.x.L x.x.fin x.K.tv bx a.f (aq.d0 a.ks)>>=Dz x.x.L x.x.fin x.K.tv a.f0 a.k) a.t=br x.K x.x (x.n+1) aq.suffix x.s)/\a.f0=n
def P4(z:rJ)(e0:bk Unit):=z.ok e0.x e0.s e0.os e0.n/\(Nm e0.x.L e0.x.fin e0.K.tv z.f z.ks>>=Dz e0.x.L e0.x.fin e0.K.tv z.f0 z.k) z.t=br e0.K e0.x (e0.n+1) aq.suffix e0.s
def Mk(e0:bk Unit)(e1:Nat×Nat)(a:ah)(v0 v1:Value)(b:St):=∃(z:rJ),(P4 z e0/\(z.f,z.f0)=e1)/\(ag (cg e0)=ag (cg e0)/\v0=ad z.k/\v1=au z.r.a z.r.n z.r.cap/\True)/\aE b [(0,ak e0.x z.t),(1,a),(2,z.r.A)]
theorem aiv(x:bk Unit)(F:ah)(hc:aR.cond (bn (fun(_:Unit)=>aq.suffix)) x)(H:aR.aO (bn (fun(_:Unit)=>aq.suffix)) x F):cq x.n 106 (eo x) [ak x.x x.s] (tX x F) (fun z y=>(∃(a:oH),Iw x a/\(ag (cg x)=ag (cg x)/\ad y.fst=ad a.k/\True)/\aE (lM z y F) [(0,ak x.x a.t),(1,F)])/\aT fun(w:oH)_=>Iw x w->fQ [ag (cg x),ai ⟨#[46]⟩] [ak x.x w.t] (aH [(0,ak x.x w.t),(1,F)] [0]) (fun u m=>fd (eo x) (aH (mU u F) []) (fun l k=>∀(j:Nat),cx j (aw j 0/\Br ((co l.L l.fin l.i).kind !=1) (aw j 0/\Br ((co l.L l.fin l.i).kind !=2) (kO (eo x) (aH [(0,ak u.x u.s.ax),(1,F),(5020,af j (q0 l) 53)] []) (fun c b=>ar (bn fun(a:Unit)=>aq.suffix) x F (jC c) [(0,ak u.x u.s.ax),(1,F),(5020,af j (q0 l) 53)])) (R3 u x j w l F)) (R3 u x j w l F)))) (fun u t=>fQ [ag (cg x),ai ⟨#[91]⟩] [ak u.x u.s] (aH (ky u F) [0]) (fun s k=>cq x.n 14 (eo x) [ak s.x s.s.ax] (aH (mU s F) [0]) (fun j i=>gi [ag (cg x),ai ⟨#[93]⟩] [ak j.x i.snd] (aH (lM j i F) [0]) (fun h g=>∀(f:Nat),rV [ag (cg x),ad w.k] [ak h.x h.s.ax] (fun e d=>db [ag (cg x),agg ⟨[ad 9,ai ⟨#[]⟩,float f64 0,au (bI f) 2 2,ad (dz e.s e.k)]⟩] [ak e.x e.s,af f [ad w.k,ad i.fst] 3] (fun c b=>Gr x F (j5 c) [(0,ak c.x (c.s.add c.n)),(1,F),(13030,bc)] w.f))) (fun h b=>ar (bn fun(a:Unit)=>aq.suffix) x F (gr h) (h9 F))) (fun j b=>ar (bn fun(a:Unit)=>aq.suffix) x F (ci b) (h9 F))) (fun s r=>fQ [ag (cg x),ai ⟨#[40]⟩] [ak s.x s.s] (aH (ky s F) [0]) (fun q p=>∀(o:Nat),∃(n:Nat),(∃(a:rJ),Ie a x n/\(ag (cg x)=ag (cg x)/\ad w.k=ad a.k/\au (bI o) 1 1=au a.r.a a.r.n a.r.cap/\True)/\aE [(0,ak q.x q.s.ax),(1,F),(15010,af o [ad w.k] 3)] [(0,ak x.x a.t),(1,F),(2,a.r.A)])/\aT fun(m:rJ)_=>Ie m x n->fQ [ag (cg x),ai ⟨#[41]⟩] [ak x.x m.t] (aH [(0,ak x.x m.t),(1,F),(2,m.r.A)] [0]) (fun k f=>rV [ag (cg x),ad m.k] [ak k.x k.s.ax] (fun e d=>db [ag (cg x),agg ⟨[ad 10,ai ⟨#[]⟩,float f64 0,au m.r.a m.r.n m.r.cap,ad (dz e.s e.k)]⟩] [ak e.x e.s,m.r.A] (fun c b=>Gr x F (j5 c) [(0,ak c.x (c.s.add c.n)),(1,F),(2,bc)] w.f))) (fun k j=>∃(i:Nat×Nat),aS ((m.r.n:Int)>1) (gi [ag (cg x),ai ⟨#[44]⟩] [ak k.x k.s] (aH [(0,ak k.x k.s),(1,F),(2,m.r.A)] [0]) (fun c b=>Mk x i F (ad m.k) (au m.r.a m.r.n m.r.cap) [(0,ak c.x c.s.ax),(1,F),(2,m.r.A)]) (fun c b=>ar (bn fun(a:Unit)=>aq.suffix) x F (gr c) [(0,bc),(1,F),(2,m.r.A)])) (Mk x i F (ad m.k) (au m.r.a m.r.n m.r.cap) [(0,ak k.x k.s),(1,F),(2,m.r.A)])/\aT fun(h:rJ)_=>(P4 h x/\(h.f,h.f0)=i)->cq x.n 14 (eo x) [ak x.x h.t] (aH [(0,ak x.x h.t),(1,F),(2,h.r.A)] [0]) (fun f e=>∀(d:Nat),fG (a7 Tryz.f92 18 4) [au h.r.a h.r.n h.r.cap,au (bI d) 1 1] [h.r.A] (aH [(0,ak f.x e.snd),(1,F),(2,h.r.A),(19030,af d (bN e) 3)] [2]) (fun c b=>∃(a:rJ),Ie a x n/\(ag (cg x)=ag (cg x)/\ad h.k=ad a.k/\au b.a b.n b.cap=au a.r.a a.r.n a.r.cap/\True)/\aE [(0,ak f.x e.snd),(1,F),(2,b.A),(19030,af d (bN e) 3)] [(0,ak x.x a.t),(1,F),(2,a.r.A)]/\a.f<m.f)) (fun f b=>ar (bn fun(a:Unit)=>aq.suffix) x F (ci b) [(0,bc),(1,F),(2,h.r.A)]))) (fun q b=>ar (bn fun(a:Unit)=>aq.suffix) x F (ay (ad w.k)) (ky q F))))) (fun z b=>ar (bn fun(a:Unit)=>aq.suffix) x F (ci b) (h9 F)):=by
 delta cq cg eo tX Iw lM jh fQ im fd mU kO q0 jC T1 dE lN lO dS nC rV kz kC db bI Gr j5 R3 ky gi gr h9 ci Ie P4 Mk k7 fG bN dT aH ak aw cx ad ai aj ag au af bc aS ay aT;obtain⟨K,x,s,os,n,tp⟩:=x;obtain⟨ih,hK,hG,hp,X,W,G⟩:=hc;replace H:cB K x F:=H;replace G:br K x (n+1) .suffix s≠.out:=G;dsimp only at ih hK hG hp X W⊢;obtain⟨r,e0⟩:∃r,br K x (n+1) .suffix s=r:=⟨_,rfl⟩;rw[e0]at G;have hk:=e0;unfold br at hk;rw[P]at hk;have hl:=hK.len;refine ca hG (fy hk G) (fun k t1 hk g1 Z x5 T x2 N x8=>?_) (cC:=ao) (ct:=ao) (cN:=ao);dsimp only[aq.sl,ap.ax,ap.add]at Z x5 T x2 N x8;refine⟨⟨⟨t1,k,n⟩,⟨g1,bZ _,hk.trans e0.symm⟩,aV,aA [0,1]⟩,?_⟩;clear hk g1;rintro⟨t,k,f⟩ js ⟨g,C,hk⟩;dsimp only at g C hk⊢;rw[e0]at hk;obtain _|f:=f
 ·exact absurd hk (fun e=>G (e.symm.trans (by rw[P];rfl)))
 replace C:f<=n:=Nat.le_of_succ_le C;rw[P]at hk;have I:=g.nd;refine bs jT ⟨x,t,Um⟩ ⟨hl,g.i⟩ (H.ls.sub (bU 1)) ⟨fun _ q=>?_,fun _ q=>?_⟩
 ·rw[lf q,aU,m6]at hk;have E:=g.is q;refine bs kR (x.p t.ax) hl (H.ls.df 0 1 aL aL rfl rfl) fun _ _ c=>?_
  repeat (refine⟨al,?_⟩)
  refine lj (A:=((aC x.L x.fin t.ax).kind !=1&&(aC x.L x.fin t.ax).kind !=2)=false) (fun kx=>aG (fun J=>⟨al,aG (fun L=>?_) (fun L=>kx ?_)⟩) (fun J=>kx ?_)) (fun hx=>?_)
  ·rw[show((aC x.L x.fin t.ax).kind !=1)=true from J,show((aC x.L x.fin t.ax).kind !=2)=true from L,Bool.and_self,aU]at hk;exact bs pG (x.p t.ax) hl (H.ls.df 0 1 aL aL rfl rfl) fun _ _=>⟨.inr (_,_),⟨_,e0.trans hk.symm⟩,rfl,aA [1]⟩
  ·rw[show((aC x.L x.fin t.ax).kind !=2)=false from L,lB]
  ·rw[show((aC x.L x.fin t.ax).kind !=1)=false from J,jp]
  rw[hx,aN,ip,kG,Af,xP]at hk;have hi:t.ax.i<x.L.length:=uR (fin:=x.fin) (fun e=>by rw[e]at hx;cases hx);have g3:=E.step hi;refine⟨_,el fun _=>rfl,nq (i:=t.ax.i) (hO E.i hl),gw rfl rfl rfl,rfl,⟨x,t.ax,t.ax.ax,1,_⟩,rfl,rfl,⟨fun _=>rfl,rfl,by simp[*],rfl,rfl⟩,ao,fun _ _=>?_⟩;refine⟨rfl,al,?_⟩;refine bO wk ⟨x,t.ax.ax,k⟩ (g3.k9 aL) fun _ _=>?_;intro lb;have g4:=PG.node (n:=⟨8,(aC x.L x.fin t.ax).text,0,[k],dz t.ax.ax k⟩) g3 (g3.pos aL) (by show t.nodes.length+1<=2*(t.i+1+1);omega);refine bO fi ⟨x,t.ax.ax,⟨8,(aC x.L x.fin t.ax).text,0,[k],dz t.ax.ax k⟩,kT lb [k]⟩ ⟨by have:=g3.cap hl;grind,jw lb [k]⟩ fun _ _=>?_;exact⟨⟨_,_,f⟩,⟨g4,C,hk.trans e0.symm⟩,aV,aA [0,1],gZ _⟩
 rw[lP q,aN]at hk;refine bs jT ⟨x,t,lb⟩ ⟨hl,g.i⟩ (H.ls.sub (bU 1)) ⟨fun _ q=>?_,fun _ q=>?_⟩
 ·rw[lf q,aU]at hk;have E:=g.is q;refine ca E ((fy hk G).up C) (fun e t1 hk g3 x1 x7 V x4 Q y0=>?_) (cC:=ao) (ct:=ao) (cN:=ao);dsimp only[aq.sl,ap.ax,ap.add]at x1 x7 V x4 Q y0;refine ma g3 hk (fun hk g4=>?_);rw[Af,xP]at hk;intro lb;refine bO wk ⟨x,t1.ax,k⟩ (g4.k9 aL) fun _ _=>?_;have g5:=PG.node (n:=⟨9,.empty,0,[k,e],dz t1.ax k⟩) (g4.cast (gW _ _ _)) (g4.pos aL) (by show t1.nodes.length+1<=2*(t1.i+1);omega);refine bO fi ⟨x,t1.ax,⟨9,.empty,0,[k,e],dz t1.ax k⟩,kT lb [k,e]⟩ ⟨by have:=g4.cap hl;grind,jw lb [k,e]⟩ fun _ _=>?_;exact⟨⟨_,_,f⟩,⟨g5,C,hk.trans e0.symm⟩,aV,aA [0,1],gZ _⟩
 rw[lP q,aN]at hk;refine bs jT ⟨x,t,lp⟩ ⟨hl,g.i⟩ (H.ls.sub (bU 1)) ⟨fun _ q=>?_,fun _ q=>?_⟩;rotate_left
 ·rw[lP q,aN]at hk;exact eH (e0.trans hk.symm)
 rw[lf q,aU]at hk;have E:=g.is q;intro lb;refine⟨f,⟨⟨t.ax,k,[k],kT lb [k],f,f⟩,⟨⟨⟨E,jw lb [k],C,C,List.mem_singleton.2 rfl⟩,hk.trans e0.symm⟩,rfl⟩,aV,aA [0,1,15010]⟩,?_⟩;clear hk g E q I;rintro⟨t,k,ks,M,f2,f3⟩ js ⟨⟨⟨g,B,C,D,v⟩,hk⟩,e1⟩;have e1:f3=f:=e1;subst e1;dsimp only at g B C D v hk⊢;rw[e0]at hk;obtain _|f2:=f2
 ·exact absurd hk (fun e=>G (e.symm.trans (by rw[P];rfl)))
 replace C:f2<=n:=Nat.le_of_succ_le C;rw[P,eV]at hk;have Y:M.n=ks.length:=by have:=B.len;rw[Bg]at this;omega
 have I:=g.nd;refine bs jT ⟨x,t,rp⟩ ⟨hl,g.i⟩ (H.ls.sub (bU 1)) ⟨fun _ q=>?_,fun _ q=>?_⟩
 ·rw[lf q,aU,ip,Dz,Af,xP]at hk;have E:=g.is q;refine bO wk ⟨x,t.ax,k⟩ (E.k9 (by simp[v])) fun _ _=>?_;have g3:=PG.node (n:=⟨10,.empty,0,ks,dz t.ax k⟩) E (E.pos (by simp[v])) (by show t.nodes.length+1<=2*(t.i+1);omega);refine bO fi ⟨x,t.ax,⟨10,.empty,0,ks,dz t.ax k⟩,M⟩ ⟨by have:=E.cap hl;grind,B⟩ fun _ _=>?_;exact⟨⟨_,_,_⟩,⟨g3,D,hk.trans e0.symm⟩,aV,aA [0,1],gZ _⟩
 rw[lP q,aN]at hk;refine⟨(f2,f3),?_,?_⟩
 ·refine bo (fun J=>?_) (fun J=>?_)
  ·rw[bw (show ks.length>1 by omega),aU,eV]at hk;refine ma g hk (fun hk E=>?_);exact⟨⟨t.ax,k,ks,M,f2,f3⟩,⟨⟨⟨E,B,C,D,v⟩,hk.trans e0.symm⟩,rfl⟩,aV,aA [0,1,2]⟩
  ·rw[bF (show ¬ks.length>1 by omega),aN,eV,ip]at hk;exact⟨⟨t,k,ks,M,f2,f3⟩,⟨⟨⟨g,B,C,D,v⟩,hk.trans e0.symm⟩,rfl⟩,aV,aA [0,1,2]⟩
 clear hk g B C D v Y I q;rintro⟨t,k,ks,M,R,S⟩ js ⟨⟨⟨g,B,C,D,v⟩,hk⟩,e1⟩;have e1:(R,S)=(f2,f3):=e1;cases e1;dsimp only at g B C D v hk⊢;rw[e0,Nm,eV]at hk;refine ca g ((fy hk G).up C) (fun e t1 hk E x0 x6 U x3 O x9=>?_) (cC:=ao) (ct:=ao) (cN:=ao);dsimp only[aq.sl,ap.ax,ap.add]at x0 x6 U x3 O x9;intro lb;have wD:=py g hl;refine lq (ks:=ks) (k:=e) 19030 B ae (fun r2 L=>?_);exact⟨⟨t1,k,ks++[e],r2,f2,f3⟩,⟨⟨⟨E.cast (gW _ _ _),L,C,D,n4 _ v⟩,hk.trans e0.symm⟩,rfl⟩,aV,aA [0,1,2],gZ _⟩
theorem aiu:aD 92 (bn (fun(_:Unit)=>aq.suffix)):=fo 83 Tryz.func92 ait [] air aiq ais [] aiv
end
end Go.Proofs.YtdkchodgklpomaaGreatDoor
