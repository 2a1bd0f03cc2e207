/- Part of the proof that ParseJoins answers true at every input. -/
import Derived.Test.YtdkchodgklpomaaGreatDoorPJaq
set_option linter.all false
namespace Go.Proofs.YtdkchodgklpomaaGreatDoor
set_option maxRecDepth 100000
open Go.Value (int slice string bool pointer agg tuple func float iface nilIface)
open Go.IntKind (i64 u8 u64 i32 u32 u16 i8 i16)
open Go.FloatKind (f64)
open Go.Ending (returned panicked)
section
open Go
section
variable{V:Vw}
theorem Ww(M:V.Ok)(v:V.cK=false)(hn:V.A.length=V.n+V.dA):∀(f:Nat)(aB:List Int)(s s':ap)(r:List Int)(t:ap),V.R s s'->(∀k∈aB,0<=k)->V.PA f (.prog aB) s= .ok r t->
  ∃(kE:List Int)(l w:ap),t=l.add ⟨37,.empty,0,kE,0⟩/\r=[(l.nodes.length:Int)]/\V.A.length<=l.i/\(∀k∈kE,0<=k)/\(V.R l w\/V.m_ l w)/\
   ∀(a:List Int)(g:Nat)(X:PR (List Int)),X≠.out->V.PB g (.prog (a++kE.map (·+V.c))) w=X->∃n,V.PB n (.prog (a++aB.map (·+V.c))) s'=X:=by
 intro f
 induction f with
 |zero=>intro aB s s' r t _ _ h;unfold Vw.PA at h;rw[P]at h;cases h
 |succ f ih=>
  intro aB s s' r t C hk h;have h:P V.A V.fA V.aJ V.wide (f+1) (.prog aB) s= .ok r t:=h;rw[P,iF]at h;cases c:decide (s.i<V.A.length)with
  |false=>
   rw[c]at h;have h:cm ⟨37,.empty,0,aB,0⟩ s= .ok r t:=h;rw[h_]at h;cases h;exact⟨aB,s,s',rfl,rfl,by have:=G_ c;omega,hk,.inl C,fun a g X _ e=>⟨g,e⟩⟩
  |true=>
   rw[c]at h;have c:=jS c;have h:(one (P V.A V.fA V.aJ V.wide f (.bT true))>>=fun k=>P V.A V.fA V.aJ V.wide f (.prog (aB++[k]))) s= .ok r t:=h;obtain⟨k,t1,W,d⟩:=M9 h;obtain⟨q,Y,Z⟩:=Wg W;obtain⟨i,i1,i2,i3⟩:=C.at_;have G:i<V.n:=ae;have hB:s'.i<V.B.length:=by
    obtain⟨x,y,_,hy,_⟩:=M.FC i G;rw[i3];exact(jq.1 hy).1
   obtain⟨N,b,L,I,J,K⟩:=S2 M f (.bT true) (.bT true) s s' f (bZ _) (.bT true) (fun e=>by rw[v]at e;cases e) trivial C q t1 Y;have p:0<=k/\N.headD 0=k+V.c:=by
    have:=I.one (J rfl);rw[Z]at this;exact this
   have run:∀(a:List Int)(g:Nat)(X:PR (List Int)),X≠.out->V.PB g (.prog (a++(aB++[k]).map (·+V.c))) b=X->∃n,V.PB n (.prog (a++aB.map (·+V.c))) s'=X:=by
    intro a g X A e;have hm:P V.B V.fB V.aJ V.wide (f+g) (.bT true) s'= .ok N b:=by
     rcases yp V.B V.fB V.aJ V.wide (Nat.le_add_right f g) (.bT true) s' with j|j
     ·have B:P V.B V.fB V.aJ V.wide f (.bT true) s'=_:=L;rw[B]at j;cases j
     ·rw[j];exact L
    have H:P V.B V.fB V.aJ V.wide (f+g) (.prog (a++(aB++[k]).map (·+V.c))) b=X:=by
     rcases yp V.B V.fB V.aJ V.wide (Nat.le_add_left g f) (.prog (a++(aB++[k]).map (·+V.c))) b with j|j
     ·have O:P V.B V.fB V.aJ V.wide g (.prog (a++(aB++[k]).map (·+V.c))) b=X:=e;rw[O]at j;exact absurd j A
     ·rw[j];exact e
    refine⟨f+g+1,?_⟩;show P V.B V.fB V.aJ V.wide (f+g+1) (.prog (a++aB.map (·+V.c))) s'=X;rw[P,iF,bw hB];show(one (P V.B V.fB V.aJ V.wide (f+g) (.bT true))>>=fun k=>P V.B V.fB V.aJ V.wide (f+g) (.prog (a++aB.map (·+V.c)++[k]))) s'=X;rw[TK (Ov hm),p.2,<-H,List.map_append,<-gW];rfl
   have u:∀z∈aB++[k],0<=z:=fun z m=>by
    rcases List.mem_append.1 m with m|m
    ·exact hk z m
    ·rw[List.mem_singleton]at m;rw[m];exact p.1
   rcases K with D| ⟨_,o⟩
   ·obtain⟨kE,l,w,e1,Q,R,S,T,U⟩:=ih (aB++[k]) t1 b r t D u d;refine⟨kE,l,w,e1,Q,R,S,T,fun a g X A e=>?_⟩;obtain⟨n,E⟩:=U a g X A e;exact run a n X A E
   ·have F:¬t1.i<V.A.length:=by have:=o.sA;omega
    have d:P V.A V.fA V.aJ V.wide f (.prog (aB++[k])) t1= .ok r t:=d;cases f with
    |zero=>rw[P]at d;cases d
    |succ f=>
     rw[P,iF,bF F]at d;have d:cm ⟨37,.empty,0,aB++[k],0⟩ t1= .ok r t:=d;rw[h_]at d;cases d;exact⟨aB++[k],t1,b,rfl,rfl,ae,u,.inr o,run⟩
end
structure Le(La Lb J:List bh):Prop where
 len:J.length=La.length+1+Lb.length
 fst:∀(i:Nat)(x:bh),La[i]?=some x->J[i]?=some x
 mid:∃y:bh,J[La.length]?=some y/\y.kind=5/\y.aI=true/\y.text=cU
 snd:∀(i:Nat)(x:bh),Lb[i]?=some x->∃y:bh,J[La.length+1+i]?=some y/\y.kind=x.kind/\y.text=x.text/\y.num=x.num/\y.aI=x.aI
theorem akI{a b:ByteArray}(h:bD a b=true):a=b:=by
 have h:(a.data==b.data)=true:=h;exact ByteArray.ext (eq_of_beq h)
structure yi(L:List bh)(s:ap):Prop where
 h:∃y:bh,L[s.i]?=some y/\(y.kind=5\/y.kind=2)/\y.text=ry
section
variable{L:List bh}{fin:Int}{aJ:Nat->ByteArray}{wide:ByteArray->ByteArray}{s:ap}
theorem yi.is(h:yi L s){T:ByteArray}(c:bD ry T=false):bg L s 0 T=false:=by
 obtain⟨y,a,_,b⟩:=h.h;unfold bg;simp[*]
theorem yi.ask(h:yi L s)(g:Int->ByteArray->Bool){b:Bool}(e:g 5 ry=b)(d:g 2 ry=b):g (aC L fin s).kind (aC L fin s).text=b:=by
 obtain⟨y,a,hk,c⟩:=h.h;rw[jU a,c];grind
def aq.agN:aq->Bool
 | .bf| .cond| .level _| .unary| .dO| .suffix| .dv=>true
 |_=>false
theorem ag1:∀(f:Nat)(tag:aq),tag.agN=true->yi L s->NO (P L fin aJ wide f tag) s:=by
 intro f
 induction f with
 |zero=>intro tag _ _;rw[P];exact NO.out
 |succ f c=>
  intro tag d a;cases tag with
  |bf=>rw[P];exact NO.bind (NO.one (c _ rfl a))
  |cond=>rw[P];exact NO.bind (NO.one (c _ rfl a))
  |level n=>rw[P];exact NO.bif (fun _=>c _ rfl a) (fun _=>NO.bind (NO.one (c _ rfl a)))
  |unary=>
   rw[P];refine NO.cd (NO.bif (fun _=>c _ rfl a) (fun _=>NO.bif (fun h=>?_) (fun _=>NO.bif (fun h=>?_) (fun _=>c _ rfl a))))
   ·rw[a.ask (fun _ t=>cM uj t) (b:=false) rfl rfl]at h;cases h
   ·rw[a.ask (fun _ t=>cM [pp,mm] t) (b:=false) rfl rfl]at h;cases h
  |dO=>rw[P];exact NO.bind (NO.one (c _ rfl a))
  |suffix=>rw[P];exact NO.bind (NO.one (c _ rfl a))
  |dv=>
   rw[P];refine NO.cd (NO.bif (fun h=>?_) (fun _=>NO.bif (fun h=>?_) (fun _=>NO.bif (fun h=>?_) (fun _=>NO.get (NO.bif (fun h=>?_) (fun _=>NO.bif (fun h=>?_) (fun _=>?_)))))))
   ·rw[a.ask (fun k _=>k==3) (b:=false) rfl rfl]at h;cases h
   ·rw[a.ask (fun k _=>k==4) (b:=false) rfl rfl]at h;cases h
   ·rw[a.ask (fun k _=>k==1) (b:=false) rfl rfl]at h;cases h
   ·rw[a.is rfl,a.is rfl,a.is rfl]at h;cases h
   ·rw[a.is rfl]at h;cases h
   ·exact NO.b9 (a.is rfl) (NO.bif (fun e=>nomatch e) (fun _=>NO.b9 (a.is rfl) (NO.bif (fun e=>nomatch e) (fun _=>NO.b9 (a.is rfl) (NO.bif (fun e=>nomatch e) (fun _=>NO.dN))))))
  |_=>cases d
theorem akk(a:yi L s)(f:Nat):NO (P L fin aJ wide f (.bT true)) s:=by
 cases f with
 |zero=>rw[P];exact NO.out
 |succ f=>
  rw[P];have c:NO (one (P L fin aJ wide f .bf)>>=fun e=>dQ L fin>>=fun _=>cm ⟨20,.empty,0,[e],(aC L fin s).pos⟩) s:=NO.bind (NO.one (ag1 f .bf rfl a));refine NO.cd (NO.get (NO.bif (fun h=>?_) (fun _=>NO.bif (fun h=>?_) (fun _=>NO.bif (fun _=>NO.bif (fun h=>?_) (fun _=>NO.bif (fun h=>?_) (fun _=>NO.bif (fun h=>?_) (fun _=>NO.bif (fun h=>?_) (fun _=>NO.bif (fun h=>?_) (fun _=>NO.bif (fun h=>?_) (fun _=>NO.bif (fun h=>?_) (fun _=>NO.bif (fun h=>?_) (fun _=>c))))))))) (fun _=>c)))))
  ·rw[a.is rfl]at h;cases h
  ·rw[a.is rfl]at h;cases h
  ·rw[a.ask (fun _ t=>bD t lg) (b:=false) rfl rfl]at h;cases h
  ·rw[a.ask (fun _ t=>cM [pi,pe,pg,qf] t) (b:=false) rfl rfl]at h;cases h
  ·rw[a.ask (fun _ t=>bD t rz) (b:=false) rfl rfl]at h;cases h
  ·rw[a.ask (fun _ t=>bD t xT) (b:=false) rfl rfl]at h;cases h
  ·rw[a.ask (fun _ t=>bD t xV) (b:=false) rfl rfl]at h;cases h
  ·rw[a.ask (fun _ t=>bD t xS) (b:=false) rfl rfl]at h;cases h
  ·rw[a.ask (fun _ t=>bD t xU) (b:=false) rfl rfl]at h;cases h
  ·rw[a.ask (fun _ t=>bD t Ak) (b:=false) rfl rfl]at h;cases h
theorem akl{y:bh}(a:L[s.i]?=some y)(b:y.kind=5)(c:y.text=cU)(f:Nat):P L fin aJ wide (f+1) (.bT true) s= .ok [(s.nodes.length:Int)] (s.add ⟨36,.empty,0,[],y.pos⟩).ax:=by
 have is:∀T,bg L s 0 T=bD cU T:=fun T=>by
  unfold bg;simp[*]
 rw[P,m6,iF,is,is];show(iv L fin>>=fun k=>eF>>=fun _=>ret [k]) s=_;rw[Ft,kG,jU a];rfl
end
structure Do(ta tb t A B C E:List bP)(kA kB kE:List Int):Prop where
 a:ta=A++[⟨37,.empty,0,kA,0⟩]
 b:tb=B++[⟨37,.empty,0,kB,0⟩]
 t:t=A++E++C++[⟨37,.empty,0,kA++kE++kB.map (·+((A++E).length:Int)),0⟩]
 e:(E=[]/\kE=[])\/∃p,E=[⟨36,.empty,0,[],p⟩]/\kE=[(A.length:Int)]
 len:C.length=B.length
 get:∀(i:Nat)(x:bP),B[i]?=some x->∃y:bP,C[i]?=some y/\y.kind=x.kind/\y.op=x.op/\y.num=x.num/\y.aB=x.aB.map (·+((A++E).length:Int))
theorem acW{α:Type}{l m:List α}(hl:m.length=l.length)(h:∀(i:Nat)(x:α),l[i]?=some x->m[i]?=some x):m=l:=by
 apply List.ext_getElem?;grind
section
variable{La Lb J:List bh}{fa fb fj:Int}{aJ:Nat->ByteArray}{wide:ByteArray->ByteArray}
theorem Le.run(h:Le La Lb J){f g:Nat}{ra rb:List Int}{ta tb:ap}(ha:P La fa aJ wide f (.prog []) l8= .ok ra ta)(H:P Lb fb aJ wide g (.prog []) l8= .ok rb tb):
  ∃F r t A B C E kA kB kE,(∀G,F<=G->P J fj aJ wide G (.prog []) l8= .ok r t)/\Do ta.nodes tb.nodes t.nodes A B C E kA kB kE:=by
 obtain⟨O,m1,m2,m3,m4⟩:=h.mid;have mono:∀{F r t},P J fj aJ wide F (.prog []) l8= .ok r t->∀G,F<=G->P J fj aJ wide G (.prog []) l8= .ok r t:=by
  intro F r t e G hG;rcases yp J fj aJ wide hG (.prog []) l8 with j|j
  ·rw[e]at j;cases j
  ·rw[j];exact e
 let o:Vw:=⟨La,J,fa,fj,La.length,0,0,[],true,false,aJ,wide⟩
 have Y:o.Ok:=by
  refine⟨fun i hi=>?_,fun _=>Hd (bZ _),(fun e=>nomatch e),.inr ⟨O,m1,m2,m3,.inr m4⟩,(fun e=>nomatch e),(fun e=>nomatch e),fun x hx=>?_⟩
  ·obtain⟨x,hx⟩:∃x,La[i]?=some x:=⟨_,fg hi⟩;exact⟨x,x,hx,h.fst i x hx,rfl,rfl,rfl,rfl,fun _=>rfl⟩
  ·have c:J[La.length+1]?=some x:=hx;cases l:(x.kind==5||x.kind==2)&&bD x.text ry with
   |false=>rfl
   |true=>
    exfalso;have hl:=(jq.1 c).1;rw[h.len]at hl;obtain⟨z,hz⟩:∃z,Lb[0]?=some z:=⟨_,fg ae⟩;obtain⟨y,y1,y2,y3,_⟩:=h.snd 0 z hz;rw[Nat.add_zero,c]at y1;cases y1;rw[gX,Bool.or_eq_true,beq_iff_eq,beq_iff_eq]at l;have hE:yi Lb l8:=⟨z,hz,by rw[<-y2];exact l.1,by rw[<-y3];exact akI l.2⟩;cases g with
    |zero=>rw[P]at H;cases H
    |succ g=>
     rw[P,iF,bw (show l8.i<Lb.length by show 0<Lb.length;omega)]at H;obtain⟨k,t1,h1,_⟩:=M9 H;obtain⟨q,h3,_⟩:=Wg h1;exact akk hE g q t1 h3
 have V:o.R l8 l8:=⟨⟨rfl,rfl,fun i x hx=>(by simp[l8]at hx),rfl,rfl,rfl⟩,0,dq _,rfl,rfl⟩;obtain⟨kA,d,a,a1,a2,a3,a4,a5,a6⟩:=Ww Y rfl rfl f [] l8 l8 ra ta V (fun k hk=>nomatch hk) ha;have m:=FW (L:=La) (fin:=fa) (aJ:=aJ) (wide:=wide) f (.prog []) l8 (dq _) trivial ra ta ha;have N:o.NR d a:=by rcases a5 with h|h;exact h.toNR;exact h.toNR
 have b:a.nodes=d.nodes:=by
  refine acW (by have:=N.len;rw[this];exact hU _) fun i x hx=>?_;obtain⟨y,y1,y2,y3,D,R,y6⟩:=N.get i x hx;have Q:a.nodes[0+i]?=some y:=y1;rw[hU]at Q;rw[Q];have e5:y.aB=x.aB:=by
   rw[R];have:(fun z:Int=>z+o.c)=id:=by funext z;show z+(0:Int)=z;omega
   rw[this,List.map_id]
  obtain⟨k1,k2,k3,k4,k5⟩:=x;obtain⟨l1,l2,l3,l4,l5⟩:=y;dsimp only at y2 y3 D e5 y6;rw[y2,y3,D,e5,y6 rfl]
 have M:kA.map (·+o.c)=kA:=by
  have:(fun z:Int=>z+o.c)=id:=by funext z;show z+(0:Int)=z;omega
  rw[this,List.map_id]
 have w:a.bu=0/\a.loops=0/\a.bm=0:=by
  obtain⟨_,_,_,_,f1,f2,f3⟩:=m;rw[a1]at f1 f2 f3;exact⟨by rw[N.bu];exact f1,by rw[N.loops];exact f2,by rw[N.bm];exact f3⟩
 have both:∃(E:List bP)(kE:List Int)(u:ap),((E=[]/\kE=[])\/∃p,E=[⟨36,.empty,0,[],p⟩]/\kE=[(d.nodes.length:Int)])/\u.i=La.length+1/\u.nodes=d.nodes++E/\u.bu=0/\u.loops=0/\u.bm=0/\
   ∀(g:Nat)(X:PR (List Int)),X≠.out->P J fj aJ wide g (.prog (kA++kE)) u=X->∃g',P J fj aJ wide g' (.prog []) l8=X:=by
  rcases a5 with U|T
  ·obtain⟨i,i1,i2,i3⟩:=U.at_;have i1':i<=La.length:=i1;have x2:d.i=i:=i2;have x3:a.i=i:=i3;have a3':La.length<=d.i:=a3;have x1:a.i=La.length:=ae;refine⟨[⟨36,.empty,0,[],O.pos⟩],[(d.nodes.length:Int)],(a.add ⟨36,.empty,0,[],O.pos⟩).ax,.inr ⟨_,rfl,rfl⟩,by show a.i+1=_;omega,by show a.nodes++_=_;rw[b],w.1,w.2.1,w.2.2,fun g X S e=>?_⟩;refine a6 [] (g+2) X S ?_;rw[List.nil_append,M];have hs:P J fj aJ wide (g+1) (.bT true) a= .ok [(a.nodes.length:Int)] (a.add ⟨36,.empty,0,[],O.pos⟩).ax:=akl (by rw[x1];exact m1) m2 m4 g;show P J fj aJ wide (g+2) (.prog kA) a=X;rw[P,iF,bw (show a.i<J.length by rw[h.len];omega)];show(one (P J fj aJ wide (g+1) (.bT true))>>=fun k=>P J fj aJ wide (g+1) (.prog (kA++[k]))) a=X;rw[TK (Ov hs)];show P J fj aJ wide (g+1) (.prog (kA++[(a.nodes.length:Int)])) _=X;rw[b];rcases yp J fj aJ wide (Nat.le_succ g) (.prog (kA++[(d.nodes.length:Int)])) (a.add ⟨36,.empty,0,[],O.pos⟩).ax with j|j
   ·rw[e]at j;exact absurd j S
   ·rw[j];exact e
  ·refine⟨[],[],a,.inl al,T.tB,by rw[b,dn],w.1,w.2.1,w.2.2,fun g X S e=>?_⟩;refine a6 [] g X S ?_;rw[dn]at e;rw[List.nil_append,M];exact e
 obtain⟨E,kE,u,b1,b2,b3,b4,b5,b6,b7⟩:=both
 let s:Vw:=⟨Lb,J,fb,fj,Lb.length,0,La.length+1,u.nodes,false,false,aJ,wide⟩
 have Z:s.Ok:=by
  refine⟨fun i hi=>?_,fun _=>Hd (bZ _),(fun e=>nomatch e),.inl (Hd ?_),(fun e=>nomatch e),(fun e=>nomatch e),fun x hx=>?_⟩
  ·obtain⟨x,hx⟩:∃x,Lb[i]?=some x:=⟨_,fg hi⟩;obtain⟨y,y1,y2,y3,D,R⟩:=h.snd i x hx;exact⟨x,y,hx,by rw[Nat.add_comm]at y1;exact y1,y2,y3,D,R,fun e=>nomatch e⟩
  ·show J.length<=Lb.length+(La.length+1);rw[h.len];omega
  ·have c:J[Lb.length+(La.length+1)+1]?=some x:=hx;rw[Hd (by rw[h.len];omega)]at c;cases c
 have W:s.R l8 u:=⟨⟨by show u.nodes.length=u.nodes.length+0;rfl,List.take_length,fun i x hx=>(by simp[l8]at hx),b4,b5,b6⟩,0,dq _,rfl,by show u.i=0+(La.length+1);omega⟩;obtain⟨kB,tB,v,c1,c2,c3,c4,c5,c6⟩:=Ww Z rfl rfl g [] l8 u rb tb W (fun k hk=>nomatch hk) H;have n:s.NR tB v:=by rcases c5 with h|h;exact h.toNR;exact h.toNR
 have hv:¬v.i<J.length:=by
  rw[h.len];have c3':Lb.length<=tB.i:=c3;rcases c5 with U|T
  ·obtain⟨i,i1,i2,i3⟩:=U.at_;have x2:tB.i=i:=i2;have x3:v.i=i+(La.length+1):=i3;omega
  ·have:v.i=Lb.length+(La.length+1)+1:=T.tB;omega
 have N5:P J fj aJ wide 1 (.prog (kA++kE++kB.map (·+s.c))) v= .ok [(v.nodes.length:Int)] (v.add ⟨37,.empty,0,kA++kE++kB.map (·+s.c),0⟩):=by
  rw[P,iF,bF hv];rfl
 obtain⟨g1,I⟩:=c6 (kA++kE) 1 _ (by intro e;cases e) N5;rw[List.map_nil,dn]at I;have K:P J fj aJ wide g1 (.prog (kA++kE)) u=_:=I;obtain⟨g2,x0⟩:=b7 g1 _ (by intro e;cases e) K;have hc:s.c=((d.nodes++E).length:Int):=by show(u.nodes.length:Int)=_;rw[b3]
 refine⟨g2,_,_,d.nodes,tB.nodes,v.nodes.drop u.nodes.length,E,kA,kB,kE,mono x0,by rw[a1];rfl,by rw[c1];rfl,?_,b1,?_,fun i x hx=>?_⟩
 ·show v.nodes++[_]=_;rw[<-hc,<-b3];have e0:v.nodes.take u.nodes.length=u.nodes:=n.hd;have e1:=(List.take_append_drop u.nodes.length v.nodes).symm;rw[e0]at e1;rw[<-e1]
 ·rw[List.length_drop];have:v.nodes.length=u.nodes.length+tB.nodes.length:=n.len;omega
 ·obtain⟨y,y1,y2,y3,D,R,_⟩:=n.get i x hx;exact⟨y,by rw[List.getElem?_drop];exact y1,y2,y3,D,by rw[<-hc];exact R⟩
end
end
section
open Go
section
variable{s w:ByteArray}{d:Nat}
def wI(c:Nat)(m:ByteArray):Bool:=decide (c<128)&&(!hX c&&(!sh c&&(!(c==47)&&(!fX c&&(!bM c&&(!(c==46)&&(!(c==34)&&(!(c==39)&&((fh.all fun m'=> !((dP m').head?==some c)||dP m'==[c])&&((fh.find? fun m'=>dP m'==[c]).map dP==some (dP m)&&m.size==1))))))))))
theorem VP:wI 59 cU=true:=by decide+kernel
theorem agA{a b:ByteArray}(h:dP a=dP b):a=b:=by
 unfold dP at h;have:=List.map_inj_right (f:=UInt8.toNat) (fun x y e=>UInt8.toNat.inj e) |>.1 h;exact ByteArray.ext (Array.ext' this)
theorem agf{c:Nat}{m:ByteArray}(g:wI c m=true){j:Nat}(t:j<w.size)(s:bt w j=c):(fh.find? fun m=>dx w j (dP m))=some m:=by
 unfold wI at g;simp only[gX]at g;obtain⟨-,-,-,-,-,-,-,-,-,k,d,p⟩:=g;rw[List.all_eq_true]at k;have d:=eq_of_beq d;have key:∀m'∈fh,dx w j (dP m')=(dP m'==[c]):=by
  intro m' h;have q:=k m' h;have i:dP m'≠[]:=by
   have:∀m∈fh,dP m≠[]:=by decide+kernel
   simp[*]
  cases hn:dP m' with
  |nil=>exact absurd hn i
  |cons b r=>
   rw[hn]at q;rw[List.head?_cons]at q;by_cases f:b=c
   ·subst f;have e:(b::r)=[b]:=by
     grind
    rw[e];unfold dx;grind
   ·have n:(b::r==[c])=false:=ff.2 (fun e=>f (List.cons.inj e).1);rw[n];unfold dx;rw[Bool.and_eq_false_iff];refine .inr ?_;rw[List.all_eq_false];refine⟨0,List.mem_range.2 (Nat.succ_pos _),?_⟩;grind
 have o:(fh.find? fun m=>dx w j (dP m))=fh.find? fun m'=>dP m'==[c]:=by
  have:∀l:List ByteArray,(∀m'∈l,dx w j (dP m')=(dP m'==[c]))->(l.find? fun m=>dx w j (dP m))=l.find? fun m'=>dP m'==[c]:=by
   intro l
   induction l with
   |nil=>intro _;rfl
   |cons a l u=>
    grind
  grind
 rw[o];cases hx:fh.find? (fun m'=>dP m'==[c])with
 |none=>rw[hx]at d;cases d
 |some y=>
  rw[hx]at d;have:dP y=dP m:=Option.some.inj d;rw[agA this]
theorem afO{c:Nat}{m:ByteArray}(a:wI c m=true){num:Nat->Nat}{g i j:Nat}{l b:Bool}{o:List bh}(d:cT w (w.size+1) i l=(-1,j,b))(f:j<w.size)(h:bt w j=c):jv num w (g+1) i l o=jv num w g (j+1) false (o++[⟨5,m,0,j,b⟩]):=by
 have e:=agf a f h;unfold wI at a;simp only[gX,Bool.not_eq_true']at a;obtain⟨n,p,q,r,s,t,u,v,x,-,-,y⟩:=a;rw[jv,d];dsimp only;rw[bF (by decide),aN,show(j==w.size)=false from ff.2 ae,aN];have hl:fX (bt w j)=false:=by simp[*]
 have hn:iA w j=false:=by unfold iA;simp[*]
 have k:(bt w j==34||bt w j==39)=false:=by simp[*]
 rw[Bx hl hn k,e];grind
theorem abv{c:Nat}{m:ByteArray}(a:wI c m=true){f j:Nat}{l:Bool}(b:j<w.size)(h:bt w j=c):cT w (f+1) j l=(-1,j,l):=by
 unfold wI at a;simp only[gX,Bool.not_eq_true']at a;obtain⟨d,e,g,i,-⟩:=a;have no:∀t:List Nat,dx w j (47::t)=false:=fun t=>by
  cases hp:dx w j (47::t)with
  |false=>rfl
  |true=>
   exfalso;unfold dx at hp;rw[gX,List.all_eq_true]at hp;have:=hp.2 0 (List.mem_range.2 (Nat.succ_pos _));grind
 rw[cT,bw b,agQ h (jS d) b];simp[*]
theorem abw{c:Nat}{m:ByteArray}(d:wI c m=true){j:Nat}{l:Bool}(b:j+1<w.size)(a:bt w j=10)(h:bt w (j+1)=c):cT w (w.size+1) j l=(-1,j+1,true):=by
 obtain⟨k,hk⟩:∃k,w.size=k+1:=⟨w.size-1,ae⟩;rw[cT,bw (show j<w.size by omega),Oi a ae];show cT w w.size (j+1) true=_;have:=abv (w:=w) d (f:=k) (j:=j+1) (l:=true) b h;simp[*]
theorem afN{num:Nat->Nat}{g:Nat}{l:Bool}{o:List bh}:jv num w (g+1) w.size l o=(o,-1):=by
 rw[jv,cT,bF (Nat.lt_irrefl _)];simp[*]
theorem di.num(h:di s w d)(K:bR):∀i,i<s.size->iA s i=true->(ea s i).2=true->il K w (i+d)=il K s i:=by
 intro i hi hn ok;unfold il;have:=Wa hi hn ok;rw[h.V8 hi,h.ext (Nat.le_of_lt hi) this.2]
theorem VA{num:Nat->Nat}{s:ByteArray}(h:(uY num s).2<0):∃r,uY num s=(r,-1):=by
 have:=(Vz h).1;grind
end
def jX(a b:ByteArray):ByteArray:=a++⟨#[10,59]⟩++b
theorem Ht(a b:ByteArray):(jX a b).data.toList=a.data.toList++(10::59::b.data.toList):=by
 unfold jX;simp[*]
theorem Vl(a b:ByteArray):(jX a b).size=a.size+2+b.size:=by
 have:=congrArg List.length (Ht a b);rw[sm,dJ,qH,qH,sm,sm]at this;omega
theorem aff(a b:ByteArray):di a (jX a b) 0:=⟨[],10::59::b.data.toList,by rw[Ht];rfl,rfl,.inr ⟨_,rfl⟩⟩
theorem afg(a b:ByteArray):di b (jX a b) (a.size+2):=⟨a.data.toList++[10,59],[],by rw[Ht,dn,gW];rfl,by rw[dJ,sm];rfl,.inl rfl⟩
theorem afc(a b:ByteArray):bt (jX a b) a.size=10/\bt (jX a b) (a.size+1)=59:=by
 have h:∀k,bt (jX a b) (a.size+k)=((((10::59::b.data.toList:List UInt8))[k]?).map UInt8.toNat).getD 0:=fun k=>by
  rw[GQ,Ht,jb (by simp[*]),sm,Nat.add_sub_cancel_left]
 exact⟨h 0,h 1⟩
theorem amV{d:Nat}{l:List bh}{i:Nat}{x:bh}(h:l[i]?=some x):(l.map (bh.mv d))[i]?=some (x.mv d):=by
 simp[*]
theorem afe{K:bR}{a b:ByteArray}(u:(cH K a).2<0)(v:(cH K b).2<0):(cH K (jX a b)).2= -1/\Le (cH K a).1 (cH K b).1 (cH K (jX a b)).1:=by
 have r:=aff a b;have t:=afg a b;obtain⟨h,d⟩:=afc a b;have A:=Vl a b;generalize z:jX a b=w at*;obtain⟨c,p⟩:=VA (s:=a) u;obtain⟨rb,q⟩:=VA (s:=b) v;obtain⟨B,la,f,a1,a2,a3⟩:=r.Bl (r.num K) (a.size+1) (w.size+1) 0 false [] c (dq _) ae p;rw[List.nil_append]at a1;subst a1;have a3:jv (il K w) w (w.size+1) 0 false []=jv (il K w) w f a.size la ([]++c.map (bh.mv 0)):=a3 [];rw[Nat.add_zero]at a2;obtain⟨f,rfl⟩:∃k,f=k+1:=⟨f-1,ae⟩;rw[afO VP (abw VP (l:=la) ae h d) ae d]at a3;obtain⟨C,lb,n,b1,b2,b3⟩:=t.Bl (t.num K) (b.size+1) f 0 false [] rb (dq _) ae q;rw[List.nil_append]at b1;subst b1;obtain⟨n,rfl⟩:∃k,n=k+1:=⟨n-1,ae⟩;have b3:=b3 ([]++c.map (bh.mv 0)++[⟨5,cU,0,((a.size+1:Nat):Int),true⟩]);rw[hU]at b3;have y:b.size+(a.size+2)=w.size:=ae;rw[y,afN]at b3;have e:cH K w=(c.map (bh.mv 0)++[⟨5,cU,0,((a.size+1:Nat):Int),true⟩]++rb.map (bh.mv (a.size+2)),-1):=by
  unfold cH uY;grind
 have j:(cH K a).1=c:=by unfold cH;rw[p]
 have m:(cH K b).1=rb:=by unfold cH;rw[q]
 have o:c.map (bh.mv 0)=c:=by
  rw[List.map_congr_left (g:=id) (fun x _=>by unfold bh.mv;cases x;simp),List.map_id]
 rw[o]at e;rw[e,j,m];refine⟨rfl,by grind,fun i x hx=>?_,⟨⟨5,cU,0,((a.size+1:Nat):Int),true⟩,?_,rfl,rfl,rfl⟩,fun i x hx=>⟨x.mv (a.size+2),?_,rfl,rfl,rfl,rfl⟩⟩
 ·grind
 ·simp[*]
 ·dsimp only;rw[jb (by simp[*]),dJ,tq,Nat.add_sub_cancel_left];simp[*]
end
section
open Go
theorem Cv(v:Int)(i:Nat):∀(ks ab:List Int),i<ab.length->(mo ab ks v).getD i 0=bif ks.any (fun k=>k.toNat==i) then v else ab.getD i 0:=by
 intro ks
 induction ks with
 |nil=>intro ab _;rfl
 |cons k ks a=>
  intro ab hi;show(mo (ab.set k.toNat v) ks v).getD i 0=_;rw[a _ (by simp[*]),List.any_cons];grind
def lD(ns:List bP)(i:Nat):List Int:=((ns[i]?).map (·.aB)).getD []
theorem Uj(ns ms:List bP)(c:Nat)(hk:∀j,j<ms.length->∀k∈lD ms j,0<=k/\k<(j:Int)):∀(i:Nat)(a b:List Int),i<=ms.length->(∀j,j<i->lD ns (c+j)=(lD ms j).map (·+(c:Int)))->c+i<=a.length->i<=b.length->(∀j,j<i->a.getD (c+j) 0=b.getD j 0)->jP ms i b=false->
  ∃ab:List Int,ab.length=a.length/\(∀j,j<c->ab.getD j 0=a.getD j 0)/\jP ns (c+i) a=jP ns c ab:=by
 intro i
 induction i with
 |zero=>intro a b _ _ _ _ _ _;exact⟨a,rfl,fun _ _=>rfl,rfl⟩
 |succ i o=>
  intro a b m hn p q f hd;have e0:=f i (gZ i);rw[jP]at hd;cases d:decide (b.getD i 0>=48)with
  |true=>rw[d]at hd;cases hd
  |false=>
   rw[d,aN]at hd;have n:=hk i ae;obtain⟨ab,g,h,l⟩:=o (mo a (lD ns (c+i)) (a.getD (c+i) 0+1)) (mo b (lD ms i) (b.getD i 0+1)) ae (fun j e=>hn j ae) (by rw[Ab];omega) (by rw[Ab];omega) (fun j e=>by
    rw[Cv _ _ _ _ ae,Cv _ _ _ _ ae,e0,f j ae,hn i (gZ i),List.any_map];have:(lD ms i).any ((fun k:Int=>k.toNat==c+j)∘fun x=>x+(c:Int))=(lD ms i).any (fun k=>k.toNat==j):=by
     grind
    rw[this]) hd
   refine⟨ab,by rw[g,Ab],fun j e=>?_,?_⟩
   ·rw[h j e,Cv _ _ _ _ ae,hn i (gZ i)];have:((lD ms i).map (·+(c:Int))).any (fun k=>k.toNat==j)=false:=by
     rw[List.any_eq_false];grind
    simp[*]
   ·rw[<-l];show jP ns (c+i+1) a=_;rw[jP,e0,d];rfl
theorem acs(ns ms:List bP)(hk:∀j,j<ms.length->∀k∈lD ms j,0<=k/\k<(j:Int))(i:Nat)(a b:List Int)(c:i<=ms.length)(hn:∀j,j<i->lD ns j=lD ms j)(g:i<=a.length)(e:i<=b.length)(h:∀j,j<i->a.getD j 0=b.getD j 0)(hd:jP ms i b=false):jP ns i a=false:=by
 have hid:(fun x:Int=>x+((0:Nat):Int))=id:=by grind
 obtain⟨ab,_,_,d⟩:=Uj ns ms 0 hk i a b c (fun j f=>by simp[*]) ae e (fun j f=>by grind) hd;rw[hU]at d;rw[d];rfl
theorem Hc(n i:Nat):(List.replicate n (0:Int)).getD i 0=0:=by
 grind
theorem Np(ns:List bP)(x:bP):kP (ns++[x])=jP (ns++[x]) ns.length (mo (List.replicate (ns.length+1) 0) x.aB 1):=by
 unfold kP;rw[dJ,tq,jP,Hc];simp[*]
theorem Vp{ns ms:List bP}{i:Nat}(h:i<ns.length):lD (ns++ms) i=lD ns i:=by
 unfold lD;grind
theorem Do.acr{ta tb t A B C E:List bP}{kA kB kE:List Int}(h:Do ta tb t A B C E kA kB kE)(G:∀(i:Nat)(d:bP),ta[i]?=some d->∀k∈d.aB,0<=k/\k<(i:Int))(H:∀(i:Nat)(d:bP),tb[i]?=some d->∀k∈d.aB,0<=k/\k<(i:Int))(r:kP ta=false)(s:kP tb=false):kP t=false:=by
 have F:∀k∈kA,0<=k/\k<(A.length:Int):=G A.length ⟨37,.empty,0,kA,0⟩ (by rw[h.a,jb (bZ _),Nat.sub_self];rfl);have f:∀k∈kB,0<=k/\k<(B.length:Int):=H B.length ⟨37,.empty,0,kB,0⟩ (by rw[h.b,jb (bZ _),Nat.sub_self];rfl);have o:∀(ns:List bP),(∀(i:Nat)(d:bP),ns[i]?=some d->∀k∈d.aB,0<=k/\k<(i:Int))->∀j,j<ns.length->∀k∈lD ns j,0<=k/\k<(j:Int):=by
  intro ns hn j a k hk;unfold lD at hk;rw[fg a]at hk;exact hn j _ (fg a) k hk
 have z:=o ta G;have D:=o tb H;rw[h.a,Np]at r;rw[h.b,Np]at s;have la:ta.length=A.length+1:=by rw[h.a];simp
 have lb:tb.length=B.length+1:=by rw[h.b];simp
 rw[<-h.a]at r;rw[<-h.b]at s;dsimp only at r s;rw[h.t,Np,<-h.t];dsimp only;have n:∀k∈kE,k=(A.length:Int)/\E.length=1:=by
  rcases h.e with⟨_,u⟩| ⟨p,e1,u⟩
  ·rw[u];intro k hk;cases hk
  ·rw[u,e1];intro k hk;rw[List.mem_singleton]at hk;exact⟨hk,rfl⟩
 generalize e:(A++E).length=c;have I:c=A.length+E.length:=by rw[<-e,dJ]
 have J:(A++E++C).length=c+B.length:=by rw[dJ,e,h.len]
 have root:∀j,j<c+B.length->(mo (List.replicate ((A++E++C).length+1) 0) (kA++kE++kB.map (·+(c:Int))) 1).getD j 0=bif (kA++kE++kB.map (·+(c:Int))).any (fun k=>k.toNat==j) then 1 else 0:=by
  intro j a;rw[Cv _ _ _ _ (by rw[List.length_replicate];omega),Hc]
 have l:∀j,j<B.length->(mo (List.replicate (B.length+1) 0) kB 1).getD j 0=bif kB.any (fun k=>k.toNat==j) then 1 else 0:=by
  intro j a;rw[Cv _ _ _ _ (by rw[List.length_replicate];omega),Hc]
 have g:∀j,j<A.length->(mo (List.replicate (A.length+1) 0) kA 1).getD j 0=bif kA.any (fun k=>k.toNat==j) then 1 else 0:=by
  intro j a;rw[Cv _ _ _ _ (by rw[List.length_replicate];omega),Hc]
 obtain⟨ab,b1,b2,b3⟩:=Uj t tb c D B.length (mo (List.replicate ((A++E++C).length+1) 0) (kA++kE++kB.map (·+(c:Int))) 1) (mo (List.replicate (B.length+1) 0) kB 1) ae (fun j a=>by
   obtain⟨x,hx⟩:∃x,B[j]?=some x:=⟨_,fg a⟩;obtain⟨y,y1,_,_,_,K⟩:=h.get j x hx;rw[e]at K;rw[h.t,h.b];unfold lD;rw[gW (A++E),jb (by rw[e];omega),e,Nat.add_sub_cancel_left,kq (by rw[h.len];exact a),y1,kq a,hx];exact K) (by rw[Ab,List.length_replicate];omega) (by rw[Ab,List.length_replicate];omega) (fun j a=>by
   rw[root (c+j) ae,l j a];have:(kA++kE++kB.map (·+(c:Int))).any (fun k=>k.toNat==c+j)=kB.any (fun k=>k.toNat==j):=by
    rw[Bool.eq_iff_iff,List.any_eq_true,List.any_eq_true];constructor
    ·rintro⟨k,k1,k2⟩;have k2:k.toNat=c+j:=eq_of_beq k2;rcases List.mem_append.1 k1 with k1|k1
     ·exfalso;rcases List.mem_append.1 k1 with k1|k1
      ·have:=F k k1;omega
      ·obtain⟨q1,q2⟩:=n k k1;omega
     ·obtain⟨q,q1,rfl⟩:=List.mem_map.1 k1;have:=f q q1;exact⟨q,q1,beq_iff_eq.2 ae⟩
    ·rintro⟨k,k1,k2⟩;have k2:k.toNat=j:=eq_of_beq k2;have:=f k k1;exact⟨k+c,List.mem_append_right _ (List.mem_map.2 ⟨k,k1,rfl⟩),beq_iff_eq.2 ae⟩
   rw[this]) s
 have ge:jP t (A++E++C).length (mo (List.replicate ((A++E++C).length+1) 0) (kA++kE++kB.map (·+(c:Int))) 1)=jP t c ab:=by rw[<-b3,J]
 rw[ge];have L:ab.length=c+B.length+1:=by rw[b1,Ab,List.length_replicate,J]
 have m:∀j,j<A.length->ab.getD j 0=(mo (List.replicate (A.length+1) 0) kA 1).getD j 0:=by
  intro j a;rw[b2 j ae,root j ae,g j a];have:(kA++kE++kB.map (·+(c:Int))).any (fun k=>k.toNat==j)=kA.any (fun k=>k.toNat==j):=by
   rw[Bool.eq_iff_iff,List.any_eq_true,List.any_eq_true];constructor
   ·rintro⟨k,k1,k2⟩;have k2:k.toNat=j:=eq_of_beq k2;rcases List.mem_append.1 k1 with k1|k1
    ·rcases List.mem_append.1 k1 with k1|k1
     ·exact⟨k,k1,beq_iff_eq.2 k2⟩
     ·obtain⟨q1,q2⟩:=n k k1;omega
    ·obtain⟨q,q1,rfl⟩:=List.mem_map.1 k1;have:=f q q1;omega
   ·rintro⟨k,k1,k2⟩;exact⟨k,n4 _ (n4 _ k1),k2⟩
  rw[this]
 have M:∀j,j<A.length->lD t j=lD ta j:=by
  intro j a;rw[h.t,h.a,gW,gW,Vp a,Vp a]
 have fI:∀b:List Int,A.length<=b.length->(∀j,j<A.length->b.getD j 0=(mo (List.replicate (A.length+1) 0) kA 1).getD j 0)->jP t A.length b=false:=fun b hl v=>
  acs t ta z A.length b _ ae M hl (by rw[Ab,List.length_replicate];omega) v r
 rcases h.e with⟨e1,_⟩| ⟨p,e1,u⟩
 ·have:c=A.length:=by rw[I,e1];rfl
  rw[this];exact fI ab ae m
 ·have w:c=A.length+1:=by rw[I,e1];rfl
  rw[w,jP];have N:ab.getD A.length 0<=1:=by
   rw[b2 A.length ae,root A.length ae];cases (kA++kE++kB.map (·+(c:Int))).any (fun k=>k.toNat==A.length) <;> simp
  rw[bF ae,aN];have:((t[A.length]?).map (·.aB)).getD []=[]:=by
   rw[h.t,e1,gW,gW,jb (bZ _),Nat.sub_self];rfl
  rw[this];exact fI _ (by show A.length<=ab.length;omega) m
end
section
open Go
theorem afK(K:bR)(s:ByteArray):(iU K s).2≠0:=by
 unfold iU;grind
section
variable{M:bR->cj->Nat->PM Unit}{K:bR}{s:ByteArray}{n:Nat}
theorem WB(g:∀p t,M K (km K s) n dC≠.stop p 0 t)(i:M K (km K s) n dC≠.out)(h:(cn M K s n).2.2=0):
  ¬oL K s/\∃t,M K (km K s) n dC= .ok () t/\t.nodes.length<=4096/\kP t.nodes=false/\cn M K s n=(t.nodes,0,0):=by
 by_cases c:oL K s
 ·rw[OE c]at h;exact absurd h (afK K s)
 ·refine⟨c,?_⟩;rw[D4 c]at h⊢;cases f:M K (km K s) n dC with
  |out=>exact absurd f i
  |stop p e t=>
   grind
  |ok a t=>
   rw[f]at h;dsimp only at h⊢;by_cases d:t.nodes.length>4096
   ·rw[Nj d]at h;omega
   cases b:kP t.nodes with
   |true=>rw[Ni b]at h;exact absurd h (show ¬(4:Int)=0 by decide)
   |false=>exact⟨t,rfl,ae,b,by rw[GS d b]⟩
theorem aiU{t:ap}(b:¬oL K s)(h:M K (km K s) n dC= .ok () t)(c:t.nodes.length<=4096)(a:kP t.nodes=false):cn M K s n=(t.nodes,0,0):=by
 rw[D4 b,h];dsimp only;rw[GS ae a]
end
section
variable{L:List bh}{fin:Int}{aJ:Nat->ByteArray}{wide:ByteArray->ByteArray}{s t:ap}{f g:Nat}
end
section
variable{K:bR}{s:ByteArray}{k:Nat}
theorem VB(h:¬oL K s):(cH K s).2<0:=by
 have:¬0<=(cH K s).2:=fun e=>h (.inr e);omega
end
def Lf(ta tb t:List bP):Prop:=∃A B C E kA kB kE,Do ta tb t A B C E kA kB kE
variable{r:List Int}
theorem aiz{L:List bh}{fin:Int}{K:bR}{t:ap}{F:Nat}{x:cj}{n:Nat}(hx:x.L=L/\x.fin=fin)(h:∀G,F<=G->P L fin K.tv bx G (.prog []) dC= .ok r t)(a:cf K x n dC≠.out):cf K x n dC= .ok () t:=by
 obtain⟨rfl,rfl⟩:=hx;have b:cf K x n dC=bS (P x.L x.fin K.tv bx n (.prog [])) (fun _=>ret ()) dC:=rfl;rw[b]at a⊢;unfold bS at a⊢;have c:=h _ (Nat.le_max_left F n);rcases yp x.L x.fin K.tv bx (Nat.le_max_right F n) (.prog []) dC with e|e
 ·grind
 ·rw[<-e,c];rfl
theorem Wv{L:List bh}{fin:Int}{K:bR}{n:Nat}{t:ap}(h:P L fin K.tv bx n (.prog []) dC= .ok r t):t.nodes.length<=2*L.length+1:=by
 obtain⟨-,b,-,a,-⟩:=FW n (.prog []) dC (dq _) trivial r t h;have a:t.nodes.length+2*0+0<=0+2*t.i+1:=a;omega
theorem afd{K:bR}(l:lS K){a b:ByteArray}(hs:a.size+b.size<=1500)(m:(cn cf K a (cF K a)).2.2=0)(n:(cn cf K b (cF K b)).2.2=0):
  (cn cf K (jX a b) (cF K (jX a b))).2.2=0/\Lf (cn cf K a (cF K a)).1 (cn cf K b (cF K b)).1 (cn cf K (jX a b) (cF K (jX a b))).1:=by
 have f:=HX l m;have g:=HX l n;obtain⟨j,ta,a1,a2,a3,a4⟩:=WB (fun p t e=>Lm _ _ _ _ _ (OL e)) D_ m;obtain⟨bb,tb,b1,b2,b3,b4⟩:=WB (fun p t e=>Lm _ _ _ _ _ (OL e)) D_ n;rw[a4]at f;rw[b4]at g;obtain⟨J,ca⟩:=OK a1;obtain⟨L,cb⟩:=OK b1;obtain⟨x,-,-,y⟩:=lS.Bl j;obtain⟨z,-,-,D⟩:=lS.Bl bb;obtain⟨I,w⟩:=afe (VB j) (VB bb);obtain⟨F,r,t,A,B,C,E,kA,kB,kE,v,c⟩:=w.run (fj:=(jX a b).size) ca cb;have e0:cf K (km K (jX a b)) (cF K (jX a b)) dC= .ok () t:=aiz al v D_;have h:¬oL K (jX a b):=by
  rintro(e|e)
  ·rw[Vl]at e;omega
  omega
 have o:=Wv ca;have q:=Wv cb;have s:=congrArg List.length c.a;have u:=congrArg List.length c.b;have k:=congrArg List.length c.t;rw[dJ,tq]at s u k;rw[dJ,dJ]at k;have H:=c.len;have G:E.length<=1:=by
  rcases c.e with⟨e,-⟩| ⟨p,e,-⟩ <;> rw[e]
  all_goals grind
 have o:ta.nodes.length<=2*(cH K a).1.length+1:=o;have q:tb.nodes.length<=2*(cH K b).1.length+1:=q;have hd:=c.acr (fun i d hd=>(f.aB i d hd).2.1) (fun i d hd=>(g.aB i d hd).2.1) a3 b3;rw[aiU h e0 ae hd,a4,b4];exact⟨rfl,A,B,C,E,kA,kB,kE,c⟩
end
section
open Go
end
section
open Go
structure SZ(ta tb t:List bP)(m:Nat):Prop where
 le:m<=1
 len:t.length+1=ta.length+m+tb.length
 a:∀(i:Nat)(d:bP),i+1<ta.length->ta[i]?=some d->t[i]?=some d
 b:∀(i:Nat)(d:bP),i+1<tb.length->tb[i]?=some d->∃e:bP,t[ta.length-1+m+i]?=some e/\e.kind=d.kind/\e.op=d.op/\e.aB.length=d.aB.length
theorem Lf.m{ta tb t:List bP}(h:Lf ta tb t):∃m,SZ ta tb t m:=by
 obtain⟨A,B,C,E,kA,kB,kE,h⟩:=h;have f:=congrArg List.length h.a;have g:=congrArg List.length h.b;have a:=congrArg List.length h.t;rw[dJ,tq]at f g a;rw[dJ,dJ]at a;have n:=h.len;have c:E.length<=1:=by
  rcases h.e with⟨e,-⟩| ⟨p,e,-⟩ <;> rw[e]
  all_goals grind
 refine⟨E.length,c,ae,fun i d hi hd=>?_,fun i d hi hd=>?_⟩
 ·rw[h.a,kq ae]at hd;rw[h.t,gW,gW,kq ae];exact hd
 ·rw[h.b,kq ae]at hd;obtain⟨e,b,j,k,-,o⟩:=h.get i d hd;refine⟨e,?_,j,k,by simp[*]⟩;have l:=(jq.1 b).1;rw[h.t,kq (by grind),jb (by simp[*]),dJ,show ta.length-1+E.length+i-(A.length+E.length)=i by omega];exact b
structure qt where
 K:bR
 a:ByteArray
 b:ByteArray
def jA(x:qt):List bP:=(cn cf x.K x.a (cF x.K x.a)).1
def jB(x:qt):List bP:=(cn cf x.K x.b (cF x.K x.b)).1
def jJ(x:qt):List bP:=(cn cf x.K (jX x.a x.b) (cF x.K (jX x.a x.b))).1
def oS:aR where
 X:=qt
 args x:=[ai x.a,ai x.b]
 cond x:=lS x.K/\x.a.size<=1152921504606846976/\x.b.size<=1152921504606846976
 aO x F:=eQ x.K F/\iJ F
 val _ _:=ay (aj true)
structure jL where
 y1:ew
 b1:Nat
 y2:ew
 b2:Nat
 y3:ew
 b3:Nat
 m:Nat
 i:Nat
structure qs(x:qt)(d:jL):Prop where
 o1:d.y1.ok (jA x)
 k1:kM (jA x) d.y1.vs
 t1:Dr x.a.size (jA x)
 o2:d.y2.ok (jB x)
 k2:kM (jB x) d.y2.vs
 t2:Dr x.b.size (jB x)
 o3:d.y3.ok (jJ x)
 k3:kM (jJ x) d.y3.vs
 j:SZ (jA x) (jB x) (jJ x) d.m
def p4(d:jL):Option Addr:=some ⟨d.b1,0,none⟩
def w_(d:jL):Option Addr:=some ⟨d.b2,0,none⟩
def p5(d:jL):Option Addr:=some ⟨d.b3,0,none⟩
def B0(d:jL):List Value:=[au d.y1.r.a d.y1.r.n d.y1.r.cap]
def B1(d:jL):List Value:=[au d.y2.r.a d.y2.r.n d.y2.r.cap]
def B2(d:jL):List Value:=[au d.y3.r.a d.y3.r.n d.y3.r.cap]
def ae_(x:qt)(F:ah):Nat->Option Inv:=fun
 |0=>some {X:=jL,P:=fun d=>qs x d/\d.i+1<=(jB x).length,mu:=fun d=>(jB x).length-d.i,lv:=fun d=>[(5,ag (p4 d)),(8,ag (w_ d)),(11,ag (p5 d)),(14,(ad (jA x).length)),(16,ad d.m),(84,ad ((jB x).length-1)),(85,ad d.i)],st:=fun d=>[F,d.y1.r.A,eD (jA x) d.y1.vs,af d.b1 (B0 d) 25,d.y2.r.A,eD (jB x) d.y2.vs,af d.b2 (B1 d) 25,d.y3.r.A,eD (jJ x) d.y3.vs,af d.b3 (B2 d) 25]}
 |2=>some {X:=jL,P:=fun d=>qs x d/\d.i+1<=(jA x).length,mu:=fun d=>(jA x).length-d.i,lv:=fun d=>[(5,ag (p4 d)),(11,ag (p5 d)),(133,ad ((jA x).length-1)),(134,ad d.i)],st:=fun d=>[F,d.y1.r.A,eD (jA x) d.y1.vs,af d.b1 (B0 d) 25,d.y2.r.A,eD (jB x) d.y2.vs,af d.b2 (B1 d) 25,d.y3.r.A,eD (jJ x) d.y3.vs,af d.b3 (B2 d) 25]}
 |_=>none
def ae9(x:qt)(F:ah):Nat->Option Inv:=fun
 |18=>some {X:=jL,P:=qs x,mu:=fun _=>0,lv:=fun d=>[(5,ag (p4 d)),(8,ag (w_ d)),(11,ag (p5 d)),(14,(ad (jA x).length)),(15,(ad (jB x).length)),(16,ad d.m)],st:=fun d=>[F,d.y1.r.A,eD (jA x) d.y1.vs,af d.b1 (B0 d) 25,d.y2.r.A,eD (jB x) d.y2.vs,af d.b2 (B1 d) 25,d.y3.r.A,eD (jJ x) d.y3.vs,af d.b3 (B2 d) 25]}
 |_=>none
variable{d:bP}{ns:List bP}
theorem Vo{vs:List Value}{i n c:Nat}{a:Option Addr}(hd:ns[i]?=some d)(h:vs[i]?=some (.slice a n c))(hs:jk 1 (bB d.aB) a n):lU (eD ns vs) a (bB d.aB):=by
 intro l e j u f;subst e;unfold bB at f;rw[fV,Option.map_eq_some_iff]at f;obtain⟨k,g,rfl⟩:=f;have hl:=hs.len;unfold bB at hl;rw[List.length_map]at hl;obtain⟨b,o,e⟩:=hs.some (by grind);cases e;rw[pE];exact N4 hd h g
theorem Dr.kl{fin:Int}(h:Dr fin ns){i:Nat}(hd:ns[i]?=some d):d.aB.length<=4096:=by
 have b:=h.tot;have c:=h.DK;obtain⟨l1,l2,a⟩:=List.append_of_mem (nk hd);grind
def Jo(J:nU):=(cn cf J.K J.src (cF J.K J.src)).snd.snd !=0
def u6(F:ah)(I:ew)(J:nU)(H:Nat)(E:ew)(G:nU)(D:Nat)(B:ew)(C:nU)(A:Nat):=[(0,F),(11,I.r.A),(12,dU (Kf.rest (cn cf J.K J.src (cF J.K J.src)).fst I.vs)),(13,af H (kY I) 25),(21,E.r.A),(22,dU (Kf.rest (cn cf G.K G.src (cF G.K G.src)).fst E.vs)),(23,af D (kY E) 25),(31,B.r.A),(32,dU (Kf.rest (cn cf C.K C.src (cF C.K C.src)).fst B.vs)),(33,af A (kY B) 25)]
def q7(e1:ah)(z:jL)(e0:qt):=[(0,e1),(1,z.y1.r.A),(2,dU (Kf.rest (jA e0) z.y1.vs)),(3,af z.b1 (B0 z) 25),(4,z.y2.r.A),(5,dU (Kf.rest (jB e0) z.y2.vs)),(6,af z.b2 (B1 z) 25),(7,z.y3.r.A),(8,dU (Kf.rest (jJ e0) z.y3.vs)),(9,af z.b3 (B2 z) 25)]
def Mx(e0:qt)(e1:ah)(v0 v1 v2 v3 v4 v5:Value)(a:St):=∃(z:jL),qs e0 z/\(v0=ag (p4 z)/\v1=ag (w_ z)/\v2=ag (p5 z)/\v3=ad (↑(jA e0).length:Int)/\v4=ad (↑(jB e0).length:Int)/\v5=ad ↑z.m/\True)/\aE a (q7 e1 z e0)
def P9(x:qt):=(-9223372036854775808:Int)<=(↑(jA x).length:Int)-1/\(↑(jA x).length:Int)-1<=(9223372036854775807:Int)
def JA(w:jL):List Value:=[au w.y2.r.a w.y2.r.n w.y2.r.cap,ad ↑w.i]
def EH(F:ah)(w:jL)(x:qt)(j:Nat)(q:Int)(p:ByteArray)(o:Nat)(n:Option Addr)(m l:Nat)(k:Int):=[(0,F),(1,w.y1.r.A),(2,dU (Kf.rest (jA x) w.y1.vs)),(3,af w.b1 (B0 w) 25),(4,w.y2.r.A),(5,dU (Kf.rest (jB x) w.y2.vs)),(6,af w.b2 (B1 w) 25),(7,w.y3.r.A),(8,dU (Kf.rest (jJ x) w.y3.vs)),(9,af w.b3 (B2 w) 25),(210,af j [ad q,ai p,float f64 o,au n m l,ad k] 35)]
def QL(w:jL):=(-9223372036854775808:Int)<=(w.i:Int)+1/\(w.i:Int)+1<=(9223372036854775807:Int)
theorem afb(x:qt)(F:ah)(hc:oS.cond x)(hr:oS.aO x F):aD 6 oK/\true=true/\∃(L:K3),([]:List Value)=[]/\([]:List ah)=[]/\lS L.K/\(eQ L.K (cP F)/\iJ (cP F))/\∀(K:Unit),True->bK ((x.a.size:Int)+(x.b.size:Int))/\aS ((x.a.size:Int)+(x.b.size:Int)>1500) (ar oS x F gH [(0,F)]) (AK [ai x.a] (cP F) (fun J I=>∀(H:Nat),aw H 0/\AK [ai x.b] (aH [(0,F),(11,I.r.A),(12,dU (Kf.rest (cn cf J.K J.src (cF J.K J.src)).fst I.vs)),(13,af H (kY I) 25)] []) (fun G E=>∀(D:Nat),aw D 0/\x.a.size+2<=9223372036854775807/\(x.a++(ByteArray.mk #[10,59])).size+x.b.size<=9223372036854775807/\AK [ai (x.a++(ByteArray.mk #[10,59])++x.b)] (aH [(0,F),(11,I.r.A),(12,dU (Kf.rest (cn cf J.K J.src (cF J.K J.src)).fst I.vs)),(13,af H (kY I) 25),(21,E.r.A),(22,dU (Kf.rest (cn cf G.K G.src (cF G.K G.src)).fst E.vs)),(23,af D (kY E) 25)] []) (fun C B=>∀(A:Nat),aw A 0/\Br (Jo J) (ar oS x F gH (u6 F I J H E G D B C A)) (Br (Jo G) (ar oS x F gH (u6 F I J H E G D B C A)) (true=true/\aw H 0/\aw D 0/\aS ((I.r.n:Int)<1) (ar oS x F cQ (u6 F I J H E G D B C A)) (aS ((E.r.n:Int)<1) (ar oS x F cQ (u6 F I J H E G D B C A)) (Br (Jo C) (ar oS x F cQ (u6 F I J H E G D B C A)) (aw A 0/\((-9223372036854775808:Int)<=(I.r.n:Int)-1/\(I.r.n:Int)-1<=(9223372036854775807:Int))/\bK ((B.r.n:Int)-((I.r.n:Int)-1))/\bK ((B.r.n:Int)-((I.r.n:Int)-1)-(E.r.n:Int))/\Br ((B.r.n:Int)-((I.r.n:Int)-1)-(E.r.n:Int)!=0) (Br ((B.r.n:Int)-((I.r.n:Int)-1)-(E.r.n:Int)!=1) (ar oS x F cQ (u6 F I J H E G D B C A)) (Mx x F (cr H) (cr D) (cr A) (ad ↑I.r.n) (ad ↑E.r.n) (ad ((B.r.n:Int)-((I.r.n:Int)-1)-(E.r.n:Int))) (u6 F I J H E G D B C A))) (Mx x F (cr H) (cr D) (cr A) (ad ↑I.r.n) (ad ↑E.r.n) (ad ((B.r.n:Int)-((I.r.n:Int)-1)-(E.r.n:Int))) (u6 F I J H E G D B C A))/\aT fun(z:jL)_=>qs x z->((-9223372036854775808:Int)<=(↑(jB x).length:Int)-1/\(↑(jB x).length:Int)-1<=(9223372036854775807:Int))/\(∃(a:jL),(qs x a/\a.i+1<=(jB x).length)/\(ag (p4 z)=ag (p4 a)/\ag (w_ z)=ag (w_ a)/\ag (p5 z)=ag (p5 a)/\ad (↑(jA x).length:Int)=ad (↑(jA x).length:Int)/\ad ↑z.m=ad ↑a.m/\ad ((↑(jB x).length:Int)-1)=ad ((↑(jB x).length:Int)-1)/\ad 0=ad ↑a.i/\True)/\aE (q7 F z x) (q7 F a x))/\aT fun(w:jL)_=>(qs x w/\w.i+1<=(jB x).length)->aS ((w.i:Int)<(↑(jB x).length:Int)-1) (aw w.b3 0/\P9 x/\bK ((↑(jA x).length:Int)-1+(w.m:Int))/\bK ((↑(jA x).length:Int)-1+(w.m:Int)+(w.i:Int))/\iP (a7 Tryz.f5 21 8) [au w.y3.r.a w.y3.r.n w.y3.r.cap,ad ((↑(jA x).length:Int)-1+(w.m:Int)+(w.i:Int))] (fun r=>T1 w.y3.r.A ⟨r.b,r.o+r.n.toNat*5,none⟩ (fun q=>T2 w.y3.r.A ⟨r.b,r.o+r.n.toNat*5+1,none⟩ (fun p=>qv w.y3.r.A ⟨r.b,r.o+r.n.toNat*5+2,none⟩ (fun o=>eA w.y3.r.A ⟨r.b,r.o+r.n.toNat*5+3,none⟩ (fun n m l=>T1 w.y3.r.A ⟨r.b,r.o+r.n.toNat*5+4,none⟩ (fun k=>∀(j:Nat),cx j (true=true/\aw j 0/\aw w.b2 0/\iP (a7 Tryz.f5 22 5) (JA w) (fun i=>T1 w.y2.r.A ⟨i.b,i.o+i.n.toNat*5,none⟩ (fun h=>Br (q !=h) (ar oS x F cQ (EH F w x j q p o n m l k)) (aw j 1/\aw w.b2 0/\iP (a7 Tryz.f5 22 15) (JA w) (fun g=>T2 w.y2.r.A ⟨g.b,g.o+g.n.toNat*5+1,none⟩ (fun f=>Br (!p.toList==f.toList) (ar oS x F cQ (EH F w x j q p o n m l k)) (aw j 3/\aw w.b2 0/\iP (a7 Tryz.f5 22 27) (JA w) (fun e=>eA w.y2.r.A ⟨e.b,e.o+e.n.toNat*5+3,none⟩ (fun d c b=>Br ((m:Int)!=(c:Int)) (ar oS x F cQ (EH F w x j q p o n m l k)) (QL w/\∃(a:jL),(qs x a/\a.i+1<=(jB x).length)/\(ag (p4 w)=ag (p4 a)/\ag (w_ w)=ag (w_ a)/\ag (p5 w)=ag (p5 a)/\ad (↑(jA x).length:Int)=ad (↑(jA x).length:Int)/\ad ↑w.m=ad ↑a.m/\ad ((↑(jB x).length:Int)-1)=ad ((↑(jB x).length:Int)-1)/\ad ((w.i:Int)+1)=ad ↑a.i/\True)/\aE (EH F w x j q p o n m l k) (q7 F a x)/\(jB x).length-a.i<(jB x).length-w.i))))))))))))))))) (P9 x/\(∃(a:jL),(qs x a/\a.i+1<=(jA x).length)/\(ag (p4 w)=ag (p4 a)/\ag (p5 w)=ag (p5 a)/\ad ((↑(jA x).length:Int)-1)=ad ((↑(jA x).length:Int)-1)/\ad 0=ad ↑a.i/\True)/\aE (q7 F w x) (q7 F a x))/\aT fun(u:jL)_=>(qs x u/\u.i+1<=(jA x).length)->aS ((u.i:Int)<(↑(jA x).length:Int)-1) (true=true/\aw u.b1 0/\iP (a7 Tryz.f5 28 3) [au u.y1.r.a u.y1.r.n u.y1.r.cap,ad ↑u.i] (fun s=>T1 u.y1.r.A ⟨s.b,s.o+s.n.toNat*5,none⟩ (fun r=>T2 u.y1.r.A ⟨s.b,s.o+s.n.toNat*5+1,none⟩ (fun q=>qv u.y1.r.A ⟨s.b,s.o+s.n.toNat*5+2,none⟩ (fun p=>eA u.y1.r.A ⟨s.b,s.o+s.n.toNat*5+3,none⟩ (fun o n m=>T1 u.y1.r.A ⟨s.b,s.o+s.n.toNat*5+4,none⟩ (fun l=>aw u.b3 0/\iP (a7 Tryz.f5 28 8) [au u.y3.r.a u.y3.r.n u.y3.r.cap,ad ↑u.i] (fun k=>T1 u.y3.r.A ⟨k.b,k.o+k.n.toNat*5,none⟩ (fun j=>T2 u.y3.r.A ⟨k.b,k.o+k.n.toNat*5+1,none⟩ (fun i=>qv u.y3.r.A ⟨k.b,k.o+k.n.toNat*5+2,none⟩ (fun h=>eA u.y3.r.A ⟨k.b,k.o+k.n.toNat*5+3,none⟩ (fun g f e=>T1 u.y3.r.A ⟨k.b,k.o+k.n.toNat*5+4,none⟩ (fun d=>aD 11 sM/\true=true/\∃(c:rT),[agg ⟨[ad r,ai q,float f64 p,au o n m,ad l]⟩,agg ⟨[ad j,ai i,float f64 h,au g f e,ad d]⟩,aj true]=[agg ⟨EF c⟩,agg ⟨EE c⟩,aj c.p]/\([]:List ah)=[]/\((c.p=true->c.pos=c.Bz)/\jk 1 (bB c.aB) c.a c.n/\jk 1 (bB c.aB) c.b c.n/\c.n<=1048576)/\(lU (aH (q7 F u x) []) c.a (bB c.aB)/\lU (aH (q7 F u x) []) c.b (bB c.aB))/\∀(b:Unit),True->QL u/\∃(a:jL),(qs x a/\a.i+1<=(jA x).length)/\(ag (p4 u)=ag (p4 a)/\ag (p5 u)=ag (p5 a)/\ad ((↑(jA x).length:Int)-1)=ad ((↑(jA x).length:Int)-1)/\ad ((u.i:Int)+1)=ad ↑a.i/\True)/\aE (q7 F u x) (q7 F a x)/\(jA x).length-a.i<(jA x).length-u.i))))))))))))) (ar oS x F gH (q7 F u x)))))))))))):=by
 delta cP gH AK kY Jo u6 dk cQ p4 w_ p5 B0 B1 B2 q7 Mx bI cr P9 iP T1 T2 qv eA JA EH QL EF EE aH aw bK cx ad ai aj ag au af dU aS ay aT;obtain⟨K,a,b⟩:=x;obtain⟨P,ha,hb⟩:=hc;obtain⟨U9,U_⟩:=hr;dsimp only at P ha hb U9 U_;have N:∀{S:St}{bG:List Nat},(0:Nat)∉bG->gt S 0=F->eQ K (.du (rest S bG))/\iJ (.du (rest S bG)):=fun h e=>⟨eQ.sub U9 (pd 0 h e),iJ.sub U_ (pd 0 h e)⟩;refine bs aa9 ⟨K⟩ P (N aL rfl) fun _ _=>⟨⟨ae,by grind⟩,bo (fun h=>iS) (fun Q=>?_)⟩;have Q:a.size+b.size<=1500:=by grind
 refine bs KM ⟨K,a⟩ P (N aL rfl) fun y1 Y b1=>⟨al,KM,rfl,⟨K,b⟩,rfl,rfl,P,N aL rfl,fun y2 Z b2=>⟨al,ae,?_,KM,rfl,⟨K,jX a b⟩,rfl,rfl,P,N aL rfl,fun y3 h3 b3=>⟨al,aG (fun _=>iS) (fun y=>aG (fun _=>iS) (fun hf=>?_))⟩⟩⟩
 ·rw[kQ];show a.size+2+b.size<=_;omega
 dsimp only at Y Z h3 y hf⊢;have R:(cn cf K a (cF K a)).2.2=0:=by grind
 have T:(cn cf K b (cF K b)).2.2=0:=by grind
 obtain⟨g,hJ⟩:=afd P Q R T;have T1:=HX P R;have T2:=HX P T;obtain⟨m,U⟩:=hJ.m;have l1:=Y.1.len;have l2:=Z.1.len;have l3:=h3.1.len;have z1:=T1.one;have z2:=T2.one;have z3:=T1.DK;have z4:=T2.DK;have z5:=U.len;have X:=U.le;have em:(y3.r.n:Int)-((y1.r.n:Int)-1)-(y2.r.n:Int)=(m:Int):=ae;have hd:qs ⟨K,a,b⟩ ⟨y1,b1,y2,b2,y3,b3,m,0⟩:=⟨Y.1,Y.2,T1,Z.1,Z.2,T2,h3.1,h3.2,U⟩;refine⟨rfl,al,al,qA (bF ae) (qA (bF ae) (qA (by rw[g];rfl) ⟨al,aK,aK,aK,aG (fun q=>qA ?_ ⟨⟨y1,b1,y2,b2,y3,b3,m,0⟩,hd,⟨rfl,rfl,rfl,?_,?_,?_,ao⟩,aA [0,11,12,13,21,22,23,31,32,33]⟩) (fun _=>⟨⟨y1,b1,y2,b2,y3,b3,m,0⟩,hd,⟨rfl,rfl,rfl,?_,?_,?_,ao⟩,aA [0,11,12,13,21,22,23,31,32,33]⟩),?_⟩))⟩
 ·grind
 ·rw[l1];rfl
 ·rw[l2];rfl
 ·rw[em]
 ·rw[l1];rfl
 ·rw[l2];rfl
 ·rw[em]
 clear ha hb y hf R T g hJ T1 T2 U l1 l2 l3 z1 z2 z3 z4 z5 X em hd Y Z h3;rintro⟨y1,b1,y2,b2,y3,b3,m,_⟩ js t;have z1:=t.t1.one;have z2:=t.t2.one;have z3:=t.t1.DK;have z4:=t.t2.DK;have X:=t.j.le;dsimp only at X⊢;refine⟨aK,⟨⟨y1,b1,y2,b2,y3,b3,m,0⟩,⟨⟨t.o1,t.k1,t.t1,t.o2,t.k2,t.t2,t.o3,t.k3,t.j⟩,ae⟩,aV,aA [0,1,2,3,4,5,6,7,8,9]⟩,?_⟩;clear X t;rintro⟨y1,b1,y2,b2,y3,b3,m,i⟩ js ⟨t,hi⟩;obtain⟨o1,k1,t1,o2,k2,t2,o3,k3,M⟩:=id t;dsimp only at o1 k1 t1 o2 k2 t2 o3 k3 M hi⊢;have l1:=o1.len;have l2:=o2.len;have l3:=o3.len;have z5:=M.len;have X:=M.le;refine bo (fun U3=>?_) (fun Hj=>⟨aK,⟨⟨y1,b1,y2,b2,y3,b3,m,0⟩,⟨⟨o1,k1,t1,o2,k2,t2,o3,k3,M⟩,ae⟩,aV,aA [0,1,2,3,4,5,6,7,8,9]⟩,?_⟩)
 ·obtain⟨d,hd⟩:∃d,(jB ⟨K,a,b⟩)[i]?=some d:=⟨_,fg ae⟩;obtain⟨e,y,q1,q2,q3⟩:=M.b i d ae hd;obtain⟨k,hk⟩:∃k,k=(jA ⟨K,a,b⟩).length-1+m+i:=⟨_,rfl⟩;rw[<-hk]at y;have ek:((jA ⟨K,a,b⟩).length:Int)-1+(m:Int)+(i:Int)=(k:Int):=ae;obtain⟨r3,a3⟩:=o3.1.uH ae;obtain⟨r2,a2⟩:=o2.1.uH ae;obtain⟨ka,kn,kc,hv,hs,U,lk⟩:=DX o3 k3 a3 y;obtain⟨kb,Vq,O,Hk,V,U4,W⟩:=DX o2 k2 a2 hd;have hk3:=(jq.1 y).1;rw[ek];refine⟨al,aK,aK,aK,gG 5 rfl rfl rfl rfl,⟨r3,0,y3.r.n,y3.r.cap,k⟩,by rw[a3],⟨by grind,by grind⟩,e.kind,mb (j:=0) o3 a3 y (fun v=>rfl),e.op,mb (j:=1) o3 a3 y (fun v=>rfl),e.num,mb (j:=2) o3 a3 y (fun v=>rfl),ka,kn,kc,lk,e.pos,mb (j:=4) o3 a3 y (fun v=>rfl),fun b0=>⟨al,al,al,al,al,rfl,al,al,gG 5 rfl rfl rfl rfl,⟨r2,0,y2.r.n,y2.r.cap,i⟩,by rw[a2],⟨by simp[*],by grind⟩,d.kind,mb (j:=0) o2 a2 hd (fun v=>rfl),qA (by simp[*]) ⟨al,al,gG 5 rfl rfl rfl rfl,⟨r2,0,y2.r.n,y2.r.cap,i⟩,by rw[a2],⟨by simp[*],by grind⟩,d.op,mb (j:=1) o2 a2 hd (fun v=>rfl),qA (by simp[*]) ⟨al,al,gG 5 rfl rfl rfl rfl,⟨r2,0,y2.r.n,y2.r.cap,i⟩,by rw[a2],⟨by simp[*],by grind⟩,kb,Vq,O,W,qA (by simp[*]) ⟨aK,⟨y1,b1,y2,b2,y3,b3,m,i+1⟩,⟨⟨o1,k1,t1,o2,k2,t2,o3,k3,M⟩,by grind⟩,aV,aA [0,1,2,3,4,5,6,7,8,9],by grind⟩⟩⟩⟩⟩
 clear t hi o1 k1 t1 o2 k2 t2 o3 k3 M l1 l2 l3 z5 X;rintro⟨y1,b1,y2,b2,y3,b3,m,i⟩ js ⟨t,hi⟩;obtain⟨o1,k1,t1,o2,k2,t2,o3,k3,M⟩:=id t;dsimp only at o1 k1 t1 o2 k2 t2 o3 k3 M hi⊢;have l1:=o1.len;have l3:=o3.len;have z5:=M.len;have X:=M.le;refine bo (fun U3=>?_) (fun Hj=>iS);obtain⟨d,hd⟩:∃d,(jA ⟨K,a,b⟩)[i]?=some d:=⟨_,fg ae⟩;have y:=M.a i d ae hd;obtain⟨r3,a3⟩:=o3.1.uH ae;obtain⟨r1,a1⟩:=o1.1.uH ae;obtain⟨ka,kn,kc,hv,hs,U,lk⟩:=DX o3 k3 a3 y;obtain⟨kb,Vq,O,Hk,V,U4,W⟩:=DX o1 k1 a1 hd;have hk3:=(jq.1 y).1;have wD:=t1.kl hd;subst U U4;exact⟨rfl,al,gG 5 rfl rfl rfl rfl,⟨r1,0,y1.r.n,y1.r.cap,i⟩,by rw[a1],⟨by simp[*],by grind⟩,d.kind,mb (j:=0) o1 a1 hd (fun v=>rfl),d.op,mb (j:=1) o1 a1 hd (fun v=>rfl),d.num,mb (j:=2) o1 a1 hd (fun v=>rfl),kb,_,O,W,d.pos,mb (j:=4) o1 a1 hd (fun v=>rfl),al,gG 5 rfl rfl rfl rfl,⟨r3,0,y3.r.n,y3.r.cap,i⟩,by rw[a3],⟨by simp[*],by simp[*]⟩,d.kind,mb (j:=0) o3 a3 y (fun v=>rfl),d.op,mb (j:=1) o3 a3 y (fun v=>rfl),d.num,mb (j:=2) o3 a3 y (fun v=>rfl),ka,_,kc,lk,d.pos,mb (j:=4) o3 a3 y (fun v=>rfl),
  akq,rfl,⟨d.kind,d.op,d.num,d.pos,d.pos,d.aB,d.aB.length,kb,O,ka,kc,true⟩,rfl,rfl,⟨fun _=>rfl,V,hs,hO wD (by decide)⟩,⟨(Vo hd Hk V).sub (bU 2),(Vo y hv hs).sub (bU 8)⟩,fun _ _=>⟨aK,⟨y1,b1,y2,b2,y3,b3,m,i+1⟩,⟨⟨o1,k1,t1,o2,k2,t2,o3,k3,M⟩,by grind⟩,aV,aA [0,1,2,3,4,5,6,7,8,9],by grind⟩⟩
theorem afa:aD 5 oS:=fo 150 Tryz.func5 (fun _ _=>[(1,0,aX oK),(5,1,.c (nH cf) [] [11,12]),(5,6,.n 13),(5,7,.w [.z00 13]),(6,1,.c (nH cf) [] [21,22]),(6,6,.n 23),(6,7,.w [.z00 23]),(7,4,.c (nH cf) [] [31,32]),(7,9,.n 33),(7,10,.w [.z00 33]),(10,1,aP 13),(10,4,aP 23),(15,1,aP 33),(21,1,aP 9),(21,8,.qo (fJ 5)),(21,9,.q (Nx 7)),(21,10,.n 210),(21,11,.w (eG 210)),(22,1,aP 210),(22,3,aP 6),(22,5,.qo (fJ 5)),(22,7,.q [.ex 4 (.int .i64)]),(22,11,aP 210),(22,13,aP 6),(22,15,.qo (fJ 5)),(22,17,.q [.ex 4 .str]),(22,22,aP 210),(22,25,aP 6),(22,27,.qo (fJ 5)),(22,29,.q [.ex 4 .slice]),(28,1,aP 3),(28,3,.qo (fJ 5)),(28,4,.q (Nx 1)),(28,6,aP 9),(28,8,.qo (fJ 5)),(28,9,.q (Nx 7)),(28,10,aX sM)]) [] ae_ ae9 bA [] afb
end
section
open Go Go.ChangeShapes Go.WideShapes Go.ChangeAt Go.RowKit Go.ChangeMaps
theorem afh(os:Os)(b:os.Started)(H:Type)(gD:TypeId×Value->H):
  ReturnsInHanded {} Tryz.checked os 5 .any (fun w args=>(Rows.parseJoinsSpec.pre gD Tryz.prog Tryz.f5 [] false w args/\laidMetH Tryz.prog Rows.parseJoinsRow.laid w)/\sizedMet gD Tryz.prog Tryz.f5 (OpenSpec.ofChange Rows.parseJoinsSpec) false w args)
   (Rows.parseJoinsSpec.post gD Tryz.prog Tryz.f5 false true false false):=by
 refine aja (C:=Tryz.checked) (X:=fun w=>laidMetH Tryz.prog Rows.parseJoinsRow.laid w) (fun _ _ u h=>h.of_heap u) akb b bl Tryz.func5
  (ChangeSpec.witness_shaped (enc:=gD) (C:=Tryz.checked) (os:=os) (X:=fun w _=>laidMetH Tryz.prog Rows.parseJoinsRow.laid w) false (World.laidAll Tryz.prog os Rows.parseJoinsRow.laid) #[.string .empty,.string .empty] 8 (World.laidAll_os _ _ _)
   (World.shaped_of_ZipB bl bl) bl bl bl
   (by rw[MakeChecks.laidMetH_plain _ _ _ bl];exact laidMet_laidAll _ bl bl)) ?_
 intro W r6 args ds gs f c l o d k;have i:=l;obtain⟨p,q,g,r,rfl,_,_⟩:=l;obtain⟨rfl,rfl⟩:=trodVars_none r;have a:Tryz.f5.params=#[9,9]:=bl;rw[MakeChecks.laidMetH_plain _ _ _ bl]at k;have n:=adO k o;have g:DataW.TrodAll gD Tryz.prog W 0 (fun _=>true) true [9,9] args.toList ds p:=by
  have:=g;rw[a]at this;exact this
 have m:∀(j:Nat)t v,([9,9]:List TypeId)[j]?=some t->args[j]?=some v->Value.okWide Tryz.prog W .any r6 t v:=fun j t v h=>c j t v (by rw[a,<-Array.getElem?_toList];exact h);obtain⟨v0,v1,x,y,E,F,rfl,rfl,rfl,t0,t1⟩:=trodAll_two g;obtain⟨s,rfl,rfl,rfl,z⟩:=open_string bl (m 0 _ _ rfl rfl) t0;obtain⟨s2,rfl,rfl,rfl,z2⟩:=open_string bl (m 1 _ _ rfl rfl) t1;rw[a]at d;have D:s.data.toList.length<=reachBytes/\s2.data.toList.length<=reachBytes:=by simpa[DataW.weightsEach,DataW.weights]using d
 have e1:s.data.toList.length=s.size:=aL;have A:s2.data.toList.length=s2.size:=aL;have B:reachBytes<=1152921504606846976:=by decide
 refine(entry afa ⟨Nn,s,s2⟩ W rfl ⟨kOk,a_,a_⟩ n).mono ?_;rintro e w' ⟨⟨_,_,rfl⟩,hk⟩;exact⟨_,rfl,aid aj9 i rfl rfl hk (tb:=4) bl bl bl⟩
theorem afi:Rows.ParseJoinsSaid:=
 OpenClaim.holds_of_wide 5 Tryz.f5 rfl rfl rfl rfl rfl rfl rfl ⟨rfl,rfl,rfl,rfl,rfl⟩ rfl rfl rfl rfl rfl bl Tryz.func5 bl
  (jS bl) (by unfold Func.isWrapper;first| (rw[if_pos (by decide+kernel)];kernel_rfl)| (rw[if_neg (by decide+kernel)];exact⟨rfl,rfl⟩))
  (fun os a H gD _=>afh os a H gD)
theorem joins_holds:Rows.ParseJoinsCardSaid:=
 Claim7.holds_tied_plain_at .later [] [.data,.data,.widerDeep,.widerDeep,.data,.data,.data,.data,.data,.data,.sentinel,.sentinel,.widerDeep,.widerDeep,.widerDeep,.pinned,.pinned,.pinned] true (true,"4f0dfc1f908ff48b448c1f523d82cbed67c888fdffb4e66fea6a868615751529") true
  afi (fun _ h=>by cases h) bl (fun _ h=>by cases h) parseJoins_row_tie rfl ⟨rfl,rfl⟩ bl rfl
  (fun f fn e c=>by
   obtain rfl:f=5:=Option.some.inj ((show Tryz.prog.funcNamed "pennant/pennantlaw06.ParseJoins"=some 5 by kernel_rfl).symm.trans e) |>.symm;obtain rfl:fn=Tryz.f5:=(Option.some.inj (Tryz.func5.symm.trans c)).symm;have b:Tryz.f5.params=#[9,9]:=by kernel_rfl
   exact⟨bl,fun j t d=>by
    rw[b]at d;have g:t∈[9,9]:=by simpa using Array.mem_of_getElem? d
    have a:([9,9].all fun u=> !Tryz.prog.wantsStandIn u)=true:=by kernel_rfl
    exact(show Tryz.prog.wantsStandIn t=false by simpa using List.all_eq_true.1 a t g)⟩)
  bl
end
end Go.Proofs.YtdkchodgklpomaaGreatDoor
#print axioms Go.Proofs.YtdkchodgklpomaaGreatDoor.joins_holds
