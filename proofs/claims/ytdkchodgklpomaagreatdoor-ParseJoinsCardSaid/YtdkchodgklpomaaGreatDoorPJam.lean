/- Part of the proof that ParseJoins answers true at every input. -/
import Derived.Test.YtdkchodgklpomaaGreatDoorPJal
set_option linter.all false
namespace Go.Proofs.YtdkchodgklpomaaGreatDoor
set_option maxRecDepth 100000
open Go.Value (int slice string bool pointer agg tuple func float iface nilIface)
open Go.IntKind (i64 u8 u64 i32 u32 u16 i8 i16)
open Go.FloatKind (f64)
open Go.Ending (returned panicked)
section
open Go
section
variable{V:Vw}{s s':ap}{f g:Nat}
theorem Vw.R.nameV(a:V.Ok)(c:V.cK=false)(h:V.R s s'):Go.Proofs.YtdkchodgklpomaaGreatDoor.nameV V.A s 0=Go.Proofs.YtdkchodgklpomaaGreatDoor.nameV V.B s' 0:=by
 unfold Go.Proofs.YtdkchodgklpomaaGreatDoor.nameV;simp only[Nat.add_zero];rcases h.qg a with⟨d,x,y,hx,b,e⟩| ⟨e1,f⟩
 ·simp only[hx,b,e.1]
 ·have:V.A[s.i]?=none:=by rw[e1];exact a.pL c
  rw[this];rcases a.yU with h| ⟨y,b,hk,_⟩
  all_goals grind
variable{p p':Int}{ks dK:List Int}{L:List bh}{t t':ap}
theorem Vw.R.set(h:V.R s s')(d:t'.bu=t.bu)(e:t'.loops=t.loops)(f:t'.bm=t.bm)(e1:t.i=s.i:=by rfl)(b:t'.i=s'.i:=by rfl)(c:t.nodes=s.nodes:=by rfl)(a:t'.nodes=s'.nodes:=by rfl):V.R t t':=by
 obtain⟨i,g,j,k⟩:=h.at_;exact⟨h.toNR.same c a d e f,i,g,ae,ae⟩
theorem Vw.m_.set(h:V.m_ s s')(d:t'.bu=t.bu)(e:t'.loops=t.loops)(f:t'.bm=t.bm)(e1:t.i=s.i:=by rfl)(a:t'.i=s'.i:=by rfl)(c:t.nodes=s.nodes:=by rfl)(b:t'.nodes=s'.nodes:=by rfl):V.m_ t t':=
 ⟨h.toNR.same c b d e f,by rw[e1];exact h.sA,by rw[a];exact h.tB,h.NM⟩
theorem Vw.m_.nX(a:V.Ok)(h:V.m_ s s'):V.A[s.i]?=none:=by rw[h.sA];exact a.pL h.NM
theorem Us(h:L[s.i]?=none):decide (s.i>=L.length)=true:=bw (by rw[List.getElem?_eq_none_iff]at h;exact h)
theorem KD{x:bh}(h:L[s.i]?=some x):s.i<L.length:=by
 grind
theorem SR.qc(f:V.Ok)(j:V.cK=false)(h:V.R s s'){Q:Unit->ap->Unit->ap->Prop}(k:∀t t',(V.R t t'\/V.m_ t t')->Q () t () t'):SR (dQ V.A V.fA) (dQ V.B V.fB) s s' Q:=by
 intro a t e;unfold dQ at*;rcases h.qg f with⟨c,x,y,hx,l,p⟩| ⟨e1,i⟩
 ·rw[<-h.isLt f c,<-h.isLt f c];have g:=KD hx;have b:=KD l;rw[jU l,p.2.2.2.1];rw[jU hx]at e;have m:decide (s.i>=V.A.length)=false:=bF ae;have n:decide (s'.i>=V.B.length)=false:=bF ae;rw[m]at e;rw[n];cases o:bg V.A s 0 cU with
  |true=>rw[o]at e;cases e;exact⟨(),_,rfl,k _ _ (.inl (h.step c))⟩
  |false=>
   grind
 ·have g:V.A[s.i]?=none:=by rw[e1];exact f.pL j
  rw[pM g,pM g,Us g]at e;cases e;rcases f.yU with b| ⟨y,b,hk,hl,d⟩
  ·rw[<-i]at b;rw[pM b,pM b,Us b];simp[*]
  ·rw[<-i]at b;rcases d with d|d
   ·rw[Kt b d rfl,Kt b d rfl,jU b,hl];simp[*]
   ·have:bg V.B s' 0 cU=true:=by
     unfold bg;rw[Nat.add_zero,b];simp only[hk,d];rfl
    rw[this];exact⟨(),_,rfl,k _ _ (.inr ⟨h.toNR.same,e1,by simp[*],j⟩)⟩
theorem Lq(c:V.Ok)(h:V.R s s')(b:s.i<V.n+V.dA){Q:Int->ap->Int->ap->Prop}(k:∀k t k' t',V.VR k k'->V.R t t'->t.i=s.i->Q k t k' t'):SR (iv V.A V.fA) (iv V.B V.fB) s s' Q:=by
 intro a t e;cases e;exact⟨_,_,rfl,k _ _ _ _ h.vr (h.push ⟨rfl,rfl,rfl,rfl,(h.n7 c b).pos⟩) rfl⟩
theorem ZH(j:V.Ok)(p:V.cK=false)(r:V.fF f)(q:f<=g)(kd:Int)(d:s.i<V.n+V.dA)(o:V.R s s'):SR (V.PA (f+1) (.func kd)) (V.PB (g+1) (.func kd)) s s' (V.dH (.func kd)):=by
 have B:=o.n7 j d;have hx:∀{t:aq},V.cK=true->t.ex=true:=fun e=>by rw[p]at e;cases e
 unfold Vw.PA Vw.PB;rw[P,P];refine SR.bind (SR.cd (SR.bind (SR.step o d fun u H n=>SR.bind (SR.get (SR.bind ?_)))));have K:∀{op c:ByteArray}{t t':ap},V.R t t'->c=op->SR (cw V.A V.fA lp>>=fun _=>V.PA f (.dy [])>>=fun l=>eZ>>=fun a=>io {a with bu:=a.bu+1,loops:=0,bm:=0}>>=fun _=>one (V.PA f (.block true))>>=fun b=>eZ>>=fun t=>io {t with bu:=t.bu-1,loops:=a.loops,bm:=a.bm}>>=fun _=>cm ⟨kd,op,0,l++[b],(aC V.A V.fA s).pos⟩) (cw V.B V.fB lp>>=fun _=>V.PB g (.dy [])>>=fun l=>eZ>>=fun a=>io {a with bu:=a.bu+1,loops:=0,bm:=0}>>=fun _=>one (V.PB g (.block true))>>=fun b=>eZ>>=fun t=>io {t with bu:=t.bu-1,loops:=a.loops,bm:=a.bm}>>=fun _=>cm ⟨kd,c,0,l++[b],(aC V.B V.fB s').pos⟩) t t' (V.dH (.func kd)):=fun{op c t t'}h e=>by
  refine SR.bind (SR.bW j h rfl fun v I E=>SR.bind (r.run q (.dy .nil) E (fun l w F w' m _ k=>SR.bind (SR.get (SR.bind (SR.set (SR.bind ?_))))) hx));have z:V.R {w with bu:=w.bu+1,loops:=0,bm:=0} {w' with bu:=w'.bu+1,loops:=0,bm:=0}:=k.set (by rw[k.bu]) rfl rfl;refine r.one q (.block true) z (fun b x G y C i=>SR.bind (SR.get (SR.bind (SR.set ?_)))) hx;have A:V.R {x with bu:=x.bu-1,loops:=w.loops,bm:=w.bm} {y with bu:=y.bu-1,loops:=w'.loops,bm:=w'.bm}:=i.set (by rw[i.bu]) k.loops k.bm;exact nR A (m.app C.lr) B.pos
 exact SR.bif (by rw[n.nameV j p]) (fun _ _=>SR.word j n fun w t t' D=>K D rfl) (fun _ _=>SR.ret (K n rfl))
theorem ZM(b:V.Ok)(i:V.cK=false)(q:V.fF f)(n:f<=g)(hk:V.LR ks dK)(c:V.R s s'):SR (V.PA (f+1) (.dy ks)) (V.PB (g+1) (.dy dK)) s s' (V.dH (.dy ks)):=by
 rcases c.nX b i with d|a
 ·exact SR.no (pS _ _ rfl d)
 have hx:∀{t:aq},V.cK=true->t.ex=true:=fun e=>by rw[i]at e;cases e
 unfold Vw.PA Vw.PB;rw[P,P];have K:∀{t t':ap},V.R t t'->SR (fv V.A V.fA>>=fun x=>gJ V.A V.fA>>=fun w=>dj ⟨3,w,0,[],x.pos⟩>>=fun k=>V.PA f (.dy (ks++[k]))) (fv V.B V.fB>>=fun x=>gJ V.B V.fB>>=fun w=>dj ⟨3,w,0,[],x.pos⟩>>=fun k=>V.PB g (.dy (dK++[k]))) t t' (V.dH (.dy ks)):=fun{t t'}h=>by
  rcases h.nX b i with d|a
  ·exact SR.no (NO.cd (NO.bind (ql.word (.inl d))))
  have l:=h.n7 b a;exact SR.bind (SR.cd (SR.bind (SR.word b h fun w u r j=>SR.bind (wc j .nil l.pos fun m v m' y o p=>q.dM n _ (.dy (hk.app o.lr)) p hx))))
 exact SR.bind (wb b c a (fun t t' h _=>SR.bif rfl (fun _ _=>SR.ret (wP rfl hk h)) (fun e _=>nomatch e)) (fun _=>SR.bif rfl (fun e _=>nomatch e) (fun _ _=>SR.bind (SR.bif (by rw[hk.len]) (fun _ _=>SR.bW b c rfl fun u r j=>K j) (fun _ _=>SR.ret (K c))))))
theorem Zz(c:V.Ok)(h:V.cK=false)(n:V.fF f)(k:f<=g)(b:Bool)(a:V.R s s'):SR (V.PA (f+1) (.block b)) (V.PB (g+1) (.block b)) s s' (V.dH (.block b)):=by
 rcases a.nX c h with j|d
 ·exact SR.no (pS _ _ rfl j)
 have hx:∀{t:aq},V.cK=true->t.ex=true:=fun e=>by rw[h]at e;cases e
 have i:=a.n7 c d;unfold Vw.PA Vw.PB;rw[P,P];exact SR.bind (SR.cd (SR.bind (SR.bW c a rfl fun u o l=>SR.bind (n.run k (.fH b .nil) l (fun ks v dK p hk _ m=>nR m hk i.pos) hx))))
theorem ZA(c:V.Ok)(i:V.cK=false)(l:V.fF f)(j:f<=g)(b:Bool)(hk:V.LR ks dK)(a:V.R s s'):SR (V.PA (f+1) (.fH ks b)) (V.PB (g+1) (.fH dK b)) s s' (V.dH (.fH ks b)):=by
 rcases a.nX c i with m|d
 ·exact SR.no (pS _ _ rfl m)
 have hx:∀{t:aq},V.cK=true->t.ex=true:=fun e=>by rw[i]at e;cases e
 unfold Vw.PA Vw.PB;rw[P,P];refine SR.bind (wb c a d (fun t t' h _=>SR.bif rfl (fun _ _=>SR.ret (wP rfl hk h)) (fun e _=>nomatch e)) (fun _=>SR.bif rfl (fun e _=>nomatch e) (fun _ _=>SR.bind (l.zm j (.bT b) a (fun k t k' t' n h=>?_) hx))));rcases h with h|h
 ·exact l.dM j _ (.fH b (hk.app n.lr)) h hx
 ·exact SR.no (pS _ _ rfl (h.nX c))
theorem ZN(a:V.Ok)(c:V.cK=false)(j:V.fF f)(d:f<=g)(b:V.R s s'):SR (V.PA (f+1) .paren) (V.PB (g+1) .paren) s s' (V.dH .paren):=by
 unfold Vw.PA Vw.PB;rw[P,P];exact SR.bind (SR.bW a b rfl fun u l e=>SR.bind (j.one d .bf e fun k t k' t' hk h=>SR.bind (yt a c h fun v m i=>SR.ret (u5 hk i))))
theorem ZX(d:V.Ok)(h:V.cK=false)(l:V.fF f)(i:f<=g)(a:s.i<V.n+V.dA)(b:V.R s s'):SR (V.PA (f+1) .vars) (V.PB (g+1) .vars) s s' (V.dH .vars):=by
 have hx:∀{t:aq},V.cK=true->t.ex=true:=fun e=>by rw[h]at e;cases e
 have c:=b.n7 d a;unfold Vw.PA Vw.PB;rw[P,P];exact SR.bind (SR.cd (SR.bind (SR.step b a fun u m j=>SR.bind (l.run i (.dX .nil) j (fun ks v dK n hk _ k=>nR k hk c.pos) hx))))
theorem ZW(b:V.Ok)(l:V.cK=false)(p:V.fF f)(n:f<=g)(hk:V.LR ks dK)(d:V.R s s'):SR (V.PA (f+1) (.dX ks)) (V.PB (g+1) (.dX dK)) s s' (V.dH (.dX ks)):=by
 rcases d.nX b l with r|i
 ·exact SR.no (pS _ _ rfl r)
 have hx:∀{t:aq},V.cK=true->t.ex=true:=fun e=>by rw[l]at e;cases e
 have q:=d.n7 b i;unfold Vw.PA Vw.PB;rw[P,P];have K:∀{w:ByteArray}{asz a:List Int}{t t':ap},V.LR asz a->V.R t t'->SR (dj ⟨22,w,0,asz,(aC V.A V.fA s).pos⟩>>=fun k=>cZ V.A oO>>=fun h=>bif !h then ret (ks++[k]) else V.PA f (.dX (ks++[k]))) (dj ⟨22,w,0,a,(aC V.B V.fB s').pos⟩>>=fun k=>cZ V.B oO>>=fun h=>bif !h then ret (dK++[k]) else V.PB g (.dX (dK++[k]))) t t' (V.dH (.dX ks)):=fun has h=>SR.bind (wc h has q.pos fun m u m' y o c=>SR.bind (SR.b9 b c rfl (fun v z j _=>SR.bif rfl (fun e _=>nomatch e) (fun _ _=>p.dM n _ (.dX (hk.app o.lr)) j hx)) (fun _=>SR.bif rfl (fun _ _=>SR.ret (wP rfl (hk.app o.lr) c)) (fun e _=>nomatch e))));exact SR.bind (SR.cd (SR.bind (SR.word b d fun w u y c=>SR.bind (SR.b9 b c rfl (fun v z j _=>SR.bind (SR.bif rfl (fun _ _=>p.run n .bf j fun asz x a A has _ hx=>K has hx) (fun e _=>nomatch e))) (fun _=>SR.bind (SR.bif rfl (fun e _=>nomatch e) (fun _ _=>SR.ret (K .nil c))))))))
theorem ZK(c:V.cK=false)(i:V.fF f)(d:f<=g)(a:V.R s s'):SR (V.PA (f+1) .loop) (V.PB (g+1) .loop) s s' (V.dH .loop):=by
 have hx:∀{t:aq},V.cK=true->t.ex=true:=fun e=>by rw[c]at e;cases e
 unfold Vw.PA Vw.PB;rw[P,P];have b:V.R {s with loops:=s.loops+1,bm:=s.bm+1} {s' with loops:=s'.loops+1,bm:=s'.bm+1}:=a.set a.bu (by rw[a.loops]) (by rw[a.bm]);refine SR.bind (SR.get (SR.bind (SR.set (SR.bind (i.zm d (.bT false) b (fun k t k' t' hk h=>SR.bind (SR.get (SR.bind (SR.set (SR.ret ⟨hk.lr,fun _=>rfl,?_⟩))))) hx)))));rcases h with h|h
 ·exact .inl (h.set h.bu (by rw[h.loops]) (by rw[h.bm]))
 ·exact .inr ⟨rfl,h.set h.bu (by rw[h.loops]) (by rw[h.bm])⟩
theorem ZD(o:V.Ok)(r:V.cK=false)(i:V.fF f)(d:f<=g)(hp:V.pU p p')(n:V.R s s'):SR (V.PA (f+1) (.choose p)) (V.PB (g+1) (.choose p')) s s' (V.dH (.choose p)):=by
 have hx:∀{t:aq},V.cK=true->t.ex=true:=fun e=>by rw[r]at e;cases e
 unfold Vw.PA Vw.PB;rw[P,P];refine SR.bind (i.one d .paren n (fun c t w t' q h=>SR.bind (SR.bW o h rfl fun u j a=>SR.bind (SR.get (SR.bind (SR.set (SR.bind ?_)))))) hx);have l:V.R {u with bm:=u.bm+1} {j with bm:=j.bm+1}:=a.set a.bu a.loops (by rw[a.bm]);refine i.run d (.ec false q.lr) l (fun ks v dK k hk _ b=>SR.bind (SR.get (SR.bind (SR.set ?_)))) hx;have m:V.R {v with bm:=v.bm-1} {k with bm:=k.bm-1}:=b.set b.bu b.loops (by rw[b.bm]);exact nR m hk hp
theorem ZT(j:V.Ok)(y:V.cK=false)(q:V.fF f)(o:f<=g)(b:Bool)(hk:V.LR ks dK)(i:V.R s s'):SR (V.PA (f+1) (.ec ks b)) (V.PB (g+1) (.ec dK b)) s s' (V.dH (.ec ks b)):=by
 rcases i.nX j y with A|a
 ·exact SR.no (pS _ _ rfl A)
 have hx:∀{t:aq},V.cK=true->t.ex=true:=fun e=>by rw[y]at e;cases e
 have z:=i.n7 j a;unfold Vw.PA Vw.PB;rw[P,P];have K:∀{n:Nat}{c:Bool}{asz d:List Int}{t t':ap},V.LR asz d->V.R t t'->SR (cw V.A V.fA colon>>=fun _=>V.PA f (.eu asz)>>=fun all=>dj ⟨34,.empty,n,all,(aC V.A V.fA s).pos⟩>>=fun k=>V.PA f (.ec (ks++[k]) c)) (cw V.B V.fB colon>>=fun _=>V.PB g (.eu d)>>=fun all=>dj ⟨34,.empty,n,all,(aC V.B V.fB s').pos⟩>>=fun k=>V.PB g (.ec (dK++[k]) c)) t t' (V.dH (.ec ks b)):=fun{n c asz d t t'}has h=>SR.bind (SR.bW j h rfl fun u E p=>SR.bind (q.run o (.eu has) p (fun all v r F l _ C=>SR.bind (wc C l z.pos fun m w m' w' B D=>q.dM o _ (.ec c (hk.app B.lr)) D hx)) hx));exact SR.bind (wb j i a (fun t t' h _=>SR.bif rfl (fun _ _=>SR.ret (wP rfl hk h)) (fun e _=>nomatch e)) (fun _=>SR.bif rfl (fun e _=>nomatch e) (fun _ _=>SR.bind (SR.cd (SR.bind (wb j i a (fun t t' h _=>SR.bind (SR.bif rfl (fun _ _=>q.run o .bf h fun asz x d G has _ hx=>K has hx) (fun e _=>nomatch e))) (fun _=>SR.bind (SR.bif rfl (fun e _=>nomatch e) (fun _ _=>SR.bind (SR.isLt j i a (SR.bif rfl (fun _ _=>SR.bind (SR.step i a fun u E p=>SR.ret (K .nil p))) (fun _ _=>SR.no NO.dN))))))))))))
theorem ZC(b:V.Ok)(d:V.cK=false)(j:V.fF f)(i:f<=g)(hk:V.LR ks dK)(a:V.R s s'):SR (V.PA (f+1) (.eu ks)) (V.PB (g+1) (.eu dK)) s s' (V.dH (.eu ks)):=by
 rcases a.nX b d with l|c
 ·exact SR.no (pS _ _ rfl l)
 have hx:∀{t:aq},V.cK=true->t.ex=true:=fun e=>by rw[d]at e;cases e
 have is:=fun T=>a.isLt b c T;unfold Vw.PA Vw.PB;rw[P,P];refine SR.bind (SR.get (SR.bif (by simp[*]) (fun _ _=>SR.bind (j.zm i (.bT false) a (fun k t k' t' m h=>?_) hx)) (fun _ _=>SR.ret (wP rfl hk a))));rcases h with h|h
 ·exact j.dM i _ (.eu (hk.app m.lr)) h hx
 ·exact SR.no (pS _ _ rfl (h.nX b))
theorem ZU(d:V.Ok)(q:V.cK=false)(m:V.fF f)(j:f<=g)(hp:V.pU p p')(A:V.R s s'):SR (V.PA (f+1) (.dF p)) (V.PB (g+1) (.dF p')) s s' (V.dH (.dF p)):=by
 have hx:∀{t:aq},V.cK=true->t.ex=true:=fun e=>by rw[q]at e;cases e
 unfold Vw.PA Vw.PB;rw[P,P];have K:∀{w:ByteArray}{n:Bool->Nat}{asz a:List Int}{t t':ap},V.LR asz a->V.R t t'->SR (cZ V.A ph>>=fun h=>(bif h then V.PA f (.block false) else ret [])>>=fun fs=>cm ⟨34-2,w,n h,asz++fs,p⟩) (cZ V.B ph>>=fun h=>(bif h then V.PB g (.block false) else ret [])>>=fun fs=>cm ⟨34-2,w,n h,a++fs,p'⟩) t t' (V.dH (.dF p)):=fun{w n asz a t t'}has h=>SR.bind (SR.b9 d h rfl (fun u F k _=>SR.bind (SR.bif rfl (fun _ _=>m.run j (.block false) k (fun fs v r G i _ l=>nR l (has.app i) hp) hx) (fun e _=>nomatch e))) (fun _=>SR.bind (SR.bif rfl (fun e _=>nomatch e) (fun _ _=>SR.ret (nR h (has.app .nil) hp)))));refine SR.bind (m.one j (.block false) A (fun b t H t' o h=>SR.bind (SR.b9 d h rfl (fun u F k _=>SR.bind (SR.bif rfl (fun _ _=>?_) (fun e _=>nomatch e))) (fun _=>SR.bind (SR.bif rfl (fun e _=>nomatch e) (fun _ _=>SR.ret ?_))))) hx)
 ·exact SR.bind (SR.bW d k rfl fun v G l=>SR.bind (SR.word d l fun w x J C=>SR.bind (yt d q C fun y L D=>SR.bind (m.one j (.block false) D (fun c z I M B E=>SR.ret (SR.bind (SR.get (SR.bind (SR.bif (by rfl) (fun _ _=>SR.no NO.dN) (fun _ _=>SR.ret (K (n:=fun h=>bif true then (bif h then vL else lG) else vM) (o.lr.app B.lr) E))))))) hx))))
 ·exact SR.bind (SR.get (SR.bind (SR.bif (by rw[h.is d rfl]) (fun _ _=>SR.no NO.dN) (fun _ _=>SR.ret (K (n:=fun h=>bif false then (bif h then vL else lG) else vM) (o.lr.app .nil) h)))))
end
end
section
open Go
section
variable{V:Vw}{s s':ap}{f g:Nat}
variable{p p':Int}{v:Nat}
theorem yu(h:V.R s s'\/V.m_ s s'){kd a:Int}{op b:ByteArray}{num kW:Nat}{ks dK:List Int}(hk:V.LR ks dK)(hp:V.pU p p'){tag:aq}(f:tag.wt=true)(c:a=kd:=by rfl)(d:b=op:=by first|rfl|assumption)(e:kW=num:=by first|rfl|assumption):SR (cm ⟨kd,op,num,ks,p⟩) (cm ⟨a,b,kW,dK,p'⟩) s s' (V.dH tag):=Zw h (show V.XR ⟨kd,op,num,ks,p⟩ ⟨a,b,kW,dK,p'⟩from⟨c,d,e,hk.1,hp⟩) f
theorem ZQ(c:V.Ok)(o:V.cK=false)(E:V.fF f)(B:f<=g){x l:bh}(b:V.TR x l)(p:s.i<V.n+V.dA)(k:V.R s s'):SR (V.PA (f+1) (.simple x)) (V.PB (g+1) (.simple l)) s s' (V.dH (.simple x)):=by
 have hx:∀{t:aq},V.cK=true->t.ex=true:=fun e=>by rw[o]at e;cases e
 unfold Vw.PA Vw.PB;rw[P,P];have C:∀{kind:Int}{ks dK:List Int}{t t':ap},V.LR ks dK->V.R t t'->SR (dQ V.A V.fA>>=fun _=>cm ⟨kind,.empty,0,ks,x.pos⟩) (dQ V.B V.fB>>=fun _=>cm ⟨kind,.empty,0,dK,l.pos⟩) t t' (V.dH (.simple x)):=fun hk h=>SR.bind (SR.qc c o h fun t t' h=>yu h hk b.pos rfl);have K:∀(kind:Int),SR (eF>>=fun _=>fv V.A V.fA>>=fun n=>eZ>>=fun s=>(bif kind==(31:Int)&&n.aI then kj V.A V.fA else ret ())>>=fun _=>(bif kind==(31:Int)||(kind==(28:Int)&&(decide (s.i<V.A.length)&&(!n.aI&&(!bg V.A s 0 cU&& !bg V.A s 0 rc)))) then V.PA f .bf else ret [])>>=fun ks=>dQ V.A V.fA>>=fun _=>cm ⟨kind,.empty,0,ks,x.pos⟩)
   (eF>>=fun _=>fv V.B V.fB>>=fun n=>eZ>>=fun s=>(bif kind==(31:Int)&&n.aI then kj V.B V.fB else ret ())>>=fun _=>(bif kind==(31:Int)||(kind==(28:Int)&&(decide (s.i<V.B.length)&&(!n.aI&&(!bg V.B s 0 cU&& !bg V.B s 0 rc)))) then V.PB g .bf else ret [])>>=fun ks=>dQ V.B V.fB>>=fun _=>cm ⟨kind,.empty,0,ks,l.pos⟩) s s' (V.dH (.simple x)):=fun kind=>by
  refine SR.bind (SR.step k p fun u j d=>SR.bind (SR.cd (SR.bind (SR.get ?_))));rcases d.qg c with⟨hl,y,z,r,v,D⟩| ⟨e1,A⟩
  ·have m:decide (u.i<V.A.length)=true:=bw (KD r);have w:decide (j.i<V.B.length)=true:=bw (KD v);rw[jU r,jU v,D.2.2.2.1,m,w,<-d.isLt c hl,<-d.isLt c hl];exact SR.bind (SR.bif rfl (fun _ _=>SR.no NO.dN) (fun _ _=>SR.ret (SR.bind (SR.bif rfl (fun _ _=>E.run B .bf d fun ks t dK t' hk _ h=>C hk h) (fun _ _=>SR.ret (C .nil d))))))
  ·have q:V.A[u.i]?=none:=by rw[e1];exact c.pL o
   rw[wv q];have m:decide (u.i<V.A.length)=false:=bF (by grind);rw[m];cases hk:kind==(31:Int)with
   |true=>exact SR.no (sW fun a t e=>by cases e;exact NO.bind (pS _ _ rfl q))
   |false=>
    have i:(decide (j.i<V.B.length)&&(!(aC V.B V.fB j).aI&&(!bg V.B j 0 cU&& !bg V.B j 0 rc)))=false:=by
     rcases c.yU with i| ⟨y,i,_,hl,_⟩
     ·grind
     ·rw[<-A]at i;rw[jU i,hl,Bool.not_true,jp,lB]
    rw[i];simp only[jp,lB,Bool.or_false];exact SR.bind (SR.bif rfl (fun e _=>nomatch e) (fun _ _=>SR.ret (SR.bind (SR.bif rfl (fun e _=>nomatch e) (fun _ _=>SR.ret (C .nil d))))))
 refine SR.bind (SR.get (SR.bind (SR.bif (by rw[b.2.1,k.bu]) (fun _ _=>SR.ret (K 28)) (fun _ _=>SR.bif (by rw[b.2.1,k.bm]) (fun _ _=>SR.ret (K 29)) (fun _ _=>SR.bif (by rw[b.2.1,k.loops]) (fun _ _=>SR.ret (K 30)) (fun _ _=>SR.bif (by rw[b.2.1]) (fun _ _=>SR.ret (K 31)) (fun _ _=>SR.no NO.dN)))))))
theorem Zv(b:V.Ok)(h:V.R s s'\/V.m_ s s'){Q:Bool->ap->Bool->ap->Prop}(d:∀t t',V.R t t'->Q true t true t')(c:Q false s false s'):SR (cZ V.A ry) (cZ V.B ry) s s' Q:=by
 rcases h with h|h
 ·exact SR.b9 b h rfl (fun t t' f _=>d t t' f) (fun _=>c)
 ·intro a t e;unfold cZ at*;rw[pM (h.nX b)]at e;cases e;have:bg V.B s' 0 ry=false:=by
   unfold bg;rw[Nat.add_zero,h.tB];cases hx:V.B[V.n+V.dB+1]? with
   |none=>rfl
   |some x=>exact b.ag7 x hx
  simp[*]
theorem ZR(p:V.Ok)(z:V.cK=false)(j:V.fF f)(i:f<=g)(b:Bool)(n:V.R s s'):SR (V.PA (f+1) (.bT b)) (V.PB (g+1) (.bT b)) s s' (V.dH (.bT b)):=by
 rcases n.nX p z with C|d
 ·exact SR.no (pS _ _ rfl C)
 have hx:∀{t:aq},V.cK=true->t.ex=true:=fun e=>by rw[z]at e;cases e
 have l:=n.n7 p d;have is:=fun T=>n.isLt p d T;unfold Vw.PA Vw.PB;rw[P,P];have plain:SR (one (P V.A V.fA V.aJ V.wide f .bf)>>=fun e=>dQ V.A V.fA>>=fun _=>cm ⟨20,.empty,0,[e],(aC V.A V.fA s).pos⟩) (one (P V.B V.fB V.aJ V.wide g .bf)>>=fun e=>dQ V.B V.fB>>=fun _=>cm ⟨20,.empty,0,[e],(aC V.B V.fB s').pos⟩) s s' (V.dH (.bT b)):=SR.bind (j.one i .bf n fun e t H t' C h=>SR.bind (SR.qc p z h fun u B o=>yu o C.lr l.pos rfl));refine SR.bind (SR.cd (SR.bind (SR.get (SR.bif (is _) (fun _ _=>j.dM i _ (.block false) n hx) (fun _ _=>SR.bif (is _) (fun _ _=>?_) (fun _ _=>?_))))))
 ·exact SR.bind (Lq p n d fun k t k' t' hk h e=>SR.bind (SR.step h ae fun u B o=>SR.ret (u5 hk o)))
 dsimp only;have tx:=fun T=>(show bD (aC V.A V.fA s).text T=bD (aC V.B V.fB s').text T by rw[l.2.1]);have step:∀{α:Type}{m m':PM α}{Q:α->ap->α->ap->Prop},(∀t t',V.R t t'->SR m m' t t' Q)->SR (eF>>=fun _=>m) (eF>>=fun _=>m') s s' Q:=fun k=>SR.bind (SR.step n d k);refine SR.bif (by rw[l.1]) (fun _ _=>?_) (fun _ _=>plain);refine SR.bif (tx _) (fun _ _=>?_) (fun _ _=>SR.bif (by rw[l.2.1]) (fun _ _=>?_) (fun _ _=>SR.bif (tx _) (fun _ _=>?_) (fun _ _=>SR.bif (tx _) (fun _ _=>?_) (fun _ _=>SR.bif (tx _) (fun _ _=>?_) (fun _ _=>SR.bif (tx _) (fun _ _=>?_) (fun _ _=>SR.bif (tx _) (fun _ _=>?_) (fun _ _=>SR.bif (tx _) (fun _ _=>?_) (fun _ _=>plain))))))))
 ·exact SR.bind (j.one i .vars n (fun k t k' t' hk h=>SR.bind (SR.qc p z h fun u B o=>SR.ret ⟨hk.lr,fun _=>rfl,o.imp id fun x=>⟨rfl,x⟩⟩)) hx d)
 ·exact j.dM i _ (.simple l) n hx d
 ·exact SR.bif rfl (fun _ _=>SR.no NO.dN) (fun _ _=>j.dM i _ (.func 35) n hx d)
 ·exact step fun t t' h=>SR.bind (j.one i .paren h (fun c u E B r o=>SR.bind (j.zm i (.bT false) o (fun a v D G q A=>SR.bind (Zv p A (fun w w' F=>SR.bind (SR.bif rfl (fun _ _=>(j _ _ _ _ g i (.bT false) hx trivial F).mono fun ks y dK I hp=>yu (hp.2.2.imp id (·.2)) ((r.lr.app q.lr).app hp.1) l.pos rfl) (fun e _=>nomatch e))) (SR.bind (SR.bif rfl (fun e _=>nomatch e) (fun _ _=>SR.ret (yu A ((r.lr.app q.lr).app .nil) l.pos rfl)))))) hx)) hx)
 ·exact step fun t t' h=>SR.bind (j.one i .paren h (fun c u E B r o=>SR.bind (j.zm i .loop o (fun a v D G q A=>yu A (r.lr.app q.lr) l.pos rfl) hx)) hx)
 ·exact step fun t t' h=>j.dM i _ (.dr l.pos) h hx
 ·exact step fun t t' h=>j.dM i _ (.dF l.pos) h hx
 ·exact step fun t t' h=>j.dM i _ (.choose l.pos) h hx
theorem Vw.R.agy(a:V.Ok)(c:V.cK=false)(h:V.R s s')(k:s.i+v<=V.n+V.dA):Go.Proofs.YtdkchodgklpomaaGreatDoor.nameV V.A s v=Go.Proofs.YtdkchodgklpomaaGreatDoor.nameV V.B s' v/\(Go.Proofs.YtdkchodgklpomaaGreatDoor.nameV V.A s v=true->s.i+v<V.n+V.dA):=by
 obtain⟨i,f,g,j⟩:=h.at_;unfold Go.Proofs.YtdkchodgklpomaaGreatDoor.nameV;by_cases hl:i+v<V.n
 ·obtain⟨x,y,hx,b,d⟩:=a.FC (i+v) hl;rw[show s.i+v=i+v+V.dA by omega,show s'.i+v=i+v+V.dB by omega,hx,b];simp only[d.1];simp[*]
 ·have e:i+v=V.n:=by omega
  rw[show s.i+v=V.n+V.dA by omega,show s'.i+v=V.n+V.dB by omega,a.pL c];refine⟨?_,fun e=>by cases e⟩;rcases a.yU with h| ⟨y,b,hk,_⟩
  all_goals grind
theorem Vw.R.Vg(a:V.Ok)(g:V.cK=false)(h:V.R s s')(n:s.i+v<=V.n+V.dA){T:ByteArray}(d:sr T=true):bg V.A s v T=bg V.B s' v T/\(bg V.A s v T=true->s.i+v<V.n+V.dA):=by
 obtain⟨i,j,k,l⟩:=h.at_;have f:bD rp T=false/\bD cU T=false:=by unfold sr at d;grind
 unfold bg;by_cases hl:i+v<V.n
 ·obtain⟨x,y,hx,c,b⟩:=a.FC (i+v) hl;rw[show s.i+v=i+v+V.dA by omega,show s'.i+v=i+v+V.dB by omega,hx,c];simp only[b.1,b.2.1];simp[*]
 ·rw[show s.i+v=V.n+V.dA by omega,show s'.i+v=V.n+V.dB by omega,a.pL g];refine⟨?_,fun e=>by cases e⟩;rcases a.yU with h| ⟨y,c,hk,_,m⟩
  all_goals grind
theorem ZG(a:V.Ok)(o:V.cK=false)(E:V.fF f)(C:f<=g)(hp:V.pU p p')(W:V.R s s'):SR (V.PA (f+1) (.dr p)) (V.PB (g+1) (.dr p')) s s' (V.dH (.dr p)):=by
 have hx:∀{t:aq},V.cK=true->t.ex=true:=fun e=>by rw[o]at e;cases e
 unfold Vw.PA Vw.PB;rw[P,P];have K:∀{k k':Int}{t t':ap},V.VR k k'->V.R t t'->SR (cw V.A V.fA cU>>=fun _=>iT V.A 0 cU>>=fun h=>(bif h then iv V.A V.fA else one (V.PA f .bf))>>=fun c=>cw V.A V.fA cU>>=fun _=>iT V.A 0 rp>>=fun h=>(bif h then iv V.A V.fA else one (V.PA f .bf))>>=fun d=>cw V.A V.fA rp>>=fun _=>one (V.PA f .loop)>>=fun b=>cm ⟨26,.empty,0,[k,c,d,b],p⟩)
   (cw V.B V.fB cU>>=fun _=>iT V.B 0 cU>>=fun h=>(bif h then iv V.B V.fB else one (V.PB g .bf))>>=fun c=>cw V.B V.fB cU>>=fun _=>iT V.B 0 rp>>=fun h=>(bif h then iv V.B V.fB else one (V.PB g .bf))>>=fun d=>cw V.B V.fB rp>>=fun _=>one (V.PB g .loop)>>=fun b=>cm ⟨26,.empty,0,[k',c,d,b],p'⟩) t t' (V.dH (.dr p)):=fun{k k' t t'}hk h=>by
  have D3:∀{T:ByteArray}{t t':ap}{m m':Int->PM (List Int)}{Q:List Int->ap->List Int->ap->Prop},V.R t t'->(∀c v F H,V.VR c F->V.R v H->SR (m c) (m' F) v H Q)->SR (iT V.A 0 T>>=fun h=>(bif h then iv V.A V.fA else one (V.PA f .bf))>>=m) (iT V.B 0 T>>=fun h=>(bif h then iv V.B V.fB else one (V.PB g .bf))>>=m') t t' Q:=fun{T t t' m m' Q}h k=>by
   rcases h.nX a o with n|j
   ·refine SR.no (S0 ?_);rw[pM n];exact NO.bind (NO.bif (fun e=>nomatch e) (fun _=>NO.one (pS _ _ rfl n)))
   ·exact SR.bind (SR.isLt a h j (SR.bind (SR.bif rfl (fun _ _=>Lq a h j fun c v F H A D _=>k _ _ _ _ A D) (fun _ _=>E.one C .bf h (fun c v F H A D=>k _ _ _ _ A D) hx))))
  exact SR.bind (yt a o h fun u B l=>D3 l fun c v F H A D=>SR.bind (yt a o D fun w w' G=>D3 G fun d y d' y' hd O=>SR.bind (yt a o O fun z z' hz=>SR.bind (E.zm C .loop hz (fun b q S q' r L=>yu L (hk.lr.app (A.lr.app (hd.lr.app r.lr))) hp rfl) hx))))
 refine SR.bind (SR.bW a W rfl fun u B l=>SR.bind (SR.get ?_));rcases l.nX a o with n|j
 ·refine SR.no ?_;dsimp only;rw[pM n,pM n];have hn:Go.Proofs.YtdkchodgklpomaaGreatDoor.nameV V.A u 0=false:=by unfold Go.Proofs.YtdkchodgklpomaaGreatDoor.nameV;simp[*]
  simp only[aN,hn,jp];exact NO.bind (NO.bif (fun e=>nomatch e) (fun _=>NO.cd (NO.bind (NO.one (pS _ _ rfl n)))))
 dsimp only;rw[<-l.isLt a j,<-l.isLt a j];have X:=l.n7 a j;generalize D:(bif bg V.A u 0 lg then 1 else 0:Nat)=v;have M:u.i+v<=V.n+V.dA:=by
  grind
 have I:=l.agy a o M;have A:(Go.Proofs.YtdkchodgklpomaaGreatDoor.nameV V.A u v&&bg V.A u (v+1) uf)=(Go.Proofs.YtdkchodgklpomaaGreatDoor.nameV V.B B v&&bg V.B B (v+1) uf):=by
  rw[<-I.1];cases hn:Go.Proofs.YtdkchodgklpomaaGreatDoor.nameV V.A u v with
  |false=>rfl
  |true=>
   have hl:=I.2 hn;rw[(l.Vg a o (v:=v+1) ae rfl).1]
 refine SR.bif A (fun r _=>?_) (fun _ _=>?_)
 ·rw[gX]at r;have hl:=I.2 r.1;have Y:=(l.Vg a o (v:=v+1) ae (T:=uf) rfl).2 r.2;obtain⟨i,i1,i2,i3⟩:=l.at_;obtain⟨x,y,N,R,hr⟩:=a.FC (i+v) ae;have J:V.R {u with i:=u.i+v+2} {B with i:=B.i+v+2}:=⟨l.toNR.same rfl rfl l.bu l.loops l.bm,i+v+2,ae,by grind,by grind⟩;have Z:((V.B[B.i+v]?).map (·.text)).getD .empty=((V.A[u.i+v]?).map (·.text)).getD .empty:=by
   rw[show u.i+v=i+v+V.dA by omega,show B.i+v=i+v+V.dB by omega,N,R];exact hr.2.1
  exact SR.bind (SR.set (SR.bind (E.one C .bf J (fun e w U w' n G=>SR.bind (yt a o G fun y y' O=>SR.bind (E.zm C .loop O (fun b q S q' r L=>yu L (n.lr.app r.lr) hp rfl) hx))) hx)))
 ·exact SR.bind (SR.bif rfl (fun _ _=>E.one C .vars l (fun k t k' t' hk h=>K hk h) hx j) (fun _ _=>SR.bif rfl (fun _ _=>Lq a l j fun k t k' t' hk h _=>K hk h) (fun _ _=>SR.bind (SR.cd (SR.bind (E.one C .bf l (fun e w U w' n G=>wc G n.lr X.pos fun k t k' t' hk h=>K hk h) hx))))))
theorem S2(i:V.Ok):∀f,V.fF f
 |0=>fun tag m s s' g _ _ _ _ _=>SR.no (by show NO (P V.A V.fA V.aJ V.wide 0 tag) s;rw[P];exact NO.out)
 |f+1=>fun tag m s s' g a o fW l c=>by
  have d:=S2 i f
  match g,a with
  |g+1,a=>
   have a:f<=g:=ae;have j:tag.ex=false->V.cK=false:=fun e=>by
    cases p:V.cK with
    |false=>rfl
    |true=>rw[fW p]at e;cases e
   cases o with
   |bf=>exact ZF i d a c
   |cond=>exact ZE i d a c
   |level n=>exact ZI d a n c
   |fY n h=>exact ZJ i d a n h c
   |unary=>exact ZV i d a c
   |dO=>exact Zy i d a c
   |suffix=>exact ZS d a c
   |d6 h=>exact ZO i d a h c
   |d0 h=>exact ZB i (j rfl) d a h c
   |cS h=>exact Zx i d a h c
   |cW h=>exact ZL i d a h c
   |dv=>exact ZP i d a c
   |func k=>exact ZH i (j rfl) d a k l c
   |dy h=>exact ZM i (j rfl) d a h c
   |block b=>exact Zz i (j rfl) d a b c
   |fH b h=>exact ZA i (j rfl) d a b h c
   |paren=>exact ZN i (j rfl) d a c
   |vars=>exact ZX i (j rfl) d a l c
   |dX h=>exact ZW i (j rfl) d a h c
   |loop=>exact ZK (j rfl) d a c
   |dr h=>exact ZG i (j rfl) d a h c
   |dF h=>exact ZU i (j rfl) d a h c
   |choose h=>exact ZD i (j rfl) d a h c
   |ec b h=>exact ZT i (j rfl) d a b h c
   |eu h=>exact ZC i (j rfl) d a h c
   |simple h=>exact ZQ i (j rfl) d a h l c
   |bT b=>exact ZR i (j rfl) d a b c
end
end
section
open Go
def l8:ap:=⟨0,[],0,0,0⟩
section
variable{T:List bh}{fin:Int}{aJ:Nat->ByteArray}{wide:ByteArray->ByteArray}{s t:ap}{α β:Type}
variable{m:PM (List Int)}{u:ap}
theorem M9{m:PM α}{k:α->PM β}{b:β}(h:(m>>=k) s= .ok b u):∃a t,m s= .ok a t/\k a t= .ok b u:=by
 have h':bS m k s= .ok b u:=h;unfold bS at h';grind
theorem TK{m:PM α}{k:α->PM β}{a:α}(h:m s= .ok a t):(m>>=k) s=k a t:=by
 show bS m k s=_;unfold bS;rw[h]
theorem Wg{k:Int}(h:one m s= .ok k u):∃r,m s= .ok r u/\r.headD 0=k:=by
 obtain⟨r,t,b,a⟩:=M9 (m:=m) (k:=fun l=>ret (l.headD 0)) h;cases a;simp[*]
theorem Ov{r:List Int}(h:m s= .ok r t):one m s= .ok (r.headD 0) t:=by
 show bS m (fun l=>ret (l.headD 0)) s=_;unfold bS;rw[h];rfl
end
end
section
open Go
structure LE{α:Type}(m m':PM α):Prop where
 h:∀s,m s= .out\/m' s=m s
section
variable{α β:Type}
theorem LE.refl(m:PM α):LE m m:=⟨fun _=>.inr rfl⟩
theorem LE.bind{m m':PM α}{k k':α->PM β}(h:LE m m')(hk:∀a,LE (k a) (k' a)):LE (m>>=k) (m'>>=k'):=by
 refine⟨fun s=>?_⟩;show bS m k s=_\/bS m' k' s=bS m k s;unfold bS;rcases h.h s with h|h
 ·simp[*]
 ·rw[h];cases m s with
  |ok a t=>exact(hk a).h t
  |stop p e t=>exact .inr rfl
  |out=>exact .inl rfl
theorem LE.one{m m':PM (List Int)}(h:LE m m'):LE (Go.Proofs.YtdkchodgklpomaaGreatDoor.one m) (Go.Proofs.YtdkchodgklpomaaGreatDoor.one m'):=by
 show LE (m>>=fun l=>ret (l.headD 0)) (m'>>=fun l=>ret (l.headD 0));exact LE.bind h fun _=>LE.refl _
theorem LE.bif{b:Bool}{m m' n a:PM α}(c:LE m m')(d:LE n a):LE (bif b then m else n) (bif b then m' else a):=by cases b;exact d;exact c
end
section
variable(L:List bh)(fin:Int)(aJ:Nat->ByteArray)(wide:ByteArray->ByteArray)
theorem Zg:∀(f:Nat)(tag:aq),LE (P L fin aJ wide f tag) (P L fin aJ wide (f+1) tag):=by
 intro f
 induction f with
 |zero=>intro tag;refine⟨fun s=>?_⟩;rw[P];exact .inl rfl
 |succ f a=>
  intro tag;cases tag <;> (rw[P,P];repeat' (first|intro _|with_reducible apply LE.bind|with_reducible apply LE.bif|with_reducible apply LE.one|with_reducible exact a _|with_reducible exact LE.refl _))
theorem yp{f g:Nat}(h:f<=g)(tag:aq)(s:ap):P L fin aJ wide f tag s= .out\/P L fin aJ wide g tag s=P L fin aJ wide f tag s:=by
 induction g with
 |zero=>have:f=0:=ae;subst this;exact .inr rfl
 |succ g a=>
  by_cases b:f=g+1
  ·simp[*]
  ·rcases a ae with h|h
   ·simp[*]
   ·rcases(Zg L fin aJ wide g tag).h s with h'|h'
    all_goals grind
end
end
section
open Go
def ap.ax(s:ap):ap:=⟨s.i+1,s.nodes,s.bu,s.loops,s.bm⟩
def ap.add(s:ap)(x:bP):ap:=⟨s.i,s.nodes++[x],s.bu,s.loops,s.bm⟩
section
variable{α β:Type}{fin:Int}{L:List bh}{aJ:Nat->ByteArray}{wide:ByteArray->ByteArray}{s t:ap}
theorem m6{k:bh->PM β}:(fv L fin>>=k) s=k (aC L fin s) s:=rfl
theorem iF{k:ap->PM β}:(eZ>>=k) s=k s s:=rfl
variable{b:Bool}{T:ByteArray}{x:bP}{a e p:Int}{m:PM (List Int)}{u:ap}
theorem Ah{k:Unit->PM β}:(io u>>=k) s=k () u:=rfl
theorem kG{k:Unit->PM β}:(eF>>=k) s=k () s.ax:=rfl
theorem Af{k:Int->PM β}:(dW a>>=k) s=k (dz s a) s:=rfl
theorem xP{k:Int->PM β}:(dj x>>=k) s=k s.nodes.length (s.add x):=rfl
theorem h_:cm x s= .ok [(s.nodes.length:Int)] (s.add x):=rfl
theorem ip{a:α}{k:α->PM β}:(ret a>>=k) s=k a s:=rfl
theorem Ag{a:α}:ret a s= .ok a s:=rfl
theorem Fu{a:Nat}{k:Bool->PM β}:(iT L a T>>=k) s=k (bg L s a T) s:=rfl
theorem Fs{k:α->PM β}:(kj L fin>>=k) s= .stop (aC L fin s).pos 60 s:=rfl
theorem lf{k:Bool->PM β}(h:bg L s 0 T=true):(cZ L T>>=k) s=k true s.ax:=by
 show bS (cZ L T) k s=_;unfold bS cZ;rw[h];rfl
theorem lP{k:Bool->PM β}(h:bg L s 0 T=false):(cZ L T>>=k) s=k false s:=by
 show bS (cZ L T) k s=_;unfold bS cZ;simp[*]
theorem ue{k:Unit->PM β}(h:bg L s 0 T=true):(cw L fin T>>=k) s=k () s.ax:=by
 show bS (cw L fin T) k s=_;unfold bS cw;rw[h];rfl
theorem Fw{k:Unit->PM β}(h:bg L s 0 T=false):(cw L fin T>>=k) s= .stop (aC L fin s).pos 60 s:=by
 show bS (cw L fin T) k s=_;unfold bS cw;simp[*]
def ku(s:ap)(k:Int)(iB:Bool):Bool:=oT s k !=8&&(oT s k !=9&&(oT s k !=3|| !iB))
theorem KH{k:Unit->PM β}(h:ku s a b=false):(kv a b>>=k) s=k () s:=by
 show bS (kv a b) k s=_;unfold ku at h;unfold bS kv;simp[*]
theorem KG{k:Unit->PM β}(h:ku s a b=true):(kv a b>>=k) s= .stop (dz s a) 61 s:=by
 show bS (kv a b) k s=_;unfold ku at h;unfold bS kv;simp[*]
theorem KJ{k:ByteArray->PM β}(h:(aC L fin s).kind=1):(gJ L fin>>=k) s=k (aC L fin s).text s.ax:=by
 show bS (gJ L fin) k s=_;unfold bS gJ;rw[h];rfl
theorem KI{k:ByteArray->PM β}(h:(aC L fin s).kind≠1):(gJ L fin>>=k) s= .stop (aC L fin s).pos 60 s:=by
 show bS (gJ L fin) k s=_;have e:((aC L fin s).kind !=1)=true:=by simp[*]
 unfold bS gJ;simp[*]
theorem Su{k:Unit->PM β}(h:dQ L fin s= .ok () u):(dQ L fin>>=k) s=k () u:=by
 show bS (dQ L fin) k s=_;unfold bS;rw[h]
theorem Sv{k:Unit->PM β}(h:dQ L fin s= .stop p e u):(dQ L fin>>=k) s= .stop p e u:=by
 show bS (dQ L fin) k s=_;unfold bS;rw[h]
theorem rv{k:Int->PM β}(h:d5 L fin aJ wide s= .ok a u):(d5 L fin aJ wide>>=k) s=k a u:=by
 show bS (d5 L fin aJ wide) k s=_;unfold bS;rw[h]
theorem Fv{k:Int->PM β}(h:d5 L fin aJ wide s= .stop p e u):(d5 L fin aJ wide>>=k) s= .stop p e u:=by
 show bS (d5 L fin aJ wide) k s=_;unfold bS;rw[h]
theorem Ft{k:Int->PM β}:(iv L fin>>=k) s=k s.nodes.length (s.add ⟨36,.empty,0,[],(aC L fin s).pos⟩):=rfl
theorem CD{m:PM α}{k:α->PM β}{a:α}(h:m s= .ok a t):(m>>=k) s=k a t:=by
 show bS m k s=_;unfold bS;rw[h]
theorem CE{m:PM α}{k:α->PM β}(h:m s= .stop p e t):(m>>=k) s= .stop p e t:=by
 show bS m k s=_;unfold bS;rw[h]
theorem KF{m:PM α}{k:α->PM β}(h:(m>>=k) s≠.out):m s≠.out:=fun e=>h (by
 show bS m k s=_;unfold bS;rw[e])
theorem Xf{k:Int->PM β}(h:m s= .ok [a] t):(one m>>=k) s=k a t:=CD (Ov h)
theorem ahe(h:m s= .stop p e t):one m s= .stop p e t:=by
 unfold one bS;rw[h]
theorem Xg{k:Int->PM β}(h:m s= .stop p e t):(one m>>=k) s= .stop p e t:=CE (ahe h)
theorem Ss{k:Int->PM β}(h:(one m>>=k) s≠.out):m s≠.out:=fun e=>KF h (by
 unfold one bS;rw[e])
end
end
section
open Go Go.ChangeShapes Go.WideShapes Go.ChangeAt Go.RowKit
section
variable{H:Type}{gD:TypeId×Value->H}{P:Program}{W:World}{r6:Nat}{akg:Nat->Bool}{held:Bool}
end
end
section
open Go Go.ChangeShapes Go.WideShapes Go.ChangeAt Go.RowKit
def qk{α β:Type}(R:α->β->Prop):List α->List β->Prop
 | [],[]=>True
 |a::l,b::m=>R a b/\qk R l m
 |_,_=>False
theorem qk.mono{α β:Type}{R c:α->β->Prop}(d:∀a b,R a b->c a b):∀{l:List α}{m:List β},qk R l m->qk c l m
 | [],[],_=>trivial
 | [],_::_,h=>h.elim
 |_::_,[],h=>h.elim
 |_::_,_::_,h=>⟨d _ _ h.1,qk.mono d h.2⟩
theorem SP{α β:Type}{R:α->β->Prop}{a:α}{b:β}(c:R a b):∀{l:List α}{m:List β},qk R l m->qk R (l++[a]) (m++[b])
 | [],[],_=>⟨c,ao⟩
 | [],_::_,h=>h.elim
 |_::_,[],h=>h.elim
 |_::_,_::_,h=>⟨h.1,SP c h.2⟩
section
variable{H:Type}{gD:TypeId×Value->H}{P:Program}{W:World}{r6:Nat}{akg:Nat->Bool}{held:Bool}
end
end
section
open Go
structure cj where
 b:Nat
 la:Option Addr
 lc:Nat
 L:List bh
 fin:Int
def cj.cells(x:cj)(v:Value)(s:ap):List Value:=[.slice x.la x.L.length x.lc,.int .i64 s.i,.int .i64 x.fin,v,.int .i64 s.bu,.int .i64 s.loops,.int .i64 s.bm]
def yW(x:bP)(v:Value):List Value:=[.int .i64 x.kind,.string x.op,.float .f64 x.num,v,.int .i64 x.pos]
def oP:List bP->List Value->List Value
 |x::a,v::vs=>yW x v++oP a vs
 |_,_=>[]
theorem Uv:∀(ns:List bP)(vs:List Value),ns.length=vs.length->(oP ns vs).length=ns.length*5
 | [],[],_=>rfl
 |x::ns,v::vs,h=>by
  have:=Uv ns vs (by simpa using h);rw[oP,dJ,this,qH];show 5+ns.length*5=_;omega
 | [],_::_,h=>by simp at h
 |_::_,[],h=>by simp at h
theorem Uw:∀(ns:List bP)(vs:List Value)(x:bP)(v:Value),ns.length=vs.length->oP (ns++[x]) (vs++[v])=oP ns vs++yW x v
 | [],[],x,v,_=>by simp[oP]
 |y::ns,u::vs,x,v,h=>by
  have:=Uw ns vs x v (by simpa using h);rw[List.cons_append,List.cons_append,oP,this,oP,gW]
 | [],_::_,_,_,h=>by simp at h
 |_::_,[],_,_,h=>by simp at h
theorem G3:∀(ns:List bP)(vs:List Value)(i j:Nat)(x:bP)(v u:Value),ns[i]?=some x->vs[i]?=some v->(yW x v)[j]?=some u->(oP ns vs)[i*5+j]?=some u
 | [],_,i,j,x,v,u,h,_,_=>by simp at h
 |_::_,[],i,j,x,v,u,_,h,_=>by simp at h
 |y::ns,w::vs,0,j,x,v,u,h,h',a=>by
  have h:y=x:=by simpa using h
  have h':w=v:=by simpa using h'
  subst h h';have c:=(jq.1 a).1;rw[oP,Nat.zero_mul,hU,kq c];exact a
 |y::ns,w::vs,i+1,j,x,v,u,h,h',a=>by
  have b:(yW y w).length=5:=rfl;rw[oP,jb ae,b,show(i+1)*5+j-5=i*5+j by omega];exact G3 ns vs i j x v u (by simpa using h) (by simpa using h') a
def ym(I:a8)(ns:List bP)(vs:List Value):Prop:=qk (fun x v=>Ay I 1 v (bB x.aB)) ns vs
def Kf.rest(ns:List bP)(vs:List Value):FY where
 holds I _ _:=ym I ns vs
 Bm _ _ _ _ _ h:=h
 mono _ _ _ _ h k:=qk.mono (fun _ _ q=>q.mono h) k
def eD(ns:List bP)(vs:List Value):ah:=.du (Kf.rest ns vs)
structure ew where
 r:Row
 vs:List Value
def ew.ok(y:ew)(ns:List bP):Prop:=bz 35 5 (oP ns y.vs) y.r/\ns.length=y.vs.length
def BB(x:cj)(s:ap)(y:ew):ah:=r5 [.cells x.b (x.cells y.r.v s) 43,y.r.A,eD s.nodes y.vs]
def Ps.rest(x:cj)(s:ap):FY where
 holds I h o:=∃y:ew,y.ok s.nodes/\(BB x s y).holds I h o
 Bm I h h' o d:=fun⟨y,a,b⟩=>⟨y,a,ah.local d b⟩
 mono I J h o c:=fun⟨y,a,b⟩=>⟨y,a,ah.mono c b⟩
def ak(x:cj)(s:ap):ah:=.du (Ps.rest x s)
variable{A F:ah}{I:a8}{y:ew}{w:World}
theorem ew.ok.len{ns:List bP}(h:y.ok ns):y.r.n=ns.length:=by
 have a:=h.1.len;rw[Uv _ _ h.2]at a;omega
theorem HY{x:cj}{s:ap}(h:Sat I (bC [ak x s,F]) w):∃y:ew,y.ok s.nodes/\Sat I (bC [.cells x.b (x.cells y.r.v s) 43,y.r.A,eD s.nodes y.vs,F]) w:=by
 obtain⟨y,c,hs⟩:=h.Oy (Y:=ew) (R:=fun y=>y.ok s.nodes) (B:=fun y=>BB x s y) 0 fun _ _⟨y,b,a⟩=>⟨y,b,a⟩;have a:Sat I (bC ([F]++[BB x s y])) w:=hs.pick [1,0] rfl rfl;exact⟨y,c,a.Xz.pick [1,2,3,0] rfl rfl⟩
theorem aiE{x:cj}{s:ap}(h:Sat I (bC [ak x s,A,F]) w):∃y:ew,y.ok s.nodes/\Sat I (bC [.cells x.b (x.cells y.r.v s) 43,y.r.A,eD s.nodes y.vs,A,F]) w:=by
 obtain⟨y,c,hs⟩:=h.Oy (Y:=ew) (R:=fun y=>y.ok s.nodes) (B:=fun y=>BB x s y) 0 fun _ _⟨y,b,a⟩=>⟨y,b,a⟩;have a:Sat I (bC ([A,F]++[BB x s y])) w:=hs.pick [1,2,0] rfl rfl;exact⟨y,c,a.Xz.pick [2,3,4,0,1] rfl rfl⟩
theorem HZ{x:cj}{s:ap}(c:y.ok s.nodes):aE (bC [.cells x.b (x.cells y.r.v s) 43,y.r.A,eD s.nodes y.vs,F]) (bC [ak x s,F]):=⟨fun I w h=>by
 have a:Sat I (bC ([F]++[.cells x.b (x.cells y.r.v s) 43,y.r.A,eD s.nodes y.vs])) w:=h.pick [3,0,1,2] rfl rfl;have b:=a.TJ.Cx (B:=ak x s) 1 fun _ _ q=>⟨y,c,q⟩;exact⟨I,a8.le_refl I,b.pick [1,0] rfl rfl⟩⟩
theorem el{x:cj}{s:ap}{k:Nat}{u:Value}(h:∀v,(x.cells v s)[k]?=some u):aQ (ak x s) ⟨x.b,k,none⟩ u:=⟨fun I h' o b⟨y,_,a⟩=>(Y1 0 rfl (aQ.cells (h y.r.v)):aQ (BB x s y) ⟨x.b,k,none⟩ u).h I h' o b a⟩
structure fP(x:cj)(F:ah):Prop where
 src:jk 5 (hY x.L) x.la x.L.length
 CC:lU F x.la (hY x.L)
theorem fP.sub{x:cj}{B:ah}(hs:Sub A B)(h:fP x A):fP x B:=⟨h.src,h.CC.sub hs⟩
def cj.p(x:cj)(s:ap):cX:=⟨x.b,x.la,x.lc,x.L,x.fin,s.i⟩
theorem fP.df{x:cj}(h:fP x F){S:St}{bG:List Nat}{s:ap}(i j:Nat)(hi:i∉bG)(c:j∉bG)(a:gt S i=ak x s)(b:gt S j=F):iM (x.p s) (.du (rest S bG)):=by
 refine⟨aQ.rest hi ?_,aQ.rest hi ?_,aQ.rest hi ?_,h.src,h.CC.sub (pd j c b)⟩ <;> rw[a] <;> exact el fun _=>rfl
structure sY where
 x:cj
 s:ap
 t:ap
 k:Nat
 v:Value
def fL:aR where
 X:=sY
 args x:=[ag (some ⟨x.x.b,x.k,none⟩),x.v]
 pre x:=[ak x.x x.s]
 cond x:=(∀u,(x.x.cells u x.s).set x.k x.v=x.x.cells u x.t)/\x.t.nodes=x.s.nodes/\x.k<7/\x.v.oneCell'=true/\x.v.cells=#[x.v]
 val _ _:=ay undef
 post x _:=[ak x.x x.t]
theorem gw{P:Program}{o:Oper}{a v:Operand}{t:TypeId}{i:TypeInfo}(B:o.op= .store t a v)(hi:P.info? t=some i)(hk:i.size=1):e_ P o fL:=by
 refine⟨fun q F I w ρ A D H hs=>?_⟩;obtain⟨x,s,s',k,u⟩:=q;obtain⟨c,hn,g,z,f⟩:=D;dsimp only at c hn g z f;simp only[B,Op.operands,fL]at A;have l:ρ a= .pointer (some ⟨x.b,k,none⟩)/\ρ v=u:=by simpa using A
 obtain⟨hp,E⟩:=l;obtain⟨y,G,h⟩:=HY (F:=F) hs;have e:w.heap[x.b]?=some (.cells ⟨x.cells y.r.v s⟩ 43 (0,0)):=h.cells (j:=0) rfl;have d:=run_storeCells_at P x.b k 43 [u] 0 ⟨x.cells y.r.v s⟩ w e (by show k+0+1<=7;omega) (by simpa using z);have C:(x.cells y.r.v s).take k++[u]++(x.cells y.r.v s).drop (k+1)=x.cells y.r.v s':=by
  rw[<-c,List.set_eq_take_append_cons_drop,if_pos (by show k<7;exact g)];simp
 simp only[Nat.add_zero,tq]at d;rw[C]at d;have n:=h.setRow (j:=0) (b:=x.b) (vs:=x.cells y.r.v s) (t:=43) (CH:=x.cells y.r.v s') rfl;have p:Sat I (bC [.cells x.b (x.cells y.r.v s') 43,y.r.A,eD s'.nodes y.vs,F]) (w.setRow x.b ⟨x.cells y.r.v s'⟩):=by rw[hn];exact n
 obtain⟨J,m,r⟩:=(HZ (by rw[hn];exact G)).h I _ p;exact⟨(),J,_,undef,ao,.inr ⟨by simp[execOp,B,hp,E,Instr.storeAt,Instr.sureAddr,storeVar,sizeOf,typeInfo,hi,hk,f,d],rfl⟩,rfl,m,r,al⟩
end
section
open Go
structure v8 where
 x:cj
 s:ap
 y:ew
 k:Int
variable{ns:List bP}
theorem mb{y:ew}(a:y.ok ns){rb i j:Nat}{d:bP}{u:Value}(e:y.r.a=some ⟨rb,0,none⟩)(hd:ns[i]?=some d)(b:∀v,(yW d v)[j]?=some u):aQ y.r.A ⟨rb,0+i*5+j,none⟩ u:=by
 have hs:=a.1.CB;rw[e]at hs;have hi:=(jq.1 hd).1;have:=hs.look (G3 ns y.vs i j d _ u hd (fg (by rw[<-a.2];exact hi)) (b _));rw[Nat.add_assoc];exact this
def WC(x:v8):=af x.x.b [au x.x.la x.x.L.length x.x.lc,ad x.s.i,ad x.x.fin,au x.y.r.a x.y.r.n x.y.r.cap,ad x.s.bu,ad x.s.loops,ad x.s.bm] 43
def AZ:aR where
 X:=v8
 args x:=[ag (some ⟨x.x.b,0,none⟩),ad x.k]
 pre x:=[WC x,x.y.r.A,eD x.s.nodes x.y.vs]
 cond x:=x.y.ok x.s.nodes/\0<=x.k/\x.k<x.s.nodes.length
 val x _:=ay (ad (dz x.s x.k))
 post x _:=[WC x,x.y.r.A,eD x.s.nodes x.y.vs]
def If(x:v8):List Value:=[au x.x.la x.x.L.length x.x.lc,ad ↑x.s.i,ad x.x.fin,au x.y.r.a x.y.r.n x.y.r.cap,ad x.s.bu,ad x.s.loops,ad x.s.bm]
def JU(x:v8)(F:ah):=[(0,af x.x.b (If x) 43),(1,x.y.r.A),(2,dU (Kf.rest x.s.nodes x.y.vs)),(3,F)]
theorem aaY(x:v8)(F:ah)(g:AZ.cond x)(h:AZ.aO x F):aw x.x.b 3/\iP (a7 Tryz.f27 1 5) [au x.y.r.a x.y.r.n x.y.r.cap,ad x.k] (fun b=>T1 x.y.r.A ⟨b.b,b.o+b.n.toNat*5+4,none⟩ (fun a=>ar AZ x F (ay (ad a)) (JU x F))):=by
 delta iP T1 If JU aw ad au af dU ay;obtain⟨⟨b,la,lc,L,fin⟩,s,y,k⟩:=x;obtain⟨c,e,hk⟩:=g;dsimp only at c e hk⊢;obtain⟨i,rfl⟩:∃i:Nat,k=(i:Int):=⟨k.toNat,(Int.toNat_of_nonneg e).symm⟩;have hi:i<s.nodes.length:=ae;obtain⟨d,hd⟩:∃d,s.nodes[i]?=some d:=⟨_,fg hi⟩;obtain⟨rb,f⟩:=c.1.uH (by rw[c.len];omega);have hn:=c.len;refine⟨al,gG 5 rfl rfl rfl rfl,⟨rb,0,y.r.n,y.r.cap,i⟩,by rw[f],hS,d.pos,?_,(),ao,?_,aA [0,1,2,3]⟩
 ·rw[cy];exact mb c f hd fun v=>rfl
 ·show returned _=returned (.int .i64 (dz s (i:Int)));unfold dz;rw[cy,hd];rfl
theorem TH:aD 27 AZ:=fo 13 Tryz.func27 (fun _ _=>[(1,3,aP 0),(1,5,.qo (fJ 5)),(1,7,.q [.ex 1 (.int .i64)])]) [] aY aY bA [] aaY
structure C5 where
 o:v8
 iB:Bool
def D6:aR where
 X:=C5
 Y:=Unit ⊕ Unit
 args x:=[ag (some ⟨x.o.x.b,0,none⟩),ad x.o.k,aj x.iB]
 pre x:=[af x.o.x.b [au x.o.x.la x.o.x.L.length x.o.x.lc,ad x.o.s.i,ad x.o.x.fin,au x.o.y.r.a x.o.y.r.n x.o.y.r.cap,ad x.o.s.bu,ad x.o.s.loops,ad x.o.s.bm] 43,x.o.y.r.A,eD x.o.s.nodes x.o.y.vs]
 cond x:=x.o.y.ok x.o.s.nodes/\0<=x.o.k/\x.o.k<x.o.s.nodes.length
 b_ x y:=match y with
  | .inl _=>ku x.o.s x.o.k x.iB=false
  | .inr _=>ku x.o.s x.o.k x.iB=true
 val x y:=match y with
  | .inl _=>.returned (.tuple #[])
  | .inr _=>.panicked [⟨iG (dz x.o.s x.o.k) 61,false,false⟩]
 post x y:=match y with
  | .inl _=>[.cells x.o.x.b [.slice x.o.x.la x.o.x.L.length x.o.x.lc,.int .i64 x.o.s.i,.int .i64 x.o.x.fin,.slice x.o.y.r.a x.o.y.r.n x.o.y.r.cap,.int .i64 x.o.s.bu,.int .i64 x.o.s.loops,.int .i64 x.o.s.bm] 43,x.o.y.r.A,eD x.o.s.nodes x.o.y.vs]
  | .inr _=>[]
 sum:=some (ia Unit Unit)
def Te(aa:List Value)(pp:List ah)(a:v8->Unit->Prop):=aD 27 AZ/\true=true/\∃(z:v8),aa=[ag (some ⟨z.x.b,0,none⟩),ad z.k]/\pp=[af z.x.b (If z) 43,z.y.r.A,dU (Kf.rest z.s.nodes z.y.vs)]/\(z.y.ok z.s.nodes/\0<=z.k/\z.k<z.s.nodes.length)/\True/\∀(b:Unit),True->a z b
def Pl(x:C5):List Value:=[au x.o.x.la x.o.x.L.length x.o.x.lc,ad ↑x.o.s.i,ad x.o.x.fin,au x.o.y.r.a x.o.y.r.n x.o.y.r.cap,ad x.o.s.bu,ad x.o.s.loops,ad x.o.s.bm]
def RH(x:C5)(F:ah):=Te [ag (some ⟨x.o.x.b,0,none⟩),ad x.o.k] [af x.o.x.b (Pl x) 43,x.o.y.r.A,dU (Kf.rest x.o.s.nodes x.o.y.vs)] (fun d c=>Ge [ag (some ⟨x.o.x.b,0,none⟩),ad (dz d.s d.k),ad 61] (fun b a=>ar D6 x F (dT b.p b.e) (JU d F)))
def Kh(x:C5)(F:ah):=ar D6 x F eM [(0,af x.o.x.b (Pl x) 43),(1,x.o.y.r.A),(2,dU (Kf.rest x.o.s.nodes x.o.y.vs)),(3,F)]
theorem ah6(x:C5)(F:ah)(p:D6.cond x)(q:D6.aO x F):aw x.o.x.b 3/\iP (a7 Tryz.f26 0 5) [au x.o.y.r.a x.o.y.r.n x.o.y.r.cap,ad x.o.k] (fun f=>T1 x.o.y.r.A ⟨f.b,f.o+f.n.toNat*5,none⟩ (fun e=>Br (e !=8) (Br (e !=9) (Br (e !=3) (RH x F) (Br (!x.iB) (RH x F) (Kh x F))) (Kh x F)) (Kh x F))):=by
 delta iP T1 If Te Pl Ge JU RH eM Kh dT aw ad ag au af dU ay;obtain⟨⟨⟨b,la,lc,L,fin⟩,s,y,k⟩,iB⟩:=x;obtain⟨c,m,hk⟩:=p;dsimp only at c m hk⊢;obtain⟨i,rfl⟩:∃i:Nat,k=(i:Int):=⟨k.toNat,(Int.toNat_of_nonneg m).symm⟩;have hi:i<s.nodes.length:=ae;obtain⟨d,hd⟩:∃d,s.nodes[i]?=some d:=⟨_,fg hi⟩;obtain⟨rb,n⟩:=c.1.uH (by rw[c.len];omega);have hn:=c.len;have g:oT s (i:Int)=d.kind:=by unfold oT;rw[cy,hd];rfl
 refine⟨al,gG 5 rfl rfl rfl rfl,⟨rb,0,y.r.n,y.r.cap,i⟩,by rw[n],hS,d.kind,?_,?_⟩
 ·rw[cy];exact mb (j:=0) c n hd fun v=>rfl
 refine lj (A:=ku s (i:Int) iB=true) (fun k=>aG (fun a=>aG (fun h=>aG (fun l=>k ?_) (fun l=>aG (fun hn=>k ?_) (fun hn=>⟨.inl (),?_,rfl,aA [0,1,2,3]⟩))) (fun h=>⟨.inl (),?_,rfl,aA [0,1,2,3]⟩)) (fun a=>⟨.inl (),?_,rfl,aA [0,1,2,3]⟩)) (fun o=>bO TH ⟨⟨b,la,lc,L,fin⟩,s,y,(i:Int)⟩ ⟨c,m,hk⟩ fun _ _=>l6 UD ⟨b,dz s (i:Int),61⟩ fun _ _=>⟨.inr (),o,rfl,aA [3]⟩)
 ·unfold ku;rw[g,show(d.kind !=8)=true from a,show(d.kind !=9)=true from h,show(d.kind !=3)=true from l];rfl
 ·unfold ku;rw[g,show(d.kind !=8)=true from a,show(d.kind !=9)=true from h,show(d.kind !=3)=false from l,show(!iB)=true from hn];rfl
 ·show ku s (i:Int) iB=false;unfold ku;rw[g,show(d.kind !=8)=true from a,show(d.kind !=9)=true from h,show(d.kind !=3)=false from l,show(!iB)=false from hn];rfl
 ·show ku s (i:Int) iB=false;unfold ku;rw[g,show(d.kind !=8)=true from a,show(d.kind !=9)=false from h];rfl
 ·show ku s (i:Int) iB=false;unfold ku;rw[g,show(d.kind !=8)=false from a];rfl
theorem ah5:aD 26 D6:=fo 34 Tryz.func26 (fun _ _=>[(0,3,aP 0),(0,5,.qo (fJ 5)),(0,7,.q [.ex 1 (.int .i64)]),(2,3,.c AZ [0,1,2] [0,1,2]),(2,4,aX yX)]) [] aY aY bA [] ah6
structure Li where
 x:cj
 s:ap
 y:ew
 n:bP
 kr:Row
def HI:aR where
 X:=Li
 Y:=Row
 args x:=[.pointer (some ⟨x.x.b,0,none⟩),.agg #[.int .i64 x.n.kind,.string x.n.op,.float .f64 x.n.num,.slice x.kr.a x.kr.n x.kr.cap,.int .i64 x.n.pos]]
 pre x:=[af x.x.b [au x.x.la x.x.L.length x.x.lc,ad x.s.i,ad x.x.fin,au x.y.r.a x.y.r.n x.y.r.cap,ad x.s.bu,ad x.s.loops,ad x.s.bm] 43,x.y.r.A,eD x.s.nodes x.y.vs,x.kr.A]
 cond x:=x.y.ok x.s.nodes/\x.s.nodes.length<=4194304/\bz 3 1 (bB x.n.aB) x.kr
 b_ x r:=bz 35 5 (oP (x.s.nodes++[x.n]) (x.y.vs++[x.kr.v])) r
 val x _:=ay (ad x.s.nodes.length)
 post x r:=[af x.x.b [au x.x.la x.x.L.length x.x.lc,ad x.s.i,ad x.x.fin,au r.a r.n r.cap,ad x.s.bu,ad x.s.loops,ad x.s.bm] 43,r.A,eD (x.s.nodes++[x.n]) (x.y.vs++[x.kr.v])]
theorem acH{A B F:ah}{vs:List Value}{n:bP}{kr:Row}(hk:bz 3 1 (bB n.aB) kr):aE (bC [A,B,eD ns vs,kr.A,F]) (bC [A,B,eD (ns++[n]) (vs++[kr.v]),F]):=⟨fun I w h=>by
 obtain⟨J,b,a,d⟩:=h.adD 3 hk rfl;have c:=d.Cx (B:=eD (ns++[n]) (vs++[kr.v])) 2 fun h o(q:ym J ns vs)=>(SP (R:=fun(x:bP)v=>Ay J 1 v (bB x.aB)) a q:ym J (ns++[n]) (vs++[kr.v]));exact⟨J,b,c.pick [0,1,2,4] rfl rfl⟩⟩
def Eh(x:Li):List Value:=[ad x.n.kind,ai x.n.op,float f64 x.n.num,au x.kr.a x.kr.n x.kr.cap,ad x.n.pos]
theorem ag4(x:Li)(F:ah)(m:HI.cond x)(q:HI.aO x F):∀(d:Nat),true=true/\aw x.x.b 3/\cx d (∀(c:Nat),e_ Tryz.prog (a7 Tryz.f18 1 7) (dm (35:TypeId) 5 64)/\true=true/\∃(b:pu),[au x.y.r.a x.y.r.n x.y.r.cap,au (bI c) 1 1]=(k7 b)/\[x.y.r.A]=[b.r.A]/\(bz 35 5 b.cs b.r/\b.ys.length=b.m*5/\(∀(a:Value),a∈b.ys->a.oneCell'=true)/\(b.r.n+b.m)*64<=140737488355328/\b.r.n+b.m<=9223372036854775807/\(b.a=none->b.m=0/\b.c=0))/\(∀(a:Addr),b.a=some a->c_ (aH [(0,af x.x.b [au x.x.la x.x.L.length x.x.lc,ad ↑x.s.i,ad x.x.fin,au x.y.r.a x.y.r.n x.y.r.cap,ad x.s.bu,ad x.s.loops,ad x.s.bm] 43),(1,x.y.r.A),(2,dU (Kf.rest x.s.nodes x.y.vs)),(3,x.kr.A),(4,F),(1000,af d (Eh x) 35),(2060,af c (Eh x) 35)] [1]) a b.ys)/\∀(a:Row),(bz 35 5 (b.cs++b.ys) a/\a.n=b.r.n+b.m/\(b.m=0->a=b.r))->aw x.x.b 3/\aw x.x.b 3/\((-9223372036854775808:Int)<=(a.n:Int)-1/\(a.n:Int)-1<=(9223372036854775807:Int))/\ar HI x F (ay (ad ((a.n:Int)-1))) [(0,af x.x.b [au x.x.la x.x.L.length x.x.lc,ad ↑x.s.i,ad x.x.fin,au a.a a.n a.cap,ad x.s.bu,ad x.s.loops,ad x.s.bm] 43),(1,a.A),(2,dU (Kf.rest x.s.nodes x.y.vs)),(3,x.kr.A),(4,F),(1000,af d (Eh x) 35),(2060,af c (Eh x) 35)]):=by
 delta bI k7 Eh aH aw cx ad ai au af dU ay;obtain⟨⟨b,la,lc,L,fin⟩,s,y,n,kr⟩:=x;obtain⟨g,hn,hk⟩:=m;dsimp only at g hn hk⊢;have hl:=g.len;intro c;refine⟨rfl,al,al,al,al,al,al,fun p=>bs (jN 5 64 rfl rfl rfl rfl rfl rfl rfl (by decide)) ⟨y.r,oP s.nodes y.vs,some ⟨p,0,none⟩,1,1,yW n kr.v⟩ ⟨g.1,rfl,?_,a_,a_,fun h=>nomatch h⟩ (?_) fun r f=>?_⟩
 ·intro u i;simp only[yW,List.mem_cons,List.not_mem_nil,or_false]at i;rcases i with rfl|rfl|rfl|rfl|rfl <;> rfl
 ·intro a l;cases l;exact c_.rest (j:=2060) aL (c_.cells (fun j u o=>by rw[hU];exact o))
 ·obtain⟨f,k,_⟩:=f;dsimp only at f k;rw[<-Uw _ _ _ _ g.2]at f;have e:(r.n:Int)-1=(s.nodes.length:Int):=ae;refine⟨al,al,aK,r,f,by rw[e];rfl,aE.trans (aA [0,1,2,3,4]) (acH hk)⟩
theorem ag3:aD 18 HI:=fo 21 Tryz.func18 (fun _ _=>[(0,0,.n 1000),(1,4,aP 0),(1,5,.q (eG 1000)),(1,6,.n 2060),(1,7,.o (dm 35 5 64) [1] [1]),(1,10,.w [.z00 0]),(2,3,aP 0)]) [] aY aY bA [] ag4
structure FN where
 x:cj
 s:ap
 k:Int
def td:aR where
 X:=FN
 args x:=[ag (some ⟨x.x.b,0,none⟩),ad x.k]
 pre x:=[ak x.x x.s]
 cond x:=0<=x.k/\x.k<x.s.nodes.length
 val x _:=ay (ad (dz x.s x.k))
 post x _:=[ak x.x x.s]
theorem wk:aD 27 td:=TH.A3 fun q F I w c _ hs=>by
 obtain⟨y,b,a⟩:=HY (F:=F) hs;exact⟨⟨q.x,q.s,y,q.k⟩,I,a8.le_refl I,⟨b,c⟩,ao,rfl,a,fun _ _=>⟨(),ao,rfl,HZ b⟩⟩
structure AD where
 x:cj
 s:ap
 k:Int
 iB:Bool
def zs:aR where
 X:=AD
 Y:=Unit ⊕ Unit
 args x:=[ag (some ⟨x.x.b,0,none⟩),ad x.k,aj x.iB]
 pre x:=[ak x.x x.s]
 cond x:=0<=x.k/\x.k<x.s.nodes.length
 b_ x y:=match y with
  | .inl _=>ku x.s x.k x.iB=false
  | .inr _=>ku x.s x.k x.iB=true
 val x y:=match y with
  | .inl _=>.returned (.tuple #[])
  | .inr _=>.panicked [⟨iG (dz x.s x.k) 61,false,false⟩]
 post x y:=match y with
  | .inl _=>[ak x.x x.s]
  | .inr _=>[]
 sum:=some (ia Unit Unit)
theorem HU:aD 26 zs:=ah5.A3 fun q F I w d _ hs=>by
 obtain⟨y,c,b⟩:=HY (F:=F) hs;refine⟨⟨⟨q.x,q.s,y,q.k⟩,q.iB⟩,I,a8.le_refl I,⟨c,d⟩,ao,rfl,b,fun z a=>?_⟩
 match z,a with
 | .inl _,a=>exact⟨.inl (),a,rfl,HZ c⟩
 | .inr _,a=>exact⟨.inr (),a,rfl,aE.refl _⟩
structure oF where
 x:cj
 s:ap
 n:bP
 kr:Row
def fK:aR where
 X:=oF
 args x:=[.pointer (some ⟨x.x.b,0,none⟩),.agg #[.int .i64 x.n.kind,.string x.n.op,.float .f64 x.n.num,.slice x.kr.a x.kr.n x.kr.cap,.int .i64 x.n.pos]]
 pre x:=[ak x.x x.s,x.kr.A]
 cond x:=x.s.nodes.length<=4194304/\bz 3 1 (bB x.n.aB) x.kr
 val x _:=ay (ad x.s.nodes.length)
 post x _:=[ak x.x (x.s.add x.n)]
theorem fi:aD 18 fK:=ag3.A3 fun q F I w c _ hs=>by
 obtain⟨y,d,a⟩:=aiE (F:=F) hs;refine⟨⟨q.x,q.s,y,q.n,q.kr⟩,I,a8.le_refl I,⟨d,c.1,c.2⟩,ao,rfl,a,fun r e=>⟨(),ao,rfl,?_⟩⟩;have b:ew.ok ⟨r,y.vs++[q.kr.v]⟩ (q.s.nodes++[q.n]):=⟨e,by simp[d.2]⟩;exact HZ (x:=q.x) (s:={q.s with nodes:=q.s.nodes++[q.n]}) b
end
section
open Go
theorem ad7(L:List bh)(fin:Int)(s:ap):aC L fin s=co L fin s.i:=rfl
structure iK where
 x:cj
 s:ap
 t:ByteArray
def jh(x:iK):Option Addr:=some ⟨x.x.b,0,none⟩
def ig:aR where
 X:=iK
 Y:=Unit ⊕ Unit
 args x:=[ag (jh x),ai x.t]
 pre x:=[ak x.x x.s]
 cond x:=x.x.L.length<=1048576/\x.s.i<=x.x.L.length
 aO x F:=fP x.x F
 b_ x y:=match y with
  | .inl _=>bg x.x.L x.s 0 x.t=true
  | .inr _=>bg x.x.L x.s 0 x.t=false
 val x y:=match y with
  | .inl _=>.returned (.bool true)
  | .inr _=>.returned (.bool false)
 post x y:=match y with
  | .inl _=>[ak x.x x.s.ax]
  | .inr _=>[ak x.x x.s]
 eT _ _ _ hs h:=fP.sub hs h
 sum:=some (ia Unit Unit)
def p7(z:v6):List Value:=[ag (some ⟨z.p.b,0,none⟩),ad ↑z.a,ai z.t]
def p8(z:v6):=z.p.L.length<=1048576/\z.p.i<=1048576/\z.a<=1048576
def gA(aa:List Value)(rr:ah)(a:v6->Unit->Prop):=aD 29 gF/\true=true/\∃(z:v6),aa=(p7 z)/\([]:List ah)=[]/\p8 z/\iM z.p rr/\∀(b:Unit),True->a z b
def ky(x:iK)(F:ah):=[(0,ak x.x x.s),(1,F)]
def lN(z:sY)(w0:Value):List Value:=[au z.x.la z.x.L.length z.x.lc,ad ↑z.s.i,ad z.x.fin,w0,ad z.s.bu,ad z.s.loops,ad z.s.bm]
def lO(z:sY)(w0:Value):List Value:=[au z.x.la z.x.L.length z.x.lc,ad ↑z.t.i,ad z.x.fin,w0,ad z.t.bu,ad z.t.loops,ad z.t.bm]
def dS(b:Oper)(aa:List Value)(pp:List ah)(a:sY->Unit->Prop):=e_ Tryz.prog b fL/\true=true/\∃(z:sY),aa=[ag (some ⟨z.x.b,z.k,none⟩),z.v]/\pp=[ak z.x z.s]/\((∀(w0:Value),(lN z w0).set z.k z.v=(lO z w0))/\z.t.nodes=z.s.nodes/\z.k<7/\z.v.oneCell'=true/\z.v.cells=⟨[z.v]⟩)/\True/\∀(c:Unit),True->a z c
theorem adP(x:iK)(F:ah)(i:ig.cond x)(f:ig.aO x F):gA [ag (jh x),ad 0,ai x.t] (aH (ky x F) []) (fun e d=>Br (ii e.p.L (e.p.i+e.a) e.t) (T1 (ak x.x x.s) ⟨x.x.b,1,none⟩ (fun c=>dE c/\dS (a7 Tryz.f38 2 7) [ag (some ⟨x.x.b,1,none⟩),ad (c+1)] [ak x.x x.s] (fun b a=>ar ig x F gH [(0,ak b.x b.t),(1,F)]))) (ar ig x F cQ (ky x F))):=by
 delta p7 p8 gA jh ky T1 dE lN lO dS gH dk cQ aH ak ad ai aj ag au ay;obtain⟨x,s,t⟩:=x;obtain⟨g,hi⟩:=i;replace f:fP x F:=f;dsimp only at g hi⊢;refine bs jW ⟨x.p s,0,t⟩ ⟨g,by show s.i<=1048576;omega,a_⟩ (f.df 0 1 aL aL rfl rfl) fun _ _=>aG (fun h=>⟨_,el fun _=>rfl,aK,gw rfl rfl rfl,rfl,⟨x,s,s.ax,1,_⟩,rfl,rfl,⟨fun _=>rfl,rfl,a_,rfl,rfl⟩,ao,fun _ _=>⟨.inl (),h,rfl,aA [0,1]⟩⟩) (fun h=>⟨.inr (),h,rfl,aA [0,1]⟩)
theorem jT:aD 38 ig:=fo 15 Tryz.func38 (fun _ _=>[(1,2,aX gF),(2,3,dd),(2,7,d3 fL)]) [] aY aY bA [] adP
def ik:aR where
 X:=iK
 Y:=Unit ⊕ Unit
 args x:=[ag (jh x),ai x.t]
 pre x:=[ak x.x x.s]
 cond x:=x.x.L.length<=1048576/\x.s.i<=x.x.L.length
 aO x F:=fP x.x F
 b_ x y:=match y with
  | .inl _=>bg x.x.L x.s 0 x.t=true
  | .inr _=>bg x.x.L x.s 0 x.t=false
 val x y:=match y with
  | .inl _=>.returned (.tuple #[])
  | .inr _=>.panicked [⟨iG (aC x.x.L x.x.fin x.s).pos 60,false,false⟩]
 post x y:=match y with
  | .inl _=>[ak x.x x.s.ax]
  | .inr _=>[]
 eT _ _ _ hs h:=fP.sub hs h
 sum:=some (ia Unit Unit)
def fQ(aa:List Value)(pp:List ah)(rr:ah)(a:iK->Unit->Prop)(k1:iK->Unit->Prop):=aD 38 ig/\true=true/\∃(z:iK),aa=[ag (jh z),ai z.t]/\pp=[ak z.x z.s]/\(z.x.L.length<=1048576/\z.s.i<=z.x.L.length)/\fP z.x rr/\(∀(b:Unit),bg z.x.L z.s 0 z.t=true->a z b)/\∀(c:Unit),bg z.x.L z.s 0 z.t=false->k1 z c
def mU(d:iK)(F:ah):=[(0,ak d.x d.s.ax),(1,F)]
def kO(aa:List Value)(rr:ah)(a:cX->Unit->Prop):=aD 15 ly/\true=true/\∃(z:cX),aa=(im z)/\([]:List ah)=[]/\z.L.length<=1048576/\iM z rr/\∀(b:Unit),True->a z b
def jC(b:cX):=dT (co b.L b.fin b.i).pos 60
theorem agw(x:iK)(F:ah)(g:ik.cond x)(e:ik.aO x F):fQ [ag (jh x),ai x.t] [ak x.x x.s] (aH (ky x F) [0]) (fun d a=>ar ik x F eM (mU d F)) (fun d c=>kO [ag (jh x)] (aH (ky d F) []) (fun b a=>ar ik x F (jC b) (ky d F))):=by
 delta jh fQ ky eM mU im kO jC dT aH ak ai ag ay;obtain⟨x,s,t⟩:=x;obtain⟨f,hi⟩:=g;replace e:fP x F:=e;dsimp only at f hi⊢;refine bs jT ⟨x,s,t⟩ ⟨f,hi⟩ (e.sub (bU 1)) ⟨fun _ h=>⟨.inl (),h,rfl,aA [0,1]⟩,fun _ h=>bs pG (x.p s) f (e.df 0 1 aL aL rfl rfl) fun _ _=>⟨.inr (),h,rfl,aA [1]⟩⟩
theorem agv:aD 39 ik:=fo 10 Tryz.func39 (fun _ _=>[(0,2,bv ig),(1,1,aX ly)]) [] aY aY bA [] agw
structure jK where
 x:cj
 s:ap
def mR(x:jK):Option Addr:=some ⟨x.x.b,0,none⟩
def wu:aR where
 X:=jK
 args x:=[ag (mR x)]
 pre x:=[ak x.x x.s]
 cond x:=x.x.L.length<=1048576/\x.s.nodes.length<=4194304
 aO x F:=fP x.x F
 val x _:=ay (ad x.s.nodes.length)
 post x _:=[ak x.x (x.s.add ⟨36,.empty,0,[],(aC x.x.L x.x.fin x.s).pos⟩)]
 eT _ _ _ hs h:=fP.sub hs h
def mi(x:jK):List Value:=[ag (mR x)]
def kz(z:oF):List Value:=[ag (some ⟨z.x.b,0,none⟩),agg ⟨[ad z.n.kind,ai z.n.op,float f64 z.n.num,au z.kr.a z.kr.n z.kr.cap,ad z.n.pos]⟩]
def kC(z:oF):=z.s.nodes.length<=4194304/\bz 3 1 (bB z.n.aB) z.kr
def db(aa:List Value)(pp:List ah)(a:oF->Unit->Prop):=aD 18 fK/\true=true/\∃(z:oF),aa=(kz z)/\pp=[ak z.x z.s,z.kr.A]/\kC z/\True/\∀(b:Unit),True->a z b
def j5(b:oF):=ad ↑b.s.nodes.length
def fx(b:oF):=ay (j5 b)
theorem acD(x:jK)(F:ah)(g:wu.cond x)(e:wu.aO x F):fd (mi x) (aH [(0,ak x.x x.s),(1,F)] []) (fun d c=>db [ag (mR x),agg ⟨[ad 36,ai ⟨#[]⟩,float f64 0,au none 0 0,ad (co d.L d.fin d.i).pos]⟩] [ak x.x x.s,bc] (fun b a=>ar wu x F (fx b) [(0,ak b.x (b.s.add b.n)),(1,F),(999,bc)])):=by
 delta im fd mR mi kz kC db j5 fx aH ak ad ai ag au bc ay;obtain⟨x,s⟩:=x;obtain⟨f,hn⟩:=g;replace e:fP x F:=e;dsimp only at f hn⊢;refine bs kR (x.p s) f (e.df 0 1 aL aL rfl rfl) fun _ _=>bO fi ⟨x,s,⟨36,.empty,0,[],(aC x.L x.fin s).pos⟩,dL⟩ ⟨hn,.nil rfl⟩ fun _ _=>⟨(),ao,rfl,aA [0,1]⟩
theorem G2:aD 31 wu:=fo 9 Tryz.func31 (fun _ _=>[(1,2,aX iz),(1,5,.c fK [0,999] [0])]) [] aY aY bA [] acD
def uk:aR where
 X:=jK
 Y:=Unit ⊕ Unit
 args x:=[ag (mR x)]
 pre x:=[ak x.x x.s]
 cond x:=x.x.L.length<=1048576
 aO x F:=fP x.x F
 b_ x y:=match y with
  | .inl _=>(aC x.x.L x.x.fin x.s).kind=1
  | .inr _=>(aC x.x.L x.x.fin x.s).kind≠1
 val x y:=match y with
  | .inl _=>.returned (.string (aC x.x.L x.x.fin x.s).text)
  | .inr _=>.panicked [⟨iG (aC x.x.L x.x.fin x.s).pos 60,false,false⟩]
 post x y:=match y with
  | .inl _=>[ak x.x x.s.ax]
  | .inr _=>[]
 eT _ _ _ hs h:=fP.sub hs h
 sum:=some (ia Unit Unit)
theorem uR{L:List bh}{fin:Int}{s:ap}(h:(aC L fin s).kind≠0):s.i<L.length:=jc (fin:=fin) h
def q0(f:cX):List Value:=[ad (co f.L f.fin f.i).kind,ai (co f.L f.fin f.i).text,float f64 (co f.L f.fin f.i).num,ad (co f.L f.fin f.i).pos,aj (co f.L f.fin f.i).aI]
def ve(f:cX):=ai (co f.L f.fin f.i).text
theorem als(x:jK)(F:ah)(k:uk.cond x)(g:uk.aO x F):fd (mi x) (aH [(0,ak x.x x.s),(1,F)] []) (fun f e=>∀(d:Nat),cx d (aw d 0/\Br ((co f.L f.fin f.i).kind !=1) (kO (mi x) (aH [(0,ak x.x x.s),(1,F),(2020,af d (q0 f) 53)] []) (fun b a=>ar uk x F (jC b) [(0,ak x.x x.s),(1,F),(2020,af d (q0 f) 53)])) (T1 (ak x.x x.s) ⟨x.x.b,1,none⟩ (fun c=>dE c/\dS (a7 Tryz.f65 4 7) [ag (some ⟨x.x.b,1,none⟩),ad (c+1)] [ak x.x x.s] (fun b a=>aw d 1/\ar uk x F (ay (ve f)) [(0,ak b.x b.t),(1,F),(2020,af d (q0 f) 53)]))))):=by
 delta im fd mR mi kO q0 jC T1 dE lN lO dS ve dT aH ak aw cx ad ai aj ag au af ay;obtain⟨x,s⟩:=x;have j:x.L.length<=1048576:=k;replace g:fP x F:=g;dsimp only;refine bs kR (x.p s) j (g.df 0 1 aL aL rfl rfl) fun _ _ c=>⟨al,al,al,al,al,al,aG (fun h=>bs pG (x.p s) j (g.df 0 1 aL aL rfl rfl) fun _ _=>⟨.inr (),?_,rfl,aA [1]⟩) (fun h=>?_)⟩
 ·intro e;have e:(co x.L x.fin s.i).kind=1:=e;have h:((co x.L x.fin s.i).kind !=1)=true:=h;rw[e]at h;cases h
 ·have h:((aC x.L x.fin s).kind !=1)=false:=h;have i:(aC x.L x.fin s).kind=1:=by simpa using h
  have hi:=uR (L:=x.L) (fin:=x.fin) (s:=s) (by rw[i];decide);exact⟨_,el fun _=>rfl,aK,gw rfl rfl rfl,rfl,⟨x,s,s.ax,1,_⟩,rfl,rfl,⟨fun _=>rfl,rfl,a_,rfl,rfl⟩,ao,fun _ _=>⟨al,.inl (),i,rfl,aA [0,1]⟩⟩
theorem KY:aD 65 uk:=fo 20 Tryz.func65 (fun _ _=>[(1,1,aX iz),(1,2,.n 2020),(1,3,.w (eG 2020)),(2,1,aP 2020),(3,1,aX ly),(4,3,dd),(4,7,d3 fL),(5,1,aP 2020)]) [] aY aY bA [] als
def rk:aR where
 X:=jK
 Y:=ap ⊕ Int
 args x:=[ag (mR x)]
 pre x:=[ak x.x x.s]
 cond x:=x.x.L.length<=1048576/\x.s.i<=x.x.L.length
 aO x F:=fP x.x F
 b_ x y:=match y with
  | .inl u=>dQ x.x.L x.x.fin x.s= .ok () u
  | .inr p=>dQ x.x.L x.x.fin x.s= .stop p 60 x.s
 val x y:=match y with
  | .inl _=>.returned (.tuple #[])
  | .inr p=>.panicked [⟨iG p 60,false,false⟩]
 post x y:=match y with
  | .inl u=>[ak x.x u]
  | .inr _=>[]
 eT _ _ _ hs h:=fP.sub hs h
 sum:=some (ia ap Int)
theorem ajK(x:jK)(F:ah)(r:rk.cond x)(o:rk.aO x F):true=true/\fQ [ag (mR x),ai ⟨#[59]⟩] [ak x.x x.s] (aH [(0,ak x.x x.s),(1,F)] [0]) (fun l a=>ar rk x F eM (mU l F)) (fun l k=>gA [ag (mR x),ad 0,ai ⟨#[125]⟩] (aH (ky l F) []) (fun j i=>Br (ii j.p.L (j.p.i+j.a) j.t) (ar rk x F eM (ky l F)) (T1 (ak l.x l.s) ⟨x.x.b,1,none⟩ (fun h=>eA (ak l.x l.s) ⟨x.x.b,0,none⟩ (fun g f e=>aS (h>=f) (ar rk x F eM (ky l F)) (fd (mi x) (aH (ky l F) []) (fun d c=>Br (co d.L d.fin d.i).aI (ar rk x F eM (ky l F)) (aD 15 ly/\true=true/\∃(b:cX),(mi x)=(im b)/\([]:List ah)=[]/\b.L.length<=1048576/\iM b (aH (ky l F) [])/\∀(a:Unit),True->ar rk x F (jC b) (ky l F))))))))):=by
 delta jh fQ mR eM mU p7 p8 gA ky T1 eA im fd mi jC dT aH ak ad ai ag au aS ay;obtain⟨x,s⟩:=x;obtain⟨q,hi⟩:=r;replace o:fP x F:=o;dsimp only at q hi⊢;refine⟨rfl,jT,rfl,⟨x,s,cU⟩,rfl,rfl,⟨q,hi⟩,o.sub (bU 1),fun _ h=>⟨.inl s.ax,?_,rfl,aA [0,1]⟩,fun _ h=>bs jW ⟨x.p s,0,rc⟩ ⟨q,by show s.i<=1048576;omega,a_⟩ (o.df 0 1 aL aL rfl rfl) fun _ _=>aG (fun m=>⟨.inl s,?_,rfl,aA [0,1]⟩) (fun m=>⟨_,el fun _=>rfl,_,_,_,el fun _=>rfl,bo (fun p=>⟨.inl s,?_,rfl,aA [0,1]⟩) (fun p=>bs kR (x.p s) q (o.df 0 1 aL aL rfl rfl) fun _ _=>aG (fun n=>⟨.inl s,?_,rfl,aA [0,1]⟩) (fun n=>bs pG (x.p s) q (o.df 0 1 aL aL rfl rfl) fun _ _=>⟨.inr (aC x.L x.fin s).pos,?_,rfl,aA [1]⟩))⟩)⟩
 ·have h:bg x.L s 0 cU=true:=h;show dQ x.L x.fin s=_;unfold dQ;rw[h];rfl
 ·have h:bg x.L s 0 cU=false:=h;have m:bg x.L s 0 rc=true:=m;show dQ x.L x.fin s=_;unfold dQ;rw[h,m];rfl
 ·have h:bg x.L s 0 cU=false:=h;have p:(s.i:Int)>=x.L.length:=p;show dQ x.L x.fin s=_;unfold dQ;rw[h,bw (show s.i>=x.L.length by omega),Bool.true_or,mJ];rfl
 ·have h:bg x.L s 0 cU=false:=h;have n:(aC x.L x.fin s).aI=true:=n;show dQ x.L x.fin s=_;unfold dQ;rw[h,n,mJ,mJ];rfl
 ·have h:bg x.L s 0 cU=false:=h;have m:bg x.L s 0 rc=false:=m;have p:¬(s.i:Int)>=x.L.length:=p;have n:(aC x.L x.fin s).aI=false:=n;show dQ x.L x.fin s=_;unfold dQ;rw[h,m,n,bF (show ¬s.i>=x.L.length by omega)];rfl
theorem Sn:aD 33 rk:=fo 27 Tryz.func33 (fun _ _=>[(0,1,bv ig),(0,4,aX gF),(0,10,dd),(0,14,.q [.ex 0 .slice]),(0,20,aX iz),(1,1,aX ly)]) [] aY aY bA [] ajK
end
section
open Go
structure M0 where
 n:Nat
def DZ(K:bR):aR where
 X:=M0
 args x:=[float f64 x.n]
 aO _ F:=K.rd F
 val x _:=ay (ai (K.tv x.n))
 eT _ _ _ hs h:=K.mono h hs
structure iJ(F:ah):Prop where
 TG:∀i m,rY[i]?=some m->aQ F ⟨0,i,none⟩ (.string m)
 Vy:∀n row,pQ[n]?=some row->∃b o c,aQ F ⟨3,n,none⟩ (.slice (some ⟨b,o,none⟩) row.length c)/\c_ F ⟨b,o,none⟩ (row.map string)
variable{A B:ah}{fin:Int}{L:List bh}{tv:Nat->ByteArray}
theorem iJ.sub(h:iJ A)(hs:Sub A B):iJ B:=⟨fun i m e=>(h.TG i m e).sub hs,fun n row e=>let ⟨b,o,c,a,d⟩:=h.Vy n row e;⟨b,o,c,a.sub hs,d.sub hs⟩⟩
structure cB(K:bR)(x:cj)(F:ah):Prop where
 ls:fP x F
 gl:eQ K F
 gp:iJ F
theorem cB.sub{K:bR}{x:cj}(hs:Sub A B)(h:cB K x A):cB K x B:=⟨h.ls.sub hs,h.gl.sub hs,h.gp.sub hs⟩
structure PaK(K:bR)(x:cj):Prop where
 num:aD 122 (DZ K)
 KN:∀n,(K.tv n).size<=1048576
 len:x.L.length<=1048576
 KQ:∀(i:Nat)(d:bh),x.L[i]?=some d->d.text.size<=1048576
theorem PaK.cd{K:bR}{x:cj}(h:PaK K x)(s:ap):(aC x.L x.fin s).text.size<=1048576:=by
 unfold aC;cases e:x.L[s.i]? with
 |none=>exact dq _
 |some d=>exact h.KQ _ _ e
structure mD where
 K:bR
 x:cj
 s:ap
def tW(x:mD):Option Addr:=some ⟨x.x.b,0,none⟩
def y_:aR where
 X:=mD
 Y:=ap ⊕ Int
 args x:=[ag (tW x)]
 pre x:=[ak x.x x.s]
 cond x:=PaK x.K x.x/\x.s.nodes.length<=4194304
 aO x F:=cB x.K x.x F
 b_ x y:=match y with
  | .inl u=>d5 x.x.L x.x.fin x.K.tv bx x.s= .ok x.s.nodes.length u
  | .inr p=>d5 x.x.L x.x.fin x.K.tv bx x.s= .stop p 60 x.s
 val x y:=match y with
  | .inl _=>.returned (.int .i64 x.s.nodes.length)
  | .inr p=>.panicked [⟨iG p 60,false,false⟩]
 post x y:=match y with
  | .inl u=>[ak x.x u]
  | .inr _=>[]
 eT _ _ _ hs h:=cB.sub hs h
 sum:=some (ia ap Int)
theorem Vn{s:ap}(h:((aC L fin s).kind==1||(aC L fin s).kind==2)=true):d5 L fin tv bx s= .ok s.nodes.length {s with i:=s.i+1,nodes:=s.nodes++[⟨2,bx (aC L fin s).text,0,[],(aC L fin s).pos⟩]}:=by
 unfold d5;dsimp only;rw[h];rfl
theorem afr{s:ap}(h:((aC L fin s).kind==1||(aC L fin s).kind==2)=false)(a:((aC L fin s).kind==3)=true):d5 L fin tv bx s= .ok s.nodes.length {s with i:=s.i+1,nodes:=s.nodes++[⟨2,bx (tv (aC L fin s).num),0,[],(aC L fin s).pos⟩]}:=by
 unfold d5;dsimp only;rw[h,a];rfl
theorem aft{s:ap}(h:((aC L fin s).kind==1||(aC L fin s).kind==2)=false)(a:((aC L fin s).kind==3)=false)(b:((aC L fin s).kind==4)=true):d5 L fin tv bx s= .ok s.nodes.length {s with i:=s.i+1,nodes:=s.nodes++[⟨2,(aC L fin s).text,0,[],(aC L fin s).pos⟩]}:=by
 unfold d5;dsimp only;rw[h,a,b];rfl
theorem afq{s:ap}(h:((aC L fin s).kind==1||(aC L fin s).kind==2)=false)(a:((aC L fin s).kind==3)=false)(b:((aC L fin s).kind==4)=false):d5 L fin tv bx s= .stop (aC L fin s).pos 60 s:=by
 unfold d5;dsimp only;rw[h,a,b];rfl
theorem wz{s:ap}{k:Int}(h:((aC L fin s).kind==k)=true)(hk:k≠0):s.i<L.length:=jc (fin:=fin) (fun e=>by rw[e]at h;exact hk (by simp at h;exact h.symm))
structure C0 where
 op:ByteArray
 c:Nat
def Em(d:C0)(x:mD):List Value:=[ad 2,ai d.op,float f64 0,au none 0 0,ad (aC x.x.L x.x.fin x.s).pos]
def afo(x:mD)(F:ah):Nat->Option Inv:=fun
 |11=>some {X:=C0,P:=fun d=>x.s.i<x.x.L.length/\d5 x.x.L x.x.fin x.K.tv bx x.s= .ok x.s.nodes.length {x.s with i:=x.s.i+1,nodes:=x.s.nodes++[⟨2,d.op,0,[],(aC x.x.L x.x.fin x.s).pos⟩]},mu:=fun _=>0,lv:=fun d=>[(0,ag (tW x)),(4,ag (some ⟨d.c,0,none⟩))],st:=fun d=>[ak x.x x.s,F,af d.c (Em d x) 35]}
 |_=>none
def afp(x:mD)(a:ah):List (Nat×Nat×OH):=[(1,1,aX iz),(1,2,.n 2020),(1,3,.w (eG 2020)),(2,1,aP 2020),(2,3,aP 2020),(2,5,.n 3050),(2,6,.w (eG 3050)),(3,1,aP 2020),(7,1,aP 2020),(7,2,aX wC),(7,4,.w [.z00 3050]),(9,1,aP 2020),(9,2,aX (DZ x.K)),(9,3,aX wC),(9,5,.w [.z00 3050]),(4,1,aX ly),(11,3,dd),(11,7,d3 fL),(12,1,.q (eG 2)),(12,2,.c fK [0,999] [0])]
def E9(k:cX):=(co k.L k.fin k.i).kind==1
def Ju(k:cX):List Value:=[ad 2,ai (co k.L k.fin k.i).text,float f64 0,au none 0 0,ad (co k.L k.fin k.i).pos]
def zC(x:mD)(F:ah)(i:Nat)(k:cX)(h:Nat):=[(0,ak x.x x.s),(1,F),(2020,af i (q0 k) 53),(3050,af h (Ju k) 35)]
def Pb(e0:mD)(z:C0):=e0.s.i<e0.x.L.length/\d5 e0.x.L e0.x.fin e0.K.tv bx e0.s=PR.ok (e0.s.nodes.length:Int) (have a:=e0.s;⟨e0.s.i+1,e0.s.nodes++[⟨(2:Int),z.op,0,[],(aC e0.x.L e0.x.fin e0.s).pos⟩],a.bu,a.loops,a.bm⟩)
def Mf(e0:mD)(e1:ah)(v0:Value)(a:St):=∃(z:C0),Pb e0 z/\(ag (tW e0)=ag (tW e0)/\v0=ag (some ⟨z.c,0,none⟩)/\True)/\aE a [(0,ak e0.x e0.s),(1,e1),(2,af z.c (Em z e0) 35)]
def OS(h:Nat)(x:mD)(F:ah)(i:Nat)(k:cX):fe->Unit->Prop:=fun c b=>aw h 1/\Mf x F (cr h) [(0,ak x.x x.s),(1,F),(2020,af i (q0 k) 53),(3050,af h [ad 2,ai (bx c.s),float f64 0,au none 0 0,ad (co k.L k.fin k.i).pos] 35)]
def RU(i:Nat)(k:cX)(x:mD)(F:ah)(h:Nat):=aw i 1/\sZ 121 [ai (co k.L k.fin k.i).text] (aH (zC x F i k h) []) (OS h x F i k)
def Tf(e0:mD)(aa:List Value)(rr:ah)(a:M0->Unit->Prop):=aD 122 (DZ e0.K)/\true=true/\∃(z:M0),aa=[float f64 z.n]/\([]:List ah)=[]/\True/\e0.K.3 rr/\∀(b:Unit),True->a z b
def RY(k:cX)(i:Nat)(x:mD)(F:ah)(h:Nat):=Br ((co k.L k.fin k.i).kind==3) (aw i 2/\Tf x [float f64 (co k.L k.fin k.i).num] (aH (zC x F i k h) []) (fun e d=>sZ 121 [ai (x.K.tv e.n)] (aH (zC x F i k h) []) (OS h x F i k))) (Br ((co k.L k.fin k.i).kind==4) (Mf x F (cr h) (zC x F i k h)) (kO [ag (tW x)] (aH (zC x F i k h) []) (fun b a=>ar y_ x F (jC b) (zC x F i k h))))
theorem afu(x:mD)(F:ah)(u:y_.cond x)(o:y_.aO x F):fd [ag (tW x)] (aH [(0,ak x.x x.s),(1,F)] []) (fun k j=>∀(i:Nat),cx i (aw i 1/\aw i 3/\∀(h:Nat),cx h ((aw i 0/\Br (E9 k) (Br (E9 k) (RU i k x F h) (RY k i x F h)) (Br ((co k.L k.fin k.i).kind==2) (RU i k x F h) (RY k i x F h)))/\aT fun(g:C0)_=>Pb x g->T1 (ak x.x x.s) ⟨x.x.b,1,none⟩ (fun e=>dE e/\dS (a7 Tryz.f115 11 7) [ag (some ⟨x.x.b,1,none⟩),ad (e+1)] [ak x.x x.s] (fun d c=>cx g.c (db [ag (tW x),agg ⟨Em g x⟩] [ak d.x d.t,bc] (fun b a=>ar y_ x F (fx b) [(0,ak b.x (b.s.add b.n)),(1,F),(2,af g.c (Em g x) 35),(999,bc)]))))))):=by
 delta im fd tW E9 sZ q0 Ju zC Pb Em Mf bI cr OS RU Tf kO jC RY T1 dE lN lO dS kz kC db j5 fx dT aH ak aw cx ad ai aj ag au af bc ay aT;obtain⟨K,x,s⟩:=x;obtain⟨q,hn⟩:=u;replace o:cB K x F:=o;dsimp only at q hn⊢;have t:(aC x.L x.fin s).text.size<=1048576:=q.cd s;refine bs kR (x.p s) q.len (o.ls.df 0 1 aL aL rfl rfl) fun _ _ c=>?_
 repeat (refine⟨al,?_⟩)
 intro r
 repeat (refine⟨al,?_⟩)
 refine⟨?_,?_⟩
 ·skip
  refine⟨al,aG (fun f=>aby f ?_) (fun f=>aG (fun m=>?_) (fun m=>aG (fun l=>?_) (fun l=>aG (fun n=>?_) (fun n=>?_))))⟩
  ·replace f:((aC x.L x.fin s).kind==1)=true:=f;exact⟨al,SF,rfl,⟨(aC x.L x.fin s).text⟩,rfl,rfl,t,gj.rest (j:=1) aL o.gl.gl.pl,fun _ _=>⟨al,⟨bx (aC x.L x.fin s).text,r⟩,⟨wz f (by decide),Vn (by rw[f];rfl)⟩,aV,aA [0,1,3050]⟩⟩
  ·replace m:((aC x.L x.fin s).kind==2)=true:=m;exact⟨al,SF,rfl,⟨(aC x.L x.fin s).text⟩,rfl,rfl,t,gj.rest (j:=1) aL o.gl.gl.pl,fun _ _=>⟨al,⟨bx (aC x.L x.fin s).text,r⟩,⟨wz m (by decide),Vn (by rw[m,mJ])⟩,aV,aA [0,1,3050]⟩⟩
  all_goals
   replace f:((aC x.L x.fin s).kind==1)=false:=f;replace m:((aC x.L x.fin s).kind==2)=false:=m;have p:((aC x.L x.fin s).kind==1||(aC x.L x.fin s).kind==2)=false:=by rw[f,m];rfl
  ·replace l:((aC x.L x.fin s).kind==3)=true:=l;exact⟨al,q.num,rfl,⟨(aC x.L x.fin s).num⟩,rfl,rfl,ao,K.rest (j:=1) aL o.gl.rd,fun _ _=>bs SF ⟨K.tv (aC x.L x.fin s).num⟩ (q.KN _) (gj.rest (j:=1) aL o.gl.gl.pl) fun _ _=>⟨al,⟨bx (K.tv (aC x.L x.fin s).num),r⟩,⟨wz l (by decide),afr p l⟩,aV,aA [0,1,3050]⟩⟩
  all_goals replace l:((aC x.L x.fin s).kind==3)=false:=l
  ·replace n:((aC x.L x.fin s).kind==4)=true:=n;exact⟨⟨(aC x.L x.fin s).text,r⟩,⟨wz n (by decide),aft p l n⟩,aV,aA [0,1,3050]⟩
  ·replace n:((aC x.L x.fin s).kind==4)=false:=n;exact bs pG (x.p s) q.len (o.ls.df 0 1 aL aL rfl rfl) fun _ _=>⟨.inr (aC x.L x.fin s).pos,afq p l n,rfl,aA [1]⟩
 ·rintro⟨op,c⟩ v ⟨hi,hk⟩;dsimp only at hk⊢;have hl:=q.len;refine⟨_,el fun _=>rfl,aK,gw rfl rfl rfl,rfl,⟨x,s,s.ax,1,_⟩,rfl,rfl,⟨fun _=>rfl,rfl,a_,rfl,rfl⟩,ao,fun _ _=>?_⟩;exact⟨al,al,al,al,al,fi,rfl,⟨x,s.ax,⟨2,op,0,[],(aC x.L x.fin s).pos⟩,dL⟩,rfl,rfl,⟨hn,.nil rfl⟩,ao,fun _ _=>⟨.inl _,hk,rfl,aA [0,1]⟩⟩
theorem afs:aD 115 y_:=fo 42 Tryz.func115 afp [] aY afo bA [] afu
end
section
open Go
structure wg where
 tb:Nat->Nat
 n:Nat
def ui:aR where
 X:=wg
 args x:=[float f64 x.n]
 cond x:=nT x.tb/\cG .lss x.n 0=false
 aO x F:=lm x.tb F
 val x _:=ay (ai (pj x.tb x.n))
def xX:aR where
 X:=wg
 args x:=[float f64 x.n]
 cond x:=nT x.tb
 aO x F:=lm x.tb F
 val x _:=ay (ai (nI x.tb x.n))
def Xx(C:aR):List (Nat×Nat×OH):=[(1,2,.qo (nj .neq)),(3,1,.qo (nj .eql)),(5,1,.qo (nj .lss)),(6,1,.qo Bb),(6,2,.c C [] []),(7,1,.c N2 [] []),(9,1,.c NE [] []),(9,2,.c No [] []),(10,1,.c M7 [] []),(11,1,.c Sb [] []),(11,4,.c Oc [] [])]
def akz(b:wg)(a:ah):List (Nat×Nat×OH):=Xx Bw
def akA(b:wg)(a:ah):List (Nat×Nat×OH):=Xx ui
theorem Xw{tb:Nat->Nat}(d:nT tb){n:Nat}(h:cG .lss n 0=false):(pj tb n).size<=4000:=by
 unfold pj;cases a:cG .neq n n with
 |true=>show(ByteArray.mk #[78,97,78]).size<=4000;decide
 |false=>
  rw[aN];cases b:cG .eql n 0 with
  |true=>show(ByteArray.mk #[48]).size<=4000;decide
  |false=>
   rw[aN];cases c:pP n with
   |true=>show(ByteArray.mk #[73,110,102,105,110,105,116,121]).size<=4000;decide
   |false=>
    rw[aN];exact Xy d (Hb a b h c)
theorem akB{tb:Nat->Nat}(b:nT tb)(n:Nat):(nI tb n).size<=4001:=by
 unfold nI;cases c:cG .neq n n with
 |true=>show(ByteArray.mk #[78,97,78]).size<=4001;decide
 |false=>
  rw[aN];cases d:cG .eql n 0 with
  |true=>show(ByteArray.mk #[48]).size<=4001;decide
  |false=>
   rw[aN];cases a:cG .lss n 0 with
   |true=>
    rw[aU,kQ];have:=Xw b (V1 a);show 1+_<=4001;omega
   |false=>
    rw[aN];cases e:pP n with
    |true=>show(ByteArray.mk #[73,110,102,105,110,105,116,121]).size<=4001;decide
    |false=>
     rw[aN];have:=Xy b (Hb c d a e);omega
def yx(b:Oper)(aa:List Value)(a:Nat×Nat->Prop):=dR Tryz.prog b (nj BinOp.neq)/\∃(z:Nat×Nat),aa=(qV z)/\True/\a z
def Ck(x:wg):List Value:=[float f64 x.n,float f64 0]
def Gg(aa:List Value)(b:CW->Bool->Prop):=aD 137 N2/\true=true/\∃(z:CW),aa=[float f64 z.f,ad 1]/\([]:List ah)=[]/\True/\True/\∀(a:Bool),a=pP z.f->b z a
def JR:=ay (ai ⟨#[73,110,102,105,110,105,116,121]⟩)
def Gh(aa:List Value)(rr:ah)(b:vY->ByteArray->Prop):=aD 139 NE/\true=true/\∃(z:vY),aa=(B9 z)/\([]:List ah)=[]/\(nT z.tb/\oE z.n)/\lm z.tb rr/\∀(a:ByteArray),a=oR z.tb z.n->b z a
def Gi(aa:List Value)(rr:ah)(b:FO->K9->Prop):=aD 138 No/\true=true/\∃(z:FO),aa=[ai z.s,ai z.t]/\([]:List ah)=[]/\z.s.size<4294967281/\i7 rr/\∀(a:K9),a=⟨⟨(r9 z.s z.t).fst.toArray⟩,⟨(r9 z.s z.t).snd.fst.toArray⟩,(r9 z.s z.t).snd.snd⟩->b z a
def Gj(aa:List Value)(b:bL->Int->Prop):=aD 140 M7/\true=true/\∃(z:bL),aa=[ai z.s]/\([]:List ah)=[]/\uv z.s/\True/\∀(a:Int),a=lX z.s->b z a
def Gk(aa:List Value)(rr:ah)(b:C8->ByteArray->Prop):=aD 142 Sb/\true=true/\∃(z:C8),aa=[ai z.s,ai z.t,ai z.u,ad z.n]/\([]:List ah)=[]/\(z.s.size<4294967281/\1<=z.t.size/\z.s.size+Lib.countB z.s z.t*z.u.size<=140737488355328)/\i7 rr/\∀(a:ByteArray),a=⟨(Fg z).toArray⟩->b z a
def Gm(aa:List Value)(rr:ah)(b:rM->ByteArray->Prop):=aD 141 Oc/\true=true/\∃(z:rM),aa=[ai z.ds,ad z.n]/\([]:List ah)=[]/\(1<=z.ds.size/\z.ds.size<=1000/\(-1000:Int)<=z.n/\z.n<=1000)/\i7 rr/\∀(a:ByteArray),a=jY z.ds z.n->b z a
theorem akF(x:wg)(F:ah)(J:ui.cond x)(t:ui.aO x F):yx (a7 Tryz.f122 1 2) [float f64 x.n,float f64 x.n] (fun o=>Br (cG BinOp.neq o.fst o.snd) (ar ui x F (ay (ai ⟨#[78,97,78]⟩)) [(0,F)]) (yw (a7 Tryz.f122 3 1) (Ck x) (fun n=>Br (cG BinOp.eql n.fst n.snd) (ar ui x F Cj [(0,F)]) (AS (a7 Tryz.f122 5 1) (Ck x) (fun m=>Br (cG BinOp.lss m.fst m.snd) (AR ⟨some 19,Op.unOp UnOp.neg 32 (Operand.tmp 18),32,"esnum.go:41",⟨[⟨0,Ground.data⟩]⟩,none⟩ [float f64 x.n] (fun c=>Dc 122 [float f64 (Op.negFloat f64 c)] (fun b a=>ar ui x F (panicked []) [(0,F)]))) (Gg [float f64 x.n,ad 1] (fun l k=>Br k (ar ui x F JR [(0,F)]) (Gh [float f64 x.n,ba 101,ad (-1),ad 64] (cP F) (fun j i=>Gi [ai i,ai ⟨#[101]⟩] (cP F) (fun h g=>Gj [ai g.x] (fun f e=>Gk [ai g.m,ai ⟨#[46]⟩,ai ⟨#[]⟩,ad 1] (cP F) (fun d c=>dE e/\Gm [ai c,ad (e+1)] (cP F) (fun b a=>ar ui x F (ay (ai a)) [(0,F)]))))))))))))):=by
 delta qV yx yw Ck Cj AS AR Dc Gg JR B9 Gh cP Gi Gj Gk dE Gm aH ad ba ai ay;obtain⟨tb,n⟩:=x;obtain⟨C,hl⟩:=J;replace t:lm tb F:=t;dsimp only at C hl⊢;refine⟨nZ (.inr (.inr (.inr rfl))) rfl,(n,n),rfl,ao,aG (fun r=>⟨(),ao,?_,aA [0]⟩) (fun r=>⟨nZ (.inl rfl) rfl,(n,0),rfl,ao,aG (fun u=>⟨(),ao,?_,aA [0]⟩) (fun u=>⟨nZ (.inr (.inl rfl)) rfl,(n,0),rfl,ao,aG (fun A=>?_) (fun A=>l6 Vd ⟨n⟩ fun q s=>aG (fun B=>⟨(),ao,?_,aA [0]⟩) (fun B=>?_))⟩)⟩)⟩
 ·show returned (.string _)=returned (.string (pj tb n));unfold pj;rw[show cG .neq n n=true from r];rfl
 ·show returned (.string _)=returned (.string (pj tb n));unfold pj;rw[show cG .neq n n=false from r,show cG .eql n 0=true from u];rfl
 ·rw[show cG .lss n 0=true from A]at hl;cases hl
 ·show returned (.string _)=returned (.string (pj tb n));unfold pj;rw[show cG .neq n n=false from r,show cG .eql n 0=false from u,<-show q=pP n from s,B];rfl
 replace s:q=pP n:=s;rw[B]at s;have H:oE n:=Hb r u A s.symm;have p:=Sx C H;refine bs UM ⟨tb,n⟩ ⟨C,H⟩ (by exact t.sub (bU 0)) fun y w=>bs Uf ⟨y,⟨#[101]⟩⟩ (?_) (by exact t.tx.sub (bU 0)) fun z I=>?_
 ·rw[show y=oR tb n from w];have:=p.fs;show(oR tb n).size<_;omega
 replace w:y=oR tb n:=w;subst w;have E:z.m=rB tb n:=by rw[show z=_ from I];rfl
 have G:z.x=nJ tb n:=by rw[show z=_ from I];rfl
 rw[E,G];refine bO TE ⟨nJ tb n⟩ p.xo fun e D=>bs WN ⟨rB tb n,⟨#[46]⟩,⟨#[]⟩,1⟩ ⟨?_,bZ 1,?_⟩ (by exact t.tx.sub (bU 0)) fun d hd=>?_
 ·have:=p.ms;show(rB tb n).size<_;omega
 ·have:=p.ms;show(rB tb n).size+_*0<=_;omega
 replace D:e=lX (nJ tb n):=D;replace hd:d=vN tb n:=hd;subst D hd;have b1:=p.dl;have b2:=p.dh;have b3:=p.xl;refine⟨aK,VF,rfl,⟨vN tb n,lX (nJ tb n)+1⟩,rfl,rfl,⟨b1,b2,a_,a_⟩,by exact t.tx.sub (bU 0),fun v K=>⟨(),ao,?_,aA [0]⟩⟩;rw[show v=FE tb n from K];show returned (.string _)=returned (.string (pj tb n));unfold pj;rw[show cG .neq n n=false from r,show cG .eql n 0=false from u,<-s];rfl
theorem akE:aD 122 ui:=fo 42 Tryz.func122 akz [] aY aY bA [] akF
theorem akD(x:wg)(F:ah)(D:xX.cond x)(s:xX.aO x F):yx (a7 Tryz.f122 1 2) [float f64 x.n,float f64 x.n] (fun o=>Br (cG BinOp.neq o.fst o.snd) (ar xX x F (ay (ai ⟨#[78,97,78]⟩)) [(0,F)]) (yw (a7 Tryz.f122 3 1) (Ck x) (fun n=>Br (cG BinOp.eql n.fst n.snd) (ar xX x F Cj [(0,F)]) (AS (a7 Tryz.f122 5 1) (Ck x) (fun m=>Br (cG BinOp.lss m.fst m.snd) (AR ⟨some 19,Op.unOp UnOp.neg 32 (Operand.tmp 18),32,"esnum.go:41",⟨[⟨0,Ground.data⟩]⟩,none⟩ [float f64 x.n] (fun c=>aD 122 ui/\true=true/\∃(b:wg),[float f64 (Op.negFloat f64 c)]=[float f64 b.n]/\([]:List ah)=[]/\(nT b.tb/\cG BinOp.lss b.n 0=false)/\lm b.tb (cP F)/\∀(a:Unit),True->1+(pj b.tb b.n).size<=9223372036854775807/\ar xX x F (ay (ai ((ByteArray.mk #[45])++pj b.tb b.n))) [(0,F)])) (Gg [float f64 x.n,ad 1] (fun l k=>Br k (ar xX x F JR [(0,F)]) (Gh [float f64 x.n,ba 101,ad (-1),ad 64] (cP F) (fun j i=>Gi [ai i,ai ⟨#[101]⟩] (cP F) (fun h g=>Gj [ai g.x] (fun f e=>Gk [ai g.m,ai ⟨#[46]⟩,ai ⟨#[]⟩,ad 1] (cP F) (fun d c=>dE e/\Gm [ai c,ad (e+1)] (cP F) (fun b a=>ar xX x F (ay (ai a)) [(0,F)]))))))))))))):=by
 delta qV yx yw Ck Cj AS AR cP Gg JR B9 Gh Gi Gj Gk dE Gm aH ad ba ai ay;obtain⟨tb,n⟩:=x;replace D:nT tb:=D;have A:=D;replace s:lm tb F:=s;dsimp only;refine⟨nZ (.inr (.inr (.inr rfl))) rfl,(n,n),rfl,ao,aG (fun p=>⟨(),ao,?_,aA [0]⟩) (fun p=>⟨nZ (.inl rfl) rfl,(n,0),rfl,ao,aG (fun t=>⟨(),ao,?_,aA [0]⟩) (fun t=>⟨nZ (.inr (.inl rfl)) rfl,(n,0),rfl,ao,aG (fun u=>?_) (fun u=>l6 Vd ⟨n⟩ fun q w=>aG (fun C=>⟨(),ao,?_,aA [0]⟩) (fun C=>?_))⟩)⟩)⟩
 ·show returned (.string _)=returned (.string (nI tb n));unfold nI;rw[show cG .neq n n=true from p];rfl
 ·show returned (.string _)=returned (.string (nI tb n));unfold nI;rw[show cG .neq n n=false from p,show cG .eql n 0=true from t];rfl
 ·have hn:cG .lss (Op.negFloat .f64 n) 0=false:=V1 u;have hs:=Xw A hn;refine⟨UQ rfl,n,rfl,ao,akE,rfl,⟨tb,Op.negFloat .f64 n⟩,rfl,rfl,⟨A,hn⟩,by exact s.sub (bU 0),fun _ _=>⟨a_,(),ao,?_,aA [0]⟩⟩;show returned (.string _)=returned (.string (nI tb n));unfold nI;rw[show cG .neq n n=false from p,show cG .eql n 0=false from t,show cG .lss n 0=true from u];rfl
 ·show returned (.string _)=returned (.string (nI tb n));unfold nI;rw[show cG .neq n n=false from p,show cG .eql n 0=false from t,show cG .lss n 0=false from u,<-show q=pP n from w,C];rfl
 replace w:q=pP n:=w;rw[C]at w;have I:oE n:=Hb p t u w.symm;have r:=Sx A I;refine bs UM ⟨tb,n⟩ ⟨A,I⟩ (by exact s.sub (bU 0)) fun y B=>bs Uf ⟨y,⟨#[101]⟩⟩ (?_) (by exact s.tx.sub (bU 0)) fun z J=>?_
 ·rw[show y=oR tb n from B];have:=r.fs;show(oR tb n).size<_;omega
 replace B:y=oR tb n:=B;subst B;have G:z.m=rB tb n:=by rw[show z=_ from J];rfl
 have H:z.x=nJ tb n:=by rw[show z=_ from J];rfl
 rw[G,H];refine bO TE ⟨nJ tb n⟩ r.xo fun e E=>bs WN ⟨rB tb n,⟨#[46]⟩,⟨#[]⟩,1⟩ ⟨?_,bZ 1,?_⟩ (by exact s.tx.sub (bU 0)) fun d hd=>?_
 ·have:=r.ms;show(rB tb n).size<_;omega
 ·have:=r.ms;show(rB tb n).size+_*0<=_;omega
 replace E:e=lX (nJ tb n):=E;replace hd:d=vN tb n:=hd;subst E hd;have b1:=r.dl;have b2:=r.dh;have b3:=r.xl;refine⟨aK,VF,rfl,⟨vN tb n,lX (nJ tb n)+1⟩,rfl,rfl,⟨b1,b2,a_,a_⟩,by exact s.tx.sub (bU 0),fun v K=>⟨(),ao,?_,aA [0]⟩⟩;rw[show v=FE tb n from K];show returned (.string _)=returned (.string (nI tb n));unfold nI;rw[show cG .neq n n=false from p,show cG .eql n 0=false from t,show cG .lss n 0=false from u,<-w];rfl
theorem akC:aD 122 xX:=fo 42 Tryz.func122 akA [] aY aY bA [] akD
theorem akL{K:bR}{tb:Nat->Nat}(a:nT tb)(c:K.tv=nI tb)(b:∀F,K.rd F->lm tb F):aD 122 (DZ K):=akC.view (fun x=>⟨tb,x.n⟩) (fun _=>rfl) (fun _=>rfl) (fun _ _=>a) (fun x F _ h=>b F h) (fun x _ _ _=>⟨(),ao,by show returned (.string (nI tb x.n))=returned (.string (K.tv x.n));rw[c],rfl⟩)
end
section
open Go Go.RowKit
def Vt:List (String×DataW Unit):=Rows.parseShapeRow.laid
noncomputable def n6(g:Nat):TypeId:=((Tryz.prog.globals[g]?).map (·.type)).getD 0
variable{g:Nat}{t:TypeId}
theorem mL(h:((Tryz.prog.globals[g]?).map (·.type)).isSome=true):(Tryz.prog.globals[g]?).map (·.type)=some (n6 g):=by
 unfold n6;cases e:(Tryz.prog.globals[g]?).map (·.type)with
 |none=>rw[e]at h;cases h
 |some t=>rfl
set_option maxRecDepth 100000
theorem ac4:jo Tryz.prog 2 (n6 2) Rows.laid_pennant_eslex_marks=some (fh.map string):=bl
theorem ac2:jo Tryz.prog 2 (n6 0) Rows.laid_pennant_esparse_assigns=some (rY.map string):=bl
theorem ac3:jo Tryz.prog 2 (n6 5) Rows.laid_unicode_utf8_first=some ((List.range 256).map fun c=>int .u8 (Lib.firstT c)):=bl
theorem UC:jo Tryz.prog 3 (n6 6) Rows.laid_unicode_utf8_acceptRanges=some ((List.range 32).map fun i=>int .u8 (bif i%2==0 then Lib.accLo (i/2) else Lib.accHi (i/2))):=bl
theorem NB:jo Tryz.prog 2 (n6 11) Rows.laid_internal_strconv_float64info=some [.int .u64 52,.int .u64 11,.int .i64 (-1023)]:=bl
theorem ac5:jo Tryz.prog 2 (n6 10) Rows.laid_internal_strconv_optimize=some [.bool true]:=bl
theorem ac7:jo Tryz.prog 2 (n6 17) Rows.laid_internal_strconv_uint64pow10=some OB:=bl
theorem ac6:jo Tryz.prog 3 (n6 15) Rows.laid_internal_strconv_pow10Tab=some ((List.range 1392).map fun i=>int .u64 (ug i)):=bl
def UR:List (DataW Unit):=Ha.map fun b=>.lit (.float .f64 b)
def Wz:List (DataW Unit):=H0.map fun z=>.lit (.int .i64 (z:Nat))
def N6:List (DataW Unit):=Pinned.cheatRows.map fun x=>.agg [.lit (.int .i64 x.1),.lit (.string x.2)]
theorem acc:(Rows.laid_internal_strconv_float64pow10:DataW Unit)= .slice UR []:=bl
theorem ace:(Rows.laid_internal_strconv_powtab:DataW Unit)= .slice Wz []:=bl
theorem acd:(Rows.laid_internal_strconv_leftcheats:DataW Unit)= .slice N6 []:=rfl
theorem Ko{α:Type}{f:Nat->α}{n i:Nat}(h:i<n):((List.range n).map f)[i]?=some (f i):=by
 rw[fV,List.getElem?_range h];rfl
theorem XH(u:TypeId)(e:Tryz.prog.typeName? 3 u=some "*errors.errorString"):u=164:=
 typeName_ptr_named (nm:= "errors.errorString") bl bl (by decide) u e
section
variable{W:World}(h:laidMet Tryz.prog Vt W)
include h
theorem ala:gj (gm W):=by
 have b:=qL h 17 (n:= "unicode/utf8.first") (d:=Rows.laid_unicode_utf8_first) rfl;have a:=qL h 9 (n:= "unicode/utf8.acceptRanges") (d:=Rows.laid_unicode_utf8_acceptRanges) rfl;refine⟨fun c e=>b.look bl (mL bl) 2 ac3 c (Ko e),fun i hi=>a.look bl (mL bl) 3 UC (2*i) ?_,fun i hi=>a.look bl (mL bl) 3 UC (2*i+1) ?_⟩
 ·rw[Ko ae,show(2*i%2==0)=true by rw[beq_iff_eq];omega,show 2*i/2=i by omega];rfl
 ·rw[Ko ae,show((2*i+1)%2==0)=false by rw[ff];omega,show(2*i+1)/2=i by omega];rfl
theorem ak7:∀i m,fh[i]?=some m->aQ (gm W) ⟨2,i,none⟩ (.string m):=fun i m b=>by
 have a:=qL h 12 (n:= "pennant/eslex.marks") (d:=Rows.laid_pennant_eslex_marks) rfl;exact a.look bl (mL bl) 2 ac4 i (by rw[fV,b];rfl)
theorem ak1:∀i m,rY[i]?=some m->aQ (gm W) ⟨0,i,none⟩ (.string m):=fun i m b=>by
 have a:=qL h 14 (n:= "pennant/esparse.assigns") (d:=Rows.laid_pennant_esparse_assigns) rfl;exact a.look bl (mL bl) 2 ac2 i (by rw[fV,b];rfl)
theorem ak9:yC (gm W) 17 OB:=by
 have a:=qL h 8 (n:= "internal/strconv.uint64pow10") (d:=Rows.laid_internal_strconv_uint64pow10) rfl;obtain⟨t,fr,e⟩:=a.flat bl (mL bl) 2 ac7;exact⟨fun I g o c b=>⟨t,fr,c _ _ ((show a8.le (hp W) I from b) _ _ e)⟩⟩
theorem XI:∀i,i<1392->aQ (gm W) ⟨15,i,none⟩ (.int .u64 (ug i)):=fun i hi=>by
 have a:=qL h 16 (n:= "internal/strconv.pow10Tab") (d:=Rows.laid_internal_strconv_pow10Tab) rfl;exact a.look bl (mL bl) 3 ac6 i (Ko hi)
theorem ak4:aQ (gm W) ⟨11,0,none⟩ (.int .u64 52)/\aQ (gm W) ⟨11,1,none⟩ (.int .u64 11)/\aQ (gm W) ⟨11,2,none⟩ (.int .i64 (-1023)):=by
 have a:=qL h 3 (n:= "internal/strconv.float64info") (d:=Rows.laid_internal_strconv_float64info) rfl;exact⟨a.look bl (mL bl) 2 NB 0 rfl,a.look bl (mL bl) 2 NB 1 rfl,a.look bl (mL bl) 2 NB 2 rfl⟩
theorem ak8:aQ (gm W) ⟨10,0,none⟩ (.bool true):=by
 have a:=qL h 4 (n:= "internal/strconv.optimize") (d:=Rows.laid_internal_strconv_optimize) rfl;exact a.look bl (mL bl) 2 ac5 0 rfl
theorem ak3:∃b o c,aQ (gm W) ⟨14,0,none⟩ (.slice (some ⟨b,o,none⟩) 23 c)/\∀i,i<23->aQ (gm W) ⟨b,o+i,none⟩ (.float .f64 (mK i)):=by
 have a:=qL h 6 (n:= "internal/strconv.float64pow10") (d:=Rows.laid_internal_strconv_float64pow10) rfl;rw[acc]at a;obtain⟨b,o,c,e1,f⟩:=a.Sq bl (mL bl) (e:=32) bl 0 ⟨.lit (.float .f64 4607182418800017408),.float .f64 4607182418800017408,[],rfl,bl⟩;refine⟨b,o,c,e1,fun i hi=>?_⟩;have hl:Ha[i]?=some (mK i):=by
  unfold mK;rw[ft];have:i<Ha.length:=hi;rw[fg this];rfl
 have:=f i (.lit (.float .f64 (mK i))) [.float .f64 (mK i)] (by unfold UR;rw[fV,hl];rfl) (by unfold jo sK;rw[show Tryz.prog.underlying 32=some (.float .f64) by kernel_rfl];rfl) 0 _ rfl;rw[show Tryz.prog.cellsOf 32=1 by kernel_rfl,Nat.mul_one,Nat.add_zero]at this;exact this
theorem ak_:∃b o c,aQ (gm W) ⟨13,0,none⟩ (.slice (some ⟨b,o,none⟩) 9 c)/\∀i,i<9->aQ (gm W) ⟨b,o+i,none⟩ (.int .i64 (pX i)):=by
 have a:=qL h 5 (n:= "internal/strconv.powtab") (d:=Rows.laid_internal_strconv_powtab) rfl;rw[ace]at a;obtain⟨b,o,c,e1,f⟩:=a.Sq bl (mL bl) (e:=3) bl 0 ⟨.lit (.int .i64 1),.int .i64 1,[],rfl,bl⟩;refine⟨b,o,c,e1,fun i hi=>?_⟩;have hl:H0[i]?=some (pX i):=by
  unfold pX;rw[ft];have:i<H0.length:=hi;rw[fg this];rfl
 have:=f i (.lit (.int .i64 (pX i))) [.int .i64 (pX i)] (by unfold Wz;rw[fV,hl];rfl) (by unfold jo sK;rw[show Tryz.prog.underlying 3=some (.int .i64) by kernel_rfl];rfl) 0 _ rfl;rw[show Tryz.prog.cellsOf 3=1 by kernel_rfl,Nat.mul_one,Nat.add_zero]at this;exact this
theorem ak5:∃b o c,aQ (gm W) ⟨16,0,none⟩ (.slice (some ⟨b,o,none⟩) 61 c)/\∀i,i<61->aQ (gm W) ⟨b,o+i*2,none⟩ (.int .i64 (ju i).1)/\aQ (gm W) ⟨b,o+i*2+1,none⟩ (.string (ju i).2):=by
 have g:=qL h 15 (n:= "internal/strconv.leftcheats") (d:=Rows.laid_internal_strconv_leftcheats) rfl;rw[acd]at g;obtain⟨b,o,c,e1,k⟩:=g.Sq bl (mL bl) (e:=210) bl 1 ⟨.agg [.lit (.int .i64 0),.lit (.string [])],.int .i64 0,[.string ⟨#[]⟩],rfl,bl⟩;have hn:N6.length=61:=bl;rw[hn]at e1;refine⟨b,o,c,e1,fun i hi=>?_⟩;have f:i<Pinned.cheatRows.length:=by
  have:Pinned.cheatRows.length=61:=bl;omega
 have hl:Pinned.cheatRows[i]?=some ((ju i).1,(ju i).2.data.toList):=by
  unfold ju;rw[ft,fg f];simp
 have l:jo Tryz.prog 1 210 (.agg [.lit (.int .i64 (ju i).1),.lit (.string (ju i).2.data.toList)])=some [.int .i64 (ju i).1,.string ⟨(ju i).2.data.toList.toArray⟩]:=by
  kernel_rfl
 have a:=k i _ _ (by unfold N6;rw[fV,hl];rfl) l;rw[show Tryz.prog.cellsOf 210=2 by kernel_rfl]at a;have j:=a 1 _ rfl;rw[<-Nat.add_assoc,Array.toArray_toList]at j;exact⟨a 0 _ rfl,j⟩
def VN:List (List (DataW Unit)):=pQ.map fun r=>r.map fun m=>.lit (.string m.data.toList)
theorem ak6:∀n row,pQ[n]?=some row->∃b o c,aQ (gm W) ⟨3,n,none⟩ (.slice (some ⟨b,o,none⟩) row.length c)/\c_ (gm W) ⟨b,o,none⟩ (row.map string):=by
 have f:=qL h 13 (n:= "pennant/esparse.levels") (d:=Rows.laid_pennant_esparse_levels) rfl;rw[show(Rows.laid_pennant_esparse_levels:DataW Unit)= .agg (VN.map fun ds=>.slice ds []) by kernel_rfl]at f;intro n row hn;have i:∀m:ByteArray,sK Tryz.prog 9 (.lit (.string m.data.toList))=some (.string m):=fun m=>by
  unfold sK;rw[show Tryz.prog.underlying 9=some .string by kernel_rfl]
 have a:∃m r,row=m::r:=by
  have:(pQ.all fun r=> !r.isEmpty)=true:=by decide
  have:=List.all_eq_true.1 this row (nk hn);cases row with
  |nil=>cases this
  |cons m r=>exact⟨m,r,rfl⟩
 obtain⟨m0,q,rfl⟩:=a;obtain⟨b,o,c,e1,l⟩:=f.ajo (t:=n6 3) (k:=10) (e:=56) (s:=9) bl (mL bl) bl bl bl bl n ((m0::q).map fun m=>.lit (.string m.data.toList)) (by unfold VN;rw[fV,hn];rfl) ⟨_,_,rfl,i m0⟩;rw[List.length_map]at e1;refine⟨b,o,c,e1,fun j u g=>?_⟩;rw[fV,Option.map_eq_some_iff]at g;obtain⟨m,p,rfl⟩:=g;rw[pE];exact l j _ _ (by rw[fV,p];rfl) (i m)
theorem ak2:sS (gm W):=by
 have a:=h.tail.tail.tail.tail.tail.tail.tail.tail.tail.tail;have hi:Tryz.prog.underlying (n6 8)=some (.interface (match Tryz.prog.underlying (n6 8)with|some (.interface ms)=>ms|_=>#[])):=bl;have c:Tryz.prog.underlying (n6 7)=some (.interface (match Tryz.prog.underlying (n6 7)with|some (.interface ms)=>ms|_=>#[])):=bl;have b:Tryz.prog.underlying 166=some (.struct #[((match Tryz.prog.underlying 166 with|some (.struct fs)=>fs|_=>#[])[0]'(jS bl))]):=bl;have hs:Tryz.prog.underlying 9=some .string:=bl;obtain⟨a1,s1,d,-⟩:=laid_sentinel a bl (mL bl) hi XH (te:=166) bl b (ts:=9) bl bl hs bl bl;obtain⟨a2,s2,e,-⟩:=laid_sentinel a.tail bl (mL bl) c XH (te:=166) bl b (ts:=9) bl bl hs bl bl;exact⟨⟨_,a2,wH (World.var?_cell bl e 0)⟩,⟨_,a1,wH (World.var?_cell bl d 0)⟩⟩
end
section
variable{W:World}(h:W.ShapedOpen Tryz.prog)
include h
theorem W0(d:g<Tryz.prog.globals.size)(i:((((begin Tryz.prog (fun _ _=>0) default).world.heap[g]?).bind Obj.row?).map (·.2))=some t):qn (gm W) g t:=by
 obtain⟨⟨z,t'⟩,a,e⟩:=Option.map_eq_some_iff.1 i;have e:t'=t:=e;subst e;obtain⟨cs,f,-,-⟩:=h.1 g z t' d a;exact⟨fun I m o c b=>⟨cs,c _ _ ((show a8.le (hp W) I from b) _ _ f)⟩⟩
theorem ajE{k:IntKind}{zero:Array Value}(n:g<Tryz.prog.globals.size)(i:((begin Tryz.prog (fun _ _=>0) default).world.heap[g]?).bind Obj.row?=some (zero,t))(v:zero.size=1)
  (j:Tryz.prog.buildable t=true) (l:Tryz.prog.cellTypes Tryz.prog.depth t=some [t]) (r:Tryz.prog.underlying t=some (.int k)):∃m,aQ (gm W) ⟨g,0,none⟩ (.int k m):=by
 obtain⟨cs,o,hs,q⟩:=h.1 g zero t n i;obtain⟨ts,d,_,c⟩:=q j;rw[l]at d;cases d;have f:0<cs.size:=ae;obtain⟨u,e,a⟩:=c 0 cs[0] (by simp[f]);have:u=t:=by simpa using e.symm
 subst this;have b:W.cell? ⟨g,0,none⟩=some cs[0]:=by simp[World.cell?,o,f]
 unfold Cell.ok at a;rw[r]at a
 suffices hx:∃m,cs[0]= .int k m by
  obtain⟨m,p⟩:=hx;exact⟨m,wH (by rw[b,p])⟩
 cases s:cs[0] <;> rw[s]at a <;> simp at a
 rename_i k' m
 exact⟨m,by first|rw[a]|rw[a.1]⟩
end
noncomputable def Nn:bR where
 nv:=kX (HT (wj ug ju))
 tv:=nI ug
 rd F:=gL ug ju F/\sS F/\lm ug F
 mono h hs:=⟨h.1.sub hs,h.2.1.sub hs,h.2.2.sub hs⟩
 rest a h:=⟨h.1.sub (pd _ a rfl),h.2.1.sub (pd _ a rfl),h.2.2.sub (pd _ a rfl)⟩
theorem adO{W:World}(h:laidMet Tryz.prog Vt W)(hs:W.ShapedOpen Tryz.prog):eQ Nn (gm W)/\iJ (gm W):=by
 have mx:∃m,aQ (gm W) ⟨4,0,none⟩ (.int .i64 m):=ajE hs (t:=3) (zero:=#[.int .i64 0]) (jS bl) bl rfl bl bl bl;obtain⟨i0,i1,i2⟩:=ak4 h;exact⟨⟨⟨ala h,mx,ak7 h⟩,⟨XI h,i0,i1,i2,ak8 h,W0 hs (jS bl) bl,W0 hs (jS bl) bl,ak3 h,ak_ h,ak5 h⟩,ak2 h,⟨ak9 h,mx⟩,XI h⟩,ak1 h,ak6 h⟩
end
end Go.Proofs.YtdkchodgklpomaaGreatDoor
