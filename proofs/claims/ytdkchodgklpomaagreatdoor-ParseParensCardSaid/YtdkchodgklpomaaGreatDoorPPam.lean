/- Part of the proof that ParseParens answers true at every input. -/
import Derived.Test.YtdkchodgklpomaaGreatDoorPPal
set_option linter.all false
namespace Go.Proofs.YtdkchodgklpomaaGreatDoor
set_option maxRecDepth 100000
open Go.Value (int slice string bool pointer agg tuple func float iface nilIface)
open Go.IntKind (i64 u8 u64 i32 u32 u16 i8 i16)
open Go.FloatKind (f64)
open Go.Ending (returned panicked)
section
open Go
section
variable{V:Vw}{s s':al}{f g:Nat}
theorem Vw.R.nameV(a:V.Ok)(c:V.cK=false)(h:V.R s s'):Go.Proofs.YtdkchodgklpomaaGreatDoor.nameV V.A s 0=Go.Proofs.YtdkchodgklpomaaGreatDoor.nameV V.B s' 0:=by
 unfold Go.Proofs.YtdkchodgklpomaaGreatDoor.nameV;simp only[Nat.add_zero];rcases h.tok a with⟨d,x,y,hx,b,e⟩| ⟨e1,f⟩
 ·simp only[hx,b,e.1]
 ·have:V.A[s.i]?=none:=by rw[e1];exact a.pl c
  rw[this];rcases a.yo with h| ⟨y,b,hk,_⟩
  all_goals grind
variable{p p':Int}{ks dF:List Int}{L:List bh}{t t':al}
theorem Vw.R.set(h:V.R s s')(d:t'.bw=t.bw)(e:t'.loops=t.loops)(f:t'.bn=t.bn)(e1:t.i=s.i:=by rfl)(b:t'.i=s'.i:=by rfl)(c:t.nodes=s.nodes:=by rfl)(a:t'.nodes=s'.nodes:=by rfl):V.R t t':=by
 obtain⟨i,g,j,k⟩:=h.at_;exact⟨h.toNR.same c a d e f,i,g,ae,ae⟩
theorem Vw.na.set(h:V.na s s')(d:t'.bw=t.bw)(e:t'.loops=t.loops)(f:t'.bn=t.bn)(e1:t.i=s.i:=by rfl)(a:t'.i=s'.i:=by rfl)(c:t.nodes=s.nodes:=by rfl)(b:t'.nodes=s'.nodes:=by rfl):V.na t t':=
 ⟨h.toNR.same c b d e f,by rw[e1];exact h.sA,by rw[a];exact h.tB,h.A4⟩
theorem Vw.na.nu(a:V.Ok)(h:V.na s s'):V.A[s.i]?=none:=by rw[h.sA];exact a.pl h.A4
theorem TX(h:L[s.i]?=none):decide (s.i>=L.length)=true:=bv (by rw[List.getElem?_eq_none_iff]at h;exact h)
theorem Kq{x:bh}(h:L[s.i]?=some x):s.i<L.length:=by
 grind
theorem SR.pK(f:V.Ok)(j:V.cK=false)(h:V.R s s'){Q:Unit->al->Unit->al->Prop}(k:∀t t',(V.R t t'\/V.na t t')->Q () t () t'):SR (dP V.A V.fA) (dP V.B V.fB) s s' Q:=by
 intro a t e;unfold dP at*;rcases h.tok f with⟨c,x,y,hx,l,p⟩| ⟨e1,i⟩
 ·rw[<-h.isLt f c,<-h.isLt f c];have g:=Kq hx;have b:=Kq l;rw[j8 l,p.2.2.2.1];rw[j8 hx]at e;have m:decide (s.i>=V.A.length)=false:=bF ae;have n:decide (s'.i>=V.B.length)=false:=bF ae;rw[m]at e;rw[n];cases o:bc V.A s 0 dm with
  |true=>rw[o]at e;cases e;exact⟨(),_,rfl,k _ _ (.inl (h.step c))⟩
  |false=>
   grind
 ·have g:V.A[s.i]?=none:=by rw[e1];exact f.pl j
  rw[pm g,pm g,TX g]at e;cases e;rcases f.yo with b| ⟨y,b,hk,hl,d⟩
  ·rw[<-i]at b;rw[pm b,pm b,TX b];simp[*]
  ·rw[<-i]at b;rcases d with d|d
   ·rw[Ke b d rfl,Ke b d rfl,j8 b,hl];simp[*]
   ·have:bc V.B s' 0 dm=true:=by
     unfold bc;rw[Nat.add_zero,b];simp only[hk,d];rfl
    rw[this];exact⟨(),_,rfl,k _ _ (.inr ⟨h.toNR.same,e1,by simp[*],j⟩)⟩
theorem K_(c:V.Ok)(h:V.R s s')(b:s.i<V.n+V.dA){Q:Int->al->Int->al->Prop}(k:∀k t k' t',V.VR k k'->V.R t t'->t.i=s.i->Q k t k' t'):SR (iJ V.A V.fA) (iJ V.B V.fB) s s' Q:=by
 intro a t e;cases e;exact⟨_,_,rfl,k _ _ _ _ h.vr (h.push ⟨rfl,rfl,rfl,rfl,(h.nE c b).pos⟩) rfl⟩
theorem Zu(j:V.Ok)(p:V.cK=false)(r:V.fy f)(q:f<=g)(kd:Int)(d:s.i<V.n+V.dA)(o:V.R s s'):SR (V.PA (f+1) (.func kd)) (V.PB (g+1) (.func kd)) s s' (V.dC (.func kd)):=by
 have B:=o.nE j d;have hx:∀{t:ap},V.cK=true->t.ex=true:=fun e=>by rw[p]at e;cases e
 unfold Vw.PA Vw.PB;rw[P,P];refine SR.bind (SR.ce (SR.bind (SR.step o d fun u H n=>SR.bind (SR.get (SR.bind ?_)))));have K:∀{op c:ByteArray}{t t':al},V.R t t'->c=op->SR (cr V.A V.fA lp>>=fun _=>V.PA f (.dt [])>>=fun l=>ez>>=fun a=>ic {a with bw:=a.bw+1,loops:=0,bn:=0}>>=fun _=>one (V.PA f (.block true))>>=fun b=>ez>>=fun t=>ic {t with bw:=t.bw-1,loops:=a.loops,bn:=a.bn}>>=fun _=>cg ⟨kd,op,0,l++[b],(aB V.A V.fA s).pos⟩) (cr V.B V.fB lp>>=fun _=>V.PB g (.dt [])>>=fun l=>ez>>=fun a=>ic {a with bw:=a.bw+1,loops:=0,bn:=0}>>=fun _=>one (V.PB g (.block true))>>=fun b=>ez>>=fun t=>ic {t with bw:=t.bw-1,loops:=a.loops,bn:=a.bn}>>=fun _=>cg ⟨kd,c,0,l++[b],(aB V.B V.fB s').pos⟩) t t' (V.dC (.func kd)):=fun{op c t t'}h e=>by
  refine SR.bind (SR.bV j h rfl fun v I E=>SR.bind (r.run q (.dt .nil) E (fun l w F w' m _ k=>SR.bind (SR.get (SR.bind (SR.set (SR.bind ?_))))) hx));have z:V.R {w with bw:=w.bw+1,loops:=0,bn:=0} {w' with bw:=w'.bw+1,loops:=0,bn:=0}:=k.set (by rw[k.bw]) rfl rfl;refine r.one q (.block true) z (fun b x G y C i=>SR.bind (SR.get (SR.bind (SR.set ?_)))) hx;have A:V.R {x with bw:=x.bw-1,loops:=w.loops,bn:=w.bn} {y with bw:=y.bw-1,loops:=w'.loops,bn:=w'.bn}:=i.set (by rw[i.bw]) k.loops k.bn;exact nk A (m.app C.lr) B.pos
 exact SR.bif (by rw[n.nameV j p]) (fun _ _=>SR.word j n fun w t t' D=>K D rfl) (fun _ _=>SR.ret (K n rfl))
theorem Zz(b:V.Ok)(i:V.cK=false)(q:V.fy f)(n:f<=g)(hk:V.LR ks dF)(c:V.R s s'):SR (V.PA (f+1) (.dt ks)) (V.PB (g+1) (.dt dF)) s s' (V.dC (.dt ks)):=by
 rcases c.nu b i with d|a
 ·exact SR.no (pr _ _ rfl d)
 have hx:∀{t:ap},V.cK=true->t.ex=true:=fun e=>by rw[i]at e;cases e
 unfold Vw.PA Vw.PB;rw[P,P];have K:∀{t t':al},V.R t t'->SR (e9 V.A V.fA>>=fun x=>gD V.A V.fA>>=fun w=>db ⟨3,w,0,[],x.pos⟩>>=fun k=>V.PA f (.dt (ks++[k]))) (e9 V.B V.fB>>=fun x=>gD V.B V.fB>>=fun w=>db ⟨3,w,0,[],x.pos⟩>>=fun k=>V.PB g (.dt (dF++[k]))) t t' (V.dC (.dt ks)):=fun{t t'}h=>by
  rcases h.nu b i with d|a
  ·exact SR.no (NO.ce (NO.bind (lY.word (.inl d))))
  have l:=h.nE b a;exact SR.bind (SR.ce (SR.bind (SR.word b h fun w u r j=>SR.bind (vI j .nil l.pos fun m v m' y o p=>q.dH n _ (.dt (hk.app o.lr)) p hx))))
 exact SR.bind (vH b c a (fun t t' h _=>SR.bif rfl (fun _ _=>SR.ret (wm rfl hk h)) (fun e _=>nomatch e)) (fun _=>SR.bif rfl (fun e _=>nomatch e) (fun _ _=>SR.bind (SR.bif (by rw[hk.len]) (fun _ _=>SR.bV b c rfl fun u r j=>K j) (fun _ _=>SR.ret (K c))))))
theorem Zm(c:V.Ok)(h:V.cK=false)(n:V.fy f)(k:f<=g)(b:Bool)(a:V.R s s'):SR (V.PA (f+1) (.block b)) (V.PB (g+1) (.block b)) s s' (V.dC (.block b)):=by
 rcases a.nu c h with j|d
 ·exact SR.no (pr _ _ rfl j)
 have hx:∀{t:ap},V.cK=true->t.ex=true:=fun e=>by rw[h]at e;cases e
 have i:=a.nE c d;unfold Vw.PA Vw.PB;rw[P,P];exact SR.bind (SR.ce (SR.bind (SR.bV c a rfl fun u o l=>SR.bind (n.run k (.fC b .nil) l (fun ks v dF p hk _ m=>nk m hk i.pos) hx))))
theorem Zn(c:V.Ok)(i:V.cK=false)(l:V.fy f)(j:f<=g)(b:Bool)(hk:V.LR ks dF)(a:V.R s s'):SR (V.PA (f+1) (.fC ks b)) (V.PB (g+1) (.fC dF b)) s s' (V.dC (.fC ks b)):=by
 rcases a.nu c i with m|d
 ·exact SR.no (pr _ _ rfl m)
 have hx:∀{t:ap},V.cK=true->t.ex=true:=fun e=>by rw[i]at e;cases e
 unfold Vw.PA Vw.PB;rw[P,P];refine SR.bind (vH c a d (fun t t' h _=>SR.bif rfl (fun _ _=>SR.ret (wm rfl hk h)) (fun e _=>nomatch e)) (fun _=>SR.bif rfl (fun e _=>nomatch e) (fun _ _=>SR.bind (l.yP j (.ci b) a (fun k t k' t' n h=>?_) hx))));rcases h with h|h
 ·exact l.dH j _ (.fC b (hk.app n.lr)) h hx
 ·exact SR.no (pr _ _ rfl (h.nu c))
theorem ZA(a:V.Ok)(c:V.cK=false)(j:V.fy f)(d:f<=g)(b:V.R s s'):SR (V.PA (f+1) .paren) (V.PB (g+1) .paren) s s' (V.dC .paren):=by
 unfold Vw.PA Vw.PB;rw[P,P];exact SR.bind (SR.bV a b rfl fun u l e=>SR.bind (j.one d .aZ e fun k t k' t' hk h=>SR.bind (xM a c h fun v m i=>SR.ret (uB hk i))))
theorem ZK(d:V.Ok)(h:V.cK=false)(l:V.fy f)(i:f<=g)(a:s.i<V.n+V.dA)(b:V.R s s'):SR (V.PA (f+1) .vars) (V.PB (g+1) .vars) s s' (V.dC .vars):=by
 have hx:∀{t:ap},V.cK=true->t.ex=true:=fun e=>by rw[h]at e;cases e
 have c:=b.nE d a;unfold Vw.PA Vw.PB;rw[P,P];exact SR.bind (SR.ce (SR.bind (SR.step b a fun u m j=>SR.bind (l.run i (.dQ .nil) j (fun ks v dF n hk _ k=>nk k hk c.pos) hx))))
theorem ZJ(b:V.Ok)(l:V.cK=false)(p:V.fy f)(n:f<=g)(hk:V.LR ks dF)(d:V.R s s'):SR (V.PA (f+1) (.dQ ks)) (V.PB (g+1) (.dQ dF)) s s' (V.dC (.dQ ks)):=by
 rcases d.nu b l with r|i
 ·exact SR.no (pr _ _ rfl r)
 have hx:∀{t:ap},V.cK=true->t.ex=true:=fun e=>by rw[l]at e;cases e
 have q:=d.nE b i;unfold Vw.PA Vw.PB;rw[P,P];have K:∀{w:ByteArray}{asz a:List Int}{t t':al},V.LR asz a->V.R t t'->SR (db ⟨22,w,0,asz,(aB V.A V.fA s).pos⟩>>=fun k=>cH V.A oj>>=fun h=>bif !h then ret (ks++[k]) else V.PA f (.dQ (ks++[k]))) (db ⟨22,w,0,a,(aB V.B V.fB s').pos⟩>>=fun k=>cH V.B oj>>=fun h=>bif !h then ret (dF++[k]) else V.PB g (.dQ (dF++[k]))) t t' (V.dC (.dQ ks)):=fun has h=>SR.bind (vI h has q.pos fun m u m' y o c=>SR.bind (SR.b9 b c rfl (fun v z j _=>SR.bif rfl (fun e _=>nomatch e) (fun _ _=>p.dH n _ (.dQ (hk.app o.lr)) j hx)) (fun _=>SR.bif rfl (fun _ _=>SR.ret (wm rfl (hk.app o.lr) c)) (fun e _=>nomatch e))));exact SR.bind (SR.ce (SR.bind (SR.word b d fun w u y c=>SR.bind (SR.b9 b c rfl (fun v z j _=>SR.bind (SR.bif rfl (fun _ _=>p.run n .aZ j fun asz x a A has _ hx=>K has hx) (fun e _=>nomatch e))) (fun _=>SR.bind (SR.bif rfl (fun e _=>nomatch e) (fun _ _=>SR.ret (K .nil c))))))))
theorem Zx(c:V.cK=false)(i:V.fy f)(d:f<=g)(a:V.R s s'):SR (V.PA (f+1) .loop) (V.PB (g+1) .loop) s s' (V.dC .loop):=by
 have hx:∀{t:ap},V.cK=true->t.ex=true:=fun e=>by rw[c]at e;cases e
 unfold Vw.PA Vw.PB;rw[P,P];have b:V.R {s with loops:=s.loops+1,bn:=s.bn+1} {s' with loops:=s'.loops+1,bn:=s'.bn+1}:=a.set a.bw (by rw[a.loops]) (by rw[a.bn]);refine SR.bind (SR.get (SR.bind (SR.set (SR.bind (i.yP d (.ci false) b (fun k t k' t' hk h=>SR.bind (SR.get (SR.bind (SR.set (SR.ret ⟨hk.lr,fun _=>rfl,?_⟩))))) hx)))));rcases h with h|h
 ·exact .inl (h.set h.bw (by rw[h.loops]) (by rw[h.bn]))
 ·exact .inr ⟨rfl,h.set h.bw (by rw[h.loops]) (by rw[h.bn])⟩
theorem Zq(o:V.Ok)(r:V.cK=false)(i:V.fy f)(d:f<=g)(hp:V.pu p p')(n:V.R s s'):SR (V.PA (f+1) (.choose p)) (V.PB (g+1) (.choose p')) s s' (V.dC (.choose p)):=by
 have hx:∀{t:ap},V.cK=true->t.ex=true:=fun e=>by rw[r]at e;cases e
 unfold Vw.PA Vw.PB;rw[P,P];refine SR.bind (i.one d .paren n (fun c t w t' q h=>SR.bind (SR.bV o h rfl fun u j a=>SR.bind (SR.get (SR.bind (SR.set (SR.bind ?_)))))) hx);have l:V.R {u with bn:=u.bn+1} {j with bn:=j.bn+1}:=a.set a.bw a.loops (by rw[a.bn]);refine i.run d (.d8 false q.lr) l (fun ks v dF k hk _ b=>SR.bind (SR.get (SR.bind (SR.set ?_)))) hx;have m:V.R {v with bn:=v.bn-1} {k with bn:=k.bn-1}:=b.set b.bw b.loops (by rw[b.bn]);exact nk m hk hp
theorem ZG(j:V.Ok)(y:V.cK=false)(q:V.fy f)(o:f<=g)(b:Bool)(hk:V.LR ks dF)(i:V.R s s'):SR (V.PA (f+1) (.d8 ks b)) (V.PB (g+1) (.d8 dF b)) s s' (V.dC (.d8 ks b)):=by
 rcases i.nu j y with A|a
 ·exact SR.no (pr _ _ rfl A)
 have hx:∀{t:ap},V.cK=true->t.ex=true:=fun e=>by rw[y]at e;cases e
 have z:=i.nE j a;unfold Vw.PA Vw.PB;rw[P,P];have K:∀{n:Nat}{c:Bool}{asz d:List Int}{t t':al},V.LR asz d->V.R t t'->SR (cr V.A V.fA colon>>=fun _=>V.PA f (.ek asz)>>=fun all=>db ⟨34,.empty,n,all,(aB V.A V.fA s).pos⟩>>=fun k=>V.PA f (.d8 (ks++[k]) c)) (cr V.B V.fB colon>>=fun _=>V.PB g (.ek d)>>=fun all=>db ⟨34,.empty,n,all,(aB V.B V.fB s').pos⟩>>=fun k=>V.PB g (.d8 (dF++[k]) c)) t t' (V.dC (.d8 ks b)):=fun{n c asz d t t'}has h=>SR.bind (SR.bV j h rfl fun u E p=>SR.bind (q.run o (.ek has) p (fun all v r F l _ C=>SR.bind (vI C l z.pos fun m w m' w' B D=>q.dH o _ (.d8 c (hk.app B.lr)) D hx)) hx));exact SR.bind (vH j i a (fun t t' h _=>SR.bif rfl (fun _ _=>SR.ret (wm rfl hk h)) (fun e _=>nomatch e)) (fun _=>SR.bif rfl (fun e _=>nomatch e) (fun _ _=>SR.bind (SR.ce (SR.bind (vH j i a (fun t t' h _=>SR.bind (SR.bif rfl (fun _ _=>q.run o .aZ h fun asz x d G has _ hx=>K has hx) (fun e _=>nomatch e))) (fun _=>SR.bind (SR.bif rfl (fun e _=>nomatch e) (fun _ _=>SR.bind (SR.isLt j i a (SR.bif rfl (fun _ _=>SR.bind (SR.step i a fun u E p=>SR.ret (K .nil p))) (fun _ _=>SR.no NO.dI))))))))))))
theorem Zp(b:V.Ok)(d:V.cK=false)(j:V.fy f)(i:f<=g)(hk:V.LR ks dF)(a:V.R s s'):SR (V.PA (f+1) (.ek ks)) (V.PB (g+1) (.ek dF)) s s' (V.dC (.ek ks)):=by
 rcases a.nu b d with l|c
 ·exact SR.no (pr _ _ rfl l)
 have hx:∀{t:ap},V.cK=true->t.ex=true:=fun e=>by rw[d]at e;cases e
 have is:=fun T=>a.isLt b c T;unfold Vw.PA Vw.PB;rw[P,P];refine SR.bind (SR.get (SR.bif (by simp[*]) (fun _ _=>SR.bind (j.yP i (.ci false) a (fun k t k' t' m h=>?_) hx)) (fun _ _=>SR.ret (wm rfl hk a))));rcases h with h|h
 ·exact j.dH i _ (.ek (hk.app m.lr)) h hx
 ·exact SR.no (pr _ _ rfl (h.nu b))
theorem ZH(d:V.Ok)(q:V.cK=false)(m:V.fy f)(j:f<=g)(hp:V.pu p p')(A:V.R s s'):SR (V.PA (f+1) (.dy p)) (V.PB (g+1) (.dy p')) s s' (V.dC (.dy p)):=by
 have hx:∀{t:ap},V.cK=true->t.ex=true:=fun e=>by rw[q]at e;cases e
 unfold Vw.PA Vw.PB;rw[P,P];have K:∀{w:ByteArray}{n:Bool->Nat}{asz a:List Int}{t t':al},V.LR asz a->V.R t t'->SR (cH V.A oQ>>=fun h=>(bif h then V.PA f (.block false) else ret [])>>=fun fs=>cg ⟨34-2,w,n h,asz++fs,p⟩) (cH V.B oQ>>=fun h=>(bif h then V.PB g (.block false) else ret [])>>=fun fs=>cg ⟨34-2,w,n h,a++fs,p'⟩) t t' (V.dC (.dy p)):=fun{w n asz a t t'}has h=>SR.bind (SR.b9 d h rfl (fun u F k _=>SR.bind (SR.bif rfl (fun _ _=>m.run j (.block false) k (fun fs v r G i _ l=>nk l (has.app i) hp) hx) (fun e _=>nomatch e))) (fun _=>SR.bind (SR.bif rfl (fun e _=>nomatch e) (fun _ _=>SR.ret (nk h (has.app .nil) hp)))));refine SR.bind (m.one j (.block false) A (fun b t H t' o h=>SR.bind (SR.b9 d h rfl (fun u F k _=>SR.bind (SR.bif rfl (fun _ _=>?_) (fun e _=>nomatch e))) (fun _=>SR.bind (SR.bif rfl (fun e _=>nomatch e) (fun _ _=>SR.ret ?_))))) hx)
 ·exact SR.bind (SR.bV d k rfl fun v G l=>SR.bind (SR.word d l fun w x J C=>SR.bind (xM d q C fun y L D=>SR.bind (m.one j (.block false) D (fun c z I M B E=>SR.ret (SR.bind (SR.get (SR.bind (SR.bif (by rfl) (fun _ _=>SR.no NO.dI) (fun _ _=>SR.ret (K (n:=fun h=>bif true then (bif h then vh else kZ) else vi) (o.lr.app B.lr) E))))))) hx))))
 ·exact SR.bind (SR.get (SR.bind (SR.bif (by rw[h.is d rfl]) (fun _ _=>SR.no NO.dI) (fun _ _=>SR.ret (K (n:=fun h=>bif false then (bif h then vh else kZ) else vi) (o.lr.app .nil) h)))))
end
end
section
open Go
section
variable{V:Vw}{s s':al}{f g:Nat}
variable{p p':Int}{v:Nat}
theorem xN(h:V.R s s'\/V.na s s'){kd a:Int}{op b:ByteArray}{num iL:Nat}{ks dF:List Int}(hk:V.LR ks dF)(hp:V.pu p p'){tag:ap}(f:tag.vU=true)(c:a=kd:=by rfl)(d:b=op:=by first|rfl|assumption)(e:iL=num:=by first|rfl|assumption):SR (cg ⟨kd,op,num,ks,p⟩) (cg ⟨a,b,iL,dF,p'⟩) s s' (V.dC tag):=Zj h (show V.XR ⟨kd,op,num,ks,p⟩ ⟨a,b,iL,dF,p'⟩from⟨c,d,e,hk.1,hp⟩) f
theorem ZD(c:V.Ok)(o:V.cK=false)(E:V.fy f)(B:f<=g){x l:bh}(b:V.TR x l)(p:s.i<V.n+V.dA)(k:V.R s s'):SR (V.PA (f+1) (.simple x)) (V.PB (g+1) (.simple l)) s s' (V.dC (.simple x)):=by
 have hx:∀{t:ap},V.cK=true->t.ex=true:=fun e=>by rw[o]at e;cases e
 unfold Vw.PA Vw.PB;rw[P,P];have C:∀{kind:Int}{ks dF:List Int}{t t':al},V.LR ks dF->V.R t t'->SR (dP V.A V.fA>>=fun _=>cg ⟨kind,.empty,0,ks,x.pos⟩) (dP V.B V.fB>>=fun _=>cg ⟨kind,.empty,0,dF,l.pos⟩) t t' (V.dC (.simple x)):=fun hk h=>SR.bind (SR.pK c o h fun t t' h=>xN h hk b.pos rfl);have K:∀(kind:Int),SR (eE>>=fun _=>e9 V.A V.fA>>=fun n=>ez>>=fun s=>(bif kind==(31:Int)&&n.aD then iU V.A V.fA else ret ())>>=fun _=>(bif kind==(31:Int)||(kind==(28:Int)&&(decide (s.i<V.A.length)&&(!n.aD&&(!bc V.A s 0 dm&& !bc V.A s 0 rc)))) then V.PA f .aZ else ret [])>>=fun ks=>dP V.A V.fA>>=fun _=>cg ⟨kind,.empty,0,ks,x.pos⟩)
   (eE>>=fun _=>e9 V.B V.fB>>=fun n=>ez>>=fun s=>(bif kind==(31:Int)&&n.aD then iU V.B V.fB else ret ())>>=fun _=>(bif kind==(31:Int)||(kind==(28:Int)&&(decide (s.i<V.B.length)&&(!n.aD&&(!bc V.B s 0 dm&& !bc V.B s 0 rc)))) then V.PB g .aZ else ret [])>>=fun ks=>dP V.B V.fB>>=fun _=>cg ⟨kind,.empty,0,ks,l.pos⟩) s s' (V.dC (.simple x)):=fun kind=>by
  refine SR.bind (SR.step k p fun u j d=>SR.bind (SR.ce (SR.bind (SR.get ?_))));rcases d.tok c with⟨hl,y,z,r,v,D⟩| ⟨e1,A⟩
  ·have m:decide (u.i<V.A.length)=true:=bv (Kq r);have w:decide (j.i<V.B.length)=true:=bv (Kq v);rw[j8 r,j8 v,D.2.2.2.1,m,w,<-d.isLt c hl,<-d.isLt c hl];exact SR.bind (SR.bif rfl (fun _ _=>SR.no NO.dI) (fun _ _=>SR.ret (SR.bind (SR.bif rfl (fun _ _=>E.run B .aZ d fun ks t dF t' hk _ h=>C hk h) (fun _ _=>SR.ret (C .nil d))))))
  ·have q:V.A[u.i]?=none:=by rw[e1];exact c.pl o
   rw[vW q];have m:decide (u.i<V.A.length)=false:=bF (by grind);rw[m];cases hk:kind==(31:Int)with
   |true=>exact SR.no (sm fun a t e=>by cases e;exact NO.bind (pr _ _ rfl q))
   |false=>
    have i:(decide (j.i<V.B.length)&&(!(aB V.B V.fB j).aD&&(!bc V.B j 0 dm&& !bc V.B j 0 rc)))=false:=by
     rcases c.yo with i| ⟨y,i,_,hl,_⟩
     ·grind
     ·rw[<-A]at i;rw[j8 i,hl,Bool.not_true,jk,j5]
    rw[i];simp only[jk,j5,Bool.or_false];exact SR.bind (SR.bif rfl (fun e _=>nomatch e) (fun _ _=>SR.ret (SR.bind (SR.bif rfl (fun e _=>nomatch e) (fun _ _=>SR.ret (C .nil d))))))
 refine SR.bind (SR.get (SR.bind (SR.bif (by rw[b.2.1,k.bw]) (fun _ _=>SR.ret (K 28)) (fun _ _=>SR.bif (by rw[b.2.1,k.bn]) (fun _ _=>SR.ret (K 29)) (fun _ _=>SR.bif (by rw[b.2.1,k.loops]) (fun _ _=>SR.ret (K 30)) (fun _ _=>SR.bif (by rw[b.2.1]) (fun _ _=>SR.ret (K 31)) (fun _ _=>SR.no NO.dI)))))))
theorem Zi(b:V.Ok)(h:V.R s s'\/V.na s s'){Q:Bool->al->Bool->al->Prop}(d:∀t t',V.R t t'->Q true t true t')(c:Q false s false s'):SR (cH V.A zQ) (cH V.B zQ) s s' Q:=by
 rcases h with h|h
 ·exact SR.b9 b h rfl (fun t t' f _=>d t t' f) (fun _=>c)
 ·intro a t e;unfold cH at*;rw[pm (h.nu b)]at e;cases e;have:bc V.B s' 0 zQ=false:=by
   unfold bc;rw[Nat.add_zero,h.tB];cases hx:V.B[V.n+V.dB+1]? with
   |none=>rfl
   |some x=>exact b.agH x hx
  simp[*]
theorem ZE(p:V.Ok)(z:V.cK=false)(j:V.fy f)(i:f<=g)(b:Bool)(n:V.R s s'):SR (V.PA (f+1) (.ci b)) (V.PB (g+1) (.ci b)) s s' (V.dC (.ci b)):=by
 rcases n.nu p z with C|d
 ·exact SR.no (pr _ _ rfl C)
 have hx:∀{t:ap},V.cK=true->t.ex=true:=fun e=>by rw[z]at e;cases e
 have l:=n.nE p d;have is:=fun T=>n.isLt p d T;unfold Vw.PA Vw.PB;rw[P,P];have plain:SR (one (P V.A V.fA V.aI V.wide f .aZ)>>=fun e=>dP V.A V.fA>>=fun _=>cg ⟨20,.empty,0,[e],(aB V.A V.fA s).pos⟩) (one (P V.B V.fB V.aI V.wide g .aZ)>>=fun e=>dP V.B V.fB>>=fun _=>cg ⟨20,.empty,0,[e],(aB V.B V.fB s').pos⟩) s s' (V.dC (.ci b)):=SR.bind (j.one i .aZ n fun e t H t' C h=>SR.bind (SR.pK p z h fun u B o=>xN o C.lr l.pos rfl));refine SR.bind (SR.ce (SR.bind (SR.get (SR.bif (is _) (fun _ _=>j.dH i _ (.block false) n hx) (fun _ _=>SR.bif (is _) (fun _ _=>?_) (fun _ _=>?_))))))
 ·exact SR.bind (K_ p n d fun k t k' t' hk h e=>SR.bind (SR.step h ae fun u B o=>SR.ret (uB hk o)))
 dsimp only;have tx:=fun T=>(show bC (aB V.A V.fA s).text T=bC (aB V.B V.fB s').text T by rw[l.2.1]);have step:∀{α:Type}{m m':PM α}{Q:α->al->α->al->Prop},(∀t t',V.R t t'->SR m m' t t' Q)->SR (eE>>=fun _=>m) (eE>>=fun _=>m') s s' Q:=fun k=>SR.bind (SR.step n d k);refine SR.bif (by rw[l.1]) (fun _ _=>?_) (fun _ _=>plain);refine SR.bif (tx _) (fun _ _=>?_) (fun _ _=>SR.bif (by rw[l.2.1]) (fun _ _=>?_) (fun _ _=>SR.bif (tx _) (fun _ _=>?_) (fun _ _=>SR.bif (tx _) (fun _ _=>?_) (fun _ _=>SR.bif (tx _) (fun _ _=>?_) (fun _ _=>SR.bif (tx _) (fun _ _=>?_) (fun _ _=>SR.bif (tx _) (fun _ _=>?_) (fun _ _=>SR.bif (tx _) (fun _ _=>?_) (fun _ _=>plain))))))))
 ·exact SR.bind (j.one i .vars n (fun k t k' t' hk h=>SR.bind (SR.pK p z h fun u B o=>SR.ret ⟨hk.lr,fun _=>rfl,o.imp id fun x=>⟨rfl,x⟩⟩)) hx d)
 ·exact j.dH i _ (.simple l) n hx d
 ·exact SR.bif rfl (fun _ _=>SR.no NO.dI) (fun _ _=>j.dH i _ (.func 35) n hx d)
 ·exact step fun t t' h=>SR.bind (j.one i .paren h (fun c u E B r o=>SR.bind (j.yP i (.ci false) o (fun a v D G q A=>SR.bind (Zi p A (fun w w' F=>SR.bind (SR.bif rfl (fun _ _=>(j _ _ _ _ g i (.ci false) hx trivial F).mono fun ks y dF I hp=>xN (hp.2.2.imp id (·.2)) ((r.lr.app q.lr).app hp.1) l.pos rfl) (fun e _=>nomatch e))) (SR.bind (SR.bif rfl (fun e _=>nomatch e) (fun _ _=>SR.ret (xN A ((r.lr.app q.lr).app .nil) l.pos rfl)))))) hx)) hx)
 ·exact step fun t t' h=>SR.bind (j.one i .paren h (fun c u E B r o=>SR.bind (j.yP i .loop o (fun a v D G q A=>xN A (r.lr.app q.lr) l.pos rfl) hx)) hx)
 ·exact step fun t t' h=>j.dH i _ (.di l.pos) h hx
 ·exact step fun t t' h=>j.dH i _ (.dy l.pos) h hx
 ·exact step fun t t' h=>j.dH i _ (.choose l.pos) h hx
theorem Vw.R.aga(a:V.Ok)(c:V.cK=false)(h:V.R s s')(k:s.i+v<=V.n+V.dA):Go.Proofs.YtdkchodgklpomaaGreatDoor.nameV V.A s v=Go.Proofs.YtdkchodgklpomaaGreatDoor.nameV V.B s' v/\(Go.Proofs.YtdkchodgklpomaaGreatDoor.nameV V.A s v=true->s.i+v<V.n+V.dA):=by
 obtain⟨i,f,g,j⟩:=h.at_;unfold Go.Proofs.YtdkchodgklpomaaGreatDoor.nameV;by_cases hl:i+v<V.n
 ·obtain⟨x,y,hx,b,d⟩:=a.toks (i+v) hl;rw[show s.i+v=i+v+V.dA by omega,show s'.i+v=i+v+V.dB by omega,hx,b];simp only[d.1];simp[*]
 ·have e:i+v=V.n:=by omega
  rw[show s.i+v=V.n+V.dA by omega,show s'.i+v=V.n+V.dB by omega,a.pl c];refine⟨?_,fun e=>by cases e⟩;rcases a.yo with h| ⟨y,b,hk,_⟩
  all_goals grind
theorem Vw.R.UV(a:V.Ok)(g:V.cK=false)(h:V.R s s')(n:s.i+v<=V.n+V.dA){T:ByteArray}(d:rI T=true):bc V.A s v T=bc V.B s' v T/\(bc V.A s v T=true->s.i+v<V.n+V.dA):=by
 obtain⟨i,j,k,l⟩:=h.at_;have f:bC rp T=false/\bC dm T=false:=by unfold rI at d;grind
 unfold bc;by_cases hl:i+v<V.n
 ·obtain⟨x,y,hx,c,b⟩:=a.toks (i+v) hl;rw[show s.i+v=i+v+V.dA by omega,show s'.i+v=i+v+V.dB by omega,hx,c];simp only[b.1,b.2.1];simp[*]
 ·rw[show s.i+v=V.n+V.dA by omega,show s'.i+v=V.n+V.dB by omega,a.pl g];refine⟨?_,fun e=>by cases e⟩;rcases a.yo with h| ⟨y,c,hk,_,m⟩
  all_goals grind
theorem Zt(a:V.Ok)(o:V.cK=false)(E:V.fy f)(C:f<=g)(hp:V.pu p p')(W:V.R s s'):SR (V.PA (f+1) (.di p)) (V.PB (g+1) (.di p')) s s' (V.dC (.di p)):=by
 have hx:∀{t:ap},V.cK=true->t.ex=true:=fun e=>by rw[o]at e;cases e
 unfold Vw.PA Vw.PB;rw[P,P];have K:∀{k k':Int}{t t':al},V.VR k k'->V.R t t'->SR (cr V.A V.fA dm>>=fun _=>iK V.A 0 dm>>=fun h=>(bif h then iJ V.A V.fA else one (V.PA f .aZ))>>=fun c=>cr V.A V.fA dm>>=fun _=>iK V.A 0 rp>>=fun h=>(bif h then iJ V.A V.fA else one (V.PA f .aZ))>>=fun d=>cr V.A V.fA rp>>=fun _=>one (V.PA f .loop)>>=fun b=>cg ⟨26,.empty,0,[k,c,d,b],p⟩)
   (cr V.B V.fB dm>>=fun _=>iK V.B 0 dm>>=fun h=>(bif h then iJ V.B V.fB else one (V.PB g .aZ))>>=fun c=>cr V.B V.fB dm>>=fun _=>iK V.B 0 rp>>=fun h=>(bif h then iJ V.B V.fB else one (V.PB g .aZ))>>=fun d=>cr V.B V.fB rp>>=fun _=>one (V.PB g .loop)>>=fun b=>cg ⟨26,.empty,0,[k',c,d,b],p'⟩) t t' (V.dC (.di p)):=fun{k k' t t'}hk h=>by
  have DY:∀{T:ByteArray}{t t':al}{m m':Int->PM (List Int)}{Q:List Int->al->List Int->al->Prop},V.R t t'->(∀c v F H,V.VR c F->V.R v H->SR (m c) (m' F) v H Q)->SR (iK V.A 0 T>>=fun h=>(bif h then iJ V.A V.fA else one (V.PA f .aZ))>>=m) (iK V.B 0 T>>=fun h=>(bif h then iJ V.B V.fB else one (V.PB g .aZ))>>=m') t t' Q:=fun{T t t' m m' Q}h k=>by
   rcases h.nu a o with n|j
   ·refine SR.no (SD ?_);rw[pm n];exact NO.bind (NO.bif (fun e=>nomatch e) (fun _=>NO.one (pr _ _ rfl n)))
   ·exact SR.bind (SR.isLt a h j (SR.bind (SR.bif rfl (fun _ _=>K_ a h j fun c v F H A D _=>k _ _ _ _ A D) (fun _ _=>E.one C .aZ h (fun c v F H A D=>k _ _ _ _ A D) hx))))
  exact SR.bind (xM a o h fun u B l=>DY l fun c v F H A D=>SR.bind (xM a o D fun w w' G=>DY G fun d y d' y' hd O=>SR.bind (xM a o O fun z z' hz=>SR.bind (E.yP C .loop hz (fun b q S q' r L=>xN L (hk.lr.app (A.lr.app (hd.lr.app r.lr))) hp rfl) hx))))
 refine SR.bind (SR.bV a W rfl fun u B l=>SR.bind (SR.get ?_));rcases l.nu a o with n|j
 ·refine SR.no ?_;dsimp only;rw[pm n,pm n];have hn:Go.Proofs.YtdkchodgklpomaaGreatDoor.nameV V.A u 0=false:=by unfold Go.Proofs.YtdkchodgklpomaaGreatDoor.nameV;simp[*]
  simp only[aM,hn,jk];exact NO.bind (NO.bif (fun e=>nomatch e) (fun _=>NO.ce (NO.bind (NO.one (pr _ _ rfl n)))))
 dsimp only;rw[<-l.isLt a j,<-l.isLt a j];have X:=l.nE a j;generalize D:(bif bc V.A u 0 lk then 1 else 0:Nat)=v;have M:u.i+v<=V.n+V.dA:=by
  grind
 have I:=l.aga a o M;have A:(Go.Proofs.YtdkchodgklpomaaGreatDoor.nameV V.A u v&&bc V.A u (v+1) tG)=(Go.Proofs.YtdkchodgklpomaaGreatDoor.nameV V.B B v&&bc V.B B (v+1) tG):=by
  rw[<-I.1];cases hn:Go.Proofs.YtdkchodgklpomaaGreatDoor.nameV V.A u v with
  |false=>rfl
  |true=>
   have hl:=I.2 hn;rw[(l.UV a o (v:=v+1) ae rfl).1]
 refine SR.bif A (fun r _=>?_) (fun _ _=>?_)
 ·rw[gx]at r;have hl:=I.2 r.1;have Y:=(l.UV a o (v:=v+1) ae (T:=tG) rfl).2 r.2;obtain⟨i,i1,i2,i3⟩:=l.at_;obtain⟨x,y,N,R,hr⟩:=a.toks (i+v) ae;have J:V.R {u with i:=u.i+v+2} {B with i:=B.i+v+2}:=⟨l.toNR.same rfl rfl l.bw l.loops l.bn,i+v+2,ae,by grind,by grind⟩;have Z:((V.B[B.i+v]?).map (·.text)).getD .empty=((V.A[u.i+v]?).map (·.text)).getD .empty:=by
   rw[show u.i+v=i+v+V.dA by omega,show B.i+v=i+v+V.dB by omega,N,R];exact hr.2.1
  exact SR.bind (SR.set (SR.bind (E.one C .aZ J (fun e w U w' n G=>SR.bind (xM a o G fun y y' O=>SR.bind (E.yP C .loop O (fun b q S q' r L=>xN L (n.lr.app r.lr) hp rfl) hx))) hx)))
 ·exact SR.bind (SR.bif rfl (fun _ _=>E.one C .vars l (fun k t k' t' hk h=>K hk h) hx j) (fun _ _=>SR.bif rfl (fun _ _=>K_ a l j fun k t k' t' hk h _=>K hk h) (fun _ _=>SR.bind (SR.ce (SR.bind (E.one C .aZ l (fun e w U w' n G=>vI G n.lr X.pos fun k t k' t' hk h=>K hk h) hx))))))
theorem K6(i:V.Ok):∀f,V.fy f
 |0=>fun tag m s s' g _ _ _ _ _=>SR.no (by show NO (P V.A V.fA V.aI V.wide 0 tag) s;rw[P];exact NO.out)
 |f+1=>fun tag m s s' g a o fQ l c=>by
  have d:=K6 i f
  match g,a with
  |g+1,a=>
   have a:f<=g:=ae;have j:tag.ex=false->V.cK=false:=fun e=>by
    cases p:V.cK with
    |false=>rfl
    |true=>rw[fQ p]at e;cases e
   cases o with
   |aZ=>exact Zs i d a c
   |cond=>exact Zr i d a c
   |level n=>exact Zv d a n c
   |fM n h=>exact Zw i d a n h c
   |unary=>exact ZI i d a c
   |dD=>exact Zl i d a c
   |suffix=>exact ZF d a c
   |dO h=>exact ZB i d a h c
   |dS h=>exact Zo i (j rfl) d a h c
   |cR h=>exact Zk i d a h c
   |cU h=>exact Zy i d a h c
   |dk=>exact ZC i d a c
   |func k=>exact Zu i (j rfl) d a k l c
   |dt h=>exact Zz i (j rfl) d a h c
   |block b=>exact Zm i (j rfl) d a b c
   |fC b h=>exact Zn i (j rfl) d a b h c
   |paren=>exact ZA i (j rfl) d a c
   |vars=>exact ZK i (j rfl) d a l c
   |dQ h=>exact ZJ i (j rfl) d a h c
   |loop=>exact Zx (j rfl) d a c
   |di h=>exact Zt i (j rfl) d a h c
   |dy h=>exact ZH i (j rfl) d a h c
   |choose h=>exact Zq i (j rfl) d a h c
   |d8 b h=>exact ZG i (j rfl) d a b h c
   |ek h=>exact Zp i (j rfl) d a h c
   |simple h=>exact ZD i (j rfl) d a h l c
   |ci b=>exact ZE i (j rfl) d a b c
end
end
section
open Go
def hF:al:=⟨0,[],0,0,0⟩
section
variable{T:List bh}{fin:Int}{aI:Nat->ByteArray}{wide:ByteArray->ByteArray}{s t:al}{α β:Type}
variable{r:List Int}{m:PM (List Int)}{u:al}
theorem ru{m:PM α}{k:α->PM β}{b:β}(h:(m>>=k) s= .ok b u):∃a t,m s= .ok a t/\k a t= .ok b u:=by
 have h':b0 m k s= .ok b u:=h;unfold b0 at h';grind
theorem og{m:PM α}{k:α->PM β}{a:α}(h:m s= .ok a t):(m>>=k) s=k a t:=by
 show b0 m k s=_;unfold b0;rw[h]
theorem Bp{k:Int}(h:one m s= .ok k u):∃r,m s= .ok r u/\r.headD 0=k:=by
 obtain⟨r,t,b,a⟩:=ru (m:=m) (k:=fun l=>ret (l.headD 0)) h;cases a;simp[*]
theorem yR(h:m s= .ok r t):one m s= .ok (r.headD 0) t:=by
 show b0 m (fun l=>ret (l.headD 0)) s=_;unfold b0;rw[h];rfl
theorem DG{k:bh->PM β}:(e9 T fin>>=k) s=k (aB T fin s) s:=rfl
theorem Nv{k:al->PM β}:(ez>>=k) s=k s s:=rfl
theorem afh(a:lY T s)(n:Nat)(k:Int)(f:Nat):P T fin aI wide (f+1) (.fM n k) s= .ok [k] s:=by
 rw[P];rw[DG];have:((aB T fin s).kind !=5&&(aB T fin s).kind !=2|| !cI ((nH[n]?).getD []) (aB T fin s).text)=true:=a.ask (fun kd tx=>(kd !=5&&kd !=2)|| !cI ((nH[n]?).getD []) tx) rfl (by rw[(Hl n).1];rfl);rw[this];rfl
theorem G7(a:lY T s){w:ByteArray}(b:bC rp w=false):cH T w s= .ok false s:=by
 unfold cH;rw[a.is b];rfl
theorem ahS(a:lY T s)(k:Int)(f:Nat):P T fin aI wide (f+1) (.dO k) s= .ok [k] s:=by
 rw[P];rw[og (G7 a rfl)];show(cH T lb>>=_) s=_;rw[og (G7 a rfl)];show(cH T lp>>=_) s=_;rw[og (G7 a rfl)];rfl
structure vA(T:List bh)(s:al):Prop where
 h:∃x,T[s.i]?=some x/\x.kind=5/\x.text=lp
theorem vA.ask(h:vA T s)(g:Int->ByteArray->Bool){b:Bool}(e:g 5 lp=b):g (aB T fin s).kind (aB T fin s).text=b:=by
 obtain⟨x,a,c,d⟩:=h.h;rw[j8 a,c,d];exact e
theorem vA.is(h:vA T s)(w:ByteArray):bc T s 0 w=bC lp w:=by
 obtain⟨x,a,b,c⟩:=h.h;unfold bc;simp[*]
theorem Wa(h:vA T s)(f:Nat):P T fin aI wide (f+1) .dk s=(one (P T fin aI wide f .aZ)>>=fun k=>cr T fin rp>>=fun _=>ret [k]) {s with i:=s.i+1}:=by
 rw[P];rw[DG];rw[h.ask (fun k _=>k==3) (b:=false) rfl,h.ask (fun k _=>k==4) (b:=false) rfl,h.ask (fun k _=>k==1) (b:=false) rfl];simp only[aM];rw[Nv];rw[h.is,h.is,h.is,h.is];show(cH T lp>>=_) s=_;have:cH T lp s= .ok true {s with i:=s.i+1}:=by
  unfold cH;rw[h.is];rfl
 rw[og this];rfl
theorem Xg(h:vA T s)(f:Nat):P T fin aI wide (f+1) .unary s=P T fin aI wide f .dD s:=by
 rw[P];rw[DG];rw[h.ask (fun k _=>k !=5&&k !=2) (b:=false) rfl,h.ask (fun _ t=>cI tK t) (b:=false) rfl,h.ask (fun _ t=>cI [pp,mm] t) (b:=false) rfl];rfl
theorem afG(h:vA T s){f:Nat}(q:P T fin aI wide f .aZ {s with i:=s.i+1}= .ok r u)(hp:bc T u 0 rp=true)(a:lY T {u with i:=u.i+1}):
  P T fin aI wide (f+17) .aZ s= .ok [r.headD 0] {u with i:=u.i+1}:=by
 have c:∀b,b=f+1->P T fin aI wide b .dk s= .ok [r.headD 0] {u with i:=u.i+1}:=by
  rintro _ rfl;rw[Wa h,og (yR q)];have:cr T fin rp u= .ok () {u with i:=u.i+1}:=by unfold cr;simp[*]
  rw[og this];rfl
 have e:P T fin aI wide (f+2) .suffix s= .ok [r.headD 0] {u with i:=u.i+1}:=by
  rw[P,og (yR (c _ rfl))];exact ahS a _ _
 have j:P T fin aI wide (f+3) .dD s= .ok [r.headD 0] {u with i:=u.i+1}:=by
  rw[P,og (yR e)];rw[DG];have:∀l,((aB T fin {u with i:=u.i+1}).kind !=5||(l||(!bC (aB T fin {u with i:=u.i+1}).text pp&& !bC (aB T fin {u with i:=u.i+1}).text mm)))=true:=fun l=>a.ask (fun kd tx=>kd !=5||(l||(!bC tx pp&& !bC tx mm))) (by cases l <;> rfl) (by cases l <;> rfl);rw[this];rfl
 have k:P T fin aI wide (f+4) .unary s= .ok [r.headD 0] {u with i:=u.i+1}:=by rw[Xg h];exact j
 have m:P T fin aI wide (f+5) (.level 10) s= .ok [r.headD 0] {u with i:=u.i+1}:=by rw[P];exact k
 have hl:∀d,d<=10->P T fin aI wide (f+5+d) (.level (10-d)) s= .ok [r.headD 0] {u with i:=u.i+1}:=by
  intro d
  induction d with
  |zero=>intro _;exact m
  |succ d t=>
   intro hd;have:=t ae;show P T fin aI wide ((f+5+d)+1) (.level (10-(d+1))) s=_;rw[P];have o:(10-(d+1)==10)=false:=by simp;omega
   rw[o];simp only[aM];rw[show 10-(d+1)+1=10-d by omega,og (yR this)];obtain⟨g,p⟩:∃g,f+5+d=g+1:=⟨f+4+d,ae⟩;rw[p];exact afh a _ _ _
 have n:P T fin aI wide (f+16) .cond s= .ok [r.headD 0] {u with i:=u.i+1}:=by
  have:=hl 10 ae;rw[P,og (yR this),og (G7 a rfl)];rfl
 rw[P,og (yR n)];rw[DG];have:((aB T fin {u with i:=u.i+1}).kind !=5|| !cI pd (aB T fin {u with i:=u.i+1}).text)=true:=a.ask (fun kd tx=>kd !=5|| !cI pd tx) rfl rfl;rw[this];rfl
theorem afE(h:vA T s):∀(F:Nat){r:List Int}{u:al},P T fin aI wide F .aZ s= .ok r u->∃f q t,P T fin aI wide f .aZ {s with i:=s.i+1}= .ok q t/\bc T t 0 rp=true:=by
 have hp:∀(F:Nat){r:List Int}{u:al},P T fin aI wide F .dk s= .ok r u->∃f q t,P T fin aI wide f .aZ {s with i:=s.i+1}= .ok q t/\bc T t 0 rp=true:=by
  intro F r u e;cases F with
  |zero=>rw[P]at e;cases e
  |succ f=>
   rw[Wa h]at e;obtain⟨k,t,a,c⟩:=ru e;obtain⟨q,b,_⟩:=Bp a;obtain⟨_,v,d,_⟩:=ru c;refine⟨f,q,t,b,?_⟩;unfold cr at d;grind
 have hs:∀(F:Nat){r:List Int}{u:al},P T fin aI wide F .suffix s= .ok r u->∃f q t,P T fin aI wide f .aZ {s with i:=s.i+1}= .ok q t/\bc T t 0 rp=true:=by
  intro F r u e;cases F with
  |zero=>rw[P]at e;cases e
  |succ f=>rw[P]at e;obtain⟨k,t,a,_⟩:=ru e;obtain⟨q,b,_⟩:=Bp a;exact hp f b
 have g:∀(F:Nat){r:List Int}{u:al},P T fin aI wide F .dD s= .ok r u->∃f q t,P T fin aI wide f .aZ {s with i:=s.i+1}= .ok q t/\bc T t 0 rp=true:=by
  intro F r u e;cases F with
  |zero=>rw[P]at e;cases e
  |succ f=>rw[P]at e;obtain⟨k,t,a,_⟩:=ru e;obtain⟨q,b,_⟩:=Bp a;exact hs f b
 have l:∀(F:Nat){r:List Int}{u:al},P T fin aI wide F .unary s= .ok r u->∃f q t,P T fin aI wide f .aZ {s with i:=s.i+1}= .ok q t/\bc T t 0 rp=true:=by
  intro F r u e;cases F with
  |zero=>rw[P]at e;cases e
  |succ f=>rw[Xg h]at e;exact g f e
 have hl:∀(F n:Nat){r:List Int}{u:al},P T fin aI wide F (.level n) s= .ok r u->∃f q t,P T fin aI wide f .aZ {s with i:=s.i+1}= .ok q t/\bc T t 0 rp=true:=by
  intro F
  induction F with
  |zero=>intro n r u e;rw[P]at e;cases e
  |succ f m=>
   intro n r u e;rw[P]at e;cases hn:(n==10)with
   |true=>rw[hn]at e;exact l f e
   |false=>
    rw[hn]at e;obtain⟨k,t,a,_⟩:=ru e;obtain⟨q,b,_⟩:=Bp a;grind
 have j:∀(F:Nat){r:List Int}{u:al},P T fin aI wide F .cond s= .ok r u->∃f q t,P T fin aI wide f .aZ {s with i:=s.i+1}= .ok q t/\bc T t 0 rp=true:=by
  intro F r u e;cases F with
  |zero=>rw[P]at e;cases e
  |succ f=>rw[P]at e;obtain⟨k,t,a,_⟩:=ru e;obtain⟨q,b,_⟩:=Bp a;exact hl f _ b
 intro F r u e;cases F with
 |zero=>rw[P]at e;cases e
 |succ f=>rw[P]at e;obtain⟨k,t,a,_⟩:=ru e;obtain⟨q,b,_⟩:=Bp a;exact j f b
end
end
section
open Go
structure LE{α:Type}(m m':PM α):Prop where
 h:∀s,m s= .out\/m' s=m s
section
variable{α β:Type}
theorem LE.refl(m:PM α):LE m m:=⟨fun _=>.inr rfl⟩
theorem LE.bind{m m':PM α}{k k':α->PM β}(h:LE m m')(hk:∀a,LE (k a) (k' a)):LE (m>>=k) (m'>>=k'):=by
 refine⟨fun s=>?_⟩;show b0 m k s=_\/b0 m' k' s=b0 m k s;unfold b0;rcases h.h s with h|h
 ·simp[*]
 ·rw[h];cases m s with
  |ok a t=>exact(hk a).h t
  |stop p e t=>exact .inr rfl
  |out=>exact .inl rfl
theorem LE.one{m m':PM (List Int)}(h:LE m m'):LE (Go.Proofs.YtdkchodgklpomaaGreatDoor.one m) (Go.Proofs.YtdkchodgklpomaaGreatDoor.one m'):=by
 show LE (m>>=fun l=>ret (l.headD 0)) (m'>>=fun l=>ret (l.headD 0));exact LE.bind h fun _=>LE.refl _
theorem LE.bif{b:Bool}{m m' n a:PM α}(c:LE m m')(d:LE n a):LE (bif b then m else n) (bif b then m' else a):=by cases b;exact d;exact c
end
section
variable(L:List bh)(fin:Int)(aI:Nat->ByteArray)(wide:ByteArray->ByteArray)
theorem Y3:∀(f:Nat)(tag:ap),LE (P L fin aI wide f tag) (P L fin aI wide (f+1) tag):=by
 intro f
 induction f with
 |zero=>intro tag;refine⟨fun s=>?_⟩;rw[P];exact .inl rfl
 |succ f a=>
  intro tag;cases tag <;> (rw[P,P];repeat' (first|intro _|with_reducible apply LE.bind|with_reducible apply LE.bif|with_reducible apply LE.one|with_reducible exact a _|with_reducible exact LE.refl _))
theorem FP{f g:Nat}(h:f<=g)(tag:ap)(s:al):P L fin aI wide f tag s= .out\/P L fin aI wide g tag s=P L fin aI wide f tag s:=by
 induction g with
 |zero=>have:f=0:=ae;subst this;exact .inr rfl
 |succ g a=>
  by_cases b:f=g+1
  ·simp[*]
  ·rcases a ae with h|h
   ·simp[*]
   ·rcases(Y3 L fin aI wide g tag).h s with h'|h'
    all_goals grind
end
end
section
open Go
def al.ay(s:al):al:=⟨s.i+1,s.nodes,s.bw,s.loops,s.bn⟩
def al.add(s:al)(x:cj):al:=⟨s.i,s.nodes++[x],s.bw,s.loops,s.bn⟩
section
variable{α β:Type}{fin:Int}{L:List bh}{aI:Nat->ByteArray}{wide:ByteArray->ByteArray}{s t:al}
theorem m6{k:bh->PM β}:(e9 L fin>>=k) s=k (aB L fin s) s:=rfl
theorem lU{k:al->PM β}:(ez>>=k) s=k s s:=rfl
variable{b:Bool}{T:ByteArray}{x:cj}{a e p:Int}{m:PM (List Int)}{u:al}
theorem zN{k:Unit->PM β}:(ic u>>=k) s=k () u:=rfl
theorem kK{k:Unit->PM β}:(eE>>=k) s=k () s.ay:=rfl
theorem zL{k:Int->PM β}:(dN a>>=k) s=k (du s a) s:=rfl
theorem xi{k:Int->PM β}:(db x>>=k) s=k s.nodes.length (s.add x):=rfl
theorem iM:cg x s= .ok [(s.nodes.length:Int)] (s.add x):=rfl
theorem ie{a:α}{k:α->PM β}:(ret a>>=k) s=k a s:=rfl
theorem zM{a:α}:ret a s= .ok a s:=rfl
theorem Fm{a:Nat}{k:Bool->PM β}:(iK L a T>>=k) s=k (bc L s a T) s:=rfl
theorem Fl{k:α->PM β}:(iU L fin>>=k) s= .stop (aB L fin s).pos 60 s:=rfl
theorem kJ{k:Bool->PM β}(h:bc L s 0 T=true):(cH L T>>=k) s=k true s.ay:=by
 show b0 (cH L T) k s=_;unfold b0 cH;rw[h];rfl
theorem lj{k:Bool->PM β}(h:bc L s 0 T=false):(cH L T>>=k) s=k false s:=by
 show b0 (cH L T) k s=_;unfold b0 cH;simp[*]
theorem tF{k:Unit->PM β}(h:bc L s 0 T=true):(cr L fin T>>=k) s=k () s.ay:=by
 show b0 (cr L fin T) k s=_;unfold b0 cr;rw[h];rfl
theorem Fp{k:Unit->PM β}(h:bc L s 0 T=false):(cr L fin T>>=k) s= .stop (aB L fin s).pos 60 s:=by
 show b0 (cr L fin T) k s=_;unfold b0 cr;simp[*]
def j_(s:al)(k:Int)(ir:Bool):Bool:=ow s k !=8&&(ow s k !=9&&(ow s k !=3|| !ir))
theorem Kv{k:Unit->PM β}(h:j_ s a b=false):(ka a b>>=k) s=k () s:=by
 show b0 (ka a b) k s=_;unfold j_ at h;unfold b0 ka;simp[*]
theorem Ku{k:Unit->PM β}(h:j_ s a b=true):(ka a b>>=k) s= .stop (du s a) 61 s:=by
 show b0 (ka a b) k s=_;unfold j_ at h;unfold b0 ka;simp[*]
theorem Kx{k:ByteArray->PM β}(h:(aB L fin s).kind=1):(gD L fin>>=k) s=k (aB L fin s).text s.ay:=by
 show b0 (gD L fin) k s=_;unfold b0 gD;rw[h];rfl
theorem Kw{k:ByteArray->PM β}(h:(aB L fin s).kind≠1):(gD L fin>>=k) s= .stop (aB L fin s).pos 60 s:=by
 show b0 (gD L fin) k s=_;have e:((aB L fin s).kind !=1)=true:=by simp[*]
 unfold b0 gD;simp[*]
theorem R7{k:Unit->PM β}(h:dP L fin s= .ok () u):(dP L fin>>=k) s=k () u:=by
 show b0 (dP L fin) k s=_;unfold b0;rw[h]
theorem R8{k:Unit->PM β}(h:dP L fin s= .stop p e u):(dP L fin>>=k) s= .stop p e u:=by
 show b0 (dP L fin) k s=_;unfold b0;rw[h]
theorem qH{k:Int->PM β}(h:dW L fin aI wide s= .ok a u):(dW L fin aI wide>>=k) s=k a u:=by
 show b0 (dW L fin aI wide) k s=_;unfold b0;rw[h]
theorem Fo{k:Int->PM β}(h:dW L fin aI wide s= .stop p e u):(dW L fin aI wide>>=k) s= .stop p e u:=by
 show b0 (dW L fin aI wide) k s=_;unfold b0;rw[h]
theorem Kt{k:Int->PM β}:(iJ L fin>>=k) s=k s.nodes.length (s.add ⟨36,.empty,0,[],(aB L fin s).pos⟩):=rfl
theorem Cv{m:PM α}{k:α->PM β}{a:α}(h:m s= .ok a t):(m>>=k) s=k a t:=by
 show b0 m k s=_;unfold b0;rw[h]
theorem Cw{m:PM α}{k:α->PM β}(h:m s= .stop p e t):(m>>=k) s= .stop p e t:=by
 show b0 m k s=_;unfold b0;rw[h]
theorem Kr{m:PM α}{k:α->PM β}(h:(m>>=k) s≠.out):m s≠.out:=fun e=>h (by
 show b0 m k s=_;unfold b0;rw[e])
theorem WV{k:Int->PM β}(h:m s= .ok [a] t):(one m>>=k) s=k a t:=Cv (yR h)
theorem agP(h:m s= .stop p e t):one m s= .stop p e t:=by
 unfold one b0;rw[h]
theorem WW{k:Int->PM β}(h:m s= .stop p e t):(one m>>=k) s= .stop p e t:=Cw (agP h)
theorem R6{k:Int->PM β}(h:(one m>>=k) s≠.out):m s≠.out:=fun e=>Kr h (by
 unfold one b0;rw[e])
end
end
section
open Go Go.ChangeShapes Go.WideShapes Go.ChangeAt Go.RowKit
section
variable{H:Type}{gv:TypeId×Value->H}{P:Program}{W:World}{rq:Nat}{aj1:Nat->Bool}{held:Bool}
end
end
section
open Go Go.ChangeShapes Go.WideShapes Go.ChangeAt Go.RowKit
def pT{α β:Type}(R:α->β->Prop):List α->List β->Prop
 | [],[]=>True
 |a::l,b::m=>R a b/\pT R l m
 |_,_=>False
theorem pT.mono{α β:Type}{R c:α->β->Prop}(d:∀a b,R a b->c a b):∀{l:List α}{m:List β},pT R l m->pT c l m
 | [],[],_=>trivial
 | [],_::_,h=>h.elim
 |_::_,[],h=>h.elim
 |_::_,_::_,h=>⟨d _ _ h.1,pT.mono d h.2⟩
theorem Su{α β:Type}{R:α->β->Prop}{a:α}{b:β}(c:R a b):∀{l:List α}{m:List β},pT R l m->pT R (l++[a]) (m++[b])
 | [],[],_=>⟨c,ao⟩
 | [],_::_,h=>h.elim
 |_::_,[],h=>h.elim
 |_::_,_::_,h=>⟨h.1,Su c h.2⟩
section
variable{H:Type}{gv:TypeId×Value->H}{P:Program}{W:World}{rq:Nat}{aj1:Nat->Bool}{held:Bool}
end
end
section
open Go
structure cf where
 b:Nat
 la:Option Addr
 lc:Nat
 L:List bh
 fin:Int
def cf.cells(x:cf)(v:Value)(s:al):List Value:=[.slice x.la x.L.length x.lc,.int .i64 s.i,.int .i64 x.fin,v,.int .i64 s.bw,.int .i64 s.loops,.int .i64 s.bn]
def yq(x:cj)(v:Value):List Value:=[.int .i64 x.kind,.string x.op,.float .f64 x.num,v,.int .i64 x.pos]
def om:List cj->List Value->List Value
 |x::a,v::vs=>yq x v++om a vs
 |_,_=>[]
theorem Ub:∀(ns:List cj)(vs:List Value),ns.length=vs.length->(om ns vs).length=ns.length*5
 | [],[],_=>rfl
 |x::ns,v::vs,h=>by
  have:=Ub ns vs (by simpa using h);rw[om,eS,this,sJ];show 5+ns.length*5=_;omega
 | [],_::_,h=>by simp at h
 |_::_,[],h=>by simp at h
theorem Uc:∀(ns:List cj)(vs:List Value)(x:cj)(v:Value),ns.length=vs.length->om (ns++[x]) (vs++[v])=om ns vs++yq x v
 | [],[],x,v,_=>by simp[om]
 |y::ns,u::vs,x,v,h=>by
  have:=Uc ns vs x v (by simpa using h);rw[List.cons_append,List.cons_append,om,this,om,jj]
 | [],_::_,_,_,h=>by simp at h
 |_::_,[],_,_,h=>by simp at h
theorem GX:∀(ns:List cj)(vs:List Value)(i j:Nat)(x:cj)(v u:Value),ns[i]?=some x->vs[i]?=some v->(yq x v)[j]?=some u->(om ns vs)[i*5+j]?=some u
 | [],_,i,j,x,v,u,h,_,_=>by simp at h
 |_::_,[],i,j,x,v,u,_,h,_=>by simp at h
 |y::ns,w::vs,0,j,x,v,u,h,h',a=>by
  have h:y=x:=by simpa using h
  have h':w=v:=by simpa using h'
  subst h h';have c:=(kw.1 a).1;rw[om,Nat.zero_mul,gT,lD c];exact a
 |y::ns,w::vs,i+1,j,x,v,u,h,h',a=>by
  have b:(yq y w).length=5:=rfl;rw[om,j6 ae,b,show(i+1)*5+j-5=i*5+j by omega];exact GX ns vs i j x v u (by simpa using h) (by simpa using h') a
def xG(I:a_)(ns:List cj)(vs:List Value):Prop:=pT (fun x v=>Ae I 1 v (bB x.aJ)) ns vs
def Kf.rest(ns:List cj)(vs:List Value):FR where
 holds I _ _:=xG I ns vs
 Be _ _ _ _ _ h:=h
 mono _ _ _ _ h k:=pT.mono (fun _ _ q=>q.mono h) k
def fR(ns:List cj)(vs:List Value):ah:=.dq (Kf.rest ns vs)
structure eP where
 r:Row
 vs:List Value
def eP.ok(y:eP)(ns:List cj):Prop:=bz 35 5 (om ns y.vs) y.r/\ns.length=y.vs.length
def Bu(x:cf)(s:al)(y:eP):ah:=rn [.cells x.b (x.cells y.r.v s) 43,y.r.A,fR s.nodes y.vs]
def Ps.rest(x:cf)(s:al):FR where
 holds I h o:=∃y:eP,y.ok s.nodes/\(Bu x s y).holds I h o
 Be I h h' o d:=fun⟨y,a,b⟩=>⟨y,a,ah.local d b⟩
 mono I J h o c:=fun⟨y,a,b⟩=>⟨y,a,ah.mono c b⟩
def ak(x:cf)(s:al):ah:=.dq (Ps.rest x s)
variable{A F:ah}{I:a_}{y:eP}{w:World}
theorem eP.ok.len{ns:List cj}(h:y.ok ns):y.r.n=ns.length:=by
 have a:=h.1.len;rw[Ub _ _ h.2]at a;omega
theorem HM{x:cf}{s:al}(h:Sat I (bD [ak x s,F]) w):∃y:eP,y.ok s.nodes/\Sat I (bD [.cells x.b (x.cells y.r.v s) 43,y.r.A,fR s.nodes y.vs,F]) w:=by
 obtain⟨y,c,hs⟩:=h.Oa (Y:=eP) (R:=fun y=>y.ok s.nodes) (B:=fun y=>Bu x s y) 0 fun _ _⟨y,b,a⟩=>⟨y,b,a⟩;have a:Sat I (bD ([F]++[Bu x s y])) w:=hs.pick [1,0] rfl rfl;exact⟨y,c,a.Xh.pick [1,2,3,0] rfl rfl⟩
theorem aik{x:cf}{s:al}(h:Sat I (bD [ak x s,A,F]) w):∃y:eP,y.ok s.nodes/\Sat I (bD [.cells x.b (x.cells y.r.v s) 43,y.r.A,fR s.nodes y.vs,A,F]) w:=by
 obtain⟨y,c,hs⟩:=h.Oa (Y:=eP) (R:=fun y=>y.ok s.nodes) (B:=fun y=>Bu x s y) 0 fun _ _⟨y,b,a⟩=>⟨y,b,a⟩;have a:Sat I (bD ([A,F]++[Bu x s y])) w:=hs.pick [1,2,0] rfl rfl;exact⟨y,c,a.Xh.pick [2,3,4,0,1] rfl rfl⟩
theorem HN{x:cf}{s:al}(c:y.ok s.nodes):aE (bD [.cells x.b (x.cells y.r.v s) 43,y.r.A,fR s.nodes y.vs,F]) (bD [ak x s,F]):=⟨fun I w h=>by
 have a:Sat I (bD ([F]++[.cells x.b (x.cells y.r.v s) 43,y.r.A,fR s.nodes y.vs])) w:=h.pick [3,0,1,2] rfl rfl;have b:=a.Tn.Cp (B:=ak x s) 1 fun _ _ q=>⟨y,c,q⟩;exact⟨I,a_.le_refl I,b.pick [1,0] rfl rfl⟩⟩
theorem ef{x:cf}{s:al}{k:Nat}{u:Value}(h:∀v,(x.cells v s)[k]?=some u):aP (ak x s) ⟨x.b,k,none⟩ u:=⟨fun I h' o b⟨y,_,a⟩=>(YN 0 rfl (aP.cells (h y.r.v)):aP (Bu x s y) ⟨x.b,k,none⟩ u).h I h' o b a⟩
structure fI(x:cf)(F:ah):Prop where
 src:jd 5 (hO x.L) x.la x.L.length
 Cu:lq F x.la (hO x.L)
theorem fI.sub{x:cf}{B:ah}(hs:Sub A B)(h:fI x A):fI x B:=⟨h.src,h.Cu.sub hs⟩
def cf.p(x:cf)(s:al):cW:=⟨x.b,x.la,x.lc,x.L,x.fin,s.i⟩
theorem fI.da{x:cf}(h:fI x F){S:St}{bG:List Nat}{s:al}(i j:Nat)(hi:i∉bG)(c:j∉bG)(a:gt S i=ak x s)(b:gt S j=F):iD (x.p s) (.dq (rest S bG)):=by
 refine⟨aP.rest hi ?_,aP.rest hi ?_,aP.rest hi ?_,h.src,h.Cu.sub (oP j c b)⟩ <;> rw[a] <;> exact ef fun _=>rfl
structure sq where
 x:cf
 s:al
 t:al
 k:Nat
 v:Value
def fE:aQ where
 X:=sq
 args x:=[ag (some ⟨x.x.b,x.k,none⟩),x.v]
 pre x:=[ak x.x x.s]
 cond x:=(∀u,(x.x.cells u x.s).set x.k x.v=x.x.cells u x.t)/\x.t.nodes=x.s.nodes/\x.k<7/\x.v.oneCell'=true/\x.v.cells=#[x.v]
 val _ _:=ax undef
 post x _:=[ak x.x x.t]
theorem gk{P:Program}{o:Oper}{a v:Operand}{t:TypeId}{i:TypeInfo}(B:o.op= .store t a v)(hi:P.info? t=some i)(hk:i.size=1):e5 P o fE:=by
 refine⟨fun q F I w ρ A D H hs=>?_⟩;obtain⟨x,s,s',k,u⟩:=q;obtain⟨c,hn,g,z,f⟩:=D;dsimp only at c hn g z f;simp only[B,Op.operands,fE]at A;have l:ρ a= .pointer (some ⟨x.b,k,none⟩)/\ρ v=u:=by simpa using A
 obtain⟨hp,E⟩:=l;obtain⟨y,G,h⟩:=HM (F:=F) hs;have e:w.heap[x.b]?=some (.cells ⟨x.cells y.r.v s⟩ 43 (0,0)):=h.cells (j:=0) rfl;have d:=run_storeCells_at P x.b k 43 [u] 0 ⟨x.cells y.r.v s⟩ w e (by show k+0+1<=7;omega) (by simpa using z);have C:(x.cells y.r.v s).take k++[u]++(x.cells y.r.v s).drop (k+1)=x.cells y.r.v s':=by
  rw[<-c,List.set_eq_take_append_cons_drop,if_pos (by show k<7;exact g)];simp
 simp only[Nat.add_zero,A3]at d;rw[C]at d;have n:=h.setRow (j:=0) (b:=x.b) (vs:=x.cells y.r.v s) (t:=43) (CA:=x.cells y.r.v s') rfl;have p:Sat I (bD [.cells x.b (x.cells y.r.v s') 43,y.r.A,fR s'.nodes y.vs,F]) (w.setRow x.b ⟨x.cells y.r.v s'⟩):=by rw[hn];exact n
 obtain⟨J,m,r⟩:=(HN (by rw[hn];exact G)).h I _ p;exact⟨(),J,_,undef,ao,.inr ⟨by simp[execOp,B,hp,E,Instr.storeAt,Instr.sureAddr,storeVar,sizeOf,typeInfo,hi,hk,f,d],rfl⟩,rfl,m,r,aq⟩
end
section
open Go
structure vD where
 x:cf
 s:al
 y:eP
 k:Int
variable{ns:List cj}
theorem we{y:eP}(a:y.ok ns){rb i j:Nat}{d:cj}{u:Value}(e:y.r.a=some ⟨rb,0,none⟩)(hd:ns[i]?=some d)(b:∀v,(yq d v)[j]?=some u):aP y.r.A ⟨rb,0+i*5+j,none⟩ u:=by
 have hs:=a.1.Ct;rw[e]at hs;have hi:=(kw.1 hd).1;have:=hs.look (GX ns y.vs i j d _ u hd (gy (by rw[<-a.2];exact hi)) (b _));rw[Nat.add_assoc];exact this
def Wg(x:vD):=af x.x.b [au x.x.la x.x.L.length x.x.lc,ad x.s.i,ad x.x.fin,au x.y.r.a x.y.r.n x.y.r.cap,ad x.s.bw,ad x.s.loops,ad x.s.bn] 43
def AL:aQ where
 X:=vD
 args x:=[ag (some ⟨x.x.b,0,none⟩),ad x.k]
 pre x:=[Wg x,x.y.r.A,fR x.s.nodes x.y.vs]
 cond x:=x.y.ok x.s.nodes/\0<=x.k/\x.k<x.s.nodes.length
 val x _:=ax (ad (du x.s x.k))
 post x _:=[Wg x,x.y.r.A,fR x.s.nodes x.y.vs]
def H2(x:vD):List Value:=[au x.x.la x.x.L.length x.x.lc,ad ↑x.s.i,ad x.x.fin,au x.y.r.a x.y.r.n x.y.r.cap,ad x.s.bw,ad x.s.loops,ad x.s.bn]
def JE(x:vD)(F:ah):=[(0,af x.x.b (H2 x) 43),(1,x.y.r.A),(2,eT (Kf.rest x.s.nodes x.y.vs)),(3,F)]
theorem aaL(x:vD)(F:ah)(g:AL.cond x)(h:AL.aO x F):aw x.x.b 3/\j0 (ba Tryz.f27 1 5) [au x.y.r.a x.y.r.n x.y.r.cap,ad x.k] (fun b=>T1 x.y.r.A ⟨b.b,b.o+b.n.toNat*5+4,none⟩ (fun a=>ar AL x F (ax (ad a)) (JE x F))):=by
 delta j0 T1 H2 JE aw ad au af eT ax;obtain⟨⟨b,la,lc,L,fin⟩,s,y,k⟩:=x;obtain⟨c,e,hk⟩:=g;dsimp only at c e hk⊢;obtain⟨i,rfl⟩:∃i:Nat,k=(i:Int):=⟨k.toNat,(Int.toNat_of_nonneg e).symm⟩;have hi:i<s.nodes.length:=ae;obtain⟨d,hd⟩:∃d,s.nodes[i]?=some d:=⟨_,gy hi⟩;obtain⟨rb,f⟩:=c.1.AK (by rw[c.len];omega);have hn:=c.len;refine⟨aq,h9 5 rfl rfl rfl rfl,⟨rb,0,y.r.n,y.r.cap,i⟩,by rw[f],hC,d.pos,?_,(),ao,?_,az [0,1,2,3]⟩
 ·rw[cw];exact we c f hd fun v=>rfl
 ·show returned _=returned (.int .i64 (du s (i:Int)));unfold du;rw[cw,hd];rfl
theorem Tk:aC 27 AL:=fo 13 Tryz.func27 (fun _ _=>[(1,3,aR 0),(1,5,.qo (gb 5)),(1,7,.q [.ex 1 (.int .i64)])]) [] aY aY bA [] aaL
structure CY where
 o:vD
 ir:Bool
def D1:aQ where
 X:=CY
 Y:=Unit ⊕ Unit
 args x:=[ag (some ⟨x.o.x.b,0,none⟩),ad x.o.k,aj x.ir]
 pre x:=[af x.o.x.b [au x.o.x.la x.o.x.L.length x.o.x.lc,ad x.o.s.i,ad x.o.x.fin,au x.o.y.r.a x.o.y.r.n x.o.y.r.cap,ad x.o.s.bw,ad x.o.s.loops,ad x.o.s.bn] 43,x.o.y.r.A,fR x.o.s.nodes x.o.y.vs]
 cond x:=x.o.y.ok x.o.s.nodes/\0<=x.o.k/\x.o.k<x.o.s.nodes.length
 bZ x y:=match y with
  | .inl _=>j_ x.o.s x.o.k x.ir=false
  | .inr _=>j_ x.o.s x.o.k x.ir=true
 val x y:=match y with
  | .inl _=>.returned (.tuple #[])
  | .inr _=>.panicked [⟨iz (du x.o.s x.o.k) 61,false,false⟩]
 post x y:=match y with
  | .inl _=>[.cells x.o.x.b [.slice x.o.x.la x.o.x.L.length x.o.x.lc,.int .i64 x.o.s.i,.int .i64 x.o.x.fin,.slice x.o.y.r.a x.o.y.r.n x.o.y.r.cap,.int .i64 x.o.s.bw,.int .i64 x.o.s.loops,.int .i64 x.o.s.bn] 43,x.o.y.r.A,fR x.o.s.nodes x.o.y.vs]
  | .inr _=>[]
 sum:=some (hU Unit Unit)
def SS(aa:List Value)(pp:List ah)(a:vD->Unit->Prop):=aC 27 AL/\true=true/\∃(z:vD),aa=[ag (some ⟨z.x.b,0,none⟩),ad z.k]/\pp=[af z.x.b (H2 z) 43,z.y.r.A,eT (Kf.rest z.s.nodes z.y.vs)]/\(z.y.ok z.s.nodes/\0<=z.k/\z.k<z.s.nodes.length)/\True/\∀(b:Unit),True->a z b
def O1(x:CY):List Value:=[au x.o.x.la x.o.x.L.length x.o.x.lc,ad ↑x.o.s.i,ad x.o.x.fin,au x.o.y.r.a x.o.y.r.n x.o.y.r.cap,ad x.o.s.bw,ad x.o.s.loops,ad x.o.s.bn]
def Rc(x:CY)(F:ah):=SS [ag (some ⟨x.o.x.b,0,none⟩),ad x.o.k] [af x.o.x.b (O1 x) 43,x.o.y.r.A,eT (Kf.rest x.o.s.nodes x.o.y.vs)] (fun d c=>F9 [ag (some ⟨x.o.x.b,0,none⟩),ad (du d.s d.k),ad 61] (fun b a=>ar D1 x F (dL b.p b.e) (JE d F)))
def JZ(x:CY)(F:ah):=ar D1 x F eC [(0,af x.o.x.b (O1 x) 43),(1,x.o.y.r.A),(2,eT (Kf.rest x.o.s.nodes x.o.y.vs)),(3,F)]
theorem ahK(x:CY)(F:ah)(p:D1.cond x)(q:D1.aO x F):aw x.o.x.b 3/\j0 (ba Tryz.f26 0 5) [au x.o.y.r.a x.o.y.r.n x.o.y.r.cap,ad x.o.k] (fun f=>T1 x.o.y.r.A ⟨f.b,f.o+f.n.toNat*5,none⟩ (fun e=>Br (e !=8) (Br (e !=9) (Br (e !=3) (Rc x F) (Br (!x.ir) (Rc x F) (JZ x F))) (JZ x F)) (JZ x F))):=by
 delta j0 T1 H2 SS O1 F9 JE Rc eC JZ dL aw ad ag au af eT ax;obtain⟨⟨⟨b,la,lc,L,fin⟩,s,y,k⟩,ir⟩:=x;obtain⟨c,m,hk⟩:=p;dsimp only at c m hk⊢;obtain⟨i,rfl⟩:∃i:Nat,k=(i:Int):=⟨k.toNat,(Int.toNat_of_nonneg m).symm⟩;have hi:i<s.nodes.length:=ae;obtain⟨d,hd⟩:∃d,s.nodes[i]?=some d:=⟨_,gy hi⟩;obtain⟨rb,n⟩:=c.1.AK (by rw[c.len];omega);have hn:=c.len;have g:ow s (i:Int)=d.kind:=by unfold ow;rw[cw,hd];rfl
 refine⟨aq,h9 5 rfl rfl rfl rfl,⟨rb,0,y.r.n,y.r.cap,i⟩,by rw[n],hC,d.kind,?_,?_⟩
 ·rw[cw];exact we (j:=0) c n hd fun v=>rfl
 refine kL (A:=j_ s (i:Int) ir=true) (fun k=>aG (fun a=>aG (fun h=>aG (fun l=>k ?_) (fun l=>aG (fun hn=>k ?_) (fun hn=>⟨.inl (),?_,rfl,az [0,1,2,3]⟩))) (fun h=>⟨.inl (),?_,rfl,az [0,1,2,3]⟩)) (fun a=>⟨.inl (),?_,rfl,az [0,1,2,3]⟩)) (fun o=>bO Tk ⟨⟨b,la,lc,L,fin⟩,s,y,(i:Int)⟩ ⟨c,m,hk⟩ fun _ _=>kV Uj ⟨b,du s (i:Int),61⟩ fun _ _=>⟨.inr (),o,rfl,az [3]⟩)
 ·unfold j_;rw[g,show(d.kind !=8)=true from a,show(d.kind !=9)=true from h,show(d.kind !=3)=true from l];rfl
 ·unfold j_;rw[g,show(d.kind !=8)=true from a,show(d.kind !=9)=true from h,show(d.kind !=3)=false from l,show(!ir)=true from hn];rfl
 ·show j_ s (i:Int) ir=false;unfold j_;rw[g,show(d.kind !=8)=true from a,show(d.kind !=9)=true from h,show(d.kind !=3)=false from l,show(!ir)=false from hn];rfl
 ·show j_ s (i:Int) ir=false;unfold j_;rw[g,show(d.kind !=8)=true from a,show(d.kind !=9)=false from h];rfl
 ·show j_ s (i:Int) ir=false;unfold j_;rw[g,show(d.kind !=8)=false from a];rfl
theorem ahJ:aC 26 D1:=fo 34 Tryz.func26 (fun _ _=>[(0,3,aR 0),(0,5,.qo (gb 5)),(0,7,.q [.ex 1 (.int .i64)]),(2,3,.c AL [0,1,2] [0,1,2]),(2,4,aW yt)]) [] aY aY bA [] ahK
structure K3 where
 x:cf
 s:al
 y:eP
 n:cj
 kr:Row
def Hy:aQ where
 X:=K3
 Y:=Row
 args x:=[.pointer (some ⟨x.x.b,0,none⟩),.agg #[.int .i64 x.n.kind,.string x.n.op,.float .f64 x.n.num,.slice x.kr.a x.kr.n x.kr.cap,.int .i64 x.n.pos]]
 pre x:=[af x.x.b [au x.x.la x.x.L.length x.x.lc,ad x.s.i,ad x.x.fin,au x.y.r.a x.y.r.n x.y.r.cap,ad x.s.bw,ad x.s.loops,ad x.s.bn] 43,x.y.r.A,fR x.s.nodes x.y.vs,x.kr.A]
 cond x:=x.y.ok x.s.nodes/\x.s.nodes.length<=4194304/\bz 3 1 (bB x.n.aJ) x.kr
 bZ x r:=bz 35 5 (om (x.s.nodes++[x.n]) (x.y.vs++[x.kr.v])) r
 val x _:=ax (ad x.s.nodes.length)
 post x r:=[af x.x.b [au x.x.la x.x.L.length x.x.lc,ad x.s.i,ad x.x.fin,au r.a r.n r.cap,ad x.s.bw,ad x.s.loops,ad x.s.bn] 43,r.A,fR (x.s.nodes++[x.n]) (x.y.vs++[x.kr.v])]
theorem acr{A B F:ah}{vs:List Value}{n:cj}{kr:Row}(hk:bz 3 1 (bB n.aJ) kr):aE (bD [A,B,fR ns vs,kr.A,F]) (bD [A,B,fR (ns++[n]) (vs++[kr.v]),F]):=⟨fun I w h=>by
 obtain⟨J,b,a,d⟩:=h.adl 3 hk rfl;have c:=d.Cp (B:=fR (ns++[n]) (vs++[kr.v])) 2 fun h o(q:xG J ns vs)=>(Su (R:=fun(x:cj)v=>Ae J 1 v (bB x.aJ)) a q:xG J (ns++[n]) (vs++[kr.v]));exact⟨J,b,c.pick [0,1,2,4] rfl rfl⟩⟩
def Ec(x:K3):List Value:=[ad x.n.kind,ai x.n.op,float f64 x.n.num,au x.kr.a x.kr.n x.kr.cap,ad x.n.pos]
theorem agE(x:K3)(F:ah)(m:Hy.cond x)(q:Hy.aO x F):∀(d:Nat),true=true/\aw x.x.b 3/\cz d (∀(c:Nat),e5 Tryz.prog (ba Tryz.f18 1 7) (de (35:TypeId) 5 64)/\true=true/\∃(b:oZ),[au x.y.r.a x.y.r.n x.y.r.cap,au (bI c) 1 1]=(kF b)/\[x.y.r.A]=[b.r.A]/\(bz 35 5 b.cs b.r/\b.ys.length=b.m*5/\(∀(a:Value),a∈b.ys->a.oneCell'=true)/\(b.r.n+b.m)*64<=140737488355328/\b.r.n+b.m<=9223372036854775807/\(b.a=none->b.m=0/\b.c=0))/\(∀(a:Addr),b.a=some a->c4 (aH [(0,af x.x.b [au x.x.la x.x.L.length x.x.lc,ad ↑x.s.i,ad x.x.fin,au x.y.r.a x.y.r.n x.y.r.cap,ad x.s.bw,ad x.s.loops,ad x.s.bn] 43),(1,x.y.r.A),(2,eT (Kf.rest x.s.nodes x.y.vs)),(3,x.kr.A),(4,F),(1000,af d (Ec x) 35),(2060,af c (Ec x) 35)] [1]) a b.ys)/\∀(a:Row),(bz 35 5 (b.cs++b.ys) a/\a.n=b.r.n+b.m/\(b.m=0->a=b.r))->aw x.x.b 3/\aw x.x.b 3/\((-9223372036854775808:Int)<=(a.n:Int)-1/\(a.n:Int)-1<=(9223372036854775807:Int))/\ar Hy x F (ax (ad ((a.n:Int)-1))) [(0,af x.x.b [au x.x.la x.x.L.length x.x.lc,ad ↑x.s.i,ad x.x.fin,au a.a a.n a.cap,ad x.s.bw,ad x.s.loops,ad x.s.bn] 43),(1,a.A),(2,eT (Kf.rest x.s.nodes x.y.vs)),(3,x.kr.A),(4,F),(1000,af d (Ec x) 35),(2060,af c (Ec x) 35)]):=by
 delta bI kF Ec aH aw cz ad ai au af eT ax;obtain⟨⟨b,la,lc,L,fin⟩,s,y,n,kr⟩:=x;obtain⟨g,hn,hk⟩:=m;dsimp only at g hn hk⊢;have hl:=g.len;intro c;refine⟨rfl,aq,aq,aq,aq,aq,aq,fun p=>br (jE 5 64 rfl rfl rfl rfl rfl rfl rfl (by decide)) ⟨y.r,om s.nodes y.vs,some ⟨p,0,none⟩,1,1,yq n kr.v⟩ ⟨g.1,rfl,?_,bg,bg,fun h=>nomatch h⟩ (?_) fun r f=>?_⟩
 ·intro u i;simp only[yq,List.mem_cons,List.not_mem_nil,or_false]at i;rcases i with rfl|rfl|rfl|rfl|rfl <;> rfl
 ·intro a l;cases l;exact c4.rest (j:=2060) aL (c4.cells (fun j u o=>by rw[gT];exact o))
 ·obtain⟨f,k,_⟩:=f;dsimp only at f k;rw[<-Uc _ _ _ _ g.2]at f;have e:(r.n:Int)-1=(s.nodes.length:Int):=ae;refine⟨aq,aq,aK,r,f,by rw[e];rfl,aE.trans (az [0,1,2,3,4]) (acr hk)⟩
theorem agD:aC 18 Hy:=fo 21 Tryz.func18 (fun _ _=>[(0,0,.n 1000),(1,4,aR 0),(1,5,.q (eJ 1000)),(1,6,.n 2060),(1,7,.o (de 35 5 64) [1] [1]),(1,10,.w [.z00 0]),(2,3,aR 0)]) [] aY aY bA [] agE
structure FH where
 x:cf
 s:al
 k:Int
def sy:aQ where
 X:=FH
 args x:=[ag (some ⟨x.x.b,0,none⟩),ad x.k]
 pre x:=[ak x.x x.s]
 cond x:=0<=x.k/\x.k<x.s.nodes.length
 val x _:=ax (ad (du x.s x.k))
 post x _:=[ak x.x x.s]
theorem vP:aC 27 sy:=Tk.AR fun q F I w c _ hs=>by
 obtain⟨y,b,a⟩:=HM (F:=F) hs;exact⟨⟨q.x,q.s,y,q.k⟩,I,a_.le_refl I,⟨b,c⟩,ao,rfl,a,fun _ _=>⟨(),ao,rfl,HN b⟩⟩
structure Ak where
 x:cf
 s:al
 k:Int
 ir:Bool
def yY:aQ where
 X:=Ak
 Y:=Unit ⊕ Unit
 args x:=[ag (some ⟨x.x.b,0,none⟩),ad x.k,aj x.ir]
 pre x:=[ak x.x x.s]
 cond x:=0<=x.k/\x.k<x.s.nodes.length
 bZ x y:=match y with
  | .inl _=>j_ x.s x.k x.ir=false
  | .inr _=>j_ x.s x.k x.ir=true
 val x y:=match y with
  | .inl _=>.returned (.tuple #[])
  | .inr _=>.panicked [⟨iz (du x.s x.k) 61,false,false⟩]
 post x y:=match y with
  | .inl _=>[ak x.x x.s]
  | .inr _=>[]
 sum:=some (hU Unit Unit)
theorem HJ:aC 26 yY:=ahJ.AR fun q F I w d _ hs=>by
 obtain⟨y,c,b⟩:=HM (F:=F) hs;refine⟨⟨⟨q.x,q.s,y,q.k⟩,q.ir⟩,I,a_.le_refl I,⟨c,d⟩,ao,rfl,b,fun z a=>?_⟩
 match z,a with
 | .inl _,a=>exact⟨.inl (),a,rfl,HN c⟩
 | .inr _,a=>exact⟨.inr (),a,rfl,aE.refl _⟩
structure n6 where
 x:cf
 s:al
 n:cj
 kr:Row
def fD:aQ where
 X:=n6
 args x:=[.pointer (some ⟨x.x.b,0,none⟩),.agg #[.int .i64 x.n.kind,.string x.n.op,.float .f64 x.n.num,.slice x.kr.a x.kr.n x.kr.cap,.int .i64 x.n.pos]]
 pre x:=[ak x.x x.s,x.kr.A]
 cond x:=x.s.nodes.length<=4194304/\bz 3 1 (bB x.n.aJ) x.kr
 val x _:=ax (ad x.s.nodes.length)
 post x _:=[ak x.x (x.s.add x.n)]
theorem e_:aC 18 fD:=agD.AR fun q F I w c _ hs=>by
 obtain⟨y,d,a⟩:=aik (F:=F) hs;refine⟨⟨q.x,q.s,y,q.n,q.kr⟩,I,a_.le_refl I,⟨d,c.1,c.2⟩,ao,rfl,a,fun r e=>⟨(),ao,rfl,?_⟩⟩;have b:eP.ok ⟨r,y.vs++[q.kr.v]⟩ (q.s.nodes++[q.n]):=⟨e,by simp[d.2]⟩;exact HN (x:=q.x) (s:={q.s with nodes:=q.s.nodes++[q.n]}) b
end
section
open Go
theorem adO(L:List bh)(fin:Int)(s:al):aB L fin s=cn L fin s.i:=rfl
structure iB where
 x:cf
 s:al
 t:ByteArray
def ja(x:iB):Option Addr:=some ⟨x.x.b,0,none⟩
def hZ:aQ where
 X:=iB
 Y:=Unit ⊕ Unit
 args x:=[ag (ja x),ai x.t]
 pre x:=[ak x.x x.s]
 cond x:=x.x.L.length<=1048576/\x.s.i<=x.x.L.length
 aO x F:=fI x.x F
 bZ x y:=match y with
  | .inl _=>bc x.x.L x.s 0 x.t=true
  | .inr _=>bc x.x.L x.s 0 x.t=false
 val x y:=match y with
  | .inl _=>.returned (.bool true)
  | .inr _=>.returned (.bool false)
 post x y:=match y with
  | .inl _=>[ak x.x x.s.ay]
  | .inr _=>[ak x.x x.s]
 eM _ _ _ hs h:=fI.sub hs h
 sum:=some (hU Unit Unit)
def pE(z:vz):List Value:=[ag (some ⟨z.p.b,0,none⟩),ad ↑z.a,ai z.t]
def pF(z:vz):=z.p.L.length<=1048576/\z.p.i<=1048576/\z.a<=1048576
def gr(aa:List Value)(rr:ah)(a:vz->Unit->Prop):=aC 29 gz/\true=true/\∃(z:vz),aa=(pE z)/\([]:List ah)=[]/\pF z/\iD z.p rr/\∀(b:Unit),True->a z b
def kf(x:iB)(F:ah):=[(0,ak x.x x.s),(1,F)]
def lg(z:sq)(w0:Value):List Value:=[au z.x.la z.x.L.length z.x.lc,ad ↑z.s.i,ad z.x.fin,w0,ad z.s.bw,ad z.s.loops,ad z.s.bn]
def lh(z:sq)(w0:Value):List Value:=[au z.x.la z.x.L.length z.x.lc,ad ↑z.t.i,ad z.x.fin,w0,ad z.t.bw,ad z.t.loops,ad z.t.bn]
def dK(b:Oper)(aa:List Value)(pp:List ah)(a:sq->Unit->Prop):=e5 Tryz.prog b fE/\true=true/\∃(z:sq),aa=[ag (some ⟨z.x.b,z.k,none⟩),z.v]/\pp=[ak z.x z.s]/\((∀(w0:Value),(lg z w0).set z.k z.v=(lh z w0))/\z.t.nodes=z.s.nodes/\z.k<7/\z.v.oneCell'=true/\z.v.cells=⟨[z.v]⟩)/\True/\∀(c:Unit),True->a z c
theorem adw(x:iB)(F:ah)(i:hZ.cond x)(f:hZ.aO x F):gr [ag (ja x),ad 0,ai x.t] (aH (kf x F) []) (fun e d=>Br (h8 e.p.L (e.p.i+e.a) e.t) (T1 (ak x.x x.s) ⟨x.x.b,1,none⟩ (fun c=>dx c/\dK (ba Tryz.f38 2 7) [ag (some ⟨x.x.b,1,none⟩),ad (c+1)] [ak x.x x.s] (fun b a=>ar hZ x F fm [(0,ak b.x b.t),(1,F)]))) (ar hZ x F cV (kf x F))):=by
 delta pE pF gr ja kf T1 dx lg lh dK fm c6 cV aH ak ad ai aj ag au ax;obtain⟨x,s,t⟩:=x;obtain⟨g,hi⟩:=i;replace f:fI x F:=f;dsimp only at g hi⊢;refine br jK ⟨x.p s,0,t⟩ ⟨g,by show s.i<=1048576;omega,bg⟩ (f.da 0 1 aL aL rfl rfl) fun _ _=>aG (fun h=>⟨_,ef fun _=>rfl,aK,gk rfl rfl rfl,rfl,⟨x,s,s.ay,1,_⟩,rfl,rfl,⟨fun _=>rfl,rfl,bg,rfl,rfl⟩,ao,fun _ _=>⟨.inl (),h,rfl,az [0,1]⟩⟩) (fun h=>⟨.inr (),h,rfl,az [0,1]⟩)
theorem jI:aC 38 hZ:=fo 15 Tryz.func38 (fun _ _=>[(1,2,aW gz),(2,3,c9),(2,7,dV fE)]) [] aY aY bA [] adw
def ia:aQ where
 X:=iB
 Y:=Unit ⊕ Unit
 args x:=[ag (ja x),ai x.t]
 pre x:=[ak x.x x.s]
 cond x:=x.x.L.length<=1048576/\x.s.i<=x.x.L.length
 aO x F:=fI x.x F
 bZ x y:=match y with
  | .inl _=>bc x.x.L x.s 0 x.t=true
  | .inr _=>bc x.x.L x.s 0 x.t=false
 val x y:=match y with
  | .inl _=>.returned (.tuple #[])
  | .inr _=>.panicked [⟨iz (aB x.x.L x.x.fin x.s).pos 60,false,false⟩]
 post x y:=match y with
  | .inl _=>[ak x.x x.s.ay]
  | .inr _=>[]
 eM _ _ _ hs h:=fI.sub hs h
 sum:=some (hU Unit Unit)
def fJ(aa:List Value)(pp:List ah)(rr:ah)(a:iB->Unit->Prop)(b:iB->Unit->Prop):=aC 38 hZ/\true=true/\∃(z:iB),aa=[ag (ja z),ai z.t]/\pp=[ak z.x z.s]/\(z.x.L.length<=1048576/\z.s.i<=z.x.L.length)/\fI z.x rr/\(∀(c:Unit),bc z.x.L z.s 0 z.t=true->a z c)/\∀(d:Unit),bc z.x.L z.s 0 z.t=false->b z d
def mr(d:iB)(F:ah):=[(0,ak d.x d.s.ay),(1,F)]
def kv(aa:List Value)(rr:ah)(a:cW->Unit->Prop):=aC 15 kS/\true=true/\∃(z:cW),aa=(ib z)/\([]:List ah)=[]/\z.L.length<=1048576/\iD z rr/\∀(b:Unit),True->a z b
def jt(b:cW):=dL (cn b.L b.fin b.i).pos 60
theorem af9(x:iB)(F:ah)(g:ia.cond x)(e:ia.aO x F):fJ [ag (ja x),ai x.t] [ak x.x x.s] (aH (kf x F) [0]) (fun d a=>ar ia x F eC (mr d F)) (fun d c=>kv [ag (ja x)] (aH (kf d F) []) (fun b a=>ar ia x F (jt b) (kf d F))):=by
 delta ja fJ kf eC mr ib kv jt dL aH ak ai ag ax;obtain⟨x,s,t⟩:=x;obtain⟨f,hi⟩:=g;replace e:fI x F:=e;dsimp only at f hi⊢;refine br jI ⟨x,s,t⟩ ⟨f,hi⟩ (e.sub (bP 1)) ⟨fun _ h=>⟨.inl (),h,rfl,az [0,1]⟩,fun _ h=>br pe (x.p s) f (e.da 0 1 aL aL rfl rfl) fun _ _=>⟨.inr (),h,rfl,az [1]⟩⟩
theorem af8:aC 39 ia:=fo 10 Tryz.func39 (fun _ _=>[(0,2,bu hZ),(1,1,aW kS)]) [] aY aY bA [] af9
structure jC where
 x:cf
 s:al
def mn(x:jC):Option Addr:=some ⟨x.x.b,0,none⟩
def vV:aQ where
 X:=jC
 args x:=[ag (mn x)]
 pre x:=[ak x.x x.s]
 cond x:=x.x.L.length<=1048576/\x.s.nodes.length<=4194304
 aO x F:=fI x.x F
 val x _:=ax (ad x.s.nodes.length)
 post x _:=[ak x.x (x.s.add ⟨36,.empty,0,[],(aB x.x.L x.x.fin x.s).pos⟩)]
 eM _ _ _ hs h:=fI.sub hs h
def lN(x:jC):List Value:=[ag (mn x)]
def kg(z:n6):List Value:=[ag (some ⟨z.x.b,0,none⟩),agg ⟨[ad z.n.kind,ai z.n.op,float f64 z.n.num,au z.kr.a z.kr.n z.kr.cap,ad z.n.pos]⟩]
def kh(z:n6):=z.s.nodes.length<=4194304/\bz 3 1 (bB z.n.aJ) z.kr
def c7(aa:List Value)(pp:List ah)(a:n6->Unit->Prop):=aC 18 fD/\true=true/\∃(z:n6),aa=(kg z)/\pp=[ak z.x z.s,z.kr.A]/\kh z/\True/\∀(b:Unit),True->a z b
def jQ(b:n6):=ad ↑b.s.nodes.length
def fq(b:n6):=ax (jQ b)
theorem acn(x:jC)(F:ah)(g:vV.cond x)(e:vV.aO x F):e7 (lN x) (aH [(0,ak x.x x.s),(1,F)] []) (fun d c=>c7 [ag (mn x),agg ⟨[ad 36,ai ⟨#[]⟩,float f64 0,au none 0 0,ad (cn d.L d.fin d.i).pos]⟩] [ak x.x x.s,bd] (fun b a=>ar vV x F (fq b) [(0,ak b.x (b.s.add b.n)),(1,F),(999,bd)])):=by
 delta ib e7 mn lN kg kh c7 jQ fq aH ak ad ai ag au bd ax;obtain⟨x,s⟩:=x;obtain⟨f,hn⟩:=g;replace e:fI x F:=e;dsimp only at f hn⊢;refine br kz (x.p s) f (e.da 0 1 aL aL rfl rfl) fun _ _=>bO e_ ⟨x,s,⟨36,.empty,0,[],(aB x.L x.fin s).pos⟩,dG⟩ ⟨hn,.nil rfl⟩ fun _ _=>⟨(),ao,rfl,az [0,1]⟩
theorem GW:aC 31 vV:=fo 9 Tryz.func31 (fun _ _=>[(1,2,aW iq),(1,5,.c fD [0,999] [0])]) [] aY aY bA [] acn
def tL:aQ where
 X:=jC
 Y:=Unit ⊕ Unit
 args x:=[ag (mn x)]
 pre x:=[ak x.x x.s]
 cond x:=x.x.L.length<=1048576
 aO x F:=fI x.x F
 bZ x y:=match y with
  | .inl _=>(aB x.x.L x.x.fin x.s).kind=1
  | .inr _=>(aB x.x.L x.x.fin x.s).kind≠1
 val x y:=match y with
  | .inl _=>.returned (.string (aB x.x.L x.x.fin x.s).text)
  | .inr _=>.panicked [⟨iz (aB x.x.L x.x.fin x.s).pos 60,false,false⟩]
 post x y:=match y with
  | .inl _=>[ak x.x x.s.ay]
  | .inr _=>[]
 eM _ _ _ hs h:=fI.sub hs h
 sum:=some (hU Unit Unit)
theorem ui{L:List bh}{fin:Int}{s:al}(h:(aB L fin s).kind≠0):s.i<L.length:=iX (fin:=fin) h
def q0(f:cW):List Value:=[ad (cn f.L f.fin f.i).kind,ai (cn f.L f.fin f.i).text,float f64 (cn f.L f.fin f.i).num,ad (cn f.L f.fin f.i).pos,aj (cn f.L f.fin f.i).aD]
def uK(f:cW):=ai (cn f.L f.fin f.i).text
theorem ala(x:jC)(F:ah)(k:tL.cond x)(g:tL.aO x F):e7 (lN x) (aH [(0,ak x.x x.s),(1,F)] []) (fun f e=>∀(d:Nat),cz d (aw d 0/\Br ((cn f.L f.fin f.i).kind !=1) (kv (lN x) (aH [(0,ak x.x x.s),(1,F),(2020,af d (q0 f) 53)] []) (fun b a=>ar tL x F (jt b) [(0,ak x.x x.s),(1,F),(2020,af d (q0 f) 53)])) (T1 (ak x.x x.s) ⟨x.x.b,1,none⟩ (fun c=>dx c/\dK (ba Tryz.f65 4 7) [ag (some ⟨x.x.b,1,none⟩),ad (c+1)] [ak x.x x.s] (fun b a=>aw d 1/\ar tL x F (ax (uK f)) [(0,ak b.x b.t),(1,F),(2020,af d (q0 f) 53)]))))):=by
 delta ib e7 mn lN kv q0 jt T1 dx lg lh dK uK dL aH ak aw cz ad ai aj ag au af ax;obtain⟨x,s⟩:=x;have j:x.L.length<=1048576:=k;replace g:fI x F:=g;dsimp only;refine br kz (x.p s) j (g.da 0 1 aL aL rfl rfl) fun _ _ c=>⟨aq,aq,aq,aq,aq,aq,aG (fun h=>br pe (x.p s) j (g.da 0 1 aL aL rfl rfl) fun _ _=>⟨.inr (),?_,rfl,az [1]⟩) (fun h=>?_)⟩
 ·intro e;have e:(cn x.L x.fin s.i).kind=1:=e;have h:((cn x.L x.fin s.i).kind !=1)=true:=h;rw[e]at h;cases h
 ·have h:((aB x.L x.fin s).kind !=1)=false:=h;have i:(aB x.L x.fin s).kind=1:=by simpa using h
  have hi:=ui (L:=x.L) (fin:=x.fin) (s:=s) (by rw[i];decide);exact⟨_,ef fun _=>rfl,aK,gk rfl rfl rfl,rfl,⟨x,s,s.ay,1,_⟩,rfl,rfl,⟨fun _=>rfl,rfl,bg,rfl,rfl⟩,ao,fun _ _=>⟨aq,.inl (),i,rfl,az [0,1]⟩⟩
theorem KL:aC 65 tL:=fo 20 Tryz.func65 (fun _ _=>[(1,1,aW iq),(1,2,.n 2020),(1,3,.w (eJ 2020)),(2,1,aR 2020),(3,1,aW kS),(4,3,c9),(4,7,dV fE),(5,1,aR 2020)]) [] aY aY bA [] ala
def qB:aQ where
 X:=jC
 Y:=al ⊕ Int
 args x:=[ag (mn x)]
 pre x:=[ak x.x x.s]
 cond x:=x.x.L.length<=1048576/\x.s.i<=x.x.L.length
 aO x F:=fI x.x F
 bZ x y:=match y with
  | .inl u=>dP x.x.L x.x.fin x.s= .ok () u
  | .inr p=>dP x.x.L x.x.fin x.s= .stop p 60 x.s
 val x y:=match y with
  | .inl _=>.returned (.tuple #[])
  | .inr p=>.panicked [⟨iz p 60,false,false⟩]
 post x y:=match y with
  | .inl u=>[ak x.x u]
  | .inr _=>[]
 eM _ _ _ hs h:=fI.sub hs h
 sum:=some (hU al Int)
theorem ajr(x:jC)(F:ah)(r:qB.cond x)(o:qB.aO x F):true=true/\fJ [ag (mn x),ai ⟨#[59]⟩] [ak x.x x.s] (aH [(0,ak x.x x.s),(1,F)] [0]) (fun l a=>ar qB x F eC (mr l F)) (fun l k=>gr [ag (mn x),ad 0,ai ⟨#[125]⟩] (aH (kf l F) []) (fun j i=>Br (h8 j.p.L (j.p.i+j.a) j.t) (ar qB x F eC (kf l F)) (T1 (ak l.x l.s) ⟨x.x.b,1,none⟩ (fun h=>eI (ak l.x l.s) ⟨x.x.b,0,none⟩ (fun g f e=>aS (h>=f) (ar qB x F eC (kf l F)) (e7 (lN x) (aH (kf l F) []) (fun d c=>Br (cn d.L d.fin d.i).aD (ar qB x F eC (kf l F)) (aC 15 kS/\true=true/\∃(b:cW),(lN x)=(ib b)/\([]:List ah)=[]/\b.L.length<=1048576/\iD b (aH (kf l F) [])/\∀(a:Unit),True->ar qB x F (jt b) (kf l F))))))))):=by
 delta ja fJ mn eC mr pE pF gr kf T1 eI ib e7 lN jt dL aH ak ad ai ag au aS ax;obtain⟨x,s⟩:=x;obtain⟨q,hi⟩:=r;replace o:fI x F:=o;dsimp only at q hi⊢;refine⟨rfl,jI,rfl,⟨x,s,dm⟩,rfl,rfl,⟨q,hi⟩,o.sub (bP 1),fun _ h=>⟨.inl s.ay,?_,rfl,az [0,1]⟩,fun _ h=>br jK ⟨x.p s,0,rc⟩ ⟨q,by show s.i<=1048576;omega,bg⟩ (o.da 0 1 aL aL rfl rfl) fun _ _=>aG (fun m=>⟨.inl s,?_,rfl,az [0,1]⟩) (fun m=>⟨_,ef fun _=>rfl,_,_,_,ef fun _=>rfl,bo (fun p=>⟨.inl s,?_,rfl,az [0,1]⟩) (fun p=>br kz (x.p s) q (o.da 0 1 aL aL rfl rfl) fun _ _=>aG (fun n=>⟨.inl s,?_,rfl,az [0,1]⟩) (fun n=>br pe (x.p s) q (o.da 0 1 aL aL rfl rfl) fun _ _=>⟨.inr (aB x.L x.fin s).pos,?_,rfl,az [1]⟩))⟩)⟩
 ·have h:bc x.L s 0 dm=true:=h;show dP x.L x.fin s=_;unfold dP;rw[h];rfl
 ·have h:bc x.L s 0 dm=false:=h;have m:bc x.L s 0 rc=true:=m;show dP x.L x.fin s=_;unfold dP;rw[h,m];rfl
 ·have h:bc x.L s 0 dm=false:=h;have p:(s.i:Int)>=x.L.length:=p;show dP x.L x.fin s=_;unfold dP;rw[h,bv (show s.i>=x.L.length by omega),Bool.true_or,mc];rfl
 ·have h:bc x.L s 0 dm=false:=h;have n:(aB x.L x.fin s).aD=true:=n;show dP x.L x.fin s=_;unfold dP;rw[h,n,mc,mc];rfl
 ·have h:bc x.L s 0 dm=false:=h;have m:bc x.L s 0 rc=false:=m;have p:¬(s.i:Int)>=x.L.length:=p;have n:(aB x.L x.fin s).aD=false:=n;show dP x.L x.fin s=_;unfold dP;rw[h,m,n,bF (show ¬s.i>=x.L.length by omega)];rfl
theorem RY:aC 33 qB:=fo 27 Tryz.func33 (fun _ _=>[(0,1,bu hZ),(0,4,aW gz),(0,10,c9),(0,14,.q [.ex 0 .slice]),(0,20,aW iq),(1,1,aW kS)]) [] aY aY bA [] ajr
end
section
open Go
structure MJ where
 n:Nat
def DV(K:bQ):aQ where
 X:=MJ
 args x:=[float f64 x.n]
 aO _ F:=K.rd F
 val x _:=ax (ai (K.tv x.n))
 eM _ _ _ hs h:=K.mono h hs
structure iA(F:ah):Prop where
 Tj:∀i m,pd[i]?=some m->aP F ⟨0,i,none⟩ (.string m)
 U9:∀n row,nH[n]?=some row->∃b o c,aP F ⟨3,n,none⟩ (.slice (some ⟨b,o,none⟩) row.length c)/\c4 F ⟨b,o,none⟩ (row.map string)
variable{A B:ah}{fin:Int}{L:List bh}{tv:Nat->ByteArray}
theorem iA.sub(h:iA A)(hs:Sub A B):iA B:=⟨fun i m e=>(h.Tj i m e).sub hs,fun n row e=>let ⟨b,o,c,a,d⟩:=h.U9 n row e;⟨b,o,c,a.sub hs,d.sub hs⟩⟩
structure cA(K:bQ)(x:cf)(F:ah):Prop where
 ls:fI x F
 gl:eH K F
 gp:iA F
theorem cA.sub{K:bQ}{x:cf}(hs:Sub A B)(h:cA K x A):cA K x B:=⟨h.ls.sub hs,h.gl.sub hs,h.gp.sub hs⟩
structure PaK(K:bQ)(x:cf):Prop where
 num:aC 122 (DV K)
 KB:∀n,(K.tv n).size<=1048576
 len:x.L.length<=1048576
 KD:∀(i:Nat)(d:bh),x.L[i]?=some d->d.text.size<=1048576
theorem PaK.ce{K:bQ}{x:cf}(h:PaK K x)(s:al):(aB x.L x.fin s).text.size<=1048576:=by
 unfold aB;cases e:x.L[s.i]? with
 |none=>exact df _
 |some d=>exact h.KD _ _ e
structure l5 where
 K:bQ
 x:cf
 s:al
def tl(x:l5):Option Addr:=some ⟨x.x.b,0,none⟩
def yC:aQ where
 X:=l5
 Y:=al ⊕ Int
 args x:=[ag (tl x)]
 pre x:=[ak x.x x.s]
 cond x:=PaK x.K x.x/\x.s.nodes.length<=4194304
 aO x F:=cA x.K x.x F
 bZ x y:=match y with
  | .inl u=>dW x.x.L x.x.fin x.K.tv bx x.s= .ok x.s.nodes.length u
  | .inr p=>dW x.x.L x.x.fin x.K.tv bx x.s= .stop p 60 x.s
 val x y:=match y with
  | .inl _=>.returned (.int .i64 x.s.nodes.length)
  | .inr p=>.panicked [⟨iz p 60,false,false⟩]
 post x y:=match y with
  | .inl u=>[ak x.x u]
  | .inr _=>[]
 eM _ _ _ hs h:=cA.sub hs h
 sum:=some (hU al Int)
theorem U2{s:al}(h:((aB L fin s).kind==1||(aB L fin s).kind==2)=true):dW L fin tv bx s= .ok s.nodes.length {s with i:=s.i+1,nodes:=s.nodes++[⟨2,bx (aB L fin s).text,0,[],(aB L fin s).pos⟩]}:=by
 unfold dW;dsimp only;rw[h];rfl
theorem aeY{s:al}(h:((aB L fin s).kind==1||(aB L fin s).kind==2)=false)(a:((aB L fin s).kind==3)=true):dW L fin tv bx s= .ok s.nodes.length {s with i:=s.i+1,nodes:=s.nodes++[⟨2,bx (tv (aB L fin s).num),0,[],(aB L fin s).pos⟩]}:=by
 unfold dW;dsimp only;rw[h,a];rfl
theorem ae0{s:al}(h:((aB L fin s).kind==1||(aB L fin s).kind==2)=false)(a:((aB L fin s).kind==3)=false)(b:((aB L fin s).kind==4)=true):dW L fin tv bx s= .ok s.nodes.length {s with i:=s.i+1,nodes:=s.nodes++[⟨2,(aB L fin s).text,0,[],(aB L fin s).pos⟩]}:=by
 unfold dW;dsimp only;rw[h,a,b];rfl
theorem aeX{s:al}(h:((aB L fin s).kind==1||(aB L fin s).kind==2)=false)(a:((aB L fin s).kind==3)=false)(b:((aB L fin s).kind==4)=false):dW L fin tv bx s= .stop (aB L fin s).pos 60 s:=by
 unfold dW;dsimp only;rw[h,a,b];rfl
theorem v6{s:al}{k:Int}(h:((aB L fin s).kind==k)=true)(hk:k≠0):s.i<L.length:=iX (fin:=fin) (fun e=>by rw[e]at h;exact hk (by simp at h;exact h.symm))
structure CT where
 op:ByteArray
 c:Nat
def Eh(d:CT)(x:l5):List Value:=[ad 2,ai d.op,float f64 0,au none 0 0,ad (aB x.x.L x.x.fin x.s).pos]
def aeV(x:l5)(F:ah):Nat->Option Inv:=fun
 |11=>some {X:=CT,P:=fun d=>x.s.i<x.x.L.length/\dW x.x.L x.x.fin x.K.tv bx x.s= .ok x.s.nodes.length {x.s with i:=x.s.i+1,nodes:=x.s.nodes++[⟨2,d.op,0,[],(aB x.x.L x.x.fin x.s).pos⟩]},mu:=fun _=>0,lv:=fun d=>[(0,ag (tl x)),(4,ag (some ⟨d.c,0,none⟩))],st:=fun d=>[ak x.x x.s,F,af d.c (Eh d x) 35]}
 |_=>none
def aeW(x:l5)(a:ah):List (Nat×Nat×OH):=[(1,1,aW iq),(1,2,.n 2020),(1,3,.w (eJ 2020)),(2,1,aR 2020),(2,3,aR 2020),(2,5,.n 3050),(2,6,.w (eJ 3050)),(3,1,aR 2020),(7,1,aR 2020),(7,2,aW wC),(7,4,.w [.z00 3050]),(9,1,aR 2020),(9,2,aW (DV x.K)),(9,3,aW wC),(9,5,.w [.z00 3050]),(4,1,aW kS),(11,3,c9),(11,7,dV fE),(12,1,.q (eJ 2)),(12,2,.c fD [0,999] [0])]
def E4(k:cW):=(cn k.L k.fin k.i).kind==1
def Jf(k:cW):List Value:=[ad 2,ai (cn k.L k.fin k.i).text,float f64 0,au none 0 0,ad (cn k.L k.fin k.i).pos]
def zb(x:l5)(F:ah)(i:Nat)(k:cW)(h:Nat):=[(0,ak x.x x.s),(1,F),(2020,af i (q0 k) 53),(3050,af h (Jf k) 35)]
def OR(e0:l5)(z:CT):=e0.s.i<e0.x.L.length/\dW e0.x.L e0.x.fin e0.K.tv bx e0.s=PR.ok (e0.s.nodes.length:Int) (have a:=e0.s;⟨e0.s.i+1,e0.s.nodes++[⟨(2:Int),z.op,0,[],(aB e0.x.L e0.x.fin e0.s).pos⟩],a.bw,a.loops,a.bn⟩)
def L1(e0:l5)(e1:ah)(v0:Value)(a:St):=∃(z:CT),OR e0 z/\(ag (tl e0)=ag (tl e0)/\v0=ag (some ⟨z.c,0,none⟩)/\True)/\aE a [(0,ak e0.x e0.s),(1,e1),(2,af z.c (Eh z e0) 35)]
def Ox(h:Nat)(x:l5)(F:ah)(i:Nat)(k:cW):e8->Unit->Prop:=fun c b=>aw h 1/\L1 x F (cE h) [(0,ak x.x x.s),(1,F),(2020,af i (q0 k) 53),(3050,af h [ad 2,ai (bx c.s),float f64 0,au none 0 0,ad (cn k.L k.fin k.i).pos] 35)]
def Rx(i:Nat)(k:cW)(x:l5)(F:ah)(h:Nat):=aw i 1/\sr 121 [ai (cn k.L k.fin k.i).text] (aH (zb x F i k h) []) (Ox h x F i k)
def ST(e0:l5)(aa:List Value)(rr:ah)(a:MJ->Unit->Prop):=aC 122 (DV e0.K)/\true=true/\∃(z:MJ),aa=[float f64 z.n]/\([]:List ah)=[]/\True/\e0.K.3 rr/\∀(b:Unit),True->a z b
def RA(k:cW)(i:Nat)(x:l5)(F:ah)(h:Nat):=Br ((cn k.L k.fin k.i).kind==3) (aw i 2/\ST x [float f64 (cn k.L k.fin k.i).num] (aH (zb x F i k h) []) (fun e d=>sr 121 [ai (x.K.tv e.n)] (aH (zb x F i k h) []) (Ox h x F i k))) (Br ((cn k.L k.fin k.i).kind==4) (L1 x F (cE h) (zb x F i k h)) (kv [ag (tl x)] (aH (zb x F i k h) []) (fun b a=>ar yC x F (jt b) (zb x F i k h))))
theorem ae1(x:l5)(F:ah)(u:yC.cond x)(o:yC.aO x F):e7 [ag (tl x)] (aH [(0,ak x.x x.s),(1,F)] []) (fun k j=>∀(i:Nat),cz i (aw i 1/\aw i 3/\∀(h:Nat),cz h ((aw i 0/\Br (E4 k) (Br (E4 k) (Rx i k x F h) (RA k i x F h)) (Br ((cn k.L k.fin k.i).kind==2) (Rx i k x F h) (RA k i x F h)))/\aT fun(g:CT)_=>OR x g->T1 (ak x.x x.s) ⟨x.x.b,1,none⟩ (fun e=>dx e/\dK (ba Tryz.f115 11 7) [ag (some ⟨x.x.b,1,none⟩),ad (e+1)] [ak x.x x.s] (fun d c=>cz g.c (c7 [ag (tl x),agg ⟨Eh g x⟩] [ak d.x d.t,bd] (fun b a=>ar yC x F (fq b) [(0,ak b.x (b.s.add b.n)),(1,F),(2,af g.c (Eh g x) 35),(999,bd)]))))))):=by
 delta ib e7 tl E4 sr q0 Jf zb OR Eh L1 bI cE Ox Rx ST kv jt RA T1 dx lg lh dK kg kh c7 jQ fq dL aH ak aw cz ad ai aj ag au af bd ax aT;obtain⟨K,x,s⟩:=x;obtain⟨q,hn⟩:=u;replace o:cA K x F:=o;dsimp only at q hn⊢;have t:(aB x.L x.fin s).text.size<=1048576:=q.ce s;refine br kz (x.p s) q.len (o.ls.da 0 1 aL aL rfl rfl) fun _ _ c=>?_
 repeat (refine⟨aq,?_⟩)
 intro r
 repeat (refine⟨aq,?_⟩)
 refine⟨?_,?_⟩
 ·skip
  refine⟨aq,aG (fun f=>abj f ?_) (fun f=>aG (fun m=>?_) (fun m=>aG (fun l=>?_) (fun l=>aG (fun n=>?_) (fun n=>?_))))⟩
  ·replace f:((aB x.L x.fin s).kind==1)=true:=f;exact⟨aq,Si,rfl,⟨(aB x.L x.fin s).text⟩,rfl,rfl,t,f1.rest (j:=1) aL o.gl.gl.oS,fun _ _=>⟨aq,⟨bx (aB x.L x.fin s).text,r⟩,⟨v6 f (by decide),U2 (by rw[f];rfl)⟩,aV,az [0,1,3050]⟩⟩
  ·replace m:((aB x.L x.fin s).kind==2)=true:=m;exact⟨aq,Si,rfl,⟨(aB x.L x.fin s).text⟩,rfl,rfl,t,f1.rest (j:=1) aL o.gl.gl.oS,fun _ _=>⟨aq,⟨bx (aB x.L x.fin s).text,r⟩,⟨v6 m (by decide),U2 (by rw[m,mc])⟩,aV,az [0,1,3050]⟩⟩
  all_goals
   replace f:((aB x.L x.fin s).kind==1)=false:=f;replace m:((aB x.L x.fin s).kind==2)=false:=m;have p:((aB x.L x.fin s).kind==1||(aB x.L x.fin s).kind==2)=false:=by rw[f,m];rfl
  ·replace l:((aB x.L x.fin s).kind==3)=true:=l;exact⟨aq,q.num,rfl,⟨(aB x.L x.fin s).num⟩,rfl,rfl,ao,K.rest (j:=1) aL o.gl.rd,fun _ _=>br Si ⟨K.tv (aB x.L x.fin s).num⟩ (q.KB _) (f1.rest (j:=1) aL o.gl.gl.oS) fun _ _=>⟨aq,⟨bx (K.tv (aB x.L x.fin s).num),r⟩,⟨v6 l (by decide),aeY p l⟩,aV,az [0,1,3050]⟩⟩
  all_goals replace l:((aB x.L x.fin s).kind==3)=false:=l
  ·replace n:((aB x.L x.fin s).kind==4)=true:=n;exact⟨⟨(aB x.L x.fin s).text,r⟩,⟨v6 n (by decide),ae0 p l n⟩,aV,az [0,1,3050]⟩
  ·replace n:((aB x.L x.fin s).kind==4)=false:=n;exact br pe (x.p s) q.len (o.ls.da 0 1 aL aL rfl rfl) fun _ _=>⟨.inr (aB x.L x.fin s).pos,aeX p l n,rfl,az [1]⟩
 ·rintro⟨op,c⟩ v ⟨hi,hk⟩;dsimp only at hk⊢;have hl:=q.len;refine⟨_,ef fun _=>rfl,aK,gk rfl rfl rfl,rfl,⟨x,s,s.ay,1,_⟩,rfl,rfl,⟨fun _=>rfl,rfl,bg,rfl,rfl⟩,ao,fun _ _=>?_⟩;exact⟨aq,aq,aq,aq,aq,e_,rfl,⟨x,s.ay,⟨2,op,0,[],(aB x.L x.fin s).pos⟩,dG⟩,rfl,rfl,⟨hn,.nil rfl⟩,ao,fun _ _=>⟨.inl _,hk,rfl,az [0,1]⟩⟩
theorem aeZ:aC 115 yC:=fo 42 Tryz.func115 aeW [] aY aeV bA [] ae1
end
section
open Go
structure vL where
 tb:Nat->Nat
 n:Nat
def tJ:aQ where
 X:=vL
 args x:=[float f64 x.n]
 cond x:=np x.tb/\cG .lss x.n 0=false
 aO x F:=kN x.tb F
 val x _:=ax (ai (oR x.tb x.n))
def xq:aQ where
 X:=vL
 args x:=[float f64 x.n]
 cond x:=np x.tb
 aO x F:=kN x.tb F
 val x _:=ax (ai (m7 x.tb x.n))
def Xe(C:aQ):List (Nat×Nat×OH):=[(1,2,.qo (mM .neq)),(3,1,.qo (mM .eql)),(5,1,.qo (mM .lss)),(6,1,.qo A1),(6,2,.c C [] []),(7,1,.c NG [] []),(9,1,.c Nm [] []),(9,2,.c M6 [] []),(10,1,.c MQ [] []),(11,1,.c RN [] []),(11,4,.c NU [] [])]
def aki(b:vL)(a:ah):List (Nat×Nat×OH):=Xe Bo
def akj(b:vL)(a:ah):List (Nat×Nat×OH):=Xe tJ
theorem Xd{tb:Nat->Nat}(d:np tb){n:Nat}(h:cG .lss n 0=false):(oR tb n).size<=4000:=by
 unfold oR;cases a:cG .neq n n with
 |true=>show(ByteArray.mk #[78,97,78]).size<=4000;decide
 |false=>
  rw[aM];cases b:cG .eql n 0 with
  |true=>show(ByteArray.mk #[48]).size<=4000;decide
  |false=>
   rw[aM];cases c:po n with
   |true=>show(ByteArray.mk #[73,110,102,105,110,105,116,121]).size<=4000;decide
   |false=>
    rw[aM];exact Xf d (G5 a b h c)
theorem akk{tb:Nat->Nat}(b:np tb)(n:Nat):(m7 tb n).size<=4001:=by
 unfold m7;cases c:cG .neq n n with
 |true=>show(ByteArray.mk #[78,97,78]).size<=4001;decide
 |false=>
  rw[aM];cases d:cG .eql n 0 with
  |true=>show(ByteArray.mk #[48]).size<=4001;decide
  |false=>
   rw[aM];cases a:cG .lss n 0 with
   |true=>
    rw[aU,ky];have:=Xd b (VF a);show 1+_<=4001;omega
   |false=>
    rw[aM];cases e:po n with
    |true=>show(ByteArray.mk #[73,110,102,105,110,105,116,121]).size<=4001;decide
    |false=>
     rw[aM];have:=Xf b (G5 c d a e);omega
def xS(b:Oper)(aa:List Value)(a:Nat×Nat->Prop):=dJ Tryz.prog b (mM BinOp.neq)/\∃(z:Nat×Nat),aa=(qs z)/\True/\a z
def Cc(x:vL):List Value:=[float f64 x.n,float f64 0]
def Ga(aa:List Value)(b:CP->Bool->Prop):=aC 137 NG/\true=true/\∃(z:CP),aa=[float f64 z.f,ad 1]/\([]:List ah)=[]/\True/\True/\∀(a:Bool),a=po z.f->b z a
def JB:=ax (ai ⟨#[73,110,102,105,110,105,116,121]⟩)
def Gb(aa:List Value)(rr:ah)(b:vx->ByteArray->Prop):=aC 139 Nm/\true=true/\∃(z:vx),aa=(BZ z)/\([]:List ah)=[]/\(np z.tb/\n5 z.n)/\kN z.tb rr/\∀(a:ByteArray),a=ov z.tb z.n->b z a
def Gc(aa:List Value)(rr:ah)(b:FI->KX->Prop):=aC 138 M6/\true=true/\∃(z:FI),aa=[ai z.s,ai z.t]/\([]:List ah)=[]/\z.s.size<4294967281/\iT rr/\∀(a:KX),a=⟨⟨(ry z.s z.t).fst.toArray⟩,⟨(ry z.s z.t).snd.fst.toArray⟩,(ry z.s z.t).snd.snd⟩->b z a
def Gd(aa:List Value)(b:bK->Int->Prop):=aC 140 MQ/\true=true/\∃(z:bK),aa=[ai z.s]/\([]:List ah)=[]/\tS z.s/\True/\∀(a:Int),a=lz z.s->b z a
def Ge(aa:List Value)(rr:ah)(b:C2->ByteArray->Prop):=aC 142 RN/\true=true/\∃(z:C2),aa=[ai z.s,ai z.t,ai z.u,ad z.n]/\([]:List ah)=[]/\(z.s.size<4294967281/\1<=z.t.size/\z.s.size+Lib.countB z.s z.t*z.u.size<=140737488355328)/\iT rr/\∀(a:ByteArray),a=⟨(Fb z).toArray⟩->b z a
def Gf(aa:List Value)(rr:ah)(b:qW->ByteArray->Prop):=aC 141 NU/\true=true/\∃(z:qW),aa=[ai z.ds,ad z.n]/\([]:List ah)=[]/\(1<=z.ds.size/\z.ds.size<=1000/\(-1000:Int)<=z.n/\z.n<=1000)/\iT rr/\∀(a:ByteArray),a=jL z.ds z.n->b z a
theorem ako(x:vL)(F:ah)(L:tJ.cond x)(t:tJ.aO x F):xS (ba Tryz.f122 1 2) [float f64 x.n,float f64 x.n] (fun o=>Br (cG BinOp.neq o.fst o.snd) (ar tJ x F (ax (ai ⟨#[78,97,78]⟩)) [(0,F)]) (xQ (ba Tryz.f122 3 1) (Cc x) (fun n=>Br (cG BinOp.eql n.fst n.snd) (ar tJ x F Cb [(0,F)]) (AB (ba Tryz.f122 5 1) (Cc x) (fun m=>Br (cG BinOp.lss m.fst m.snd) (AA ⟨some 19,Op.unOp UnOp.neg 32 (Operand.tmp 18),32,"esnum.go:41",⟨[⟨0,Ground.data⟩]⟩,none⟩ [float f64 x.n] (fun c=>C8 122 [float f64 (Op.negFloat f64 c)] (fun b a=>ar tJ x F (panicked []) [(0,F)]))) (Ga [float f64 x.n,ad 1] (fun l k=>Br k (ar tJ x F JB [(0,F)]) (Gb [float f64 x.n,a8 101,ad (-1),ad 64] (cP F) (fun j i=>Gc [ai i,ai ⟨#[101]⟩] (cP F) (fun h g=>Gd [ai g.x] (fun f e=>Ge [ai g.m,ai ⟨#[46]⟩,ai ⟨#[]⟩,ad 1] (cP F) (fun d c=>dx e/\Gf [ai c,ad (e+1)] (cP F) (fun b a=>ar tJ x F (ax (ai a)) [(0,F)]))))))))))))):=by
 delta qs xS xQ Cc Cb AB AA C8 Ga JB BZ Gb cP Gc Gd Ge dx Gf aH ad a8 ai ax;obtain⟨tb,n⟩:=x;obtain⟨C,hl⟩:=L;replace t:kN tb F:=t;dsimp only at C hl⊢;refine⟨nz (.inr (.inr (.inr rfl))) rfl,(n,n),rfl,ao,aG (fun r=>⟨(),ao,?_,az [0]⟩) (fun r=>⟨nz (.inl rfl) rfl,(n,0),rfl,ao,aG (fun u=>⟨(),ao,?_,az [0]⟩) (fun u=>⟨nz (.inr (.inl rfl)) rfl,(n,0),rfl,ao,aG (fun A=>?_) (fun A=>kV US ⟨n⟩ fun q s=>aG (fun B=>⟨(),ao,?_,az [0]⟩) (fun B=>?_))⟩)⟩)⟩
 ·show returned (.string _)=returned (.string (oR tb n));unfold oR;rw[show cG .neq n n=true from r];rfl
 ·show returned (.string _)=returned (.string (oR tb n));unfold oR;rw[show cG .neq n n=false from r,show cG .eql n 0=true from u];rfl
 ·rw[show cG .lss n 0=true from A]at hl;cases hl
 ·show returned (.string _)=returned (.string (oR tb n));unfold oR;rw[show cG .neq n n=false from r,show cG .eql n 0=false from u,<-show q=po n from s,B];rfl
 replace s:q=po n:=s;rw[B]at s;have H:n5 n:=G5 r u A s.symm;have p:=R_ C H;refine br Us ⟨tb,n⟩ ⟨C,H⟩ (by exact t.sub (bP 0)) fun y w=>br TJ ⟨y,⟨#[101]⟩⟩ (?_) (by exact t.tx.sub (bP 0)) fun z I=>?_
 ·rw[show y=ov tb n from w];have:=p.fs;show(ov tb n).size<_;omega
 replace w:y=ov tb n:=w;subst w;have E:z.m=qL tb n:=by rw[show z=_ from I];rfl
 have G:z.x=m8 tb n:=by rw[show z=_ from I];rfl
 rw[E,G];refine bO Th ⟨m8 tb n⟩ p.xo fun e D=>br Wr ⟨qL tb n,⟨#[46]⟩,⟨#[]⟩,1⟩ ⟨?_,bT 1,?_⟩ (by exact t.tx.sub (bP 0)) fun d hd=>?_
 ·have:=p.ms;show(qL tb n).size<_;omega
 ·have:=p.ms;show(qL tb n).size+_*0<=_;omega
 replace D:e=lz (m8 tb n):=D;replace hd:d=vj tb n:=hd;subst D hd;have J:=p.dl;have K:=p.dh;have b3:=p.xl;refine⟨aK,Vf,rfl,⟨vj tb n,lz (m8 tb n)+1⟩,rfl,rfl,⟨J,K,bg,bg⟩,by exact t.tx.sub (bP 0),fun v M=>⟨(),ao,?_,az [0]⟩⟩;rw[show v=Fx tb n from M];show returned (.string _)=returned (.string (oR tb n));unfold oR;rw[show cG .neq n n=false from r,show cG .eql n 0=false from u,<-s];rfl
theorem akn:aC 122 tJ:=fo 42 Tryz.func122 aki [] aY aY bA [] ako
theorem akm(x:vL)(F:ah)(D:xq.cond x)(s:xq.aO x F):xS (ba Tryz.f122 1 2) [float f64 x.n,float f64 x.n] (fun o=>Br (cG BinOp.neq o.fst o.snd) (ar xq x F (ax (ai ⟨#[78,97,78]⟩)) [(0,F)]) (xQ (ba Tryz.f122 3 1) (Cc x) (fun n=>Br (cG BinOp.eql n.fst n.snd) (ar xq x F Cb [(0,F)]) (AB (ba Tryz.f122 5 1) (Cc x) (fun m=>Br (cG BinOp.lss m.fst m.snd) (AA ⟨some 19,Op.unOp UnOp.neg 32 (Operand.tmp 18),32,"esnum.go:41",⟨[⟨0,Ground.data⟩]⟩,none⟩ [float f64 x.n] (fun c=>aC 122 tJ/\true=true/\∃(b:vL),[float f64 (Op.negFloat f64 c)]=[float f64 b.n]/\([]:List ah)=[]/\(np b.tb/\cG BinOp.lss b.n 0=false)/\kN b.tb (cP F)/\∀(a:Unit),True->1+(oR b.tb b.n).size<=9223372036854775807/\ar xq x F (ax (ai ((ByteArray.mk #[45])++oR b.tb b.n))) [(0,F)])) (Ga [float f64 x.n,ad 1] (fun l k=>Br k (ar xq x F JB [(0,F)]) (Gb [float f64 x.n,a8 101,ad (-1),ad 64] (cP F) (fun j i=>Gc [ai i,ai ⟨#[101]⟩] (cP F) (fun h g=>Gd [ai g.x] (fun f e=>Ge [ai g.m,ai ⟨#[46]⟩,ai ⟨#[]⟩,ad 1] (cP F) (fun d c=>dx e/\Gf [ai c,ad (e+1)] (cP F) (fun b a=>ar xq x F (ax (ai a)) [(0,F)]))))))))))))):=by
 delta qs xS xQ Cc Cb AB AA cP Ga JB BZ Gb Gc Gd Ge dx Gf aH ad a8 ai ax;obtain⟨tb,n⟩:=x;replace D:np tb:=D;have A:=D;replace s:kN tb F:=s;dsimp only;refine⟨nz (.inr (.inr (.inr rfl))) rfl,(n,n),rfl,ao,aG (fun p=>⟨(),ao,?_,az [0]⟩) (fun p=>⟨nz (.inl rfl) rfl,(n,0),rfl,ao,aG (fun t=>⟨(),ao,?_,az [0]⟩) (fun t=>⟨nz (.inr (.inl rfl)) rfl,(n,0),rfl,ao,aG (fun u=>?_) (fun u=>kV US ⟨n⟩ fun q w=>aG (fun C=>⟨(),ao,?_,az [0]⟩) (fun C=>?_))⟩)⟩)⟩
 ·show returned (.string _)=returned (.string (m7 tb n));unfold m7;rw[show cG .neq n n=true from p];rfl
 ·show returned (.string _)=returned (.string (m7 tb n));unfold m7;rw[show cG .neq n n=false from p,show cG .eql n 0=true from t];rfl
 ·have hn:cG .lss (Op.negFloat .f64 n) 0=false:=VF u;have hs:=Xd A hn;refine⟨Uw rfl,n,rfl,ao,akn,rfl,⟨tb,Op.negFloat .f64 n⟩,rfl,rfl,⟨A,hn⟩,by exact s.sub (bP 0),fun _ _=>⟨bg,(),ao,?_,az [0]⟩⟩;show returned (.string _)=returned (.string (m7 tb n));unfold m7;rw[show cG .neq n n=false from p,show cG .eql n 0=false from t,show cG .lss n 0=true from u];rfl
 ·show returned (.string _)=returned (.string (m7 tb n));unfold m7;rw[show cG .neq n n=false from p,show cG .eql n 0=false from t,show cG .lss n 0=false from u,<-show q=po n from w,C];rfl
 replace w:q=po n:=w;rw[C]at w;have I:n5 n:=G5 p t u w.symm;have r:=R_ A I;refine br Us ⟨tb,n⟩ ⟨A,I⟩ (by exact s.sub (bP 0)) fun y B=>br TJ ⟨y,⟨#[101]⟩⟩ (?_) (by exact s.tx.sub (bP 0)) fun z J=>?_
 ·rw[show y=ov tb n from B];have:=r.fs;show(ov tb n).size<_;omega
 replace B:y=ov tb n:=B;subst B;have G:z.m=qL tb n:=by rw[show z=_ from J];rfl
 have H:z.x=m8 tb n:=by rw[show z=_ from J];rfl
 rw[G,H];refine bO Th ⟨m8 tb n⟩ r.xo fun e E=>br Wr ⟨qL tb n,⟨#[46]⟩,⟨#[]⟩,1⟩ ⟨?_,bT 1,?_⟩ (by exact s.tx.sub (bP 0)) fun d hd=>?_
 ·have:=r.ms;show(qL tb n).size<_;omega
 ·have:=r.ms;show(qL tb n).size+_*0<=_;omega
 replace E:e=lz (m8 tb n):=E;replace hd:d=vj tb n:=hd;subst E hd;have K:=r.dl;have L:=r.dh;have b3:=r.xl;refine⟨aK,Vf,rfl,⟨vj tb n,lz (m8 tb n)+1⟩,rfl,rfl,⟨K,L,bg,bg⟩,by exact s.tx.sub (bP 0),fun v M=>⟨(),ao,?_,az [0]⟩⟩;rw[show v=Fx tb n from M];show returned (.string _)=returned (.string (m7 tb n));unfold m7;rw[show cG .neq n n=false from p,show cG .eql n 0=false from t,show cG .lss n 0=false from u,<-w];rfl
theorem akl:aC 122 xq:=fo 42 Tryz.func122 akj [] aY aY bA [] akm
theorem aku{K:bQ}{tb:Nat->Nat}(a:np tb)(c:K.tv=m7 tb)(b:∀F,K.rd F->kN tb F):aC 122 (DV K):=akl.view (fun x=>⟨tb,x.n⟩) (fun _=>rfl) (fun _=>rfl) (fun _ _=>a) (fun x F _ h=>b F h) (fun x _ _ _=>⟨(),ao,by show returned (.string (m7 tb x.n))=returned (.string (K.tv x.n));rw[c],rfl⟩)
end
end Go.Proofs.YtdkchodgklpomaaGreatDoor
