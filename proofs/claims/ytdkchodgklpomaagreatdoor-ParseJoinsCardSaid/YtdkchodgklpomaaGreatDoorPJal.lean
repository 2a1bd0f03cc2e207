/- Part of the proof that ParseJoins answers true at every input. -/
import Derived.Test.YtdkchodgklpomaaGreatDoorPJak
set_option linter.all false
namespace Go.Proofs.YtdkchodgklpomaaGreatDoor
set_option maxRecDepth 100000
open Go.Value (int slice string bool pointer agg tuple func float iface nilIface)
open Go.IntKind (i64 u8 u64 i32 u32 u16 i8 i16)
open Go.FloatKind (f64)
open Go.Ending (returned panicked)
section
open Go
section
variable{fin:Int}{L:List bh}{aJ:Nat->ByteArray}{wide:ByteArray->ByteArray}
abbrev fl(L:List bh)(tag:aq)(s:ap):List Int->ap->Prop:=fun _ t=>left L t<=left L s/\(tag.cons=true->left L t<left L s)
variable{Q:List Int->ap->Prop}{f:Nat}{s:ap}
theorem fN.call(b:fN L fin aJ wide f)(tag:aq)(k:∀ks t,left L t<=left L s->(tag.cons=true->left L t<left L s)->Q ks t)(hn:tag.ct L s:=by trivial)(a:24*left L s+tag.e7<=f:=by dsimp only[aq.e7]at*;omega):TP (P L fin aJ wide f tag) s Q:=
 (b tag s hn a).mono fun ks t h=>k ks t h.1 h.2
theorem fN.jO(c:fN L fin aJ wide f)(tag:aq)(k:∀ks t,left L t<left L s->Q ks t)(hn:tag.ct L s:=by trivial)(b:24*left L s+tag.e7<=f:=by dsimp only[aq.e7]at*;omega)(a:tag.cons=true:=by rfl):TP (P L fin aJ wide f tag) s Q:=
 (c tag s hn b).mono fun ks t h=>k ks t (h.2 a)
theorem fN.fw(c:fN L fin aJ wide f)(tag:aq){Q:Int->ap->Prop}(k:∀k t,left L t<left L s->Q k t)(hn:tag.ct L s:=by trivial)(b:24*left L s+tag.e7<=f:=by dsimp only[aq.e7]at*;omega)(a:tag.cons=true:=by rfl):TP (one (P L fin aJ wide f tag)) s Q:=by
 show TP (P L fin aJ wide f tag>>=fun l=>Go.Proofs.YtdkchodgklpomaaGreatDoor.ret (l.headD 0)) s Q;exact TP.bind ((c tag s hn b).mono fun ks t h=>k _ t (h.2 a))
theorem TP.c8{x:bP}(h:∀k t,left L t<=left L s->Q [k] t):TP (cm x) s Q:=h _ {s with nodes:=s.nodes++[x]} (bZ _)
theorem Ye(a:fN L fin aJ wide f)(b:24*left L s+aq.bf.e7<=f+1):TP (P L fin aJ wide (f+1) .bf) s (fl L .bf s):=by
 rw[P];refine TP.bind (a.fw .cond fun k t h=>TP.bind (TP.cd (TP.bif (fun _=>TP.ret ⟨ae,fun _=>ae⟩) (fun hk=>TP.bind (TP.kt (TP.bind (TP.step (L:=L) (jc (fin:=fin) ?_) fun u g=>TP.bind (a.fw .bf fun r v q=>TP.bind (TP.dW fun p=>TP.c8 (L:=L) fun k w e=>⟨ae,fun _=>ae⟩)))))))));grind
theorem Yd(d:fN L fin aJ wide f)(i:24*left L s+aq.cond.e7<=f+1):TP (P L fin aJ wide (f+1) .cond) s (fl L .cond s):=by
 rw[P];exact TP.bind (d.fw (.level 0) (hn:=dq _) fun c t h=>TP.bind (TP.b9 (fun u g=>TP.bif (fun e=>nomatch e) (fun _=>TP.bind (d.fw .bf fun a v q=>TP.bind (TP.bW fun w e=>TP.bind (d.fw .bf fun b y z=>TP.bind (TP.dW fun p=>TP.c8 (L:=L) fun k w e=>⟨ae,fun _=>ae⟩)))))) (fun _=>TP.bif (fun _=>TP.ret ⟨ae,fun _=>ae⟩) (fun e=>nomatch e))))
theorem Yv(a:fN L fin aJ wide f)(b:24*left L s+aq.unary.e7<=f+1):TP (P L fin aJ wide (f+1) .unary) s (fl L .unary s):=by
 rw[P];refine TP.bind (TP.cd (TP.bif (fun _=>a.call .dO fun ks t h g=>⟨h,fun _=>g rfl⟩) (fun hk=>?_)));have hi:s.i<L.length:=jc (fin:=fin) (fun e=>by rw[e]at hk;cases hk);exact TP.bif (fun _=>TP.bind (TP.step (L:=L) hi fun t h=>TP.bind (a.fw .unary fun k u g=>TP.bind (TP.bif (fun _=>TP.kt (TP.c8 (L:=L) fun k w e=>⟨ae,fun _=>ae⟩)) (fun _=>TP.ret (TP.c8 (L:=L) fun k w e=>⟨ae,fun _=>ae⟩)))))) (fun _=>TP.bif (fun _=>TP.bind (TP.step (L:=L) hi fun t h=>TP.bind (a.fw .unary fun k u g=>TP.bind (TP.kt (TP.c8 (L:=L) fun k w e=>⟨ae,fun _=>ae⟩))))) (fun _=>a.call .dO fun ks t h g=>⟨h,fun _=>g rfl⟩))
theorem X8(a:fN L fin aJ wide f)(b:24*left L s+aq.dO.e7<=f+1):TP (P L fin aJ wide (f+1) .dO) s (fl L .dO s):=by
 rw[P];refine TP.bind (a.fw .suffix fun k t h=>TP.bind (TP.cd (TP.bif (fun _=>TP.ret ⟨ae,fun _=>ae⟩) (fun hk=>TP.bind (TP.kt (TP.bind (TP.step (L:=L) (jc (fin:=fin) ?_) fun u g=>TP.bind (TP.dW fun p=>TP.c8 (L:=L) fun k w e=>⟨ae,fun _=>ae⟩))))))));grind
theorem Ys(a:fN L fin aJ wide f)(b:24*left L s+aq.suffix.e7<=f+1):TP (P L fin aJ wide (f+1) .suffix) s (fl L .suffix s):=by
 rw[P];exact TP.bind (a.fw .dv fun k t h=>a.call (.d6 k) fun ks u g _=>⟨ae,fun _=>ae⟩)
theorem Ya(a:fN L fin aJ wide f)(aB:List Int)(b:24*left L s+(aq.d0 aB).e7<=f+1):TP (P L fin aJ wide (f+1) (.d0 aB)) s (fl L (.d0 aB) s):=by
 rw[P];have fI:∀{t:ap},left L t<=left L s->TP (one (P L fin aJ wide f .bf)>>=fun e=>P L fin aJ wide f (.d0 (aB++[e]))) t (fl L (.d0 aB) s):=fun{t}h=>TP.bind (a.fw .bf fun e u g=>a.call (.d0 (aB++[e])) fun ks v q _=>⟨ae,fun _=>ae⟩);exact TP.bind (TP.b9 (fun t h=>TP.bif (fun _=>TP.ret ⟨ae,fun _=>ae⟩) (fun e=>nomatch e)) (fun _=>TP.bif (fun e=>nomatch e) (fun _=>TP.bind (TP.bif (fun _=>TP.bW fun t h=>fI (Nat.le_of_lt h)) (fun _=>TP.ret (fI (bZ _)))))))
theorem X7(a:fN L fin aJ wide f)(aB:List Int)(c:24*left L s+(aq.cS aB).e7<=f+1):TP (P L fin aJ wide (f+1) (.cS aB)) s (fl L (.cS aB) s):=by
 rw[P];exact TP.bind (TP.b9 (fun t h=>TP.bif (fun _=>TP.ret ⟨ae,fun _=>ae⟩) (fun e=>nomatch e)) (fun _=>TP.bif (fun e=>nomatch e) (fun _=>TP.bind (a.fw .bf fun e u g=>TP.bind (TP.mM fun b _=>TP.bind (TP.bif (fun _=>TP.bW fun t h=>a.call (.cS (aB++[e])) fun ks v q _=>⟨ae,fun _=>ae⟩) (fun _=>TP.ret (a.call (.cS (aB++[e])) fun ks v q _=>⟨ae,fun _=>ae⟩))))))))
theorem Yk(a:fN L fin aJ wide f)(aB:List Int)(c:24*left L s+(aq.cW aB).e7<=f+1):TP (P L fin aJ wide (f+1) (.cW aB)) s (fl L (.cW aB) s):=by
 rw[P];exact TP.bind (TP.b9 (fun t h=>TP.bif (fun _=>TP.ret ⟨ae,fun _=>ae⟩) (fun e=>nomatch e)) (fun _=>TP.bif (fun e=>nomatch e) (fun _=>TP.bind (TP.key fun k t h=>TP.bind (TP.bW fun u g=>TP.bind (a.fw .bf fun e v q=>TP.bind (TP.mM fun b _=>TP.bind (TP.bif (fun _=>TP.bW fun t h=>a.call (.cW (aB++[k]++[e])) fun ks v q _=>⟨ae,fun _=>ae⟩) (fun _=>TP.ret (a.call (.cW (aB++[k]++[e])) fun ks v q _=>⟨ae,fun _=>ae⟩))))))))))
theorem Ym(a:fN L fin aJ wide f)(b:24*left L s+aq.paren.e7<=f+1):TP (P L fin aJ wide (f+1) .paren) s (fl L .paren s):=by
 rw[P];exact TP.bind (TP.bW fun t h=>TP.bind (a.fw .bf fun k u g=>TP.bind (TP.bW fun v q=>TP.ret ⟨ae,fun _=>ae⟩)))
theorem X9(a:fN L fin aJ wide f)(body:Bool)(b:24*left L s+(aq.block body).e7<=f+1):TP (P L fin aJ wide (f+1) (.block body)) s (fl L (.block body) s):=by
 rw[P];exact TP.bind (TP.cd (TP.bind (TP.bW fun t h=>TP.bind (a.jO (.fH [] body) fun ks u g=>TP.c8 (L:=L) fun k w e=>⟨ae,fun _=>ae⟩))))
theorem X_(a:fN L fin aJ wide f)(aB:List Int)(body:Bool)(b:24*left L s+(aq.fH aB body).e7<=f+1):TP (P L fin aJ wide (f+1) (.fH aB body)) s (fl L (.fH aB body) s):=by
 rw[P];exact TP.bind (TP.b9 (fun t h=>TP.bif (fun _=>TP.ret ⟨ae,fun _=>ae⟩) (fun e=>nomatch e)) (fun _=>TP.bif (fun e=>nomatch e) (fun _=>TP.bind (a.fw (.bT body) fun k t h=>a.jO (.fH (aB++[k]) body) fun ks u g=>⟨ae,fun _=>ae⟩))))
theorem Yb(a:fN L fin aJ wide f)(aB:List Int)(b:24*left L s+(aq.eu aB).e7<=f+1):TP (P L fin aJ wide (f+1) (.eu aB)) s (fl L (.eu aB) s):=by
 rw[P];exact TP.bind (TP.get (TP.bif (fun _=>TP.bind (a.fw (.bT false) fun k t h=>a.call (.eu (aB++[k])) fun ks u g _=>⟨ae,fun _=>ae⟩)) (fun _=>TP.ret ⟨bZ _,fun e=>nomatch e⟩)))
theorem Yp(a:fN L fin aJ wide f)(aB:List Int)(b:24*left L s+(aq.prog aB).e7<=f+1):TP (P L fin aJ wide (f+1) (.prog aB)) s (fl L (.prog aB) s):=by
 rw[P];exact TP.bind (TP.get (TP.bif (fun _=>TP.bind (a.fw (.bT true) fun k t h=>a.call (.prog (aB++[k])) fun ks u g _=>⟨ae,fun _=>ae⟩)) (fun _=>TP.c8 (L:=L) fun k w e=>⟨e,fun e=>nomatch e⟩)))
theorem Yl(a:fN L fin aJ wide f)(aB:List Int)(b:24*left L s+(aq.dy aB).e7<=f+1):TP (P L fin aJ wide (f+1) (.dy aB)) s (fl L (.dy aB) s):=by
 rw[P];have fI:∀{t:ap},left L t<=left L s->TP (fv L fin>>=fun x=>gJ L fin>>=fun w=>dj ⟨3,w,0,[],x.pos⟩>>=fun k=>P L fin aJ wide f (.dy (aB++[k]))) t (fl L (.dy aB) s):=fun{t}h=>TP.bind (TP.cd (TP.bind (TP.word fun w u g=>TP.bind (TP.node (L:=L) fun k v q=>a.call (.dy (aB++[k])) fun ks y z _=>⟨ae,fun _=>ae⟩))));exact TP.bind (TP.b9 (fun t h=>TP.bif (fun _=>TP.ret ⟨ae,fun _=>ae⟩) (fun e=>nomatch e)) (fun _=>TP.bif (fun e=>nomatch e) (fun _=>TP.bind (TP.bif (fun _=>TP.bW fun t h=>fI (Nat.le_of_lt h)) (fun _=>TP.ret (fI (bZ _)))))))
theorem Yh(b:fN L fin aJ wide f)(n:Nat)(hn:n<=10)(i:24*left L s+(aq.level n).e7<=f+1):TP (P L fin aJ wide (f+1) (.level n)) s (fl L (.level n) s):=by
 rw[P];refine TP.bif (fun _=>b.call .unary fun ks t h g=>⟨h,fun _=>g rfl⟩) (fun hk=>?_);have d:n≠10:=fun e=>by rw[e]at hk;cases hk
 have a:n+1<=10:=ae;have c:n<=9:=ae;exact TP.bind (b.fw (.level (n+1)) (fun k t h=>b.call (.fY n k) (fun ks u g _=>⟨ae,fun _=>ae⟩) (hn:=c)) (hn:=a))
theorem Yi(c:fN L fin aJ wide f)(n:Nat)(b:Int)(hn:n<=9)(d:24*left L s+(aq.fY n b).e7<=f+1):TP (P L fin aJ wide (f+1) (.fY n b)) s (fl L (.fY n b) s):=by
 rw[P];have a:n+1<=10:=ae;exact TP.bind (TP.cd (TP.bif (fun _=>TP.ret ⟨bZ _,fun e=>nomatch e⟩) (fun hk=>TP.bind (TP.step (L:=L) (jc (fin:=fin) (fun e=>by rw[e]at hk;cases hk)) fun t h=>TP.bind (c.fw (.level (n+1)) (fun r u g=>TP.bind (TP.dW fun p=>TP.bind (TP.node (L:=L) fun k v q=>c.call (.fY n k) (fun ks y z _=>⟨ae,fun e=>nomatch e⟩) (hn:=hn)))) (hn:=a))))))
theorem Yn(a:fN L fin aJ wide f)(k:Int)(c:24*left L s+(aq.d6 k).e7<=f+1):TP (P L fin aJ wide (f+1) (.d6 k)) s (fl L (.d6 k) s):=by
 rw[P];have b:∀{t:ap}{x:bP},left L t<left L s->TP (dj x>>=fun m=>P L fin aJ wide f (.d6 m)) t (fl L (.d6 k) s):=fun{t x}h=>TP.bind (TP.node (L:=L) fun m u g=>a.call (.d6 m) fun ks v q _=>⟨ae,fun e=>nomatch e⟩);exact TP.bind (TP.b9 (fun t h=>TP.bif (fun _=>TP.bind (TP.cd (TP.bind (TP.bif (fun _=>TP.dN) (fun hk=>TP.ret (TP.bind (TP.step (L:=L) (jc (fin:=fin) (fun e=>by rw[e]at hk;cases hk)) fun u g=>TP.bind (TP.dW fun p=>b ae)))))))) (fun e=>nomatch e)) (fun _=>TP.bif (fun e=>nomatch e) (fun _=>TP.bind (TP.b9 (fun t h=>TP.bif (fun _=>TP.bind (a.fw .bf fun e u g=>TP.bind (TP.bW fun v q=>TP.bind (TP.dW fun p=>b ae)))) (fun e=>nomatch e)) (fun _=>TP.bif (fun e=>nomatch e) (fun _=>TP.bind (TP.b9 (fun t h=>TP.bif (fun _=>TP.bind (a.jO (.d0 [k]) fun ks u g=>TP.bind (TP.dW fun p=>b ae))) (fun e=>nomatch e)) (fun _=>TP.bif (fun e=>nomatch e) (fun _=>TP.ret ⟨bZ _,fun e=>nomatch e⟩)))))))))
theorem Yo(a:fN L fin aJ wide f)(c:24*left L s+aq.dv.e7<=f+1):TP (P L fin aJ wide (f+1) .dv) s (fl L .dv s):=by
 rw[P];have b:∀{x:bP},s.i<L.length->TP (eF>>=fun _=>cm x) s (fl L .dv s):=fun{x}hi=>TP.bind (TP.step (L:=L) hi fun t h=>TP.c8 (L:=L) fun k w e=>⟨ae,fun _=>ae⟩);refine TP.bind (TP.cd (TP.bif (fun hk=>b (jc (fin:=fin) (fun e=>by rw[e]at hk;cases hk))) (fun _=>TP.bif (fun hk=>b (jc (fin:=fin) (fun e=>by rw[e]at hk;cases hk))) (fun _=>TP.bif (fun hk=>b (jc (fin:=fin) (fun e=>by rw[e]at hk;cases hk))) (fun _=>TP.bind (TP.get (TP.bif (fun hk=>b ?_) (fun _=>TP.bif (fun hk=>a.jO (.func 7) (fun ks t h=>⟨ae,fun _=>ae⟩) (hn:=je hk)) (fun _=>?_)))))))))
 ·rw[Bool.or_eq_true,Bool.or_eq_true]at hk;rcases hk with hk|hk|hk
  ·exact je hk
  ·exact je hk
  ·exact je hk
 ·exact TP.bind (TP.b9 (fun t h=>TP.bif (fun _=>TP.bind (a.fw .bf fun e u g=>TP.bind (TP.bW fun v q=>TP.ret ⟨ae,fun _=>ae⟩))) (fun e=>nomatch e)) (fun _=>TP.bif (fun e=>nomatch e) (fun _=>TP.bind (TP.b9 (fun t h=>TP.bif (fun _=>TP.bind (a.jO (.cS []) fun ks u g=>TP.c8 (L:=L) fun k w e=>⟨ae,fun _=>ae⟩)) (fun e=>nomatch e)) (fun _=>TP.bif (fun e=>nomatch e) (fun _=>TP.bind (TP.b9 (fun t h=>TP.bif (fun _=>TP.bind (a.jO (.cW []) fun ks u g=>TP.c8 (L:=L) fun k w e=>⟨ae,fun _=>ae⟩)) (fun e=>nomatch e)) (fun _=>TP.bif (fun e=>nomatch e) (fun _=>TP.dN)))))))))
theorem Yg(a:fN L fin aJ wide f)(kind:Int)(hn:s.i<L.length)(m:24*left L s+(aq.func kind).e7<=f+1):TP (P L fin aJ wide (f+1) (.func kind)) s (fl L (.func kind) s):=by
 rw[P];have j:∀{t:ap}{op:ByteArray}{pos:Int},left L t<left L s->TP (cw L fin lp>>=fun _=>P L fin aJ wide f (.dy [])>>=fun i=>eZ>>=fun s=>io {s with bu:=s.bu+1,loops:=0,bm:=0}>>=fun _=>one (P L fin aJ wide f (.block true))>>=fun b=>eZ>>=fun t=>io {t with bu:=t.bu-1,loops:=s.loops,bm:=s.bm}>>=fun _=>cm ⟨kind,op,0,i++[b],pos⟩) t (fl L (.func kind) s):=fun{t op pos}h=>TP.bind (TP.bW fun u g=>TP.bind (a.jO (.dy []) fun i v q=>TP.bind (TP.get (TP.bind (TP.set (L:=L) (by simp[*]) fun y z=>TP.bind (a.fw (.block true) fun b w r=>TP.bind (TP.get (TP.bind (TP.set (L:=L) (by simp[*]) fun c d=>TP.c8 (L:=L) fun k l e=>⟨ae,fun _=>ae⟩)))))))));exact TP.bind (TP.cd (TP.bind (TP.step (L:=L) hn fun t h=>TP.bind (TP.get (TP.bind (TP.bif (fun _=>TP.word fun w u g=>j ae) (fun _=>TP.ret (j h))))))))
theorem Yx(a:fN L fin aJ wide f)(hn:s.i<L.length)(b:24*left L s+aq.vars.e7<=f+1):TP (P L fin aJ wide (f+1) .vars) s (fl L .vars s):=by
 rw[P];exact TP.bind (TP.cd (TP.bind (TP.step (L:=L) hn fun t h=>TP.bind (a.jO (.dX []) fun ks u g=>TP.c8 (L:=L) fun k w e=>⟨ae,fun _=>ae⟩))))
theorem Yw(a:fN L fin aJ wide f)(aB:List Int)(c:24*left L s+(aq.dX aB).e7<=f+1):TP (P L fin aJ wide (f+1) (.dX aB)) s (fl L (.dX aB) s):=by
 rw[P];have b:∀{t:ap}{x:bP},left L t<left L s->TP (dj x>>=fun k=>cZ L oO>>=fun h=>bif !h then ret (aB++[k]) else P L fin aJ wide f (.dX (aB++[k]))) t (fl L (.dX aB) s):=fun{t x}h=>TP.bind (TP.node (L:=L) fun k u g=>TP.bind (TP.b9 (fun v q=>TP.bif (fun e=>nomatch e) (fun _=>a.jO (.dX (aB++[k])) fun ks y z=>⟨ae,fun _=>ae⟩)) (fun _=>TP.bif (fun _=>TP.ret ⟨ae,fun _=>ae⟩) (fun e=>nomatch e))));exact TP.bind (TP.cd (TP.bind (TP.word fun w t h=>TP.bind (TP.b9 (fun u g=>TP.bind (TP.bif (fun _=>a.jO .bf fun ks v q=>b ae) (fun e=>nomatch e))) (fun _=>TP.bind (TP.bif (fun e=>nomatch e) (fun _=>TP.ret (b h))))))))
theorem Yj(a:fN L fin aJ wide f)(b:24*left L s+aq.loop.e7<=f+1):TP (P L fin aJ wide (f+1) .loop) s (fl L .loop s):=by
 rw[P];exact TP.bind (TP.get (TP.bind (TP.set (L:=L) (by simp[*]) fun t h=>TP.bind (a.fw (.bT false) fun k u g=>TP.bind (TP.get (TP.bind (TP.set (L:=L) (by simp[*]) fun v q=>TP.ret ⟨ae,fun _=>ae⟩)))))))
theorem Yc(d:fN L fin aJ wide f)(pos:Int)(i:24*left L s+(aq.choose pos).e7<=f+1):TP (P L fin aJ wide (f+1) (.choose pos)) s (fl L (.choose pos) s):=by
 rw[P];exact TP.bind (d.fw .paren fun c t h=>TP.bind (TP.bW fun u g=>TP.bind (TP.get (TP.bind (TP.set (L:=L) (by simp[*]) fun v q=>TP.bind (d.jO (.ec [c] false) fun ks y z=>TP.bind (TP.get (TP.bind (TP.set (L:=L) (by simp[*]) fun a b=>TP.c8 (L:=L) fun k w e=>⟨ae,fun _=>ae⟩)))))))))
theorem Yf(i:fN L fin aJ wide f)(pos:Int)(p:24*left L s+(aq.dr pos).e7<=f+1):TP (P L fin aJ wide (f+1) (.dr pos)) s (fl L (.dr pos) s):=by
 rw[P];have key:∀{t:ap}{B:Bool},left L t<left L s->TP (bif B then iv L fin else one (P L fin aJ wide f .bf)) t fun _ u=>left L u<left L s:=fun{t B}h=>TP.bif (fun _=>TP.empty (L:=L) fun k u g=>ae) (fun _=>i.fw .bf fun k u g=>ae);have k2:∀{t:ap}{B C:Bool},left L t<left L s->(B=true->t.i<L.length)->TP (bif B then one (P L fin aJ wide f .vars) else bif C then iv L fin else fv L fin>>=fun x=>one (P L fin aJ wide f .bf)>>=fun e=>dj ⟨20,.empty,0,[e],x.pos⟩) t fun _ u=>left L u<left L s:=fun{t B C}h j=>TP.bif (fun e=>i.fw .vars (fun k u g=>ae) (hn:=j e)) (fun _=>TP.bif (fun _=>TP.empty (L:=L) fun k u g=>ae) (fun _=>TP.bind (TP.cd (TP.bind (i.fw .bf fun e u g=>TP.node (L:=L) fun k v q=>ae)))));refine TP.bind (TP.bW fun t h=>TP.bind (TP.get ?_));dsimp only;refine TP.bif (fun _=>?_) (fun _=>?_)
 ·exact TP.bind (TP.set (L:=L) (by grind) fun u g=>TP.bind (i.fw .bf fun e v q=>TP.bind (TP.bW fun w r=>TP.bind (i.fw .loop fun b y z=>TP.c8 (L:=L) fun k x e=>⟨ae,fun _=>ae⟩))))
 ·refine TP.bind (TP.mono (k2 h fun e=>je (t:=lg) (by revert e;cases bg L t 0 lg <;> intro e <;> first|rfl|cases e)) fun a u g=>TP.bind (TP.bW fun v q=>TP.bind (TP.mM fun b _=>TP.bind (TP.mono (key ae) fun c w r=>TP.bind (TP.bW fun y z=>TP.bind (TP.mM fun b _=>TP.bind (TP.mono (key ae) fun d aa bb=>TP.bind (TP.bW fun l m=>TP.bind (i.fw .loop fun b n o=>TP.c8 (L:=L) fun k x e=>⟨ae,fun _=>ae⟩)))))))))
theorem Yu(a:fN L fin aJ wide f)(pos:Int)(l:24*left L s+(aq.dF pos).e7<=f+1):TP (P L fin aJ wide (f+1) (.dF pos)) s (fl L (.dF pos) s):=by
 rw[P];have d:∀{t:ap}{x:Bool->List Int->bP},left L t<left L s->TP (cZ L ph>>=fun h=>(bif h then P L fin aJ wide f (.block false) else ret [])>>=fun fs=>cm (x h fs)) t (fl L (.dF pos) s):=fun{t x}h=>TP.bind (TP.b9 (fun u g=>TP.bind (TP.bif (fun _=>a.jO (.block false) fun fs v q=>TP.c8 (L:=L) fun k w e=>⟨ae,fun _=>ae⟩) (fun e=>nomatch e))) (fun _=>TP.bind (TP.bif (fun e=>nomatch e) (fun _=>TP.ret (TP.c8 (L:=L) fun k w e=>⟨ae,fun _=>ae⟩)))));refine TP.bind (a.fw (.block false) fun b t h=>TP.bind (TP.b9 (fun u g=>TP.bind (TP.bif (fun _=>?_) (fun e=>nomatch e))) (fun _=>TP.bind (TP.bif (fun e=>nomatch e) (fun _=>TP.ret ?_)))))
 ·refine TP.bind (TP.bW fun v q=>TP.bind (TP.word fun w y z=>TP.bind (TP.bW fun aa bb=>TP.bind (a.fw (.block false) fun c i j=>TP.ret ?_))));exact TP.bind (TP.get (TP.bind (TP.bif (fun _=>TP.dN) (fun _=>TP.ret (d (x:=fun h fs=>⟨34-2,w,bif true then (bif h then vL else lG) else vM,[b]++[c]++fs,pos⟩) ae)))))
 ·exact TP.bind (TP.get (TP.bind (TP.bif (fun _=>TP.dN) (fun _=>TP.ret (d (x:=fun h fs=>⟨34-2,.empty,bif false then (bif h then vL else lG) else vM,[b]++[]++fs,pos⟩) h)))))
theorem Yt(a:fN L fin aJ wide f)(aB:List Int)(seen:Bool)(i:24*left L s+(aq.ec aB seen).e7<=f+1):TP (P L fin aJ wide (f+1) (.ec aB seen)) s (fl L (.ec aB seen) s):=by
 rw[P];have c:∀{t:ap}{ks:List Int}{x:List Int->bP}{b:Bool},left L t<left L s->TP (cw L fin colon>>=fun _=>P L fin aJ wide f (.eu ks)>>=fun all=>dj (x all)>>=fun k=>P L fin aJ wide f (.ec (aB++[k]) b)) t (fl L (.ec aB seen) s):=fun{t ks x b}h=>TP.bind (TP.bW fun u g=>TP.bind (a.call (.eu ks) fun all v q _=>TP.bind (TP.node (L:=L) fun k w r=>a.jO (.ec (aB++[k]) b) fun ks y z=>⟨ae,fun _=>ae⟩)));exact TP.bind (TP.b9 (fun t h=>TP.bif (fun _=>TP.ret ⟨ae,fun _=>ae⟩) (fun e=>nomatch e)) (fun _=>TP.bif (fun e=>nomatch e) (fun _=>TP.bind (TP.cd (TP.bind (TP.b9 (fun t h=>TP.bind (TP.bif (fun _=>a.jO .bf fun ks u g=>c (x:=fun all=>⟨34,.empty,_,all,_⟩) ae) (fun e=>nomatch e))) (fun _=>TP.bind (TP.bif (fun e=>nomatch e) (fun _=>TP.bind (TP.mM fun b d=>TP.bif (fun e=>TP.bind (TP.step (L:=L) (je (t:=rx) (by rw[<-d];cases b <;> first|rfl|cases e)) fun t h=>TP.ret (c (x:=fun all=>⟨34,.empty,_,all,_⟩) h))) (fun _=>TP.dN)))))))))))
theorem Yq(a:fN L fin aJ wide f)(x:bh)(hn:s.i<L.length)(b:24*left L s+(aq.simple x).e7<=f+1):TP (P L fin aJ wide (f+1) (.simple x)) s (fl L (.simple x) s):=by
 rw[P];refine TP.bind (TP.get (TP.bind (TP.mono (Q:=fun _ t=>t=s) (TP.bif (fun _=>TP.ret rfl) (fun _=>TP.bif (fun _=>TP.ret rfl) (fun _=>TP.bif (fun _=>TP.ret rfl) (fun _=>TP.bif (fun _=>TP.ret rfl) (fun _=>TP.dN))))) fun kind t e=>?_)));subst e;exact TP.bind (TP.step (L:=L) hn fun u g=>TP.bind (TP.cd (TP.bind (TP.get (TP.bind (TP.bif (fun _=>TP.dN) (fun _=>TP.ret (TP.bind (TP.bif (fun _=>a.jO .bf fun ks v q=>TP.bind (TP.qc fun w r=>TP.c8 (L:=L) fun k y e=>⟨ae,fun _=>ae⟩)) (fun _=>TP.ret (TP.bind (TP.qc fun w r=>TP.c8 (L:=L) fun k y e=>⟨ae,fun _=>ae⟩))))))))))))
theorem Yr(d:fN L fin aJ wide f)(body:Bool)(j:24*left L s+(aq.bT body).e7<=f+1):TP (P L fin aJ wide (f+1) (.bT body)) s (fl L (.bT body) s):=by
 rw[P];have plain:TP (one (P L fin aJ wide f .bf)>>=fun e=>dQ L fin>>=fun _=>cm ⟨20,.empty,0,[e],(aC L fin s).pos⟩) s (fl L (.bT body) s):=TP.bind (d.fw .bf fun e t h=>TP.bind (TP.qc fun u g=>TP.c8 (L:=L) fun k w r=>⟨ae,fun _=>ae⟩));refine TP.bind (TP.cd (TP.bind (TP.get (TP.bif (fun _=>d.jO (.block false) fun ks t h=>⟨ae,fun _=>ae⟩) (fun _=>TP.bif (fun hk=>?_) (fun _=>?_))))))
 ·have hi:=je hk;exact TP.bind (TP.bind (TP.cd (ZZ (L:=L) fun k t i h=>TP.bind (TP.step (L:=L) ae fun u g=>TP.ret ⟨ae,fun _=>ae⟩))))
 dsimp only;refine TP.bif (fun hk=>?_) (fun _=>plain);have hi:s.i<L.length:=(jc (fin:=fin) (fun e=>by rw[e]at hk;cases hk));refine TP.bif (fun _=>?_) (fun _=>TP.bif (fun _=>?_) (fun _=>TP.bif (fun _=>?_) (fun _=>TP.bif (fun _=>?_) (fun _=>TP.bif (fun _=>?_) (fun _=>TP.bif (fun _=>?_) (fun _=>TP.bif (fun _=>?_) (fun _=>TP.bif (fun _=>?_) (fun _=>plain))))))))
 ·exact TP.bind (d.fw .vars (fun k t h=>TP.bind (TP.qc fun u g=>TP.ret ⟨ae,fun _=>ae⟩)) (hn:=hi))
 ·exact d.jO (.simple _) (fun ks t h=>⟨ae,fun _=>ae⟩) (hn:=hi)
 ·exact TP.bif (fun _=>TP.dN) (fun _=>d.jO (.func 35) (fun ks t h=>⟨ae,fun _=>ae⟩) (hn:=hi))
 ·exact TP.bind (TP.step (L:=L) hi fun t h=>TP.bind (d.fw .paren fun c u g=>TP.bind (d.fw (.bT false) fun a v q=>TP.bind (TP.b9 (fun w r=>TP.bind (TP.bif (fun _=>d.jO (.bT false) fun ks y z=>TP.c8 (L:=L) fun k x e=>⟨ae,fun _=>ae⟩) (fun e=>nomatch e))) (fun _=>TP.bind (TP.bif (fun e=>nomatch e) (fun _=>TP.ret (TP.c8 (L:=L) fun k x e=>⟨ae,fun _=>ae⟩))))))))
 ·exact TP.bind (TP.step (L:=L) hi fun t h=>TP.bind (d.fw .paren fun c u g=>TP.bind (d.fw .loop fun b v q=>TP.c8 (L:=L) fun k x e=>⟨ae,fun _=>ae⟩)))
 ·exact TP.bind (TP.step (L:=L) hi fun t h=>d.jO (.dr _) fun ks u g=>⟨ae,fun _=>ae⟩)
 ·exact TP.bind (TP.step (L:=L) hi fun t h=>d.jO (.dF _) fun ks u g=>⟨ae,fun _=>ae⟩)
 ·exact TP.bind (TP.step (L:=L) hi fun t h=>d.jO (.choose _) fun ks u g=>⟨ae,fun _=>ae⟩)
theorem Ll:∀f,fN L fin aJ wide f
 |0=>fun tag s _ a=>by
  exfalso;have:1<=tag.e7:=by cases tag <;> simp only[aq.e7] <;> omega
  omega
 |f+1=>fun tag s hn a=>by
  have b:=Ll f;cases tag with
  |bf=>exact Ye b a
  |cond=>exact Yd b a
  |level n=>exact Yh b n hn a
  |fY n c=>exact Yi b n c hn a
  |unary=>exact Yv b a
  |dO=>exact X8 b a
  |suffix=>exact Ys b a
  |d6 k=>exact Yn b k a
  |d0 aB=>exact Ya b aB a
  |cS aB=>exact X7 b aB a
  |cW aB=>exact Yk b aB a
  |dv=>exact Yo b a
  |func kind=>exact Yg b kind hn a
  |dy aB=>exact Yl b aB a
  |block body=>exact X9 b body a
  |fH aB body=>exact X_ b aB body a
  |paren=>exact Ym b a
  |vars=>exact Yx b hn a
  |dX aB=>exact Yw b aB a
  |loop=>exact Yj b a
  |dr pos=>exact Yf b pos a
  |dF pos=>exact Yu b pos a
  |choose pos=>exact Yc b pos a
  |ec aB seen=>exact Yt b aB seen a
  |eu aB=>exact Yb b aB a
  |simple x=>exact Yq b x hn a
  |bT body=>exact Yr b body a
  |prog aB=>exact Yp b aB a
end
end
section
open Go
def KP{α:Type}(m:PM α)(s:ap)(Q:α->ap->Prop):Prop:=∀a t,m s= .ok a t->Q a t
abbrev Dk(L:List bh)(k n:Nat)(s t:ap):Prop:=t.i=s.i+k/\t.i<=L.length/\t.nodes.length=s.nodes.length+n/\t.bu=s.bu/\t.loops=s.loops/\t.bm=s.bm
def aq.sl:aq->Nat
 | .bf| .cond| .level _| .unary| .dO| .suffix| .dv| .func _| .paren| .block _=>1
 |_=>0
def aq.sk:aq->Nat
 | .prog _=>1
 |_=>0
abbrev Kp(L:List bh)(tag:aq)(s t:ap):Prop:=s.i<=t.i/\t.i<=L.length/\s.nodes.length<=t.nodes.length/\t.nodes.length+2*s.i+tag.sl<=s.nodes.length+2*t.i+tag.sk/\t.bu=s.bu/\t.loops=s.loops/\t.bm=s.bm
section
variable{α β:Type}{fin:Int}{L:List bh}{aJ:Nat->ByteArray}{wide:ByteArray->ByteArray}{s:ap}
theorem KP.bind{m:PM α}{f:α->PM β}{Q:β->ap->Prop}(h:KP m s fun a t=>KP (f a) t Q):KP (m>>=f) s Q:=by
 intro b u e;have c:bS m f s= .ok b u:=e;unfold bS at c;cases d:m s with
 |ok a t=>rw[d]at c;exact h a t d b u c
 |stop p q t=>rw[d]at c;cases c
 |out=>rw[d]at c;cases c
theorem KP.mono{m:PM α}{Q R:α->ap->Prop}(h:KP m s Q)(k:∀a t,Q a t->R a t):KP m s R:=fun a t e=>k a t (h a t e)
theorem KP.ret{a:α}{Q:α->ap->Prop}(h:Q a s):KP (ret a) s Q:=fun b u e=>by cases e;exact h
variable{b:Bool}{T:ByteArray}{x:bP}{k:Int}{Q:Int->ap->Prop}{f:Nat}
theorem KP.bif{m n:PM α}{Q:α->ap->Prop}(a:b=true->KP m s Q)(c:b=false->KP n s Q):KP (bif b then m else n) s Q:=by
 grind
theorem KP.get{Q:ap->ap->Prop}(h:Q s s):KP eZ s Q:=fun b u e=>by cases e;exact h
theorem KP.dW(h:∀p,Q p s):KP (dW k) s Q:=fun b u e=>by cases e;exact h _
theorem Yy{j:Nat}{Q:Unit->ap->Prop}(hi:s.i+j<=L.length)(h:∀t,Dk L j 0 s t->Q () t):KP (io {s with i:=s.i+j}) s Q:=fun b u e=>by
 cases e;exact h _ ⟨rfl,hi,rfl,rfl,rfl,rfl⟩
theorem Az{a b c:Int}{Q:Unit->ap->Prop}(h:∀t:ap,t.i=s.i/\t.nodes.length=s.nodes.length/\t.bu=a/\t.loops=b/\t.bm=c->Q () t):KP (io {s with bu:=a,loops:=b,bm:=c}) s Q:=fun _ u e=>by
 cases e;exact h _ ⟨rfl,rfl,rfl,rfl,rfl⟩
theorem KP.node(hi:s.i<=L.length)(h:∀k t,Dk L 0 1 s t->Q k t):KP (dj x) s Q:=fun b u e=>by
 cases e;exact h _ _ ⟨rfl,hi,aL,rfl,rfl,rfl⟩
theorem KP.c8(hi:s.i<=L.length){Q:List Int->ap->Prop}(h:∀k t,Dk L 0 1 s t->Q k t):KP (cm x) s Q:=fun b u e=>by
 cases e;exact h _ _ ⟨rfl,hi,aL,rfl,rfl,rfl⟩
theorem KP.step(hi:s.i<L.length){Q:Unit->ap->Prop}(h:∀t,Dk L 1 0 s t->Q () t):KP eF s Q:=fun b u e=>by
 cases e;exact h _ ⟨rfl,hi,rfl,rfl,rfl,rfl⟩
theorem KP.cd{Q:bh->ap->Prop}(h:Q (aC L fin s) s):KP (fv L fin) s Q:=fun b u e=>by cases e;exact h
theorem KP.dN{Q:α->ap->Prop}:KP (kj L fin) s Q:=fun b u e=>by cases e
theorem KP.b9{Q:Bool->ap->Prop}(a:∀u,Dk L 1 0 s u->Q true u)(c:bg L s 0 T=false->Q false s):KP (cZ L T) s Q:=fun b u e=>by
 unfold cZ at e;cases hi:bg L s 0 T with
 |true=>rw[hi]at e;cases e;exact a _ ⟨rfl,je hi,rfl,rfl,rfl,rfl⟩
 |false=>rw[hi]at e;cases e;exact c hi
theorem KP.bW{Q:Unit->ap->Prop}(a:∀u,Dk L 1 0 s u->Q () u):KP (cw L fin T) s Q:=fun b u e=>by
 unfold cw at e;cases hi:bg L s 0 T with
 |true=>rw[hi]at e;cases e;exact a _ ⟨rfl,je hi,rfl,rfl,rfl,rfl⟩
 |false=>rw[hi]at e;cases e
theorem KP.mM{a:Nat}{Q:Bool->ap->Prop}(h:∀b,b=bg L s a T->Q b s):KP (iT L a T) s Q:=fun b u e=>by cases e;exact h _ rfl
theorem KP.kt{Q:Unit->ap->Prop}(h:Q () s):KP (kv k b) s Q:=fun c u e=>by
 unfold kv at e;revert e;cases (oT s k !=8&&(oT s k !=9&&(oT s k !=3|| !b)))with
 |true=>intro e;cases e
 |false=>intro e;cases e;exact h
theorem KP.word{Q:ByteArray->ap->Prop}(h:∀w t,Dk L 1 0 s t->Q w t):KP (gJ L fin) s Q:=fun b u e=>by
 unfold gJ at e;cases hk:(aC L fin s).kind !=1 with
 |true=>rw[hk]at e;cases e
 |false=>
  rw[hk]at e;cases e;exact h _ _ ⟨rfl,jc (fin:=fin) (fun a=>by rw[a]at hk;cases hk),rfl,rfl,rfl,rfl⟩
theorem CZ(hi:s.i<=L.length){Q:Unit->ap->Prop}(h:∀t,Dk L 0 0 s t\/Dk L 1 0 s t->Q () t):KP (dQ L fin) s Q:=fun b u e=>by
 unfold dQ at e;cases hs:bg L s 0 cU with
 |true=>rw[hs]at e;cases e;exact h _ (.inr ⟨rfl,je hs,rfl,rfl,rfl,rfl⟩)
 |false=>
  rw[hs]at e;revert e;rw[aN];cases (bg L s 0 rc||(decide (s.i>=L.length)||(aC L fin s).aI))with
  |true=>intro e;cases e;exact h _ (.inl ⟨rfl,hi,rfl,rfl,rfl,rfl⟩)
  |false=>intro e;cases e
theorem KP.key(h:∀k t,Dk L 1 1 s t->Q k t):KP (d5 L fin aJ wide) s Q:=fun b u e=>by
 have go:(aC L fin s).kind≠0->∀x k,Q k {s with i:=s.i+1,nodes:=s.nodes++[x]}:=fun hk x k=>h _ _ ⟨rfl,jc (fin:=fin) hk,aL,rfl,rfl,rfl⟩;unfold d5 at e;dsimp only at e;revert e;cases c:(aC L fin s).kind==1||(aC L fin s).kind==2 with
 |true=>intro e;cases e;exact go (fun a=>by rw[a]at c;cases c) _ _
 |false=>
  cases d:(aC L fin s).kind==3 with
  |true=>intro e;cases e;exact go (fun a=>by rw[a]at d;cases d) _ _
  |false=>
   cases f:(aC L fin s).kind==4 with
   |true=>intro e;cases e;exact go (fun a=>by rw[a]at f;cases f) _ _
   |false=>intro e;cases e
theorem KP.empty(hi:s.i<=L.length)(h:∀k t,Dk L 0 1 s t->Q k t):KP (iv L fin) s Q:=KP.bind (KP.cd (KP.node hi h))
def fm(L:List bh)(fin:Int)(aJ:Nat->ByteArray)(wide:ByteArray->ByteArray)(f:Nat):Prop:=
 ∀(tag:aq)(s:ap),s.i<=L.length->tag.ct L s->KP (P L fin aJ wide f tag) s fun _ t=>Kp L tag s t
abbrev KE(L:List bh)(s t:ap):Prop:=s.i<=t.i/\t.i<=L.length/\s.nodes.length<=t.nodes.length/\t.nodes.length+2*s.i+1<=s.nodes.length+2*t.i/\t.bu=s.bu/\t.loops=s.loops/\t.bm=s.bm
abbrev KS(L:List bh)(s t:ap):Prop:=s.i<=t.i/\t.i<=L.length/\s.nodes.length<=t.nodes.length/\t.nodes.length+2*s.i<=s.nodes.length+2*t.i/\t.bu=s.bu/\t.loops=s.loops/\t.bm=s.bm
theorem KP.one{m:PM (List Int)}(h:KP m s fun a t=>Q (a.headD 0) t):KP (one m) s Q:=KP.bind (m:=m) (f:=fun l=>Go.Proofs.YtdkchodgklpomaaGreatDoor.ret (l.headD 0)) (h.mono fun _ _ q=>KP.ret q)
theorem fm.e1(c:fm L fin aJ wide f)(tag:aq)(k:∀k t,KE L s t->Q k t)(hi:s.i<=L.length:=by omega)(hn:tag.ct L s:=by trivial)(a:tag.sl=1:=by rfl)(b:tag.sk=0:=by rfl):KP (one (P L fin aJ wide f tag)) s Q:=
 KP.one ((c tag s hi hn).mono fun ks t h=>k _ t (by unfold Kp at h;rw[a,b]at h;exact h))
theorem fm.s1(c:fm L fin aJ wide f)(tag:aq)(k:∀k t,KS L s t->Q k t)(hi:s.i<=L.length:=by omega)(hn:tag.ct L s:=by trivial)(a:tag.sl=0:=by rfl)(b:tag.sk=0:=by rfl):KP (one (P L fin aJ wide f tag)) s Q:=
 KP.one ((c tag s hi hn).mono fun ks t h=>k _ t (by unfold Kp at h;rw[a,b]at h;exact h))
theorem fm.re(c:fm L fin aJ wide f)(tag:aq){Q:List Int->ap->Prop}(k:∀k t,KE L s t->Q k t)(hi:s.i<=L.length:=by omega)(hn:tag.ct L s:=by trivial)(a:tag.sl=1:=by rfl)(b:tag.sk=0:=by rfl):KP (P L fin aJ wide f tag) s Q:=
 (c tag s hi hn).mono fun ks t h=>k _ t (by unfold Kp at h;rw[a,b]at h;exact h)
theorem fm.rs(c:fm L fin aJ wide f)(tag:aq){Q:List Int->ap->Prop}(k:∀k t,KS L s t->Q k t)(hi:s.i<=L.length:=by omega)(hn:tag.ct L s:=by trivial)(a:tag.sl=0:=by rfl)(b:tag.sk=0:=by rfl):KP (P L fin aJ wide f tag) s Q:=
 (c tag s hi hn).mono fun ks t h=>k _ t (by unfold Kp at h;rw[a,b]at h;exact h)
theorem YH(a:fm L fin aJ wide f)(hi:s.i<=L.length):KP (P L fin aJ wide (f+1) .bf) s fun _ t=>Kp L .bf s t:=by
 rw[P];refine KP.bind (a.e1 .cond fun k t h=>KP.bind (KP.cd (KP.bif (fun _=>KP.ret (by dsimp only[Kp,aq.sl,aq.sk];omega)) (fun hk=>KP.bind (KP.kt (KP.bind (KP.step (L:=L) (jc (fin:=fin) ?_) fun u g=>KP.bind (a.e1 .bf fun r v q=>KP.bind (KP.dW fun p=>KP.c8 (L:=L) ae fun k w e=>(by dsimp only[Kp,aq.sl,aq.sk];omega))))))))));grind
theorem YG(d:fm L fin aJ wide f)(hi:s.i<=L.length):KP (P L fin aJ wide (f+1) .cond) s fun _ t=>Kp L .cond s t:=by
 rw[P];exact KP.bind (d.e1 (.level 0) (hn:=dq _) fun c t h=>KP.bind (KP.b9 (fun u g=>KP.bif (fun e=>nomatch e) (fun _=>KP.bind (d.e1 .bf fun a v q=>KP.bind (KP.bW fun w e=>KP.bind (d.e1 .bf fun b y z=>KP.bind (KP.dW fun p=>KP.c8 (L:=L) ae fun k w e=>(by dsimp only[Kp,aq.sl,aq.sk];omega))))))) (fun _=>KP.bif (fun _=>KP.ret (by dsimp only[Kp,aq.sl,aq.sk];omega)) (fun e=>nomatch e))))
theorem YY(a:fm L fin aJ wide f)(hi:s.i<=L.length):KP (P L fin aJ wide (f+1) .unary) s fun _ t=>Kp L .unary s t:=by
 rw[P];refine KP.bind (KP.cd (KP.bif (fun _=>a.re .dO fun ks t h=>(by dsimp only[Kp,aq.sl,aq.sk];omega)) (fun hk=>?_)));have hi:s.i<L.length:=jc (fin:=fin) (fun e=>by rw[e]at hk;cases hk);exact KP.bif (fun _=>KP.bind (KP.step (L:=L) hi fun t h=>KP.bind (a.e1 .unary fun k u g=>KP.bind (KP.bif (fun _=>KP.kt (KP.c8 (L:=L) ae fun k w e=>(by dsimp only[Kp,aq.sl,aq.sk];omega))) (fun _=>KP.ret (KP.c8 (L:=L) ae fun k w e=>(by dsimp only[Kp,aq.sl,aq.sk];omega))))))) (fun _=>KP.bif (fun _=>KP.bind (KP.step (L:=L) hi fun t h=>KP.bind (a.e1 .unary fun k u g=>KP.bind (KP.kt (KP.c8 (L:=L) ae fun k w e=>(by dsimp only[Kp,aq.sl,aq.sk];omega)))))) (fun _=>a.re .dO fun ks t h=>(by dsimp only[Kp,aq.sl,aq.sk];omega)))
theorem YA(a:fm L fin aJ wide f)(hi:s.i<=L.length):KP (P L fin aJ wide (f+1) .dO) s fun _ t=>Kp L .dO s t:=by
 rw[P];refine KP.bind (a.e1 .suffix fun k t h=>KP.bind (KP.cd (KP.bif (fun _=>KP.ret (by dsimp only[Kp,aq.sl,aq.sk];omega)) (fun hk=>KP.bind (KP.kt (KP.bind (KP.step (L:=L) (jc (fin:=fin) ?_) fun u g=>KP.bind (KP.dW fun p=>KP.c8 (L:=L) ae fun k w e=>(by dsimp only[Kp,aq.sl,aq.sk];omega)))))))));grind
theorem YV(a:fm L fin aJ wide f)(hi:s.i<=L.length):KP (P L fin aJ wide (f+1) .suffix) s fun _ t=>Kp L .suffix s t:=by
 rw[P];exact KP.bind (a.e1 .dv fun k t h=>a.rs (.d6 k) fun ks u g=>(by dsimp only[Kp,aq.sl,aq.sk];omega))
theorem YD(a:fm L fin aJ wide f)(aB:List Int)(hi:s.i<=L.length):KP (P L fin aJ wide (f+1) (.d0 aB)) s fun _ t=>Kp L (.d0 aB) s t:=by
 rw[P];have fI:∀{t:ap},KS L s t->KP (one (P L fin aJ wide f .bf)>>=fun e=>P L fin aJ wide f (.d0 (aB++[e]))) t fun _ t=>Kp L (.d0 aB) s t:=fun{t}h=>KP.bind (a.e1 .bf fun e u g=>a.rs (.d0 (aB++[e])) fun ks v q=>(by dsimp only[Kp,aq.sl,aq.sk];omega));exact KP.bind (KP.b9 (fun t h=>KP.bif (fun _=>KP.ret (by dsimp only[Kp,aq.sl,aq.sk];omega)) (fun e=>nomatch e)) (fun _=>KP.bif (fun e=>nomatch e) (fun _=>KP.bind (KP.bif (fun _=>KP.bW fun t h=>fI ae) (fun _=>KP.ret (fI ae))))))
theorem Yz(a:fm L fin aJ wide f)(aB:List Int)(hi:s.i<=L.length):KP (P L fin aJ wide (f+1) (.cS aB)) s fun _ t=>Kp L (.cS aB) s t:=by
 rw[P];exact KP.bind (KP.b9 (fun t h=>KP.bif (fun _=>KP.ret (by dsimp only[Kp,aq.sl,aq.sk];omega)) (fun e=>nomatch e)) (fun _=>KP.bif (fun e=>nomatch e) (fun _=>KP.bind (a.e1 .bf fun e u g=>KP.bind (KP.mM fun b _=>KP.bind (KP.bif (fun _=>KP.bW fun t h=>a.rs (.cS (aB++[e])) fun ks v q=>(by dsimp only[Kp,aq.sl,aq.sk];omega)) (fun _=>KP.ret (a.rs (.cS (aB++[e])) fun ks v q=>(by dsimp only[Kp,aq.sl,aq.sk];omega)))))))))
theorem YN(a:fm L fin aJ wide f)(aB:List Int)(hi:s.i<=L.length):KP (P L fin aJ wide (f+1) (.cW aB)) s fun _ t=>Kp L (.cW aB) s t:=by
 rw[P];exact KP.bind (KP.b9 (fun t h=>KP.bif (fun _=>KP.ret (by dsimp only[Kp,aq.sl,aq.sk];omega)) (fun e=>nomatch e)) (fun _=>KP.bif (fun e=>nomatch e) (fun _=>KP.bind (KP.key fun k t h=>KP.bind (KP.bW fun u g=>KP.bind (a.e1 .bf fun e v q=>KP.bind (KP.mM fun b _=>KP.bind (KP.bif (fun _=>KP.bW fun t h=>a.rs (.cW (aB++[k]++[e])) fun ks v q=>(by dsimp only[Kp,aq.sl,aq.sk];omega)) (fun _=>KP.ret (a.rs (.cW (aB++[k]++[e])) fun ks v q=>(by dsimp only[Kp,aq.sl,aq.sk];omega)))))))))))
theorem YP(a:fm L fin aJ wide f)(hi:s.i<=L.length):KP (P L fin aJ wide (f+1) .paren) s fun _ t=>Kp L .paren s t:=by
 rw[P];exact KP.bind (KP.bW fun t h=>KP.bind (a.e1 .bf fun k u g=>KP.bind (KP.bW fun v q=>KP.ret (by dsimp only[Kp,aq.sl,aq.sk];omega))))
theorem YB(a:fm L fin aJ wide f)(body:Bool)(hi:s.i<=L.length):KP (P L fin aJ wide (f+1) (.block body)) s fun _ t=>Kp L (.block body) s t:=by
 rw[P];exact KP.bind (KP.cd (KP.bind (KP.bW fun t h=>KP.bind (a.rs (.fH [] body) fun ks u g=>KP.c8 (L:=L) ae fun k w e=>(by dsimp only[Kp,aq.sl,aq.sk];omega)))))
theorem YC(a:fm L fin aJ wide f)(aB:List Int)(body:Bool)(hi:s.i<=L.length):KP (P L fin aJ wide (f+1) (.fH aB body)) s fun _ t=>Kp L (.fH aB body) s t:=by
 rw[P];exact KP.bind (KP.b9 (fun t h=>KP.bif (fun _=>KP.ret (by dsimp only[Kp,aq.sl,aq.sk];omega)) (fun e=>nomatch e)) (fun _=>KP.bif (fun e=>nomatch e) (fun _=>KP.bind (a.s1 (.bT body) fun k t h=>a.rs (.fH (aB++[k]) body) fun ks u g=>(by dsimp only[Kp,aq.sl,aq.sk];omega)))))
theorem YE(a:fm L fin aJ wide f)(aB:List Int)(hi:s.i<=L.length):KP (P L fin aJ wide (f+1) (.eu aB)) s fun _ t=>Kp L (.eu aB) s t:=by
 rw[P];exact KP.bind (KP.get (KP.bif (fun _=>KP.bind (a.s1 (.bT false) fun k t h=>a.rs (.eu (aB++[k])) fun ks u g=>(by dsimp only[Kp,aq.sl,aq.sk];omega))) (fun _=>KP.ret (by dsimp only[Kp,aq.sl,aq.sk];omega))))
theorem YS(a:fm L fin aJ wide f)(aB:List Int)(hi:s.i<=L.length):KP (P L fin aJ wide (f+1) (.prog aB)) s fun _ t=>Kp L (.prog aB) s t:=by
 rw[P];exact KP.bind (KP.get (KP.bif (fun _=>KP.bind (a.s1 (.bT true) fun k t h=>(a (.prog (aB++[k])) t ae trivial).mono fun ks u g=>by dsimp only[Kp,aq.sl,aq.sk]at g⊢;omega)) (fun _=>KP.c8 (L:=L) hi fun k w e=>(by dsimp only[Kp,aq.sl,aq.sk];omega))))
theorem YO(a:fm L fin aJ wide f)(aB:List Int)(hi:s.i<=L.length):KP (P L fin aJ wide (f+1) (.dy aB)) s fun _ t=>Kp L (.dy aB) s t:=by
 rw[P];have fI:∀{t:ap},KS L s t->KP (fv L fin>>=fun x=>gJ L fin>>=fun w=>dj ⟨3,w,0,[],x.pos⟩>>=fun k=>P L fin aJ wide f (.dy (aB++[k]))) t fun _ t=>Kp L (.dy aB) s t:=fun{t}h=>KP.bind (KP.cd (KP.bind (KP.word fun w u g=>KP.bind (KP.node (L:=L) ae fun k v q=>a.rs (.dy (aB++[k])) fun ks y z=>(by dsimp only[Kp,aq.sl,aq.sk];omega)))));exact KP.bind (KP.b9 (fun t h=>KP.bif (fun _=>KP.ret (by dsimp only[Kp,aq.sl,aq.sk];omega)) (fun e=>nomatch e)) (fun _=>KP.bif (fun e=>nomatch e) (fun _=>KP.bind (KP.bif (fun _=>KP.bW fun t h=>fI ae) (fun _=>KP.ret (fI ae))))))
theorem YK(a:fm L fin aJ wide f)(n:Nat)(hn:n<=10)(hi:s.i<=L.length):KP (P L fin aJ wide (f+1) (.level n)) s fun _ t=>Kp L (.level n) s t:=by
 rw[P];refine KP.bif (fun _=>a.re .unary fun ks t h=>(by dsimp only[Kp,aq.sl,aq.sk];omega)) (fun e=>?_);have hn:n+1<=10:=by
  grind
 exact KP.bind (a.e1 (.level (n+1)) (hn:=hn) fun k t h=>a.rs (.fY n k) (hn:=by show n<=9;omega) fun ks u g=>(by dsimp only[Kp,aq.sl,aq.sk];omega))
theorem YL(a:fm L fin aJ wide f)(n:Nat)(b:Int)(hn:n<=9)(hi:s.i<=L.length):KP (P L fin aJ wide (f+1) (.fY n b)) s fun _ t=>Kp L (.fY n b) s t:=by
 rw[P];refine KP.bind (KP.cd (KP.bif (fun _=>KP.ret (by dsimp only[Kp,aq.sl,aq.sk];omega)) (fun hk=>KP.bind (KP.step (L:=L) (jc (fin:=fin) ?_) fun t h=>KP.bind (a.e1 (.level (n+1)) (hn:=by show n+1<=10;omega) fun r u g=>KP.bind (KP.dW fun p=>KP.bind (KP.node (L:=L) ae fun k v q=>a.rs (.fY n k) (hn:=hn) fun ks y z=>(by dsimp only[Kp,aq.sl,aq.sk];omega))))))));intro e;rw[e]at hk;cases hk
theorem YQ(b:fm L fin aJ wide f)(a:Int)(hi:s.i<=L.length):KP (P L fin aJ wide (f+1) (.d6 a)) s fun _ t=>Kp L (.d6 a) s t:=by
 rw[P];have c:∀{t:ap}{x:bP},t.i<=L.length/\s.i<=t.i/\s.nodes.length<=t.nodes.length/\t.nodes.length+2*s.i+1<=s.nodes.length+2*t.i/\t.bu=s.bu/\t.loops=s.loops/\t.bm=s.bm->KP (dj x>>=fun m=>P L fin aJ wide f (.d6 m)) t fun _ t=>Kp L (.d6 a) s t:=fun{t x}h=>KP.bind (KP.node (L:=L) ae fun k u g=>b.rs (.d6 k) fun ks v q=>(by dsimp only[Kp,aq.sl,aq.sk];omega));refine KP.bind (KP.b9 (fun t h=>KP.bif (fun _=>?_) (fun e=>nomatch e)) (fun _=>KP.bif (fun e=>nomatch e) (fun _=>KP.bind (KP.b9 (fun t h=>KP.bif (fun _=>?_) (fun e=>nomatch e)) (fun _=>KP.bif (fun e=>nomatch e) (fun _=>KP.bind (KP.b9 (fun t h=>KP.bif (fun _=>?_) (fun e=>nomatch e)) (fun _=>KP.bif (fun e=>nomatch e) (fun _=>KP.ret (by dsimp only[Kp,aq.sl,aq.sk];omega))))))))))
 ·refine KP.bind (KP.cd (KP.bind (KP.bif (fun _=>KP.dN) (fun hk=>KP.ret (KP.bind (KP.step (L:=L) (jc (fin:=fin) ?_) fun u g=>KP.bind (KP.dW fun p=>c ae)))))));intro e;rw[e]at hk;cases hk
 ·exact KP.bind (b.e1 .bf fun e u g=>KP.bind (KP.bW fun v q=>KP.bind (KP.dW fun p=>c ae)))
 ·exact KP.bind (b.rs (.d0 [a]) fun e u g=>KP.bind (KP.dW fun p=>c ae))
theorem YR(b:fm L fin aJ wide f)(hi:s.i<=L.length):KP (P L fin aJ wide (f+1) .dv) s fun _ t=>Kp L .dv s t:=by
 rw[P];have a:∀{x:bP},s.i<L.length->KP (eF>>=fun _=>cm x) s fun _ t=>Kp L .dv s t:=fun{x}h=>KP.bind (KP.step (L:=L) h fun t g=>KP.c8 (L:=L) ae fun k w e=>(by dsimp only[Kp,aq.sl,aq.sk];omega));refine KP.bind (KP.cd (KP.bif (fun hk=>a (jc (fin:=fin) fun e=>by rw[e]at hk;cases hk)) (fun _=>KP.bif (fun hk=>a (jc (fin:=fin) fun e=>by rw[e]at hk;cases hk)) (fun _=>KP.bif (fun hk=>a (jc (fin:=fin) fun e=>by rw[e]at hk;cases hk)) (fun _=>KP.bind (KP.get (KP.bif (fun hk=>a ?_) (fun _=>KP.bif (fun hk=>b.re (.func 7) (hn:=je hk) fun ks t h=>(by dsimp only[Kp,aq.sl,aq.sk];omega)) (fun _=>KP.bind (KP.b9 (fun t h=>KP.bif (fun _=>?_) (fun e=>nomatch e)) (fun _=>KP.bif (fun e=>nomatch e) (fun _=>KP.bind (KP.b9 (fun t h=>KP.bif (fun _=>?_) (fun e=>nomatch e)) (fun _=>KP.bif (fun e=>nomatch e) (fun _=>KP.bind (KP.b9 (fun t h=>KP.bif (fun _=>?_) (fun e=>nomatch e)) (fun _=>KP.bif (fun e=>nomatch e) (fun _=>KP.dN))))))))))))))))))
 ·rw[Bool.or_eq_true,Bool.or_eq_true]at hk;rcases hk with h|h|h <;> exact je h
 ·exact KP.bind (b.e1 .bf fun k u g=>KP.bind (KP.bW fun v q=>KP.ret (by dsimp only[Kp,aq.sl,aq.sk];omega)))
 ·exact KP.bind (b.rs (.cS []) fun ks u g=>KP.c8 (L:=L) ae fun k w e=>(by dsimp only[Kp,aq.sl,aq.sk];omega))
 ·exact KP.bind (b.rs (.cW []) fun ks u g=>KP.c8 (L:=L) ae fun k w e=>(by dsimp only[Kp,aq.sl,aq.sk];omega))
theorem YJ(a:fm L fin aJ wide f)(kind:Int)(hn:s.i<L.length):KP (P L fin aJ wide (f+1) (.func kind)) s fun _ t=>Kp L (.func kind) s t:=by
 rw[P];have j:∀{t:ap}{op:ByteArray}{pos:Int},t.i<=L.length/\s.i+1<=t.i/\t.nodes.length=s.nodes.length/\t.bu=s.bu/\t.loops=s.loops/\t.bm=s.bm->KP (cw L fin lp>>=fun _=>P L fin aJ wide f (.dy [])>>=fun i=>eZ>>=fun s=>io {s with bu:=s.bu+1,loops:=0,bm:=0}>>=fun _=>one (P L fin aJ wide f (.block true))>>=fun b=>eZ>>=fun t=>io {t with bu:=t.bu-1,loops:=s.loops,bm:=s.bm}>>=fun _=>cm ⟨kind,op,0,i++[b],pos⟩) t fun _ t=>Kp L (.func kind) s t:=fun{t op pos}h=>KP.bind (KP.bW fun u g=>KP.bind (a.rs (.dy []) fun i v q=>KP.bind (KP.get (KP.bind (Az fun y z=>KP.bind (a.e1 (.block true) fun b w r=>KP.bind (KP.get (KP.bind (Az fun c d=>KP.c8 (L:=L) ae fun k l e=>(by dsimp only[Kp,aq.sl,aq.sk];omega))))))))));exact KP.bind (KP.cd (KP.bind (KP.step (L:=L) hn fun t h=>KP.bind (KP.get (KP.bind (KP.bif (fun _=>KP.word fun w u g=>j ae) (fun _=>KP.ret (j ae))))))))
theorem Y0(a:fm L fin aJ wide f)(hn:s.i<L.length):KP (P L fin aJ wide (f+1) .vars) s fun _ t=>Kp L .vars s t:=by
 rw[P];exact KP.bind (KP.cd (KP.bind (KP.step (L:=L) hn fun t h=>KP.bind (a.rs (.dX []) fun ks u g=>KP.c8 (L:=L) ae fun k w e=>(by dsimp only[Kp,aq.sl,aq.sk];omega)))))
theorem YZ(a:fm L fin aJ wide f)(aB:List Int)(hi:s.i<=L.length):KP (P L fin aJ wide (f+1) (.dX aB)) s fun _ t=>Kp L (.dX aB) s t:=by
 rw[P];have b:∀{t:ap}{x:bP},t.i<=L.length/\s.i+1<=t.i/\s.nodes.length<=t.nodes.length/\t.nodes.length+2*s.i+1<=s.nodes.length+2*t.i/\t.bu=s.bu/\t.loops=s.loops/\t.bm=s.bm->KP (dj x>>=fun k=>cZ L oO>>=fun h=>bif !h then ret (aB++[k]) else P L fin aJ wide f (.dX (aB++[k]))) t fun _ t=>Kp L (.dX aB) s t:=fun{t x}h=>KP.bind (KP.node (L:=L) ae fun k u g=>KP.bind (KP.b9 (fun v q=>KP.bif (fun e=>nomatch e) (fun _=>a.rs (.dX (aB++[k])) fun ks y z=>(by dsimp only[Kp,aq.sl,aq.sk];omega))) (fun _=>KP.bif (fun _=>KP.ret (by dsimp only[Kp,aq.sl,aq.sk];omega)) (fun e=>nomatch e))));exact KP.bind (KP.cd (KP.bind (KP.word fun w t h=>KP.bind (KP.b9 (fun u g=>KP.bind (KP.bif (fun _=>a.re .bf fun ks v q=>b ae) (fun e=>nomatch e))) (fun _=>KP.bind (KP.bif (fun e=>nomatch e) (fun _=>KP.ret (b ae))))))))
theorem YM(a:fm L fin aJ wide f)(hi:s.i<=L.length):KP (P L fin aJ wide (f+1) .loop) s fun _ t=>Kp L .loop s t:=by
 rw[P];exact KP.bind (KP.get (KP.bind (Az fun t h=>KP.bind (a.s1 (.bT false) fun k u g=>KP.bind (KP.get (KP.bind (Az fun v q=>KP.ret (by dsimp only[Kp,aq.sl,aq.sk];omega))))))))
theorem YF(d:fm L fin aJ wide f)(pos:Int)(hi:s.i<=L.length):KP (P L fin aJ wide (f+1) (.choose pos)) s fun _ t=>Kp L (.choose pos) s t:=by
 rw[P];exact KP.bind (d.e1 .paren fun c t h=>KP.bind (KP.bW fun u g=>KP.bind (KP.get (KP.bind (Az fun v q=>KP.bind (d.rs (.ec [c] false) fun ks y z=>KP.bind (KP.get (KP.bind (Az fun a b=>KP.c8 (L:=L) ae fun k w e=>(by dsimp only[Kp,aq.sl,aq.sk];omega))))))))))
theorem VV{v:Nat}(h:(nameV L s v&&bg L s (v+1) T)=true):s.i+(v+2)<=L.length:=by
 rw[gX]at h;have:=h.2;unfold bg at this;grind
theorem YI(i:fm L fin aJ wide f)(pos:Int)(hi:s.i<=L.length):KP (P L fin aJ wide (f+1) (.dr pos)) s fun _ t=>Kp L (.dr pos) s t:=by
 rw[P];have key:∀{t:ap}{B:Bool},t.i<=L.length->KP (bif B then iv L fin else one (P L fin aJ wide f .bf)) t fun _ u=>t.i<=u.i/\u.i<=L.length/\t.nodes.length<=u.nodes.length/\u.nodes.length+2*t.i<=t.nodes.length+2*u.i+1/\u.bu=t.bu/\u.loops=t.loops/\u.bm=t.bm:=fun{t B}h=>KP.bif (fun _=>KP.empty (L:=L) h fun k u g=>ae) (fun _=>i.e1 .bf fun k u g=>ae);have k2:∀{t:ap}{B C:Bool},t.i<=L.length->(B=true->t.i<L.length)->KP (bif B then one (P L fin aJ wide f .vars) else bif C then iv L fin else fv L fin>>=fun x=>one (P L fin aJ wide f .bf)>>=fun e=>dj ⟨20,.empty,0,[e],x.pos⟩) t fun _ u=>t.i<=u.i/\u.i<=L.length/\t.nodes.length<=u.nodes.length/\u.nodes.length+2*t.i<=t.nodes.length+2*u.i+1/\u.bu=t.bu/\u.loops=t.loops/\u.bm=t.bm:=fun{t B C}h j=>KP.bif (fun e=>i.s1 .vars (fun k u g=>ae) (hn:=j e)) (fun _=>KP.bif (fun _=>KP.empty (L:=L) h fun k u g=>ae) (fun _=>KP.bind (KP.cd (KP.bind (i.e1 .bf fun e u g=>KP.node (L:=L) ae fun k v q=>ae)))));refine KP.bind (KP.bW fun t h=>KP.bind (KP.get ?_));dsimp only;refine KP.bif (fun hk=>?_) (fun _=>?_)
 ·exact KP.bind (Yy (L:=L) (VV hk) fun u g=>KP.bind (i.e1 .bf fun e v q=>KP.bind (KP.bW fun w r=>KP.bind (i.s1 .loop fun b y z=>KP.c8 (L:=L) ae fun k x e=>(by dsimp only[Kp,aq.sl,aq.sk];omega)))))
 ·refine KP.bind (KP.mono (k2 ae fun e=>je (t:=lg) (by revert e;cases bg L t 0 lg <;> intro e <;> first|rfl|cases e)) fun a u g=>KP.bind (KP.bW fun v q=>KP.bind (KP.mM fun b _=>KP.bind (KP.mono (key ae) fun c w r=>KP.bind (KP.bW fun y z=>KP.bind (KP.mM fun b _=>KP.bind (KP.mono (key ae) fun d aa bb=>KP.bind (KP.bW fun l m=>KP.bind (i.s1 .loop fun b n o=>KP.c8 (L:=L) ae fun k x e=>(by dsimp only[Kp,aq.sl,aq.sk];omega))))))))))
theorem YX(a:fm L fin aJ wide f)(pos:Int)(hi:s.i<=L.length):KP (P L fin aJ wide (f+1) (.dF pos)) s fun _ t=>Kp L (.dF pos) s t:=by
 rw[P];have d:∀{t:ap}{x:Bool->List Int->bP},t.i<=L.length/\s.i<=t.i/\s.nodes.length<=t.nodes.length/\t.nodes.length+2*s.i+1<=s.nodes.length+2*t.i/\t.bu=s.bu/\t.loops=s.loops/\t.bm=s.bm->KP (cZ L ph>>=fun h=>(bif h then P L fin aJ wide f (.block false) else ret [])>>=fun fs=>cm (x h fs)) t fun _ t=>Kp L (.dF pos) s t:=fun{t x}h=>KP.bind (KP.b9 (fun u g=>KP.bind (KP.bif (fun _=>a.re (.block false) fun fs v q=>KP.c8 (L:=L) ae fun k w e=>(by dsimp only[Kp,aq.sl,aq.sk];omega)) (fun e=>nomatch e))) (fun _=>KP.bind (KP.bif (fun e=>nomatch e) (fun _=>KP.ret (KP.c8 (L:=L) ae fun k w e=>(by dsimp only[Kp,aq.sl,aq.sk];omega))))));refine KP.bind (a.e1 (.block false) fun b t h=>KP.bind (KP.b9 (fun u g=>KP.bind (KP.bif (fun _=>?_) (fun e=>nomatch e))) (fun _=>KP.bind (KP.bif (fun e=>nomatch e) (fun _=>KP.ret ?_)))))
 ·refine KP.bind (KP.bW fun v q=>KP.bind (KP.word fun w y z=>KP.bind (KP.bW fun aa bb=>KP.bind (a.e1 (.block false) fun c i j=>KP.ret ?_))));exact KP.bind (KP.get (KP.bind (KP.bif (fun _=>KP.dN) (fun _=>KP.ret (d (x:=fun h fs=>⟨34-2,w,bif true then (bif h then vL else lG) else vM,[b]++[c]++fs,pos⟩) ae)))))
 ·exact KP.bind (KP.get (KP.bind (KP.bif (fun _=>KP.dN) (fun _=>KP.ret (d (x:=fun h fs=>⟨34-2,.empty,bif false then (bif h then vL else lG) else vM,[b]++[]++fs,pos⟩) ae)))))
theorem YW(a:fm L fin aJ wide f)(aB:List Int)(seen:Bool)(hi:s.i<=L.length):KP (P L fin aJ wide (f+1) (.ec aB seen)) s fun _ t=>Kp L (.ec aB seen) s t:=by
 rw[P];have c:∀{t:ap}{ks:List Int}{x:List Int->bP}{b:Bool},t.i<=L.length/\s.i<=t.i/\s.nodes.length<=t.nodes.length/\t.nodes.length+2*s.i<=s.nodes.length+2*t.i/\t.bu=s.bu/\t.loops=s.loops/\t.bm=s.bm->KP (cw L fin colon>>=fun _=>P L fin aJ wide f (.eu ks)>>=fun all=>dj (x all)>>=fun k=>P L fin aJ wide f (.ec (aB++[k]) b)) t fun _ t=>Kp L (.ec aB seen) s t:=fun{t ks x b}h=>KP.bind (KP.bW fun u g=>KP.bind (a.rs (.eu ks) fun all v q=>KP.bind (KP.node (L:=L) ae fun k w r=>a.rs (.ec (aB++[k]) b) fun ks y z=>(by dsimp only[Kp,aq.sl,aq.sk];omega))));exact KP.bind (KP.b9 (fun t h=>KP.bif (fun _=>KP.ret (by dsimp only[Kp,aq.sl,aq.sk];omega)) (fun e=>nomatch e)) (fun _=>KP.bif (fun e=>nomatch e) (fun _=>KP.bind (KP.cd (KP.bind (KP.b9 (fun t h=>KP.bind (KP.bif (fun _=>a.re .bf fun ks u g=>c (x:=fun all=>⟨34,.empty,_,all,_⟩) ae) (fun e=>nomatch e))) (fun _=>KP.bind (KP.bif (fun e=>nomatch e) (fun _=>KP.bind (KP.mM fun b d=>KP.bif (fun e=>KP.bind (KP.step (L:=L) (je (t:=rx) (by rw[<-d];cases b <;> first|rfl|cases e)) fun t h=>KP.ret (c (x:=fun all=>⟨34,.empty,_,all,_⟩) ae))) (fun _=>KP.dN)))))))))))
theorem YT(a:fm L fin aJ wide f)(x:bh)(hn:s.i<L.length):KP (P L fin aJ wide (f+1) (.simple x)) s fun _ t=>Kp L (.simple x) s t:=by
 rw[P];refine KP.bind (KP.get (KP.bind (KP.mono (Q:=fun _ t=>t=s) (KP.bif (fun _=>KP.ret rfl) (fun _=>KP.bif (fun _=>KP.ret rfl) (fun _=>KP.bif (fun _=>KP.ret rfl) (fun _=>KP.bif (fun _=>KP.ret rfl) (fun _=>KP.dN))))) fun kind t e=>?_)));subst e;exact KP.bind (KP.step (L:=L) hn fun u g=>KP.bind (KP.cd (KP.bind (KP.get (KP.bind (KP.bif (fun _=>KP.dN) (fun _=>KP.ret (KP.bind (KP.bif (fun _=>a.re .bf fun ks v q=>KP.bind (CZ (L:=L) ae fun w r=>KP.c8 (L:=L) ae fun k y e=>(by dsimp only[Kp,aq.sl,aq.sk];omega))) (fun _=>KP.ret (KP.bind (CZ (L:=L) ae fun w r=>KP.c8 (L:=L) ae fun k y e=>(by dsimp only[Kp,aq.sl,aq.sk];omega)))))))))))))
theorem YU(d:fm L fin aJ wide f)(body:Bool)(hi:s.i<=L.length):KP (P L fin aJ wide (f+1) (.bT body)) s fun _ t=>Kp L (.bT body) s t:=by
 rw[P];have plain:KP (one (P L fin aJ wide f .bf)>>=fun e=>dQ L fin>>=fun _=>cm ⟨20,.empty,0,[e],(aC L fin s).pos⟩) s fun _ t=>Kp L (.bT body) s t:=KP.bind (d.e1 .bf fun e t h=>KP.bind (CZ (L:=L) ae fun u g=>KP.c8 (L:=L) ae fun k w r=>(by dsimp only[Kp,aq.sl,aq.sk];omega)));refine KP.bind (KP.cd (KP.bind (KP.get (KP.bif (fun _=>d.re (.block false) fun ks t h=>(by dsimp only[Kp,aq.sl,aq.sk];omega)) (fun _=>KP.bif (fun hk=>?_) (fun _=>?_))))))
 ·have i:=je hk;exact KP.bind (KP.empty (L:=L) hi fun k t h=>KP.bind (KP.step (L:=L) ae fun u g=>KP.ret (by dsimp only[Kp,aq.sl,aq.sk];omega)))
 dsimp only;refine KP.bif (fun hk=>?_) (fun _=>plain);have hi:s.i<L.length:=(jc (fin:=fin) (fun e=>by rw[e]at hk;cases hk));refine KP.bif (fun _=>?_) (fun _=>KP.bif (fun _=>?_) (fun _=>KP.bif (fun _=>?_) (fun _=>KP.bif (fun _=>?_) (fun _=>KP.bif (fun _=>?_) (fun _=>KP.bif (fun _=>?_) (fun _=>KP.bif (fun _=>?_) (fun _=>KP.bif (fun _=>?_) (fun _=>plain))))))))
 ·exact KP.bind (d.s1 .vars (fun k t h=>KP.bind (CZ (L:=L) ae fun u g=>KP.ret (by dsimp only[Kp,aq.sl,aq.sk];omega))) (hn:=hi))
 ·exact d.rs (.simple _) (fun ks t h=>(by dsimp only[Kp,aq.sl,aq.sk];omega)) (hn:=hi)
 ·exact KP.bif (fun _=>KP.dN) (fun _=>d.re (.func 35) (fun ks t h=>(by dsimp only[Kp,aq.sl,aq.sk];omega)) (hn:=hi))
 ·exact KP.bind (KP.step (L:=L) hi fun t h=>KP.bind (d.e1 .paren fun c u g=>KP.bind (d.s1 (.bT false) fun a v q=>KP.bind (KP.b9 (fun w r=>KP.bind (KP.bif (fun _=>d.rs (.bT false) fun ks y z=>KP.c8 (L:=L) ae fun k x e=>(by dsimp only[Kp,aq.sl,aq.sk];omega)) (fun e=>nomatch e))) (fun _=>KP.bind (KP.bif (fun e=>nomatch e) (fun _=>KP.ret (KP.c8 (L:=L) ae fun k x e=>(by dsimp only[Kp,aq.sl,aq.sk];omega)))))))))
 ·exact KP.bind (KP.step (L:=L) hi fun t h=>KP.bind (d.e1 .paren fun c u g=>KP.bind (d.s1 .loop fun b v q=>KP.c8 (L:=L) ae fun k x e=>(by dsimp only[Kp,aq.sl,aq.sk];omega))))
 ·exact KP.bind (KP.step (L:=L) hi fun t h=>d.rs (.dr _) fun ks u g=>(by dsimp only[Kp,aq.sl,aq.sk];omega))
 ·exact KP.bind (KP.step (L:=L) hi fun t h=>d.rs (.dF _) fun ks u g=>(by dsimp only[Kp,aq.sl,aq.sk];omega))
 ·exact KP.bind (KP.step (L:=L) hi fun t h=>d.rs (.choose _) fun ks u g=>(by dsimp only[Kp,aq.sl,aq.sk];omega))
theorem FW:∀f,fm L fin aJ wide f
 |0=>fun tag s _ _ a t e=>by
  unfold P at e;cases e
 |f+1=>fun tag s hi hn=>by
  have b:=FW f;cases tag with
  |bf=>exact YH b hi
  |cond=>exact YG b hi
  |level n=>exact YK b n hn hi
  |fY n c=>exact YL b n c hn hi
  |unary=>exact YY b hi
  |dO=>exact YA b hi
  |suffix=>exact YV b hi
  |d6 k=>exact YQ b k hi
  |d0 aB=>exact YD b aB hi
  |cS aB=>exact Yz b aB hi
  |cW aB=>exact YN b aB hi
  |dv=>exact YR b hi
  |func kind=>exact YJ b kind hn
  |dy aB=>exact YO b aB hi
  |block body=>exact YB b body hi
  |fH aB body=>exact YC b aB body hi
  |paren=>exact YP b hi
  |vars=>exact Y0 b hn
  |dX aB=>exact YZ b aB hi
  |loop=>exact YM b hi
  |dr pos=>exact YI b pos hi
  |dF pos=>exact YX b pos hi
  |choose pos=>exact YF b pos hi
  |ec aB seen=>exact YW b aB seen hi
  |eu aB=>exact YE b aB hi
  |simple x=>exact YT b x hn
  |bT body=>exact YU b body hi
  |prog aB=>exact YS b aB hi
end
end
section
open Go
structure Vw where
 A:List bh
 B:List bh
 fA:Int
 fB:Int
 n:Nat
 dA:Nat
 dB:Nat
 M:List bP
 kp:Bool
 cK:Bool
 aJ:Nat->ByteArray
 wide:ByteArray->ByteArray
abbrev Vw.PA(V:Vw):Nat->aq->PM (List Int):=P V.A V.fA V.aJ V.wide
abbrev Vw.PB(V:Vw):Nat->aq->PM (List Int):=P V.B V.fB V.aJ V.wide
def Vw.c(V:Vw):Int:=V.M.length
def Vw.TR(V:Vw)(x y:bh):Prop:=y.kind=x.kind/\y.text=x.text/\y.num=x.num/\y.aI=x.aI/\(V.kp=true->y.pos=x.pos)
def Vw.XR(V:Vw)(x y:bP):Prop:=y.kind=x.kind/\y.op=x.op/\y.num=x.num/\y.aB=x.aB.map (·+V.c)/\(V.kp=true->y.pos=x.pos)
def Vw.pU(V:Vw)(p q:Int):Prop:=V.kp=true->q=p
structure Vw.Ok(V:Vw):Prop where
 FC:∀i,i<V.n->∃x y,V.A[i+V.dA]?=some x/\V.B[i+V.dB]?=some y/\V.TR x y
 pL:V.cK=false->V.A[V.n+V.dA]?=none
 DE:V.cK=true->∃y,V.A[V.n+V.dA]?=some y/\y.kind=5/\y.text=rp
 yU:V.B[V.n+V.dB]?=none\/∃y,V.B[V.n+V.dB]?=some y/\y.kind=5/\y.aI=true/\(y.text=rp\/y.text=cU)
 amt:V.cK=true->V.B[V.n+V.dB]?=none
 ag8:V.cK=true->∀i x,V.dA<=i->V.A[i]?=some x->((x.kind==5||x.kind==2)&&bD x.text lp)=false
 ag7:∀x,V.B[V.n+V.dB+1]?=some x->((x.kind==5||x.kind==2)&&bD x.text ry)=false
structure Vw.NR(V:Vw)(s t:ap):Prop where
 len:t.nodes.length=V.M.length+s.nodes.length
 hd:t.nodes.take V.M.length=V.M
 get:∀k x,s.nodes[k]?=some x->∃y,t.nodes[V.M.length+k]?=some y/\V.XR x y
 bu:t.bu=s.bu
 loops:t.loops=s.loops
 bm:t.bm=s.bm
structure Vw.R(V:Vw)(s t:ap):Prop extends V.NR s t where
 at_:∃i,i<=V.n/\s.i=i+V.dA/\t.i=i+V.dB
structure Vw.m_(V:Vw)(s t:ap):Prop extends V.NR s t where
 sA:s.i=V.n+V.dA
 tB:t.i=V.n+V.dB+1
 NM:V.cK=false
def Vw.VR(V:Vw)(k l:Int):Prop:=0<=k/\l=k+V.c
def Vw.LR(V:Vw)(r q:List Int):Prop:=q=r.map (·+V.c)/\∀k,k∈r->0<=k
def SR{α:Type}(m m':PM α)(s s':ap)(Q:α->ap->α->ap->Prop):Prop:=∀a t,m s= .ok a t->∃b t',m' s'= .ok b t'/\Q a t b t'
def NO{α:Type}(m:PM α)(s:ap):Prop:=∀a t,m s≠.ok a t
section
variable{α β:Type}{m m':PM α}{s s':ap}{Q:α->ap->α->ap->Prop}{V:Vw}
theorem SR.no(h:NO m s):SR m m' s s' Q:=fun a t e=>absurd e (h a t)
theorem SR.mono{c:α->ap->α->ap->Prop}(h:SR m m' s s' Q)(k:∀a t b t',Q a t b t'->c a t b t'):SR m m' s s' c:=fun a t e=>let ⟨b,t',d,f⟩:=h a t e;⟨b,t',d,k _ _ _ _ f⟩
theorem SR.bind{f g:α->PM β}{Q:β->ap->β->ap->Prop}(h:SR m m' s s' fun a t i t'=>SR (f a) (g i) t t' Q):SR (m>>=f) (m'>>=g) s s' Q:=by
 intro b u e;have c:bS m f s= .ok b u:=e;unfold bS at c;cases d:m s with
 |ok a t=>
  rw[d]at c;obtain⟨i,t',o,k⟩:=h a t d;obtain⟨j,n,q,l⟩:=k b u c;refine⟨j,n,?_,l⟩;show bS m' g s'=_;unfold bS;simp[*]
 |stop p x t=>rw[d]at c;cases c
 |out=>rw[d]at c;cases c
theorem SR.ret{a c:α}(h:Q a s c s'):SR (ret a) (ret c) s s' Q:=by
 intro b t e;cases e;exact⟨c,s',rfl,h⟩
variable{b:Bool}{T:ByteArray}{x y:bP}{fin k k':Int}{L:List bh}{s2 t t2:ap}
theorem SR.bif{a:Bool}{n c:PM α}(e:b=a)(d:b=true->a=true->SR m m' s s' Q)(f:b=false->a=false->SR n c s s' Q):SR (bif b then m else n) (bif a then m' else c) s s' Q:=by
 grind
theorem NO.bind{f:α->PM β}(h:NO m s):NO (m>>=f) s:=by
 intro b u e;have c:bS m f s= .ok b u:=e;unfold bS at c;cases d:m s with
 |ok a t=>exact h a t d
 |stop p x t=>rw[d]at c;cases c
 |out=>rw[d]at c;cases c
theorem sW{f:α->PM β}(h:∀a t,m s= .ok a t->NO (f a) t):NO (m>>=f) s:=by
 intro b u e;have c:bS m f s= .ok b u:=e;unfold bS at c;cases d:m s with
 |ok a t=>rw[d]at c;exact h a t d _ _ c
 |stop p x t=>rw[d]at c;cases c
 |out=>rw[d]at c;cases c
theorem NO.bif{n:PM α}(a:b=true->NO m s)(c:b=false->NO n s):NO (bif b then m else n) s:=by
 grind
theorem NO.out:NO (OA:PM α) s:=fun _ _ e=>by cases e
theorem NO.dN:NO (kj L fin:PM α) s:=fun _ _ e=>by cases e
theorem NO.one{m:PM (List Int)}(h:NO m s):NO (one m) s:=NO.bind h
theorem pM(h:L[s.i]?=none)(T:ByteArray):bg L s 0 T=false:=by
 unfold bg;simp[*]
theorem wv(h:L[s.i]?=none):aC L fin s=⟨0,.empty,0,fin,false⟩:=by
 unfold aC;simp[*]
theorem Kt{y:bh}(h:L[s.i]?=some y)(b:y.text=rp)(a:bD rp T=false):bg L s 0 T=false:=by
 unfold bg;simp[*]
theorem Vw.NR.TT(h:0<=k):(k+V.c).toNat=V.M.length+k.toNat:=by
 unfold Vw.c;omega
theorem Vw.NR.kind{V:Vw}{s:ap}(h:V.NR s t)(hk:0<=k):oT t (k+V.c)=oT s k:=by
 unfold oT;rw[Vw.NR.TT hk];cases hx:s.nodes[k.toNat]? with
 |some x=>
  obtain⟨y,b,a⟩:=h.get _ _ hx;rw[b];exact a.1
 |none=>
  have:t.nodes[V.M.length+k.toNat]?=none:=by
   rw[List.getElem?_eq_none_iff]at hx⊢;rw[h.len];omega
  rw[this]
theorem Vw.NR.pos{V:Vw}{s:ap}(h:V.NR s t)(hk:0<=k):V.pU (dz s k) (dz t (k+V.c)):=by
 intro a;unfold dz;rw[Vw.NR.TT hk];cases hx:s.nodes[k.toNat]? with
 |some x=>
  obtain⟨y,c,b⟩:=h.get _ _ hx;rw[c];exact b.2.2.2.2 a
 |none=>
  have:t.nodes[V.M.length+k.toNat]?=none:=by
   rw[List.getElem?_eq_none_iff]at hx⊢;rw[h.len];omega
  rw[this]
theorem Vw.NR.push{V:Vw}{s:ap}(h:V.NR s t)(g:V.XR x y)(e1:s2.nodes=s.nodes++[x])(b:t2.nodes=t.nodes++[y])(d:t2.bu=s2.bu)(e:t2.loops=s2.loops)(f:t2.bm=s2.bm):V.NR s2 t2:=by
 refine⟨by rw[e1,b];simp[h.len];omega,?_,fun k z a=>?_,d,e,f⟩
 ·rw[b,List.take_append_of_le_length (by rw[h.len];omega)];exact h.hd
 ·rw[e1]at a;rw[b];by_cases hk:k<s.nodes.length
  ·rw[kq hk]at a;obtain⟨w,j,i⟩:=h.get _ _ a;grind
  ·rw[jb ae]at a;have c:k-s.nodes.length=0:=by
    grind
   rw[c]at a;simp only[List.getElem?_cons_zero,Option.some.injEq]at a;subst a;refine⟨y,?_,g⟩;rw[jb (by rw[h.len];omega)];have:V.M.length+k-t.nodes.length=0:=by rw[h.len];omega
   simp[*]
theorem Vw.NR.same{V:Vw}{s:ap}(h:V.NR s t)(e1:s2.nodes=s.nodes:=by rfl)(a:t2.nodes=t.nodes:=by rfl)(b:t2.bu=s2.bu:=by first|exact h.bu|assumption)(c:t2.loops=s2.loops:=by first|exact h.loops|assumption)(d:t2.bm=s2.bm:=by first|exact h.bm|assumption):V.NR s2 t2:=by
 refine⟨by rw[e1,a];exact h.len,by rw[a];exact h.hd,fun k x hx=>?_,b,c,d⟩;rw[e1]at hx;rw[a];exact h.get k x hx
theorem Vw.R.step{V:Vw}{s:ap}(h:V.R s t)(a:s.i<V.n+V.dA):V.R {s with i:=s.i+1} {t with i:=t.i+1}:=by
 obtain⟨i,b,c,d⟩:=h.at_;exact⟨h.toNR.same,i+1,ae,by grind,by grind⟩
theorem Vw.R.push{V:Vw}{s:ap}(h:V.R s t)(d:V.XR x y):V.R {s with nodes:=s.nodes++[x]} {t with nodes:=t.nodes++[y]}:=by
 obtain⟨i,a,b,c⟩:=h.at_;exact⟨h.toNR.push d rfl rfl h.bu h.loops h.bm,i,a,b,c⟩
theorem Vw.m_.push{V:Vw}{s:ap}(h:V.m_ s t)(a:V.XR x y):V.m_ {s with nodes:=s.nodes++[x]} {t with nodes:=t.nodes++[y]}:=
 ⟨h.toNR.push a rfl rfl h.bu h.loops h.bm,h.sA,h.tB,h.NM⟩
theorem Vw.NR.vr{V:Vw}{s:ap}(h:V.NR s t):V.VR s.nodes.length t.nodes.length:=⟨ae,by rw[h.len];unfold Vw.c;omega⟩
theorem Vw.R.qg{V:Vw}(a:V.Ok){s:ap}(h:V.R s t):(s.i<V.n+V.dA/\∃x y,V.A[s.i]?=some x/\V.B[t.i]?=some y/\V.TR x y)\/(s.i=V.n+V.dA/\t.i=V.n+V.dB):=by
 obtain⟨i,b,c,d⟩:=h.at_;by_cases hi:i<V.n
 ·obtain⟨x,y,hx,f,e⟩:=a.FC i hi;simp[*]
 omega
theorem Vw.TR.is{V:Vw}{x y:bh}(h:V.TR x y)(T:ByteArray):((y.kind==5||y.kind==2)&&bD y.text T)=((x.kind==5||x.kind==2)&&bD x.text T):=by
 rw[h.1,h.2.1]
theorem Vw.R.isLt{V:Vw}(a:V.Ok){s:ap}(h:V.R s t)(b:s.i<V.n+V.dA)(T:ByteArray):bg V.A s 0 T=bg V.B t 0 T:=by
 rcases h.qg a with⟨_,x,y,hx,d,c⟩| ⟨e,_⟩
 ·unfold bg;simp only[Nat.add_zero,hx,d];exact(c.is T).symm
 ·omega
def sr(T:ByteArray):Bool:= !bD rp T&& !bD cU T
theorem Vw.Ok.Vf{V:Vw}(a:V.Ok){s:ap}(e:s.i=V.n+V.dA)(c:bD rp T=false):bg V.A s 0 T=false:=by
 cases b:V.cK with
 |false=>exact pM (by rw[e];exact a.pL b) T
 |true=>
  obtain⟨y,f,_,d⟩:=a.DE b;exact Kt (y:=y) (by simp[*]) d c
theorem Vw.Ok.isB{V:Vw}(b:V.Ok)(e:t.i=V.n+V.dB)(a:sr T=true):bg V.B t 0 T=false:=by
 unfold sr at a;simp only[gX,Bool.not_eq_true']at a;rcases b.yU with h| ⟨y,d,_,_,c⟩
 ·exact pM (by simp[*]) T
 ·unfold bg;grind
theorem Vw.R.is{V:Vw}(a:V.Ok){s:ap}(h:V.R s t)(c:sr T=true):bg V.A s 0 T=bg V.B t 0 T:=by
 rcases h.qg a with⟨b,_⟩| ⟨e1,d⟩
 ·exact h.isLt a b T
 ·rw[a.Vf e1 (by unfold sr at c;grind),a.isB d c]
theorem Vw.R.VM{V:Vw}(b:V.Ok){s:ap}(h:V.R s t)(c:bD rp T=false)(hi:bg V.A s 0 T=true):s.i<V.n+V.dA:=by
 rcases h.qg b with⟨a,_⟩| ⟨e1,_⟩
 ·exact a
 ·rw[b.Vf e1 c]at hi;cases hi
theorem Vw.R.aga{V:Vw}(b:V.Ok)(c:V.cK=false){s:ap}(h:V.R s t)(hi:bg V.A s 0 T=true):s.i<V.n+V.dA:=by
 rcases h.qg b with⟨a,_⟩| ⟨e1,_⟩
 ·exact a
 ·rw[pM (by rw[e1];exact b.pL c) T]at hi;cases hi
theorem SR.b9(d:V.Ok)(h:V.R s s')(c:sr T=true){Q:Bool->ap->Bool->ap->Prop}
  (g:∀t t',V.R t t'->bg V.A s 0 T=true->Q true t true t') (f:bg V.A s 0 T=false->Q false s false s'):SR (cZ V.A T) (cZ V.B T) s s' Q:=by
 intro a t e;have b:bD rp T=false:=by unfold sr at c;grind
 unfold cZ at*;rw[<-h.is d c];cases hi:bg V.A s 0 T with
 |true=>
  rw[hi]at e;cases e;exact⟨true,_,rfl,g _ _ (h.step (h.VM d b hi)) hi⟩
 |false=>rw[hi]at e;cases e;exact⟨false,_,rfl,f hi⟩
theorem wb(f:V.Ok)(h:V.R s s')(b:s.i<V.n+V.dA){Q:Bool->ap->Bool->ap->Prop}
  (d:∀t t',V.R t t'->bg V.A s 0 T=true->Q true t true t') (c:bg V.A s 0 T=false->Q false s false s'):SR (cZ V.A T) (cZ V.B T) s s' Q:=by
 intro a t e;unfold cZ at*;rw[<-h.isLt f b];cases hi:bg V.A s 0 T with
 |true=>rw[hi]at e;cases e;exact⟨true,_,rfl,d _ _ (h.step b) hi⟩
 |false=>rw[hi]at e;cases e;exact⟨false,_,rfl,c hi⟩
theorem SR.bW(d:V.Ok)(h:V.R s s')(c:sr T=true){Q:Unit->ap->Unit->ap->Prop}
  (f:∀t t',V.R t t'->Q () t () t'):SR (cw V.A V.fA T) (cw V.B V.fB T) s s' Q:=by
 intro a t e;have b:bD rp T=false:=by unfold sr at c;grind
 unfold cw at*;rw[<-h.is d c];cases hi:bg V.A s 0 T with
 |true=>rw[hi]at e;cases e;exact⟨(),_,rfl,f _ _ (h.step (h.VM d b hi))⟩
 |false=>rw[hi]at e;cases e
theorem yt(c:V.Ok)(f:V.cK=false)(h:V.R s s'){Q:Unit->ap->Unit->ap->Prop}
  (d:∀t t',V.R t t'->Q () t () t'):SR (cw V.A V.fA T) (cw V.B V.fB T) s s' Q:=by
 intro a t e;unfold cw at*;cases hi:bg V.A s 0 T with
 |true=>
  have b:=h.aga c f hi;rw[<-h.isLt c b,hi];rw[hi]at e;cases e;exact⟨(),_,rfl,d _ _ (h.step b)⟩
 |false=>rw[hi]at e;cases e
theorem SR.is(d:V.Ok)(h:V.R s s')(c:sr T=true){Q:Bool->ap->Bool->ap->Prop}
  (b:Q (bg V.A s 0 T) s (bg V.A s 0 T) s'):SR (iT V.A 0 T) (iT V.B 0 T) s s' Q:=by
 intro a t e;cases e;exact⟨_,_,by unfold iT;rw[<-h.is d c],b⟩
theorem SR.isLt(d:V.Ok)(h:V.R s s')(b:s.i<V.n+V.dA){Q:Bool->ap->Bool->ap->Prop}
  (c:Q (bg V.A s 0 T) s (bg V.A s 0 T) s'):SR (iT V.A 0 T) (iT V.B 0 T) s s' Q:=by
 intro a t e;cases e;exact⟨_,_,by unfold iT;rw[<-h.isLt d b],c⟩
theorem SR.cd{Q:bh->ap->bh->ap->Prop}(h:Q (aC V.A V.fA s) s (aC V.B V.fB s') s'):SR (fv V.A V.fA) (fv V.B V.fB) s s' Q:=by
 intro a t e;cases e;exact⟨_,_,rfl,h⟩
theorem SR.get{Q:ap->ap->ap->ap->Prop}(h:Q s s s' s'):SR eZ eZ s s' Q:=by
 intro a t e;cases e;exact⟨_,_,rfl,h⟩
theorem SR.set{u b:ap}{Q:Unit->ap->Unit->ap->Prop}(h:Q () u () b):SR (io u) (io b) s s' Q:=by
 intro a t e;cases e;exact⟨_,_,rfl,h⟩
theorem SR.step(h:V.R s s')(b:s.i<V.n+V.dA){Q:Unit->ap->Unit->ap->Prop}(c:∀t t',V.R t t'->Q () t () t'):SR eF eF s s' Q:=by
 intro a t e;cases e;exact⟨_,_,rfl,c _ _ (h.step b)⟩
theorem SR.dW(h:V.NR s s')(hk:V.VR k k'){Q:Int->ap->Int->ap->Prop}(b:∀p p',V.pU p p'->Q p s p' s'):SR (dW k) (dW k') s s' Q:=by
 intro a t e;cases e;exact⟨_,_,rfl,b _ _ (by rw[hk.2];exact h.pos hk.1)⟩
theorem SR.kt(h:V.NR s s')(hk:V.VR k k'){Q:Unit->ap->Unit->ap->Prop}(c:Q () s () s'):SR (kv k b) (kv k' b) s s' Q:=by
 intro a t e;unfold kv at*;rw[hk.2,h.kind hk.1];grind
theorem SR.node(h:V.R s s')(hx:V.XR x y){Q:Int->ap->Int->ap->Prop}(b:∀k t k' t',V.VR k k'->V.R t t'->Q k t k' t'):SR (dj x) (dj y) s s' Q:=by
 intro a t e;cases e;exact⟨_,_,rfl,b _ _ _ _ h.vr (h.push hx)⟩
theorem jU{x:bh}(h:L[s.i]?=some x):aC L fin s=x:=by unfold aC;rw[h];rfl
theorem SR.word(d:V.Ok)(h:V.R s s'){Q:ByteArray->ap->ByteArray->ap->Prop}(j:∀w t t',V.R t t'->Q w t w t'):SR (gJ V.A V.fA) (gJ V.B V.fB) s s' Q:=by
 intro a t e;unfold gJ at*;cases hk:(aC V.A V.fA s).kind !=1 with
 |true=>rw[hk]at e;cases e
 |false=>
  rw[hk]at e;cases e;have b:(aC V.A V.fA s).kind=1:=by grind
  rcases h.qg d with⟨g,x,y,hx,i,c⟩| ⟨e1,_⟩
  ·rw[jU hx]at b⊢;rw[jU i,c.1,b,c.2.1];exact⟨_,_,rfl,j _ _ _ (h.step g)⟩
  ·cases c:V.cK with
   |false=>rw[wv (by rw[e1];exact d.pL c)]at b;cases b
   |true=>
    obtain⟨y,i,f,_⟩:=d.DE c;rw[jU (x:=y) (by simp[*]),f]at b;cases b
theorem SR.key(c:V.Ok)(h:V.R s s'){Q:Int->ap->Int->ap->Prop}(l:∀k t k' t',V.VR k k'->V.R t t'->Q k t k' t'):SR (d5 V.A V.fA V.aJ V.wide) (d5 V.B V.fB V.aJ V.wide) s s' Q:=by
 intro a t e;rcases h.qg c with⟨f,x,y,hx,j,b⟩| ⟨e1,_⟩
 ·unfold d5 at*;rw[jU hx]at e;rw[jU j];dsimp only at e⊢;rw[b.1,b.2.1,b.2.2.1];have go:∀(o:ByteArray),dj ⟨2,o,0,[],x.pos⟩ {s with i:=s.i+1}= .ok a t->∃g t',dj ⟨2,o,0,[],y.pos⟩ {s' with i:=s'.i+1}= .ok g t'/\Q a t g t':=fun o e=>by
   cases e;have hs:=h.step f;exact⟨_,_,rfl,l _ _ _ _ hs.vr (hs.push ⟨rfl,rfl,rfl,rfl,b.2.2.2.2⟩)⟩
  grind
 ·unfold d5 at e;dsimp only at e;cases b:V.cK with
  |false=>rw[wv (by rw[e1];exact c.pL b)]at e;cases e
  |true=>
   obtain⟨y,j,d,_⟩:=c.DE b;rw[jU (x:=y) (by simp[*]),d]at e;cases e
theorem Vw.R.ask{V:Vw}(b:V.Ok){s:ap}(h:V.R s t)(g:Int->ByteArray->Bool->Bool)(c:∀l i,g 0 .empty l=g 5 rp i/\g 0 .empty l=g 5 cU i):
  g (aC V.A V.fA s).kind (aC V.A V.fA s).text (aC V.A V.fA s).aI=g (aC V.B V.fB t).kind (aC V.B V.fB t).text (aC V.B V.fB t).aI:=by
 rcases h.qg b with⟨k,x,y,hx,e,a⟩| ⟨e1,m⟩
 ·rw[jU hx,jU e,a.1,a.2.1,a.2.2.2.1]
 ·have j:∀l,g 0 .empty l=g (aC V.B V.fB t).kind (aC V.B V.fB t).text (aC V.B V.fB t).aI:=by
   intro l;rcases b.yU with h| ⟨y,e,hk,hl,f⟩
   ·rw[wv (by simp[*])];exact((c l l).1).trans ((c false l).1).symm
   ·rw[jU (x:=y) (by simp[*]),hk];grind
  cases a:V.cK with
  |false=>rw[wv (by rw[e1];exact b.pL a)];exact j _
  |true=>
   obtain⟨y,e,d,f⟩:=b.DE a;rw[jU (x:=y) (by simp[*]),d,f,<-(c y.aI y.aI).1];simp[*]
theorem Vw.R.n7{V:Vw}(a:V.Ok){s:ap}(h:V.R s t)(b:s.i<V.n+V.dA):V.TR (aC V.A V.fA s) (aC V.B V.fB t):=by
 rcases h.qg a with⟨_,x,y,hx,d,c⟩| ⟨e1,_⟩
 ·rw[jU hx,jU d];exact c
 ·omega
end
end
section
open Go
def aq.ex:aq->Bool
 | .bf| .cond| .level _| .fY _ _| .unary| .dO| .suffix| .d6 _| .cS _| .cW _| .dv=>true
 |_=>false
def aq.xL:aq->Bool
 | .d0 _| .cS _| .cW _| .dy _| .fH _ _| .dX _| .ec _ _| .eu _=>false
 |_=>true
def aq.wt:aq->Bool
 | .bT _| .simple _| .loop| .dr _=>true
 |_=>false
inductive Vw.GR(V:Vw):aq->aq->Prop
 |bf:GR V .bf .bf
 |cond:GR V .cond .cond
 |level n:GR V (.level n) (.level n)
 |fY n {k l} (h:V.VR k l):GR V (.fY n k) (.fY n l)
 |unary:GR V .unary .unary
 |dO:GR V .dO .dO
 |suffix:GR V .suffix .suffix
 |d6 {k l} (h:V.VR k l):GR V (.d6 k) (.d6 l)
 |d0 {k l} (h:V.LR k l):GR V (.d0 k) (.d0 l)
 |cS {k l} (h:V.LR k l):GR V (.cS k) (.cS l)
 |cW {k l} (h:V.LR k l):GR V (.cW k) (.cW l)
 |dv:GR V .dv .dv
 |func k:GR V (.func k) (.func k)
 |dy {k l} (h:V.LR k l):GR V (.dy k) (.dy l)
 |block b:GR V (.block b) (.block b)
 |fH b {k l} (h:V.LR k l):GR V (.fH k b) (.fH l b)
 |paren:GR V .paren .paren
 |vars:GR V .vars .vars
 |dX {k l} (h:V.LR k l):GR V (.dX k) (.dX l)
 |loop:GR V .loop .loop
 |dr {p q} (h:V.pU p q):GR V (.dr p) (.dr q)
 |dF {p q} (h:V.pU p q):GR V (.dF p) (.dF q)
 |choose {p q} (h:V.pU p q):GR V (.choose p) (.choose q)
 |ec b {k l} (h:V.LR k l):GR V (.ec k b) (.ec l b)
 |eu {k l} (h:V.LR k l):GR V (.eu k) (.eu l)
 |simple {x y} (h:V.TR x y):GR V (.simple x) (.simple y)
 |bT b:GR V (.bT b) (.bT b)
def Vw.dH(V:Vw)(tag:aq):List Int->ap->List Int->ap->Prop:=fun r t a t'=>V.LR r a/\(tag.xL=true->r.length=1)/\(V.R t t'\/(tag.wt=true/\V.m_ t t'))
def Vw.pre(V:Vw)(s:ap):aq->Prop
 | .func _| .vars| .simple _=>s.i<V.n+V.dA
 |_=>True
def Vw.fF(V:Vw)(f:Nat):Prop:=∀(tag a:aq)(s s':ap)(g:Nat),f<=g->V.GR tag a->(V.cK=true->tag.ex=true)->V.pre s tag->V.R s s'->SR (V.PA f tag) (V.PB g a) s s' (V.dH tag)
section
variable{L:List bh}{fin:Int}{aJ:Nat->ByteArray}{wide:ByteArray->ByteArray}{α β:Type}{s:ap}
theorem NO.cd{f:bh->PM β}(h:NO (f (aC L fin s)) s):NO (fv L fin>>=f) s:=sW fun a t e=>by cases e;exact h
theorem NO.get{f:ap->PM β}(h:NO (f s) s):NO (eZ>>=f) s:=sW fun a t e=>by cases e;exact h
theorem S0{T:ByteArray}{f:Bool->PM β}(h:NO (f (bg L s 0 T)) s):NO (iT L 0 T>>=f) s:=sW fun a t e=>by cases e;exact h
theorem NO.b9{T:ByteArray}{f:Bool->PM β}(hi:bg L s 0 T=false)(h:NO (f false) s):NO (cZ L T>>=f) s:=sW fun a t e=>by
 unfold cZ at e;rw[hi]at e;cases e;exact h
theorem NO.bW{T:ByteArray}(hi:bg L s 0 T=false):NO (cw L fin T) s:=fun a t e=>by
 unfold cw at e;rw[hi]at e;cases e
def ql(L:List bh)(s:ap):Prop:=L[s.i]?=none\/∃y,L[s.i]?=some y/\y.kind=5/\y.text=rp
theorem ql.is(h:ql L s){T:ByteArray}(a:bD rp T=false):bg L s 0 T=false:=by
 rcases h with h| ⟨y,h,_,b⟩
 ·exact pM h T
 ·exact Kt h b a
theorem ql.ask(h:ql L s)(g:Int->ByteArray->Bool){b:Bool}(a:g 0 .empty=b)(c:g 5 rp=b):g (aC L fin s).kind (aC L fin s).text=b:=by
 rcases h with h| ⟨y,h,hk,d⟩
 ·rw[wv h];exact a
 ·rw[jU h,hk,d];exact c
theorem ql.word(h:ql L s):NO (gJ L fin) s:=fun a t e=>by
 unfold gJ at e;rw[h.ask (fun k _=>k !=1) (b:=true) rfl rfl]at e;cases e
theorem ql.key(h:ql L s):NO (d5 L fin aJ wide) s:=fun a t e=>by
 unfold d5 at e;dsimp only at e;rw[h.ask (fun k _=>k==1||k==2) (b:=false) rfl rfl,h.ask (fun k _=>k==3) (b:=false) rfl rfl,h.ask (fun k _=>k==4) (b:=false) rfl rfl]at e;cases e
def aq.V0:aq->Bool
 | .bf| .cond| .level _| .unary| .dO| .suffix| .dv| .cS _| .cW _=>true
 |_=>false
theorem On:∀(f:Nat)(tag:aq),tag.V0=true->ql L s->NO (P L fin aJ wide f tag) s:=by
 intro f
 induction f with
 |zero=>intro tag _ _;rw[P];exact NO.out
 |succ f c=>
  intro tag d a;cases tag with
  |bf=>rw[P];exact NO.bind (NO.one (c _ rfl a))
  |cond=>rw[P];exact NO.bind (NO.one (c _ rfl a))
  |level n=>rw[P];exact NO.bif (fun _=>c _ rfl a) (fun _=>NO.bind (NO.one (c _ rfl a)))
  |unary=>
   rw[P];refine NO.cd (NO.bif (fun _=>c _ rfl a) (fun _=>NO.bif (fun h=>?_) (fun _=>NO.bif (fun h=>?_) (fun _=>c _ rfl a))))
   ·rw[a.ask (fun _ t=>cM uj t) (b:=false) rfl rfl]at h;cases h
   ·rw[a.ask (fun _ t=>cM [pp,mm] t) (b:=false) rfl rfl]at h;cases h
  |dO=>rw[P];exact NO.bind (NO.one (c _ rfl a))
  |suffix=>rw[P];exact NO.bind (NO.one (c _ rfl a))
  |dv=>
   rw[P];refine NO.cd (NO.bif (fun h=>?_) (fun _=>NO.bif (fun h=>?_) (fun _=>NO.bif (fun h=>?_) (fun _=>NO.get (NO.bif (fun h=>?_) (fun _=>NO.bif (fun h=>?_) (fun _=>?_)))))))
   ·rw[a.ask (fun k _=>k==3) (b:=false) rfl rfl]at h;cases h
   ·rw[a.ask (fun k _=>k==4) (b:=false) rfl rfl]at h;cases h
   ·rw[a.ask (fun k _=>k==1) (b:=false) rfl rfl]at h;cases h
   ·rw[a.is rfl,a.is rfl,a.is rfl]at h;cases h
   ·rw[a.is rfl]at h;cases h
   ·exact NO.b9 (a.is rfl) (NO.bif (fun e=>nomatch e) (fun _=>NO.b9 (a.is rfl) (NO.bif (fun e=>nomatch e) (fun _=>NO.b9 (a.is rfl) (NO.bif (fun e=>nomatch e) (fun _=>NO.dN))))))
  |cS k=>rw[P];exact NO.b9 (a.is rfl) (NO.bif (fun e=>nomatch e) (fun _=>NO.bind (NO.one (c _ rfl a))))
  |cW k=>rw[P];exact NO.b9 (a.is rfl) (NO.bif (fun e=>nomatch e) (fun _=>NO.bind a.key))
  |_=>cases d
def aq.agM:aq->Bool
 | .d0 _| .dy _| .block _| .fH _ _| .paren| .dX _| .loop| .ec _ _| .eu _| .bT _=>true
 |t=>t.V0
theorem pS:∀(f:Nat)(tag:aq){s:ap},tag.agM=true->L[s.i]?=none->NO (P L fin aJ wide f tag) s:=by
 intro f
 induction f with
 |zero=>intro tag s _ _;rw[P];exact NO.out
 |succ f g=>
  intro tag s j c;have i:ql L s:=.inl c;have is:=fun T=>pM c T;have l:aC L fin s=⟨0,.empty,0,fin,false⟩:=wv c;cases tag with
  |d0 k=>rw[P];exact NO.b9 (is _) (NO.bif (fun e=>nomatch e) (fun _=>sW fun a t e=>by
    cases d:decide (k.length>1)with
    |true=>rw[d]at e;exact absurd e (NO.bW (is _) _ _)
    |false=>rw[d]at e;cases e;exact NO.bind (NO.one (g _ rfl c))))
  |dy k=>rw[P];exact NO.b9 (is _) (NO.bif (fun e=>nomatch e) (fun _=>sW fun a t e=>by
    cases d:decide (k.length>0)with
    |true=>rw[d]at e;exact absurd e (NO.bW (is _) _ _)
    |false=>rw[d]at e;cases e;exact NO.cd (NO.bind i.word)))
  |block b=>rw[P];exact NO.cd (NO.bind (NO.bW (is _)))
  |fH k b=>rw[P];exact NO.b9 (is _) (NO.bif (fun e=>nomatch e) (fun _=>NO.bind (NO.one (g _ rfl c))))
  |paren=>rw[P];exact NO.bind (NO.bW (is _))
  |dX k=>rw[P];exact NO.cd (NO.bind i.word)
  |loop=>rw[P];exact NO.get (sW fun a t e=>by cases e;exact NO.bind (NO.one (g _ rfl c)))
  |ec k b=>
   rw[P];refine NO.b9 (is _) (NO.bif (fun e=>nomatch e) (fun _=>NO.cd (NO.b9 (is _) (NO.bind (NO.bif (fun e=>nomatch e) (fun _=>S0 ?_))))));rw[is];exact NO.bif (fun e=>nomatch e) (fun _=>NO.dN)
  |eu k=>
   rw[P];refine NO.get (NO.bif (fun _=>NO.bind (NO.one (g _ rfl c))) (fun h=>?_));grind
  |bT b=>
   rw[P];refine NO.cd (NO.get (NO.bif (fun h=>?_) (fun _=>NO.bif (fun h=>?_) (fun _=>?_))))
   ·grind
   ·grind
   ·dsimp only;refine NO.bif (fun h=>?_) (fun _=>NO.bind (NO.one (g _ rfl c)));grind
  |_=>exact On _ _ j i
end
section
variable{V:Vw}{s s':ap}{f g:Nat}
theorem Vw.R.GL(a:V.Ok)(h:V.R s s'):ql V.A s\/s.i<V.n+V.dA:=by
 rcases h.qg a with⟨f,_⟩| ⟨e,_⟩
 ·omega
 ·cases b:V.cK with
  |false=>exact .inl (.inl (by rw[e];exact a.pL b))
  |true=>
   obtain⟨y,g,c,d⟩:=a.DE b;exact .inl (.inr ⟨y,by simp[*],c,d⟩)
theorem Vw.R.nX(a:V.Ok)(b:V.cK=false)(h:V.R s s'):V.A[s.i]?=none\/s.i<V.n+V.dA:=by
 rcases h.qg a with⟨c,_⟩| ⟨e,_⟩
 ·omega
 ·exact .inl (by rw[e];exact a.pL b)
theorem Vw.R.Od(f:V.Ok)(h:V.R s s')(g:Int->ByteArray->Bool->Bool)(b:Bool)(d:g 0 .empty false= !b)(e:∀l,g 5 rp l= !b)(c:g (aC V.A V.fA s).kind (aC V.A V.fA s).text (aC V.A V.fA s).aI=b):s.i<V.n+V.dA:=by
 rcases h.GL f with a|i
 ·rcases a with a| ⟨y,a,hk,j⟩
  ·rw[wv a,d]at c;cases b <;> cases c
  ·rw[jU a,hk,j,e]at c;cases b <;> cases c
 omega
theorem Vw.TR.pos{x y:bh}(h:V.TR x y):V.pU x.pos y.pos:=h.2.2.2.2
theorem Vw.LR.nil:V.LR [] []:=⟨rfl,fun _ h=>nomatch h⟩
theorem Vw.VR.lr{k l:Int}(h:V.VR k l):V.LR [k] [l]:=⟨by simp[h.2],by simp[h.1]⟩
theorem Vw.LR.app{a b c d:List Int}(h:V.LR a b)(h':V.LR c d):V.LR (a++c) (b++d):=⟨by rw[h.1,h'.1,List.map_append],fun k hk=>by
 rcases List.mem_append.1 hk with hk|hk
 ·exact h.2 k hk
 ·exact h'.2 k hk⟩
theorem Vw.LR.len{a b:List Int}(h:V.LR a b):b.length=a.length:=by rw[h.1];simp
theorem Vw.LR.one{a b:List Int}(h:V.LR a b)(hl:a.length=1):V.VR (a.headD 0) (b.headD 0):=by
 match a,hl with
 | [k],_=>rw[h.1];exact⟨h.2 k aL,rfl⟩
theorem u5{tag:aq}{k k':Int}{t t':ap}(hk:V.VR k k')(h:V.R t t'):V.dH tag [k] t [k'] t':=⟨hk.lr,fun _=>rfl,.inl h⟩
theorem wP{tag:aq}{k k':List Int}{t t':ap}(a:tag.xL=false)(hk:V.LR k k')(h:V.R t t'):V.dH tag k t k' t':=⟨hk,fun e=>(by rw[a]at e;cases e),.inl h⟩
theorem SR.one{m m':PM (List Int)}{tag:aq}(h:SR m m' s s' (V.dH tag))(b:tag.xL=true){Q:Int->ap->Int->ap->Prop}(k:∀k t k' t',V.VR k k'->(V.R t t'\/(tag.wt=true/\V.m_ t t'))->Q k t k' t'):SR (one m) (one m') s s' Q:=by
 show SR (m>>=fun l=>Go.Proofs.YtdkchodgklpomaaGreatDoor.ret (l.headD 0)) (m'>>=fun l=>Go.Proofs.YtdkchodgklpomaaGreatDoor.ret (l.headD 0)) s s' Q;exact SR.bind (h.mono fun a t c t' hp=>SR.ret (k _ _ _ _ (hp.1.one (hp.2.1 b)) hp.2.2))
theorem Vw.fF.one(m:V.fF f)(j:f<=g){tag b:aq}(l:V.GR tag b)(h:V.R s s'){Q:Int->ap->Int->ap->Prop}(k:∀k t k' t',V.VR k k'->V.R t t'->Q k t k' t')(fW:V.cK=true->tag.ex=true:=by intro _;rfl)(hp:V.pre s tag:=by trivial)(d:tag.xL=true:=by rfl)(i:tag.wt=false:=by rfl):SR (Go.Proofs.YtdkchodgklpomaaGreatDoor.one (V.PA f tag)) (Go.Proofs.YtdkchodgklpomaaGreatDoor.one (V.PB g b)) s s' Q:=
 SR.one (m tag b s s' g j l fW hp h) d fun a t n t' hk c=>by
  rcases c with c| ⟨e,_⟩
  ·exact k _ _ _ _ hk c
  ·rw[i]at e;cases e
theorem Vw.fF.zm(j:V.fF f)(d:f<=g){tag b:aq}(i:V.GR tag b)(h:V.R s s'){Q:Int->ap->Int->ap->Prop}(k:∀k t k' t',V.VR k k'->(V.R t t'\/V.m_ t t')->Q k t k' t')(fW:V.cK=true->tag.ex=true:=by intro _;rfl)(hp:V.pre s tag:=by trivial)(c:tag.xL=true:=by rfl):SR (Go.Proofs.YtdkchodgklpomaaGreatDoor.one (V.PA f tag)) (Go.Proofs.YtdkchodgklpomaaGreatDoor.one (V.PB g b)) s s' Q:=
 SR.one (j tag b s s' g d i fW hp h) c fun a t l t' hk e=>k _ _ _ _ hk (e.imp id (·.2))
theorem Vw.fF.run(l:V.fF f)(d:f<=g){tag b:aq}(j:V.GR tag b)(h:V.R s s'){Q:List Int->ap->List Int->ap->Prop}(k:∀k t k' t',V.LR k k'->(tag.xL=true->k.length=1)->V.R t t'->Q k t k' t')(fW:V.cK=true->tag.ex=true:=by intro _;rfl)(hp:V.pre s tag:=by trivial)(c:tag.wt=false:=by rfl):SR (V.PA f tag) (V.PB g b) s s' Q:=
 (l tag b s s' g d j fW hp h).mono fun a t m t' hp=>by
  rcases hp.2.2 with i| ⟨e,_⟩
  ·exact k _ _ _ _ hp.1 hp.2.1 i
  ·rw[c]at e;cases e
theorem Vw.fF.dM(l:V.fF f)(j:f<=g){tag b:aq}(c:aq)(k:V.GR tag b)(h:V.R s s')(fW:V.cK=true->tag.ex=true:=by intro _;rfl)(hp:V.pre s tag:=by trivial)(d:tag.xL=c.xL:=by rfl)(i:tag.wt=true->c.wt=true:=by intro e;first|exact e|rfl|cases e):SR (V.PA f tag) (V.PB g b) s s' (V.dH c):=
 (l tag b s s' g j k fW hp h).mono fun a t m t' hp=>⟨hp.1,fun e=>hp.2.1 (d.trans e),hp.2.2.imp id fun x=>⟨i x.1,x.2⟩⟩
theorem SR.c8(h:V.R s s'){x y:bP}(hx:V.XR x y){tag:aq}:SR (cm x) (cm y) s s' (V.dH tag):=by
 show SR (dj x>>=fun k=>Go.Proofs.YtdkchodgklpomaaGreatDoor.ret [k]) (dj y>>=fun k=>Go.Proofs.YtdkchodgklpomaaGreatDoor.ret [k]) s s' _;exact SR.bind (SR.node h hx fun k t k' t' hk a=>SR.ret (u5 hk a))
theorem nR(h:V.R s s'){kd a:Int}{op b:ByteArray}{num kW:Nat}{ks dK:List Int}{p p':Int}(hk:V.LR ks dK)(hp:V.pU p p'){tag:aq}(c:a=kd:=by rfl)(d:b=op:=by first|rfl|assumption)(e:kW=num:=by first|rfl|assumption):SR (cm ⟨kd,op,num,ks,p⟩) (cm ⟨a,b,kW,dK,p'⟩) s s' (V.dH tag):=SR.c8 h (show V.XR ⟨kd,op,num,ks,p⟩ ⟨a,b,kW,dK,p'⟩from⟨c,d,e,hk.1,hp⟩)
theorem wc(h:V.R s s'){kd a:Int}{op b:ByteArray}{num kW:Nat}{ks dK:List Int}{p p':Int}(hk:V.LR ks dK)(hp:V.pU p p'){Q:Int->ap->Int->ap->Prop}(k:∀k t k' t',V.VR k k'->V.R t t'->Q k t k' t')(c:a=kd:=by rfl)(d:b=op:=by first|rfl|assumption)(e:kW=num:=by first|rfl|assumption):SR (dj ⟨kd,op,num,ks,p⟩) (dj ⟨a,b,kW,dK,p'⟩) s s' Q:=SR.node h (show V.XR ⟨kd,op,num,ks,p⟩ ⟨a,b,kW,dK,p'⟩from⟨c,d,e,hk.1,hp⟩) k
theorem Zw(h:V.R s s'\/V.m_ s s'){x y:bP}(hx:V.XR x y){tag:aq}(b:tag.wt=true):SR (cm x) (cm y) s s' (V.dH tag):=by
 rcases h with h|h
 ·exact SR.c8 h hx
 ·intro a t e;cases e;exact⟨_,_,rfl,h.toNR.vr.lr,fun _=>rfl,.inr ⟨b,h.push hx⟩⟩
theorem N9(n:Nat):cM ((pQ[n]?).getD []) rp=false/\cM ((pQ[n]?).getD []) cU=false:=by
 match n with
 |0=>exact al
 |1=>exact al
 |2=>exact al
 |3=>exact al
 |4=>exact al
 |5=>exact al
 |6=>exact al
 |7=>exact al
 |8=>exact al
 |9=>exact al
 |n+10=>exact al
theorem ZF(b:V.Ok)(e:V.fF f)(c:f<=g)(i:V.R s s'):SR (V.PA (f+1) .bf) (V.PB (g+1) .bf) s s' (V.dH .bf):=by
 unfold Vw.PA Vw.PB;rw[P,P];refine SR.bind (e.one c .cond i fun k t k' t' hk h=>SR.bind (SR.cd (SR.bif (h.ask b (fun kd tx _=>kd !=5|| !cM rY tx) (fun _ _=>al)) (fun _ _=>SR.ret (u5 hk h)) (fun l _=>?_))));have a:=h.Od b (fun kd tx _=>kd !=5|| !cM rY tx) false rfl (fun _=>rfl) l;have j:=h.n7 b a;have hx:=j.2.1;exact SR.bind (SR.kt h.toNR hk (SR.bind (SR.step h a fun u q n=>SR.bind (e.one c .bf n fun r v o w m d=>SR.bind (SR.dW d.toNR hk fun p p' hp=>nR d (hk.lr.app m.lr) hp)))))
theorem ZE(i:V.Ok)(d:V.fF f)(c:f<=g)(j:V.R s s'):SR (V.PA (f+1) .cond) (V.PB (g+1) .cond) s s' (V.dH .cond):=by
 unfold Vw.PA Vw.PB;rw[P,P];exact SR.bind (d.one c (.level 0) j fun k t k' t' hk h=>SR.bind (SR.b9 i h rfl (fun u z n _=>SR.bif rfl (fun e _=>nomatch e) (fun _ _=>SR.bind (d.one c .bf n fun a v r A l o=>SR.bind (SR.bW i o rfl fun w w' q=>SR.bind (d.one c .bf q fun b x y B m hx=>SR.bind (SR.dW hx.toNR hk fun p p' hp=>nR hx (hk.lr.app (l.lr.app m.lr)) hp)))))) (fun _=>SR.bif rfl (fun _ _=>SR.ret (u5 hk h)) (fun e _=>nomatch e))))
theorem ZI(b:V.fF f)(a:f<=g)(n:Nat)(c:V.R s s'):SR (V.PA (f+1) (.level n)) (V.PB (g+1) (.level n)) s s' (V.dH (.level n)):=by
 unfold Vw.PA Vw.PB;rw[P,P];exact SR.bif rfl (fun _ _=>b.dM a _ .unary c) (fun _ _=>SR.bind (b.one a (.level (n+1)) c fun k t k' t' hk h=>b.dM a _ (.fY n hk) h))
theorem ZJ(c:V.Ok)(i:V.fF f)(e:f<=g)(n:Nat){k k':Int}(hk:V.VR k k')(a:V.R s s'):SR (V.PA (f+1) (.fY n k)) (V.PB (g+1) (.fY n k')) s s' (V.dH (.fY n k)):=by
 unfold Vw.PA Vw.PB;rw[P,P];refine SR.bind (SR.cd (SR.bif (a.ask c (fun kd tx _=>(kd !=5&&kd !=2)|| !cM ((pQ[n]?).getD []) tx) (fun _ _=>?_)) (fun _ _=>SR.ret (u5 hk a)) (fun j _=>?_)))
 ·rw[(N9 n).1,(N9 n).2];simp[*]
 have b:=a.Od c (fun kd tx _=>(kd !=5&&kd !=2)|| !cM ((pQ[n]?).getD []) tx) false rfl (fun _=>by rw[(N9 n).1];rfl) j;have d:=a.n7 c b;have hx:=d.2.1;have hn:=d.2.2.1;exact SR.bind (SR.step a b fun u y q=>SR.bind (i.one e (.level (n+1)) q fun r v x z o h=>SR.bind (SR.dW h.toNR hk fun p p' hp=>SR.bind (wc h (hk.lr.app o.lr) hp fun m w m' w' l t=>i.dM e _ (.fY n l) t))))
theorem ZV(j:V.Ok)(e:V.fF f)(d:f<=g)(c:V.R s s'):SR (V.PA (f+1) .unary) (V.PB (g+1) .unary) s s' (V.dH .unary):=by
 rcases c.GL j with l|b
 ·exact SR.no (On _ _ rfl l)
 have a:=c.n7 j b;have hx:=a.2.1;have hn:=a.2.2.1;unfold Vw.PA Vw.PB;rw[P,P];refine SR.bind (SR.cd (SR.bif (by rw[a.1]) (fun _ _=>e.dM d _ .dO c) (fun _ _=>SR.bif (by rw[a.2.1]) (fun _ _=>?_) (fun _ _=>SR.bif (by rw[a.2.1]) (fun _ _=>?_) (fun _ _=>e.dM d _ .dO c)))))
 ·exact SR.bind (SR.step c b fun u m i=>SR.bind (e.one d .unary i fun k t k' t' hk h=>SR.bind (SR.bif (by rw[a.2.1]) (fun _ _=>SR.kt h.toNR hk (nR h hk.lr a.pos)) (fun _ _=>SR.ret (nR h hk.lr a.pos)))))
 ·exact SR.bind (SR.step c b fun u m i=>SR.bind (e.one d .unary i fun k t k' t' hk h=>SR.bind (SR.kt h.toNR hk (nR h hk.lr a.pos))))
theorem Zy(b:V.Ok)(m:V.fF f)(j:f<=g)(d:V.R s s'):SR (V.PA (f+1) .dO) (V.PB (g+1) .dO) s s' (V.dH .dO):=by
 unfold Vw.PA Vw.PB;rw[P,P];refine SR.bind (m.one j .suffix d fun k t k' t' hk h=>SR.bind (SR.cd (SR.bif (h.ask b (fun kd tx l=>kd !=5||(l||(!bD tx pp&& !bD tx mm))) (fun _ n=>by cases n <;> exact⟨rfl,rfl⟩)) (fun _ _=>SR.ret (u5 hk h)) (fun i _=>?_))));have a:=h.Od b (fun kd tx l=>kd !=5||(l||(!bD tx pp&& !bD tx mm))) false rfl (fun l=>by cases l <;> rfl) i;have e:=h.n7 b a;have hx:=e.2.1;exact SR.bind (SR.kt h.toNR hk (SR.bind (SR.step h a fun u o c=>SR.bind (SR.dW c.toNR hk fun p p' hp=>nR c hk.lr hp))))
theorem ZS(b:V.fF f)(a:f<=g)(c:V.R s s'):SR (V.PA (f+1) .suffix) (V.PB (g+1) .suffix) s s' (V.dH .suffix):=by
 unfold Vw.PA Vw.PB;rw[P,P];exact SR.bind (b.one a .dv c fun k t k' t' hk h=>b.dM a _ (.d6 hk) h)
theorem Oo(a:V.Ok)(b:V.cK=true){t:ap}(h:V.dA<=t.i):bg V.A t 0 lp=false:=by
 unfold bg;rw[Nat.add_zero];cases hx:V.A[t.i]? with
 |none=>rfl
 |some x=>exact a.ag8 b _ _ h hx
theorem Vw.R.dA(h:V.R s s'):V.dA<=s.i:=by
 obtain⟨i,_,a,_⟩:=h.at_;omega
theorem ZO(a:V.Ok)(o:V.fF f)(i:f<=g){k k':Int}(hk:V.VR k k')(d:V.R s s'):SR (V.PA (f+1) (.d6 k)) (V.PB (g+1) (.d6 k')) s s' (V.dH (.d6 k)):=by
 unfold Vw.PA Vw.PB;rw[P,P];refine SR.bind (SR.b9 a d rfl (fun t t' h _=>SR.bif rfl (fun _ _=>?_) (fun e _=>nomatch e)) (fun _=>SR.bif rfl (fun e _=>nomatch e) (fun _ _=>SR.bind (SR.b9 a d rfl (fun t t' h _=>SR.bif rfl (fun _ _=>?_) (fun e _=>nomatch e)) (fun _=>SR.bif rfl (fun e _=>nomatch e) (fun _ _=>SR.bind (SR.b9 a d rfl (fun t t' h hl=>SR.bif rfl (fun _ _=>?_) (fun e _=>nomatch e)) (fun _=>SR.bif rfl (fun e _=>nomatch e) (fun _ _=>SR.ret (u5 hk d))))))))))
 ·rcases h.GL a with q|j
  ·refine SR.no (NO.cd (NO.bind (NO.bif (fun _=>NO.dN) (fun y=>?_))));rw[q.ask (fun k _=>k !=1&&k !=2) (b:=true) rfl rfl]at y;cases y
  ·have x:=h.n7 a j;have hx:=x.2.1;exact SR.bind (SR.cd (SR.bind (SR.bif (by rw[x.1]) (fun _ _=>SR.no NO.dN) (fun _ _=>SR.ret (SR.bind (SR.step h j fun u A c=>SR.bind (SR.dW c.toNR hk fun p p' hp=>SR.bind (wc c hk.lr hp fun m w m' w' l n=>o.dM i _ (.d6 l) n))))))))
 ·exact SR.bind (o.one i .bf h fun e u D A q c=>SR.bind (SR.bW a c rfl fun v E z=>SR.bind (SR.dW z.toNR hk fun p p' hp=>SR.bind (wc z (hk.lr.app q.lr) hp fun m w m' w' l n=>o.dM i _ (.d6 l) n))))
 ·have B:V.cK=false:=by
   cases C:V.cK with
   |false=>rfl
   |true=>rw[Oo a C d.dA]at hl;cases hl
  exact SR.bind (o.run i (.d0 hk.lr) h (fun ks u dK A r _ c=>SR.bind (SR.dW c.toNR hk fun p p' hp=>SR.bind (wc c r hp fun m w m' w' l n=>o.dM i _ (.d6 l) n))) (fW:=fun e=>by rw[B]at e;cases e))
theorem ZB(b:V.Ok)(j:V.cK=false)(l:V.fF f)(k:f<=g){ks dK:List Int}(hk:V.LR ks dK)(a:V.R s s'):SR (V.PA (f+1) (.d0 ks)) (V.PB (g+1) (.d0 dK)) s s' (V.dH (.d0 ks)):=by
 rcases a.nX b j with c|d
 ·exact SR.no (pS _ _ rfl c)
 have hx:∀{t:aq},V.cK=true->t.ex=true:=fun e=>by rw[j]at e;cases e
 unfold Vw.PA Vw.PB;rw[P,P];have K:∀{t t':ap},V.R t t'->SR (one (V.PA f .bf)>>=fun e=>V.PA f (.d0 (ks++[e]))) (one (V.PB g .bf)>>=fun e=>V.PB g (.d0 (dK++[e]))) t t' (V.dH (.d0 ks)):=fun h=>SR.bind (l.one k .bf h fun e u n m c i=>l.dM k _ (.d0 (hk.app c.lr)) i hx);exact SR.bind (wb b a d (fun t t' h _=>SR.bif rfl (fun _ _=>SR.ret (wP rfl hk h)) (fun e _=>nomatch e)) (fun _=>SR.bif rfl (fun e _=>nomatch e) (fun _ _=>SR.bind (SR.bif (by rw[hk.len]) (fun _ _=>SR.bW b a rfl fun u m i=>K i) (fun _ _=>SR.ret (K a))))))
theorem Zx(c:V.Ok)(j:V.fF f)(i:f<=g){ks dK:List Int}(hk:V.LR ks dK)(d:V.R s s'):SR (V.PA (f+1) (.cS ks)) (V.PB (g+1) (.cS dK)) s s' (V.dH (.cS ks)):=by
 unfold Vw.PA Vw.PB;rw[P,P];have K:∀{e b:Int}{t t':ap},V.VR e b->V.R t t'->SR (V.PA f (.cS (ks++[e]))) (V.PB g (.cS (dK++[b]))) t t' (V.dH (.cS ks)):=fun a h=>j.dM i _ (.cS (hk.app a.lr)) h;exact SR.bind (SR.b9 c d rfl (fun t t' h _=>SR.bif rfl (fun _ _=>SR.ret (wP rfl hk h)) (fun e _=>nomatch e)) (fun _=>SR.bif rfl (fun e _=>nomatch e) (fun _ _=>SR.bind (j.one i .bf d fun e t b t' a h=>SR.bind (SR.is c h rfl (SR.bind (SR.bif rfl (fun _ _=>SR.bW c h rfl fun u l k=>K a k) (fun _ _=>SR.ret (K a h)))))))))
theorem ZL(b:V.Ok)(m:V.fF f)(l:f<=g){ks dK:List Int}(hk:V.LR ks dK)(k:V.R s s'):SR (V.PA (f+1) (.cW ks)) (V.PB (g+1) (.cW dK)) s s' (V.dH (.cW ks)):=by
 unfold Vw.PA Vw.PB;rw[P,P];have K:∀{a i e j:Int}{t t':ap},V.VR a i->V.VR e j->V.R t t'->SR (V.PA f (.cW (ks++[a]++[e]))) (V.PB g (.cW (dK++[i]++[j]))) t t' (V.dH (.cW ks)):=fun c d h=>m.dM l _ (.cW ((hk.app c.lr).app d.lr)) h;exact SR.bind (SR.b9 b k rfl (fun t t' h _=>SR.bif rfl (fun _ _=>SR.ret (wP rfl hk h)) (fun e _=>nomatch e)) (fun _=>SR.bif rfl (fun e _=>nomatch e) (fun _ _=>SR.bind (SR.key b k fun a v i r c o=>SR.bind (SR.bW b o rfl fun w w' p=>SR.bind (m.one l .bf p fun e t j t' d h=>SR.bind (SR.is b h rfl (SR.bind (SR.bif rfl (fun _ _=>SR.bW b h rfl fun u q n=>K c d n) (fun _ _=>SR.ret (K c d h)))))))))))
theorem ag2(c:V.Ok)(d:V.cK=true)(k:Int)(h:V.dA<=s.i):∀f,NO (V.PA f (.func k)) s:=by
 intro f;cases f with
 |zero=>show NO (P V.A V.fA V.aJ V.wide 0 _) s;rw[P];exact NO.out
 |succ f=>
  show NO (P V.A V.fA V.aJ V.wide (f+1) _) s;rw[P];refine NO.cd (sW fun a t e=>?_);cases e;refine NO.get (sW fun a t e=>?_);have hi:V.dA<=t.i:=by
   revert e;cases (k==35||nameV V.A {s with i:=s.i+1} 0)with
   |true=>
    intro e;have b:gJ V.A V.fA {s with i:=s.i+1}= .ok a t:=e;unfold gJ at b;grind
   |false=>intro e;cases e;show V.dA<=s.i+1;omega
  exact NO.bind (NO.bW (Oo c d hi))
theorem ZP(i:V.Ok)(q:V.fF f)(n:f<=g)(d:V.R s s'):SR (V.PA (f+1) .dv) (V.PB (g+1) .dv) s s' (V.dH .dv):=by
 rcases d.GL i with w|a
 ·exact SR.no (On _ _ rfl w)
 have c:=d.n7 i a;have hx:=c.2.1;have hn:=c.2.2.1;have is:=fun T=>d.isLt i a T;unfold Vw.PA Vw.PB;rw[P,P];have b:∀{kd:Int}{op m:ByteArray}{num kW:Nat}{p p':Int},V.pU p p'->m=op->kW=num->SR (eF>>=fun _=>cm ⟨kd,op,num,[],p⟩) (eF>>=fun _=>cm ⟨kd,m,kW,[],p'⟩) s s' (V.dH .dv):=fun hp z A=>SR.bind (SR.step d a fun u r l=>nR l .nil hp);refine SR.bind (SR.cd (SR.bif (by rw[c.1]) (fun _ _=>b c.pos rfl hn) (fun _ _=>SR.bif (by rw[c.1]) (fun _ _=>b c.pos hx rfl) (fun _ _=>SR.bif (by rw[c.1]) (fun _ _=>b c.pos hx rfl) (fun _ _=>SR.bind (SR.get (SR.bif (by simp[*]) (fun _ _=>b c.pos hx rfl) (fun _ _=>SR.bif (is _) (fun B _=>?_) (fun _ _=>?_)))))))))
 ·cases o:V.cK with
  |true=>exact SR.no (ag2 i o _ d.dA f)
  |false=>exact q.dM n _ (.func 7) d (fun e=>by rw[o]at e;cases e) a
 ·refine SR.bind (wb i d a (fun t t' h hl=>SR.bif rfl (fun _ _=>?_) (fun e _=>nomatch e)) (fun _=>SR.bif rfl (fun e _=>nomatch e) (fun _ _=>SR.bind (wb i d a (fun t t' h _=>SR.bif rfl (fun _ _=>?_) (fun e _=>nomatch e)) (fun _=>SR.bif rfl (fun e _=>nomatch e) (fun _ _=>SR.bind (wb i d a (fun t t' h _=>SR.bif rfl (fun _ _=>?_) (fun e _=>nomatch e)) (fun _=>SR.bif rfl (fun e _=>nomatch e) (fun _ _=>SR.no NO.dN)))))))))
  ·have x:V.cK=false:=by
    cases o:V.cK with
    |false=>rfl
    |true=>rw[Oo i o d.dA]at hl;cases hl
   exact SR.bind (q.one n .bf h fun k u k' r hk l=>SR.bind (yt i x l fun v C y=>SR.ret (u5 hk y)))
  ·exact SR.bind (q.run n (.cS .nil) h fun ks u dK r j _ l=>nR l j c.pos)
  ·exact SR.bind (q.run n (.cW .nil) h fun ks u dK r j _ l=>nR l j c.pos)
end
end
end Go.Proofs.YtdkchodgklpomaaGreatDoor
