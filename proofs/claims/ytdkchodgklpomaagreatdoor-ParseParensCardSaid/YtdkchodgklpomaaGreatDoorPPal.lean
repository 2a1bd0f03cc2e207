/- Part of the proof that ParseParens answers true at every input. -/
import Derived.Test.YtdkchodgklpomaaGreatDoorPPak
set_option linter.all false
namespace Go.Proofs.YtdkchodgklpomaaGreatDoor
set_option maxRecDepth 100000
open Go.Value (int slice string bool pointer agg tuple func float iface nilIface)
open Go.IntKind (i64 u8 u64 i32 u32 u16 i8 i16)
open Go.FloatKind (f64)
open Go.Ending (returned panicked)
section
open Go
section
variable{fin:Int}{L:List bh}{aI:Nat->ByteArray}{wide:ByteArray->ByteArray}
abbrev fd(L:List bh)(tag:ap)(s:al):List Int->al->Prop:=fun _ t=>left L t<=left L s/\(tag.cons=true->left L t<left L s)
variable{Q:List Int->al->Prop}{f:Nat}{s:al}
theorem fG.call(b:fG L fin aI wide f)(tag:ap)(k:∀ks t,left L t<=left L s->(tag.cons=true->left L t<left L s)->Q ks t)(hn:tag.ct L s:=by trivial)(a:24*left L s+tag.eX<=f:=by dsimp only[ap.eX]at*;omega):TP (P L fin aI wide f tag) s Q:=
 (b tag s hn a).mono fun ks t h=>k ks t h.1 h.2
theorem fG.jF(c:fG L fin aI wide f)(tag:ap)(k:∀ks t,left L t<left L s->Q ks t)(hn:tag.ct L s:=by trivial)(b:24*left L s+tag.eX<=f:=by dsimp only[ap.eX]at*;omega)(a:tag.cons=true:=by rfl):TP (P L fin aI wide f tag) s Q:=
 (c tag s hn b).mono fun ks t h=>k ks t (h.2 a)
theorem fG.fk(c:fG L fin aI wide f)(tag:ap){Q:Int->al->Prop}(k:∀k t,left L t<left L s->Q k t)(hn:tag.ct L s:=by trivial)(b:24*left L s+tag.eX<=f:=by dsimp only[ap.eX]at*;omega)(a:tag.cons=true:=by rfl):TP (one (P L fin aI wide f tag)) s Q:=by
 show TP (P L fin aI wide f tag>>=fun l=>Go.Proofs.YtdkchodgklpomaaGreatDoor.ret (l.headD 0)) s Q;exact TP.bind ((c tag s hn b).mono fun ks t h=>k _ t (h.2 a))
theorem TP.cZ{x:cj}(h:∀k t,left L t<=left L s->Q [k] t):TP (cg x) s Q:=h _ {s with nodes:=s.nodes++[x]} (bT _)
theorem X1(a:fG L fin aI wide f)(b:24*left L s+ap.aZ.eX<=f+1):TP (P L fin aI wide (f+1) .aZ) s (fd L .aZ s):=by
 rw[P];refine TP.bind (a.fk .cond fun k t h=>TP.bind (TP.ce (TP.bif (fun _=>TP.ret ⟨ae,fun _=>ae⟩) (fun hk=>TP.bind (TP.j9 (TP.bind (TP.step (L:=L) (iX (fin:=fin) ?_) fun u g=>TP.bind (a.fk .aZ fun r v q=>TP.bind (TP.dN fun p=>TP.cZ (L:=L) fun k w e=>⟨ae,fun _=>ae⟩)))))))));grind
theorem X0(d:fG L fin aI wide f)(i:24*left L s+ap.cond.eX<=f+1):TP (P L fin aI wide (f+1) .cond) s (fd L .cond s):=by
 rw[P];exact TP.bind (d.fk (.level 0) (hn:=df _) fun c t h=>TP.bind (TP.b9 (fun u g=>TP.bif (fun e=>nomatch e) (fun _=>TP.bind (d.fk .aZ fun a v q=>TP.bind (TP.bV fun w e=>TP.bind (d.fk .aZ fun b y z=>TP.bind (TP.dN fun p=>TP.cZ (L:=L) fun k w e=>⟨ae,fun _=>ae⟩)))))) (fun _=>TP.bif (fun _=>TP.ret ⟨ae,fun _=>ae⟩) (fun e=>nomatch e))))
theorem Yh(a:fG L fin aI wide f)(b:24*left L s+ap.unary.eX<=f+1):TP (P L fin aI wide (f+1) .unary) s (fd L .unary s):=by
 rw[P];refine TP.bind (TP.ce (TP.bif (fun _=>a.call .dD fun ks t h g=>⟨h,fun _=>g rfl⟩) (fun hk=>?_)));have hi:s.i<L.length:=iX (fin:=fin) (fun e=>by rw[e]at hk;cases hk);exact TP.bif (fun _=>TP.bind (TP.step (L:=L) hi fun t h=>TP.bind (a.fk .unary fun k u g=>TP.bind (TP.bif (fun _=>TP.j9 (TP.cZ (L:=L) fun k w e=>⟨ae,fun _=>ae⟩)) (fun _=>TP.ret (TP.cZ (L:=L) fun k w e=>⟨ae,fun _=>ae⟩)))))) (fun _=>TP.bif (fun _=>TP.bind (TP.step (L:=L) hi fun t h=>TP.bind (a.fk .unary fun k u g=>TP.bind (TP.j9 (TP.cZ (L:=L) fun k w e=>⟨ae,fun _=>ae⟩))))) (fun _=>a.call .dD fun ks t h g=>⟨h,fun _=>g rfl⟩))
theorem XU(a:fG L fin aI wide f)(b:24*left L s+ap.dD.eX<=f+1):TP (P L fin aI wide (f+1) .dD) s (fd L .dD s):=by
 rw[P];refine TP.bind (a.fk .suffix fun k t h=>TP.bind (TP.ce (TP.bif (fun _=>TP.ret ⟨ae,fun _=>ae⟩) (fun hk=>TP.bind (TP.j9 (TP.bind (TP.step (L:=L) (iX (fin:=fin) ?_) fun u g=>TP.bind (TP.dN fun p=>TP.cZ (L:=L) fun k w e=>⟨ae,fun _=>ae⟩))))))));grind
theorem Ye(a:fG L fin aI wide f)(b:24*left L s+ap.suffix.eX<=f+1):TP (P L fin aI wide (f+1) .suffix) s (fd L .suffix s):=by
 rw[P];exact TP.bind (a.fk .dk fun k t h=>a.call (.dO k) fun ks u g _=>⟨ae,fun _=>ae⟩)
theorem XX(a:fG L fin aI wide f)(aJ:List Int)(b:24*left L s+(ap.dS aJ).eX<=f+1):TP (P L fin aI wide (f+1) (.dS aJ)) s (fd L (.dS aJ) s):=by
 rw[P];have d1:∀{t:al},left L t<=left L s->TP (one (P L fin aI wide f .aZ)>>=fun e=>P L fin aI wide f (.dS (aJ++[e]))) t (fd L (.dS aJ) s):=fun{t}h=>TP.bind (a.fk .aZ fun e u g=>a.call (.dS (aJ++[e])) fun ks v q _=>⟨ae,fun _=>ae⟩);exact TP.bind (TP.b9 (fun t h=>TP.bif (fun _=>TP.ret ⟨ae,fun _=>ae⟩) (fun e=>nomatch e)) (fun _=>TP.bif (fun e=>nomatch e) (fun _=>TP.bind (TP.bif (fun _=>TP.bV fun t h=>d1 (Nat.le_of_lt h)) (fun _=>TP.ret (d1 (bT _)))))))
theorem XT(a:fG L fin aI wide f)(aJ:List Int)(c:24*left L s+(ap.cR aJ).eX<=f+1):TP (P L fin aI wide (f+1) (.cR aJ)) s (fd L (.cR aJ) s):=by
 rw[P];exact TP.bind (TP.b9 (fun t h=>TP.bif (fun _=>TP.ret ⟨ae,fun _=>ae⟩) (fun e=>nomatch e)) (fun _=>TP.bif (fun e=>nomatch e) (fun _=>TP.bind (a.fk .aZ fun e u g=>TP.bind (TP.mf fun b _=>TP.bind (TP.bif (fun _=>TP.bV fun t h=>a.call (.cR (aJ++[e])) fun ks v q _=>⟨ae,fun _=>ae⟩) (fun _=>TP.ret (a.call (.cR (aJ++[e])) fun ks v q _=>⟨ae,fun _=>ae⟩))))))))
theorem X7(a:fG L fin aI wide f)(aJ:List Int)(c:24*left L s+(ap.cU aJ).eX<=f+1):TP (P L fin aI wide (f+1) (.cU aJ)) s (fd L (.cU aJ) s):=by
 rw[P];exact TP.bind (TP.b9 (fun t h=>TP.bif (fun _=>TP.ret ⟨ae,fun _=>ae⟩) (fun e=>nomatch e)) (fun _=>TP.bif (fun e=>nomatch e) (fun _=>TP.bind (TP.key fun k t h=>TP.bind (TP.bV fun u g=>TP.bind (a.fk .aZ fun e v q=>TP.bind (TP.mf fun b _=>TP.bind (TP.bif (fun _=>TP.bV fun t h=>a.call (.cU (aJ++[k]++[e])) fun ks v q _=>⟨ae,fun _=>ae⟩) (fun _=>TP.ret (a.call (.cU (aJ++[k]++[e])) fun ks v q _=>⟨ae,fun _=>ae⟩))))))))))
theorem X9(a:fG L fin aI wide f)(b:24*left L s+ap.paren.eX<=f+1):TP (P L fin aI wide (f+1) .paren) s (fd L .paren s):=by
 rw[P];exact TP.bind (TP.bV fun t h=>TP.bind (a.fk .aZ fun k u g=>TP.bind (TP.bV fun v q=>TP.ret ⟨ae,fun _=>ae⟩)))
theorem XV(a:fG L fin aI wide f)(body:Bool)(b:24*left L s+(ap.block body).eX<=f+1):TP (P L fin aI wide (f+1) (.block body)) s (fd L (.block body) s):=by
 rw[P];exact TP.bind (TP.ce (TP.bind (TP.bV fun t h=>TP.bind (a.jF (.fC [] body) fun ks u g=>TP.cZ (L:=L) fun k w e=>⟨ae,fun _=>ae⟩))))
theorem XW(a:fG L fin aI wide f)(aJ:List Int)(body:Bool)(b:24*left L s+(ap.fC aJ body).eX<=f+1):TP (P L fin aI wide (f+1) (.fC aJ body)) s (fd L (.fC aJ body) s):=by
 rw[P];exact TP.bind (TP.b9 (fun t h=>TP.bif (fun _=>TP.ret ⟨ae,fun _=>ae⟩) (fun e=>nomatch e)) (fun _=>TP.bif (fun e=>nomatch e) (fun _=>TP.bind (a.fk (.ci body) fun k t h=>a.jF (.fC (aJ++[k]) body) fun ks u g=>⟨ae,fun _=>ae⟩))))
theorem XY(a:fG L fin aI wide f)(aJ:List Int)(b:24*left L s+(ap.ek aJ).eX<=f+1):TP (P L fin aI wide (f+1) (.ek aJ)) s (fd L (.ek aJ) s):=by
 rw[P];exact TP.bind (TP.get (TP.bif (fun _=>TP.bind (a.fk (.ci false) fun k t h=>a.call (.ek (aJ++[k])) fun ks u g _=>⟨ae,fun _=>ae⟩)) (fun _=>TP.ret ⟨bT _,fun e=>nomatch e⟩)))
theorem Yb(a:fG L fin aI wide f)(aJ:List Int)(b:24*left L s+(ap.prog aJ).eX<=f+1):TP (P L fin aI wide (f+1) (.prog aJ)) s (fd L (.prog aJ) s):=by
 rw[P];exact TP.bind (TP.get (TP.bif (fun _=>TP.bind (a.fk (.ci true) fun k t h=>a.call (.prog (aJ++[k])) fun ks u g _=>⟨ae,fun _=>ae⟩)) (fun _=>TP.cZ (L:=L) fun k w e=>⟨e,fun e=>nomatch e⟩)))
theorem X8(a:fG L fin aI wide f)(aJ:List Int)(b:24*left L s+(ap.dt aJ).eX<=f+1):TP (P L fin aI wide (f+1) (.dt aJ)) s (fd L (.dt aJ) s):=by
 rw[P];have d1:∀{t:al},left L t<=left L s->TP (e9 L fin>>=fun x=>gD L fin>>=fun w=>db ⟨3,w,0,[],x.pos⟩>>=fun k=>P L fin aI wide f (.dt (aJ++[k]))) t (fd L (.dt aJ) s):=fun{t}h=>TP.bind (TP.ce (TP.bind (TP.word fun w u g=>TP.bind (TP.node (L:=L) fun k v q=>a.call (.dt (aJ++[k])) fun ks y z _=>⟨ae,fun _=>ae⟩))));exact TP.bind (TP.b9 (fun t h=>TP.bif (fun _=>TP.ret ⟨ae,fun _=>ae⟩) (fun e=>nomatch e)) (fun _=>TP.bif (fun e=>nomatch e) (fun _=>TP.bind (TP.bif (fun _=>TP.bV fun t h=>d1 (Nat.le_of_lt h)) (fun _=>TP.ret (d1 (bT _)))))))
theorem X4(b:fG L fin aI wide f)(n:Nat)(hn:n<=10)(i:24*left L s+(ap.level n).eX<=f+1):TP (P L fin aI wide (f+1) (.level n)) s (fd L (.level n) s):=by
 rw[P];refine TP.bif (fun _=>b.call .unary fun ks t h g=>⟨h,fun _=>g rfl⟩) (fun hk=>?_);have d:n≠10:=fun e=>by rw[e]at hk;cases hk
 have a:n+1<=10:=ae;have c:n<=9:=ae;exact TP.bind (b.fk (.level (n+1)) (fun k t h=>b.call (.fM n k) (fun ks u g _=>⟨ae,fun _=>ae⟩) (hn:=c)) (hn:=a))
theorem X5(c:fG L fin aI wide f)(n:Nat)(b:Int)(hn:n<=9)(d:24*left L s+(ap.fM n b).eX<=f+1):TP (P L fin aI wide (f+1) (.fM n b)) s (fd L (.fM n b) s):=by
 rw[P];have a:n+1<=10:=ae;exact TP.bind (TP.ce (TP.bif (fun _=>TP.ret ⟨bT _,fun e=>nomatch e⟩) (fun hk=>TP.bind (TP.step (L:=L) (iX (fin:=fin) (fun e=>by rw[e]at hk;cases hk)) fun t h=>TP.bind (c.fk (.level (n+1)) (fun r u g=>TP.bind (TP.dN fun p=>TP.bind (TP.node (L:=L) fun k v q=>c.call (.fM n k) (fun ks y z _=>⟨ae,fun e=>nomatch e⟩) (hn:=hn)))) (hn:=a))))))
theorem X_(a:fG L fin aI wide f)(k:Int)(c:24*left L s+(ap.dO k).eX<=f+1):TP (P L fin aI wide (f+1) (.dO k)) s (fd L (.dO k) s):=by
 rw[P];have b:∀{t:al}{x:cj},left L t<left L s->TP (db x>>=fun m=>P L fin aI wide f (.dO m)) t (fd L (.dO k) s):=fun{t x}h=>TP.bind (TP.node (L:=L) fun m u g=>a.call (.dO m) fun ks v q _=>⟨ae,fun e=>nomatch e⟩);exact TP.bind (TP.b9 (fun t h=>TP.bif (fun _=>TP.bind (TP.ce (TP.bind (TP.bif (fun _=>TP.dI) (fun hk=>TP.ret (TP.bind (TP.step (L:=L) (iX (fin:=fin) (fun e=>by rw[e]at hk;cases hk)) fun u g=>TP.bind (TP.dN fun p=>b ae)))))))) (fun e=>nomatch e)) (fun _=>TP.bif (fun e=>nomatch e) (fun _=>TP.bind (TP.b9 (fun t h=>TP.bif (fun _=>TP.bind (a.fk .aZ fun e u g=>TP.bind (TP.bV fun v q=>TP.bind (TP.dN fun p=>b ae)))) (fun e=>nomatch e)) (fun _=>TP.bif (fun e=>nomatch e) (fun _=>TP.bind (TP.b9 (fun t h=>TP.bif (fun _=>TP.bind (a.jF (.dS [k]) fun ks u g=>TP.bind (TP.dN fun p=>b ae))) (fun e=>nomatch e)) (fun _=>TP.bif (fun e=>nomatch e) (fun _=>TP.ret ⟨bT _,fun e=>nomatch e⟩)))))))))
theorem Ya(a:fG L fin aI wide f)(c:24*left L s+ap.dk.eX<=f+1):TP (P L fin aI wide (f+1) .dk) s (fd L .dk s):=by
 rw[P];have b:∀{x:cj},s.i<L.length->TP (eE>>=fun _=>cg x) s (fd L .dk s):=fun{x}hi=>TP.bind (TP.step (L:=L) hi fun t h=>TP.cZ (L:=L) fun k w e=>⟨ae,fun _=>ae⟩);refine TP.bind (TP.ce (TP.bif (fun hk=>b (iX (fin:=fin) (fun e=>by rw[e]at hk;cases hk))) (fun _=>TP.bif (fun hk=>b (iX (fin:=fin) (fun e=>by rw[e]at hk;cases hk))) (fun _=>TP.bif (fun hk=>b (iX (fin:=fin) (fun e=>by rw[e]at hk;cases hk))) (fun _=>TP.bind (TP.get (TP.bif (fun hk=>b ?_) (fun _=>TP.bif (fun hk=>a.jF (.func 7) (fun ks t h=>⟨ae,fun _=>ae⟩) (hn:=iZ hk)) (fun _=>?_)))))))))
 ·rw[Bool.or_eq_true,Bool.or_eq_true]at hk;rcases hk with hk|hk|hk
  ·exact iZ hk
  ·exact iZ hk
  ·exact iZ hk
 ·exact TP.bind (TP.b9 (fun t h=>TP.bif (fun _=>TP.bind (a.fk .aZ fun e u g=>TP.bind (TP.bV fun v q=>TP.ret ⟨ae,fun _=>ae⟩))) (fun e=>nomatch e)) (fun _=>TP.bif (fun e=>nomatch e) (fun _=>TP.bind (TP.b9 (fun t h=>TP.bif (fun _=>TP.bind (a.jF (.cR []) fun ks u g=>TP.cZ (L:=L) fun k w e=>⟨ae,fun _=>ae⟩)) (fun e=>nomatch e)) (fun _=>TP.bif (fun e=>nomatch e) (fun _=>TP.bind (TP.b9 (fun t h=>TP.bif (fun _=>TP.bind (a.jF (.cU []) fun ks u g=>TP.cZ (L:=L) fun k w e=>⟨ae,fun _=>ae⟩)) (fun e=>nomatch e)) (fun _=>TP.bif (fun e=>nomatch e) (fun _=>TP.dI)))))))))
theorem X3(a:fG L fin aI wide f)(kind:Int)(hn:s.i<L.length)(m:24*left L s+(ap.func kind).eX<=f+1):TP (P L fin aI wide (f+1) (.func kind)) s (fd L (.func kind) s):=by
 rw[P];have j:∀{t:al}{op:ByteArray}{pos:Int},left L t<left L s->TP (cr L fin lp>>=fun _=>P L fin aI wide f (.dt [])>>=fun i=>ez>>=fun s=>ic {s with bw:=s.bw+1,loops:=0,bn:=0}>>=fun _=>one (P L fin aI wide f (.block true))>>=fun b=>ez>>=fun t=>ic {t with bw:=t.bw-1,loops:=s.loops,bn:=s.bn}>>=fun _=>cg ⟨kind,op,0,i++[b],pos⟩) t (fd L (.func kind) s):=fun{t op pos}h=>TP.bind (TP.bV fun u g=>TP.bind (a.jF (.dt []) fun i v q=>TP.bind (TP.get (TP.bind (TP.set (L:=L) (by simp[*]) fun y z=>TP.bind (a.fk (.block true) fun b w r=>TP.bind (TP.get (TP.bind (TP.set (L:=L) (by simp[*]) fun c d=>TP.cZ (L:=L) fun k l e=>⟨ae,fun _=>ae⟩)))))))));exact TP.bind (TP.ce (TP.bind (TP.step (L:=L) hn fun t h=>TP.bind (TP.get (TP.bind (TP.bif (fun _=>TP.word fun w u g=>j ae) (fun _=>TP.ret (j h))))))))
theorem Yj(a:fG L fin aI wide f)(hn:s.i<L.length)(b:24*left L s+ap.vars.eX<=f+1):TP (P L fin aI wide (f+1) .vars) s (fd L .vars s):=by
 rw[P];exact TP.bind (TP.ce (TP.bind (TP.step (L:=L) hn fun t h=>TP.bind (a.jF (.dQ []) fun ks u g=>TP.cZ (L:=L) fun k w e=>⟨ae,fun _=>ae⟩))))
theorem Yi(a:fG L fin aI wide f)(aJ:List Int)(c:24*left L s+(ap.dQ aJ).eX<=f+1):TP (P L fin aI wide (f+1) (.dQ aJ)) s (fd L (.dQ aJ) s):=by
 rw[P];have b:∀{t:al}{x:cj},left L t<left L s->TP (db x>>=fun k=>cH L oj>>=fun h=>bif !h then ret (aJ++[k]) else P L fin aI wide f (.dQ (aJ++[k]))) t (fd L (.dQ aJ) s):=fun{t x}h=>TP.bind (TP.node (L:=L) fun k u g=>TP.bind (TP.b9 (fun v q=>TP.bif (fun e=>nomatch e) (fun _=>a.jF (.dQ (aJ++[k])) fun ks y z=>⟨ae,fun _=>ae⟩)) (fun _=>TP.bif (fun _=>TP.ret ⟨ae,fun _=>ae⟩) (fun e=>nomatch e))));exact TP.bind (TP.ce (TP.bind (TP.word fun w t h=>TP.bind (TP.b9 (fun u g=>TP.bind (TP.bif (fun _=>a.jF .aZ fun ks v q=>b ae) (fun e=>nomatch e))) (fun _=>TP.bind (TP.bif (fun e=>nomatch e) (fun _=>TP.ret (b h))))))))
theorem X6(a:fG L fin aI wide f)(b:24*left L s+ap.loop.eX<=f+1):TP (P L fin aI wide (f+1) .loop) s (fd L .loop s):=by
 rw[P];exact TP.bind (TP.get (TP.bind (TP.set (L:=L) (by simp[*]) fun t h=>TP.bind (a.fk (.ci false) fun k u g=>TP.bind (TP.get (TP.bind (TP.set (L:=L) (by simp[*]) fun v q=>TP.ret ⟨ae,fun _=>ae⟩)))))))
theorem XZ(d:fG L fin aI wide f)(pos:Int)(i:24*left L s+(ap.choose pos).eX<=f+1):TP (P L fin aI wide (f+1) (.choose pos)) s (fd L (.choose pos) s):=by
 rw[P];exact TP.bind (d.fk .paren fun c t h=>TP.bind (TP.bV fun u g=>TP.bind (TP.get (TP.bind (TP.set (L:=L) (by simp[*]) fun v q=>TP.bind (d.jF (.d8 [c] false) fun ks y z=>TP.bind (TP.get (TP.bind (TP.set (L:=L) (by simp[*]) fun a b=>TP.cZ (L:=L) fun k w e=>⟨ae,fun _=>ae⟩)))))))))
theorem X2(i:fG L fin aI wide f)(pos:Int)(A:24*left L s+(ap.di pos).eX<=f+1):TP (P L fin aI wide (f+1) (.di pos)) s (fd L (.di pos) s):=by
 rw[P];have key:∀{t:al}{B:Bool},left L t<left L s->TP (bif B then iJ L fin else one (P L fin aI wide f .aZ)) t fun _ u=>left L u<left L s:=fun{t B}h=>TP.bif (fun _=>TP.empty (L:=L) fun k u g=>ae) (fun _=>i.fk .aZ fun k u g=>ae);have l:∀{t:al}{B C:Bool},left L t<left L s->(B=true->t.i<L.length)->TP (bif B then one (P L fin aI wide f .vars) else bif C then iJ L fin else e9 L fin>>=fun x=>one (P L fin aI wide f .aZ)>>=fun e=>db ⟨20,.empty,0,[e],x.pos⟩) t fun _ u=>left L u<left L s:=fun{t B C}h j=>TP.bif (fun e=>i.fk .vars (fun k u g=>ae) (hn:=j e)) (fun _=>TP.bif (fun _=>TP.empty (L:=L) fun k u g=>ae) (fun _=>TP.bind (TP.ce (TP.bind (i.fk .aZ fun e u g=>TP.node (L:=L) fun k v q=>ae)))));refine TP.bind (TP.bV fun t h=>TP.bind (TP.get ?_));dsimp only;refine TP.bif (fun _=>?_) (fun _=>?_)
 ·exact TP.bind (TP.set (L:=L) (by grind) fun u g=>TP.bind (i.fk .aZ fun e v q=>TP.bind (TP.bV fun w r=>TP.bind (i.fk .loop fun b y z=>TP.cZ (L:=L) fun k x e=>⟨ae,fun _=>ae⟩))))
 ·refine TP.bind (TP.mono (l h fun e=>iZ (t:=lk) (by revert e;cases bc L t 0 lk <;> intro e <;> first|rfl|cases e)) fun a u g=>TP.bind (TP.bV fun v q=>TP.bind (TP.mf fun b _=>TP.bind (TP.mono (key ae) fun c w r=>TP.bind (TP.bV fun y z=>TP.bind (TP.mf fun b _=>TP.bind (TP.mono (key ae) fun d aa bb=>TP.bind (TP.bV fun m n=>TP.bind (i.fk .loop fun b o p=>TP.cZ (L:=L) fun k x e=>⟨ae,fun _=>ae⟩)))))))))
theorem Yg(a:fG L fin aI wide f)(pos:Int)(l:24*left L s+(ap.dy pos).eX<=f+1):TP (P L fin aI wide (f+1) (.dy pos)) s (fd L (.dy pos) s):=by
 rw[P];have d:∀{t:al}{x:Bool->List Int->cj},left L t<left L s->TP (cH L oQ>>=fun h=>(bif h then P L fin aI wide f (.block false) else ret [])>>=fun fs=>cg (x h fs)) t (fd L (.dy pos) s):=fun{t x}h=>TP.bind (TP.b9 (fun u g=>TP.bind (TP.bif (fun _=>a.jF (.block false) fun fs v q=>TP.cZ (L:=L) fun k w e=>⟨ae,fun _=>ae⟩) (fun e=>nomatch e))) (fun _=>TP.bind (TP.bif (fun e=>nomatch e) (fun _=>TP.ret (TP.cZ (L:=L) fun k w e=>⟨ae,fun _=>ae⟩)))));refine TP.bind (a.fk (.block false) fun b t h=>TP.bind (TP.b9 (fun u g=>TP.bind (TP.bif (fun _=>?_) (fun e=>nomatch e))) (fun _=>TP.bind (TP.bif (fun e=>nomatch e) (fun _=>TP.ret ?_)))))
 ·refine TP.bind (TP.bV fun v q=>TP.bind (TP.word fun w y z=>TP.bind (TP.bV fun aa bb=>TP.bind (a.fk (.block false) fun c i j=>TP.ret ?_))));exact TP.bind (TP.get (TP.bind (TP.bif (fun _=>TP.dI) (fun _=>TP.ret (d (x:=fun h fs=>⟨34-2,w,bif true then (bif h then vh else kZ) else vi,[b]++[c]++fs,pos⟩) ae)))))
 ·exact TP.bind (TP.get (TP.bind (TP.bif (fun _=>TP.dI) (fun _=>TP.ret (d (x:=fun h fs=>⟨34-2,.empty,bif false then (bif h then vh else kZ) else vi,[b]++[]++fs,pos⟩) h)))))
theorem Yf(a:fG L fin aI wide f)(aJ:List Int)(seen:Bool)(i:24*left L s+(ap.d8 aJ seen).eX<=f+1):TP (P L fin aI wide (f+1) (.d8 aJ seen)) s (fd L (.d8 aJ seen) s):=by
 rw[P];have c:∀{t:al}{ks:List Int}{x:List Int->cj}{b:Bool},left L t<left L s->TP (cr L fin colon>>=fun _=>P L fin aI wide f (.ek ks)>>=fun all=>db (x all)>>=fun k=>P L fin aI wide f (.d8 (aJ++[k]) b)) t (fd L (.d8 aJ seen) s):=fun{t ks x b}h=>TP.bind (TP.bV fun u g=>TP.bind (a.call (.ek ks) fun all v q _=>TP.bind (TP.node (L:=L) fun k w r=>a.jF (.d8 (aJ++[k]) b) fun ks y z=>⟨ae,fun _=>ae⟩)));exact TP.bind (TP.b9 (fun t h=>TP.bif (fun _=>TP.ret ⟨ae,fun _=>ae⟩) (fun e=>nomatch e)) (fun _=>TP.bif (fun e=>nomatch e) (fun _=>TP.bind (TP.ce (TP.bind (TP.b9 (fun t h=>TP.bind (TP.bif (fun _=>a.jF .aZ fun ks u g=>c (x:=fun all=>⟨34,.empty,_,all,_⟩) ae) (fun e=>nomatch e))) (fun _=>TP.bind (TP.bif (fun e=>nomatch e) (fun _=>TP.bind (TP.mf fun b d=>TP.bif (fun e=>TP.bind (TP.step (L:=L) (iZ (t:=qI) (by rw[<-d];cases b <;> first|rfl|cases e)) fun t h=>TP.ret (c (x:=fun all=>⟨34,.empty,_,all,_⟩) h))) (fun _=>TP.dI)))))))))))
theorem Yc(a:fG L fin aI wide f)(x:bh)(hn:s.i<L.length)(b:24*left L s+(ap.simple x).eX<=f+1):TP (P L fin aI wide (f+1) (.simple x)) s (fd L (.simple x) s):=by
 rw[P];refine TP.bind (TP.get (TP.bind (TP.mono (Q:=fun _ t=>t=s) (TP.bif (fun _=>TP.ret rfl) (fun _=>TP.bif (fun _=>TP.ret rfl) (fun _=>TP.bif (fun _=>TP.ret rfl) (fun _=>TP.bif (fun _=>TP.ret rfl) (fun _=>TP.dI))))) fun kind t e=>?_)));subst e;exact TP.bind (TP.step (L:=L) hn fun u g=>TP.bind (TP.ce (TP.bind (TP.get (TP.bind (TP.bif (fun _=>TP.dI) (fun _=>TP.ret (TP.bind (TP.bif (fun _=>a.jF .aZ fun ks v q=>TP.bind (TP.pK fun w r=>TP.cZ (L:=L) fun k y e=>⟨ae,fun _=>ae⟩)) (fun _=>TP.ret (TP.bind (TP.pK fun w r=>TP.cZ (L:=L) fun k y e=>⟨ae,fun _=>ae⟩))))))))))))
theorem Yd(d:fG L fin aI wide f)(body:Bool)(j:24*left L s+(ap.ci body).eX<=f+1):TP (P L fin aI wide (f+1) (.ci body)) s (fd L (.ci body) s):=by
 rw[P];have plain:TP (one (P L fin aI wide f .aZ)>>=fun e=>dP L fin>>=fun _=>cg ⟨20,.empty,0,[e],(aB L fin s).pos⟩) s (fd L (.ci body) s):=TP.bind (d.fk .aZ fun e t h=>TP.bind (TP.pK fun u g=>TP.cZ (L:=L) fun k w r=>⟨ae,fun _=>ae⟩));refine TP.bind (TP.ce (TP.bind (TP.get (TP.bif (fun _=>d.jF (.block false) fun ks t h=>⟨ae,fun _=>ae⟩) (fun _=>TP.bif (fun hk=>?_) (fun _=>?_))))))
 ·have hi:=iZ hk;exact TP.bind (TP.bind (TP.ce (ZM (L:=L) fun k t i h=>TP.bind (TP.step (L:=L) ae fun u g=>TP.ret ⟨ae,fun _=>ae⟩))))
 dsimp only;refine TP.bif (fun hk=>?_) (fun _=>plain);have hi:s.i<L.length:=(iX (fin:=fin) (fun e=>by rw[e]at hk;cases hk));refine TP.bif (fun _=>?_) (fun _=>TP.bif (fun _=>?_) (fun _=>TP.bif (fun _=>?_) (fun _=>TP.bif (fun _=>?_) (fun _=>TP.bif (fun _=>?_) (fun _=>TP.bif (fun _=>?_) (fun _=>TP.bif (fun _=>?_) (fun _=>TP.bif (fun _=>?_) (fun _=>plain))))))))
 ·exact TP.bind (d.fk .vars (fun k t h=>TP.bind (TP.pK fun u g=>TP.ret ⟨ae,fun _=>ae⟩)) (hn:=hi))
 ·exact d.jF (.simple _) (fun ks t h=>⟨ae,fun _=>ae⟩) (hn:=hi)
 ·exact TP.bif (fun _=>TP.dI) (fun _=>d.jF (.func 35) (fun ks t h=>⟨ae,fun _=>ae⟩) (hn:=hi))
 ·exact TP.bind (TP.step (L:=L) hi fun t h=>TP.bind (d.fk .paren fun c u g=>TP.bind (d.fk (.ci false) fun a v q=>TP.bind (TP.b9 (fun w r=>TP.bind (TP.bif (fun _=>d.jF (.ci false) fun ks y z=>TP.cZ (L:=L) fun k x e=>⟨ae,fun _=>ae⟩) (fun e=>nomatch e))) (fun _=>TP.bind (TP.bif (fun e=>nomatch e) (fun _=>TP.ret (TP.cZ (L:=L) fun k x e=>⟨ae,fun _=>ae⟩))))))))
 ·exact TP.bind (TP.step (L:=L) hi fun t h=>TP.bind (d.fk .paren fun c u g=>TP.bind (d.fk .loop fun b v q=>TP.cZ (L:=L) fun k x e=>⟨ae,fun _=>ae⟩)))
 ·exact TP.bind (TP.step (L:=L) hi fun t h=>d.jF (.di _) fun ks u g=>⟨ae,fun _=>ae⟩)
 ·exact TP.bind (TP.step (L:=L) hi fun t h=>d.jF (.dy _) fun ks u g=>⟨ae,fun _=>ae⟩)
 ·exact TP.bind (TP.step (L:=L) hi fun t h=>d.jF (.choose _) fun ks u g=>⟨ae,fun _=>ae⟩)
theorem K5:∀f,fG L fin aI wide f
 |0=>fun tag s _ a=>by
  exfalso;have:1<=tag.eX:=by cases tag <;> simp only[ap.eX] <;> omega
  omega
 |f+1=>fun tag s hn a=>by
  have b:=K5 f;cases tag with
  |aZ=>exact X1 b a
  |cond=>exact X0 b a
  |level n=>exact X4 b n hn a
  |fM n c=>exact X5 b n c hn a
  |unary=>exact Yh b a
  |dD=>exact XU b a
  |suffix=>exact Ye b a
  |dO k=>exact X_ b k a
  |dS aJ=>exact XX b aJ a
  |cR aJ=>exact XT b aJ a
  |cU aJ=>exact X7 b aJ a
  |dk=>exact Ya b a
  |func kind=>exact X3 b kind hn a
  |dt aJ=>exact X8 b aJ a
  |block body=>exact XV b body a
  |fC aJ body=>exact XW b aJ body a
  |paren=>exact X9 b a
  |vars=>exact Yj b hn a
  |dQ aJ=>exact Yi b aJ a
  |loop=>exact X6 b a
  |di pos=>exact X2 b pos a
  |dy pos=>exact Yg b pos a
  |choose pos=>exact XZ b pos a
  |d8 aJ seen=>exact Yf b aJ seen a
  |ek aJ=>exact XY b aJ a
  |simple x=>exact Yc b x hn a
  |ci body=>exact Yd b body a
  |prog aJ=>exact Yb b aJ a
end
end
section
open Go
def KP{α:Type}(m:PM α)(s:al)(Q:α->al->Prop):Prop:=∀a t,m s= .ok a t->Q a t
abbrev Dk(L:List bh)(k n:Nat)(s t:al):Prop:=t.i=s.i+k/\t.i<=L.length/\t.nodes.length=s.nodes.length+n/\t.bw=s.bw/\t.loops=s.loops/\t.bn=s.bn
def ap.sl:ap->Nat
 | .aZ| .cond| .level _| .unary| .dD| .suffix| .dk| .func _| .paren| .block _=>1
 |_=>0
def ap.sk:ap->Nat
 | .prog _=>1
 |_=>0
abbrev Kp(L:List bh)(tag:ap)(s t:al):Prop:=s.i<=t.i/\t.i<=L.length/\s.nodes.length<=t.nodes.length/\t.nodes.length+2*s.i+tag.sl<=s.nodes.length+2*t.i+tag.sk/\t.bw=s.bw/\t.loops=s.loops/\t.bn=s.bn
section
variable{α β:Type}{fin:Int}{L:List bh}{aI:Nat->ByteArray}{wide:ByteArray->ByteArray}{s:al}
theorem KP.bind{m:PM α}{f:α->PM β}{Q:β->al->Prop}(h:KP m s fun a t=>KP (f a) t Q):KP (m>>=f) s Q:=by
 intro b u e;have c:b0 m f s= .ok b u:=e;unfold b0 at c;cases d:m s with
 |ok a t=>rw[d]at c;exact h a t d b u c
 |stop p q t=>rw[d]at c;cases c
 |out=>rw[d]at c;cases c
theorem KP.mono{m:PM α}{Q R:α->al->Prop}(h:KP m s Q)(k:∀a t,Q a t->R a t):KP m s R:=fun a t e=>k a t (h a t e)
theorem KP.ret{a:α}{Q:α->al->Prop}(h:Q a s):KP (ret a) s Q:=fun b u e=>by cases e;exact h
variable{b:Bool}{T:ByteArray}{x:cj}{k:Int}{Q:Int->al->Prop}{f:Nat}
theorem KP.bif{m n:PM α}{Q:α->al->Prop}(a:b=true->KP m s Q)(c:b=false->KP n s Q):KP (bif b then m else n) s Q:=by
 grind
theorem KP.get{Q:al->al->Prop}(h:Q s s):KP ez s Q:=fun b u e=>by cases e;exact h
theorem KP.dN(h:∀p,Q p s):KP (dN k) s Q:=fun b u e=>by cases e;exact h _
theorem Yk{j:Nat}{Q:Unit->al->Prop}(hi:s.i+j<=L.length)(h:∀t,Dk L j 0 s t->Q () t):KP (ic {s with i:=s.i+j}) s Q:=fun b u e=>by
 cases e;exact h _ ⟨rfl,hi,rfl,rfl,rfl,rfl⟩
theorem Af{a b c:Int}{Q:Unit->al->Prop}(h:∀t:al,t.i=s.i/\t.nodes.length=s.nodes.length/\t.bw=a/\t.loops=b/\t.bn=c->Q () t):KP (ic {s with bw:=a,loops:=b,bn:=c}) s Q:=fun _ u e=>by
 cases e;exact h _ ⟨rfl,rfl,rfl,rfl,rfl⟩
theorem KP.node(hi:s.i<=L.length)(h:∀k t,Dk L 0 1 s t->Q k t):KP (db x) s Q:=fun b u e=>by
 cases e;exact h _ _ ⟨rfl,hi,aL,rfl,rfl,rfl⟩
theorem KP.cZ(hi:s.i<=L.length){Q:List Int->al->Prop}(h:∀k t,Dk L 0 1 s t->Q k t):KP (cg x) s Q:=fun b u e=>by
 cases e;exact h _ _ ⟨rfl,hi,aL,rfl,rfl,rfl⟩
theorem KP.step(hi:s.i<L.length){Q:Unit->al->Prop}(h:∀t,Dk L 1 0 s t->Q () t):KP eE s Q:=fun b u e=>by
 cases e;exact h _ ⟨rfl,hi,rfl,rfl,rfl,rfl⟩
theorem KP.ce{Q:bh->al->Prop}(h:Q (aB L fin s) s):KP (e9 L fin) s Q:=fun b u e=>by cases e;exact h
theorem KP.dI{Q:α->al->Prop}:KP (iU L fin) s Q:=fun b u e=>by cases e
theorem KP.b9{Q:Bool->al->Prop}(a:∀u,Dk L 1 0 s u->Q true u)(c:bc L s 0 T=false->Q false s):KP (cH L T) s Q:=fun b u e=>by
 unfold cH at e;cases hi:bc L s 0 T with
 |true=>rw[hi]at e;cases e;exact a _ ⟨rfl,iZ hi,rfl,rfl,rfl,rfl⟩
 |false=>rw[hi]at e;cases e;exact c hi
theorem KP.bV{Q:Unit->al->Prop}(a:∀u,Dk L 1 0 s u->Q () u):KP (cr L fin T) s Q:=fun b u e=>by
 unfold cr at e;cases hi:bc L s 0 T with
 |true=>rw[hi]at e;cases e;exact a _ ⟨rfl,iZ hi,rfl,rfl,rfl,rfl⟩
 |false=>rw[hi]at e;cases e
theorem KP.mf{a:Nat}{Q:Bool->al->Prop}(h:∀b,b=bc L s a T->Q b s):KP (iK L a T) s Q:=fun b u e=>by cases e;exact h _ rfl
theorem KP.j9{Q:Unit->al->Prop}(h:Q () s):KP (ka k b) s Q:=fun c u e=>by
 unfold ka at e;revert e;cases (ow s k !=8&&(ow s k !=9&&(ow s k !=3|| !b)))with
 |true=>intro e;cases e
 |false=>intro e;cases e;exact h
theorem KP.word{Q:ByteArray->al->Prop}(h:∀w t,Dk L 1 0 s t->Q w t):KP (gD L fin) s Q:=fun b u e=>by
 unfold gD at e;cases hk:(aB L fin s).kind !=1 with
 |true=>rw[hk]at e;cases e
 |false=>
  rw[hk]at e;cases e;exact h _ _ ⟨rfl,iX (fin:=fin) (fun a=>by rw[a]at hk;cases hk),rfl,rfl,rfl,rfl⟩
theorem CS(hi:s.i<=L.length){Q:Unit->al->Prop}(h:∀t,Dk L 0 0 s t\/Dk L 1 0 s t->Q () t):KP (dP L fin) s Q:=fun b u e=>by
 unfold dP at e;cases hs:bc L s 0 dm with
 |true=>rw[hs]at e;cases e;exact h _ (.inr ⟨rfl,iZ hs,rfl,rfl,rfl,rfl⟩)
 |false=>
  rw[hs]at e;revert e;rw[aM];cases (bc L s 0 rc||(decide (s.i>=L.length)||(aB L fin s).aD))with
  |true=>intro e;cases e;exact h _ (.inl ⟨rfl,hi,rfl,rfl,rfl,rfl⟩)
  |false=>intro e;cases e
theorem KP.key(h:∀k t,Dk L 1 1 s t->Q k t):KP (dW L fin aI wide) s Q:=fun b u e=>by
 have go:(aB L fin s).kind≠0->∀x k,Q k {s with i:=s.i+1,nodes:=s.nodes++[x]}:=fun hk x k=>h _ _ ⟨rfl,iX (fin:=fin) hk,aL,rfl,rfl,rfl⟩;unfold dW at e;dsimp only at e;revert e;cases c:(aB L fin s).kind==1||(aB L fin s).kind==2 with
 |true=>intro e;cases e;exact go (fun a=>by rw[a]at c;cases c) _ _
 |false=>
  cases d:(aB L fin s).kind==3 with
  |true=>intro e;cases e;exact go (fun a=>by rw[a]at d;cases d) _ _
  |false=>
   cases f:(aB L fin s).kind==4 with
   |true=>intro e;cases e;exact go (fun a=>by rw[a]at f;cases f) _ _
   |false=>intro e;cases e
theorem KP.empty(hi:s.i<=L.length)(h:∀k t,Dk L 0 1 s t->Q k t):KP (iJ L fin) s Q:=KP.bind (KP.ce (KP.node hi h))
def fe(L:List bh)(fin:Int)(aI:Nat->ByteArray)(wide:ByteArray->ByteArray)(f:Nat):Prop:=
 ∀(tag:ap)(s:al),s.i<=L.length->tag.ct L s->KP (P L fin aI wide f tag) s fun _ t=>Kp L tag s t
abbrev KE(L:List bh)(s t:al):Prop:=s.i<=t.i/\t.i<=L.length/\s.nodes.length<=t.nodes.length/\t.nodes.length+2*s.i+1<=s.nodes.length+2*t.i/\t.bw=s.bw/\t.loops=s.loops/\t.bn=s.bn
abbrev KS(L:List bh)(s t:al):Prop:=s.i<=t.i/\t.i<=L.length/\s.nodes.length<=t.nodes.length/\t.nodes.length+2*s.i<=s.nodes.length+2*t.i/\t.bw=s.bw/\t.loops=s.loops/\t.bn=s.bn
theorem KP.one{m:PM (List Int)}(h:KP m s fun a t=>Q (a.headD 0) t):KP (one m) s Q:=KP.bind (m:=m) (f:=fun l=>Go.Proofs.YtdkchodgklpomaaGreatDoor.ret (l.headD 0)) (h.mono fun _ _ q=>KP.ret q)
theorem fe.e1(c:fe L fin aI wide f)(tag:ap)(k:∀k t,KE L s t->Q k t)(hi:s.i<=L.length:=by omega)(hn:tag.ct L s:=by trivial)(a:tag.sl=1:=by rfl)(b:tag.sk=0:=by rfl):KP (one (P L fin aI wide f tag)) s Q:=
 KP.one ((c tag s hi hn).mono fun ks t h=>k _ t (by unfold Kp at h;rw[a,b]at h;exact h))
theorem fe.s1(c:fe L fin aI wide f)(tag:ap)(k:∀k t,KS L s t->Q k t)(hi:s.i<=L.length:=by omega)(hn:tag.ct L s:=by trivial)(a:tag.sl=0:=by rfl)(b:tag.sk=0:=by rfl):KP (one (P L fin aI wide f tag)) s Q:=
 KP.one ((c tag s hi hn).mono fun ks t h=>k _ t (by unfold Kp at h;rw[a,b]at h;exact h))
theorem fe.re(c:fe L fin aI wide f)(tag:ap){Q:List Int->al->Prop}(k:∀k t,KE L s t->Q k t)(hi:s.i<=L.length:=by omega)(hn:tag.ct L s:=by trivial)(a:tag.sl=1:=by rfl)(b:tag.sk=0:=by rfl):KP (P L fin aI wide f tag) s Q:=
 (c tag s hi hn).mono fun ks t h=>k _ t (by unfold Kp at h;rw[a,b]at h;exact h)
theorem fe.rs(c:fe L fin aI wide f)(tag:ap){Q:List Int->al->Prop}(k:∀k t,KS L s t->Q k t)(hi:s.i<=L.length:=by omega)(hn:tag.ct L s:=by trivial)(a:tag.sl=0:=by rfl)(b:tag.sk=0:=by rfl):KP (P L fin aI wide f tag) s Q:=
 (c tag s hi hn).mono fun ks t h=>k _ t (by unfold Kp at h;rw[a,b]at h;exact h)
theorem Yt(a:fe L fin aI wide f)(hi:s.i<=L.length):KP (P L fin aI wide (f+1) .aZ) s fun _ t=>Kp L .aZ s t:=by
 rw[P];refine KP.bind (a.e1 .cond fun k t h=>KP.bind (KP.ce (KP.bif (fun _=>KP.ret (by dsimp only[Kp,ap.sl,ap.sk];omega)) (fun hk=>KP.bind (KP.j9 (KP.bind (KP.step (L:=L) (iX (fin:=fin) ?_) fun u g=>KP.bind (a.e1 .aZ fun r v q=>KP.bind (KP.dN fun p=>KP.cZ (L:=L) ae fun k w e=>(by dsimp only[Kp,ap.sl,ap.sk];omega))))))))));grind
theorem Ys(d:fe L fin aI wide f)(hi:s.i<=L.length):KP (P L fin aI wide (f+1) .cond) s fun _ t=>Kp L .cond s t:=by
 rw[P];exact KP.bind (d.e1 (.level 0) (hn:=df _) fun c t h=>KP.bind (KP.b9 (fun u g=>KP.bif (fun e=>nomatch e) (fun _=>KP.bind (d.e1 .aZ fun a v q=>KP.bind (KP.bV fun w e=>KP.bind (d.e1 .aZ fun b y z=>KP.bind (KP.dN fun p=>KP.cZ (L:=L) ae fun k w e=>(by dsimp only[Kp,ap.sl,ap.sk];omega))))))) (fun _=>KP.bif (fun _=>KP.ret (by dsimp only[Kp,ap.sl,ap.sk];omega)) (fun e=>nomatch e))))
theorem YK(a:fe L fin aI wide f)(hi:s.i<=L.length):KP (P L fin aI wide (f+1) .unary) s fun _ t=>Kp L .unary s t:=by
 rw[P];refine KP.bind (KP.ce (KP.bif (fun _=>a.re .dD fun ks t h=>(by dsimp only[Kp,ap.sl,ap.sk];omega)) (fun hk=>?_)));have hi:s.i<L.length:=iX (fin:=fin) (fun e=>by rw[e]at hk;cases hk);exact KP.bif (fun _=>KP.bind (KP.step (L:=L) hi fun t h=>KP.bind (a.e1 .unary fun k u g=>KP.bind (KP.bif (fun _=>KP.j9 (KP.cZ (L:=L) ae fun k w e=>(by dsimp only[Kp,ap.sl,ap.sk];omega))) (fun _=>KP.ret (KP.cZ (L:=L) ae fun k w e=>(by dsimp only[Kp,ap.sl,ap.sk];omega))))))) (fun _=>KP.bif (fun _=>KP.bind (KP.step (L:=L) hi fun t h=>KP.bind (a.e1 .unary fun k u g=>KP.bind (KP.j9 (KP.cZ (L:=L) ae fun k w e=>(by dsimp only[Kp,ap.sl,ap.sk];omega)))))) (fun _=>a.re .dD fun ks t h=>(by dsimp only[Kp,ap.sl,ap.sk];omega)))
theorem Ym(a:fe L fin aI wide f)(hi:s.i<=L.length):KP (P L fin aI wide (f+1) .dD) s fun _ t=>Kp L .dD s t:=by
 rw[P];refine KP.bind (a.e1 .suffix fun k t h=>KP.bind (KP.ce (KP.bif (fun _=>KP.ret (by dsimp only[Kp,ap.sl,ap.sk];omega)) (fun hk=>KP.bind (KP.j9 (KP.bind (KP.step (L:=L) (iX (fin:=fin) ?_) fun u g=>KP.bind (KP.dN fun p=>KP.cZ (L:=L) ae fun k w e=>(by dsimp only[Kp,ap.sl,ap.sk];omega)))))))));grind
theorem YH(a:fe L fin aI wide f)(hi:s.i<=L.length):KP (P L fin aI wide (f+1) .suffix) s fun _ t=>Kp L .suffix s t:=by
 rw[P];exact KP.bind (a.e1 .dk fun k t h=>a.rs (.dO k) fun ks u g=>(by dsimp only[Kp,ap.sl,ap.sk];omega))
theorem Yp(a:fe L fin aI wide f)(aJ:List Int)(hi:s.i<=L.length):KP (P L fin aI wide (f+1) (.dS aJ)) s fun _ t=>Kp L (.dS aJ) s t:=by
 rw[P];have d1:∀{t:al},KS L s t->KP (one (P L fin aI wide f .aZ)>>=fun e=>P L fin aI wide f (.dS (aJ++[e]))) t fun _ t=>Kp L (.dS aJ) s t:=fun{t}h=>KP.bind (a.e1 .aZ fun e u g=>a.rs (.dS (aJ++[e])) fun ks v q=>(by dsimp only[Kp,ap.sl,ap.sk];omega));exact KP.bind (KP.b9 (fun t h=>KP.bif (fun _=>KP.ret (by dsimp only[Kp,ap.sl,ap.sk];omega)) (fun e=>nomatch e)) (fun _=>KP.bif (fun e=>nomatch e) (fun _=>KP.bind (KP.bif (fun _=>KP.bV fun t h=>d1 ae) (fun _=>KP.ret (d1 ae))))))
theorem Yl(a:fe L fin aI wide f)(aJ:List Int)(hi:s.i<=L.length):KP (P L fin aI wide (f+1) (.cR aJ)) s fun _ t=>Kp L (.cR aJ) s t:=by
 rw[P];exact KP.bind (KP.b9 (fun t h=>KP.bif (fun _=>KP.ret (by dsimp only[Kp,ap.sl,ap.sk];omega)) (fun e=>nomatch e)) (fun _=>KP.bif (fun e=>nomatch e) (fun _=>KP.bind (a.e1 .aZ fun e u g=>KP.bind (KP.mf fun b _=>KP.bind (KP.bif (fun _=>KP.bV fun t h=>a.rs (.cR (aJ++[e])) fun ks v q=>(by dsimp only[Kp,ap.sl,ap.sk];omega)) (fun _=>KP.ret (a.rs (.cR (aJ++[e])) fun ks v q=>(by dsimp only[Kp,ap.sl,ap.sk];omega)))))))))
theorem Yz(a:fe L fin aI wide f)(aJ:List Int)(hi:s.i<=L.length):KP (P L fin aI wide (f+1) (.cU aJ)) s fun _ t=>Kp L (.cU aJ) s t:=by
 rw[P];exact KP.bind (KP.b9 (fun t h=>KP.bif (fun _=>KP.ret (by dsimp only[Kp,ap.sl,ap.sk];omega)) (fun e=>nomatch e)) (fun _=>KP.bif (fun e=>nomatch e) (fun _=>KP.bind (KP.key fun k t h=>KP.bind (KP.bV fun u g=>KP.bind (a.e1 .aZ fun e v q=>KP.bind (KP.mf fun b _=>KP.bind (KP.bif (fun _=>KP.bV fun t h=>a.rs (.cU (aJ++[k]++[e])) fun ks v q=>(by dsimp only[Kp,ap.sl,ap.sk];omega)) (fun _=>KP.ret (a.rs (.cU (aJ++[k]++[e])) fun ks v q=>(by dsimp only[Kp,ap.sl,ap.sk];omega)))))))))))
theorem YB(a:fe L fin aI wide f)(hi:s.i<=L.length):KP (P L fin aI wide (f+1) .paren) s fun _ t=>Kp L .paren s t:=by
 rw[P];exact KP.bind (KP.bV fun t h=>KP.bind (a.e1 .aZ fun k u g=>KP.bind (KP.bV fun v q=>KP.ret (by dsimp only[Kp,ap.sl,ap.sk];omega))))
theorem Yn(a:fe L fin aI wide f)(body:Bool)(hi:s.i<=L.length):KP (P L fin aI wide (f+1) (.block body)) s fun _ t=>Kp L (.block body) s t:=by
 rw[P];exact KP.bind (KP.ce (KP.bind (KP.bV fun t h=>KP.bind (a.rs (.fC [] body) fun ks u g=>KP.cZ (L:=L) ae fun k w e=>(by dsimp only[Kp,ap.sl,ap.sk];omega)))))
theorem Yo(a:fe L fin aI wide f)(aJ:List Int)(body:Bool)(hi:s.i<=L.length):KP (P L fin aI wide (f+1) (.fC aJ body)) s fun _ t=>Kp L (.fC aJ body) s t:=by
 rw[P];exact KP.bind (KP.b9 (fun t h=>KP.bif (fun _=>KP.ret (by dsimp only[Kp,ap.sl,ap.sk];omega)) (fun e=>nomatch e)) (fun _=>KP.bif (fun e=>nomatch e) (fun _=>KP.bind (a.s1 (.ci body) fun k t h=>a.rs (.fC (aJ++[k]) body) fun ks u g=>(by dsimp only[Kp,ap.sl,ap.sk];omega)))))
theorem Yq(a:fe L fin aI wide f)(aJ:List Int)(hi:s.i<=L.length):KP (P L fin aI wide (f+1) (.ek aJ)) s fun _ t=>Kp L (.ek aJ) s t:=by
 rw[P];exact KP.bind (KP.get (KP.bif (fun _=>KP.bind (a.s1 (.ci false) fun k t h=>a.rs (.ek (aJ++[k])) fun ks u g=>(by dsimp only[Kp,ap.sl,ap.sk];omega))) (fun _=>KP.ret (by dsimp only[Kp,ap.sl,ap.sk];omega))))
theorem YE(a:fe L fin aI wide f)(aJ:List Int)(hi:s.i<=L.length):KP (P L fin aI wide (f+1) (.prog aJ)) s fun _ t=>Kp L (.prog aJ) s t:=by
 rw[P];exact KP.bind (KP.get (KP.bif (fun _=>KP.bind (a.s1 (.ci true) fun k t h=>(a (.prog (aJ++[k])) t ae trivial).mono fun ks u g=>by dsimp only[Kp,ap.sl,ap.sk]at g⊢;omega)) (fun _=>KP.cZ (L:=L) hi fun k w e=>(by dsimp only[Kp,ap.sl,ap.sk];omega))))
theorem YA(a:fe L fin aI wide f)(aJ:List Int)(hi:s.i<=L.length):KP (P L fin aI wide (f+1) (.dt aJ)) s fun _ t=>Kp L (.dt aJ) s t:=by
 rw[P];have d1:∀{t:al},KS L s t->KP (e9 L fin>>=fun x=>gD L fin>>=fun w=>db ⟨3,w,0,[],x.pos⟩>>=fun k=>P L fin aI wide f (.dt (aJ++[k]))) t fun _ t=>Kp L (.dt aJ) s t:=fun{t}h=>KP.bind (KP.ce (KP.bind (KP.word fun w u g=>KP.bind (KP.node (L:=L) ae fun k v q=>a.rs (.dt (aJ++[k])) fun ks y z=>(by dsimp only[Kp,ap.sl,ap.sk];omega)))));exact KP.bind (KP.b9 (fun t h=>KP.bif (fun _=>KP.ret (by dsimp only[Kp,ap.sl,ap.sk];omega)) (fun e=>nomatch e)) (fun _=>KP.bif (fun e=>nomatch e) (fun _=>KP.bind (KP.bif (fun _=>KP.bV fun t h=>d1 ae) (fun _=>KP.ret (d1 ae))))))
theorem Yw(a:fe L fin aI wide f)(n:Nat)(hn:n<=10)(hi:s.i<=L.length):KP (P L fin aI wide (f+1) (.level n)) s fun _ t=>Kp L (.level n) s t:=by
 rw[P];refine KP.bif (fun _=>a.re .unary fun ks t h=>(by dsimp only[Kp,ap.sl,ap.sk];omega)) (fun e=>?_);have hn:n+1<=10:=by
  grind
 exact KP.bind (a.e1 (.level (n+1)) (hn:=hn) fun k t h=>a.rs (.fM n k) (hn:=by show n<=9;omega) fun ks u g=>(by dsimp only[Kp,ap.sl,ap.sk];omega))
theorem Yx(a:fe L fin aI wide f)(n:Nat)(b:Int)(hn:n<=9)(hi:s.i<=L.length):KP (P L fin aI wide (f+1) (.fM n b)) s fun _ t=>Kp L (.fM n b) s t:=by
 rw[P];refine KP.bind (KP.ce (KP.bif (fun _=>KP.ret (by dsimp only[Kp,ap.sl,ap.sk];omega)) (fun hk=>KP.bind (KP.step (L:=L) (iX (fin:=fin) ?_) fun t h=>KP.bind (a.e1 (.level (n+1)) (hn:=by show n+1<=10;omega) fun r u g=>KP.bind (KP.dN fun p=>KP.bind (KP.node (L:=L) ae fun k v q=>a.rs (.fM n k) (hn:=hn) fun ks y z=>(by dsimp only[Kp,ap.sl,ap.sk];omega))))))));intro e;rw[e]at hk;cases hk
theorem YC(b:fe L fin aI wide f)(a:Int)(hi:s.i<=L.length):KP (P L fin aI wide (f+1) (.dO a)) s fun _ t=>Kp L (.dO a) s t:=by
 rw[P];have c:∀{t:al}{x:cj},t.i<=L.length/\s.i<=t.i/\s.nodes.length<=t.nodes.length/\t.nodes.length+2*s.i+1<=s.nodes.length+2*t.i/\t.bw=s.bw/\t.loops=s.loops/\t.bn=s.bn->KP (db x>>=fun m=>P L fin aI wide f (.dO m)) t fun _ t=>Kp L (.dO a) s t:=fun{t x}h=>KP.bind (KP.node (L:=L) ae fun k u g=>b.rs (.dO k) fun ks v q=>(by dsimp only[Kp,ap.sl,ap.sk];omega));refine KP.bind (KP.b9 (fun t h=>KP.bif (fun _=>?_) (fun e=>nomatch e)) (fun _=>KP.bif (fun e=>nomatch e) (fun _=>KP.bind (KP.b9 (fun t h=>KP.bif (fun _=>?_) (fun e=>nomatch e)) (fun _=>KP.bif (fun e=>nomatch e) (fun _=>KP.bind (KP.b9 (fun t h=>KP.bif (fun _=>?_) (fun e=>nomatch e)) (fun _=>KP.bif (fun e=>nomatch e) (fun _=>KP.ret (by dsimp only[Kp,ap.sl,ap.sk];omega))))))))))
 ·refine KP.bind (KP.ce (KP.bind (KP.bif (fun _=>KP.dI) (fun hk=>KP.ret (KP.bind (KP.step (L:=L) (iX (fin:=fin) ?_) fun u g=>KP.bind (KP.dN fun p=>c ae)))))));intro e;rw[e]at hk;cases hk
 ·exact KP.bind (b.e1 .aZ fun e u g=>KP.bind (KP.bV fun v q=>KP.bind (KP.dN fun p=>c ae)))
 ·exact KP.bind (b.rs (.dS [a]) fun e u g=>KP.bind (KP.dN fun p=>c ae))
theorem YD(b:fe L fin aI wide f)(hi:s.i<=L.length):KP (P L fin aI wide (f+1) .dk) s fun _ t=>Kp L .dk s t:=by
 rw[P];have a:∀{x:cj},s.i<L.length->KP (eE>>=fun _=>cg x) s fun _ t=>Kp L .dk s t:=fun{x}h=>KP.bind (KP.step (L:=L) h fun t g=>KP.cZ (L:=L) ae fun k w e=>(by dsimp only[Kp,ap.sl,ap.sk];omega));refine KP.bind (KP.ce (KP.bif (fun hk=>a (iX (fin:=fin) fun e=>by rw[e]at hk;cases hk)) (fun _=>KP.bif (fun hk=>a (iX (fin:=fin) fun e=>by rw[e]at hk;cases hk)) (fun _=>KP.bif (fun hk=>a (iX (fin:=fin) fun e=>by rw[e]at hk;cases hk)) (fun _=>KP.bind (KP.get (KP.bif (fun hk=>a ?_) (fun _=>KP.bif (fun hk=>b.re (.func 7) (hn:=iZ hk) fun ks t h=>(by dsimp only[Kp,ap.sl,ap.sk];omega)) (fun _=>KP.bind (KP.b9 (fun t h=>KP.bif (fun _=>?_) (fun e=>nomatch e)) (fun _=>KP.bif (fun e=>nomatch e) (fun _=>KP.bind (KP.b9 (fun t h=>KP.bif (fun _=>?_) (fun e=>nomatch e)) (fun _=>KP.bif (fun e=>nomatch e) (fun _=>KP.bind (KP.b9 (fun t h=>KP.bif (fun _=>?_) (fun e=>nomatch e)) (fun _=>KP.bif (fun e=>nomatch e) (fun _=>KP.dI))))))))))))))))))
 ·rw[Bool.or_eq_true,Bool.or_eq_true]at hk;rcases hk with h|h|h <;> exact iZ h
 ·exact KP.bind (b.e1 .aZ fun k u g=>KP.bind (KP.bV fun v q=>KP.ret (by dsimp only[Kp,ap.sl,ap.sk];omega)))
 ·exact KP.bind (b.rs (.cR []) fun ks u g=>KP.cZ (L:=L) ae fun k w e=>(by dsimp only[Kp,ap.sl,ap.sk];omega))
 ·exact KP.bind (b.rs (.cU []) fun ks u g=>KP.cZ (L:=L) ae fun k w e=>(by dsimp only[Kp,ap.sl,ap.sk];omega))
theorem Yv(a:fe L fin aI wide f)(kind:Int)(hn:s.i<L.length):KP (P L fin aI wide (f+1) (.func kind)) s fun _ t=>Kp L (.func kind) s t:=by
 rw[P];have j:∀{t:al}{op:ByteArray}{pos:Int},t.i<=L.length/\s.i+1<=t.i/\t.nodes.length=s.nodes.length/\t.bw=s.bw/\t.loops=s.loops/\t.bn=s.bn->KP (cr L fin lp>>=fun _=>P L fin aI wide f (.dt [])>>=fun i=>ez>>=fun s=>ic {s with bw:=s.bw+1,loops:=0,bn:=0}>>=fun _=>one (P L fin aI wide f (.block true))>>=fun b=>ez>>=fun t=>ic {t with bw:=t.bw-1,loops:=s.loops,bn:=s.bn}>>=fun _=>cg ⟨kind,op,0,i++[b],pos⟩) t fun _ t=>Kp L (.func kind) s t:=fun{t op pos}h=>KP.bind (KP.bV fun u g=>KP.bind (a.rs (.dt []) fun i v q=>KP.bind (KP.get (KP.bind (Af fun y z=>KP.bind (a.e1 (.block true) fun b w r=>KP.bind (KP.get (KP.bind (Af fun c d=>KP.cZ (L:=L) ae fun k l e=>(by dsimp only[Kp,ap.sl,ap.sk];omega))))))))));exact KP.bind (KP.ce (KP.bind (KP.step (L:=L) hn fun t h=>KP.bind (KP.get (KP.bind (KP.bif (fun _=>KP.word fun w u g=>j ae) (fun _=>KP.ret (j ae))))))))
theorem YM(a:fe L fin aI wide f)(hn:s.i<L.length):KP (P L fin aI wide (f+1) .vars) s fun _ t=>Kp L .vars s t:=by
 rw[P];exact KP.bind (KP.ce (KP.bind (KP.step (L:=L) hn fun t h=>KP.bind (a.rs (.dQ []) fun ks u g=>KP.cZ (L:=L) ae fun k w e=>(by dsimp only[Kp,ap.sl,ap.sk];omega)))))
theorem YL(a:fe L fin aI wide f)(aJ:List Int)(hi:s.i<=L.length):KP (P L fin aI wide (f+1) (.dQ aJ)) s fun _ t=>Kp L (.dQ aJ) s t:=by
 rw[P];have b:∀{t:al}{x:cj},t.i<=L.length/\s.i+1<=t.i/\s.nodes.length<=t.nodes.length/\t.nodes.length+2*s.i+1<=s.nodes.length+2*t.i/\t.bw=s.bw/\t.loops=s.loops/\t.bn=s.bn->KP (db x>>=fun k=>cH L oj>>=fun h=>bif !h then ret (aJ++[k]) else P L fin aI wide f (.dQ (aJ++[k]))) t fun _ t=>Kp L (.dQ aJ) s t:=fun{t x}h=>KP.bind (KP.node (L:=L) ae fun k u g=>KP.bind (KP.b9 (fun v q=>KP.bif (fun e=>nomatch e) (fun _=>a.rs (.dQ (aJ++[k])) fun ks y z=>(by dsimp only[Kp,ap.sl,ap.sk];omega))) (fun _=>KP.bif (fun _=>KP.ret (by dsimp only[Kp,ap.sl,ap.sk];omega)) (fun e=>nomatch e))));exact KP.bind (KP.ce (KP.bind (KP.word fun w t h=>KP.bind (KP.b9 (fun u g=>KP.bind (KP.bif (fun _=>a.re .aZ fun ks v q=>b ae) (fun e=>nomatch e))) (fun _=>KP.bind (KP.bif (fun e=>nomatch e) (fun _=>KP.ret (b ae))))))))
theorem Yy(a:fe L fin aI wide f)(hi:s.i<=L.length):KP (P L fin aI wide (f+1) .loop) s fun _ t=>Kp L .loop s t:=by
 rw[P];exact KP.bind (KP.get (KP.bind (Af fun t h=>KP.bind (a.s1 (.ci false) fun k u g=>KP.bind (KP.get (KP.bind (Af fun v q=>KP.ret (by dsimp only[Kp,ap.sl,ap.sk];omega))))))))
theorem Yr(d:fe L fin aI wide f)(pos:Int)(hi:s.i<=L.length):KP (P L fin aI wide (f+1) (.choose pos)) s fun _ t=>Kp L (.choose pos) s t:=by
 rw[P];exact KP.bind (d.e1 .paren fun c t h=>KP.bind (KP.bV fun u g=>KP.bind (KP.get (KP.bind (Af fun v q=>KP.bind (d.rs (.d8 [c] false) fun ks y z=>KP.bind (KP.get (KP.bind (Af fun a b=>KP.cZ (L:=L) ae fun k w e=>(by dsimp only[Kp,ap.sl,ap.sk];omega))))))))))
theorem Vx{v:Nat}(h:(nameV L s v&&bc L s (v+1) T)=true):s.i+(v+2)<=L.length:=by
 rw[gx]at h;have:=h.2;unfold bc at this;grind
theorem Yu(i:fe L fin aI wide f)(pos:Int)(hi:s.i<=L.length):KP (P L fin aI wide (f+1) (.di pos)) s fun _ t=>Kp L (.di pos) s t:=by
 rw[P];have key:∀{t:al}{B:Bool},t.i<=L.length->KP (bif B then iJ L fin else one (P L fin aI wide f .aZ)) t fun _ u=>t.i<=u.i/\u.i<=L.length/\t.nodes.length<=u.nodes.length/\u.nodes.length+2*t.i<=t.nodes.length+2*u.i+1/\u.bw=t.bw/\u.loops=t.loops/\u.bn=t.bn:=fun{t B}h=>KP.bif (fun _=>KP.empty (L:=L) h fun k u g=>ae) (fun _=>i.e1 .aZ fun k u g=>ae);have l:∀{t:al}{B C:Bool},t.i<=L.length->(B=true->t.i<L.length)->KP (bif B then one (P L fin aI wide f .vars) else bif C then iJ L fin else e9 L fin>>=fun x=>one (P L fin aI wide f .aZ)>>=fun e=>db ⟨20,.empty,0,[e],x.pos⟩) t fun _ u=>t.i<=u.i/\u.i<=L.length/\t.nodes.length<=u.nodes.length/\u.nodes.length+2*t.i<=t.nodes.length+2*u.i+1/\u.bw=t.bw/\u.loops=t.loops/\u.bn=t.bn:=fun{t B C}h j=>KP.bif (fun e=>i.s1 .vars (fun k u g=>ae) (hn:=j e)) (fun _=>KP.bif (fun _=>KP.empty (L:=L) h fun k u g=>ae) (fun _=>KP.bind (KP.ce (KP.bind (i.e1 .aZ fun e u g=>KP.node (L:=L) ae fun k v q=>ae)))));refine KP.bind (KP.bV fun t h=>KP.bind (KP.get ?_));dsimp only;refine KP.bif (fun hk=>?_) (fun _=>?_)
 ·exact KP.bind (Yk (L:=L) (Vx hk) fun u g=>KP.bind (i.e1 .aZ fun e v q=>KP.bind (KP.bV fun w r=>KP.bind (i.s1 .loop fun b y z=>KP.cZ (L:=L) ae fun k x e=>(by dsimp only[Kp,ap.sl,ap.sk];omega)))))
 ·refine KP.bind (KP.mono (l ae fun e=>iZ (t:=lk) (by revert e;cases bc L t 0 lk <;> intro e <;> first|rfl|cases e)) fun a u g=>KP.bind (KP.bV fun v q=>KP.bind (KP.mf fun b _=>KP.bind (KP.mono (key ae) fun c w r=>KP.bind (KP.bV fun y z=>KP.bind (KP.mf fun b _=>KP.bind (KP.mono (key ae) fun d aa bb=>KP.bind (KP.bV fun m n=>KP.bind (i.s1 .loop fun b o p=>KP.cZ (L:=L) ae fun k x e=>(by dsimp only[Kp,ap.sl,ap.sk];omega))))))))))
theorem YJ(a:fe L fin aI wide f)(pos:Int)(hi:s.i<=L.length):KP (P L fin aI wide (f+1) (.dy pos)) s fun _ t=>Kp L (.dy pos) s t:=by
 rw[P];have d:∀{t:al}{x:Bool->List Int->cj},t.i<=L.length/\s.i<=t.i/\s.nodes.length<=t.nodes.length/\t.nodes.length+2*s.i+1<=s.nodes.length+2*t.i/\t.bw=s.bw/\t.loops=s.loops/\t.bn=s.bn->KP (cH L oQ>>=fun h=>(bif h then P L fin aI wide f (.block false) else ret [])>>=fun fs=>cg (x h fs)) t fun _ t=>Kp L (.dy pos) s t:=fun{t x}h=>KP.bind (KP.b9 (fun u g=>KP.bind (KP.bif (fun _=>a.re (.block false) fun fs v q=>KP.cZ (L:=L) ae fun k w e=>(by dsimp only[Kp,ap.sl,ap.sk];omega)) (fun e=>nomatch e))) (fun _=>KP.bind (KP.bif (fun e=>nomatch e) (fun _=>KP.ret (KP.cZ (L:=L) ae fun k w e=>(by dsimp only[Kp,ap.sl,ap.sk];omega))))));refine KP.bind (a.e1 (.block false) fun b t h=>KP.bind (KP.b9 (fun u g=>KP.bind (KP.bif (fun _=>?_) (fun e=>nomatch e))) (fun _=>KP.bind (KP.bif (fun e=>nomatch e) (fun _=>KP.ret ?_)))))
 ·refine KP.bind (KP.bV fun v q=>KP.bind (KP.word fun w y z=>KP.bind (KP.bV fun aa bb=>KP.bind (a.e1 (.block false) fun c i j=>KP.ret ?_))));exact KP.bind (KP.get (KP.bind (KP.bif (fun _=>KP.dI) (fun _=>KP.ret (d (x:=fun h fs=>⟨34-2,w,bif true then (bif h then vh else kZ) else vi,[b]++[c]++fs,pos⟩) ae)))))
 ·exact KP.bind (KP.get (KP.bind (KP.bif (fun _=>KP.dI) (fun _=>KP.ret (d (x:=fun h fs=>⟨34-2,.empty,bif false then (bif h then vh else kZ) else vi,[b]++[]++fs,pos⟩) ae)))))
theorem YI(a:fe L fin aI wide f)(aJ:List Int)(seen:Bool)(hi:s.i<=L.length):KP (P L fin aI wide (f+1) (.d8 aJ seen)) s fun _ t=>Kp L (.d8 aJ seen) s t:=by
 rw[P];have c:∀{t:al}{ks:List Int}{x:List Int->cj}{b:Bool},t.i<=L.length/\s.i<=t.i/\s.nodes.length<=t.nodes.length/\t.nodes.length+2*s.i<=s.nodes.length+2*t.i/\t.bw=s.bw/\t.loops=s.loops/\t.bn=s.bn->KP (cr L fin colon>>=fun _=>P L fin aI wide f (.ek ks)>>=fun all=>db (x all)>>=fun k=>P L fin aI wide f (.d8 (aJ++[k]) b)) t fun _ t=>Kp L (.d8 aJ seen) s t:=fun{t ks x b}h=>KP.bind (KP.bV fun u g=>KP.bind (a.rs (.ek ks) fun all v q=>KP.bind (KP.node (L:=L) ae fun k w r=>a.rs (.d8 (aJ++[k]) b) fun ks y z=>(by dsimp only[Kp,ap.sl,ap.sk];omega))));exact KP.bind (KP.b9 (fun t h=>KP.bif (fun _=>KP.ret (by dsimp only[Kp,ap.sl,ap.sk];omega)) (fun e=>nomatch e)) (fun _=>KP.bif (fun e=>nomatch e) (fun _=>KP.bind (KP.ce (KP.bind (KP.b9 (fun t h=>KP.bind (KP.bif (fun _=>a.re .aZ fun ks u g=>c (x:=fun all=>⟨34,.empty,_,all,_⟩) ae) (fun e=>nomatch e))) (fun _=>KP.bind (KP.bif (fun e=>nomatch e) (fun _=>KP.bind (KP.mf fun b d=>KP.bif (fun e=>KP.bind (KP.step (L:=L) (iZ (t:=qI) (by rw[<-d];cases b <;> first|rfl|cases e)) fun t h=>KP.ret (c (x:=fun all=>⟨34,.empty,_,all,_⟩) ae))) (fun _=>KP.dI)))))))))))
theorem YF(a:fe L fin aI wide f)(x:bh)(hn:s.i<L.length):KP (P L fin aI wide (f+1) (.simple x)) s fun _ t=>Kp L (.simple x) s t:=by
 rw[P];refine KP.bind (KP.get (KP.bind (KP.mono (Q:=fun _ t=>t=s) (KP.bif (fun _=>KP.ret rfl) (fun _=>KP.bif (fun _=>KP.ret rfl) (fun _=>KP.bif (fun _=>KP.ret rfl) (fun _=>KP.bif (fun _=>KP.ret rfl) (fun _=>KP.dI))))) fun kind t e=>?_)));subst e;exact KP.bind (KP.step (L:=L) hn fun u g=>KP.bind (KP.ce (KP.bind (KP.get (KP.bind (KP.bif (fun _=>KP.dI) (fun _=>KP.ret (KP.bind (KP.bif (fun _=>a.re .aZ fun ks v q=>KP.bind (CS (L:=L) ae fun w r=>KP.cZ (L:=L) ae fun k y e=>(by dsimp only[Kp,ap.sl,ap.sk];omega))) (fun _=>KP.ret (KP.bind (CS (L:=L) ae fun w r=>KP.cZ (L:=L) ae fun k y e=>(by dsimp only[Kp,ap.sl,ap.sk];omega)))))))))))))
theorem YG(d:fe L fin aI wide f)(body:Bool)(hi:s.i<=L.length):KP (P L fin aI wide (f+1) (.ci body)) s fun _ t=>Kp L (.ci body) s t:=by
 rw[P];have plain:KP (one (P L fin aI wide f .aZ)>>=fun e=>dP L fin>>=fun _=>cg ⟨20,.empty,0,[e],(aB L fin s).pos⟩) s fun _ t=>Kp L (.ci body) s t:=KP.bind (d.e1 .aZ fun e t h=>KP.bind (CS (L:=L) ae fun u g=>KP.cZ (L:=L) ae fun k w r=>(by dsimp only[Kp,ap.sl,ap.sk];omega)));refine KP.bind (KP.ce (KP.bind (KP.get (KP.bif (fun _=>d.re (.block false) fun ks t h=>(by dsimp only[Kp,ap.sl,ap.sk];omega)) (fun _=>KP.bif (fun hk=>?_) (fun _=>?_))))))
 ·have i:=iZ hk;exact KP.bind (KP.empty (L:=L) hi fun k t h=>KP.bind (KP.step (L:=L) ae fun u g=>KP.ret (by dsimp only[Kp,ap.sl,ap.sk];omega)))
 dsimp only;refine KP.bif (fun hk=>?_) (fun _=>plain);have hi:s.i<L.length:=(iX (fin:=fin) (fun e=>by rw[e]at hk;cases hk));refine KP.bif (fun _=>?_) (fun _=>KP.bif (fun _=>?_) (fun _=>KP.bif (fun _=>?_) (fun _=>KP.bif (fun _=>?_) (fun _=>KP.bif (fun _=>?_) (fun _=>KP.bif (fun _=>?_) (fun _=>KP.bif (fun _=>?_) (fun _=>KP.bif (fun _=>?_) (fun _=>plain))))))))
 ·exact KP.bind (d.s1 .vars (fun k t h=>KP.bind (CS (L:=L) ae fun u g=>KP.ret (by dsimp only[Kp,ap.sl,ap.sk];omega))) (hn:=hi))
 ·exact d.rs (.simple _) (fun ks t h=>(by dsimp only[Kp,ap.sl,ap.sk];omega)) (hn:=hi)
 ·exact KP.bif (fun _=>KP.dI) (fun _=>d.re (.func 35) (fun ks t h=>(by dsimp only[Kp,ap.sl,ap.sk];omega)) (hn:=hi))
 ·exact KP.bind (KP.step (L:=L) hi fun t h=>KP.bind (d.e1 .paren fun c u g=>KP.bind (d.s1 (.ci false) fun a v q=>KP.bind (KP.b9 (fun w r=>KP.bind (KP.bif (fun _=>d.rs (.ci false) fun ks y z=>KP.cZ (L:=L) ae fun k x e=>(by dsimp only[Kp,ap.sl,ap.sk];omega)) (fun e=>nomatch e))) (fun _=>KP.bind (KP.bif (fun e=>nomatch e) (fun _=>KP.ret (KP.cZ (L:=L) ae fun k x e=>(by dsimp only[Kp,ap.sl,ap.sk];omega)))))))))
 ·exact KP.bind (KP.step (L:=L) hi fun t h=>KP.bind (d.e1 .paren fun c u g=>KP.bind (d.s1 .loop fun b v q=>KP.cZ (L:=L) ae fun k x e=>(by dsimp only[Kp,ap.sl,ap.sk];omega))))
 ·exact KP.bind (KP.step (L:=L) hi fun t h=>d.rs (.di _) fun ks u g=>(by dsimp only[Kp,ap.sl,ap.sk];omega))
 ·exact KP.bind (KP.step (L:=L) hi fun t h=>d.rs (.dy _) fun ks u g=>(by dsimp only[Kp,ap.sl,ap.sk];omega))
 ·exact KP.bind (KP.step (L:=L) hi fun t h=>d.rs (.choose _) fun ks u g=>(by dsimp only[Kp,ap.sl,ap.sk];omega))
theorem SE:∀f,fe L fin aI wide f
 |0=>fun tag s _ _ a t e=>by
  unfold P at e;cases e
 |f+1=>fun tag s hi hn=>by
  have b:=SE f;cases tag with
  |aZ=>exact Yt b hi
  |cond=>exact Ys b hi
  |level n=>exact Yw b n hn hi
  |fM n c=>exact Yx b n c hn hi
  |unary=>exact YK b hi
  |dD=>exact Ym b hi
  |suffix=>exact YH b hi
  |dO k=>exact YC b k hi
  |dS aJ=>exact Yp b aJ hi
  |cR aJ=>exact Yl b aJ hi
  |cU aJ=>exact Yz b aJ hi
  |dk=>exact YD b hi
  |func kind=>exact Yv b kind hn
  |dt aJ=>exact YA b aJ hi
  |block body=>exact Yn b body hi
  |fC aJ body=>exact Yo b aJ body hi
  |paren=>exact YB b hi
  |vars=>exact YM b hn
  |dQ aJ=>exact YL b aJ hi
  |loop=>exact Yy b hi
  |di pos=>exact Yu b pos hi
  |dy pos=>exact YJ b pos hi
  |choose pos=>exact Yr b pos hi
  |d8 aJ seen=>exact YI b aJ seen hi
  |ek aJ=>exact Yq b aJ hi
  |simple x=>exact YF b x hn
  |ci body=>exact YG b body hi
  |prog aJ=>exact YE b aJ hi
end
end
section
open Go
structure Vw where
 A:List bh
 B:List bh
 fA:Int
 fB:Int
 n:Nat
 dA:Nat
 dB:Nat
 M:List cj
 kp:Bool
 cK:Bool
 aI:Nat->ByteArray
 wide:ByteArray->ByteArray
abbrev Vw.PA(V:Vw):Nat->ap->PM (List Int):=P V.A V.fA V.aI V.wide
abbrev Vw.PB(V:Vw):Nat->ap->PM (List Int):=P V.B V.fB V.aI V.wide
def Vw.c(V:Vw):Int:=V.M.length
def Vw.TR(V:Vw)(x y:bh):Prop:=y.kind=x.kind/\y.text=x.text/\y.num=x.num/\y.aD=x.aD/\(V.kp=true->y.pos=x.pos)
def Vw.XR(V:Vw)(x y:cj):Prop:=y.kind=x.kind/\y.op=x.op/\y.num=x.num/\y.aJ=x.aJ.map (·+V.c)/\(V.kp=true->y.pos=x.pos)
def Vw.pu(V:Vw)(p q:Int):Prop:=V.kp=true->q=p
structure Vw.Ok(V:Vw):Prop where
 toks:∀i,i<V.n->∃x y,V.A[i+V.dA]?=some x/\V.B[i+V.dB]?=some y/\V.TR x y
 pl:V.cK=false->V.A[V.n+V.dA]?=none
 DA:V.cK=true->∃y,V.A[V.n+V.dA]?=some y/\y.kind=5/\y.text=rp
 yo:V.B[V.n+V.dB]?=none\/∃y,V.B[V.n+V.dB]?=some y/\y.kind=5/\y.aD=true/\(y.text=rp\/y.text=dm)
 amd:V.cK=true->V.B[V.n+V.dB]?=none
 agI:V.cK=true->∀i x,V.dA<=i->V.A[i]?=some x->((x.kind==5||x.kind==2)&&bC x.text lp)=false
 agH:∀x,V.B[V.n+V.dB+1]?=some x->((x.kind==5||x.kind==2)&&bC x.text zQ)=false
structure Vw.NR(V:Vw)(s t:al):Prop where
 len:t.nodes.length=V.M.length+s.nodes.length
 hd:t.nodes.take V.M.length=V.M
 get:∀k x,s.nodes[k]?=some x->∃y,t.nodes[V.M.length+k]?=some y/\V.XR x y
 bw:t.bw=s.bw
 loops:t.loops=s.loops
 bn:t.bn=s.bn
structure Vw.R(V:Vw)(s t:al):Prop extends V.NR s t where
 at_:∃i,i<=V.n/\s.i=i+V.dA/\t.i=i+V.dB
structure Vw.na(V:Vw)(s t:al):Prop extends V.NR s t where
 sA:s.i=V.n+V.dA
 tB:t.i=V.n+V.dB+1
 A4:V.cK=false
def Vw.VR(V:Vw)(k l:Int):Prop:=0<=k/\l=k+V.c
def Vw.LR(V:Vw)(r q:List Int):Prop:=q=r.map (·+V.c)/\∀k,k∈r->0<=k
def SR{α:Type}(m m':PM α)(s s':al)(Q:α->al->α->al->Prop):Prop:=∀a t,m s= .ok a t->∃b t',m' s'= .ok b t'/\Q a t b t'
def NO{α:Type}(m:PM α)(s:al):Prop:=∀a t,m s≠.ok a t
section
variable{α β:Type}{m m':PM α}{s s':al}{Q:α->al->α->al->Prop}{V:Vw}
theorem SR.no(h:NO m s):SR m m' s s' Q:=fun a t e=>absurd e (h a t)
theorem SR.mono{c:α->al->α->al->Prop}(h:SR m m' s s' Q)(k:∀a t b t',Q a t b t'->c a t b t'):SR m m' s s' c:=fun a t e=>let ⟨b,t',d,f⟩:=h a t e;⟨b,t',d,k _ _ _ _ f⟩
theorem SR.bind{f g:α->PM β}{Q:β->al->β->al->Prop}(h:SR m m' s s' fun a t i t'=>SR (f a) (g i) t t' Q):SR (m>>=f) (m'>>=g) s s' Q:=by
 intro b u e;have c:b0 m f s= .ok b u:=e;unfold b0 at c;cases d:m s with
 |ok a t=>
  rw[d]at c;obtain⟨i,t',o,k⟩:=h a t d;obtain⟨j,n,q,l⟩:=k b u c;refine⟨j,n,?_,l⟩;show b0 m' g s'=_;unfold b0;simp[*]
 |stop p x t=>rw[d]at c;cases c
 |out=>rw[d]at c;cases c
theorem SR.ret{a c:α}(h:Q a s c s'):SR (ret a) (ret c) s s' Q:=by
 intro b t e;cases e;exact⟨c,s',rfl,h⟩
variable{b:Bool}{T:ByteArray}{x y:cj}{fin k k':Int}{L:List bh}{s2 t t2:al}
theorem SR.bif{a:Bool}{n c:PM α}(e:b=a)(d:b=true->a=true->SR m m' s s' Q)(f:b=false->a=false->SR n c s s' Q):SR (bif b then m else n) (bif a then m' else c) s s' Q:=by
 grind
theorem NO.bind{f:α->PM β}(h:NO m s):NO (m>>=f) s:=by
 intro b u e;have c:b0 m f s= .ok b u:=e;unfold b0 at c;cases d:m s with
 |ok a t=>exact h a t d
 |stop p x t=>rw[d]at c;cases c
 |out=>rw[d]at c;cases c
theorem sm{f:α->PM β}(h:∀a t,m s= .ok a t->NO (f a) t):NO (m>>=f) s:=by
 intro b u e;have c:b0 m f s= .ok b u:=e;unfold b0 at c;cases d:m s with
 |ok a t=>rw[d]at c;exact h a t d _ _ c
 |stop p x t=>rw[d]at c;cases c
 |out=>rw[d]at c;cases c
theorem NO.bif{n:PM α}(a:b=true->NO m s)(c:b=false->NO n s):NO (bif b then m else n) s:=by
 grind
theorem NO.out:NO (Oc:PM α) s:=fun _ _ e=>by cases e
theorem NO.dI:NO (iU L fin:PM α) s:=fun _ _ e=>by cases e
theorem NO.one{m:PM (List Int)}(h:NO m s):NO (one m) s:=NO.bind h
theorem pm(h:L[s.i]?=none)(T:ByteArray):bc L s 0 T=false:=by
 unfold bc;simp[*]
theorem vW(h:L[s.i]?=none):aB L fin s=⟨0,.empty,0,fin,false⟩:=by
 unfold aB;simp[*]
theorem Ke{y:bh}(h:L[s.i]?=some y)(b:y.text=rp)(a:bC rp T=false):bc L s 0 T=false:=by
 unfold bc;simp[*]
theorem Vw.NR.Tw(h:0<=k):(k+V.c).toNat=V.M.length+k.toNat:=by
 unfold Vw.c;omega
theorem Vw.NR.kind{V:Vw}{s:al}(h:V.NR s t)(hk:0<=k):ow t (k+V.c)=ow s k:=by
 unfold ow;rw[Vw.NR.Tw hk];cases hx:s.nodes[k.toNat]? with
 |some x=>
  obtain⟨y,b,a⟩:=h.get _ _ hx;rw[b];exact a.1
 |none=>
  have:t.nodes[V.M.length+k.toNat]?=none:=by
   rw[List.getElem?_eq_none_iff]at hx⊢;rw[h.len];omega
  rw[this]
theorem Vw.NR.pos{V:Vw}{s:al}(h:V.NR s t)(hk:0<=k):V.pu (du s k) (du t (k+V.c)):=by
 intro a;unfold du;rw[Vw.NR.Tw hk];cases hx:s.nodes[k.toNat]? with
 |some x=>
  obtain⟨y,c,b⟩:=h.get _ _ hx;rw[c];exact b.2.2.2.2 a
 |none=>
  have:t.nodes[V.M.length+k.toNat]?=none:=by
   rw[List.getElem?_eq_none_iff]at hx⊢;rw[h.len];omega
  rw[this]
theorem Vw.NR.push{V:Vw}{s:al}(h:V.NR s t)(g:V.XR x y)(e1:s2.nodes=s.nodes++[x])(b:t2.nodes=t.nodes++[y])(d:t2.bw=s2.bw)(e:t2.loops=s2.loops)(f:t2.bn=s2.bn):V.NR s2 t2:=by
 refine⟨by rw[e1,b];simp[h.len];omega,?_,fun k z a=>?_,d,e,f⟩
 ·rw[b,List.take_append_of_le_length (by rw[h.len];omega)];exact h.hd
 ·rw[e1]at a;rw[b];by_cases hk:k<s.nodes.length
  ·rw[lD hk]at a;obtain⟨w,j,i⟩:=h.get _ _ a;grind
  ·rw[j6 ae]at a;have c:k-s.nodes.length=0:=by
    grind
   rw[c]at a;simp only[List.getElem?_cons_zero,Option.some.injEq]at a;subst a;refine⟨y,?_,g⟩;rw[j6 (by rw[h.len];omega)];have:V.M.length+k-t.nodes.length=0:=by rw[h.len];omega
   simp[*]
theorem Vw.NR.same{V:Vw}{s:al}(h:V.NR s t)(e1:s2.nodes=s.nodes:=by rfl)(a:t2.nodes=t.nodes:=by rfl)(b:t2.bw=s2.bw:=by first|exact h.bw|assumption)(c:t2.loops=s2.loops:=by first|exact h.loops|assumption)(d:t2.bn=s2.bn:=by first|exact h.bn|assumption):V.NR s2 t2:=by
 refine⟨by rw[e1,a];exact h.len,by rw[a];exact h.hd,fun k x hx=>?_,b,c,d⟩;rw[e1]at hx;rw[a];exact h.get k x hx
theorem Vw.R.step{V:Vw}{s:al}(h:V.R s t)(a:s.i<V.n+V.dA):V.R {s with i:=s.i+1} {t with i:=t.i+1}:=by
 obtain⟨i,b,c,d⟩:=h.at_;exact⟨h.toNR.same,i+1,ae,by grind,by grind⟩
theorem Vw.R.push{V:Vw}{s:al}(h:V.R s t)(d:V.XR x y):V.R {s with nodes:=s.nodes++[x]} {t with nodes:=t.nodes++[y]}:=by
 obtain⟨i,a,b,c⟩:=h.at_;exact⟨h.toNR.push d rfl rfl h.bw h.loops h.bn,i,a,b,c⟩
theorem Vw.na.push{V:Vw}{s:al}(h:V.na s t)(a:V.XR x y):V.na {s with nodes:=s.nodes++[x]} {t with nodes:=t.nodes++[y]}:=
 ⟨h.toNR.push a rfl rfl h.bw h.loops h.bn,h.sA,h.tB,h.A4⟩
theorem Vw.NR.vr{V:Vw}{s:al}(h:V.NR s t):V.VR s.nodes.length t.nodes.length:=⟨ae,by rw[h.len];unfold Vw.c;omega⟩
theorem Vw.R.tok{V:Vw}(a:V.Ok){s:al}(h:V.R s t):(s.i<V.n+V.dA/\∃x y,V.A[s.i]?=some x/\V.B[t.i]?=some y/\V.TR x y)\/(s.i=V.n+V.dA/\t.i=V.n+V.dB):=by
 obtain⟨i,b,c,d⟩:=h.at_;by_cases hi:i<V.n
 ·obtain⟨x,y,hx,f,e⟩:=a.toks i hi;simp[*]
 omega
theorem Vw.TR.is{V:Vw}{x y:bh}(h:V.TR x y)(T:ByteArray):((y.kind==5||y.kind==2)&&bC y.text T)=((x.kind==5||x.kind==2)&&bC x.text T):=by
 rw[h.1,h.2.1]
theorem Vw.R.isLt{V:Vw}(a:V.Ok){s:al}(h:V.R s t)(b:s.i<V.n+V.dA)(T:ByteArray):bc V.A s 0 T=bc V.B t 0 T:=by
 rcases h.tok a with⟨_,x,y,hx,d,c⟩| ⟨e,_⟩
 ·unfold bc;simp only[Nat.add_zero,hx,d];exact(c.is T).symm
 ·omega
def rI(T:ByteArray):Bool:= !bC rp T&& !bC dm T
theorem Vw.Ok.UU{V:Vw}(a:V.Ok){s:al}(e:s.i=V.n+V.dA)(c:bC rp T=false):bc V.A s 0 T=false:=by
 cases b:V.cK with
 |false=>exact pm (by rw[e];exact a.pl b) T
 |true=>
  obtain⟨y,f,_,d⟩:=a.DA b;exact Ke (y:=y) (by simp[*]) d c
theorem Vw.Ok.isB{V:Vw}(b:V.Ok)(e:t.i=V.n+V.dB)(a:rI T=true):bc V.B t 0 T=false:=by
 unfold rI at a;simp only[gx,Bool.not_eq_true']at a;rcases b.yo with h| ⟨y,d,_,_,c⟩
 ·exact pm (by simp[*]) T
 ·unfold bc;grind
theorem Vw.R.is{V:Vw}(a:V.Ok){s:al}(h:V.R s t)(c:rI T=true):bc V.A s 0 T=bc V.B t 0 T:=by
 rcases h.tok a with⟨b,_⟩| ⟨e1,d⟩
 ·exact h.isLt a b T
 ·rw[a.UU e1 (by unfold rI at c;grind),a.isB d c]
theorem Vw.R.Vn{V:Vw}(b:V.Ok){s:al}(h:V.R s t)(c:bC rp T=false)(hi:bc V.A s 0 T=true):s.i<V.n+V.dA:=by
 rcases h.tok b with⟨a,_⟩| ⟨e1,_⟩
 ·exact a
 ·rw[b.UU e1 c]at hi;cases hi
theorem Vw.R.afO{V:Vw}(b:V.Ok)(c:V.cK=false){s:al}(h:V.R s t)(hi:bc V.A s 0 T=true):s.i<V.n+V.dA:=by
 rcases h.tok b with⟨a,_⟩| ⟨e1,_⟩
 ·exact a
 ·rw[pm (by rw[e1];exact b.pl c) T]at hi;cases hi
theorem SR.b9(d:V.Ok)(h:V.R s s')(c:rI T=true){Q:Bool->al->Bool->al->Prop}
  (g:∀t t',V.R t t'->bc V.A s 0 T=true->Q true t true t') (f:bc V.A s 0 T=false->Q false s false s'):SR (cH V.A T) (cH V.B T) s s' Q:=by
 intro a t e;have b:bC rp T=false:=by unfold rI at c;grind
 unfold cH at*;rw[<-h.is d c];cases hi:bc V.A s 0 T with
 |true=>
  rw[hi]at e;cases e;exact⟨true,_,rfl,g _ _ (h.step (h.Vn d b hi)) hi⟩
 |false=>rw[hi]at e;cases e;exact⟨false,_,rfl,f hi⟩
theorem vH(f:V.Ok)(h:V.R s s')(b:s.i<V.n+V.dA){Q:Bool->al->Bool->al->Prop}
  (d:∀t t',V.R t t'->bc V.A s 0 T=true->Q true t true t') (c:bc V.A s 0 T=false->Q false s false s'):SR (cH V.A T) (cH V.B T) s s' Q:=by
 intro a t e;unfold cH at*;rw[<-h.isLt f b];cases hi:bc V.A s 0 T with
 |true=>rw[hi]at e;cases e;exact⟨true,_,rfl,d _ _ (h.step b) hi⟩
 |false=>rw[hi]at e;cases e;exact⟨false,_,rfl,c hi⟩
theorem SR.bV(d:V.Ok)(h:V.R s s')(c:rI T=true){Q:Unit->al->Unit->al->Prop}
  (f:∀t t',V.R t t'->Q () t () t'):SR (cr V.A V.fA T) (cr V.B V.fB T) s s' Q:=by
 intro a t e;have b:bC rp T=false:=by unfold rI at c;grind
 unfold cr at*;rw[<-h.is d c];cases hi:bc V.A s 0 T with
 |true=>rw[hi]at e;cases e;exact⟨(),_,rfl,f _ _ (h.step (h.Vn d b hi))⟩
 |false=>rw[hi]at e;cases e
theorem xM(c:V.Ok)(f:V.cK=false)(h:V.R s s'){Q:Unit->al->Unit->al->Prop}
  (d:∀t t',V.R t t'->Q () t () t'):SR (cr V.A V.fA T) (cr V.B V.fB T) s s' Q:=by
 intro a t e;unfold cr at*;cases hi:bc V.A s 0 T with
 |true=>
  have b:=h.afO c f hi;rw[<-h.isLt c b,hi];rw[hi]at e;cases e;exact⟨(),_,rfl,d _ _ (h.step b)⟩
 |false=>rw[hi]at e;cases e
theorem SR.is(d:V.Ok)(h:V.R s s')(c:rI T=true){Q:Bool->al->Bool->al->Prop}
  (b:Q (bc V.A s 0 T) s (bc V.A s 0 T) s'):SR (iK V.A 0 T) (iK V.B 0 T) s s' Q:=by
 intro a t e;cases e;exact⟨_,_,by unfold iK;rw[<-h.is d c],b⟩
theorem SR.isLt(d:V.Ok)(h:V.R s s')(b:s.i<V.n+V.dA){Q:Bool->al->Bool->al->Prop}
  (c:Q (bc V.A s 0 T) s (bc V.A s 0 T) s'):SR (iK V.A 0 T) (iK V.B 0 T) s s' Q:=by
 intro a t e;cases e;exact⟨_,_,by unfold iK;rw[<-h.isLt d b],c⟩
theorem SR.ce{Q:bh->al->bh->al->Prop}(h:Q (aB V.A V.fA s) s (aB V.B V.fB s') s'):SR (e9 V.A V.fA) (e9 V.B V.fB) s s' Q:=by
 intro a t e;cases e;exact⟨_,_,rfl,h⟩
theorem SR.get{Q:al->al->al->al->Prop}(h:Q s s s' s'):SR ez ez s s' Q:=by
 intro a t e;cases e;exact⟨_,_,rfl,h⟩
theorem SR.set{u b:al}{Q:Unit->al->Unit->al->Prop}(h:Q () u () b):SR (ic u) (ic b) s s' Q:=by
 intro a t e;cases e;exact⟨_,_,rfl,h⟩
theorem SR.step(h:V.R s s')(b:s.i<V.n+V.dA){Q:Unit->al->Unit->al->Prop}(c:∀t t',V.R t t'->Q () t () t'):SR eE eE s s' Q:=by
 intro a t e;cases e;exact⟨_,_,rfl,c _ _ (h.step b)⟩
theorem SR.dN(h:V.NR s s')(hk:V.VR k k'){Q:Int->al->Int->al->Prop}(b:∀p p',V.pu p p'->Q p s p' s'):SR (dN k) (dN k') s s' Q:=by
 intro a t e;cases e;exact⟨_,_,rfl,b _ _ (by rw[hk.2];exact h.pos hk.1)⟩
theorem SR.j9(h:V.NR s s')(hk:V.VR k k'){Q:Unit->al->Unit->al->Prop}(c:Q () s () s'):SR (ka k b) (ka k' b) s s' Q:=by
 intro a t e;unfold ka at*;rw[hk.2,h.kind hk.1];grind
theorem SR.node(h:V.R s s')(hx:V.XR x y){Q:Int->al->Int->al->Prop}(b:∀k t k' t',V.VR k k'->V.R t t'->Q k t k' t'):SR (db x) (db y) s s' Q:=by
 intro a t e;cases e;exact⟨_,_,rfl,b _ _ _ _ h.vr (h.push hx)⟩
theorem j8{x:bh}(h:L[s.i]?=some x):aB L fin s=x:=by unfold aB;rw[h];rfl
theorem SR.word(d:V.Ok)(h:V.R s s'){Q:ByteArray->al->ByteArray->al->Prop}(j:∀w t t',V.R t t'->Q w t w t'):SR (gD V.A V.fA) (gD V.B V.fB) s s' Q:=by
 intro a t e;unfold gD at*;cases hk:(aB V.A V.fA s).kind !=1 with
 |true=>rw[hk]at e;cases e
 |false=>
  rw[hk]at e;cases e;have b:(aB V.A V.fA s).kind=1:=by grind
  rcases h.tok d with⟨g,x,y,hx,i,c⟩| ⟨e1,_⟩
  ·rw[j8 hx]at b⊢;rw[j8 i,c.1,b,c.2.1];exact⟨_,_,rfl,j _ _ _ (h.step g)⟩
  ·cases c:V.cK with
   |false=>rw[vW (by rw[e1];exact d.pl c)]at b;cases b
   |true=>
    obtain⟨y,i,f,_⟩:=d.DA c;rw[j8 (x:=y) (by simp[*]),f]at b;cases b
theorem SR.key(c:V.Ok)(h:V.R s s'){Q:Int->al->Int->al->Prop}(l:∀k t k' t',V.VR k k'->V.R t t'->Q k t k' t'):SR (dW V.A V.fA V.aI V.wide) (dW V.B V.fB V.aI V.wide) s s' Q:=by
 intro a t e;rcases h.tok c with⟨f,x,y,hx,j,b⟩| ⟨e1,_⟩
 ·unfold dW at*;rw[j8 hx]at e;rw[j8 j];dsimp only at e⊢;rw[b.1,b.2.1,b.2.2.1];have go:∀(o:ByteArray),db ⟨2,o,0,[],x.pos⟩ {s with i:=s.i+1}= .ok a t->∃g t',db ⟨2,o,0,[],y.pos⟩ {s' with i:=s'.i+1}= .ok g t'/\Q a t g t':=fun o e=>by
   cases e;have hs:=h.step f;exact⟨_,_,rfl,l _ _ _ _ hs.vr (hs.push ⟨rfl,rfl,rfl,rfl,b.2.2.2.2⟩)⟩
  grind
 ·unfold dW at e;dsimp only at e;cases b:V.cK with
  |false=>rw[vW (by rw[e1];exact c.pl b)]at e;cases e
  |true=>
   obtain⟨y,j,d,_⟩:=c.DA b;rw[j8 (x:=y) (by simp[*]),d]at e;cases e
theorem Vw.R.ask{V:Vw}(b:V.Ok){s:al}(h:V.R s t)(g:Int->ByteArray->Bool->Bool)(c:∀l i,g 0 .empty l=g 5 rp i/\g 0 .empty l=g 5 dm i):
  g (aB V.A V.fA s).kind (aB V.A V.fA s).text (aB V.A V.fA s).aD=g (aB V.B V.fB t).kind (aB V.B V.fB t).text (aB V.B V.fB t).aD:=by
 rcases h.tok b with⟨k,x,y,hx,e,a⟩| ⟨e1,m⟩
 ·rw[j8 hx,j8 e,a.1,a.2.1,a.2.2.2.1]
 ·have j:∀l,g 0 .empty l=g (aB V.B V.fB t).kind (aB V.B V.fB t).text (aB V.B V.fB t).aD:=by
   intro l;rcases b.yo with h| ⟨y,e,hk,hl,f⟩
   ·rw[vW (by simp[*])];exact((c l l).1).trans ((c false l).1).symm
   ·rw[j8 (x:=y) (by simp[*]),hk];grind
  cases a:V.cK with
  |false=>rw[vW (by rw[e1];exact b.pl a)];exact j _
  |true=>
   obtain⟨y,e,d,f⟩:=b.DA a;rw[j8 (x:=y) (by simp[*]),d,f,<-(c y.aD y.aD).1];simp[*]
theorem Vw.R.nE{V:Vw}(a:V.Ok){s:al}(h:V.R s t)(b:s.i<V.n+V.dA):V.TR (aB V.A V.fA s) (aB V.B V.fB t):=by
 rcases h.tok a with⟨_,x,y,hx,d,c⟩| ⟨e1,_⟩
 ·rw[j8 hx,j8 d];exact c
 ·omega
end
end
section
open Go
def ap.ex:ap->Bool
 | .aZ| .cond| .level _| .fM _ _| .unary| .dD| .suffix| .dO _| .cR _| .cU _| .dk=>true
 |_=>false
def ap.xe:ap->Bool
 | .dS _| .cR _| .cU _| .dt _| .fC _ _| .dQ _| .d8 _ _| .ek _=>false
 |_=>true
def ap.vU:ap->Bool
 | .ci _| .simple _| .loop| .di _=>true
 |_=>false
inductive Vw.GR(V:Vw):ap->ap->Prop
 |aZ:GR V .aZ .aZ
 |cond:GR V .cond .cond
 |level n:GR V (.level n) (.level n)
 |fM n {k l} (h:V.VR k l):GR V (.fM n k) (.fM n l)
 |unary:GR V .unary .unary
 |dD:GR V .dD .dD
 |suffix:GR V .suffix .suffix
 |dO {k l} (h:V.VR k l):GR V (.dO k) (.dO l)
 |dS {k l} (h:V.LR k l):GR V (.dS k) (.dS l)
 |cR {k l} (h:V.LR k l):GR V (.cR k) (.cR l)
 |cU {k l} (h:V.LR k l):GR V (.cU k) (.cU l)
 |dk:GR V .dk .dk
 |func k:GR V (.func k) (.func k)
 |dt {k l} (h:V.LR k l):GR V (.dt k) (.dt l)
 |block b:GR V (.block b) (.block b)
 |fC b {k l} (h:V.LR k l):GR V (.fC k b) (.fC l b)
 |paren:GR V .paren .paren
 |vars:GR V .vars .vars
 |dQ {k l} (h:V.LR k l):GR V (.dQ k) (.dQ l)
 |loop:GR V .loop .loop
 |di {p q} (h:V.pu p q):GR V (.di p) (.di q)
 |dy {p q} (h:V.pu p q):GR V (.dy p) (.dy q)
 |choose {p q} (h:V.pu p q):GR V (.choose p) (.choose q)
 |d8 b {k l} (h:V.LR k l):GR V (.d8 k b) (.d8 l b)
 |ek {k l} (h:V.LR k l):GR V (.ek k) (.ek l)
 |simple {x y} (h:V.TR x y):GR V (.simple x) (.simple y)
 |ci b:GR V (.ci b) (.ci b)
def Vw.dC(V:Vw)(tag:ap):List Int->al->List Int->al->Prop:=fun r t a t'=>V.LR r a/\(tag.xe=true->r.length=1)/\(V.R t t'\/(tag.vU=true/\V.na t t'))
def Vw.pre(V:Vw)(s:al):ap->Prop
 | .func _| .vars| .simple _=>s.i<V.n+V.dA
 |_=>True
def Vw.fy(V:Vw)(f:Nat):Prop:=∀(tag a:ap)(s s':al)(g:Nat),f<=g->V.GR tag a->(V.cK=true->tag.ex=true)->V.pre s tag->V.R s s'->SR (V.PA f tag) (V.PB g a) s s' (V.dC tag)
section
variable{L:List bh}{fin:Int}{aI:Nat->ByteArray}{wide:ByteArray->ByteArray}{α β:Type}{s:al}
theorem NO.ce{f:bh->PM β}(h:NO (f (aB L fin s)) s):NO (e9 L fin>>=f) s:=sm fun a t e=>by cases e;exact h
theorem NO.get{f:al->PM β}(h:NO (f s) s):NO (ez>>=f) s:=sm fun a t e=>by cases e;exact h
theorem SD{T:ByteArray}{f:Bool->PM β}(h:NO (f (bc L s 0 T)) s):NO (iK L 0 T>>=f) s:=sm fun a t e=>by cases e;exact h
theorem NO.b9{T:ByteArray}{f:Bool->PM β}(hi:bc L s 0 T=false)(h:NO (f false) s):NO (cH L T>>=f) s:=sm fun a t e=>by
 unfold cH at e;rw[hi]at e;cases e;exact h
theorem NO.bV{T:ByteArray}(hi:bc L s 0 T=false):NO (cr L fin T) s:=fun a t e=>by
 unfold cr at e;rw[hi]at e;cases e
def lY(L:List bh)(s:al):Prop:=L[s.i]?=none\/∃y,L[s.i]?=some y/\y.kind=5/\y.text=rp
theorem lY.is(h:lY L s){T:ByteArray}(a:bC rp T=false):bc L s 0 T=false:=by
 rcases h with h| ⟨y,h,_,b⟩
 ·exact pm h T
 ·exact Ke h b a
theorem lY.ask(h:lY L s)(g:Int->ByteArray->Bool){b:Bool}(a:g 0 .empty=b)(c:g 5 rp=b):g (aB L fin s).kind (aB L fin s).text=b:=by
 rcases h with h| ⟨y,h,hk,d⟩
 ·rw[vW h];exact a
 ·rw[j8 h,hk,d];exact c
theorem lY.word(h:lY L s):NO (gD L fin) s:=fun a t e=>by
 unfold gD at e;rw[h.ask (fun k _=>k !=1) (b:=true) rfl rfl]at e;cases e
theorem lY.key(h:lY L s):NO (dW L fin aI wide) s:=fun a t e=>by
 unfold dW at e;dsimp only at e;rw[h.ask (fun k _=>k==1||k==2) (b:=false) rfl rfl,h.ask (fun k _=>k==3) (b:=false) rfl rfl,h.ask (fun k _=>k==4) (b:=false) rfl rfl]at e;cases e
def ap.VE:ap->Bool
 | .aZ| .cond| .level _| .unary| .dD| .suffix| .dk| .cR _| .cU _=>true
 |_=>false
theorem N4:∀(f:Nat)(tag:ap),tag.VE=true->lY L s->NO (P L fin aI wide f tag) s:=by
 intro f
 induction f with
 |zero=>intro tag _ _;rw[P];exact NO.out
 |succ f c=>
  intro tag d a;cases tag with
  |aZ=>rw[P];exact NO.bind (NO.one (c _ rfl a))
  |cond=>rw[P];exact NO.bind (NO.one (c _ rfl a))
  |level n=>rw[P];exact NO.bif (fun _=>c _ rfl a) (fun _=>NO.bind (NO.one (c _ rfl a)))
  |unary=>
   rw[P];refine NO.ce (NO.bif (fun _=>c _ rfl a) (fun _=>NO.bif (fun h=>?_) (fun _=>NO.bif (fun h=>?_) (fun _=>c _ rfl a))))
   ·rw[a.ask (fun _ t=>cI tK t) (b:=false) rfl rfl]at h;cases h
   ·rw[a.ask (fun _ t=>cI [pp,mm] t) (b:=false) rfl rfl]at h;cases h
  |dD=>rw[P];exact NO.bind (NO.one (c _ rfl a))
  |suffix=>rw[P];exact NO.bind (NO.one (c _ rfl a))
  |dk=>
   rw[P];refine NO.ce (NO.bif (fun h=>?_) (fun _=>NO.bif (fun h=>?_) (fun _=>NO.bif (fun h=>?_) (fun _=>NO.get (NO.bif (fun h=>?_) (fun _=>NO.bif (fun h=>?_) (fun _=>?_)))))))
   ·rw[a.ask (fun k _=>k==3) (b:=false) rfl rfl]at h;cases h
   ·rw[a.ask (fun k _=>k==4) (b:=false) rfl rfl]at h;cases h
   ·rw[a.ask (fun k _=>k==1) (b:=false) rfl rfl]at h;cases h
   ·rw[a.is rfl,a.is rfl,a.is rfl]at h;cases h
   ·rw[a.is rfl]at h;cases h
   ·exact NO.b9 (a.is rfl) (NO.bif (fun e=>nomatch e) (fun _=>NO.b9 (a.is rfl) (NO.bif (fun e=>nomatch e) (fun _=>NO.b9 (a.is rfl) (NO.bif (fun e=>nomatch e) (fun _=>NO.dI))))))
  |cR k=>rw[P];exact NO.b9 (a.is rfl) (NO.bif (fun e=>nomatch e) (fun _=>NO.bind (NO.one (c _ rfl a))))
  |cU k=>rw[P];exact NO.b9 (a.is rfl) (NO.bif (fun e=>nomatch e) (fun _=>NO.bind a.key))
  |_=>cases d
def ap.agp:ap->Bool
 | .dS _| .dt _| .block _| .fC _ _| .paren| .dQ _| .loop| .d8 _ _| .ek _| .ci _=>true
 |t=>t.VE
theorem pr:∀(f:Nat)(tag:ap){s:al},tag.agp=true->L[s.i]?=none->NO (P L fin aI wide f tag) s:=by
 intro f
 induction f with
 |zero=>intro tag s _ _;rw[P];exact NO.out
 |succ f g=>
  intro tag s j c;have i:lY L s:=.inl c;have is:=fun T=>pm c T;have l:aB L fin s=⟨0,.empty,0,fin,false⟩:=vW c;cases tag with
  |dS k=>rw[P];exact NO.b9 (is _) (NO.bif (fun e=>nomatch e) (fun _=>sm fun a t e=>by
    cases d:decide (k.length>1)with
    |true=>rw[d]at e;exact absurd e (NO.bV (is _) _ _)
    |false=>rw[d]at e;cases e;exact NO.bind (NO.one (g _ rfl c))))
  |dt k=>rw[P];exact NO.b9 (is _) (NO.bif (fun e=>nomatch e) (fun _=>sm fun a t e=>by
    cases d:decide (k.length>0)with
    |true=>rw[d]at e;exact absurd e (NO.bV (is _) _ _)
    |false=>rw[d]at e;cases e;exact NO.ce (NO.bind i.word)))
  |block b=>rw[P];exact NO.ce (NO.bind (NO.bV (is _)))
  |fC k b=>rw[P];exact NO.b9 (is _) (NO.bif (fun e=>nomatch e) (fun _=>NO.bind (NO.one (g _ rfl c))))
  |paren=>rw[P];exact NO.bind (NO.bV (is _))
  |dQ k=>rw[P];exact NO.ce (NO.bind i.word)
  |loop=>rw[P];exact NO.get (sm fun a t e=>by cases e;exact NO.bind (NO.one (g _ rfl c)))
  |d8 k b=>
   rw[P];refine NO.b9 (is _) (NO.bif (fun e=>nomatch e) (fun _=>NO.ce (NO.b9 (is _) (NO.bind (NO.bif (fun e=>nomatch e) (fun _=>SD ?_))))));rw[is];exact NO.bif (fun e=>nomatch e) (fun _=>NO.dI)
  |ek k=>
   rw[P];refine NO.get (NO.bif (fun _=>NO.bind (NO.one (g _ rfl c))) (fun h=>?_));grind
  |ci b=>
   rw[P];refine NO.ce (NO.get (NO.bif (fun h=>?_) (fun _=>NO.bif (fun h=>?_) (fun _=>?_))))
   ·grind
   ·grind
   ·dsimp only;refine NO.bif (fun h=>?_) (fun _=>NO.bind (NO.one (g _ rfl c)));grind
  |_=>exact N4 _ _ j i
end
section
variable{V:Vw}{s s':al}{f g:Nat}
theorem Vw.R.GG(a:V.Ok)(h:V.R s s'):lY V.A s\/s.i<V.n+V.dA:=by
 rcases h.tok a with⟨f,_⟩| ⟨e,_⟩
 ·omega
 ·cases b:V.cK with
  |false=>exact .inl (.inl (by rw[e];exact a.pl b))
  |true=>
   obtain⟨y,g,c,d⟩:=a.DA b;exact .inl (.inr ⟨y,by simp[*],c,d⟩)
theorem Vw.R.nu(a:V.Ok)(b:V.cK=false)(h:V.R s s'):V.A[s.i]?=none\/s.i<V.n+V.dA:=by
 rcases h.tok a with⟨c,_⟩| ⟨e,_⟩
 ·omega
 ·exact .inl (by rw[e];exact a.pl b)
theorem Vw.R.NV(f:V.Ok)(h:V.R s s')(g:Int->ByteArray->Bool->Bool)(b:Bool)(d:g 0 .empty false= !b)(e:∀l,g 5 rp l= !b)(c:g (aB V.A V.fA s).kind (aB V.A V.fA s).text (aB V.A V.fA s).aD=b):s.i<V.n+V.dA:=by
 rcases h.GG f with a|i
 ·rcases a with a| ⟨y,a,hk,j⟩
  ·rw[vW a,d]at c;cases b <;> cases c
  ·rw[j8 a,hk,j,e]at c;cases b <;> cases c
 omega
theorem Vw.TR.pos{x y:bh}(h:V.TR x y):V.pu x.pos y.pos:=h.2.2.2.2
theorem Vw.LR.nil:V.LR [] []:=⟨rfl,fun _ h=>nomatch h⟩
theorem Vw.VR.lr{k l:Int}(h:V.VR k l):V.LR [k] [l]:=⟨by simp[h.2],by simp[h.1]⟩
theorem Vw.LR.app{a b c d:List Int}(h:V.LR a b)(h':V.LR c d):V.LR (a++c) (b++d):=⟨by rw[h.1,h'.1,List.map_append],fun k hk=>by
 rcases List.mem_append.1 hk with hk|hk
 ·exact h.2 k hk
 ·exact h'.2 k hk⟩
theorem Vw.LR.len{a b:List Int}(h:V.LR a b):b.length=a.length:=by rw[h.1];simp
theorem Vw.LR.one{a b:List Int}(h:V.LR a b)(hl:a.length=1):V.VR (a.headD 0) (b.headD 0):=by
 match a,hl with
 | [k],_=>rw[h.1];exact⟨h.2 k aL,rfl⟩
theorem uB{tag:ap}{k k':Int}{t t':al}(hk:V.VR k k')(h:V.R t t'):V.dC tag [k] t [k'] t':=⟨hk.lr,fun _=>rfl,.inl h⟩
theorem wm{tag:ap}{k k':List Int}{t t':al}(a:tag.xe=false)(hk:V.LR k k')(h:V.R t t'):V.dC tag k t k' t':=⟨hk,fun e=>(by rw[a]at e;cases e),.inl h⟩
theorem SR.one{m m':PM (List Int)}{tag:ap}(h:SR m m' s s' (V.dC tag))(b:tag.xe=true){Q:Int->al->Int->al->Prop}(k:∀k t k' t',V.VR k k'->(V.R t t'\/(tag.vU=true/\V.na t t'))->Q k t k' t'):SR (one m) (one m') s s' Q:=by
 show SR (m>>=fun l=>Go.Proofs.YtdkchodgklpomaaGreatDoor.ret (l.headD 0)) (m'>>=fun l=>Go.Proofs.YtdkchodgklpomaaGreatDoor.ret (l.headD 0)) s s' Q;exact SR.bind (h.mono fun a t c t' hp=>SR.ret (k _ _ _ _ (hp.1.one (hp.2.1 b)) hp.2.2))
theorem Vw.fy.one(m:V.fy f)(j:f<=g){tag b:ap}(l:V.GR tag b)(h:V.R s s'){Q:Int->al->Int->al->Prop}(k:∀k t k' t',V.VR k k'->V.R t t'->Q k t k' t')(fQ:V.cK=true->tag.ex=true:=by intro _;rfl)(hp:V.pre s tag:=by trivial)(d:tag.xe=true:=by rfl)(i:tag.vU=false:=by rfl):SR (Go.Proofs.YtdkchodgklpomaaGreatDoor.one (V.PA f tag)) (Go.Proofs.YtdkchodgklpomaaGreatDoor.one (V.PB g b)) s s' Q:=
 SR.one (m tag b s s' g j l fQ hp h) d fun a t n t' hk c=>by
  rcases c with c| ⟨e,_⟩
  ·exact k _ _ _ _ hk c
  ·rw[i]at e;cases e
theorem Vw.fy.yP(j:V.fy f)(d:f<=g){tag b:ap}(i:V.GR tag b)(h:V.R s s'){Q:Int->al->Int->al->Prop}(k:∀k t k' t',V.VR k k'->(V.R t t'\/V.na t t')->Q k t k' t')(fQ:V.cK=true->tag.ex=true:=by intro _;rfl)(hp:V.pre s tag:=by trivial)(c:tag.xe=true:=by rfl):SR (Go.Proofs.YtdkchodgklpomaaGreatDoor.one (V.PA f tag)) (Go.Proofs.YtdkchodgklpomaaGreatDoor.one (V.PB g b)) s s' Q:=
 SR.one (j tag b s s' g d i fQ hp h) c fun a t l t' hk e=>k _ _ _ _ hk (e.imp id (·.2))
theorem Vw.fy.run(l:V.fy f)(d:f<=g){tag b:ap}(j:V.GR tag b)(h:V.R s s'){Q:List Int->al->List Int->al->Prop}(k:∀k t k' t',V.LR k k'->(tag.xe=true->k.length=1)->V.R t t'->Q k t k' t')(fQ:V.cK=true->tag.ex=true:=by intro _;rfl)(hp:V.pre s tag:=by trivial)(c:tag.vU=false:=by rfl):SR (V.PA f tag) (V.PB g b) s s' Q:=
 (l tag b s s' g d j fQ hp h).mono fun a t m t' hp=>by
  rcases hp.2.2 with i| ⟨e,_⟩
  ·exact k _ _ _ _ hp.1 hp.2.1 i
  ·rw[c]at e;cases e
theorem Vw.fy.dH(l:V.fy f)(j:f<=g){tag b:ap}(c:ap)(k:V.GR tag b)(h:V.R s s')(fQ:V.cK=true->tag.ex=true:=by intro _;rfl)(hp:V.pre s tag:=by trivial)(d:tag.xe=c.xe:=by rfl)(i:tag.vU=true->c.vU=true:=by intro e;first|exact e|rfl|cases e):SR (V.PA f tag) (V.PB g b) s s' (V.dC c):=
 (l tag b s s' g j k fQ hp h).mono fun a t m t' hp=>⟨hp.1,fun e=>hp.2.1 (d.trans e),hp.2.2.imp id fun x=>⟨i x.1,x.2⟩⟩
theorem SR.cZ(h:V.R s s'){x y:cj}(hx:V.XR x y){tag:ap}:SR (cg x) (cg y) s s' (V.dC tag):=by
 show SR (db x>>=fun k=>Go.Proofs.YtdkchodgklpomaaGreatDoor.ret [k]) (db y>>=fun k=>Go.Proofs.YtdkchodgklpomaaGreatDoor.ret [k]) s s' _;exact SR.bind (SR.node h hx fun k t k' t' hk a=>SR.ret (uB hk a))
theorem nk(h:V.R s s'){kd a:Int}{op b:ByteArray}{num iL:Nat}{ks dF:List Int}{p p':Int}(hk:V.LR ks dF)(hp:V.pu p p'){tag:ap}(c:a=kd:=by rfl)(d:b=op:=by first|rfl|assumption)(e:iL=num:=by first|rfl|assumption):SR (cg ⟨kd,op,num,ks,p⟩) (cg ⟨a,b,iL,dF,p'⟩) s s' (V.dC tag):=SR.cZ h (show V.XR ⟨kd,op,num,ks,p⟩ ⟨a,b,iL,dF,p'⟩from⟨c,d,e,hk.1,hp⟩)
theorem vI(h:V.R s s'){kd a:Int}{op b:ByteArray}{num iL:Nat}{ks dF:List Int}{p p':Int}(hk:V.LR ks dF)(hp:V.pu p p'){Q:Int->al->Int->al->Prop}(k:∀k t k' t',V.VR k k'->V.R t t'->Q k t k' t')(c:a=kd:=by rfl)(d:b=op:=by first|rfl|assumption)(e:iL=num:=by first|rfl|assumption):SR (db ⟨kd,op,num,ks,p⟩) (db ⟨a,b,iL,dF,p'⟩) s s' Q:=SR.node h (show V.XR ⟨kd,op,num,ks,p⟩ ⟨a,b,iL,dF,p'⟩from⟨c,d,e,hk.1,hp⟩) k
theorem Zj(h:V.R s s'\/V.na s s'){x y:cj}(hx:V.XR x y){tag:ap}(b:tag.vU=true):SR (cg x) (cg y) s s' (V.dC tag):=by
 rcases h with h|h
 ·exact SR.cZ h hx
 ·intro a t e;cases e;exact⟨_,_,rfl,h.toNR.vr.lr,fun _=>rfl,.inr ⟨b,h.push hx⟩⟩
theorem Hl(n:Nat):cI ((nH[n]?).getD []) rp=false/\cI ((nH[n]?).getD []) dm=false:=by
 match n with
 |0=>exact aq
 |1=>exact aq
 |2=>exact aq
 |3=>exact aq
 |4=>exact aq
 |5=>exact aq
 |6=>exact aq
 |7=>exact aq
 |8=>exact aq
 |9=>exact aq
 |n+10=>exact aq
theorem Zs(b:V.Ok)(e:V.fy f)(c:f<=g)(i:V.R s s'):SR (V.PA (f+1) .aZ) (V.PB (g+1) .aZ) s s' (V.dC .aZ):=by
 unfold Vw.PA Vw.PB;rw[P,P];refine SR.bind (e.one c .cond i fun k t k' t' hk h=>SR.bind (SR.ce (SR.bif (h.ask b (fun kd tx _=>kd !=5|| !cI pd tx) (fun _ _=>aq)) (fun _ _=>SR.ret (uB hk h)) (fun l _=>?_))));have a:=h.NV b (fun kd tx _=>kd !=5|| !cI pd tx) false rfl (fun _=>rfl) l;have j:=h.nE b a;have hx:=j.2.1;exact SR.bind (SR.j9 h.toNR hk (SR.bind (SR.step h a fun u q n=>SR.bind (e.one c .aZ n fun r v o w m d=>SR.bind (SR.dN d.toNR hk fun p p' hp=>nk d (hk.lr.app m.lr) hp)))))
theorem Zr(i:V.Ok)(d:V.fy f)(c:f<=g)(j:V.R s s'):SR (V.PA (f+1) .cond) (V.PB (g+1) .cond) s s' (V.dC .cond):=by
 unfold Vw.PA Vw.PB;rw[P,P];exact SR.bind (d.one c (.level 0) j fun k t k' t' hk h=>SR.bind (SR.b9 i h rfl (fun u z n _=>SR.bif rfl (fun e _=>nomatch e) (fun _ _=>SR.bind (d.one c .aZ n fun a v r A l o=>SR.bind (SR.bV i o rfl fun w w' q=>SR.bind (d.one c .aZ q fun b x y B m hx=>SR.bind (SR.dN hx.toNR hk fun p p' hp=>nk hx (hk.lr.app (l.lr.app m.lr)) hp)))))) (fun _=>SR.bif rfl (fun _ _=>SR.ret (uB hk h)) (fun e _=>nomatch e))))
theorem Zv(b:V.fy f)(a:f<=g)(n:Nat)(c:V.R s s'):SR (V.PA (f+1) (.level n)) (V.PB (g+1) (.level n)) s s' (V.dC (.level n)):=by
 unfold Vw.PA Vw.PB;rw[P,P];exact SR.bif rfl (fun _ _=>b.dH a _ .unary c) (fun _ _=>SR.bind (b.one a (.level (n+1)) c fun k t k' t' hk h=>b.dH a _ (.fM n hk) h))
theorem Zw(c:V.Ok)(i:V.fy f)(e:f<=g)(n:Nat){k k':Int}(hk:V.VR k k')(a:V.R s s'):SR (V.PA (f+1) (.fM n k)) (V.PB (g+1) (.fM n k')) s s' (V.dC (.fM n k)):=by
 unfold Vw.PA Vw.PB;rw[P,P];refine SR.bind (SR.ce (SR.bif (a.ask c (fun kd tx _=>(kd !=5&&kd !=2)|| !cI ((nH[n]?).getD []) tx) (fun _ _=>?_)) (fun _ _=>SR.ret (uB hk a)) (fun j _=>?_)))
 ·rw[(Hl n).1,(Hl n).2];simp[*]
 have b:=a.NV c (fun kd tx _=>(kd !=5&&kd !=2)|| !cI ((nH[n]?).getD []) tx) false rfl (fun _=>by rw[(Hl n).1];rfl) j;have d:=a.nE c b;have hx:=d.2.1;have hn:=d.2.2.1;exact SR.bind (SR.step a b fun u y q=>SR.bind (i.one e (.level (n+1)) q fun r v x z o h=>SR.bind (SR.dN h.toNR hk fun p p' hp=>SR.bind (vI h (hk.lr.app o.lr) hp fun m w m' w' l t=>i.dH e _ (.fM n l) t))))
theorem ZI(j:V.Ok)(e:V.fy f)(d:f<=g)(c:V.R s s'):SR (V.PA (f+1) .unary) (V.PB (g+1) .unary) s s' (V.dC .unary):=by
 rcases c.GG j with l|b
 ·exact SR.no (N4 _ _ rfl l)
 have a:=c.nE j b;have hx:=a.2.1;have hn:=a.2.2.1;unfold Vw.PA Vw.PB;rw[P,P];refine SR.bind (SR.ce (SR.bif (by rw[a.1]) (fun _ _=>e.dH d _ .dD c) (fun _ _=>SR.bif (by rw[a.2.1]) (fun _ _=>?_) (fun _ _=>SR.bif (by rw[a.2.1]) (fun _ _=>?_) (fun _ _=>e.dH d _ .dD c)))))
 ·exact SR.bind (SR.step c b fun u m i=>SR.bind (e.one d .unary i fun k t k' t' hk h=>SR.bind (SR.bif (by rw[a.2.1]) (fun _ _=>SR.j9 h.toNR hk (nk h hk.lr a.pos)) (fun _ _=>SR.ret (nk h hk.lr a.pos)))))
 ·exact SR.bind (SR.step c b fun u m i=>SR.bind (e.one d .unary i fun k t k' t' hk h=>SR.bind (SR.j9 h.toNR hk (nk h hk.lr a.pos))))
theorem Zl(b:V.Ok)(m:V.fy f)(j:f<=g)(d:V.R s s'):SR (V.PA (f+1) .dD) (V.PB (g+1) .dD) s s' (V.dC .dD):=by
 unfold Vw.PA Vw.PB;rw[P,P];refine SR.bind (m.one j .suffix d fun k t k' t' hk h=>SR.bind (SR.ce (SR.bif (h.ask b (fun kd tx l=>kd !=5||(l||(!bC tx pp&& !bC tx mm))) (fun _ n=>by cases n <;> exact⟨rfl,rfl⟩)) (fun _ _=>SR.ret (uB hk h)) (fun i _=>?_))));have a:=h.NV b (fun kd tx l=>kd !=5||(l||(!bC tx pp&& !bC tx mm))) false rfl (fun l=>by cases l <;> rfl) i;have e:=h.nE b a;have hx:=e.2.1;exact SR.bind (SR.j9 h.toNR hk (SR.bind (SR.step h a fun u o c=>SR.bind (SR.dN c.toNR hk fun p p' hp=>nk c hk.lr hp))))
theorem ZF(b:V.fy f)(a:f<=g)(c:V.R s s'):SR (V.PA (f+1) .suffix) (V.PB (g+1) .suffix) s s' (V.dC .suffix):=by
 unfold Vw.PA Vw.PB;rw[P,P];exact SR.bind (b.one a .dk c fun k t k' t' hk h=>b.dH a _ (.dO hk) h)
theorem N5(a:V.Ok)(b:V.cK=true){t:al}(h:V.dA<=t.i):bc V.A t 0 lp=false:=by
 unfold bc;rw[Nat.add_zero];cases hx:V.A[t.i]? with
 |none=>rfl
 |some x=>exact a.agI b _ _ h hx
theorem Vw.R.dA(h:V.R s s'):V.dA<=s.i:=by
 obtain⟨i,_,a,_⟩:=h.at_;omega
theorem ZB(a:V.Ok)(o:V.fy f)(i:f<=g){k k':Int}(hk:V.VR k k')(d:V.R s s'):SR (V.PA (f+1) (.dO k)) (V.PB (g+1) (.dO k')) s s' (V.dC (.dO k)):=by
 unfold Vw.PA Vw.PB;rw[P,P];refine SR.bind (SR.b9 a d rfl (fun t t' h _=>SR.bif rfl (fun _ _=>?_) (fun e _=>nomatch e)) (fun _=>SR.bif rfl (fun e _=>nomatch e) (fun _ _=>SR.bind (SR.b9 a d rfl (fun t t' h _=>SR.bif rfl (fun _ _=>?_) (fun e _=>nomatch e)) (fun _=>SR.bif rfl (fun e _=>nomatch e) (fun _ _=>SR.bind (SR.b9 a d rfl (fun t t' h hl=>SR.bif rfl (fun _ _=>?_) (fun e _=>nomatch e)) (fun _=>SR.bif rfl (fun e _=>nomatch e) (fun _ _=>SR.ret (uB hk d))))))))))
 ·rcases h.GG a with q|j
  ·refine SR.no (NO.ce (NO.bind (NO.bif (fun _=>NO.dI) (fun y=>?_))));rw[q.ask (fun k _=>k !=1&&k !=2) (b:=true) rfl rfl]at y;cases y
  ·have x:=h.nE a j;have hx:=x.2.1;exact SR.bind (SR.ce (SR.bind (SR.bif (by rw[x.1]) (fun _ _=>SR.no NO.dI) (fun _ _=>SR.ret (SR.bind (SR.step h j fun u A c=>SR.bind (SR.dN c.toNR hk fun p p' hp=>SR.bind (vI c hk.lr hp fun m w m' w' l n=>o.dH i _ (.dO l) n))))))))
 ·exact SR.bind (o.one i .aZ h fun e u D A q c=>SR.bind (SR.bV a c rfl fun v E z=>SR.bind (SR.dN z.toNR hk fun p p' hp=>SR.bind (vI z (hk.lr.app q.lr) hp fun m w m' w' l n=>o.dH i _ (.dO l) n))))
 ·have B:V.cK=false:=by
   cases C:V.cK with
   |false=>rfl
   |true=>rw[N5 a C d.dA]at hl;cases hl
  exact SR.bind (o.run i (.dS hk.lr) h (fun ks u dF A r _ c=>SR.bind (SR.dN c.toNR hk fun p p' hp=>SR.bind (vI c r hp fun m w m' w' l n=>o.dH i _ (.dO l) n))) (fQ:=fun e=>by rw[B]at e;cases e))
theorem Zo(b:V.Ok)(j:V.cK=false)(l:V.fy f)(k:f<=g){ks dF:List Int}(hk:V.LR ks dF)(a:V.R s s'):SR (V.PA (f+1) (.dS ks)) (V.PB (g+1) (.dS dF)) s s' (V.dC (.dS ks)):=by
 rcases a.nu b j with c|d
 ·exact SR.no (pr _ _ rfl c)
 have hx:∀{t:ap},V.cK=true->t.ex=true:=fun e=>by rw[j]at e;cases e
 unfold Vw.PA Vw.PB;rw[P,P];have K:∀{t t':al},V.R t t'->SR (one (V.PA f .aZ)>>=fun e=>V.PA f (.dS (ks++[e]))) (one (V.PB g .aZ)>>=fun e=>V.PB g (.dS (dF++[e]))) t t' (V.dC (.dS ks)):=fun h=>SR.bind (l.one k .aZ h fun e u n m c i=>l.dH k _ (.dS (hk.app c.lr)) i hx);exact SR.bind (vH b a d (fun t t' h _=>SR.bif rfl (fun _ _=>SR.ret (wm rfl hk h)) (fun e _=>nomatch e)) (fun _=>SR.bif rfl (fun e _=>nomatch e) (fun _ _=>SR.bind (SR.bif (by rw[hk.len]) (fun _ _=>SR.bV b a rfl fun u m i=>K i) (fun _ _=>SR.ret (K a))))))
theorem Zk(c:V.Ok)(j:V.fy f)(i:f<=g){ks dF:List Int}(hk:V.LR ks dF)(d:V.R s s'):SR (V.PA (f+1) (.cR ks)) (V.PB (g+1) (.cR dF)) s s' (V.dC (.cR ks)):=by
 unfold Vw.PA Vw.PB;rw[P,P];have K:∀{e b:Int}{t t':al},V.VR e b->V.R t t'->SR (V.PA f (.cR (ks++[e]))) (V.PB g (.cR (dF++[b]))) t t' (V.dC (.cR ks)):=fun a h=>j.dH i _ (.cR (hk.app a.lr)) h;exact SR.bind (SR.b9 c d rfl (fun t t' h _=>SR.bif rfl (fun _ _=>SR.ret (wm rfl hk h)) (fun e _=>nomatch e)) (fun _=>SR.bif rfl (fun e _=>nomatch e) (fun _ _=>SR.bind (j.one i .aZ d fun e t b t' a h=>SR.bind (SR.is c h rfl (SR.bind (SR.bif rfl (fun _ _=>SR.bV c h rfl fun u l k=>K a k) (fun _ _=>SR.ret (K a h)))))))))
theorem Zy(b:V.Ok)(m:V.fy f)(l:f<=g){ks dF:List Int}(hk:V.LR ks dF)(k:V.R s s'):SR (V.PA (f+1) (.cU ks)) (V.PB (g+1) (.cU dF)) s s' (V.dC (.cU ks)):=by
 unfold Vw.PA Vw.PB;rw[P,P];have K:∀{a i e j:Int}{t t':al},V.VR a i->V.VR e j->V.R t t'->SR (V.PA f (.cU (ks++[a]++[e]))) (V.PB g (.cU (dF++[i]++[j]))) t t' (V.dC (.cU ks)):=fun c d h=>m.dH l _ (.cU ((hk.app c.lr).app d.lr)) h;exact SR.bind (SR.b9 b k rfl (fun t t' h _=>SR.bif rfl (fun _ _=>SR.ret (wm rfl hk h)) (fun e _=>nomatch e)) (fun _=>SR.bif rfl (fun e _=>nomatch e) (fun _ _=>SR.bind (SR.key b k fun a v i r c o=>SR.bind (SR.bV b o rfl fun w w' p=>SR.bind (m.one l .aZ p fun e t j t' d h=>SR.bind (SR.is b h rfl (SR.bind (SR.bif rfl (fun _ _=>SR.bV b h rfl fun u q n=>K c d n) (fun _ _=>SR.ret (K c d h)))))))))))
theorem agC(c:V.Ok)(d:V.cK=true)(k:Int)(h:V.dA<=s.i):∀f,NO (V.PA f (.func k)) s:=by
 intro f;cases f with
 |zero=>show NO (P V.A V.fA V.aI V.wide 0 _) s;rw[P];exact NO.out
 |succ f=>
  show NO (P V.A V.fA V.aI V.wide (f+1) _) s;rw[P];refine NO.ce (sm fun a t e=>?_);cases e;refine NO.get (sm fun a t e=>?_);have hi:V.dA<=t.i:=by
   revert e;cases (k==35||nameV V.A {s with i:=s.i+1} 0)with
   |true=>
    intro e;have b:gD V.A V.fA {s with i:=s.i+1}= .ok a t:=e;unfold gD at b;grind
   |false=>intro e;cases e;show V.dA<=s.i+1;omega
  exact NO.bind (NO.bV (N5 c d hi))
theorem ZC(i:V.Ok)(q:V.fy f)(n:f<=g)(d:V.R s s'):SR (V.PA (f+1) .dk) (V.PB (g+1) .dk) s s' (V.dC .dk):=by
 rcases d.GG i with w|a
 ·exact SR.no (N4 _ _ rfl w)
 have c:=d.nE i a;have hx:=c.2.1;have hn:=c.2.2.1;have is:=fun T=>d.isLt i a T;unfold Vw.PA Vw.PB;rw[P,P];have b:∀{kd:Int}{op m:ByteArray}{num iL:Nat}{p p':Int},V.pu p p'->m=op->iL=num->SR (eE>>=fun _=>cg ⟨kd,op,num,[],p⟩) (eE>>=fun _=>cg ⟨kd,m,iL,[],p'⟩) s s' (V.dC .dk):=fun hp z A=>SR.bind (SR.step d a fun u r l=>nk l .nil hp);refine SR.bind (SR.ce (SR.bif (by rw[c.1]) (fun _ _=>b c.pos rfl hn) (fun _ _=>SR.bif (by rw[c.1]) (fun _ _=>b c.pos hx rfl) (fun _ _=>SR.bif (by rw[c.1]) (fun _ _=>b c.pos hx rfl) (fun _ _=>SR.bind (SR.get (SR.bif (by simp[*]) (fun _ _=>b c.pos hx rfl) (fun _ _=>SR.bif (is _) (fun B _=>?_) (fun _ _=>?_)))))))))
 ·cases o:V.cK with
  |true=>exact SR.no (agC i o _ d.dA f)
  |false=>exact q.dH n _ (.func 7) d (fun e=>by rw[o]at e;cases e) a
 ·refine SR.bind (vH i d a (fun t t' h hl=>SR.bif rfl (fun _ _=>?_) (fun e _=>nomatch e)) (fun _=>SR.bif rfl (fun e _=>nomatch e) (fun _ _=>SR.bind (vH i d a (fun t t' h _=>SR.bif rfl (fun _ _=>?_) (fun e _=>nomatch e)) (fun _=>SR.bif rfl (fun e _=>nomatch e) (fun _ _=>SR.bind (vH i d a (fun t t' h _=>SR.bif rfl (fun _ _=>?_) (fun e _=>nomatch e)) (fun _=>SR.bif rfl (fun e _=>nomatch e) (fun _ _=>SR.no NO.dI)))))))))
  ·have x:V.cK=false:=by
    cases o:V.cK with
    |false=>rfl
    |true=>rw[N5 i o d.dA]at hl;cases hl
   exact SR.bind (q.one n .aZ h fun k u k' r hk l=>SR.bind (xM i x l fun v C y=>SR.ret (uB hk y)))
  ·exact SR.bind (q.run n (.cR .nil) h fun ks u dF r j _ l=>nk l j c.pos)
  ·exact SR.bind (q.run n (.cU .nil) h fun ks u dF r j _ l=>nk l j c.pos)
end
end
end Go.Proofs.YtdkchodgklpomaaGreatDoor
