/- Part of the proof that ParseShape answers true at every input. -/
import Derived.Test.YtdkchodgklpomaaGreatDoorPSak
set_option linter.all false
namespace Go.Proofs.YtdkchodgklpomaaGreatDoor
set_option maxRecDepth 100000
open Go.Value (int slice string bool pointer agg tuple func float iface nilIface)
open Go.IntKind (i64 u8 u64 i32 u32 u16 i8 i16)
open Go.FloatKind (f64)
open Go.Ending (returned panicked)
section
open Go
section
variable{fin:Int}{L:List bA}{aL:Nat->ByteArray}{wide:ByteArray->ByteArray}
abbrev fA(L:List bA)(tag:ar)(s:aw):List Int->aw->Prop:=fun _ t=>left L t<=left L s/\(tag.cons=true->left L t<left L s)
variable{Q:List Int->aw->Prop}{f:Nat}{s:aw}
theorem fU.call(ih:fU L fin aL wide f)(tag:ar)(k:∀ks t,left L t<=left L s->(tag.cons=true->left L t<left L s)->Q ks t)(hn:tag.cC L s:=by trivial)(hf:24*left L s+tag.fc<=f:=by dsimp only[ar.fc]at*;omega):TP (P L fin aL wide f tag) s Q:=
 (ih tag s hn hf).mono fun ks t h=>k ks t h.1 h.2
theorem fU.kQ(ih:fU L fin aL wide f)(tag:ar)(k:∀ks t,left L t<left L s->Q ks t)(hn:tag.cC L s:=by trivial)(hf:24*left L s+tag.fc<=f:=by dsimp only[ar.fc]at*;omega)(hc:tag.cons=true:=by rfl):TP (P L fin aL wide f tag) s Q:=
 (ih tag s hn hf).mono fun ks t h=>k ks t (h.2 hc)
theorem fU.fI(ih:fU L fin aL wide f)(tag:ar){Q:Int->aw->Prop}(k:∀k t,left L t<left L s->Q k t)(hn:tag.cC L s:=by trivial)(hf:24*left L s+tag.fc<=f:=by dsimp only[ar.fc]at*;omega)(hc:tag.cons=true:=by rfl):TP (one (P L fin aL wide f tag)) s Q:=by
 show TP (P L fin aL wide f tag>>=fun l=>Go.Proofs.YtdkchodgklpomaaGreatDoor.ret (l.headD 0)) s Q;exact TP.bind ((ih tag s hn hf).mono fun ks t h=>k _ t (h.2 hc))
theorem TP.bM{x:cA}(h:∀k t,left L t<=left L s->Q [k] t):TP (bM x) s Q:=h _ {s with nodes:=s.nodes++[x]} (cr _)
theorem ac6(ih:fU L fin aL wide f)(hf:24*left L s+ar.bx.fc<=f+1):TP (P L fin aL wide (f+1) .bx) s (fA L .bx s):=by
 rw[P];refine TP.bind (ih.fI .cond fun k t h=>TP.bind (TP.dj (TP.bif (fun _=>TP.ret ⟨af,fun _=>af⟩) (fun hk=>TP.bind (TP.o8 (TP.bind (TP.step (L:=L) (jX (fin:=fin) ?_) fun u g=>TP.bind (ih.fI .bx fun r v q=>TP.bind (TP.fJ fun p=>TP.bM (L:=L) fun k w e=>⟨af,fun _=>af⟩)))))))));grind
theorem ac5(ih:fU L fin aL wide f)(hf:24*left L s+ar.cond.fc<=f+1):TP (P L fin aL wide (f+1) .cond) s (fA L .cond s):=by
 rw[P];exact TP.bind (ih.fI (.level 0) (hn:=dC _) fun c t h=>TP.bind (TP.cZ (fun u g=>TP.bif (fun e=>nomatch e) (fun _=>TP.bind (ih.fI .bx fun a v q=>TP.bind (TP.cK fun w e=>TP.bind (ih.fI .bx fun b y z=>TP.bind (TP.fJ fun p=>TP.bM (L:=L) fun k w e=>⟨af,fun _=>af⟩)))))) (fun _=>TP.bif (fun _=>TP.ret ⟨af,fun _=>af⟩) (fun e=>nomatch e))))
theorem adn(ih:fU L fin aL wide f)(hf:24*left L s+ar.unary.fc<=f+1):TP (P L fin aL wide (f+1) .unary) s (fA L .unary s):=by
 rw[P];refine TP.bind (TP.dj (TP.bif (fun _=>ih.call .gf fun ks t h g=>⟨h,fun _=>g rfl⟩) (fun hk=>?_)));have hi:s.i<L.length:=jX (fin:=fin) (fun e=>by rw[e]at hk;cases hk);exact TP.bif (fun _=>TP.bind (TP.step (L:=L) hi fun t h=>TP.bind (ih.fI .unary fun k u g=>TP.bind (TP.bif (fun _=>TP.o8 (TP.bM (L:=L) fun k w e=>⟨af,fun _=>af⟩)) (fun _=>TP.ret (TP.bM (L:=L) fun k w e=>⟨af,fun _=>af⟩)))))) (fun _=>TP.bif (fun _=>TP.bind (TP.step (L:=L) hi fun t h=>TP.bind (ih.fI .unary fun k u g=>TP.bind (TP.o8 (TP.bM (L:=L) fun k w e=>⟨af,fun _=>af⟩))))) (fun _=>ih.call .gf fun ks t h g=>⟨h,fun _=>g rfl⟩))
theorem acZ(ih:fU L fin aL wide f)(hf:24*left L s+ar.gf.fc<=f+1):TP (P L fin aL wide (f+1) .gf) s (fA L .gf s):=by
 rw[P];refine TP.bind (ih.fI .suffix fun k t h=>TP.bind (TP.dj (TP.bif (fun _=>TP.ret ⟨af,fun _=>af⟩) (fun hk=>TP.bind (TP.o8 (TP.bind (TP.step (L:=L) (jX (fin:=fin) ?_) fun u g=>TP.bind (TP.fJ fun p=>TP.bM (L:=L) fun k w e=>⟨af,fun _=>af⟩))))))));grind
theorem adk(ih:fU L fin aL wide f)(hf:24*left L s+ar.suffix.fc<=f+1):TP (P L fin aL wide (f+1) .suffix) s (fA L .suffix s):=by
 rw[P];exact TP.bind (ih.fI .fx fun k t h=>ih.call (.gm k) fun ks u g _=>⟨af,fun _=>af⟩)
theorem ac2(ih:fU L fin aL wide f)(aF:List Int)(hf:24*left L s+(ar.gY aF).fc<=f+1):TP (P L fin aL wide (f+1) (.gY aF)) s (fA L (.gY aF) s):=by
 rw[P];have gu:∀{t:aw},left L t<=left L s->TP (one (P L fin aL wide f .bx)>>=fun e=>P L fin aL wide f (.gY (aF++[e]))) t (fA L (.gY aF) s):=fun{t}h=>TP.bind (ih.fI .bx fun e u g=>ih.call (.gY (aF++[e])) fun ks v q _=>⟨af,fun _=>af⟩);exact TP.bind (TP.cZ (fun t h=>TP.bif (fun _=>TP.ret ⟨af,fun _=>af⟩) (fun e=>nomatch e)) (fun _=>TP.bif (fun e=>nomatch e) (fun _=>TP.bind (TP.bif (fun _=>TP.cK fun t h=>gu (Nat.le_of_lt h)) (fun _=>TP.ret (gu (cr _)))))))
theorem acY(ih:fU L fin aL wide f)(aF:List Int)(hf:24*left L s+(ar.dY aF).fc<=f+1):TP (P L fin aL wide (f+1) (.dY aF)) s (fA L (.dY aF) s):=by
 rw[P];exact TP.bind (TP.cZ (fun t h=>TP.bif (fun _=>TP.ret ⟨af,fun _=>af⟩) (fun e=>nomatch e)) (fun _=>TP.bif (fun e=>nomatch e) (fun _=>TP.bind (ih.fI .bx fun e u g=>TP.bind (TP.om fun b _=>TP.bind (TP.bif (fun _=>TP.cK fun t h=>ih.call (.dY (aF++[e])) fun ks v q _=>⟨af,fun _=>af⟩) (fun _=>TP.ret (ih.call (.dY (aF++[e])) fun ks v q _=>⟨af,fun _=>af⟩))))))))
theorem adb(ih:fU L fin aL wide f)(aF:List Int)(hf:24*left L s+(ar.ey aF).fc<=f+1):TP (P L fin aL wide (f+1) (.ey aF)) s (fA L (.ey aF) s):=by
 rw[P];exact TP.bind (TP.cZ (fun t h=>TP.bif (fun _=>TP.ret ⟨af,fun _=>af⟩) (fun e=>nomatch e)) (fun _=>TP.bif (fun e=>nomatch e) (fun _=>TP.bind (TP.key fun k t h=>TP.bind (TP.cK fun u g=>TP.bind (ih.fI .bx fun e v q=>TP.bind (TP.om fun b _=>TP.bind (TP.bif (fun _=>TP.cK fun t h=>ih.call (.ey (aF++[k]++[e])) fun ks v q _=>⟨af,fun _=>af⟩) (fun _=>TP.ret (ih.call (.ey (aF++[k]++[e])) fun ks v q _=>⟨af,fun _=>af⟩))))))))))
theorem ade(ih:fU L fin aL wide f)(hf:24*left L s+ar.paren.fc<=f+1):TP (P L fin aL wide (f+1) .paren) s (fA L .paren s):=by
 rw[P];exact TP.bind (TP.cK fun t h=>TP.bind (ih.fI .bx fun k u g=>TP.bind (TP.cK fun v q=>TP.ret ⟨af,fun _=>af⟩)))
theorem ac0(ih:fU L fin aL wide f)(body:Bool)(hf:24*left L s+(ar.block body).fc<=f+1):TP (P L fin aL wide (f+1) (.block body)) s (fA L (.block body) s):=by
 rw[P];exact TP.bind (TP.dj (TP.bind (TP.cK fun t h=>TP.bind (ih.kQ (.jR [] body) fun ks u g=>TP.bM (L:=L) fun k w e=>⟨af,fun _=>af⟩))))
theorem ac1(ih:fU L fin aL wide f)(aF:List Int)(body:Bool)(hf:24*left L s+(ar.jR aF body).fc<=f+1):TP (P L fin aL wide (f+1) (.jR aF body)) s (fA L (.jR aF body) s):=by
 rw[P];exact TP.bind (TP.cZ (fun t h=>TP.bif (fun _=>TP.ret ⟨af,fun _=>af⟩) (fun e=>nomatch e)) (fun _=>TP.bif (fun e=>nomatch e) (fun _=>TP.bind (ih.fI (.cS body) fun k t h=>ih.kQ (.jR (aF++[k]) body) fun ks u g=>⟨af,fun _=>af⟩))))
theorem ac3(ih:fU L fin aL wide f)(aF:List Int)(hf:24*left L s+(ar.iz aF).fc<=f+1):TP (P L fin aL wide (f+1) (.iz aF)) s (fA L (.iz aF) s):=by
 rw[P];exact TP.bind (TP.get (TP.bif (fun _=>TP.bind (ih.fI (.cS false) fun k t h=>ih.call (.iz (aF++[k])) fun ks u g _=>⟨af,fun _=>af⟩)) (fun _=>TP.ret ⟨cr _,fun e=>nomatch e⟩)))
theorem adh(ih:fU L fin aL wide f)(aF:List Int)(hf:24*left L s+(ar.prog aF).fc<=f+1):TP (P L fin aL wide (f+1) (.prog aF)) s (fA L (.prog aF) s):=by
 rw[P];exact TP.bind (TP.get (TP.bif (fun _=>TP.bind (ih.fI (.cS true) fun k t h=>ih.call (.prog (aF++[k])) fun ks u g _=>⟨af,fun _=>af⟩)) (fun _=>TP.bM (L:=L) fun k w e=>⟨e,fun e=>nomatch e⟩)))
theorem adc(ih:fU L fin aL wide f)(aF:List Int)(hf:24*left L s+(ar.gk aF).fc<=f+1):TP (P L fin aL wide (f+1) (.gk aF)) s (fA L (.gk aF) s):=by
 rw[P];have gu:∀{t:aw},left L t<=left L s->TP (ig L fin>>=fun x=>ly L fin>>=fun w=>eK ⟨3,w,0,[],x.pos⟩>>=fun k=>P L fin aL wide f (.gk (aF++[k]))) t (fA L (.gk aF) s):=fun{t}h=>TP.bind (TP.dj (TP.bind (TP.word fun w u g=>TP.bind (TP.node (L:=L) fun k v q=>ih.call (.gk (aF++[k])) fun ks y z _=>⟨af,fun _=>af⟩))));exact TP.bind (TP.cZ (fun t h=>TP.bif (fun _=>TP.ret ⟨af,fun _=>af⟩) (fun e=>nomatch e)) (fun _=>TP.bif (fun e=>nomatch e) (fun _=>TP.bind (TP.bif (fun _=>TP.cK fun t h=>gu (Nat.le_of_lt h)) (fun _=>TP.ret (gu (cr _)))))))
theorem ac9(ih:fU L fin aL wide f)(n:Nat)(hn:n<=10)(hf:24*left L s+(ar.level n).fc<=f+1):TP (P L fin aL wide (f+1) (.level n)) s (fA L (.level n) s):=by
 rw[P];refine TP.bif (fun _=>ih.call .unary fun ks t h g=>⟨h,fun _=>g rfl⟩) (fun hk=>?_);have h9:n≠10:=fun e=>by rw[e]at hk;cases hk
 have DR:n+1<=10:=af;have h8:n<=9:=af;exact TP.bind (ih.fI (.level (n+1)) (fun k t h=>ih.call (.j6 n k) (fun ks u g _=>⟨af,fun _=>af⟩) (hn:=h8)) (hn:=DR))
theorem ac_(ih:fU L fin aL wide f)(n:Nat)(lf:Int)(hn:n<=9)(hf:24*left L s+(ar.j6 n lf).fc<=f+1):TP (P L fin aL wide (f+1) (.j6 n lf)) s (fA L (.j6 n lf) s):=by
 rw[P];have DR:n+1<=10:=af;exact TP.bind (TP.dj (TP.bif (fun _=>TP.ret ⟨cr _,fun e=>nomatch e⟩) (fun hk=>TP.bind (TP.step (L:=L) (jX (fin:=fin) (fun e=>by rw[e]at hk;cases hk)) fun t h=>TP.bind (ih.fI (.level (n+1)) (fun r u g=>TP.bind (TP.fJ fun p=>TP.bind (TP.node (L:=L) fun k v q=>ih.call (.j6 n k) (fun ks y z _=>⟨af,fun e=>nomatch e⟩) (hn:=hn)))) (hn:=DR))))))
theorem adf(ih:fU L fin aL wide f)(k:Int)(hf:24*left L s+(ar.gm k).fc<=f+1):TP (P L fin aL wide (f+1) (.gm k)) s (fA L (.gm k) s):=by
 rw[P];have tl:∀{t:aw}{x:cA},left L t<left L s->TP (eK x>>=fun m=>P L fin aL wide f (.gm m)) t (fA L (.gm k) s):=fun{t x}h=>TP.bind (TP.node (L:=L) fun m u g=>ih.call (.gm m) fun ks v q _=>⟨af,fun e=>nomatch e⟩);exact TP.bind (TP.cZ (fun t h=>TP.bif (fun _=>TP.bind (TP.dj (TP.bind (TP.bif (fun _=>TP.fY) (fun hk=>TP.ret (TP.bind (TP.step (L:=L) (jX (fin:=fin) (fun e=>by rw[e]at hk;cases hk)) fun u g=>TP.bind (TP.fJ fun p=>tl af)))))))) (fun e=>nomatch e)) (fun _=>TP.bif (fun e=>nomatch e) (fun _=>TP.bind (TP.cZ (fun t h=>TP.bif (fun _=>TP.bind (ih.fI .bx fun e u g=>TP.bind (TP.cK fun v q=>TP.bind (TP.fJ fun p=>tl af)))) (fun e=>nomatch e)) (fun _=>TP.bif (fun e=>nomatch e) (fun _=>TP.bind (TP.cZ (fun t h=>TP.bif (fun _=>TP.bind (ih.kQ (.gY [k]) fun ks u g=>TP.bind (TP.fJ fun p=>tl af))) (fun e=>nomatch e)) (fun _=>TP.bif (fun e=>nomatch e) (fun _=>TP.ret ⟨cr _,fun e=>nomatch e⟩)))))))))
theorem adg(ih:fU L fin aL wide f)(hf:24*left L s+ar.fx.fc<=f+1):TP (P L fin aL wide (f+1) .fx) s (fA L .fx s):=by
 rw[P];have lf:∀{x:cA},s.i<L.length->TP (gA>>=fun _=>bM x) s (fA L .fx s):=fun{x}hi=>TP.bind (TP.step (L:=L) hi fun t h=>TP.bM (L:=L) fun k w e=>⟨af,fun _=>af⟩);refine TP.bind (TP.dj (TP.bif (fun hk=>lf (jX (fin:=fin) (fun e=>by rw[e]at hk;cases hk))) (fun _=>TP.bif (fun hk=>lf (jX (fin:=fin) (fun e=>by rw[e]at hk;cases hk))) (fun _=>TP.bif (fun hk=>lf (jX (fin:=fin) (fun e=>by rw[e]at hk;cases hk))) (fun _=>TP.bind (TP.get (TP.bif (fun hk=>lf ?_) (fun _=>TP.bif (fun hk=>ih.kQ (.func 7) (fun ks t h=>⟨af,fun _=>af⟩) (hn:=j5 hk)) (fun _=>?_)))))))))
 ·rw[Bool.or_eq_true,Bool.or_eq_true]at hk;rcases hk with hk|hk|hk
  ·exact j5 hk
  ·exact j5 hk
  ·exact j5 hk
 ·exact TP.bind (TP.cZ (fun t h=>TP.bif (fun _=>TP.bind (ih.fI .bx fun e u g=>TP.bind (TP.cK fun v q=>TP.ret ⟨af,fun _=>af⟩))) (fun e=>nomatch e)) (fun _=>TP.bif (fun e=>nomatch e) (fun _=>TP.bind (TP.cZ (fun t h=>TP.bif (fun _=>TP.bind (ih.kQ (.dY []) fun ks u g=>TP.bM (L:=L) fun k w e=>⟨af,fun _=>af⟩)) (fun e=>nomatch e)) (fun _=>TP.bif (fun e=>nomatch e) (fun _=>TP.bind (TP.cZ (fun t h=>TP.bif (fun _=>TP.bind (ih.kQ (.ey []) fun ks u g=>TP.bM (L:=L) fun k w e=>⟨af,fun _=>af⟩)) (fun e=>nomatch e)) (fun _=>TP.bif (fun e=>nomatch e) (fun _=>TP.fY)))))))))
theorem ac8(ih:fU L fin aL wide f)(kind:Int)(hn:s.i<L.length)(hf:24*left L s+(ar.func kind).fc<=f+1):TP (P L fin aL wide (f+1) (.func kind)) s (fA L (.func kind) s):=by
 rw[P];have tl:∀{t:aw}{op:ByteArray}{pos:Int},left L t<left L s->TP (dn L fin lp>>=fun _=>P L fin aL wide f (.gk [])>>=fun ps=>ie>>=fun s=>lV {s with bQ:=s.bQ+1,loops:=0,bI:=0}>>=fun _=>one (P L fin aL wide f (.block true))>>=fun b=>ie>>=fun t=>lV {t with bQ:=t.bQ-1,loops:=s.loops,bI:=s.bI}>>=fun _=>bM ⟨kind,op,0,ps++[b],pos⟩) t (fA L (.func kind) s):=fun{t op pos}h=>TP.bind (TP.cK fun u g=>TP.bind (ih.kQ (.gk []) fun ps v q=>TP.bind (TP.get (TP.bind (TP.set (L:=L) (by simp[*]) fun y z=>TP.bind (ih.fI (.block true) fun b w r=>TP.bind (TP.get (TP.bind (TP.set (L:=L) (by simp[*]) fun c d=>TP.bM (L:=L) fun k e' e=>⟨af,fun _=>af⟩)))))))));exact TP.bind (TP.dj (TP.bind (TP.step (L:=L) hn fun t h=>TP.bind (TP.get (TP.bind (TP.bif (fun _=>TP.word fun w u g=>tl af) (fun _=>TP.ret (tl h))))))))
theorem adp(ih:fU L fin aL wide f)(hn:s.i<L.length)(hf:24*left L s+ar.vars.fc<=f+1):TP (P L fin aL wide (f+1) .vars) s (fA L .vars s):=by
 rw[P];exact TP.bind (TP.dj (TP.bind (TP.step (L:=L) hn fun t h=>TP.bind (ih.kQ (.gR []) fun ks u g=>TP.bM (L:=L) fun k w e=>⟨af,fun _=>af⟩))))
theorem ado(ih:fU L fin aL wide f)(aF:List Int)(hf:24*left L s+(ar.gR aF).fc<=f+1):TP (P L fin aL wide (f+1) (.gR aF)) s (fA L (.gR aF) s):=by
 rw[P];have tl:∀{t:aw}{x:cA},left L t<left L s->TP (eK x>>=fun k=>eg L sG>>=fun h=>bif !h then ret (aF++[k]) else P L fin aL wide f (.gR (aF++[k]))) t (fA L (.gR aF) s):=fun{t x}h=>TP.bind (TP.node (L:=L) fun k u g=>TP.bind (TP.cZ (fun v q=>TP.bif (fun e=>nomatch e) (fun _=>ih.kQ (.gR (aF++[k])) fun ks y z=>⟨af,fun _=>af⟩)) (fun _=>TP.bif (fun _=>TP.ret ⟨af,fun _=>af⟩) (fun e=>nomatch e))));exact TP.bind (TP.dj (TP.bind (TP.word fun w t h=>TP.bind (TP.cZ (fun u g=>TP.bind (TP.bif (fun _=>ih.kQ .bx fun ks v q=>tl af) (fun e=>nomatch e))) (fun _=>TP.bind (TP.bif (fun e=>nomatch e) (fun _=>TP.ret (tl h))))))))
theorem ada(ih:fU L fin aL wide f)(hf:24*left L s+ar.loop.fc<=f+1):TP (P L fin aL wide (f+1) .loop) s (fA L .loop s):=by
 rw[P];exact TP.bind (TP.get (TP.bind (TP.set (L:=L) (by simp[*]) fun t h=>TP.bind (ih.fI (.cS false) fun k u g=>TP.bind (TP.get (TP.bind (TP.set (L:=L) (by simp[*]) fun v q=>TP.ret ⟨af,fun _=>af⟩)))))))
theorem ac4(ih:fU L fin aL wide f)(pos:Int)(hf:24*left L s+(ar.choose pos).fc<=f+1):TP (P L fin aL wide (f+1) (.choose pos)) s (fA L (.choose pos) s):=by
 rw[P];exact TP.bind (ih.fI .paren fun c t h=>TP.bind (TP.cK fun u g=>TP.bind (TP.get (TP.bind (TP.set (L:=L) (by simp[*]) fun v q=>TP.bind (ih.kQ (.ip [c] false) fun ks y z=>TP.bind (TP.get (TP.bind (TP.set (L:=L) (by simp[*]) fun a b=>TP.bM (L:=L) fun k w e=>⟨af,fun _=>af⟩)))))))))
theorem ac7(ih:fU L fin aL wide f)(pos:Int)(hf:24*left L s+(ar.ef pos).fc<=f+1):TP (P L fin aL wide (f+1) (.ef pos)) s (fA L (.ef pos) s):=by
 rw[P];have key:∀{t:aw}{B:Bool},left L t<left L s->TP (bif B then nV L fin else one (P L fin aL wide f .bx)) t fun _ u=>left L u<left L s:=fun{t B}h=>TP.bif (fun _=>TP.empty (L:=L) fun k u g=>af) (fun _=>ih.fI .bx fun k u g=>af);have k2:∀{t:aw}{B C:Bool},left L t<left L s->(B=true->t.i<L.length)->TP (bif B then one (P L fin aL wide f .vars) else bif C then nV L fin else ig L fin>>=fun x=>one (P L fin aL wide f .bx)>>=fun e=>eK ⟨20,.empty,0,[e],x.pos⟩) t fun _ u=>left L u<left L s:=fun{t B C}h hb=>TP.bif (fun e=>ih.fI .vars (fun k u g=>af) (hn:=hb e)) (fun _=>TP.bif (fun _=>TP.empty (L:=L) fun k u g=>af) (fun _=>TP.bind (TP.dj (TP.bind (ih.fI .bx fun e u g=>TP.node (L:=L) fun k v q=>af)))));refine TP.bind (TP.cK fun t h=>TP.bind (TP.get ?_));dsimp only;refine TP.bif (fun _=>?_) (fun _=>?_)
 ·exact TP.bind (TP.set (L:=L) (by grind) fun u g=>TP.bind (ih.fI .bx fun e v q=>TP.bind (TP.cK fun w r=>TP.bind (ih.fI .loop fun b y z=>TP.bM (L:=L) fun k x e=>⟨af,fun _=>af⟩))))
 ·refine TP.bind (TP.mono (k2 h fun e=>j5 (t:=nJ) (by revert e;cases bE L t 0 nJ <;> intro e <;> first|rfl|cases e)) fun a u g=>TP.bind (TP.cK fun v q=>TP.bind (TP.om fun b _=>TP.bind (TP.mono (key af) fun c w r=>TP.bind (TP.cK fun y z=>TP.bind (TP.om fun b _=>TP.bind (TP.mono (key af) fun d aa bb=>TP.bind (TP.cK fun cc dd=>TP.bind (ih.fI .loop fun b ee ff=>TP.bM (L:=L) fun k x e=>⟨af,fun _=>af⟩)))))))))
theorem adm(ih:fU L fin aL wide f)(pos:Int)(hf:24*left L s+(ar.eQ pos).fc<=f+1):TP (P L fin aL wide (f+1) (.eQ pos)) s (fA L (.eQ pos) s):=by
 rw[P];have tl:∀{t:aw}{x:Bool->List Int->cA},left L t<left L s->TP (eg L tU>>=fun h=>(bif h then P L fin aL wide f (.block false) else ret [])>>=fun fs=>bM (x h fs)) t (fA L (.eQ pos) s):=fun{t x}h=>TP.bind (TP.cZ (fun u g=>TP.bind (TP.bif (fun _=>ih.kQ (.block false) fun fs v q=>TP.bM (L:=L) fun k w e=>⟨af,fun _=>af⟩) (fun e=>nomatch e))) (fun _=>TP.bind (TP.bif (fun e=>nomatch e) (fun _=>TP.ret (TP.bM (L:=L) fun k w e=>⟨af,fun _=>af⟩)))));refine TP.bind (ih.fI (.block false) fun b t h=>TP.bind (TP.cZ (fun u g=>TP.bind (TP.bif (fun _=>?_) (fun e=>nomatch e))) (fun _=>TP.bind (TP.bif (fun e=>nomatch e) (fun _=>TP.ret ?_)))))
 ·refine TP.bind (TP.cK fun v q=>TP.bind (TP.word fun w y z=>TP.bind (TP.cK fun aa bb=>TP.bind (ih.fI (.block false) fun c cc dd=>TP.ret ?_))));exact TP.bind (TP.get (TP.bind (TP.bif (fun _=>TP.fY) (fun _=>TP.ret (tl (x:=fun h fs=>⟨34-2,w,bif true then (bif h then CT else ox) else CU,[b]++[c]++fs,pos⟩) af)))))
 ·exact TP.bind (TP.get (TP.bind (TP.bif (fun _=>TP.fY) (fun _=>TP.ret (tl (x:=fun h fs=>⟨34-2,.empty,bif false then (bif h then CT else ox) else CU,[b]++[]++fs,pos⟩) h)))))
theorem adl(ih:fU L fin aL wide f)(aF:List Int)(seen:Bool)(hf:24*left L s+(ar.ip aF seen).fc<=f+1):TP (P L fin aL wide (f+1) (.ip aF seen)) s (fA L (.ip aF seen) s):=by
 rw[P];have tl:∀{t:aw}{ks:List Int}{x:List Int->cA}{b:Bool},left L t<left L s->TP (dn L fin colon>>=fun _=>P L fin aL wide f (.iz ks)>>=fun all=>eK (x all)>>=fun k=>P L fin aL wide f (.ip (aF++[k]) b)) t (fA L (.ip aF seen) s):=fun{t ks x b}h=>TP.bind (TP.cK fun u g=>TP.bind (ih.call (.iz ks) fun all v q _=>TP.bind (TP.node (L:=L) fun k w r=>ih.kQ (.ip (aF++[k]) b) fun ks y z=>⟨af,fun _=>af⟩)));exact TP.bind (TP.cZ (fun t h=>TP.bif (fun _=>TP.ret ⟨af,fun _=>af⟩) (fun e=>nomatch e)) (fun _=>TP.bif (fun e=>nomatch e) (fun _=>TP.bind (TP.dj (TP.bind (TP.cZ (fun t h=>TP.bind (TP.bif (fun _=>ih.kQ .bx fun ks u g=>tl (x:=fun all=>⟨34,.empty,_,all,_⟩) af) (fun e=>nomatch e))) (fun _=>TP.bind (TP.bif (fun e=>nomatch e) (fun _=>TP.bind (TP.om fun b hb=>TP.bif (fun e=>TP.bind (TP.step (L:=L) (j5 (t:=tT) (by rw[<-hb];cases b <;> first|rfl|cases e)) fun t h=>TP.ret (tl (x:=fun all=>⟨34,.empty,_,all,_⟩) h))) (fun _=>TP.fY)))))))))))
theorem adi(ih:fU L fin aL wide f)(x:bA)(hn:s.i<L.length)(hf:24*left L s+(ar.simple x).fc<=f+1):TP (P L fin aL wide (f+1) (.simple x)) s (fA L (.simple x) s):=by
 rw[P];refine TP.bind (TP.get (TP.bind (TP.mono (Q:=fun _ t=>t=s) (TP.bif (fun _=>TP.ret rfl) (fun _=>TP.bif (fun _=>TP.ret rfl) (fun _=>TP.bif (fun _=>TP.ret rfl) (fun _=>TP.bif (fun _=>TP.ret rfl) (fun _=>TP.fY))))) fun kind t e=>?_)));subst e;exact TP.bind (TP.step (L:=L) hn fun u g=>TP.bind (TP.dj (TP.bind (TP.get (TP.bind (TP.bif (fun _=>TP.fY) (fun _=>TP.ret (TP.bind (TP.bif (fun _=>ih.kQ .bx fun ks v q=>TP.bind (TP.yO fun w r=>TP.bM (L:=L) fun k y e=>⟨af,fun _=>af⟩)) (fun _=>TP.ret (TP.bind (TP.yO fun w r=>TP.bM (L:=L) fun k y e=>⟨af,fun _=>af⟩))))))))))))
theorem adj(ih:fU L fin aL wide f)(body:Bool)(hf:24*left L s+(ar.cS body).fc<=f+1):TP (P L fin aL wide (f+1) (.cS body)) s (fA L (.cS body) s):=by
 rw[P];have plain:TP (one (P L fin aL wide f .bx)>>=fun e=>fy L fin>>=fun _=>bM ⟨20,.empty,0,[e],(aI L fin s).pos⟩) s (fA L (.cS body) s):=TP.bind (ih.fI .bx fun e t h=>TP.bind (TP.yO fun u g=>TP.bM (L:=L) fun k w r=>⟨af,fun _=>af⟩));refine TP.bind (TP.dj (TP.bind (TP.get (TP.bif (fun _=>ih.kQ (.block false) fun ks t h=>⟨af,fun _=>af⟩) (fun _=>TP.bif (fun hk=>?_) (fun _=>?_))))))
 ·have hi:=j5 hk;exact TP.bind (TP.bind (TP.dj (aeq (L:=L) fun k t sZ h=>TP.bind (TP.step (L:=L) af fun u g=>TP.ret ⟨af,fun _=>af⟩))))
 dsimp only;refine TP.bif (fun hk=>?_) (fun _=>plain);have hi:s.i<L.length:=(jX (fin:=fin) (fun e=>by rw[e]at hk;cases hk));refine TP.bif (fun _=>?_) (fun _=>TP.bif (fun _=>?_) (fun _=>TP.bif (fun _=>?_) (fun _=>TP.bif (fun _=>?_) (fun _=>TP.bif (fun _=>?_) (fun _=>TP.bif (fun _=>?_) (fun _=>TP.bif (fun _=>?_) (fun _=>TP.bif (fun _=>?_) (fun _=>plain))))))))
 ·exact TP.bind (ih.fI .vars (fun k t h=>TP.bind (TP.yO fun u g=>TP.ret ⟨af,fun _=>af⟩)) (hn:=hi))
 ·exact ih.kQ (.simple _) (fun ks t h=>⟨af,fun _=>af⟩) (hn:=hi)
 ·exact TP.bif (fun _=>TP.fY) (fun _=>ih.kQ (.func 35) (fun ks t h=>⟨af,fun _=>af⟩) (hn:=hi))
 ·exact TP.bind (TP.step (L:=L) hi fun t h=>TP.bind (ih.fI .paren fun c u g=>TP.bind (ih.fI (.cS false) fun a v q=>TP.bind (TP.cZ (fun w r=>TP.bind (TP.bif (fun _=>ih.kQ (.cS false) fun ks y z=>TP.bM (L:=L) fun k x e=>⟨af,fun _=>af⟩) (fun e=>nomatch e))) (fun _=>TP.bind (TP.bif (fun e=>nomatch e) (fun _=>TP.ret (TP.bM (L:=L) fun k x e=>⟨af,fun _=>af⟩))))))))
 ·exact TP.bind (TP.step (L:=L) hi fun t h=>TP.bind (ih.fI .paren fun c u g=>TP.bind (ih.fI .loop fun b v q=>TP.bM (L:=L) fun k x e=>⟨af,fun _=>af⟩)))
 ·exact TP.bind (TP.step (L:=L) hi fun t h=>ih.kQ (.ef _) fun ks u g=>⟨af,fun _=>af⟩)
 ·exact TP.bind (TP.step (L:=L) hi fun t h=>ih.kQ (.eQ _) fun ks u g=>⟨af,fun _=>af⟩)
 ·exact TP.bind (TP.step (L:=L) hi fun t h=>ih.kQ (.choose _) fun ks u g=>⟨af,fun _=>af⟩)
theorem OW:∀f,fU L fin aL wide f
 |0=>fun tag s _ hf=>by
  exfalso;have:1<=tag.fc:=by cases tag <;> simp only[ar.fc] <;> omega
  omega
 |f+1=>fun tag s hn hf=>by
  have ih:=OW f;cases tag with
  |bx=>exact ac6 ih hf
  |cond=>exact ac5 ih hf
  |level n=>exact ac9 ih n hn hf
  |j6 n lf=>exact ac_ ih n lf hn hf
  |unary=>exact adn ih hf
  |gf=>exact acZ ih hf
  |suffix=>exact adk ih hf
  |gm k=>exact adf ih k hf
  |gY aF=>exact ac2 ih aF hf
  |dY aF=>exact acY ih aF hf
  |ey aF=>exact adb ih aF hf
  |fx=>exact adg ih hf
  |func kind=>exact ac8 ih kind hn hf
  |gk aF=>exact adc ih aF hf
  |block body=>exact ac0 ih body hf
  |jR aF body=>exact ac1 ih aF body hf
  |paren=>exact ade ih hf
  |vars=>exact adp ih hn hf
  |gR aF=>exact ado ih aF hf
  |loop=>exact ada ih hf
  |ef pos=>exact ac7 ih pos hf
  |eQ pos=>exact adm ih pos hf
  |choose pos=>exact ac4 ih pos hf
  |ip aF seen=>exact adl ih aF seen hf
  |iz aF=>exact ac3 ih aF hf
  |simple x=>exact adi ih x hn hf
  |cS body=>exact adj ih body hf
  |prog aF=>exact adh ih aF hf
end
end
section
open Go
def KP{α:Type}(m:PM α)(s:aw)(Q:α->aw->Prop):Prop:=∀a t,m s= .ok a t->Q a t
abbrev Dk(L:List bA)(k n:Nat)(s t:aw):Prop:=t.i=s.i+k/\t.i<=L.length/\t.nodes.length=s.nodes.length+n/\t.bQ=s.bQ/\t.loops=s.loops/\t.bI=s.bI
def ar.sl:ar->Nat
 | .bx| .cond| .level _| .unary| .gf| .suffix| .fx| .func _| .paren| .block _=>1
 |_=>0
def ar.sk:ar->Nat
 | .prog _=>1
 |_=>0
abbrev Kp(L:List bA)(tag:ar)(s t:aw):Prop:=s.i<=t.i/\t.i<=L.length/\s.nodes.length<=t.nodes.length/\t.nodes.length+2*s.i+tag.sl<=s.nodes.length+2*t.i+tag.sk/\t.bQ=s.bQ/\t.loops=s.loops/\t.bI=s.bI
section
variable{α β:Type}{fin:Int}{L:List bA}{aL:Nat->ByteArray}{wide:ByteArray->ByteArray}{s:aw}
theorem KP.bind{m:PM α}{f:α->PM β}{Q:β->aw->Prop}(h:KP m s fun a t=>KP (f a) t Q):KP (m>>=f) s Q:=by
 intro b u e;have e2:cq m f s= .ok b u:=e;unfold cq at e2;cases hm:m s with
 |ok a t=>rw[hm]at e2;exact h a t hm b u e2
 |stop p q t=>rw[hm]at e2;cases e2
 |out=>rw[hm]at e2;cases e2
theorem KP.mono{m:PM α}{Q R:α->aw->Prop}(h:KP m s Q)(k:∀a t,Q a t->R a t):KP m s R:=fun a t e=>k a t (h a t e)
theorem KP.ret{a:α}{Q:α->aw->Prop}(h:Q a s):KP (ret a) s Q:=fun b u e=>by cases e;exact h
variable{b:Bool}{T:ByteArray}{x:cA}{k:Int}{Q:Int->aw->Prop}{f:Nat}
theorem KP.bif{m n:PM α}{Q:α->aw->Prop}(h1:b=true->KP m s Q)(h2:b=false->KP n s Q):KP (bif b then m else n) s Q:=by
 grind
theorem KP.get{Q:aw->aw->Prop}(h:Q s s):KP ie s Q:=fun b u e=>by cases e;exact h
theorem KP.fJ(h:∀p,Q p s):KP (fJ k) s Q:=fun b u e=>by cases e;exact h _
theorem adr{j:Nat}{Q:Unit->aw->Prop}(hi:s.i+j<=L.length)(h:∀t,Dk L j 0 s t->Q () t):KP (lV {s with i:=s.i+j}) s Q:=fun b u e=>by
 cases e;exact h _ ⟨rfl,hi,rfl,rfl,rfl,rfl⟩
theorem C9{a b c:Int}{Q:Unit->aw->Prop}(h:∀t:aw,t.i=s.i/\t.nodes.length=s.nodes.length/\t.bQ=a/\t.loops=b/\t.bI=c->Q () t):KP (lV {s with bQ:=a,loops:=b,bI:=c}) s Q:=fun _ u e=>by
 cases e;exact h _ ⟨rfl,rfl,rfl,rfl,rfl⟩
theorem KP.node(hi:s.i<=L.length)(h:∀k t,Dk L 0 1 s t->Q k t):KP (eK x) s Q:=fun b u e=>by
 cases e;exact h _ _ ⟨rfl,hi,aM,rfl,rfl,rfl⟩
theorem KP.bM(hi:s.i<=L.length){Q:List Int->aw->Prop}(h:∀k t,Dk L 0 1 s t->Q k t):KP (bM x) s Q:=fun b u e=>by
 cases e;exact h _ _ ⟨rfl,hi,aM,rfl,rfl,rfl⟩
theorem KP.step(hi:s.i<L.length){Q:Unit->aw->Prop}(h:∀t,Dk L 1 0 s t->Q () t):KP gA s Q:=fun b u e=>by
 cases e;exact h _ ⟨rfl,hi,rfl,rfl,rfl,rfl⟩
theorem KP.dj{Q:bA->aw->Prop}(h:Q (aI L fin s) s):KP (ig L fin) s Q:=fun b u e=>by cases e;exact h
theorem KP.fY{Q:α->aw->Prop}:KP (m9 L fin) s Q:=fun b u e=>by cases e
theorem KP.cZ{Q:Bool->aw->Prop}(h1:∀u,Dk L 1 0 s u->Q true u)(h2:bE L s 0 T=false->Q false s):KP (eg L T) s Q:=fun b u e=>by
 unfold eg at e;cases hi:bE L s 0 T with
 |true=>rw[hi]at e;cases e;exact h1 _ ⟨rfl,j5 hi,rfl,rfl,rfl,rfl⟩
 |false=>rw[hi]at e;cases e;exact h2 hi
theorem KP.cK{Q:Unit->aw->Prop}(h1:∀u,Dk L 1 0 s u->Q () u):KP (dn L fin T) s Q:=fun b u e=>by
 unfold dn at e;cases hi:bE L s 0 T with
 |true=>rw[hi]at e;cases e;exact h1 _ ⟨rfl,j5 hi,rfl,rfl,rfl,rfl⟩
 |false=>rw[hi]at e;cases e
theorem KP.om{a:Nat}{Q:Bool->aw->Prop}(h:∀b,b=bE L s a T->Q b s):KP (th L a T) s Q:=fun b u e=>by cases e;exact h _ rfl
theorem KP.o8{Q:Unit->aw->Prop}(h:Q () s):KP (nt k b) s Q:=fun c u e=>by
 unfold nt at e;revert e;cases (uJ s k !=8&&(uJ s k !=9&&(uJ s k !=3|| !b)))with
 |true=>intro e;cases e
 |false=>intro e;cases e;exact h
theorem KP.word{Q:ByteArray->aw->Prop}(h:∀w t,Dk L 1 0 s t->Q w t):KP (ly L fin) s Q:=fun b u e=>by
 unfold ly at e;cases hk:(aI L fin s).kind !=1 with
 |true=>rw[hk]at e;cases e
 |false=>
  rw[hk]at e;cases e;exact h _ _ ⟨rfl,jX (fin:=fin) (fun e2=>by rw[e2]at hk;cases hk),rfl,rfl,rfl,rfl⟩
theorem FO(hi:s.i<=L.length){Q:Unit->aw->Prop}(h:∀t,Dk L 0 0 s t\/Dk L 1 0 s t->Q () t):KP (fy L fin) s Q:=fun b u e=>by
 unfold fy at e;cases hs:bE L s 0 fM with
 |true=>rw[hs]at e;cases e;exact h _ (.inr ⟨rfl,j5 hs,rfl,rfl,rfl,rfl⟩)
 |false=>
  rw[hs]at e;revert e;rw[aU];cases (bE L s 0 rc||(decide (s.i>=L.length)||(aI L fin s).aK))with
  |true=>intro e;cases e;exact h _ (.inl ⟨rfl,hi,rfl,rfl,rfl,rfl⟩)
  |false=>intro e;cases e
theorem KP.key(h:∀k t,Dk L 1 1 s t->Q k t):KP (eV L fin aL wide) s Q:=fun b u e=>by
 have go:(aI L fin s).kind≠0->∀x k,Q k {s with i:=s.i+1,nodes:=s.nodes++[x]}:=fun hk x k=>h _ _ ⟨rfl,jX (fin:=fin) hk,aM,rfl,rfl,rfl⟩;unfold eV at e;dsimp only at e;revert e;cases h1:(aI L fin s).kind==1||(aI L fin s).kind==2 with
 |true=>intro e;cases e;exact go (fun e2=>by rw[e2]at h1;cases h1) _ _
 |false=>
  cases h2:(aI L fin s).kind==3 with
  |true=>intro e;cases e;exact go (fun e2=>by rw[e2]at h2;cases h2) _ _
  |false=>
   cases h3:(aI L fin s).kind==4 with
   |true=>intro e;cases e;exact go (fun e2=>by rw[e2]at h3;cases h3) _ _
   |false=>intro e;cases e
theorem KP.empty(hi:s.i<=L.length)(h:∀k t,Dk L 0 1 s t->Q k t):KP (nV L fin) s Q:=KP.bind (KP.dj (KP.node hi h))
def fB(L:List bA)(fin:Int)(aL:Nat->ByteArray)(wide:ByteArray->ByteArray)(f:Nat):Prop:=
 ∀(tag:ar)(s:aw),s.i<=L.length->tag.cC L s->KP (P L fin aL wide f tag) s fun _ t=>Kp L tag s t
abbrev KE(L:List bA)(s t:aw):Prop:=s.i<=t.i/\t.i<=L.length/\s.nodes.length<=t.nodes.length/\t.nodes.length+2*s.i+1<=s.nodes.length+2*t.i/\t.bQ=s.bQ/\t.loops=s.loops/\t.bI=s.bI
abbrev KS(L:List bA)(s t:aw):Prop:=s.i<=t.i/\t.i<=L.length/\s.nodes.length<=t.nodes.length/\t.nodes.length+2*s.i<=s.nodes.length+2*t.i/\t.bQ=s.bQ/\t.loops=s.loops/\t.bI=s.bI
theorem KP.one{m:PM (List Int)}(h:KP m s fun a t=>Q (a.headD 0) t):KP (one m) s Q:=KP.bind (m:=m) (f:=fun l=>Go.Proofs.YtdkchodgklpomaaGreatDoor.ret (l.headD 0)) (h.mono fun _ _ q=>KP.ret q)
theorem fB.e1(ih:fB L fin aL wide f)(tag:ar)(k:∀k t,KE L s t->Q k t)(hi:s.i<=L.length:=by omega)(hn:tag.cC L s:=by trivial)(h1:tag.sl=1:=by rfl)(h2:tag.sk=0:=by rfl):KP (one (P L fin aL wide f tag)) s Q:=
 KP.one ((ih tag s hi hn).mono fun ks t h=>k _ t (by unfold Kp at h;rw[h1,h2]at h;exact h))
theorem fB.s1(ih:fB L fin aL wide f)(tag:ar)(k:∀k t,KS L s t->Q k t)(hi:s.i<=L.length:=by omega)(hn:tag.cC L s:=by trivial)(h1:tag.sl=0:=by rfl)(h2:tag.sk=0:=by rfl):KP (one (P L fin aL wide f tag)) s Q:=
 KP.one ((ih tag s hi hn).mono fun ks t h=>k _ t (by unfold Kp at h;rw[h1,h2]at h;exact h))
theorem fB.re(ih:fB L fin aL wide f)(tag:ar){Q:List Int->aw->Prop}(k:∀k t,KE L s t->Q k t)(hi:s.i<=L.length:=by omega)(hn:tag.cC L s:=by trivial)(h1:tag.sl=1:=by rfl)(h2:tag.sk=0:=by rfl):KP (P L fin aL wide f tag) s Q:=
 (ih tag s hi hn).mono fun ks t h=>k _ t (by unfold Kp at h;rw[h1,h2]at h;exact h)
theorem fB.rs(ih:fB L fin aL wide f)(tag:ar){Q:List Int->aw->Prop}(k:∀k t,KS L s t->Q k t)(hi:s.i<=L.length:=by omega)(hn:tag.cC L s:=by trivial)(h1:tag.sl=0:=by rfl)(h2:tag.sk=0:=by rfl):KP (P L fin aL wide f tag) s Q:=
 (ih tag s hi hn).mono fun ks t h=>k _ t (by unfold Kp at h;rw[h1,h2]at h;exact h)
theorem adA(ih:fB L fin aL wide f)(hi:s.i<=L.length):KP (P L fin aL wide (f+1) .bx) s fun _ t=>Kp L .bx s t:=by
 rw[P];refine KP.bind (ih.e1 .cond fun k t h=>KP.bind (KP.dj (KP.bif (fun _=>KP.ret (by dsimp only[Kp,ar.sl,ar.sk];omega)) (fun hk=>KP.bind (KP.o8 (KP.bind (KP.step (L:=L) (jX (fin:=fin) ?_) fun u g=>KP.bind (ih.e1 .bx fun r v q=>KP.bind (KP.fJ fun p=>KP.bM (L:=L) af fun k w e=>(by dsimp only[Kp,ar.sl,ar.sk];omega))))))))));grind
theorem adz(ih:fB L fin aL wide f)(hi:s.i<=L.length):KP (P L fin aL wide (f+1) .cond) s fun _ t=>Kp L .cond s t:=by
 rw[P];exact KP.bind (ih.e1 (.level 0) (hn:=dC _) fun c t h=>KP.bind (KP.cZ (fun u g=>KP.bif (fun e=>nomatch e) (fun _=>KP.bind (ih.e1 .bx fun a v q=>KP.bind (KP.cK fun w e=>KP.bind (ih.e1 .bx fun b y z=>KP.bind (KP.fJ fun p=>KP.bM (L:=L) af fun k w e=>(by dsimp only[Kp,ar.sl,ar.sk];omega))))))) (fun _=>KP.bif (fun _=>KP.ret (by dsimp only[Kp,ar.sl,ar.sk];omega)) (fun e=>nomatch e))))
theorem adR(ih:fB L fin aL wide f)(hi:s.i<=L.length):KP (P L fin aL wide (f+1) .unary) s fun _ t=>Kp L .unary s t:=by
 rw[P];refine KP.bind (KP.dj (KP.bif (fun _=>ih.re .gf fun ks t h=>(by dsimp only[Kp,ar.sl,ar.sk];omega)) (fun hk=>?_)));have hi:s.i<L.length:=jX (fin:=fin) (fun e=>by rw[e]at hk;cases hk);exact KP.bif (fun _=>KP.bind (KP.step (L:=L) hi fun t h=>KP.bind (ih.e1 .unary fun k u g=>KP.bind (KP.bif (fun _=>KP.o8 (KP.bM (L:=L) af fun k w e=>(by dsimp only[Kp,ar.sl,ar.sk];omega))) (fun _=>KP.ret (KP.bM (L:=L) af fun k w e=>(by dsimp only[Kp,ar.sl,ar.sk];omega))))))) (fun _=>KP.bif (fun _=>KP.bind (KP.step (L:=L) hi fun t h=>KP.bind (ih.e1 .unary fun k u g=>KP.bind (KP.o8 (KP.bM (L:=L) af fun k w e=>(by dsimp only[Kp,ar.sl,ar.sk];omega)))))) (fun _=>ih.re .gf fun ks t h=>(by dsimp only[Kp,ar.sl,ar.sk];omega)))
theorem adt(ih:fB L fin aL wide f)(hi:s.i<=L.length):KP (P L fin aL wide (f+1) .gf) s fun _ t=>Kp L .gf s t:=by
 rw[P];refine KP.bind (ih.e1 .suffix fun k t h=>KP.bind (KP.dj (KP.bif (fun _=>KP.ret (by dsimp only[Kp,ar.sl,ar.sk];omega)) (fun hk=>KP.bind (KP.o8 (KP.bind (KP.step (L:=L) (jX (fin:=fin) ?_) fun u g=>KP.bind (KP.fJ fun p=>KP.bM (L:=L) af fun k w e=>(by dsimp only[Kp,ar.sl,ar.sk];omega)))))))));grind
theorem adO(ih:fB L fin aL wide f)(hi:s.i<=L.length):KP (P L fin aL wide (f+1) .suffix) s fun _ t=>Kp L .suffix s t:=by
 rw[P];exact KP.bind (ih.e1 .fx fun k t h=>ih.rs (.gm k) fun ks u g=>(by dsimp only[Kp,ar.sl,ar.sk];omega))
theorem adw(ih:fB L fin aL wide f)(aF:List Int)(hi:s.i<=L.length):KP (P L fin aL wide (f+1) (.gY aF)) s fun _ t=>Kp L (.gY aF) s t:=by
 rw[P];have gu:∀{t:aw},KS L s t->KP (one (P L fin aL wide f .bx)>>=fun e=>P L fin aL wide f (.gY (aF++[e]))) t fun _ t=>Kp L (.gY aF) s t:=fun{t}h=>KP.bind (ih.e1 .bx fun e u g=>ih.rs (.gY (aF++[e])) fun ks v q=>(by dsimp only[Kp,ar.sl,ar.sk];omega));exact KP.bind (KP.cZ (fun t h=>KP.bif (fun _=>KP.ret (by dsimp only[Kp,ar.sl,ar.sk];omega)) (fun e=>nomatch e)) (fun _=>KP.bif (fun e=>nomatch e) (fun _=>KP.bind (KP.bif (fun _=>KP.cK fun t h=>gu af) (fun _=>KP.ret (gu af))))))
theorem ads(ih:fB L fin aL wide f)(aF:List Int)(hi:s.i<=L.length):KP (P L fin aL wide (f+1) (.dY aF)) s fun _ t=>Kp L (.dY aF) s t:=by
 rw[P];exact KP.bind (KP.cZ (fun t h=>KP.bif (fun _=>KP.ret (by dsimp only[Kp,ar.sl,ar.sk];omega)) (fun e=>nomatch e)) (fun _=>KP.bif (fun e=>nomatch e) (fun _=>KP.bind (ih.e1 .bx fun e u g=>KP.bind (KP.om fun b _=>KP.bind (KP.bif (fun _=>KP.cK fun t h=>ih.rs (.dY (aF++[e])) fun ks v q=>(by dsimp only[Kp,ar.sl,ar.sk];omega)) (fun _=>KP.ret (ih.rs (.dY (aF++[e])) fun ks v q=>(by dsimp only[Kp,ar.sl,ar.sk];omega)))))))))
theorem adG(ih:fB L fin aL wide f)(aF:List Int)(hi:s.i<=L.length):KP (P L fin aL wide (f+1) (.ey aF)) s fun _ t=>Kp L (.ey aF) s t:=by
 rw[P];exact KP.bind (KP.cZ (fun t h=>KP.bif (fun _=>KP.ret (by dsimp only[Kp,ar.sl,ar.sk];omega)) (fun e=>nomatch e)) (fun _=>KP.bif (fun e=>nomatch e) (fun _=>KP.bind (KP.key fun k t h=>KP.bind (KP.cK fun u g=>KP.bind (ih.e1 .bx fun e v q=>KP.bind (KP.om fun b _=>KP.bind (KP.bif (fun _=>KP.cK fun t h=>ih.rs (.ey (aF++[k]++[e])) fun ks v q=>(by dsimp only[Kp,ar.sl,ar.sk];omega)) (fun _=>KP.ret (ih.rs (.ey (aF++[k]++[e])) fun ks v q=>(by dsimp only[Kp,ar.sl,ar.sk];omega)))))))))))
theorem adI(ih:fB L fin aL wide f)(hi:s.i<=L.length):KP (P L fin aL wide (f+1) .paren) s fun _ t=>Kp L .paren s t:=by
 rw[P];exact KP.bind (KP.cK fun t h=>KP.bind (ih.e1 .bx fun k u g=>KP.bind (KP.cK fun v q=>KP.ret (by dsimp only[Kp,ar.sl,ar.sk];omega))))
theorem adu(ih:fB L fin aL wide f)(body:Bool)(hi:s.i<=L.length):KP (P L fin aL wide (f+1) (.block body)) s fun _ t=>Kp L (.block body) s t:=by
 rw[P];exact KP.bind (KP.dj (KP.bind (KP.cK fun t h=>KP.bind (ih.rs (.jR [] body) fun ks u g=>KP.bM (L:=L) af fun k w e=>(by dsimp only[Kp,ar.sl,ar.sk];omega)))))
theorem adv(ih:fB L fin aL wide f)(aF:List Int)(body:Bool)(hi:s.i<=L.length):KP (P L fin aL wide (f+1) (.jR aF body)) s fun _ t=>Kp L (.jR aF body) s t:=by
 rw[P];exact KP.bind (KP.cZ (fun t h=>KP.bif (fun _=>KP.ret (by dsimp only[Kp,ar.sl,ar.sk];omega)) (fun e=>nomatch e)) (fun _=>KP.bif (fun e=>nomatch e) (fun _=>KP.bind (ih.s1 (.cS body) fun k t h=>ih.rs (.jR (aF++[k]) body) fun ks u g=>(by dsimp only[Kp,ar.sl,ar.sk];omega)))))
theorem adx(ih:fB L fin aL wide f)(aF:List Int)(hi:s.i<=L.length):KP (P L fin aL wide (f+1) (.iz aF)) s fun _ t=>Kp L (.iz aF) s t:=by
 rw[P];exact KP.bind (KP.get (KP.bif (fun _=>KP.bind (ih.s1 (.cS false) fun k t h=>ih.rs (.iz (aF++[k])) fun ks u g=>(by dsimp only[Kp,ar.sl,ar.sk];omega))) (fun _=>KP.ret (by dsimp only[Kp,ar.sl,ar.sk];omega))))
theorem adL(ih:fB L fin aL wide f)(aF:List Int)(hi:s.i<=L.length):KP (P L fin aL wide (f+1) (.prog aF)) s fun _ t=>Kp L (.prog aF) s t:=by
 rw[P];exact KP.bind (KP.get (KP.bif (fun _=>KP.bind (ih.s1 (.cS true) fun k t h=>(ih (.prog (aF++[k])) t af trivial).mono fun ks u g=>by dsimp only[Kp,ar.sl,ar.sk]at g⊢;omega)) (fun _=>KP.bM (L:=L) hi fun k w e=>(by dsimp only[Kp,ar.sl,ar.sk];omega))))
theorem adH(ih:fB L fin aL wide f)(aF:List Int)(hi:s.i<=L.length):KP (P L fin aL wide (f+1) (.gk aF)) s fun _ t=>Kp L (.gk aF) s t:=by
 rw[P];have gu:∀{t:aw},KS L s t->KP (ig L fin>>=fun x=>ly L fin>>=fun w=>eK ⟨3,w,0,[],x.pos⟩>>=fun k=>P L fin aL wide f (.gk (aF++[k]))) t fun _ t=>Kp L (.gk aF) s t:=fun{t}h=>KP.bind (KP.dj (KP.bind (KP.word fun w u g=>KP.bind (KP.node (L:=L) af fun k v q=>ih.rs (.gk (aF++[k])) fun ks y z=>(by dsimp only[Kp,ar.sl,ar.sk];omega)))));exact KP.bind (KP.cZ (fun t h=>KP.bif (fun _=>KP.ret (by dsimp only[Kp,ar.sl,ar.sk];omega)) (fun e=>nomatch e)) (fun _=>KP.bif (fun e=>nomatch e) (fun _=>KP.bind (KP.bif (fun _=>KP.cK fun t h=>gu af) (fun _=>KP.ret (gu af))))))
theorem adD(ih:fB L fin aL wide f)(n:Nat)(hn:n<=10)(hi:s.i<=L.length):KP (P L fin aL wide (f+1) (.level n)) s fun _ t=>Kp L (.level n) s t:=by
 rw[P];refine KP.bif (fun _=>ih.re .unary fun ks t h=>(by dsimp only[Kp,ar.sl,ar.sk];omega)) (fun e=>?_);have hn:n+1<=10:=by
  grind
 exact KP.bind (ih.e1 (.level (n+1)) (hn:=hn) fun k t h=>ih.rs (.j6 n k) (hn:=by show n<=9;omega) fun ks u g=>(by dsimp only[Kp,ar.sl,ar.sk];omega))
theorem adE(ih:fB L fin aL wide f)(n:Nat)(lf:Int)(hn:n<=9)(hi:s.i<=L.length):KP (P L fin aL wide (f+1) (.j6 n lf)) s fun _ t=>Kp L (.j6 n lf) s t:=by
 rw[P];refine KP.bind (KP.dj (KP.bif (fun _=>KP.ret (by dsimp only[Kp,ar.sl,ar.sk];omega)) (fun hk=>KP.bind (KP.step (L:=L) (jX (fin:=fin) ?_) fun t h=>KP.bind (ih.e1 (.level (n+1)) (hn:=by show n+1<=10;omega) fun r u g=>KP.bind (KP.fJ fun p=>KP.bind (KP.node (L:=L) af fun k v q=>ih.rs (.j6 n k) (hn:=hn) fun ks y z=>(by dsimp only[Kp,ar.sl,ar.sk];omega))))))));intro e;rw[e]at hk;cases hk
theorem adJ(ih:fB L fin aL wide f)(k0:Int)(hi:s.i<=L.length):KP (P L fin aL wide (f+1) (.gm k0)) s fun _ t=>Kp L (.gm k0) s t:=by
 rw[P];have tl:∀{t:aw}{x:cA},t.i<=L.length/\s.i<=t.i/\s.nodes.length<=t.nodes.length/\t.nodes.length+2*s.i+1<=s.nodes.length+2*t.i/\t.bQ=s.bQ/\t.loops=s.loops/\t.bI=s.bI->KP (eK x>>=fun m=>P L fin aL wide f (.gm m)) t fun _ t=>Kp L (.gm k0) s t:=fun{t x}h=>KP.bind (KP.node (L:=L) af fun k u g=>ih.rs (.gm k) fun ks v q=>(by dsimp only[Kp,ar.sl,ar.sk];omega));refine KP.bind (KP.cZ (fun t h=>KP.bif (fun _=>?_) (fun e=>nomatch e)) (fun _=>KP.bif (fun e=>nomatch e) (fun _=>KP.bind (KP.cZ (fun t h=>KP.bif (fun _=>?_) (fun e=>nomatch e)) (fun _=>KP.bif (fun e=>nomatch e) (fun _=>KP.bind (KP.cZ (fun t h=>KP.bif (fun _=>?_) (fun e=>nomatch e)) (fun _=>KP.bif (fun e=>nomatch e) (fun _=>KP.ret (by dsimp only[Kp,ar.sl,ar.sk];omega))))))))))
 ·refine KP.bind (KP.dj (KP.bind (KP.bif (fun _=>KP.fY) (fun hk=>KP.ret (KP.bind (KP.step (L:=L) (jX (fin:=fin) ?_) fun u g=>KP.bind (KP.fJ fun p=>tl af)))))));intro e;rw[e]at hk;cases hk
 ·exact KP.bind (ih.e1 .bx fun e u g=>KP.bind (KP.cK fun v q=>KP.bind (KP.fJ fun p=>tl af)))
 ·exact KP.bind (ih.rs (.gY [k0]) fun e u g=>KP.bind (KP.fJ fun p=>tl af))
theorem adK(ih:fB L fin aL wide f)(hi:s.i<=L.length):KP (P L fin aL wide (f+1) .fx) s fun _ t=>Kp L .fx s t:=by
 rw[P];have Lo:∀{x:cA},s.i<L.length->KP (gA>>=fun _=>bM x) s fun _ t=>Kp L .fx s t:=fun{x}h=>KP.bind (KP.step (L:=L) h fun t g=>KP.bM (L:=L) af fun k w e=>(by dsimp only[Kp,ar.sl,ar.sk];omega));refine KP.bind (KP.dj (KP.bif (fun hk=>Lo (jX (fin:=fin) fun e=>by rw[e]at hk;cases hk)) (fun _=>KP.bif (fun hk=>Lo (jX (fin:=fin) fun e=>by rw[e]at hk;cases hk)) (fun _=>KP.bif (fun hk=>Lo (jX (fin:=fin) fun e=>by rw[e]at hk;cases hk)) (fun _=>KP.bind (KP.get (KP.bif (fun hk=>Lo ?_) (fun _=>KP.bif (fun hk=>ih.re (.func 7) (hn:=j5 hk) fun ks t h=>(by dsimp only[Kp,ar.sl,ar.sk];omega)) (fun _=>KP.bind (KP.cZ (fun t h=>KP.bif (fun _=>?_) (fun e=>nomatch e)) (fun _=>KP.bif (fun e=>nomatch e) (fun _=>KP.bind (KP.cZ (fun t h=>KP.bif (fun _=>?_) (fun e=>nomatch e)) (fun _=>KP.bif (fun e=>nomatch e) (fun _=>KP.bind (KP.cZ (fun t h=>KP.bif (fun _=>?_) (fun e=>nomatch e)) (fun _=>KP.bif (fun e=>nomatch e) (fun _=>KP.fY))))))))))))))))))
 ·rw[Bool.or_eq_true,Bool.or_eq_true]at hk;rcases hk with h|h|h <;> exact j5 h
 ·exact KP.bind (ih.e1 .bx fun k u g=>KP.bind (KP.cK fun v q=>KP.ret (by dsimp only[Kp,ar.sl,ar.sk];omega)))
 ·exact KP.bind (ih.rs (.dY []) fun ks u g=>KP.bM (L:=L) af fun k w e=>(by dsimp only[Kp,ar.sl,ar.sk];omega))
 ·exact KP.bind (ih.rs (.ey []) fun ks u g=>KP.bM (L:=L) af fun k w e=>(by dsimp only[Kp,ar.sl,ar.sk];omega))
theorem adC(ih:fB L fin aL wide f)(kind:Int)(hn:s.i<L.length):KP (P L fin aL wide (f+1) (.func kind)) s fun _ t=>Kp L (.func kind) s t:=by
 rw[P];have tl:∀{t:aw}{op:ByteArray}{pos:Int},t.i<=L.length/\s.i+1<=t.i/\t.nodes.length=s.nodes.length/\t.bQ=s.bQ/\t.loops=s.loops/\t.bI=s.bI->KP (dn L fin lp>>=fun _=>P L fin aL wide f (.gk [])>>=fun ps=>ie>>=fun s=>lV {s with bQ:=s.bQ+1,loops:=0,bI:=0}>>=fun _=>one (P L fin aL wide f (.block true))>>=fun b=>ie>>=fun t=>lV {t with bQ:=t.bQ-1,loops:=s.loops,bI:=s.bI}>>=fun _=>bM ⟨kind,op,0,ps++[b],pos⟩) t fun _ t=>Kp L (.func kind) s t:=fun{t op pos}h=>KP.bind (KP.cK fun u g=>KP.bind (ih.rs (.gk []) fun ps v q=>KP.bind (KP.get (KP.bind (C9 fun y z=>KP.bind (ih.e1 (.block true) fun b w r=>KP.bind (KP.get (KP.bind (C9 fun c d=>KP.bM (L:=L) af fun k e' e=>(by dsimp only[Kp,ar.sl,ar.sk];omega))))))))));exact KP.bind (KP.dj (KP.bind (KP.step (L:=L) hn fun t h=>KP.bind (KP.get (KP.bind (KP.bif (fun _=>KP.word fun w u g=>tl af) (fun _=>KP.ret (tl af))))))))
theorem adT(ih:fB L fin aL wide f)(hn:s.i<L.length):KP (P L fin aL wide (f+1) .vars) s fun _ t=>Kp L .vars s t:=by
 rw[P];exact KP.bind (KP.dj (KP.bind (KP.step (L:=L) hn fun t h=>KP.bind (ih.rs (.gR []) fun ks u g=>KP.bM (L:=L) af fun k w e=>(by dsimp only[Kp,ar.sl,ar.sk];omega)))))
theorem adS(ih:fB L fin aL wide f)(aF:List Int)(hi:s.i<=L.length):KP (P L fin aL wide (f+1) (.gR aF)) s fun _ t=>Kp L (.gR aF) s t:=by
 rw[P];have tl:∀{t:aw}{x:cA},t.i<=L.length/\s.i+1<=t.i/\s.nodes.length<=t.nodes.length/\t.nodes.length+2*s.i+1<=s.nodes.length+2*t.i/\t.bQ=s.bQ/\t.loops=s.loops/\t.bI=s.bI->KP (eK x>>=fun k=>eg L sG>>=fun h=>bif !h then ret (aF++[k]) else P L fin aL wide f (.gR (aF++[k]))) t fun _ t=>Kp L (.gR aF) s t:=fun{t x}h=>KP.bind (KP.node (L:=L) af fun k u g=>KP.bind (KP.cZ (fun v q=>KP.bif (fun e=>nomatch e) (fun _=>ih.rs (.gR (aF++[k])) fun ks y z=>(by dsimp only[Kp,ar.sl,ar.sk];omega))) (fun _=>KP.bif (fun _=>KP.ret (by dsimp only[Kp,ar.sl,ar.sk];omega)) (fun e=>nomatch e))));exact KP.bind (KP.dj (KP.bind (KP.word fun w t h=>KP.bind (KP.cZ (fun u g=>KP.bind (KP.bif (fun _=>ih.re .bx fun ks v q=>tl af) (fun e=>nomatch e))) (fun _=>KP.bind (KP.bif (fun e=>nomatch e) (fun _=>KP.ret (tl af))))))))
theorem adF(ih:fB L fin aL wide f)(hi:s.i<=L.length):KP (P L fin aL wide (f+1) .loop) s fun _ t=>Kp L .loop s t:=by
 rw[P];exact KP.bind (KP.get (KP.bind (C9 fun t h=>KP.bind (ih.s1 (.cS false) fun k u g=>KP.bind (KP.get (KP.bind (C9 fun v q=>KP.ret (by dsimp only[Kp,ar.sl,ar.sk];omega))))))))
theorem ady(ih:fB L fin aL wide f)(pos:Int)(hi:s.i<=L.length):KP (P L fin aL wide (f+1) (.choose pos)) s fun _ t=>Kp L (.choose pos) s t:=by
 rw[P];exact KP.bind (ih.e1 .paren fun c t h=>KP.bind (KP.cK fun u g=>KP.bind (KP.get (KP.bind (C9 fun v q=>KP.bind (ih.rs (.ip [c] false) fun ks y z=>KP.bind (KP.get (KP.bind (C9 fun a b=>KP.bM (L:=L) af fun k w e=>(by dsimp only[Kp,ar.sl,ar.sk];omega))))))))))
theorem aaH{v:Nat}(h:(uP L s v&&bE L s (v+1) T)=true):s.i+(v+2)<=L.length:=by
 rw[kT]at h;have:=h.2;unfold bE at this;grind
theorem adB(ih:fB L fin aL wide f)(pos:Int)(hi:s.i<=L.length):KP (P L fin aL wide (f+1) (.ef pos)) s fun _ t=>Kp L (.ef pos) s t:=by
 rw[P];have key:∀{t:aw}{B:Bool},t.i<=L.length->KP (bif B then nV L fin else one (P L fin aL wide f .bx)) t fun _ u=>t.i<=u.i/\u.i<=L.length/\t.nodes.length<=u.nodes.length/\u.nodes.length+2*t.i<=t.nodes.length+2*u.i+1/\u.bQ=t.bQ/\u.loops=t.loops/\u.bI=t.bI:=fun{t B}h=>KP.bif (fun _=>KP.empty (L:=L) h fun k u g=>af) (fun _=>ih.e1 .bx fun k u g=>af);have k2:∀{t:aw}{B C:Bool},t.i<=L.length->(B=true->t.i<L.length)->KP (bif B then one (P L fin aL wide f .vars) else bif C then nV L fin else ig L fin>>=fun x=>one (P L fin aL wide f .bx)>>=fun e=>eK ⟨20,.empty,0,[e],x.pos⟩) t fun _ u=>t.i<=u.i/\u.i<=L.length/\t.nodes.length<=u.nodes.length/\u.nodes.length+2*t.i<=t.nodes.length+2*u.i+1/\u.bQ=t.bQ/\u.loops=t.loops/\u.bI=t.bI:=fun{t B C}h hb=>KP.bif (fun e=>ih.s1 .vars (fun k u g=>af) (hn:=hb e)) (fun _=>KP.bif (fun _=>KP.empty (L:=L) h fun k u g=>af) (fun _=>KP.bind (KP.dj (KP.bind (ih.e1 .bx fun e u g=>KP.node (L:=L) af fun k v q=>af)))));refine KP.bind (KP.cK fun t h=>KP.bind (KP.get ?_));dsimp only;refine KP.bif (fun hk=>?_) (fun _=>?_)
 ·exact KP.bind (adr (L:=L) (aaH hk) fun u g=>KP.bind (ih.e1 .bx fun e v q=>KP.bind (KP.cK fun w r=>KP.bind (ih.s1 .loop fun b y z=>KP.bM (L:=L) af fun k x e=>(by dsimp only[Kp,ar.sl,ar.sk];omega)))))
 ·refine KP.bind (KP.mono (k2 af fun e=>j5 (t:=nJ) (by revert e;cases bE L t 0 nJ <;> intro e <;> first|rfl|cases e)) fun a u g=>KP.bind (KP.cK fun v q=>KP.bind (KP.om fun b _=>KP.bind (KP.mono (key af) fun c w r=>KP.bind (KP.cK fun y z=>KP.bind (KP.om fun b _=>KP.bind (KP.mono (key af) fun d aa bb=>KP.bind (KP.cK fun cc dd=>KP.bind (ih.s1 .loop fun b ee ff=>KP.bM (L:=L) af fun k x e=>(by dsimp only[Kp,ar.sl,ar.sk];omega))))))))))
theorem adQ(ih:fB L fin aL wide f)(pos:Int)(hi:s.i<=L.length):KP (P L fin aL wide (f+1) (.eQ pos)) s fun _ t=>Kp L (.eQ pos) s t:=by
 rw[P];have tl:∀{t:aw}{x:Bool->List Int->cA},t.i<=L.length/\s.i<=t.i/\s.nodes.length<=t.nodes.length/\t.nodes.length+2*s.i+1<=s.nodes.length+2*t.i/\t.bQ=s.bQ/\t.loops=s.loops/\t.bI=s.bI->KP (eg L tU>>=fun h=>(bif h then P L fin aL wide f (.block false) else ret [])>>=fun fs=>bM (x h fs)) t fun _ t=>Kp L (.eQ pos) s t:=fun{t x}h=>KP.bind (KP.cZ (fun u g=>KP.bind (KP.bif (fun _=>ih.re (.block false) fun fs v q=>KP.bM (L:=L) af fun k w e=>(by dsimp only[Kp,ar.sl,ar.sk];omega)) (fun e=>nomatch e))) (fun _=>KP.bind (KP.bif (fun e=>nomatch e) (fun _=>KP.ret (KP.bM (L:=L) af fun k w e=>(by dsimp only[Kp,ar.sl,ar.sk];omega))))));refine KP.bind (ih.e1 (.block false) fun b t h=>KP.bind (KP.cZ (fun u g=>KP.bind (KP.bif (fun _=>?_) (fun e=>nomatch e))) (fun _=>KP.bind (KP.bif (fun e=>nomatch e) (fun _=>KP.ret ?_)))))
 ·refine KP.bind (KP.cK fun v q=>KP.bind (KP.word fun w y z=>KP.bind (KP.cK fun aa bb=>KP.bind (ih.e1 (.block false) fun c cc dd=>KP.ret ?_))));exact KP.bind (KP.get (KP.bind (KP.bif (fun _=>KP.fY) (fun _=>KP.ret (tl (x:=fun h fs=>⟨34-2,w,bif true then (bif h then CT else ox) else CU,[b]++[c]++fs,pos⟩) af)))))
 ·exact KP.bind (KP.get (KP.bind (KP.bif (fun _=>KP.fY) (fun _=>KP.ret (tl (x:=fun h fs=>⟨34-2,.empty,bif false then (bif h then CT else ox) else CU,[b]++[]++fs,pos⟩) af)))))
theorem adP(ih:fB L fin aL wide f)(aF:List Int)(seen:Bool)(hi:s.i<=L.length):KP (P L fin aL wide (f+1) (.ip aF seen)) s fun _ t=>Kp L (.ip aF seen) s t:=by
 rw[P];have tl:∀{t:aw}{ks:List Int}{x:List Int->cA}{b:Bool},t.i<=L.length/\s.i<=t.i/\s.nodes.length<=t.nodes.length/\t.nodes.length+2*s.i<=s.nodes.length+2*t.i/\t.bQ=s.bQ/\t.loops=s.loops/\t.bI=s.bI->KP (dn L fin colon>>=fun _=>P L fin aL wide f (.iz ks)>>=fun all=>eK (x all)>>=fun k=>P L fin aL wide f (.ip (aF++[k]) b)) t fun _ t=>Kp L (.ip aF seen) s t:=fun{t ks x b}h=>KP.bind (KP.cK fun u g=>KP.bind (ih.rs (.iz ks) fun all v q=>KP.bind (KP.node (L:=L) af fun k w r=>ih.rs (.ip (aF++[k]) b) fun ks y z=>(by dsimp only[Kp,ar.sl,ar.sk];omega))));exact KP.bind (KP.cZ (fun t h=>KP.bif (fun _=>KP.ret (by dsimp only[Kp,ar.sl,ar.sk];omega)) (fun e=>nomatch e)) (fun _=>KP.bif (fun e=>nomatch e) (fun _=>KP.bind (KP.dj (KP.bind (KP.cZ (fun t h=>KP.bind (KP.bif (fun _=>ih.re .bx fun ks u g=>tl (x:=fun all=>⟨34,.empty,_,all,_⟩) af) (fun e=>nomatch e))) (fun _=>KP.bind (KP.bif (fun e=>nomatch e) (fun _=>KP.bind (KP.om fun b hb=>KP.bif (fun e=>KP.bind (KP.step (L:=L) (j5 (t:=tT) (by rw[<-hb];cases b <;> first|rfl|cases e)) fun t h=>KP.ret (tl (x:=fun all=>⟨34,.empty,_,all,_⟩) af))) (fun _=>KP.fY)))))))))))
theorem adM(ih:fB L fin aL wide f)(x:bA)(hn:s.i<L.length):KP (P L fin aL wide (f+1) (.simple x)) s fun _ t=>Kp L (.simple x) s t:=by
 rw[P];refine KP.bind (KP.get (KP.bind (KP.mono (Q:=fun _ t=>t=s) (KP.bif (fun _=>KP.ret rfl) (fun _=>KP.bif (fun _=>KP.ret rfl) (fun _=>KP.bif (fun _=>KP.ret rfl) (fun _=>KP.bif (fun _=>KP.ret rfl) (fun _=>KP.fY))))) fun kind t e=>?_)));subst e;exact KP.bind (KP.step (L:=L) hn fun u g=>KP.bind (KP.dj (KP.bind (KP.get (KP.bind (KP.bif (fun _=>KP.fY) (fun _=>KP.ret (KP.bind (KP.bif (fun _=>ih.re .bx fun ks v q=>KP.bind (FO (L:=L) af fun w r=>KP.bM (L:=L) af fun k y e=>(by dsimp only[Kp,ar.sl,ar.sk];omega))) (fun _=>KP.ret (KP.bind (FO (L:=L) af fun w r=>KP.bM (L:=L) af fun k y e=>(by dsimp only[Kp,ar.sl,ar.sk];omega)))))))))))))
theorem adN(ih:fB L fin aL wide f)(body:Bool)(hi:s.i<=L.length):KP (P L fin aL wide (f+1) (.cS body)) s fun _ t=>Kp L (.cS body) s t:=by
 rw[P];have plain:KP (one (P L fin aL wide f .bx)>>=fun e=>fy L fin>>=fun _=>bM ⟨20,.empty,0,[e],(aI L fin s).pos⟩) s fun _ t=>Kp L (.cS body) s t:=KP.bind (ih.e1 .bx fun e t h=>KP.bind (FO (L:=L) af fun u g=>KP.bM (L:=L) af fun k w r=>(by dsimp only[Kp,ar.sl,ar.sk];omega)));refine KP.bind (KP.dj (KP.bind (KP.get (KP.bif (fun _=>ih.re (.block false) fun ks t h=>(by dsimp only[Kp,ar.sl,ar.sk];omega)) (fun _=>KP.bif (fun hk=>?_) (fun _=>?_))))))
 ·have sZ:=j5 hk;exact KP.bind (KP.empty (L:=L) hi fun k t h=>KP.bind (KP.step (L:=L) af fun u g=>KP.ret (by dsimp only[Kp,ar.sl,ar.sk];omega)))
 dsimp only;refine KP.bif (fun hk=>?_) (fun _=>plain);have hi:s.i<L.length:=(jX (fin:=fin) (fun e=>by rw[e]at hk;cases hk));refine KP.bif (fun _=>?_) (fun _=>KP.bif (fun _=>?_) (fun _=>KP.bif (fun _=>?_) (fun _=>KP.bif (fun _=>?_) (fun _=>KP.bif (fun _=>?_) (fun _=>KP.bif (fun _=>?_) (fun _=>KP.bif (fun _=>?_) (fun _=>KP.bif (fun _=>?_) (fun _=>plain))))))))
 ·exact KP.bind (ih.s1 .vars (fun k t h=>KP.bind (FO (L:=L) af fun u g=>KP.ret (by dsimp only[Kp,ar.sl,ar.sk];omega))) (hn:=hi))
 ·exact ih.rs (.simple _) (fun ks t h=>(by dsimp only[Kp,ar.sl,ar.sk];omega)) (hn:=hi)
 ·exact KP.bif (fun _=>KP.fY) (fun _=>ih.re (.func 35) (fun ks t h=>(by dsimp only[Kp,ar.sl,ar.sk];omega)) (hn:=hi))
 ·exact KP.bind (KP.step (L:=L) hi fun t h=>KP.bind (ih.e1 .paren fun c u g=>KP.bind (ih.s1 (.cS false) fun a v q=>KP.bind (KP.cZ (fun w r=>KP.bind (KP.bif (fun _=>ih.rs (.cS false) fun ks y z=>KP.bM (L:=L) af fun k x e=>(by dsimp only[Kp,ar.sl,ar.sk];omega)) (fun e=>nomatch e))) (fun _=>KP.bind (KP.bif (fun e=>nomatch e) (fun _=>KP.ret (KP.bM (L:=L) af fun k x e=>(by dsimp only[Kp,ar.sl,ar.sk];omega)))))))))
 ·exact KP.bind (KP.step (L:=L) hi fun t h=>KP.bind (ih.e1 .paren fun c u g=>KP.bind (ih.s1 .loop fun b v q=>KP.bM (L:=L) af fun k x e=>(by dsimp only[Kp,ar.sl,ar.sk];omega))))
 ·exact KP.bind (KP.step (L:=L) hi fun t h=>ih.rs (.ef _) fun ks u g=>(by dsimp only[Kp,ar.sl,ar.sk];omega))
 ·exact KP.bind (KP.step (L:=L) hi fun t h=>ih.rs (.eQ _) fun ks u g=>(by dsimp only[Kp,ar.sl,ar.sk];omega))
 ·exact KP.bind (KP.step (L:=L) hi fun t h=>ih.rs (.choose _) fun ks u g=>(by dsimp only[Kp,ar.sl,ar.sk];omega))
theorem Xs:∀f,fB L fin aL wide f
 |0=>fun tag s _ _ a t e=>by
  unfold P at e;cases e
 |f+1=>fun tag s hi hn=>by
  have ih:=Xs f;cases tag with
  |bx=>exact adA ih hi
  |cond=>exact adz ih hi
  |level n=>exact adD ih n hn hi
  |j6 n lf=>exact adE ih n lf hn hi
  |unary=>exact adR ih hi
  |gf=>exact adt ih hi
  |suffix=>exact adO ih hi
  |gm k=>exact adJ ih k hi
  |gY aF=>exact adw ih aF hi
  |dY aF=>exact ads ih aF hi
  |ey aF=>exact adG ih aF hi
  |fx=>exact adK ih hi
  |func kind=>exact adC ih kind hn
  |gk aF=>exact adH ih aF hi
  |block body=>exact adu ih body hi
  |jR aF body=>exact adv ih aF body hi
  |paren=>exact adI ih hi
  |vars=>exact adT ih hn
  |gR aF=>exact adS ih aF hi
  |loop=>exact adF ih hi
  |ef pos=>exact adB ih pos hi
  |eQ pos=>exact adQ ih pos hi
  |choose pos=>exact ady ih pos hi
  |ip aF seen=>exact adP ih aF seen hi
  |iz aF=>exact adx ih aF hi
  |simple x=>exact adM ih x hn
  |cS body=>exact adN ih body hi
  |prog aF=>exact adL ih aF hi
end
end
section
open Go
section
end
end
section
open Go
section
variable{L:List bA}{fin:Int}{aL:Nat->ByteArray}{wide:ByteArray->ByteArray}{α β:Type}{s:aw}
end
section
end
end
section
open Go
section
end
end
section
open Go
section
end
end
section
open Go
section
variable{T:List bA}{fin:Int}{aL:Nat->ByteArray}{wide:ByteArray->ByteArray}{s t:aw}{α β:Type}
theorem al1{m:PM (List Int)}{r:List Int}(h:m s= .ok r t):one m s= .ok (r.headD 0) t:=by
 show cq m (fun l=>ret (l.headD 0)) s=_;unfold cq;rw[h];rfl
end
end
section
open Go
structure LE{α:Type}(m m':PM α):Prop where
 h:∀s,m s= .out\/m' s=m s
section
variable{α β:Type}
theorem LE.refl(m:PM α):LE m m:=⟨fun _=>.inr rfl⟩
theorem LE.bind{m m':PM α}{k k':α->PM β}(h:LE m m')(hk:∀a,LE (k a) (k' a)):LE (m>>=k) (m'>>=k'):=by
 refine⟨fun s=>?_⟩;show cq m k s=_\/cq m' k' s=cq m k s;unfold cq;rcases h.h s with h|h
 ·simp[*]
 ·rw[h];cases m s with
  |ok a t=>exact(hk a).h t
  |stop p e t=>exact .inr rfl
  |out=>exact .inl rfl
theorem LE.one{m m':PM (List Int)}(h:LE m m'):LE (Go.Proofs.YtdkchodgklpomaaGreatDoor.one m) (Go.Proofs.YtdkchodgklpomaaGreatDoor.one m'):=by
 show LE (m>>=fun l=>ret (l.headD 0)) (m'>>=fun l=>ret (l.headD 0));exact LE.bind h fun _=>LE.refl _
theorem LE.bif{b:Bool}{m m' n n':PM α}(h1:LE m m')(h2:LE n n'):LE (bif b then m else n) (bif b then m' else n'):=by cases b;exact h2;exact h1
end
section
variable(L:List bA)(fin:Int)(aL:Nat->ByteArray)(wide:ByteArray->ByteArray)
theorem ad_:∀(f:Nat)(tag:ar),LE (P L fin aL wide f tag) (P L fin aL wide (f+1) tag):=by
 intro f
 induction f with
 |zero=>intro tag;refine⟨fun s=>?_⟩;rw[P];exact .inl rfl
 |succ f ih=>
  intro tag;cases tag <;> (rw[P,P];repeat' (first|intro _|with_reducible apply LE.bind|with_reducible apply LE.bif|with_reducible apply LE.one|with_reducible exact ih _|with_reducible exact LE.refl _))
theorem Xt{f g:Nat}(h:f<=g)(tag:ar)(s:aw):P L fin aL wide f tag s= .out\/P L fin aL wide g tag s=P L fin aL wide f tag s:=by
 induction g with
 |zero=>have:f=0:=af;subst this;exact .inr rfl
 |succ g ih=>
  by_cases hg:f=g+1
  ·simp[*]
  ·rcases ih af with h|h
   ·simp[*]
   ·rcases(ad_ L fin aL wide g tag).h s with h'|h'
    all_goals grind
end
end
section
open Go
def aw.ay(s:aw):aw:=⟨s.i+1,s.nodes,s.bQ,s.loops,s.bI⟩
def aw.add(s:aw)(x:cA):aw:=⟨s.i,s.nodes++[x],s.bQ,s.loops,s.bI⟩
section
variable{α β:Type}{fin:Int}{L:List bA}{aL:Nat->ByteArray}{wide:ByteArray->ByteArray}{s t:aw}
theorem pl{k:bA->PM β}:(ig L fin>>=k) s=k (aI L fin s) s:=rfl
theorem mV{k:aw->PM β}:(ie>>=k) s=k s s:=rfl
variable{b:Bool}{T:ByteArray}{x:cA}{a e p:Int}{m:PM (List Int)}{u:aw}
theorem CL{k:Unit->PM β}:(lV u>>=k) s=k () u:=rfl
theorem mn{k:Unit->PM β}:(gA>>=k) s=k () s.ay:=rfl
theorem CJ{k:Int->PM β}:(fJ a>>=k) s=k (dG s a) s:=rfl
theorem AG{k:Int->PM β}:(eK x>>=k) s=k s.nodes.length (s.add x):=rfl
theorem jx:bM x s= .ok [(s.nodes.length:Int)] (s.add x):=rfl
theorem jf{a:α}{k:α->PM β}:(ret a>>=k) s=k a s:=rfl
theorem CK{a:α}:ret a s= .ok a s:=rfl
theorem IF{a:Nat}{k:Bool->PM β}:(th L a T>>=k) s=k (bE L s a T) s:=rfl
theorem IE{k:α->PM β}:(m9 L fin>>=k) s= .stop (aI L fin s).pos 60 s:=rfl
theorem ml{k:Bool->PM β}(h:bE L s 0 T=true):(eg L T>>=k) s=k true s.ay:=by
 show cq (eg L T) k s=_;unfold cq eg;rw[h];rfl
theorem mW{k:Bool->PM β}(h:bE L s 0 T=false):(eg L T>>=k) s=k false s:=by
 show cq (eg L T) k s=_;unfold cq eg;simp[*]
theorem wO{k:Unit->PM β}(h:bE L s 0 T=true):(dn L fin T>>=k) s=k () s.ay:=by
 show cq (dn L fin T) k s=_;unfold cq dn;rw[h];rfl
theorem IH{k:Unit->PM β}(h:bE L s 0 T=false):(dn L fin T>>=k) s= .stop (aI L fin s).pos 60 s:=by
 show cq (dn L fin T) k s=_;unfold cq dn;simp[*]
def lO(s:aw)(k:Int)(jr:Bool):Bool:=uJ s k !=8&&(uJ s k !=9&&(uJ s k !=3|| !jr))
theorem Oe{k:Unit->PM β}(h:lO s a b=false):(nt a b>>=k) s=k () s:=by
 show cq (nt a b) k s=_;unfold lO at h;unfold cq nt;simp[*]
theorem Od{k:Unit->PM β}(h:lO s a b=true):(nt a b>>=k) s= .stop (dG s a) 61 s:=by
 show cq (nt a b) k s=_;unfold lO at h;unfold cq nt;simp[*]
theorem Og{k:ByteArray->PM β}(h:(aI L fin s).kind=1):(ly L fin>>=k) s=k (aI L fin s).text s.ay:=by
 show cq (ly L fin) k s=_;unfold cq ly;rw[h];rfl
theorem Of{k:ByteArray->PM β}(h:(aI L fin s).kind≠1):(ly L fin>>=k) s= .stop (aI L fin s).pos 60 s:=by
 show cq (ly L fin) k s=_;have e:((aI L fin s).kind !=1)=true:=by simp[*]
 unfold cq ly;simp[*]
theorem WW{k:Unit->PM β}(h:fy L fin s= .ok () u):(fy L fin>>=k) s=k () u:=by
 show cq (fy L fin) k s=_;unfold cq;rw[h]
theorem WX{k:Unit->PM β}(h:fy L fin s= .stop p e u):(fy L fin>>=k) s= .stop p e u:=by
 show cq (fy L fin) k s=_;unfold cq;rw[h]
theorem tS{k:Int->PM β}(h:eV L fin aL wide s= .ok a u):(eV L fin aL wide>>=k) s=k a u:=by
 show cq (eV L fin aL wide) k s=_;unfold cq;rw[h]
theorem IG{k:Int->PM β}(h:eV L fin aL wide s= .stop p e u):(eV L fin aL wide>>=k) s= .stop p e u:=by
 show cq (eV L fin aL wide) k s=_;unfold cq;rw[h]
theorem Oc{k:Int->PM β}:(nV L fin>>=k) s=k s.nodes.length (s.add ⟨36,.empty,0,[],(aI L fin s).pos⟩):=rfl
theorem Fq{m:PM α}{k:α->PM β}{a:α}(h:m s= .ok a t):(m>>=k) s=k a t:=by
 show cq m k s=_;unfold cq;rw[h]
theorem Fs{m:PM α}{k:α->PM β}(h:m s= .stop p e t):(m>>=k) s= .stop p e t:=by
 show cq m k s=_;unfold cq;rw[h]
theorem Ob{m:PM α}{k:α->PM β}(h:(m>>=k) s≠.out):m s≠.out:=fun e=>h (by
 show cq m k s=_;unfold cq;rw[e])
theorem ab3{k:Int->PM β}(h:m s= .ok [a] t):(one m>>=k) s=k a t:=Fq (al1 h)
theorem al2(h:m s= .stop p e t):one m s= .stop p e t:=by
 unfold one cq;rw[h]
theorem ab4{k:Int->PM β}(h:m s= .stop p e t):(one m>>=k) s= .stop p e t:=Fs (al2 h)
theorem WV{k:Int->PM β}(h:(one m>>=k) s≠.out):m s≠.out:=fun e=>Ob h (by
 unfold one cq;rw[e])
end
end
section
open Go Go.ChangeShapes Go.WideShapes Go.ChangeAt Go.RowKit
section
variable{H:Type}{g_:TypeId×Value->H}{P:Program}{W:World}{uw:Nat}{apa:Nat->Bool}{held:Bool}
end
end
section
open Go Go.ChangeShapes Go.WideShapes Go.ChangeAt Go.RowKit
def sq{α β:Type}(R:α->β->Prop):List α->List β->Prop
 | [],[]=>True
 |a::l,b::m=>R a b/\sq R l m
 |_,_=>False
theorem sq.mono{α β:Type}{R R':α->β->Prop}(hR:∀a b,R a b->R' a b):∀{l:List α}{m:List β},sq R l m->sq R' l m
 | [],[],_=>trivial
 | [],_::_,h=>h.elim
 |_::_,[],h=>h.elim
 |_::_,_::_,h=>⟨hR _ _ h.1,sq.mono hR h.2⟩
theorem Xj{α β:Type}{R:α->β->Prop}{a:α}{b:β}(BA:R a b):∀{l:List α}{m:List β},sq R l m->sq R (l++[a]) (m++[b])
 | [],[],_=>⟨BA,ao⟩
 | [],_::_,h=>h.elim
 |_::_,[],h=>h.elim
 |_::_,_::_,h=>⟨h.1,Xj BA h.2⟩
section
variable{H:Type}{g_:TypeId×Value->H}{P:Program}{W:World}{uw:Nat}{apa:Nat->Bool}{held:Bool}
end
end
section
open Go
structure co where
 b:Nat
 la:Option Addr
 lc:Nat
 L:List bA
 fin:Int
def co.cells(x:co)(v:Value)(s:aw):List Value:=[.slice x.la x.L.length x.lc,.int .i64 s.i,.int .i64 x.fin,v,.int .i64 s.bQ,.int .i64 s.loops,.int .i64 s.bI]
def Bv(x:cA)(v:Value):List Value:=[.int .i64 x.kind,.string x.op,.float .f64 x.num,v,.int .i64 x.pos]
def qk:List cA->List Value->List Value
 |x::xs,v::vs=>Bv x v++qk xs vs
 |_,_=>[]
theorem YQ:∀(ns:List cA)(vs:List Value),ns.length=vs.length->(qk ns vs).length=ns.length*5
 | [],[],_=>rfl
 |x::ns,v::vs,h=>by
  have:=YQ ns vs (by simpa using h);rw[qk,gi,this,xA];show 5+ns.length*5=_;omega
 | [],_::_,h=>by simp at h
 |_::_,[],h=>by simp at h
theorem YR:∀(ns:List cA)(vs:List Value)(x:cA)(v:Value),ns.length=vs.length->qk (ns++[x]) (vs++[v])=qk ns vs++Bv x v
 | [],[],x,v,_=>by simp[qk]
 |y::ns,u::vs,x,v,h=>by
  have:=YR ns vs x v (by simpa using h);rw[List.cons_append,List.cons_append,qk,this,qk,lI]
 | [],_::_,_,_,h=>by simp at h
 |_::_,[],_,_,h=>by simp at h
theorem Kj:∀(ns:List cA)(vs:List Value)(i j:Nat)(x:cA)(v u:Value),ns[i]?=some x->vs[i]?=some v->(Bv x v)[j]?=some u->(qk ns vs)[i*5+j]?=some u
 | [],_,i,j,x,v,u,h,_,_=>by simp at h
 |_::_,[],i,j,x,v,u,_,h,_=>by simp at h
 |y::ns,w::vs,0,j,x,v,u,h,h',hu=>by
  have h:y=x:=by simpa using h
  have h':w=v:=by simpa using h'
  subst h h';have hj:=(mG.1 hu).1;rw[qk,Nat.zero_mul,jk,rB hj];exact hu
 |y::ns,w::vs,i+1,j,x,v,u,h,h',hu=>by
  have h5:(Bv y w).length=5:=rfl;rw[qk,sR af,h5,show(i+1)*5+j-5=i*5+j by omega];exact Kj ns vs i j x v u (by simpa using h) (by simpa using h') hu
def A0(I:a7)(ns:List cA)(vs:List Value):Prop:=sq (fun x v=>C8 I 1 v (bC x.aF)) ns vs
def Kf.rest(ns:List cA)(vs:List Value):I9 where
 holds I _ _:=A0 I ns vs
 Eb _ _ _ _ _ h:=h
 mono _ _ _ _ h k:=sq.mono (fun _ _ q=>q.mono h) k
def gb(ns:List cA)(vs:List Value):ai:=.dv (Kf.rest ns vs)
structure fi where
 r:Row
 vs:List Value
def fi.ok(y:fi)(ns:List cA):Prop:=bv 35 5 (qk ns y.vs) y.r/\ns.length=y.vs.length
def Ep(x:co)(s:aw)(y:fi):ai:=uv [.cells x.b (x.cells y.r.v s) 43,y.r.A,gb s.nodes y.vs]
def Ps.rest(x:co)(s:aw):I9 where
 holds I h o:=∃y:fi,y.ok s.nodes/\(Ep x s y).holds I h o
 Eb I h h' o he:=fun⟨y,h1,h2⟩=>⟨y,h1,ai.local he h2⟩
 mono I J h o bS:=fun⟨y,h1,h2⟩=>⟨y,h1,ai.mono bS h2⟩
def al(x:co)(s:aw):ai:=.dv (Ps.rest x s)
variable{A F:ai}{I:a7}{y:fi}{w:World}
theorem fi.ok.len{ns:List cA}(h:y.ok ns):y.r.n=ns.length:=by
 have h1:=h.1.len;rw[YQ _ _ h.2]at h1;omega
theorem LC{x:co}{s:aw}(h:Sat I (bD [al x s,F]) w):∃y:fi,y.ok s.nodes/\Sat I (bD [.cells x.b (x.cells y.r.v s) 43,y.r.A,gb s.nodes y.vs,F]) w:=by
 obtain⟨y,hy,hs⟩:=h.SY (Y:=fi) (R:=fun y=>y.ok s.nodes) (B:=fun y=>Ep x s y) 0 fun _ _⟨y,h1,h2⟩=>⟨y,h1,h2⟩;have h2:Sat I (bD ([F]++[Ep x s y])) w:=hs.pick [1,0] rfl rfl;exact⟨y,hy,h2.acq.pick [1,2,3,0] rfl rfl⟩
theorem ant{x:co}{s:aw}(h:Sat I (bD [al x s,A,F]) w):∃y:fi,y.ok s.nodes/\Sat I (bD [.cells x.b (x.cells y.r.v s) 43,y.r.A,gb s.nodes y.vs,A,F]) w:=by
 obtain⟨y,hy,hs⟩:=h.SY (Y:=fi) (R:=fun y=>y.ok s.nodes) (B:=fun y=>Ep x s y) 0 fun _ _⟨y,h1,h2⟩=>⟨y,h1,h2⟩;have h2:Sat I (bD ([A,F]++[Ep x s y])) w:=hs.pick [1,2,0] rfl rfl;exact⟨y,hy,h2.acq.pick [2,3,4,0,1] rfl rfl⟩
theorem LD{x:co}{s:aw}(hy:y.ok s.nodes):aD (bD [.cells x.b (x.cells y.r.v s) 43,y.r.A,gb s.nodes y.vs,F]) (bD [al x s,F]):=⟨fun I w h=>by
 have h2:Sat I (bD ([F]++[.cells x.b (x.cells y.r.v s) 43,y.r.A,gb s.nodes y.vs])) w:=h.pick [3,0,1,2] rfl rfl;have h3:=h2.Yb.Fj (B:=al x s) 1 fun _ _ q=>⟨y,hy,q⟩;exact⟨I,a7.le_refl I,h3.pick [1,0] rfl rfl⟩⟩
theorem d_{x:co}{s:aw}{k:Nat}{u:Value}(h:∀v,(x.cells v s)[k]?=some u):aO (al x s) ⟨x.b,k,none⟩ u:=⟨fun I h' o hc⟨y,_,hB⟩=>(adU 0 rfl (aO.cells (h y.r.v)):aO (Ep x s y) ⟨x.b,k,none⟩ u).h I h' o hc hB⟩
structure fW(x:co)(F:ai):Prop where
 src:mt 5 (iS x.L) x.la x.L.length
 Fp:rl F x.la (iS x.L)
theorem fW.sub{x:co}{B:ai}(hs:Sub A B)(h:fW x A):fW x B:=⟨h.src,h.Fp.sub hs⟩
def co.p(x:co)(s:aw):c8:=⟨x.b,x.la,x.lc,x.L,x.fin,s.i⟩
theorem fW.di{x:co}(h:fW x F){S:St}{bF:List Nat}{s:aw}(i j:Nat)(hi:i∉bF)(hj:j∉bF)(ei:gt S i=al x s)(ej:gt S j=F):jD (x.p s) (.dv (rest S bF)):=by
 refine⟨aO.rest hi ?_,aO.rest hi ?_,aO.rest hi ?_,h.src,h.Fp.sub (qN j hj ej)⟩ <;> rw[ei] <;> exact d_ fun _=>rfl
structure vq where
 x:co
 s:aw
 t:aw
 k:Nat
 v:Value
def fS:aR where
 X:=vq
 args x:=[ah (some ⟨x.x.b,x.k,none⟩),x.v]
 pre x:=[al x.x x.s]
 cond x:=(∀u,(x.x.cells u x.s).set x.k x.v=x.x.cells u x.t)/\x.t.nodes=x.s.nodes/\x.k<7/\x.v.oneCell'=true/\x.v.cells=#[x.v]
 val _ _:=az undef
 post x _:=[al x.x x.t]
theorem gQ{P:Program}{o:Oper}{a v:Operand}{t:TypeId}{cy:TypeInfo}(ho:o.op= .store t a v)(hi:P.info? t=some cy)(hk:cy.size=1):fj P o fS:=by
 refine⟨fun q F I w ρ ha hc hr hs=>?_⟩;obtain⟨x,s,s',k,u⟩:=q;obtain⟨KW,hn,ZG,h1,RF⟩:=hc;dsimp only at KW hn ZG h1 RF;simp only[ho,Op.operands,fS]at ha;have c5:ρ a= .pointer (some ⟨x.b,k,none⟩)/\ρ v=u:=by simpa using ha
 obtain⟨hp,hu⟩:=c5;obtain⟨y,hy,dD⟩:=LC (F:=F) hs;have pK:w.heap[x.b]?=some (.cells ⟨x.cells y.r.v s⟩ 43 (0,0)):=dD.cells (j:=0) rfl;have rG:=run_storeCells_at P x.b k 43 [u] 0 ⟨x.cells y.r.v s⟩ w pK (by show k+0+1<=7;omega) (by simpa using h1);have e2:(x.cells y.r.v s).take k++[u]++(x.cells y.r.v s).drop (k+1)=x.cells y.r.v s':=by
  rw[<-KW,List.set_eq_take_append_cons_drop,if_pos (by show k<7;exact ZG)];simp
 simp only[Nat.add_zero,DQ]at rG;rw[e2]at rG;have vU:=dD.setRow (j:=0) (b:=x.b) (vs:=x.cells y.r.v s) (t:=43) (Fw:=x.cells y.r.v s') rfl;have KV:Sat I (bD [.cells x.b (x.cells y.r.v s') 43,y.r.A,gb s'.nodes y.vs,F]) (w.setRow x.b ⟨x.cells y.r.v s'⟩):=by rw[hn];exact vU
 obtain⟨J,bS,R9⟩:=(LD (by rw[hn];exact hy)).h I _ KV;exact⟨(),J,_,undef,ao,.inr ⟨by simp[execOp,ho,hp,hu,Instr.storeAt,Instr.sureAddr,storeVar,sizeOf,typeInfo,hi,hk,RF,rG],rfl⟩,rfl,bS,R9,ap⟩
end
section
open Go
structure zc where
 x:co
 s:aw
 y:fi
 k:Int
variable{ns:List cA}
theorem ya{y:fi}(hy:y.ok ns){rb i j:Nat}{d:cA}{u:Value}(e:y.r.a=some ⟨rb,0,none⟩)(hd:ns[i]?=some d)(hu:∀v,(Bv d v)[j]?=some u):aO y.r.A ⟨rb,0+i*5+j,none⟩ u:=by
 have hs:=hy.1.Fo;rw[e]at hs;have hi:=(mG.1 hd).1;have:=hs.look (Kj ns y.vs i j d _ u hd (gv (by rw[<-hy.2];exact hi)) (hu _));rw[Nat.add_assoc];exact this
def abp(x:zc):=ag x.x.b [au x.x.la x.x.L.length x.x.lc,ae x.s.i,ae x.x.fin,au x.y.r.a x.y.r.n x.y.r.cap,ae x.s.bQ,ae x.s.loops,ae x.s.bI] 43
def Dy:aR where
 X:=zc
 args x:=[ah (some ⟨x.x.b,0,none⟩),ae x.k]
 pre x:=[abp x,x.y.r.A,gb x.s.nodes x.y.vs]
 cond x:=x.y.ok x.s.nodes/\0<=x.k/\x.k<x.s.nodes.length
 val x _:=az (ae (dG x.s x.k))
 post x _:=[abp x,x.y.r.A,gb x.s.nodes x.y.vs]
def LV(x:zc):List Value:=[au x.x.la x.x.L.length x.x.lc,ae ↑x.s.i,ae x.x.fin,au x.y.r.a x.y.r.n x.y.r.cap,ae x.s.bQ,ae x.s.loops,ae x.s.bI]
def Ny(x:zc)(F:ai):=[(0,ag x.x.b (LV x) 43),(1,x.y.r.A),(2,eD (Kf.rest x.s.nodes x.y.vs)),(3,F)]
theorem afp(x:zc)(F:ai)(hc:Dy.cond x)(hr:Dy.aQ x F):ax x.x.b 3/\lF (a8 Tryz.f27 1 5) [au x.y.r.a x.y.r.n x.y.r.cap,ae x.k] (fun b=>T1 x.y.r.A ⟨b.b,b.o+b.n.toNat*5+4,none⟩ (fun a=>aq Dy x F (az (ae a)) (Ny x F))):=by
 delta lF T1 LV Ny ax ae au ag eD az;obtain⟨⟨b,la,lc,L,fin⟩,s,y,k⟩:=x;obtain⟨hy,h0,hk⟩:=hc;dsimp only at hy h0 hk⊢;obtain⟨i,rfl⟩:∃i:Nat,k=(i:Int):=⟨k.toNat,(Int.toNat_of_nonneg h0).symm⟩;have hi:i<s.nodes.length:=af;obtain⟨d,hd⟩:∃d,s.nodes[i]?=some d:=⟨_,gv hi⟩;obtain⟨rb,ha⟩:=hy.1.Bg (by rw[hy.len];omega);have hn:=hy.len;refine⟨ap,jp 5 rfl rfl rfl rfl,⟨rb,0,y.r.n,y.r.cap,i⟩,by rw[ha],iP,d.pos,?_,(),ao,?_,aB [0,1,2,3]⟩
 ·rw[cB];exact ya hy ha hd fun v=>rfl
 ·show returned _=returned (.int .i64 (dG s (i:Int)));unfold dG;rw[cB,hd];rfl
theorem X_:aC 27 Dy:=fo 13 Tryz.func27 (fun _ _=>[(1,3,aT 0),(1,5,.qo (h_ 5)),(1,7,.q [.ex 1 (.int .i64)])]) [] aY aY bz [] afp
structure FV where
 o:zc
 jr:Bool
def Hk:aR where
 X:=FV
 Y:=Unit ⊕ Unit
 args x:=[ah (some ⟨x.o.x.b,0,none⟩),ae x.o.k,ak x.jr]
 pre x:=[ag x.o.x.b [au x.o.x.la x.o.x.L.length x.o.x.lc,ae x.o.s.i,ae x.o.x.fin,au x.o.y.r.a x.o.y.r.n x.o.y.r.cap,ae x.o.s.bQ,ae x.o.s.loops,ae x.o.s.bI] 43,x.o.y.r.A,gb x.o.s.nodes x.o.y.vs]
 cond x:=x.o.y.ok x.o.s.nodes/\0<=x.o.k/\x.o.k<x.o.s.nodes.length
 cd x y:=match y with
  | .inl _=>lO x.o.s x.o.k x.jr=false
  | .inr _=>lO x.o.s x.o.k x.jr=true
 val x y:=match y with
  | .inl _=>.returned (.tuple #[])
  | .inr _=>.panicked [⟨jy (dG x.o.s x.o.k) 61,false,false⟩]
 post x y:=match y with
  | .inl _=>[.cells x.o.x.b [.slice x.o.x.la x.o.x.L.length x.o.x.lc,.int .i64 x.o.s.i,.int .i64 x.o.x.fin,.slice x.o.y.r.a x.o.y.r.n x.o.y.r.cap,.int .i64 x.o.s.bQ,.int .i64 x.o.s.loops,.int .i64 x.o.s.bI] 43,x.o.y.r.A,gb x.o.s.nodes x.o.y.vs]
  | .inr _=>[]
 sum:=some (iX Unit Unit)
def XG(aa:List Value)(pp:List ai)(k0:zc->Unit->Prop):=aC 27 Dy/\true=true/\∃(z:zc),aa=[ah (some ⟨z.x.b,0,none⟩),ae z.k]/\pp=[ag z.x.b (LV z) 43,z.y.r.A,eD (Kf.rest z.s.nodes z.y.vs)]/\(z.y.ok z.s.nodes/\0<=z.k/\z.k<z.s.nodes.length)/\True/\∀(u0:Unit),True->k0 z u0
def TK(x:FV):List Value:=[au x.o.x.la x.o.x.L.length x.o.x.lc,ae ↑x.o.s.i,ae x.o.x.fin,au x.o.y.r.a x.o.y.r.n x.o.y.r.cap,ae x.o.s.bQ,ae x.o.s.loops,ae x.o.s.bI]
def V2(x:FV)(F:ai):=XG [ah (some ⟨x.o.x.b,0,none⟩),ae x.o.k] [ag x.o.x.b (TK x) 43,x.o.y.r.A,eD (Kf.rest x.o.s.nodes x.o.y.vs)] (fun d c=>Jq [ah (some ⟨x.o.x.b,0,none⟩),ae (dG d.s d.k),ae 61] (fun b a=>aq Hk x F (dK b.p b.e) (Ny d F)))
def NR(x:FV)(F:ai):=aq Hk x F eM [(0,ag x.o.x.b (TK x) 43),(1,x.o.y.r.A),(2,eD (Kf.rest x.o.s.nodes x.o.y.vs)),(3,F)]
theorem amU(x:FV)(F:ai)(hc:Hk.cond x)(hr:Hk.aQ x F):ax x.o.x.b 3/\lF (a8 Tryz.f26 0 5) [au x.o.y.r.a x.o.y.r.n x.o.y.r.cap,ae x.o.k] (fun f=>T1 x.o.y.r.A ⟨f.b,f.o+f.n.toNat*5,none⟩ (fun e=>Br (e !=8) (Br (e !=9) (Br (e !=3) (V2 x F) (Br (!x.jr) (V2 x F) (NR x F))) (NR x F)) (NR x F))):=by
 delta lF T1 LV XG TK Jq Ny V2 eM NR dK ax ae ah au ag eD az;obtain⟨⟨⟨b,la,lc,L,fin⟩,s,y,k⟩,jr⟩:=x;obtain⟨hy,h0,hk⟩:=hc;dsimp only at hy h0 hk⊢;obtain⟨i,rfl⟩:∃i:Nat,k=(i:Int):=⟨k.toNat,(Int.toNat_of_nonneg h0).symm⟩;have hi:i<s.nodes.length:=af;obtain⟨d,hd⟩:∃d,s.nodes[i]?=some d:=⟨_,gv hi⟩;obtain⟨rb,ha⟩:=hy.1.Bg (by rw[hy.len];omega);have hn:=hy.len;have ek:uJ s (i:Int)=d.kind:=by unfold uJ;rw[cB,hd];rfl
 refine⟨ap,jp 5 rfl rfl rfl rfl,⟨rb,0,y.r.n,y.r.cap,i⟩,by rw[ha],iP,d.kind,?_,?_⟩
 ·rw[cB];exact ya (j:=0) hy ha hd fun v=>rfl
 refine mo (A:=lO s (i:Int) jr=true) (fun k=>aG (fun h8=>aG (fun h9=>aG (fun h3=>k ?_) (fun h3=>aG (fun hn=>k ?_) (fun hn=>⟨.inl (),?_,rfl,aB [0,1,2,3]⟩))) (fun h9=>⟨.inl (),?_,rfl,aB [0,1,2,3]⟩)) (fun h8=>⟨.inl (),?_,rfl,aB [0,1,2,3]⟩)) (fun hb=>bV X_ ⟨⟨b,la,lc,L,fin⟩,s,y,(i:Int)⟩ ⟨hy,h0,hk⟩ fun _ _=>nf YX ⟨b,dG s (i:Int),61⟩ fun _ _=>⟨.inr (),hb,rfl,aB [3]⟩)
 ·unfold lO;rw[ek,show(d.kind !=8)=true from h8,show(d.kind !=9)=true from h9,show(d.kind !=3)=true from h3];rfl
 ·unfold lO;rw[ek,show(d.kind !=8)=true from h8,show(d.kind !=9)=true from h9,show(d.kind !=3)=false from h3,show(!jr)=true from hn];rfl
 ·show lO s (i:Int) jr=false;unfold lO;rw[ek,show(d.kind !=8)=true from h8,show(d.kind !=9)=true from h9,show(d.kind !=3)=false from h3,show(!jr)=false from hn];rfl
 ·show lO s (i:Int) jr=false;unfold lO;rw[ek,show(d.kind !=8)=true from h8,show(d.kind !=9)=false from h9];rfl
 ·show lO s (i:Int) jr=false;unfold lO;rw[ek,show(d.kind !=8)=false from h8];rfl
theorem amT:aC 26 Hk:=fo 34 Tryz.func26 (fun _ _=>[(0,3,aT 0),(0,5,.qo (h_ 5)),(0,7,.q [.ex 1 (.int .i64)]),(2,3,.c Dy [0,1,2] [0,1,2]),(2,4,aX Bw)]) [] aY aY bz [] amU
structure OT where
 x:co
 s:aw
 y:fi
 n:cA
 kr:Row
def Ll:aR where
 X:=OT
 Y:=Row
 args x:=[.pointer (some ⟨x.x.b,0,none⟩),.agg #[.int .i64 x.n.kind,.string x.n.op,.float .f64 x.n.num,.slice x.kr.a x.kr.n x.kr.cap,.int .i64 x.n.pos]]
 pre x:=[ag x.x.b [au x.x.la x.x.L.length x.x.lc,ae x.s.i,ae x.x.fin,au x.y.r.a x.y.r.n x.y.r.cap,ae x.s.bQ,ae x.s.loops,ae x.s.bI] 43,x.y.r.A,gb x.s.nodes x.y.vs,x.kr.A]
 cond x:=x.y.ok x.s.nodes/\x.s.nodes.length<=4194304/\bv 3 1 (bC x.n.aF) x.kr
 cd x r:=bv 35 5 (qk (x.s.nodes++[x.n]) (x.y.vs++[x.kr.v])) r
 val x _:=az (ae x.s.nodes.length)
 post x r:=[ag x.x.b [au x.x.la x.x.L.length x.x.lc,ae x.s.i,ae x.x.fin,au r.a r.n r.cap,ae x.s.bQ,ae x.s.loops,ae x.s.bI] 43,r.A,gb (x.s.nodes++[x.n]) (x.y.vs++[x.kr.v])]
theorem agZ{A B F:ai}{vs:List Value}{n:cA}{kr:Row}(hk:bv 3 1 (bC n.aF) kr):aD (bD [A,B,gb ns vs,kr.A,F]) (bD [A,B,gb (ns++[n]) (vs++[kr.v]),F]):=⟨fun I w h=>by
 obtain⟨J,bS,hfz,hJ⟩:=h.ahW 3 hk rfl;have h3:=hJ.Fj (B:=gb (ns++[n]) (vs++[kr.v])) 2 fun h o(q:A0 J ns vs)=>(Xj (R:=fun(x:cA)v=>C8 J 1 v (bC x.aF)) hfz q:A0 J (ns++[n]) (vs++[kr.v]));exact⟨J,bS,h3.pick [0,1,2,4] rfl rfl⟩⟩
def Hw(x:OT):List Value:=[ae x.n.kind,aj x.n.op,float f64 x.n.num,au x.kr.a x.kr.n x.kr.cap,ae x.n.pos]
theorem alR(x:OT)(F:ai)(hc:Ll.cond x)(hr:Ll.aQ x F):∀(d:Nat),true=true/\ax x.x.b 3/\cF d (∀(c:Nat),fj Tryz.prog (a8 Tryz.f18 1 7) (dt (35:TypeId) 5 64)/\true=true/\∃(b:qX),[au x.y.r.a x.y.r.n x.y.r.cap,au (bJ c) 1 1]=(mg b)/\[x.y.r.A]=[b.r.A]/\(bv 35 5 b.cs b.r/\b.ys.length=b.m*5/\(∀(a:Value),a∈b.ys->a.oneCell'=true)/\(b.r.n+b.m)*64<=140737488355328/\b.r.n+b.m<=9223372036854775807/\(b.a=none->b.m=0/\b.c=0))/\(∀(a:Addr),b.a=some a->da (aH [(0,ag x.x.b [au x.x.la x.x.L.length x.x.lc,ae ↑x.s.i,ae x.x.fin,au x.y.r.a x.y.r.n x.y.r.cap,ae x.s.bQ,ae x.s.loops,ae x.s.bI] 43),(1,x.y.r.A),(2,eD (Kf.rest x.s.nodes x.y.vs)),(3,x.kr.A),(4,F),(1000,ag d (Hw x) 35),(2060,ag c (Hw x) 35)] [1]) a b.ys)/\∀(a:Row),(bv 35 5 (b.cs++b.ys) a/\a.n=b.r.n+b.m/\(b.m=0->a=b.r))->ax x.x.b 3/\ax x.x.b 3/\((-9223372036854775808:Int)<=(a.n:Int)-1/\(a.n:Int)-1<=(9223372036854775807:Int))/\aq Ll x F (az (ae ((a.n:Int)-1))) [(0,ag x.x.b [au x.x.la x.x.L.length x.x.lc,ae ↑x.s.i,ae x.x.fin,au a.a a.n a.cap,ae x.s.bQ,ae x.s.loops,ae x.s.bI] 43),(1,a.A),(2,eD (Kf.rest x.s.nodes x.y.vs)),(3,x.kr.A),(4,F),(1000,ag d (Hw x) 35),(2060,ag c (Hw x) 35)]):=by
 delta bJ mg Hw aH ax cF ae aj au ag eD az;obtain⟨⟨b,la,lc,L,fin⟩,s,y,n,kr⟩:=x;obtain⟨hy,hn,hk⟩:=hc;dsimp only at hy hn hk⊢;have hl:=hy.len;intro c;refine⟨rfl,ap,ap,ap,ap,ap,ap,fun sb=>bp (kP 5 64 rfl rfl rfl rfl rfl rfl rfl (by decide)) ⟨y.r,qk s.nodes y.vs,some ⟨sb,0,none⟩,1,1,Bv n kr.v⟩ ⟨hy.1,rfl,?_,bd,bd,fun h=>nomatch h⟩ (?_) fun r h2=>?_⟩
 ·intro u hu;simp only[Bv,List.mem_cons,List.not_mem_nil,or_false]at hu;rcases hu with rfl|rfl|rfl|rfl|rfl <;> rfl
 ·intro a ha;cases ha;exact da.rest (j:=2060) aM (da.cells (fun j u hj=>by rw[jk];exact hj))
 ·obtain⟨h2,h3,_⟩:=h2;dsimp only at h2 h3;rw[<-YR _ _ _ _ hy.2]at h2;have e:(r.n:Int)-1=(s.nodes.length:Int):=af;refine⟨ap,ap,aJ,r,h2,by rw[e];rfl,aD.trans (aB [0,1,2,3,4]) (agZ hk)⟩
theorem alQ:aC 18 Ll:=fo 21 Tryz.func18 (fun _ _=>[(0,0,.n 1000),(1,4,aT 0),(1,5,.q (eF 1000)),(1,6,.n 2060),(1,7,.o (dt 35 5 64) [1] [1]),(1,10,.w [.z00 0]),(2,3,aT 0)]) [] aY aY bz [] alR
structure I1 where
 x:co
 s:aw
 k:Int
def vz:aR where
 X:=I1
 args x:=[ah (some ⟨x.x.b,0,none⟩),ae x.k]
 pre x:=[al x.x x.s]
 cond x:=0<=x.k/\x.k<x.s.nodes.length
 val x _:=az (ae (dG x.s x.k))
 post x _:=[al x.x x.s]
theorem zl:aC 27 vz:=X_.DE fun q F I w hc _ hs=>by
 obtain⟨y,hy,dD⟩:=LC (F:=F) hs;exact⟨⟨q.x,q.s,y,q.k⟩,I,a7.le_refl I,⟨hy,hc⟩,ao,rfl,dD,fun _ _=>⟨(),ao,rfl,LD hy⟩⟩
structure Db where
 x:co
 s:aw
 k:Int
 jr:Bool
def B5:aR where
 X:=Db
 Y:=Unit ⊕ Unit
 args x:=[ah (some ⟨x.x.b,0,none⟩),ae x.k,ak x.jr]
 pre x:=[al x.x x.s]
 cond x:=0<=x.k/\x.k<x.s.nodes.length
 cd x y:=match y with
  | .inl _=>lO x.s x.k x.jr=false
  | .inr _=>lO x.s x.k x.jr=true
 val x y:=match y with
  | .inl _=>.returned (.tuple #[])
  | .inr _=>.panicked [⟨jy (dG x.s x.k) 61,false,false⟩]
 post x y:=match y with
  | .inl _=>[al x.x x.s]
  | .inr _=>[]
 sum:=some (iX Unit Unit)
theorem Lz:aC 26 B5:=amT.DE fun q F I w hc _ hs=>by
 obtain⟨y,hy,dD⟩:=LC (F:=F) hs;refine⟨⟨⟨q.x,q.s,y,q.k⟩,q.jr⟩,I,a7.le_refl I,⟨hy,hc⟩,ao,rfl,dD,fun z hz=>?_⟩
 match z,hz with
 | .inl _,hz=>exact⟨.inl (),hz,rfl,LD hy⟩
 | .inr _,hz=>exact⟨.inr (),hz,rfl,aD.refl _⟩
structure qc where
 x:co
 s:aw
 n:cA
 kr:Row
def fR:aR where
 X:=qc
 args x:=[.pointer (some ⟨x.x.b,0,none⟩),.agg #[.int .i64 x.n.kind,.string x.n.op,.float .f64 x.n.num,.slice x.kr.a x.kr.n x.kr.cap,.int .i64 x.n.pos]]
 pre x:=[al x.x x.s,x.kr.A]
 cond x:=x.s.nodes.length<=4194304/\bv 3 1 (bC x.n.aF) x.kr
 val x _:=az (ae x.s.nodes.length)
 post x _:=[al x.x (x.s.add x.n)]
theorem fv:aC 18 fR:=alQ.DE fun q F I w hc _ hs=>by
 obtain⟨y,hy,dD⟩:=ant (F:=F) hs;refine⟨⟨q.x,q.s,y,q.n,q.kr⟩,I,a7.le_refl I,⟨hy,hc.1,hc.2⟩,ao,rfl,dD,fun r hr=>⟨(),ao,rfl,?_⟩⟩;have nk:fi.ok ⟨r,y.vs++[q.kr.v]⟩ (q.s.nodes++[q.n]):=⟨hr,by simp[hy.2]⟩;exact LD (x:=q.x) (s:={q.s with nodes:=q.s.nodes++[q.n]}) nk
end
section
open Go
theorem aiH(L:List bA)(fin:Int)(s:aw):aI L fin s=cu L fin s.i:=rfl
structure jB where
 x:co
 s:aw
 t:ByteArray
def j_(x:jB):Option Addr:=some ⟨x.x.b,0,none⟩
def ja:aR where
 X:=jB
 Y:=Unit ⊕ Unit
 args x:=[ah (j_ x),aj x.t]
 pre x:=[al x.x x.s]
 cond x:=x.x.L.length<=1048576/\x.s.i<=x.x.L.length
 aQ x F:=fW x.x F
 cd x y:=match y with
  | .inl _=>bE x.x.L x.s 0 x.t=true
  | .inr _=>bE x.x.L x.s 0 x.t=false
 val x y:=match y with
  | .inl _=>.returned (.bool true)
  | .inr _=>.returned (.bool false)
 post x y:=match y with
  | .inl _=>[al x.x x.s.ay]
  | .inr _=>[al x.x x.s]
 eX _ _ _ hs h:=fW.sub hs h
 sum:=some (iX Unit Unit)
def rT(z:za):List Value:=[ah (some ⟨z.p.b,0,none⟩),ae ↑z.a,aj z.t]
def rU(z:za):=z.p.L.length<=1048576/\z.p.i<=1048576/\z.a<=1048576
def gW(aa:List Value)(rr:ai)(k0:za->Unit->Prop):=aC 29 hZ/\true=true/\∃(z:za),aa=(rT z)/\([]:List ai)=[]/\rU z/\jD z.p rr/\∀(u0:Unit),True->k0 z u0
def lQ(x:jB)(F:ai):=[(0,al x.x x.s),(1,F)]
def mT(z:vq)(w0:Value):List Value:=[au z.x.la z.x.L.length z.x.lc,ae ↑z.s.i,ae z.x.fin,w0,ae z.s.bQ,ae z.s.loops,ae z.s.bI]
def mU(z:vq)(w0:Value):List Value:=[au z.x.la z.x.L.length z.x.lc,ae ↑z.t.i,ae z.x.fin,w0,ae z.t.bQ,ae z.t.loops,ae z.t.bI]
def dI(oo:Oper)(aa:List Value)(pp:List ai)(k0:vq->Unit->Prop):=fj Tryz.prog oo fS/\true=true/\∃(z:vq),aa=[ah (some ⟨z.x.b,z.k,none⟩),z.v]/\pp=[al z.x z.s]/\((∀(w0:Value),(mT z w0).set z.k z.v=(mU z w0))/\z.t.nodes=z.s.nodes/\z.k<7/\z.v.oneCell'=true/\z.v.cells=⟨[z.v]⟩)/\True/\∀(u0:Unit),True->k0 z u0
theorem ah9(x:jB)(F:ai)(hc:ja.cond x)(hr:ja.aQ x F):gW [ah (j_ x),ae 0,aj x.t] (aH (lQ x F) []) (fun e d=>Br (jb e.p.L (e.p.i+e.a) e.t) (T1 (al x.x x.s) ⟨x.x.b,1,none⟩ (fun c=>dw c/\dI (a8 Tryz.f38 2 7) [ah (some ⟨x.x.b,1,none⟩),ae (c+1)] [al x.x x.s] (fun b a=>aq ja x F jv [(0,al b.x b.t),(1,F)]))) (aq ja x F c7 (lQ x F))):=by
 delta rT rU gW j_ lQ T1 dw mT mU dI jv dq c7 aH al ae aj ak ah au az;obtain⟨x,s,t⟩:=x;obtain⟨hL,hi⟩:=hc;replace hr:fW x F:=hr;dsimp only at hL hi⊢;refine bp kY ⟨x.p s,0,t⟩ ⟨hL,by show s.i<=1048576;omega,bd⟩ (hr.di 0 1 aM aM rfl rfl) fun _ _=>aG (fun h=>⟨_,d_ fun _=>rfl,aJ,gQ rfl rfl rfl,rfl,⟨x,s,s.ay,1,_⟩,rfl,rfl,⟨fun _=>rfl,rfl,bd,rfl,rfl⟩,ao,fun _ _=>⟨.inl (),h,rfl,aB [0,1]⟩⟩) (fun h=>⟨.inr (),h,rfl,aB [0,1]⟩)
theorem kV:aC 38 ja:=fo 15 Tryz.func38 (fun _ _=>[(1,2,aX hZ),(2,3,dm),(2,7,dO fS)]) [] aY aY bz [] ah9
def jd:aR where
 X:=jB
 Y:=Unit ⊕ Unit
 args x:=[ah (j_ x),aj x.t]
 pre x:=[al x.x x.s]
 cond x:=x.x.L.length<=1048576/\x.s.i<=x.x.L.length
 aQ x F:=fW x.x F
 cd x y:=match y with
  | .inl _=>bE x.x.L x.s 0 x.t=true
  | .inr _=>bE x.x.L x.s 0 x.t=false
 val x y:=match y with
  | .inl _=>.returned (.tuple #[])
  | .inr _=>.panicked [⟨jy (aI x.x.L x.x.fin x.s).pos 60,false,false⟩]
 post x y:=match y with
  | .inl _=>[al x.x x.s.ay]
  | .inr _=>[]
 eX _ _ _ hs h:=fW.sub hs h
 sum:=some (iX Unit Unit)
def fX(aa:List Value)(pp:List ai)(rr:ai)(k0:jB->Unit->Prop)(k1:jB->Unit->Prop):=aC 38 ja/\true=true/\∃(z:jB),aa=[ah (j_ z),aj z.t]/\pp=[al z.x z.s]/\(z.x.L.length<=1048576/\z.s.i<=z.x.L.length)/\fW z.x rr/\(∀(u0:Unit),bE z.x.L z.s 0 z.t=true->k0 z u0)/\∀(u1:Unit),bE z.x.L z.s 0 z.t=false->k1 z u1
def oD(d:jB)(F:ai):=[(0,al d.x d.s.ay),(1,F)]
def l6(aa:List Value)(rr:ai)(k0:c8->Unit->Prop):=aC 15 mD/\true=true/\∃(z:c8),aa=(je z)/\([]:List ai)=[]/\z.L.length<=1048576/\jD z rr/\∀(u0:Unit),True->k0 z u0
def kG(b:c8):=dK (cu b.L b.fin b.i).pos 60
theorem alq(x:jB)(F:ai)(hc:jd.cond x)(hr:jd.aQ x F):fX [ah (j_ x),aj x.t] [al x.x x.s] (aH (lQ x F) [0]) (fun d a=>aq jd x F eM (oD d F)) (fun d c=>l6 [ah (j_ x)] (aH (lQ d F) []) (fun b a=>aq jd x F (kG b) (lQ d F))):=by
 delta j_ fX lQ eM oD je l6 kG dK aH al aj ah az;obtain⟨x,s,t⟩:=x;obtain⟨hL,hi⟩:=hc;replace hr:fW x F:=hr;dsimp only at hL hi⊢;refine bp kV ⟨x,s,t⟩ ⟨hL,hi⟩ (hr.sub (b_ 1)) ⟨fun _ h=>⟨.inl (),h,rfl,aB [0,1]⟩,fun _ h=>bp ru (x.p s) hL (hr.di 0 1 aM aM rfl rfl) fun _ _=>⟨.inr (),h,rfl,aB [1]⟩⟩
theorem alp:aC 39 jd:=fo 10 Tryz.func39 (fun _ _=>[(0,2,bq ja),(1,1,aX mD)]) [] aY aY bz [] alq
structure kN where
 x:co
 s:aw
def oA(x:kN):Option Addr:=some ⟨x.x.b,0,none⟩
def zs:aR where
 X:=kN
 args x:=[ah (oA x)]
 pre x:=[al x.x x.s]
 cond x:=x.x.L.length<=1048576/\x.s.nodes.length<=4194304
 aQ x F:=fW x.x F
 val x _:=az (ae x.s.nodes.length)
 post x _:=[al x.x (x.s.add ⟨36,.empty,0,[],(aI x.x.L x.x.fin x.s).pos⟩)]
 eX _ _ _ hs h:=fW.sub hs h
def nC(x:kN):List Value:=[ah (oA x)]
def lR(z:qc):List Value:=[ah (some ⟨z.x.b,0,none⟩),agg ⟨[ae z.n.kind,aj z.n.op,float f64 z.n.num,au z.kr.a z.kr.n z.kr.cap,ae z.n.pos]⟩]
def lS(z:qc):=z.s.nodes.length<=4194304/\bv 3 1 (bC z.n.aF) z.kr
def dc(aa:List Value)(pp:List ai)(k0:qc->Unit->Prop):=aC 18 fR/\true=true/\∃(z:qc),aa=(lR z)/\pp=[al z.x z.s,z.kr.A]/\lS z/\True/\∀(u0:Unit),True->k0 z u0
def lm(b:qc):=ae ↑b.s.nodes.length
def fK(b:qc):=az (lm b)
theorem agV(x:kN)(F:ai)(hc:zs.cond x)(hr:zs.aQ x F):fm (nC x) (aH [(0,al x.x x.s),(1,F)] []) (fun d c=>dc [ah (oA x),agg ⟨[ae 36,aj ⟨#[]⟩,float f64 0,au none 0 0,ae (cu d.L d.fin d.i).pos]⟩] [al x.x x.s,ba] (fun b a=>aq zs x F (fK b) [(0,al b.x (b.s.add b.n)),(1,F),(999,ba)])):=by
 delta je fm oA nC lR lS dc lm fK aH al ae aj ah au ba az;obtain⟨x,s⟩:=x;obtain⟨hL,hn⟩:=hc;replace hr:fW x F:=hr;dsimp only at hL hn⊢;refine bp l9 (x.p s) hL (hr.di 0 1 aM aM rfl rfl) fun _ _=>bV fv ⟨x,s,⟨36,.empty,0,[],(aI x.L x.fin s).pos⟩,dF⟩ ⟨hn,.nil rfl⟩ fun _ _=>⟨(),ao,rfl,aB [0,1]⟩
theorem Kh:aC 31 zs:=fo 9 Tryz.func31 (fun _ _=>[(1,2,aX jm),(1,5,.c fR [0,999] [0])]) [] aY aY bz [] agV
def wS:aR where
 X:=kN
 Y:=Unit ⊕ Unit
 args x:=[ah (oA x)]
 pre x:=[al x.x x.s]
 cond x:=x.x.L.length<=1048576
 aQ x F:=fW x.x F
 cd x y:=match y with
  | .inl _=>(aI x.x.L x.x.fin x.s).kind=1
  | .inr _=>(aI x.x.L x.x.fin x.s).kind≠1
 val x y:=match y with
  | .inl _=>.returned (.string (aI x.x.L x.x.fin x.s).text)
  | .inr _=>.panicked [⟨jy (aI x.x.L x.x.fin x.s).pos 60,false,false⟩]
 post x y:=match y with
  | .inl _=>[al x.x x.s.ay]
  | .inr _=>[]
 eX _ _ _ hs h:=fW.sub hs h
 sum:=some (iX Unit Unit)
theorem xG{L:List bA}{fin:Int}{s:aw}(h:(aI L fin s).kind≠0):s.i<L.length:=jX (fin:=fin) h
def q0(f:c8):List Value:=[ae (cu f.L f.fin f.i).kind,aj (cu f.L f.fin f.i).text,float f64 (cu f.L f.fin f.i).num,ae (cu f.L f.fin f.i).pos,ak (cu f.L f.fin f.i).aK]
def ym(f:c8):=aj (cu f.L f.fin f.i).text
theorem aqh(x:kN)(F:ai)(hc:wS.cond x)(hr:wS.aQ x F):fm (nC x) (aH [(0,al x.x x.s),(1,F)] []) (fun f e=>∀(d:Nat),cF d (ax d 0/\Br ((cu f.L f.fin f.i).kind !=1) (l6 (nC x) (aH [(0,al x.x x.s),(1,F),(2020,ag d (q0 f) 53)] []) (fun b a=>aq wS x F (kG b) [(0,al x.x x.s),(1,F),(2020,ag d (q0 f) 53)])) (T1 (al x.x x.s) ⟨x.x.b,1,none⟩ (fun c=>dw c/\dI (a8 Tryz.f65 4 7) [ah (some ⟨x.x.b,1,none⟩),ae (c+1)] [al x.x x.s] (fun b a=>ax d 1/\aq wS x F (az (ym f)) [(0,al b.x b.t),(1,F),(2020,ag d (q0 f) 53)]))))):=by
 delta je fm oA nC l6 q0 kG T1 dw mT mU dI ym dK aH al ax cF ae aj ak ah au ag az;obtain⟨x,s⟩:=x;have hL:x.L.length<=1048576:=hc;replace hr:fW x F:=hr;dsimp only;refine bp l9 (x.p s) hL (hr.di 0 1 aM aM rfl rfl) fun _ _ c=>⟨ap,ap,ap,ap,ap,ap,aG (fun h=>bp ru (x.p s) hL (hr.di 0 1 aM aM rfl rfl) fun _ _=>⟨.inr (),?_,rfl,aB [1]⟩) (fun h=>?_)⟩
 ·intro e;have e:(cu x.L x.fin s.i).kind=1:=e;have h:((cu x.L x.fin s.i).kind !=1)=true:=h;rw[e]at h;cases h
 ·have h:((aI x.L x.fin s).kind !=1)=false:=h;have h1:(aI x.L x.fin s).kind=1:=by simpa using h
  have hi:=xG (L:=x.L) (fin:=x.fin) (s:=s) (by rw[h1];decide);exact⟨_,d_ fun _=>rfl,aJ,gQ rfl rfl rfl,rfl,⟨x,s,s.ay,1,_⟩,rfl,rfl,⟨fun _=>rfl,rfl,bd,rfl,rfl⟩,ao,fun _ _=>⟨ap,.inl (),h1,rfl,aB [0,1]⟩⟩
theorem Ox:aC 65 wS:=fo 20 Tryz.func65 (fun _ _=>[(1,1,aX jm),(1,2,.n 2020),(1,3,.w (eF 2020)),(2,1,aT 2020),(3,1,aX mD),(4,3,dm),(4,7,dO fS),(5,1,aT 2020)]) [] aY aY bz [] aqh
def tM:aR where
 X:=kN
 Y:=aw ⊕ Int
 args x:=[ah (oA x)]
 pre x:=[al x.x x.s]
 cond x:=x.x.L.length<=1048576/\x.s.i<=x.x.L.length
 aQ x F:=fW x.x F
 cd x y:=match y with
  | .inl u=>fy x.x.L x.x.fin x.s= .ok () u
  | .inr p=>fy x.x.L x.x.fin x.s= .stop p 60 x.s
 val x y:=match y with
  | .inl _=>.returned (.tuple #[])
  | .inr p=>.panicked [⟨jy p 60,false,false⟩]
 post x y:=match y with
  | .inl u=>[al x.x u]
  | .inr _=>[]
 eX _ _ _ hs h:=fW.sub hs h
 sum:=some (iX aw Int)
theorem aoB(x:kN)(F:ai)(hc:tM.cond x)(hr:tM.aQ x F):true=true/\fX [ah (oA x),aj ⟨#[59]⟩] [al x.x x.s] (aH [(0,al x.x x.s),(1,F)] [0]) (fun l a=>aq tM x F eM (oD l F)) (fun l k=>gW [ah (oA x),ae 0,aj ⟨#[125]⟩] (aH (lQ l F) []) (fun j i=>Br (jb j.p.L (j.p.i+j.a) j.t) (aq tM x F eM (lQ l F)) (T1 (al l.x l.s) ⟨x.x.b,1,none⟩ (fun h=>e8 (al l.x l.s) ⟨x.x.b,0,none⟩ (fun g f e=>aP (h>=f) (aq tM x F eM (lQ l F)) (fm (nC x) (aH (lQ l F) []) (fun d c=>Br (cu d.L d.fin d.i).aK (aq tM x F eM (lQ l F)) (aC 15 mD/\true=true/\∃(b:c8),(nC x)=(je b)/\([]:List ai)=[]/\b.L.length<=1048576/\jD b (aH (lQ l F) [])/\∀(a:Unit),True->aq tM x F (kG b) (lQ l F))))))))):=by
 delta j_ fX oA eM oD rT rU gW lQ T1 e8 je fm nC kG dK aH al ae aj ah au aP az;obtain⟨x,s⟩:=x;obtain⟨hL,hi⟩:=hc;replace hr:fW x F:=hr;dsimp only at hL hi⊢;refine⟨rfl,kV,rfl,⟨x,s,fM⟩,rfl,rfl,⟨hL,hi⟩,hr.sub (b_ 1),fun _ h=>⟨.inl s.ay,?_,rfl,aB [0,1]⟩,fun _ h=>bp kY ⟨x.p s,0,rc⟩ ⟨hL,by show s.i<=1048576;omega,bd⟩ (hr.di 0 1 aM aM rfl rfl) fun _ _=>aG (fun h1=>⟨.inl s,?_,rfl,aB [0,1]⟩) (fun h1=>⟨_,d_ fun _=>rfl,_,_,_,d_ fun _=>rfl,bl (fun h2=>⟨.inl s,?_,rfl,aB [0,1]⟩) (fun h2=>bp l9 (x.p s) hL (hr.di 0 1 aM aM rfl rfl) fun _ _=>aG (fun h3=>⟨.inl s,?_,rfl,aB [0,1]⟩) (fun h3=>bp ru (x.p s) hL (hr.di 0 1 aM aM rfl rfl) fun _ _=>⟨.inr (aI x.L x.fin s).pos,?_,rfl,aB [1]⟩))⟩)⟩
 ·have h:bE x.L s 0 fM=true:=h;show fy x.L x.fin s=_;unfold fy;rw[h];rfl
 ·have h:bE x.L s 0 fM=false:=h;have h1:bE x.L s 0 rc=true:=h1;show fy x.L x.fin s=_;unfold fy;rw[h,h1];rfl
 ·have h:bE x.L s 0 fM=false:=h;have h2:(s.i:Int)>=x.L.length:=h2;show fy x.L x.fin s=_;unfold fy;rw[h,bG (show s.i>=x.L.length by omega),Bool.true_or,n7];rfl
 ·have h:bE x.L s 0 fM=false:=h;have h3:(aI x.L x.fin s).aK=true:=h3;show fy x.L x.fin s=_;unfold fy;rw[h,h3,n7,n7];rfl
 ·have h:bE x.L s 0 fM=false:=h;have h1:bE x.L s 0 rc=false:=h1;have h2:¬(s.i:Int)>=x.L.length:=h2;have h3:(aI x.L x.fin s).aK=false:=h3;show fy x.L x.fin s=_;unfold fy;rw[h,h1,h3,bK (show ¬s.i>=x.L.length by omega)];rfl
theorem WO:aC 33 tM:=fo 27 Tryz.func33 (fun _ _=>[(0,1,bq ja),(0,4,aX hZ),(0,10,dm),(0,14,.q [.ex 0 .slice]),(0,20,aX jm),(1,1,aX mD)]) [] aY aY bz [] aoB
end
end Go.Proofs.YtdkchodgklpomaaGreatDoor
