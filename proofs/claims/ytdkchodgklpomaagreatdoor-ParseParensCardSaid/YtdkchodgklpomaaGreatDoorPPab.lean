/- Part of the proof that ParseParens answers true at every input. -/
import Derived.Test.YtdkchodgklpomaaGreatDoorPPaa
set_option linter.all false
namespace Go.Proofs.YtdkchodgklpomaaGreatDoor
set_option maxRecDepth 100000
open Go.Value (int slice string bool pointer agg tuple func float iface nilIface)
open Go.IntKind (i64 u8 u64 i32 u32 u16 i8 i16)
open Go.FloatKind (f64)
open Go.Ending (returned panicked)
section
open Go
section
variable{P:Program}{N:Nat}{H:Nat->OH}{aN:Array Oper}{ms:List Nat}
variable{a:Act}{Q:Exit->Act->World->Prop}{I:a_}{ds:List Deferred}{R1 R2 ea l:List Nat}{kp:List PanicEntry->Tm->St->Prop}{i r:Nat}{h:OH}{o:Oper}{S:St}{φ:St->St}{T:Tm}{k:Tm->St->Prop}{w:World}
theorem N_{T':Tm}{k':Tm->St->Prop}{b:List PanicEntry->Tm->St->Prop}(a:sR o=false)
  (f:oY aN o T T') (d:Fr φ (t_ (gu (gH P o h)))) (g:n_ φ S) (c:mT P N aN o h T S k kp)
  (hk:∀v S',eQ S S' (iY (gu (gH P o h)))->k (dw N o.dst v T) S'->k' (dw N o.dst v T') (φ S')) (hp:∀e S',kp e T S'->b e T' (φ S')):
  mT P N aN o h T' (φ S) k' b:=by
 rw[nK]at c⊢;rw[<-qf f];split at c
 ·exact VX a f.AW d g c hk hp
 ·exact hk _ _ (eQ.refl _ _) c
 omega
theorem ald{next:Act->World->Prop}(h:o.wp P a w next fun _ _ _=>False):∃c w',next c w':=by
  unfold Oper.wp at h;generalize (execOp a.eval o).run P w=r at h;cases r with
  |ok n w'=>
    cases n <;> simp only[Oper.upon]at h <;> first
      |exact h.elim
      |exact⟨_,_,h⟩
      | (obtain⟨e,f,fr,b,_⟩:=h []
         cases e with
         |returned v=>exact⟨_,_,b⟩
         |panicked g=>exact b.elim
         |outgrown=>obtain⟨_,_,d⟩:=b;exact d.elim)
      | (obtain⟨v,f,b,_⟩:=h default []
         exact⟨_,_,b⟩)
  |halt x w'=>cases x <;> simp only[Oper.upon]at h
theorem agQ(g:sR o=false)
  (l:mT P N aN o h T S k fun _ _ _=>False) (b:dR N T a) (hd:a.defers=ds) (hs:Sat I S w):
  ∃v S' J c w',eQ S S' (iY (gu (gH P o h)))/\dR N (dw N o.dst v T) c/\c.defers=ds/\Sat J S' w'/\k (dw N o.dst v T) S':=by
 have d:mT P N aN o h T S (fun T' S'=>∃v,T'=dw N o.dst v T/\eQ S S' (iY (gu (gH P o h)))/\k T' S') (fun _ _ _=>False):=
  N_ (φ:=fun S=>S) g (fun _ _=>rfl) (Fr.id _) (n_.id _) l (fun v S' i hk=>⟨v,rfl,i,hk⟩) (fun _ _ h=>h)
 rw[nK]at d;split at d
 ·obtain⟨c,w',f⟩:=ald (HC (Q:=fun _ _ _=>False) d b hd hs (fun c w' h=>h) (fun m c w' h=>by obtain⟨_,_,_,_,_,_,_,_,j⟩:=h;exact j));obtain⟨T',S',J,d,n,p,q,r,v,rfl,i,hk⟩:=f;grind
 ·obtain⟨v,e,i,hk⟩:=d;exact⟨undef,S,I,a.put o.dst undef,w,i,b.put _ _,by simp[*],hs,hk⟩
 grind
theorem WL(hi:i∈l)(a:(ms.getD i 0).testBit r=false):r5 ms r l=false:=by
 unfold r5;grind
abbrev cl(P:Program)(H:Nat->OH)(aN:Array Oper)(i:Nat):xB:=gu (gH P (cO aN i) (H i))
structure FQ(P:Program)(H:Nat->OH)(aN:Array Oper)(ms:List Nat)(i r:Nat):Prop where
 To:(ms.getD i 0).testBit r=false
 apart:(cO aN i).apart aN (cO aN r)=true
 pass:yV (cl P H aN r) (cl P H aN i)=true
 RX:sR (cO aN r)=false
theorem Fc:
  m2 P N H aN ms (i::l) T S k kp=mT P N aN (cO aN i) (H i) T S (fun T S=>m2 P N H aN ms l T S k kp) (match r5 ms i l with|true=>fun a _ S=>∀T,kp a T S|false=>fun _ _ _=>False):=rfl
theorem M8{v:Value}(Good:Tm->St->Prop)
  (e:∀T S K m,Good T S->mT P N aN (cO aN i) (H i) T S K m->K (dw N (cO aN i).dst v T) (φ S)) (c:∀T S,Good T S->n_ φ S):
  ∀(R1:List Nat){T:Tm}{S:St},(∀r,r∈R1->FQ P H aN ms i r/\Fr φ (t_ (cl P H aN r))/\∀T S u S',Good T S->eQ S S' (iY (cl P H aN r))->Good (dw N (cO aN r).dst u T) S')->
   Good T S->m2 P N H aN ms (R1++i::R2) T S k kp->m2 P N H aN ms (R1++R2) (dw N (cO aN i).dst v T) (φ S) k kp:=by
 intro R1
 induction R1 with
 |nil=>
  intro T S _ f b;exact e T S _ _ f b
 |cons r R1 p=>
  intro T S a f b;obtain⟨hp,l,h⟩:=a r (kW ..);rw[List.cons_append,Fc]at b⊢;have j:r5 ms r (R1++i::R2)=false:=WL (List.mem_append_right _ (kW ..)) hp.To;rw[j]at b;refine N_ hp.RX (oY.put hp.apart v T) l (c T S f) b (fun u S' o hk=>?_) (fun q S' n=>n.elim);have g:=h T S u S' f o;have:=p (fun r b=>a r (pn _ b)) g hk;rw[On (x:=(cO aN i).dst) (y:=(cO aN r).dst) (fun d hd=>(Oper.apart_spec hp.apart).2.1 d hd)]at this;omega
theorem ajq:∀(R1:List Nat){T:Tm}{S:St}{a:Act}{I:a_}{w:World},(∀r,r∈R1->FQ P H aN ms i r)->
  (∀r j,r∈R1->j∈mw (cl P H aN i)->j∉iY (cl P H aN r))->m2 P N H aN ms (R1++i::R2) T S k kp->dR N T a->a.defers=ds->Sat I S w->
  ∃T' S' K e,mT P N aN (cO aN i) (H i) T' S' K e/\oY aN (cO aN i) T T'/\∀j,j∈mw (cl P H aN i)->gt S' j=gt S j:=by
 intro R1
 induction R1 with
 |nil=>
  intro T S a I w _ _ c _ _ _;exact⟨T,S,_,_,c,fun _ _=>rfl,fun _ _=>rfl⟩
 |cons r R1 y=>
  intro T S a I w b f c g hd hs;have hp:=b r (kW ..);rw[List.cons_append,Fc]at c;have m:r5 ms r (R1++i::R2)=false:=WL (List.mem_append_right _ (kW ..)) hp.To;rw[m]at c;obtain⟨v,S',J,z,w',x,d,h,l,hk⟩:=agQ hp.RX c g hd hs;obtain⟨T2,p,K,e,q,s,u⟩:=y (fun r c=>b r (pn _ c)) (fun r j c=>f r j (pn _ c)) hk d h l;refine⟨T2,p,K,e,q,fun t o=>?_,fun j n=>?_⟩
  ·exact((xA hp.apart v T) t o).trans (s t o)
  ·rw[u j n];exact x j (f r j (kW ..) n)
theorem N9(b:gu (gH P o h)= .mt l)(a:mS P N o h T S k kp):
  ki P o (gH P o h) T S fun v=>k (dw N o.dst v T) S:=by
 unfold mS at a;generalize gH P o h=g at*;cases g <;> first
  |exact a
  |exact a.no.elim
  |cases b
theorem Wi(b:gu (gH P o h)= .mt l)(a:ki P o (gH P o h) T S fun v=>k (dw N o.dst v T) S):
  mS P N o h T S k kp:=by
 unfold mS;generalize gH P o h=g at*;cases g <;> first
  |exact a
  |exact a.elim
  |cases b
theorem uf{a b:List Nat}(h:yl a b=true):∀i,i∈a->i∉b:=by
 intro i hi c;have:=List.all_eq_true.1 (List.all_eq_true.1 h i hi) i c;simp at this
theorem move
  (E:sR (cO aN i)=false) (c:∀r,r∈R1->FQ P H aN ms i r) (C:∀j,cl P H aN i= .new j->gt S j= .d0)
  (m:m2 P N H aN ms (R1++i::R2) T S k kp) (R:dR N T a) (hd:a.defers=ds) (hs:Sat I S w):
  mT P N aN (cO aN i) (H i) T S (fun T S=>m2 P N H aN ms (R1++R2) T S k kp) (match r5 ms i R2 with|true=>fun X _ S=>∀T,kp X T S|false=>fun _ _ _=>False):=by
 have fQ:∀{T T'},oY aN (cO aN i) T T'->execOp (ev T) (cO aN i)=execOp (ev T') (cO aN i):=fun h=>execOp_congr _ (N6 E) h.AW;rw[nK];have p:=fun(x0:∀r j,r∈R1->j∈mw (cl P H aN i)->j∉iY (cl P H aN r))=>ajq (ds:=ds) R1 c x0 m R hd hs;cases n:gd aN (cO aN i) T with
 |none=>
  exfalso;cases s:cl P H aN i with
  |mt l=>
   obtain⟨T',S',K,B,q,F,_⟩:=p (fun r j m o=>by
    have hp:=(c r m).pass;rw[s]at hp o;revert hp;cases t:cl P H aN r <;> intro hp <;> simp only[yV]at hp <;> simp only[iY]
    ·simp
    ·exact uf hp j o
    ·exact uf hp j o)
   rw[nK,<-qf F,n]at q;exact q
  |new l=>
   obtain⟨T',S',K,B,q,F,_⟩:=p (fun r j m o=>by rw[s]at o;simp[mw]at o);rw[nK,<-qf F,n]at q;exact q
  |pj l=>
   obtain⟨T',S',K,B,q,F,_⟩:=p (fun r j m o=>by rw[s]at o;simp[mw]at o);rw[nK,<-qf F,n]at q;exact q
 |some met=>
  cases met with
  |false=>
   refine M8 (φ:=fun S=>S) (fun T _=>gd aN (cO aN i) T=some false) (fun T S K B n h=>?_) (fun _ _ _=>n_.id _) R1 (fun r m=>⟨c r m,Fr.id _,fun T S u S' n _=>?_⟩) n m
   ·rw[nK,n]at h;exact h
   ·rw[<-qf (xA (c r m).apart u T)];exact n
  |true=>
   simp only;cases s:cl P H aN i with
   |mt l=>
    have Q:∀r j,r∈R1->j∈mw (cl P H aN i)->j∉iY (cl P H aN r):=fun r j m o=>by
     have hp:=(c r m).pass;rw[s]at hp o;revert hp;cases t:cl P H aN r <;> intro hp <;> simp only[yV]at hp <;> simp only[iY]
     ·simp
     ·exact uf hp j o
     ·exact uf hp j o
    have hcl:∀j,j∈mw (gu (gH P (cO aN i) (H i)))->j∈mw (cl P H aN i):=fun j o=>o;obtain⟨T',S',K,B,q,F,h3⟩:=p Q;rw[nK,<-qf F,n]at q;obtain⟨v,hv,_⟩:=E9 (N9 s q);have J:ki P (cO aN i) (gH P (cO aN i) (H i)) T S (·=v):=J_ E (fun x hx=>(F.AW x hx).symm) (fun j o=>h3 j o) hv;obtain⟨u,hu,_⟩:=Ka J hs;refine Wi s (RF J fun x e=>?_);subst e;refine M8 (φ:=fun S=>S) (fun T S=>gd aN (cO aN i) T=some true/\∀W,ki P (cO aN i) (gH P (cO aN i) (H i)) T S (·=W)->W=x) (fun T S K B n h=>?_) (fun _ _ _=>n_.id _) R1
     (fun r m=>⟨c r m,Fr.id _,fun T S u S' n O=>⟨?_,fun W J=>?_⟩⟩) ⟨n,fun W hv2=>?_⟩ m
    ·rw[nK,n.1]at h;obtain⟨y,hy,hk⟩:=E9 (N9 s h);rw[n.2 y hy]at hk;exact hk
    ·rw[<-qf (xA (c r m).apart u T)];exact n.1
    ·exact n.2 W (J_ E (fun x hx=>((xA (c r m).apart u T).AW x hx).symm) (fun j o=>O j (Q r j m o)) J)
    ·obtain⟨y,hy,e⟩:=Ka hv2 hs;obtain⟨z,hz,e2⟩:=Ka J hs;rw[<-e,<-e2];exact hy.akz hz
   |new j=>
    obtain⟨T',S',K,B,q,F,_⟩:=p (fun r j m o=>by rw[s]at o;simp[mw]at o);rw[nK,<-qf F,n]at q;have D:∃L,gH P (cO aN i) (H i)= .n L/\L=j:=by
     revert s;show gu (gH P (cO aN i) (H i))= .new j->_;generalize gH P (cO aN i) (H i)=g;intro s;cases g <;> simp only[gu]at s <;> first|exact⟨_,rfl,by simpa using s⟩|cases s
    obtain⟨L,D,rfl⟩:=D;unfold mS at q⊢;rw[D]at q⊢;simp only at q⊢;rw[<-fQ F]at q;split at q
    ·rename_i ob f Y
     intro b;have hb:=q b;split at hb
     ·rename_i v hv
      refine M8 (φ:=fun S=>fT S L (mkAtom b ob)) (fun T S=>gd aN (cO aN i) T=some true/\ya P (execOp (ev T) (cO aN i))=some (ob,f)/\gt S L= .d0) (fun T S K B n h=>?_) (fun _ _ n=>n_.nW n.2.2 _) R1
       (fun r m=>⟨c r m,Fr.nW (fun A=>?_) _,fun T S u S' n O=>⟨?_,?_,?_⟩⟩) ⟨n,Y,C L s⟩ m
      ·rw[nK,n.1]at h;unfold mS at h;rw[D]at h;simp only[n.2.1]at h;have:=h b;rw[hv]at this;exact this
      ·have hp:=(c r m).pass;rw[s]at hp;revert hp A;cases t:cl P H aN r <;> intro A hp <;> simp only[yV]at hp <;> simp only[t_,mw,iY,dv,List.nil_append]at A
       ·exact uf hp L A aL
       ·simp only[List.mem_singleton]at A;subst A;simp at hp
       ·exact uf hp L aL A
      ·rw[<-qf (xA (c r m).apart u T)];exact n.1
      ·rw[<-fQ (xA (c r m).apart u T)];exact n.2.1
      ·rw[O L (fun A=>?_)];exact n.2.2;have hp:=(c r m).pass;rw[s]at hp;revert hp A;cases t:cl P H aN r <;> intro A hp <;> simp only[yV]at hp <;> simp only[iY]at A
       ·simp at A
       ·simp only[List.mem_singleton]at A;subst A;simp at hp
       ·exact uf hp L aL A
     ·exact hb.elim
    ·exact q.elim
   |pj d5=>
    have hq:∀r,r∈R1->∃l,cl P H aN r= .mt l/\∀j,j∈l->j∉d5:=fun r m=>by
     have hp:=(c r m).pass;rw[s]at hp;cases t:cl P H aN r with
     |mt l=>rw[t]at hp;exact⟨l,rfl,fun j o=>uf hp j o⟩
     |new j=>rw[t]at hp;cases hp
     |pj l=>rw[t]at hp;cases hp
    clear p C R hs hd
    induction R1 generalizing T S with
    |nil=>
     have V:mT P N aN (cO aN i) (H i) T S _ _:=m;rw[nK,n]at V;exact V
    |cons r R1 ih=>
     have hp:=c r (kW ..);obtain⟨l,hl,Z⟩:=hq r (kW ..);rw[List.cons_append,Fc]at m;have step:∀u,m2 P N H aN ms (R1++i::R2) (dw N (cO aN r).dst u T) S k kp->
       (∀v S',eQ S S' d5->m2 P N H aN ms (R1++R2) (dw N (cO aN i).dst v (dw N (cO aN r).dst u T)) S' k kp->m2 P N H aN ms (r::(R1++R2)) (dw N (cO aN i).dst v T) S' k kp)->
       mS P N (cO aN i) (H i) T S (fun T S=>m2 P N H aN ms (r::(R1++R2)) T S k kp) (match r5 ms i R2 with|true=>fun X _ S=>∀T,kp X T S|false=>fun _ _ _=>False):=by
      intro u hk U;have ha:=xA (N:=N) hp.apart u T;have:=ih (T:=dw N (cO aN r).dst u T) (S:=S) (fun r m=>c r (pn _ m)) hk (by rw[<-qf ha];exact n) (fun r m=>hq r (pn _ m));refine VX (φ:=fun S=>S) E (fun x hx=>(ha.AW x hx).symm) (Fr.id _) (n_.id _) this (fun v S' O M=>U v S' (O.mono fun j o=>?_) M) (fun X S' M=>?_)
      ·have:iY (cl P H aN i)=d5:=by rw[s];rfl
       rw[<-this];exact o
      ·revert M;cases r5 ms i R2 <;> exact fun h=>h
     rw[nK]at m;cases G:gd aN (cO aN r) T with
     |none=>rw[G]at m;exact m.elim
     |some met=>
      cases met with
      |false=>
       rw[G]at m;refine step undef m fun v S' O M=>?_;rw[Fc,nK,<-qf (oY.put hp.apart v T),G];rw[On (x:=(cO aN i).dst) (y:=(cO aN r).dst) (fun d hd=>(Oper.apart_spec hp.apart).2.1 d hd)]at M;exact M
      |true=>
       rw[G]at m;obtain⟨u,hu,hk⟩:=E9 (N9 hl m);refine step u hk fun v S' O M=>?_;rw[Fc,nK,<-qf (oY.put hp.apart v T),G];refine Wi hl ?_;have x1:mw (gu (gH P (cO aN r) (H r)))=l:=by
        have:gu (gH P (cO aN r) (H r))= .mt l:=hl;rw[this];rfl
       refine RF (J_ hp.RX (fun x hx=>(oY.put hp.apart v T).AW x hx) (fun j o=>?_) hu) (fun x e=>?_)
       ·rw[x1]at o;exact(O j (Z j o)).symm
       ·subst e;rw[On (x:=(cO aN i).dst) (y:=(cO aN r).dst) (fun d hd=>(Oper.apart_spec hp.apart).2.1 d hd)]at M;exact M
theorem adk:∀(a:List Edge),(a.foldr (fun e s=>bif Region.binds .any e then (2^e.on|||ea.getD e.on 0)|||s else s) 0).testBit r=true->
  ∃e,e∈a/\Region.binds .any e=true/\(e.on=r\/(ea.getD e.on 0).testBit r=true):=by
 intro a
 induction a with
 |nil=>intro h;simp at h
 |cons e a b=>
  intro h;simp only[List.foldr_cons]at h;grind
theorem afX:∀(a:List Edge){e:Edge},e∈a->Region.binds .any e=true->(a.foldr (fun e s=>bif Region.binds .any e then (2^e.on|||ea.getD e.on 0)|||s else s) 0).testBit e.on=true:=by
 intro a
 induction a with
 |nil=>intro e h;cases h
 |cons x a c=>
  intro e h b;simp only[List.foldr_cons];grind
def Sw(aN:Array Oper)(eu:Array Bool):Prop:=∀i o,aN[i]?=some o->eu.getD i false=true->∀e,e∈o.after.toList->Region.binds .any e=true->eu.getD e.on false=true
theorem afY(eu:Array Bool)(A:Sw aN eu):∀(l:List Oper)(ea:List Nat),(∀j,l[j]?=aN[ea.length+j]?)->
  (∀i,i<ea.length->∀o,aN[i]?=some o->(∀e,e∈o.after.toList->Region.binds .any e=true->eu.getD e.on false=true)->∀r,(ea.getD i 0).testBit r=true->eu.getD r false=true)->
  ∀i o,aN[i]?=some o->(∀e,e∈o.after.toList->Region.binds .any e=true->eu.getD e.on false=true)->∀r,((kC l ea).getD i 0).testBit r=true->i<ea.length+l.length->eu.getD r false=true:=by
 intro l
 induction l with
 |nil=>
  intro ea _ a i o s b r v hi;exact a i ae o s b r v
 |cons o l C=>
  intro ea hl a i D s b r v hi;refine C (ea++[NY o ea]) (fun j=>?_) (fun w B E d c x f=>?_) i D s b r v (by grind)
  ·have:=hl (j+1);grind
  ·by_cases q:w<ea.length
   ·refine a w q E d c x ?_;grind
   ·have p:w=ea.length:=by grind
    subst p;have t:some o=aN[ea.length]?:=by simpa using hl 0
    rw[<-t]at d;simp only[Option.some.injEq]at d;subst d;rw[fg,j6 (bT _)]at f;simp only[Nat.sub_self,List.getElem?_cons_zero,Option.getD_some]at f;obtain⟨e,y,z,n⟩:=adk _ f;have g:=c e y z;rcases n with rfl|n
    ·exact g
    ·by_cases u:e.on<ea.length
     ·have k:∃m,aN[e.on]?=some m:=by
       grind
      obtain⟨m,h⟩:=k;exact a e.on u m h (A e.on m h g) x n
     grind
theorem afW(k:aN[i]?=some o){e:Edge}(g:e∈o.after.toList)(f:Region.binds .any e=true):((kC aN.toList []).getD i 0).testBit e.on=true:=by
 have key:∀(l:List Oper)(ea:List Nat),(∀j,l[j]?=aN[ea.length+j]?)->ea.length<=i->i<ea.length+l.length->((kC l ea).getD i 0).testBit e.on=true:=by
  intro l
  induction l with
  |nil=>intro ea _ d b;simp at b;omega
  |cons x l c=>
   intro ea hl d b;simp only[kC];by_cases hi:i=ea.length
   ·subst hi;have hx:x=o:=by have:=hl 0;grind
    subst hx;have a:∀(l:List Oper)(ea:List Nat)(j:Nat),j<ea.length->(kC l ea).getD j 0=ea.getD j 0:=by
     intro l
     induction l with
     |nil=>intro ea j _;rfl
     |cons y l c=>
      intro ea j h;simp only[kC];grind
    rw[a l _ _ aL];rw[fg,j6 (bT _)];simp only[Nat.sub_self,List.getElem?_cons_zero,Option.getD_some];exact afX _ g f
   ·refine c (ea++[NY x ea]) (fun j=>?_) (by simp;omega) (by grind);have:=hl (j+1);simp only[List.getElem?_cons_succ]at this;rw[this];simp;grind
 grind
theorem agZ(h:wl P H aN ms (R1++i::R2)=true):(∀r,r∈R1->Bq P H aN ms r i=true)/\wl P H aN ms (R1++R2)=true/\(∀r,r∈R2->Bq P H aN ms i r=true):=by
 induction R1 with
 |nil=>
  simp only[List.nil_append,wl,gx,List.all_eq_true]at h⊢;grind
 |cons r R1 a=>
  simp only[List.cons_append,wl,gx,List.all_eq_true]at h⊢;grind
structure KY(P:Program)(N:Nat)(H:Nat->OH)(aN:Array Oper)(ds:List Deferred)(k:Tm->St->Prop)(kp:List PanicEntry->Tm->St->Prop)(eu:Array Bool)(l:List Nat)(T:Tm)(S:St)(I:a_)(a:Act)(w:World):Prop where
 size:eu.size=aN.size
 mem:∀i,i<aN.size->(i∈l↔eu.getD i true=false)
 lt:∀i,i∈l->i<aN.size
 agF:l.Nodup
 TF:Sw aN eu
 V3:wl P H aN (kC aN.toList []) l=true
 run:m2 P N H aN (kC aN.toList []) l T S k kp
 fresh:∀i j,i∈l->cl P H aN i= .new j->gt S j= .d0
 bZ:dR N T a
 defers:a.defers=ds
 Fe:Sat I S w
theorem aaD{I0:a_}{w0:World}
  (E:∀i,i<aN.size->sR (cO aN i)=false) (R:∀(i:Nat)(o:Oper),aN[i]?=some o->∀e:Edge,e∈o.after.toList->Region.binds .any e=true->e.on<aN.size)
  (U:∀i,i<aN.size->((kC aN.toList []).getD i 0).testBit i=false)
  (hk:∀G w',eZ N I0 w0 ds k G w'->Q .normal G w') (hQ:∀V G w',eZ N I0 w0 ds (kp V) G w'->Q (.panic V) G w'):
  ∀(g:Nat){eu:Array Bool}{l:List Nat}{T:Tm}{S:St}{I:a_}{a:Act}{w:World},l.length<=g->a_.le I0 I->cv w0 w->KY P N H aN ds k kp eu l T S I a w->wpAny P .any aN Q g eu a w:=by
 intro g;have head:∀{eu:Array Bool}{r:Nat}{l:List Nat}{T:Tm}{S:St}{I:a_}{a:Act}{w:World},KY P N H aN ds k kp eu (r::l) T S I a w->r∈Region.ready .any aN eu:=by
  intro eu r l T S I a w D;have c:=D.lt r (kW ..);have hrl:=(D.mem r c).1 (kW ..);have n:aN[r]?=some aN[r]:=by simp[c]
  unfold Region.ready;refine List.mem_filter.2 ⟨List.mem_range.2 c,?_⟩;simp only[hrl,Bool.not_false,Bool.true_and,n,Option.map_some,Option.getD_some];rw[<-Array.all_toList,List.all_eq_true];intro e O;cases A:Region.binds .any e with
  |false=>rfl
  |true=>
   simp only[Bool.not_true,Bool.false_or];have m:=R r _ n e O A;have d:=afW n O A;cases hl:eu.getD e.on true with
   |true=>
    have:e.on<eu.size:=by rw[D.size];exact m
    simpa[nA,this]using hl
   |false=>
    exfalso;have p:=(D.mem e.on m).2 hl;rcases List.mem_cons.1 p with e1|p
    ·rw[e1,U r c]at d;cases d
    ·have hp:=D.V3;simp only[wl,gx,List.all_eq_true]at hp;have:=hp.1 _ p;simp only[Bq,gx,Bool.not_eq_true']at this;rw[this.1.1]at d;cases d
 have done:∀{eu:Array Bool}{l:List Nat}{T:Tm}{S:St}{I:a_}{a:Act}{w:World},a_.le I0 I->cv w0 w->KY P N H aN ds k kp eu l T S I a w->Region.ready .any aN eu=[]->Q .normal a w:=by
  intro eu l T S I a w q f D h0;cases l with
  |nil=>exact hk _ _ ⟨T,S,I,D.bZ,D.defers,q,D.Fe,f,D.run⟩
  |cons r l=>have:=head D;rw[h0]at this;cases this
 induction g with
 |zero=>
  intro eu l T S I a w hl q f D;have:l=[]:=List.length_eq_zero_iff.1 (Nat.le_zero.1 hl);subst this;have c:Region.ready .any aN eu=[]:=by
   unfold Region.ready;refine List.filter_eq_nil_iff.2 fun i hi=>?_;have hi':=List.mem_range.1 hi;have:eu.getD i true=true:=by
    cases Y:eu.getD i true with
    |true=>rfl
    |false=>have:=(D.mem i hi').2 Y;cases this
   simp[this]
  exact⟨c,done q f D c⟩
 |succ g ih=>
  intro eu l T S I a w hl q f D;refine⟨done q f D,fun i hi=>?_⟩;obtain⟨hi1,Z⟩:=List.mem_filter.1 hi;have m:=List.mem_range.1 hi1;have n:aN[i]?=some aN[i]:=by simp[m]
  have hoa:cO aN i=aN[i]:=by simp[cO,nA,n]
  simp only[gx,Bool.not_eq_true',n,Option.map_some,Option.getD_some]at Z;obtain⟨hnl,L⟩:=Z;rw[<-Array.all_toList,List.all_eq_true]at L;have C:∀e,e∈aN[i].after.toList->Region.binds .any e=true->eu.getD e.on false=true:=fun e O A=>by
   have:=L e O;rw[A]at this;simpa using this
  have K:=(D.mem i m).2 hnl;obtain⟨R1,R2,rfl⟩:=List.append_of_mem K;obtain⟨UL,UM,hp3⟩:=agZ D.V3;have hsz:∀r,r<aN.size->eu.getD r true=false->eu.getD r false=false:=fun r c h=>by
   have:r<eu.size:=by rw[D.size];exact c
   simpa[nA,this]using h
  have d:∀r,r∈R1->((kC aN.toList []).getD i 0).testBit r=false:=fun r c=>by
   cases A:((kC aN.toList []).getD i 0).testBit r with
   |false=>rfl
   |true=>
    have F:r∈R1++i::R2:=qd _ c;have M:=D.lt r F;have:=afY eu D.TF aN.toList [] (fun j=>aL) (fun i hi=>by simp at hi) i aN[i] n C r A (by simpa using m);rw[hsz r M ((D.mem r M).1 F)]at this;cases this
  have B:∀r,r∈R1->FQ P H aN (kC aN.toList []) i r:=fun r c=>by
   have:=UL r c;simp only[Bq,gx,d r c,Bool.false_or]at this;exact⟨d r c,this.2.1,this.2.2,E r (D.lt r (qd _ c))⟩
  have hmv:=move (kp:=kp) (E i m) B (fun j s=>D.fresh i j K s) D.run D.bZ D.defers D.Fe;have x1:(R1++R2).Nodup/\i∉R1++R2:=by
   have:=D.agF;rw[List.nodup_append]at this;obtain⟨h1,X,h3⟩:=this;rw[List.nodup_cons]at X;refine⟨List.nodup_append.2 ⟨h1,X.2,fun a ha b A=>h3 a ha b (pn _ A)⟩,fun p=>?_⟩;rcases List.mem_append.1 p with p|p
   ·exact h3 i p i (kW ..) rfl
   ·exact X.1 p
  unfold wpOp;rw[n];simp only;have x0:mT P N aN (cO aN i) (H i) T S (fun T' S'=>(∀r j,r∈R1++R2->cl P H aN r= .new j->gt S' j= .d0)/\m2 P N H aN (kC aN.toList []) (R1++R2) T' S' k kp)
    (match r5 (kC aN.toList []) i R2 with|true=>fun V _ S=>∀T,kp V T S|false=>fun _ _ _=>False):=by
   refine N_ (φ:=fun S=>S) (E i m) (fun _ _=>rfl) (Fr.id _) (n_.id _) hmv (fun v S' W Y=>⟨fun r j c s=>?_,Y⟩) (fun _ _ h=>h);have F:r∈R1++i::R2:=by
    rcases List.mem_append.1 c with c|c
    ·exact qd _ c
    ·exact List.mem_append_right _ (pn _ c)
   rw[W j ?_]
   ·exact D.fresh r j F s
   intro p;rcases List.mem_append.1 c with c|c
   ·
    have y:=(B r c).pass;rw[s]at y;have u:j∈iY (cl P H aN i):=p;revert y u;cases cl P H aN i <;> intro y u <;> simp only[yV]at y <;> simp only[iY]at u
    ·simp at u
    ·simp only[List.mem_singleton]at u;subst u;simp at y
    ·cases y
   ·
    have:=hp3 r c;simp only[Bq,gx]at this;have hu:=this.1.2;have hjr:gu (gH P (cO aN r) (H r))= .new j:=s;rw[hjr]at hu;exact uf hu j aL (List.mem_append_right _ p)
  have:=VY (next:=wpAny P .any aN Q g (eu.setIfInBounds i true)) (Q:=Q) x0 D.bZ D.defers D.Fe (fun G w' z=>?_) (fun V G w' z=>?_)
  ·rw[hoa]at this;exact this
  ·obtain⟨T',S',J,h1,X,h3,h4,h5,hf,h6⟩:=z;refine ih (l:=R1++R2) (T:=T') (S:=S') (I:=J) (by simp at hl⊢;omega) (a_.le_trans q h3) (f.trans h5) ?_;refine⟨by simpa using D.size,fun j s=>?_,fun j s=>D.lt j ?_,x1.1,?_,UM,h6,hf,h1,X,h4⟩
   ·have hjs:j<eu.size:=by rw[D.size];exact s
    by_cases t:j=i
    ·subst t;refine⟨fun p=>absurd p x1.2,fun Y=>?_⟩;simp[nA,hjs]at Y
    ·have p:=D.mem j s;have e1:(eu.setIfInBounds i true).getD j true=eu.getD j true:=by
      simp[nA,Array.getElem?_setIfInBounds,show ¬i=j from fun e=>t e.symm]
     rw[e1,<-p];simp[t]
   ·rcases List.mem_append.1 s with s|s
    ·exact qd _ s
    ·exact List.mem_append_right _ (pn _ s)
   ·intro j o W hl2 e O A;have mono:∀x,eu.getD x false=true->(eu.setIfInBounds i true).getD x false=true:=fun x hx=>by
     by_cases x2:i=x
     ·subst x2;have:i<eu.size:=by rw[D.size];exact m
      simp[nA,this]
     ·simpa[nA,Array.getElem?_setIfInBounds,x2]using hx
    by_cases t:i=j
    ·subst t;rw[n]at W;simp only[Option.some.injEq]at W;subst W;exact mono _ (C e O A)
    ·refine mono _ (D.TF j o W ?_ e O A);simpa[nA,Array.getElem?_setIfInBounds,t]using hl2
  ·refine hQ V G w' ((z.from q f).mono fun T S h=>?_);revert h;cases r5 (kC aN.toList []) i R2
   ·exact fun h=>h.elim
   ·exact fun h=>h T
theorem agG:∀(n:Nat)(l:List Nat),l.Nodup->(∀x,x∈l->x<n)->l.length<=n:=by
 intro n
 induction n with
 |zero=>
  intro l _ h;cases l with
  |nil=>simp
  |cons x r=>have:=h x (kW ..);omega
 |succ n a=>
  intro l hn h;by_cases c:n∈l
  ·have b:=a (l.erase n) (hn.erase n) fun x hx=>by
    grind
   grind
  grind
theorem M7
  (hl:(Ob P H aN l&&Uy S (N0 P H aN l))=true) (E:m2 P N H aN (kC aN.toList []) l T S k kp) (d:dR N T a) (hd:a.defers=ds) (hs:Sat I S w)
  (hk:∀b w',eZ N I w ds k b w'->Q .normal b w') (z:∀m b w',eZ N I w ds (kp m) b w'->Q (.panic m) b w'):
  wpAny P .any aN Q aN.size (Array.replicate aN.size false) a w:=by
 simp only[Ob,gx]at hl;obtain⟨⟨⟨⟨⟨n,t⟩,u⟩,p⟩,v⟩,y⟩:=hl;have c:=Hz t;have r:l.length=aN.size:=by simpa using u
 rw[List.all_eq_true]at n p;have g:∀i,i∈l->i<aN.size:=fun i hi=>by
  have:=p i hi;simp only[gx]at this;have:=this.1;rw[Nat.blt_eq]at this;omega
 have q:∀i,i<aN.size->i∈l:=by
  intro i hi;refine Classical.byContradiction fun h=>?_;have:=agG aN.size (i::l) (List.nodup_cons.2 ⟨h,c⟩) fun x hx=>by
   grind
  grind
 have s:∀i,i<aN.size->cO aN i∈aN.toList:=fun i hi=>by
  have:cO aN i=aN[i]:=by simp[cO,nA,hi]
  simp[*]
 refine aaD (k:=k) (kp:=kp) (H:=H) (I0:=I) (w0:=w) (fun i hi=>?_) (fun i o F e B A=>?_) (fun i hi=>?_) hk z aN.size (l:=l) (T:=T) (S:=S) (I:=I) ae (a_.le_refl I) (cv.refl w)
  ⟨aL,fun i hi=>?_,g,c,fun i o _ f=>?_,v,E,fun i j hi C=>?_,d,hd,hs⟩
 ·grind
 ·have hi:i<aN.size:=by
   grind
  have:=n o (by grind);simp only[gx,List.all_eq_true]at this;have:=this.2 e B;rw[A]at this;simp only[Bool.not_true,Bool.false_or]at this;rw[Nat.blt_eq]at this;omega
 ·grind
 ·simp[*]
 ·exfalso;simp[nA,Array.getElem?_replicate]at f;grind
 ·have D:j∈N0 P H aN l:=List.mem_filterMap.2 ⟨i,hi,by
   have:gu (gH P (cO aN i) (H i))= .new j:=C;rw[this]⟩
  have:=List.all_eq_true.1 y j D;grind
end
end
section
open Go
section
variable{P:Program}{N:Nat}
theorem CK(hm:P.follows .mixedOrders=true)(H:jc):∀(c:Code){key:Nat}{T:Tm}{S:St}{K:Exit->Tm->St->Prop}{a:Act}{I:a_}{w:World}{ds:List Deferred}{Q:Exit->Act->World->Prop},
  E P N H c key T S K->dR N T a->a.defers=ds->Sat I S w->(∀e g w',eZ N I w ds (K e) g w'->Q e g w')->c.wp P Q a w:=by
 intro c
 induction c with
 |skip=>
  intro key T S K a I w ds Q h b hd hs f;exact wp_skip (f _ _ _ ⟨T,S,I,b,hd,a_.le_refl I,hs,cv.refl w,h⟩)
 |exit id=>
  intro key T S K a I w ds Q h b hd hs f;exact wp_exit (f _ _ _ ⟨T,S,I,b,hd,a_.le_refl I,hs,cv.refl w,h⟩)
 |ret=>
  intro key T S K a I w ds Q h b hd hs f;exact wp_ret (f _ _ _ ⟨T,S,I,b,hd,a_.le_refl I,hs,cv.refl w,h⟩)
 |seq x y O R=>
  intro key T S K a I w ds Q h b hd hs f;simp only[E]at h;refine wp_seq ?_;split at h
  ·refine O h b hd hs fun e g w' d=>?_;cases e with
   |normal=>
    obtain⟨T',S',J,v,z,A,B,C,h6⟩:=d;exact R h6 v z B fun e a w h=>f e a w (h.from A C)
   |_=>exact f _ _ _ d
  ·rename_i V hV
   have go:∀j:V.X->Prop,(E P N H x key T S fun e T S=>match e with| .normal=>∃x,j x/\jb T (V.lv x)/\aE S (bD (V.st x))|e=>K e T S)->
     (∀x u,j x->E P N H y key (jq u (V.lv x)) (bD (V.st x)) K)->Code.wp P x (Exit.then (Code.wp P y Q) Q) a w:=by
    intro j hx L;refine O hx b hd hs fun e g w' d=>?_;cases e with
    |normal=>
     obtain⟨T',S',J,v,z,A,B,C,x,hp,he,D⟩:=d;obtain⟨J',k,s⟩:=D.h J w' B;exact R (L x T'.z00 hp) (oB v he) z s fun e a w h=>f e a w (h.from (a_.le_trans A k) C)
    |_=>exact f _ _ _ d
   split at h
   ·exact go _ h.1 h.2
   ·obtain⟨_,hx,L⟩:=h;exact go _ hx L
 |cond x c1 c2 ih1 ih2=>
  intro key T S K a I w ds Q h b hd hs f;simp only[E]at h;split at h
  ·rename_i t ht
   have hc:a.eval x= .bool t:=by rw[b.eval];exact ht
   refine wp_cond hc ?_;rcases Br.cases h with⟨rfl,hk⟩| ⟨rfl,hk⟩
   all_goals grind
  grind
 |block id c M=>
  intro key T S K a I w ds Q h b hd hs f;simp only[E]at h;refine wp_block (M h b hd hs fun e g w' d=>?_);cases e with
  |exit i=>
   simp only[Exit.inBlock];by_cases hi:i=id
   ·subst hi;simp only[if_true];refine f _ _ _ (d.mono fun T S h=>?_);simpa using h
   ·simp only[hi,if_false];refine f _ _ _ (d.mono fun T S h=>?_);simpa[sz hi]using h
  |_=>exact f _ _ _ d
 |scope c M=>
  intro key T S K a I w ds Q h b hd hs f;simp only[E]at h;refine wp_scope_straight (M h b hd hs fun e g w' d=>?_);cases e with
  |goto l=>
   obtain⟨_,_,_,_,_,_,_,_,h6⟩:=d;grind
  |_=>exact f _ _ _ d
 |loop c M=>
  intro key T S K a I w ds Q h b hd hs f;simp only[E]at h;split at h
  ·grind
  ·rename_i V hV
   have go:∀j:V.X->Prop,(∃x,j x/\jb T (V.lv x)/\aE S (bD (V.st x)))->(∀x u,j x->E P N H c key (jq u (V.lv x)) (bD (V.st x)) fun e T S=>match e with
     | .normal=>∃y,j y/\jb T (V.lv y)/\aE S (bD (V.st y))/\V.mu y<V.mu x
     |e=>K e T S)->Code.wp P (.loop c) Q a w:=by
    rintro j ⟨x0,Z,W,p⟩ m;obtain⟨J0,F,x2⟩:=p.h I w hs;refine wp_loop_ghost (fun n g w'=>∃x u J,V.mu x=n/\j x/\dR N (jq u (V.lv x)) g/\g.defers=ds/\a_.le I J/\Sat J (bD (V.st x)) w'/\cv w w') (V.mu x0)
     ⟨x0,T.z00,J0,rfl,Z,oB b W,hd,F,x2,cv.refl w⟩ ?_
    rintro n g w' ⟨x,u,J,rfl,hp,r,U,k,s,o⟩;refine M (m x u hp) r U s fun e a2 w2 d=>?_;cases e with
    |normal=>
     obtain⟨T',S',J',v,z,A,B,C,y,x1,X,q,Y⟩:=d;obtain⟨J2,G,x3⟩:=q.h J' w2 B;exact⟨V.mu y,Y,y,T'.z00,J2,rfl,x1,oB v X,z,a_.le_trans k (a_.le_trans A G),x3,o.trans C⟩
    |_=>exact f _ _ _ (d.from k o)
   split at h
   ·exact go _ h.1 h.2
   ·obtain⟨_,hx,L⟩:=h;exact go _ hx L
 |region id aN TT=>
  intro key T S K a I w ds Q h b hd hs f;simp only[E]at h;split at h
  ·exact wp_region (RK _ h b hd hs (fun a w h=>f _ a w h) (fun ch a w h=>f _ a w h))
  ·exact wp_region_any hm (M7 h.1 h.2 b hd (hs.heap (w':={w with drawn:=w.drawn+1}) rfl) (fun a w h=>f _ a w (h.from (a_.le_refl _) aq)) (fun ch a w h=>f _ a w (h.from (a_.le_refl _) aq)))
 |_=>intro key T S K a I w ds Q h;exact h.elim
variable{c:Code}{C:aQ}{fn:Func}{f:FuncId}
theorem Ci{T:Tm}{a:Act}(h:dR N T a):results fn a.tmps=jx fn T:=by
 unfold results jx;congr 1;congr 1;funext r;cases r with
 |tmp t=>simp only[h.get]
 |cell x t=>simp only[h.get]
theorem abi(s:P.follows .mixedOrders=true){H:jc}{m:List LH}{args:List Value}{S:St}{R:Ending->St->Prop}{I:a_}{w:World}
  (r:P.funcs[f]?=some fn) (q:fn.body=some c) (o:fn.ntmps=N) (hl:args.length<=N) (h:Body P N fn H m c (mK args) S R) (hs:Sat I S w):
  Calls P f ⟨args⟩ w fun e w'=>∃J S',a_.le I J/\Sat J S' w'/\cv w w'/\R e S':=by
 refine calls_of_wp r q ?_;rw[o];refine CK s H c h (Fa args hl) rfl hs fun e a w' d=>?_;obtain⟨T,S',J,n,i,j,g,k,b⟩:=d;have fin:rd P S' (jx fn T) m (fun v=>R (.returned v) S')->a.defers=[]/\∃v,(results fn a.tmps).run P w'= .ok v w'/\∃J S',a_.le I J/\Sat J S' w'/\cv w w'/\R (.returned v) S':=fun b=>by
  obtain⟨v,l,p⟩:=uY g _ _ _ b;exact⟨i,v,by rw[Ci n];omega,J,S',j,g,k,p⟩
 cases e with
 |normal=>exact fin b
 |ret=>exact fin b
 |panic t=>exact⟨i,J,S',j,g,k,b⟩
 |_=>exact b.elim
theorem adf(q:P.follows .mixedOrders=true)(p:P.funcs[f]?=some fn)(n:fn.body=some c)(m:fn.ntmps=N)(hl:∀x,(C.args x).length<=N)
  (H:C.X->ah->jc) (s:List LH)
  (h:∀x F,C.cond x->C.aO x F->Body P N fn (H x F) s c (mK (C.args x)) (bD (C.pre x++[F])) (ar C x F)):jW P f C:=by
 refine⟨fun x F I w o r hs=>?_⟩;refine(abi q p n m (hl x) (h x F o r) hs).mono ?_;rintro e w' ⟨J,S',i,j,b,⟨y,g,rfl,a⟩⟩;obtain⟨l,d,k⟩:=a.h J w' j;exact⟨y,l,g,rfl,a_.le_trans i d,k,b⟩
theorem jW.AR{b:aQ}(h':jW P f b)
  (h:∀x F I w,C.cond x->C.aO x F->Sat I (bD (C.pre x++[F])) w->∃a J,a_.le I J/\b.cond a/\b.aO a F/\C.args x=b.args a/\Sat J (bD (b.pre a++[F])) w/\
   ∀k,b.bZ a k->∃y,C.bZ x y/\b.val a k=C.val x y/\aE (bD (b.post a k++[F])) (bD (C.post x y++[F]))):jW P f C:=by
 refine⟨fun x F I w z A hs=>?_⟩;obtain⟨a,J,m,l,n,v,o,B⟩:=h x F I w z A hs;rw[v];refine(h'.h a F J w l n o).mono ?_;rintro e w' ⟨k,q,i,rfl,d,j,c⟩;obtain⟨y,s,t,u⟩:=B k i;obtain⟨r,g,p⟩:=u.h q w' j;exact⟨y,r,s,t,a_.le_trans m (a_.le_trans d g),p,c⟩
end
end
section
open Go
theorem aE.refl(S:St):aE S S:=⟨fun I _ h=>⟨I,a_.le_refl I,h⟩⟩
variable{I:a_}{bG:List Nat}{vs:List Value}{b j k:Nat}{B:Prop}{S S':St}{e t:TypeId}{w:World}
theorem aE.trans{a:St}(h:aE S S')(h':aE S' a):aE S a:=⟨fun I w hs=>by
 obtain⟨J,d,e⟩:=h.h I w hs;obtain⟨K,b,c⟩:=h'.h J w e;exact⟨K,a_.le_trans d b,c⟩⟩
theorem Sat.pick(rD:List Nat)(hn:nodupB rD=true)(e:bD (rD.map (gt S))=S')(h:Sat I S w):Sat I S' w:=by
 subst e;have d:=Hz hn;obtain⟨f,l,g,m⟩:=h.k7;refine⟨⟨fun i b=>∃h:i<rD.length,f rD[i] b,fun i=>?_,fun i n b c a=>?_,fun i b c=>?_⟩,h.mQ⟩
 ·rw[sL,fg];by_cases hi:i<rD.length
  ·simp[*]
  ·simp only[fP,ot (Nat.le_of_not_lt hi),Option.map_none,Option.getD_none];trivial
 ·obtain⟨hi,c⟩:=c;obtain⟨j,a⟩:=a;have:=g _ _ _ c a;have k:=List.pairwise_iff_getElem.1 d;grind
 grind
theorem aE.pick(rD:List Nat)(hn:nodupB rD=true)(e:bD (rD.map (gt S))=S'):aE S S':=⟨fun I _ h=>⟨I,a_.le_refl I,h.pick rD hn e⟩⟩
theorem aG{t:Bool}{A:Prop}(a:t=true->A)(b:t=false->B):Br t A B:=by
 cases t
 ·exact b rfl
 ·exact a rfl
@[simp] theorem amc (A B:Prop):Br true A B=A:=rfl
@[simp] theorem amb (A B:Prop):Br false A B=B:=rfl
theorem bo{p:Prop}[Decidable p]{A:Prop}(a:p->A)(b:¬p->B):Br (decide p) A B:=aG (fun e=>a (j7 e)) (fun e=>b (Ns e))
@[simp] theorem amI (b o:Nat):d9 ⟨b,o,none⟩ b:=aq
theorem M2{h:Hp}{fr:Nat×Nat}(a:h b=some (.cells ⟨vs⟩ t fr))(o:Nat):ue h ⟨b,o,none⟩=vs[o]?:=by
 unfold ue;simp[a]
theorem aP.cells{b o:Nat}{vs:List Value}{t:TypeId}{v:Value}(h:vs[o]?=some v):aP (.cells b vs t) ⟨b,o,none⟩ v:=⟨fun I h' c _ a=>by
 rw[M2 a.2];exact h⟩
theorem aP.rest(e:j∉bG){a:Addr}{v:Value}(h:aP (gt S j) a v):aP (.dq (rest S bG)) a v:=⟨fun I h' o d c=>by
 obtain⟨f,b,_,_⟩:=c;have:=b j;rw[G8]at this;simp only[e,if_false]at this;exact h.h I h' _ d this⟩
theorem aP.sub{A B:ah}(hs:Sub A B){a:Addr}{v:Value}(h:aP A a v):aP B a v:=⟨fun I h' o d c=>by
 obtain⟨e,b⟩:=hs I h' o c;exact h.h I h' e d b⟩
def c4(A:ah)(a:Addr)(ys:List Value):Prop:=∀j u,ys[j]?=some u->aP A (a.add j) u
theorem c4.sub{A B:ah}(hs:Sub A B){a:Addr}{ys:List Value}(h:c4 A a ys):c4 B a ys:=fun j u b=>(h j u b).sub hs
theorem pa(b o j:Nat):(⟨b,o,none⟩:Addr).add j=⟨b,o+j,none⟩:=by
 unfold Addr.add;simp[*]
theorem c4.rest(b:j∉bG){a:Addr}{ys:List Value}(h:c4 (gt S j) a ys):c4 (.dq (rest S bG)) a ys:=fun i u hi=>(h i u hi).rest b
theorem c4.cells{b o:Nat}{vs ys:List Value}{t:TypeId}(h:∀j u,ys[j]?=some u->vs[o+j]?=some u):c4 (.cells b vs t) ⟨b,o,none⟩ ys:=fun j u a=>by
 rw[pa];exact aP.cells (h j u a)
structure Row where
 a:Option Addr
 n:Nat
 cap:Nat
 A:ah
def Row.v(r:Row):Value:=.slice r.a r.n r.cap
inductive bz(e:TypeId)(k:Nat)(cs:List Value):Row->Prop
 |nil (h:cs=[]):bz e k cs ⟨none,0,0,.d0⟩
 |fO (b n cap:Nat) (sp:List Value) (hl:cs.length=n*k) (hs:(cs++sp).length=cap*k) (hn:n<=cap):bz e k cs ⟨some ⟨b,0,none⟩,n,cap,.cells b (cs++sp) e⟩
theorem bz.len{cs:List Value}{r:Row}(h:bz e k cs r):cs.length=r.n*k:=by
 cases h with
 |nil h=>subst h;simp
 |fO b n cap sp hl hs hn=>exact hl
theorem bz.le{cs:List Value}{r:Row}(h:bz e k cs r):r.n<=r.cap:=by
 cases h with
 |nil h=>exact bT _
 |fO b n cap sp hl hs hn=>exact hn
def dG:Row:=⟨none,0,0,.d0⟩
section
variable{P:Program}
theorem Sat.setRow(h:Sat I S w){CA:List Value}(d:gt S j= .cells b vs t):Sat I (fT S j (.cells b CA t)) (w.setRow b ⟨CA⟩):=by
 have e:=h.cells d;refine h.write (b:=b) (fun o a=>by rw[d]at a;exact a.1) (fun c f=>setRow_other w b c _ f) (by simp[*]) (fun o a=>?_);rw[d]at a;exact⟨a.1,setRow_heap w b _ _ t _ e⟩
theorem Sat.alloc(h:Sat I S w)(j:Nat)(cs:Array Value)(t:TypeId):Sat I (fT S j (.cells w.heap.size cs.toList t)) (w.drew.alloc (.cells cs t)):=by
 have:=(h.heap (w':=w.drew) rfl).new j (.cells cs t);exact this
theorem c4.cell(h:Sat I S w){a:Addr}{ys:List Value}(hs:c4 (gt S j) a ys):∀i u,ys[i]?=some u->w.cell? (a.add i)=some u:=fun i u hi=>h.look (hs i u hi)
theorem zW(A B F:ah):fT (bD [A,F]) 0 B=bD [B,F]:=rfl
structure oZ where
 r:Row
 cs:List Value
 a:Option Addr
 m:Nat
 c:Nat
 ys:List Value
def de(e:TypeId)(k bytes:Nat):aQ where
 X:=oZ
 Y:=Row
 args x:=[.slice x.r.a x.r.n x.r.cap,.slice x.a x.m x.c]
 pre x:=[x.r.A]
 cond x:=bz e k x.cs x.r/\x.ys.length=x.m*k/\(∀u∈x.ys,u.oneCell'=true)/\(x.r.n+x.m)*bytes<=140737488355328/\x.r.n+x.m<=9223372036854775807/\(x.a=none->x.m=0/\x.c=0)
 aO x F:=∀a,x.a=some a->c4 F a x.ys
 bZ x r:=bz e k (x.cs++x.ys) r/\r.n=x.r.n+x.m/\(x.m=0->r=x.r)
 val _ r:=.returned r.v
 post _ r:=[r.A]
 eM _ _ _ hs h a b:=(h a b).sub hs
theorem jE{o:Oper}{s x:Operand}{d:TypeInfo}{z:Value}(k bytes:Nat)(X:o.op= .call {callee:=.builtin .append,args:=#[s,x],argTypes:=#[t,t]})
  (O:P.underlying t=some (.slice e)) (hi:P.info? e=some d) (Z:d.zero=some z) (hk:d.size=k) (hb:d.bytes=bytes) (N:z.cells.size=k) (hk0:0<k):e5 P o (de e k bytes):=by
 refine⟨fun x F I w ρ Q hc Y hs=>?_⟩;obtain⟨r,cs,a,m,c,ys⟩:=x;obtain⟨l,f,M,B,G,E⟩:=hc;dsimp only at l f M B G E;simp only[X,Op.operands,Call.operands,de]at Q;have R:ρ s= .slice r.a r.n r.cap/\ρ x= .slice a m c:=by simpa using Q
 obtain⟨U,V⟩:=R;have fQ:∀w',(execOp ρ o).run P w'=((Builtin.append_ #[t,t] o.type #[.slice r.a r.n r.cap,.slice a m c]).run P w').andThen fun v w2=>.ok (.value v) w2:=by
  intro w';simp[execOp,X,resolve,invoke,builtin,U,V]
 subst hk;subst hb;by_cases K:m=0
 ·subst K;have hy:ys=[]:=List.eq_nil_of_length_eq_zero (by simpa using f);subst hy;refine⟨r,I,w,r.v,⟨by simpa using l,rfl,fun _=>rfl⟩,?_,rfl,a_.le_refl I,hs,cv.refl w⟩;have S:=l.le;rw[fQ];cases l <;> cases a <;> simp[Builtin.append_,run_underlying O,sizeOf,typeInfo,hi,Builtin.lenOf,Builtin.firstCells,loadCells,loadCellsFrom,storeCells,S,Row.v]
 obtain⟨y,rfl⟩:∃y,a=some y:=by
  cases a with
  |none=>exact absurd (E rfl).1 K
  |some y=>exact⟨y,rfl⟩
 have L:c4 F y ys:=Y y rfl;have q:∀i u,ys[i]?=some u->w.cell? (y.add i)=some u:=c4.cell hs (j:=1) (show c4 (gt (bD [r.A,F]) 1) y ys from L);dsimp only[de,List.cons_append,List.nil_append]at hs;clear Y Q;cases l with
 |nil h=>
  subst h;have p:=run_append_nil (P:=P) w t o.type e d z O hi Z y m c ys f q ae (by dsimp only at G;omega) (by dsimp only at B;simp only[gT]at B;omega);refine⟨⟨some ⟨w.heap.size,0,none⟩,m,grownCap w m 0 e,.cells w.heap.size (ys++(Builtin.zeroCells z.cells (grownCap w m 0 e-m)).toList) e⟩,I,w.drew.alloc (.cells (ys.toArray++Builtin.zeroCells z.cells (grownCap w m 0 e-m)) e),_,⟨.fO _ _ _ _ ?_ ?_ (grownCap_ge w m 0 e),?_,?_⟩,?_,rfl,a_.le_refl I,?_,aq⟩
  ·simpa using f
  ·have:=grownCap_ge w m 0 e;simp only[List.nil_append,eS,Array.length_toList,size_zeroCells,N,f,<-Nat.add_mul];congr 1;omega
  ·simp
  ·intro e;exact absurd e K
  ·left;rw[fQ,p];rfl
  ·have:=hs.alloc 0 (ys.toArray++Builtin.zeroCells z.cells (grownCap w m 0 e-m)) e;simpa[de,zW]using this
 |fO b n cap sp hl H hn=>
  have C:w.heap[b]?=some (.cells ⟨cs++sp⟩ e (0,0)):=hs.cells (j:=0) rfl;by_cases g:n+m<=cap
  ·have D:n*d.size+ys.length<=(⟨cs++sp⟩:Array Value).size:=by
    show n*d.size+ys.length<=(cs++sp).length;rw[f,H,<-Nat.add_mul];exact Nat.mul_le_mul_right _ g
   have p:=run_append_room (P:=P) w t o.type e d O hi b n cap ⟨cs++sp⟩ C y m c ys f q M g D;have A:(cs++sp).take (n*d.size)=cs:=by rw[<-hl];exact List.take_left
   have J:(cs++ys++(cs++sp).drop (n*d.size+ys.length)).length=cap*d.size:=by
    simp only[eS,List.length_drop]at D H⊢;rw[hl]at H⊢;have:n*d.size+ys.length<=cap*d.size:=by rw[f,<-Nat.add_mul];exact Nat.mul_le_mul_right _ g
    omega
   refine⟨⟨some ⟨b,0,none⟩,n+m,cap,.cells b (cs++ys++(cs++sp).drop (n*d.size+ys.length)) e⟩,I,w.setRow b ⟨cs++ys++(cs++sp).drop (n*d.size+ys.length)⟩,_,⟨.fO _ _ _ _ ?_ J g,rfl,fun e=>absurd e K⟩,?_,rfl,a_.le_refl I,?_,aq⟩
   ·rw[eS,hl,f,Nat.add_mul]
   ·left;rw[fQ,p];simp only[A];rfl
   ·have:=hs.setRow (j:=0) (b:=b) (vs:=cs++sp) (t:=e) (CA:=cs++ys++(cs++sp).drop (n*d.size+ys.length)) rfl;simpa[de,zW,A]using this
  ·have holds:∀j v,cs[j]?=some v->w.cell? ((⟨b,0,none⟩:Addr).add j)=some v:=by
    intro j v W;have T:=(kw.1 W).1;rw[pa,AP (b:=b) aq C];simp only[gT];rw[lD T];exact W
   have p:=run_append_grow (P:=P) w t o.type e d z O hi Z ⟨b,0,none⟩ n cap cs hl holds y m c ys f q ae (by dsimp only at G;omega) (growslice_fits ae B);refine⟨⟨some ⟨w.heap.size,0,none⟩,n+m,grownCap w (n+m) cap e,.cells w.heap.size (cs++ys++(Builtin.zeroCells z.cells (grownCap w (n+m) cap e-(n+m))).toList) e⟩,I,w.drew.alloc (.cells (cs.toArray++ys.toArray++Builtin.zeroCells z.cells (grownCap w (n+m) cap e-(n+m))) e),_,⟨.fO _ _ _ _ ?_ ?_ (grownCap_ge w (n+m) cap e),rfl,fun e=>absurd e K⟩,?_,rfl,a_.le_refl I,?_,aq⟩
   ·rw[eS,hl,f,Nat.add_mul]
   ·have:=grownCap_ge w (n+m) cap e;simp only[eS,hl,f,Array.length_toList,size_zeroCells,N,<-Nat.add_mul];congr 1;omega
   ·left;rw[fQ,p];rfl
   ·have:=hs.alloc 0 (cs.toArray++ys.toArray++Builtin.zeroCells z.cells (grownCap w (n+m) cap e-(n+m))) e;simpa[de,zW]using this
end
end
section
open Go
def ik(z:List Value)(n:Nat):List Value:=(List.replicate n z).flatten
theorem Sl(z:List Value)(n:Nat):(ik z n).length=n*z.length:=by unfold ik;simp
theorem XE(v:Value)(n:Nat):ik [v] n=List.replicate n v:=by
 unfold ik;simp[*]
theorem aly(z:List Value)(n:Nat):ik z (n+1)=z++ik z n:=by unfold ik;simp[List.replicate_succ]
theorem alw(z:List Value)(a:z≠[]):∀(n i:Nat),i<n*z.length->(ik z n)[i]?=z[i%z.length]?:=by
 have hp:0<z.length:=List.length_pos_iff.2 a;intro n
 induction n with
 |zero=>intro i h;omega
 |succ n b=>
  intro i h;rw[aly];by_cases hi:i<z.length
  ·rw[lD hi,Nat.mod_eq_of_lt hi]
  ·rw[j6 ae,b _ (by grind)];have:i%z.length=(i-z.length)%z.length:=Nat.mod_eq_sub_mod ae;rw[this]
theorem alv(z:Array Value)(n:Nat)(d:z.size≠0):(Builtin.zeroCells z n).toList=ik z.toList n:=by
 have a:z.toList≠[]:=fun e=>d (by rw[<-Array.length_toList,e];rfl);refine List.ext_getElem? fun i=>?_;have b:(Builtin.zeroCells z n).toList.length=n*z.size:=by rw[Array.length_toList,size_zeroCells]
 by_cases hi:i<n*z.size
 ·rw[alw _ a n i ae];have c:i%z.size<z.size:=Nat.mod_lt _ ae;simp[Builtin.zeroCells,hi,c,getElem!_pos]
 ·rw[ot ae,ot (by rw[Sl];grind)]
section
variable{P:Program}
structure FM where
 n:Int
 c:Int
def uw(e:TypeId)(z:List Value)(bytes:Nat):aQ where
 X:=FM
 Y:=Nat
 args x:=[.int .i64 x.n,.int .i64 x.c]
 cond x:=0<=x.n/\x.n<=x.c/\x.c*bytes<=281474976710656/\x.c<=9223372036854775807
 val x b:=.returned (.slice (some ⟨b,0,none⟩) x.n.toNat x.c.toNat)
 post x b:=[.cells b (ik z x.c.toNat) e]
variable{o:Oper}
theorem DS{l c:Operand}{t e:TypeId}{a:TypeInfo}{b:Value}(z:List Value)(bytes:Nat)(u:o.op= .makeSlice t l c)
  (D:P.underlying t=some (.slice e)) (hi:P.info? e=some a) (E:a.zero=some b) (q:b.cells=⟨z⟩) (hk:a.size=z.length) (C:z≠[]) (A:a.bytes=bytes):e5 P o (uw e z bytes):=by
 refine⟨fun x F I w ρ y B G hs=>?_⟩;obtain⟨n,d⟩:=x;obtain⟨s,i,k,h⟩:=B;dsimp only at s i k h;simp only[u,Op.operands,uw]at y;have j:ρ l= .int .i64 n/\ρ c= .int .i64 d:=by grind
 obtain⟨p,m⟩:=j;subst A;have r:b.cells.size≠0:=by simp[*]
 have f:madeCells b.cells (d.toNat*a.size)=Builtin.zeroCells b.cells d.toNat:=by
  have:b.cells.size=a.size:=by simp[*]
  unfold Builtin.zeroCells madeCells;rw[this]
 have g:=run_make (P:=P) w t e a b D hi E .i64 .i64 n d s i (by grind) h;refine⟨w.heap.size,I,w.alloc (.cells (Builtin.zeroCells b.cells d.toNat) e),_,ao,?_,rfl,a_.le_refl I,?_,aq⟩
 ·rw[f]at g;simp[execOp,u,p,m,g,Sem.run]
 ·have:=(hs.new 1 (.cells (Builtin.zeroCells b.cells d.toNat) e));have e1:(Builtin.zeroCells b.cells d.toNat).toList=ik z d.toNat:=by rw[alv _ _ r,q]
  have v:Sat I [(0,F),(1,.cells w.heap.size (ik z d.toNat) e)] (w.alloc (.cells (Builtin.zeroCells b.cells d.toNat) e)):=by
   rw[<-e1];exact this
  exact Sat.pick [1,0] rfl rfl v
theorem e5.AR{C b:aQ}(h':e5 P o b)
  (h:∀x F,C.cond x->C.aO x F->∃a,b.cond a/\b.aO a F/\C.args x=b.args a/\C.pre x=b.pre a/\
   ∀c,b.bZ a c->∃y,C.bZ x y/\b.val a c=C.val x y/\b.post a c=C.post x y):e5 P o C:=by
 refine⟨fun x F I w ρ f l n hs=>?_⟩;obtain⟨a,d,e,j,k,s⟩:=h x F l n;rw[j]at f;rw[k]at hs;obtain⟨c,J,w',v,g,i,r,m,p,q⟩:=h'.h a F I w ρ f d e hs;grind
end
end
section
open Go
variable{P:Program}
structure tU where
 b:Nat
 o:Nat
 len:Nat
 cap:Nat
 n:Int
def gb(k:Nat):kP where
 X:=tU
 args x:=[.slice (some ⟨x.b,x.o,none⟩) x.len x.cap,.int .i64 x.n]
 cond x:=0<=x.n/\x.n<x.len
 val x:=.pointer (some ⟨x.b,x.o+x.n.toNat*k,none⟩)
variable{cs ys:List Value}{k:Nat}{a:Option Addr}{r:Row}{e:TypeId}
theorem h9{o:Oper}{x i:Operand}{t:TypeId}{a:TypeInfo}(k:Nat)(g:o.op= .indexAddr t x i)(l:P.underlying t=some (.slice e))(hi:P.info? e=some a)(hk:a.size=k):dJ P o (gb k):=by
 refine⟨fun X w ρ h j=>?_⟩;obtain⟨b,off,len,cap,n⟩:=X;obtain⟨d,f⟩:=j;dsimp only at d f;simp only[g,Op.operands,gb]at h;obtain⟨hx,hn⟩:ρ x= .slice (some ⟨b,off,none⟩) len cap/\ρ i= .int .i64 n:=by grind
 have c:P.cellsOf e=a.size:=by unfold Program.cellsOf;simp[hi]
 subst hk;simp[execOp,g,hx,hn,Instr.indexAt,asIntOf,run_underlying l,run_sizeOf w hi,c,d,f,pa,Sem.run,gb]
inductive jd(k:Nat)(ys:List Value):Option Addr->Nat->Prop
 |nil (h:ys=[]):jd k ys none 0
 |fO (b o n:Nat) (h:ys.length=n*k):jd k ys (some ⟨b,o,none⟩) n
 |zero (a:Addr) (h:ys=[]):jd k ys (some a) 0
def lq(F:ah)(a:Option Addr)(ys:List Value):Prop:=∀b,a=some b->c4 F b ys
theorem lq.sub{A B:ah}(hs:Sub A B)(h:lq A a ys):lq B a ys:=fun b e=>(h b e).sub hs
theorem jd.some{n:Nat}(h:jd k ys a n)(hn:0<n):∃b o,a=some ⟨b,o,none⟩:=by
 cases h with
 |nil _=>exact absurd hn (Nat.lt_irrefl 0)
 |fO b o n _=>exact⟨b,o,rfl⟩
 |zero _ _=>exact absurd hn (Nat.lt_irrefl 0)
theorem jd.len{n:Nat}(h:jd k ys a n):ys.length=n*k:=by
 cases h with
 |nil h=>subst h;simp
 |fO b o n h=>exact h
 |zero _ h=>subst h;simp
theorem bz.src(h:bz e k cs r):jd k cs r.a r.n:=by
 cases h with
 |nil h=>exact .nil h
 |fO b n cap sp a c d=>exact .fO b 0 n a
theorem bz.Ct(h:bz e k cs r):lq r.A r.a cs:=by
 cases h with
 |nil h=>intro a e;cases e
 |fO b n cap sp c d f=>
  intro a e;cases e;refine c4.cells fun j u g=>?_;grind
theorem lq.look{F:ah}{b o j:Nat}{v:Value}(h:lq F (some ⟨b,o,none⟩) ys)(a:ys[j]?=some v):aP F ⟨b,o+j,none⟩ v:=by
 have:=h _ rfl j v a
 rwa [pa]at this
end
section
open Go
variable{P:Program}
def gc(W:World):ah:=.dq {holds:=fun I _ _=>a_.le (hp W) I,Be:=fun _ _ _ _ _ h=>h,mono:=fun _ _ _ _ h k=>a_.le_trans k h}
variable{W w':World}
theorem wb{a:Addr}{v:Value}(h:W.cell? a=some v):aP (gc W) a v:=⟨fun I h' o c b=>by
 have b:a_.le (hp W) I:=b;rw[<-Tz]at h;unfold ue at h⊢;cases e:hp W a.block with
 |none=>rw[e]at h;simp at h
 |some d=>rw[e]at h;rw[c _ _ (b _ _ e)];exact h⟩
structure xF(W w':World):Prop where
 heap:∀b,b<W.heap.size->w'.heap[b]?=W.heap[b]?
 os:w'.os=W.os
 output:w'.output=W.output
theorem entry{f:FuncId}{C:aQ}(i:jW P f C)(x:C.X)(W:World)(c:C.pre x=[])(n:C.cond x)(o:C.aO x (gc W)):
  Calls P f ⟨C.args x⟩ W fun e w'=>(∃y,C.bZ x y/\e=C.val x y)/\xF W w':=by
 refine(i.h x (gc W) (hp W) W n o ⟨⟨fun _ _=>False,fun j=>?_,fun _ _ _ h=>h.elim,fun _ _ h=>h.elim⟩,fun _ _ h=>h⟩).mono ?_
 ·rw[c];cases j with
  |zero=>exact a_.le_refl _
  |succ j=>trivial
 ·rintro e w' ⟨y,J,l,m,g,d,a⟩;refine⟨⟨y,l,m⟩,fun b k=>?_,a.1,a.2⟩;have e:=d.mQ b _ (g b (W.heap[b]) (by simp[hp,k]));rw[show w'.heap[b]?=hp w' b from rfl,e];simp[k]
theorem xF.keptBut(h:xF W w')(a:MemPlace->Prop):W.keptBut w' a:=by
 refine⟨h.os,h.output,fun i hi=>?_⟩;rw[h.heap i hi];grind
theorem xF.same(h:xF W w'){p:MemPlace}(hp:p.block<W.heap.size):W.sameAt w' p:=by
 cases p with
 |cell b o=>exact World.cell?_of_block (w:=W) (h.heap b hp)
 |map b=>exact h.heap b hp
theorem Xc{H:Type}{gv:TypeId×Value->H}(hl:laidOutB P=true){W f:World}(hk:xF W f):∀(ts:List TypeId)(vs:List Value)(ds:List (DataW H))(e:List MemPlace),
  (ts.all fun t=>P.readableRec t&&Nat.blt t P.types.size)=true->(∀p∈e,p.block<W.heap.size)->DataW.TrodAll gv P W 0 (fun _=>true) true ts vs ds e->
  DataW.TrodAll gv P f 0 (fun b=>decide (b<W.heap.size)) true ts vs ds e
 | [],[],[],_,_,_,h=>h
 |t::ts,v::vs,d::ds,e,c,a,h=>by
  obtain⟨p,q,g,i,rfl⟩:=h;simp only[List.all_cons,gx]at c;refine⟨p,q,WideElems.Trod_stays hl c.1.1 (Nat.le_of_ble_eq_true c.1.2) g (fun x hx=>hk.same (a x (by simp[hx]))) (fun x hx=>by simpa using a x (by simp[hx])),Xc hl hk ts vs ds q c.2 (fun x hx=>a x (by simp[hx])) i,rfl⟩
 | [],[],_::_,_,_,_,h=>h.elim
 | [],_::_,_,_,_,_,h=>by cases h
 |_::_,[],_,_,_,_,h=>by cases h
 |_::_,_::_,[],_,_,_,h=>by cases h
theorem ahT{H:Type}{gv:TypeId×Value->H}(hl:laidOutB P=true){f:Func}{s:ChangeSpec}{apart fresh handsOn:Bool}{i:World}{args:Array Value}{ds gs:List (DataW H)}{a:List MemPlace}
  (b:DataW.Whole gv P f.params.toList s.vars apart W args.toList ds gs a) (k:s.vars=[]) (hs:s.fn H (ds++gs)={results:=[.lit (.bool true)],args:=ds}) (hk:xF W i)
  {tb:TypeId} (l:P.underlying tb=some .bool) (m:f.resultTypes=#[tb]) (g:(f.params.toList.all fun t=>P.readableRec t&&Nat.blt t P.types.size)=true):
  s.post gv P f apart fresh handsOn false W args (.bool true) i:=by
 have d:=b.lt;obtain⟨p,q,j,c,e,_,_⟩:=b;have b:DataW.Whole gv P f.params.toList s.vars apart W args.toList ds gs a:=⟨p,q,j,c,e,by assumption,by assumption⟩;rw[k]at c;obtain⟨rfl,rfl⟩:=Go.ChangeShapes.trodVars_none c;rw[dv]at e;subst e;refine⟨ds,[],a,[],a,[],b,?_,?_,?_,hk.keptBut _,fun h=>by cases h⟩
 ·rw[hs,m];exact Go.ChangeShapes.trodAll_mk1 (⟨1,by simp[DataW.trod,Value.cells,l]⟩)
 ·rw[hs];exact Xc hl hk _ _ _ _ g d j
 ·rw[hs,k];rfl
end
section
open Go
def rZ(P:Program)(t:TypeId):DataW Unit->Option Value
 | .lit l=>match P.underlying t,l with
  |some .bool,.bool b=>some (.bool b)
  |some (.int k),.int k' z=>if k'=k then some (.int k z) else none
  |some (.float k),.float k' b=>if k'=k then some (.float k b) else none
  |some .string,.string a=>some (.string ⟨a.toArray⟩)
  |_,_=>none
 |_=>none
def Ff(P:Program)(f:TypeId->DataW Unit->Option (List Value)):List (TypeId×Nat)->Nat->List (DataW Unit)->Option (List Value)
 | [],_,[]=>some []
 |x::r,k,d::ds=>if x.2=k then (f x.1 d).bind fun l=>if l.length=P.cellsOf x.1 then (Ff P f r (k+l.length) ds).map fun m=>l++m else none else none
 |_,_,_=>none
def ji(P:Program):Nat->TypeId->DataW Unit->Option (List Value)
 |0,t,d=>(rZ P t d).map fun v=>[v]
 |n+1,t,d=>match d,P.underlying t with
  | .agg ds,some (.struct fs)=>(Ff P (ji P n) (fs.toList.map fun f=>(f.type,f.offset)) 0 ds).bind fun l=>if l.length=P.cellsOf t then some l else none
  | .agg ds,some (.array k e)=>(Ff P (ji P n) ((List.range k).map fun i=>(e,i*P.cellsOf e)) 0 ds).bind fun l=>if l.length=P.cellsOf t then some l else none
  |d,_=>(rZ P t d).map fun v=>[v]
section
variable{P:Program}{w:World}{gv:TypeId×Value->Unit}{rq:Nat}{sp:Nat->Bool}{held:Bool}
theorem WG{t:TypeId}{d:DataW Unit}{v:Value}{a:Nat}{cs:List Value}{p:List MemPlace}(h:DataW.trod gv P w rq sp held a t cs=some (d,p))(b:rZ P t d=some v):cs=[v]:=by
 cases a with
 |zero=>simp[DataW.trod]at h
 |succ n=>
  cases d <;> unfold rZ at b <;> dsimp only at b <;> try contradiction
  rename_i l
  unfold DataW.trod at h;cases c:P.underlying t with
  |none=>rw[c]at b;cases b
  |some u=>
   rw[c]at h b;cases u <;> cases l <;> dsimp only at b <;> try contradiction
   all_goals (split at h <;> simp_all)
   all_goals (obtain⟨-,e,-⟩:=h;subst e;rw[<-b])
theorem RW{f:TypeId->DataW Unit->Option (List Value)}{m:Nat}(c:∀t d l,f t d=some l->∀cs p,DataW.trod gv P w rq sp held m t cs=some (d,p)->cs=l){cs:List Value}:
  ∀(r:List (TypeId×Nat))(k:Nat)(ds:List (DataW Unit))(L:List Value),Ff P f r k ds=some L->
   (∀(i:Nat)x d,r[i]?=some x->ds[i]?=some d->∃p,DataW.trod gv P w rq sp held m x.1 ((cs.drop x.2).take (P.cellsOf x.1))=some (d,p))->cs.length=k+L.length->cs.drop k=L
 | [],k,[],L,h,_,hl=>by
  cases h;rw[List.drop_eq_nil_of_le];rw[hl];exact bT _
 |x::r,k,d::ds,L,h,b,hl=>by
  unfold Ff at h;split at h
  ·rename_i hk
   obtain⟨l,j,h⟩:=Option.bind_eq_some_iff.1 h;split at h
   ·rename_i o
    obtain⟨q,n,rfl⟩:=Option.map_eq_some_iff.1 h;obtain⟨p,hp⟩:=b 0 x d rfl rfl;have e1:=c _ _ _ j _ _ hp;rw[hk,<-o]at e1;rw[eS]at hl;have g:=RW c r (k+l.length) ds q n (fun i y e u s=>b (i+1) y e u s) ae;have a:=List.take_append_drop l.length (cs.drop k);rw[e1,List.drop_drop,g]at a;exact a.symm
   ·cases h
  ·cases h
 | [],_,_::_,_,h,_,_=>by cases h
 |_::_,_,[],_,h,_,_=>by cases h
theorem G1:∀(n:Nat)(t:TypeId)(d:DataW Unit)(l:List Value),ji P n t d=some l->∀(a:Nat)(cs:List Value)(p:List MemPlace),DataW.trod gv P w rq sp held a t cs=some (d,p)->cs=l
 |0,t,d,l,h,a,cs,p,hp=>by
  unfold ji at h;obtain⟨v,o,rfl⟩:=Option.map_eq_some_iff.1 h;exact WG hp o
 |n+1,t,d,l,h,a,cs,p,hp=>by
  unfold ji at h;split at h
  ·rename_i ds fs q
   obtain⟨L,g,h⟩:=Option.bind_eq_some_iff.1 h;split at h
   ·rename_i u
    cases h;obtain⟨B,m,rfl,hx,hl,r,b⟩:=DataW.trod_struct q hp;cases hx;have:=RW (m:=m) (fun t d l e cs p=>G1 n t d l e m cs p) _ 0 _ l g (fun i x d hx hd=>by
     rw[fP,Option.map_eq_some_iff]at hx hd;obtain⟨f,z,rfl⟩:=hx;obtain⟨y,s,rfl⟩:=hd;exact⟨y.2,by rw[b i f (by simpa using z),s]⟩) ae
    simpa using this
   ·cases h
  ·rename_i ds k e q
   obtain⟨L,g,h⟩:=Option.bind_eq_some_iff.1 h;split at h
   ·rename_i u
    cases h;obtain⟨B,m,rfl,hx,hl,r,b⟩:=DataW.trod_array q hp;cases hx;have:=RW (m:=m) (fun t d l e cs p=>G1 n t d l e m cs p) _ 0 _ l g (fun i x d hx hd=>by
     rw[fP,Option.map_eq_some_iff]at hx hd;obtain⟨j,A,rfl⟩:=hx;obtain⟨y,s,rfl⟩:=hd;obtain⟨c,rfl⟩:=kw.1 A;rw[List.length_range]at c;rw[List.getElem_range];exact⟨y.2,by rw[b i c,s]⟩) ae
    simpa using this
   ·cases h
  ·obtain⟨v,o,rfl⟩:=Option.map_eq_some_iff.1 h;exact WG hp o
theorem WT{b:Nat}{t e:TypeId}{cs:List Value}{ds sd:List (DataW Unit)}{p:List MemPlace}(E:P.underlying t=some (.slice e))(hp:DataW.trod gv P w rq sp held b t cs=some (.slice ds sd,p)):
  ∃a c,cs=[.slice (some a) ds.length c]/\∀(n i:Nat)(d:DataW Unit)(l:List Value),ds[i]?=some d->ji P n e d=some l->∀(j:Nat)(v:Value),l[j]?=some v->w.cell? (a.add (i*P.cellsOf e+j))=some v:=by
 rcases DataW.trod_slice E hp with⟨_,hx⟩| ⟨a,len,cap,H,rs,m,rfl,rfl,hx,G,D,A,g,f,_,_⟩
 ·cases hx
 cases hx;refine⟨a,cap,by rw[List.length_map,g],fun n i d l hd B j v o=>?_⟩;rw[fP,Option.map_eq_some_iff]at hd;obtain⟨y,q,rfl⟩:=hd;have hi:i<len:=by rw[<-g];exact(kw.1 q).1
 have k:=f i hi;rw[q]at k;obtain⟨r,s,u⟩:=Option.bind_eq_some_iff.1 k;have x:=G1 n e y.1 l B m r y.2 u;subst x;obtain⟨_,F,z⟩:=World.cells?_some s;have C:=(kw.1 o).1;have h:=z j ae;rw[o]at h;rw[Addr.add_add]at h;exact h
theorem WU{a:Addr}{v:Value}(h:w.cell? a=some v):a.spot=none:=by
 unfold World.cell? at h;split at h
 ·cases hs:a.spot with
  |none=>rfl
  |some s=>rw[hs]at h;simp at h
 ·cases h
end
def ss(P:Program)(w:World)(n:String)(d:DataW Unit):Prop:=
 ∃g t cs a p,P.globalNamed n=some g/\(P.globals[g]?).map (·.type)=some t/\w.var? P n=some cs/\DataW.trod (fun _=>()) P w 0 (fun _=>true) false a t cs.toList=some (d,p)
theorem Xr{P:Program}{w:World}:∀{l:List (String×DataW Unit)}{c:List MemPlace},DataW.LaidVars P w l c->∀x∈l,ss P w x.1 x.2
 | [],_,_,_,b=>by cases b
 | (n,d)::r,c,h,x,b=>by
  obtain⟨g,t,cs,a,p,q,f,i,j,k,m,_⟩:=h;rcases List.mem_cons.1 b with e|e
  ·subst e;exact⟨g,t,cs,a,p,f,i,j,k⟩
  ·exact Xr m x e
theorem qg{P:Program}{w:World}{l:List (String×DataW Unit)}(h:laidMet P l w)(i:Nat){n:String}{d:DataW Unit}(hi:l[i]?=some (n,d)):ss P w n d:=
 let ⟨_,a,_⟩:=h
 Xr a _ (ou hi)
section
variable{P:Program}{w:World}{n:String}{d:DataW Unit}{g:Nat}{t e:TypeId}{l:List Value}
theorem ss.flat(h:ss P w n d)(i:P.globalNamed n=some g)(o:(P.globals[g]?).map (·.type)=some t)(k:Nat)(m:ji P k t d=some l):∃t fr,w.heap[g]?=some (.cells ⟨l⟩ t fr):=by
 obtain⟨q,t0,cs,f,p,c,e,a,hp⟩:=h;obtain rfl:=Option.some.inj (i.symm.trans c);obtain rfl:=Option.some.inj (o.symm.trans e);have:=G1 k _ _ _ m _ _ _ hp;obtain⟨cl⟩:=cs;have this:cl=l:=this;subst this;unfold World.var? at a;rw[i,Option.bind_some]at a;split at a
 ·rename_i nt t' b j
  cases a;exact⟨t',b,j⟩
 ·cases a
theorem ss.look(h:ss P w n d)(b:P.globalNamed n=some g)(c:(P.globals[g]?).map (·.type)=some t)(k:Nat)(a:ji P k t d=some l)(i:Nat){v:Value}(hi:l[i]?=some v):aP (gc w) ⟨g,i,none⟩ v:=by
 obtain⟨t,fr,e⟩:=h.flat b c k a;refine wb ?_;unfold World.cell?;dsimp only;rw[e];simpa using hi
theorem ss.R4{ds sd:List (DataW Unit)}(h:ss P w n (.slice ds sd))(y:P.globalNamed n=some g)(G:(P.globals[g]?).map (·.type)=some t)(H:P.underlying t=some (.slice e))(k:Nat)(A:∃d v l,ds[0]?=some d/\ji P k e d=some (v::l)):
  ∃b o c,aP (gc w) ⟨g,0,none⟩ (.slice (some ⟨b,o,none⟩) ds.length c)/\∀(i:Nat)(d:DataW Unit)(l:List Value),ds[i]?=some d->ji P k e d=some l->∀(j:Nat)(v:Value),l[j]?=some v->aP (gc w) ⟨b,o+(i*P.cellsOf e+j),none⟩ v:=by
 obtain⟨J,t0,cs,q,p,f,m,I,hp⟩:=h;obtain rfl:=Option.some.inj (y.symm.trans f);obtain rfl:=Option.some.inj (G.symm.trans m);obtain⟨a,c,B,r⟩:=WT H hp;obtain⟨z,v0,l0,q1,q2⟩:=A;have u:=WU (r k 0 z _ q1 q2 0 v0 rfl);obtain⟨b,o,s⟩:=a;have C:s=none:=by
  rw[Nat.zero_mul]at u;exact u
 subst C;refine⟨b,o,c,wb ?_,fun i d l hd E j v F=>wb ?_⟩
 ·rw[World.var?_cell y I 0,<-Array.getElem?_toList,B];rfl
 ·have x:=r k i d l hd E j v F;have e:(Addr.mk b o none).add (i*P.cellsOf e+j)=⟨b,o+(i*P.cellsOf e+j),none⟩:=by
   unfold Addr.add;split
   ·rename_i D;rw[D];rfl
   ·rfl
  rw[e]at x;exact x
theorem ss.ai6{k:Nat}{s:TypeId}{f:List (List (DataW Unit))}(h:ss P w n (.agg (f.map fun ds=>.slice ds [])))(K:P.globalNamed n=some g)(U:(P.globals[g]?).map (·.type)=some t)(V:P.underlying t=some (.array k e))(S:P.underlying e=some (.slice s))(R:P.cellsOf e=1)(hs:P.cellsOf s=1):
  ∀(i:Nat)(ds:List (DataW Unit)),f[i]?=some ds->(∃d v,ds[0]?=some d/\rZ P s d=some v)->
   ∃b o c,aP (gc w) ⟨g,i,none⟩ (.slice (some ⟨b,o,none⟩) ds.length c)/\∀(j:Nat)(d:DataW Unit)(v:Value),ds[j]?=some d->rZ P s d=some v->aP (gc w) ⟨b,o+j,none⟩ v:=by
 obtain⟨X,t0,cs,I,p,A,C,W,hp⟩:=h;obtain rfl:=Option.some.inj (K.symm.trans A);obtain rfl:=Option.some.inj (U.symm.trans C);obtain⟨M,m,rfl,hx,hl,D,r⟩:=DataW.trod_array V hp;intro i ds hi ⟨N,v0,q1,q2⟩;have E:f.map (fun ds=>(.slice ds []:DataW Unit))=M.map (·.1):=by
  have:=congrArg Prod.fst hx;exact DataW.agg.inj this
 have u:(M.map (·.1))[i]?=some (.slice ds []):=by rw[<-E,fP,hi];rfl
 rw[fP,Option.map_eq_some_iff]at u;obtain⟨⟨y,q⟩,L,l⟩:=u;have l:y= .slice ds []:=l;subst l;have B:i<k:=by rw[<-D];exact(kw.1 L).1
 have J:=r i B;rw[L,R,Nat.mul_one]at J;obtain⟨a,c,e1,F⟩:=WT S J;have H:∀{d:DataW Unit}{v:Value},rZ P s d=some v->ji P 0 s d=some [v]:=fun h=>by unfold ji;rw[h];rfl
 have O:=F 0 0 N [v0] q1 (H q2) 0 v0 rfl;have x:=WU O;rw[Nat.zero_mul]at x;obtain⟨b,o,sp⟩:=a;have x:sp=none:=x;subst x;refine⟨b,o,c,wb ?_,fun j d v T hd=>wb ?_⟩
 ·have G:=congrArg (·[0]?) e1;simp only[List.getElem?_take,List.getElem?_drop]at G;rw[World.var?_cell K W i,<-Array.getElem?_toList];simpa using G
 ·have z:=F 0 j d [v] T (H hd) 0 v rfl;rw[hs,Nat.mul_one,Nat.add_zero]at z;have e:(Addr.mk b o none).add j=⟨b,o+j,none⟩:=by
   unfold Addr.add;split
   ·rename_i Q;rw[Q];rfl
   ·rfl
  rw[e]at z;exact z
end
section
variable{H:Type}{gv:TypeId×Value->H}
theorem aiR{a:Assume}{C:Checked}{os:Os}{f:FuncId}{fn:Func}{s:ChangeSpec}{d:List PathCond}{apart fresh handsOn again:Bool}{X:World->Prop}
  (z:∀(w w':World),w.heap=w'.heap->X w->X w')
  (k7:ownKnob C.prog.godebug=none) (g:os.Started) (k:C.prog.inits.idxOf? f=none) (p:C.prog.funcs[f]?=some fn)
  (h:∃(w:World)(tape:Tape)(i:Input),w.os=os/\(w.forCall tape i).Shaped C.prog/\i.vars=[]/\Input.okWide C.prog (w.forCall tape i) .any w.heap.size f i/\
   ((s.pre gv C.prog fn d apart (w.forCall tape i).memory i.args/\X (w.forCall tape i).memory)/\sizedMet gv C.prog fn (OpenSpec.ofChange s) apart (w.forCall tape i).memory i.args)/\a.holds C.prog (lone (Frame.enter C.prog f i.args .normal) [] (w.forCall tape i)))
  (c:∀(W:World)(rq:Nat)(args:Array Value)(ds gs:List (DataW H))(b:List MemPlace),
   (∀(j:Nat)t v,fn.params[j]?=some t->args[j]?=some v->Value.okWide C.prog W .any rq t v)->
   DataW.Whole gv C.prog fn.params.toList s.vars apart W args.toList ds gs b->W.ShapedOpen C.prog->
   (DataW.weightsEach C.prog (fn.params.toList++s.plain.varTypes C.prog) (ds++gs)).all (·<=reachBytes)=true->X W->
   Calls C.prog f args W fun e x=>∃v,e= .returned v/\s.post gv C.prog fn apart fresh handsOn again W args v x):
  ReturnsInHanded a C os f .any (fun w args=>(s.pre gv C.prog fn d apart w args/\X w)/\sizedMet gv C.prog fn (OpenSpec.ofChange s) apart w args) (s.post gv C.prog fn apart fresh handsOn again):=by
 refine returnsInHanded_of_calls k7 g k h ?_;intro w tape i _ r _ q m _;obtain⟨_,_,_,o,l,_,_,_,_,n⟩:=q;have e:o=fn:=Option.some.inj (l.symm.trans p);subst e;obtain⟨⟨⟨ds,gs,b,y,_⟩,hx⟩,B⟩:=m;have u:=DataW.Whole.of_heap (w':=w.forCall tape i) (by rfl) y;refine(c (w.forCall tape i) w.heap.size i.args ds gs b n u r (B.weights y) (z _ _ (by rfl) hx)).mono fun e x⟨v,A,hp⟩=>?_;subst A;exact ChangeSpec.post_blind hp
end
end
section
open Go
variable{A:ah}{I:a_}{As Ks:List ah}{bG:List Nat}{cs:List Value}{k:Nat}{r:Row}{S:St}{e:TypeId}{w:World}
theorem oP(j:Nat)(c:j∉bG)(e:gt S j=A):Sub A (.dq (rest S bG)):=by
 intro I h o b;obtain⟨f,a,_,_⟩:=b;have:=a j;rw[G8]at this;grind
theorem RM(j:Nat)(b:j∉bG)(a:gt S j=r.A)(h:bz e k cs r):lq (.dq (rest S bG)) r.a cs:=lq.sub (oP j b a) h.Ct
theorem abj{t:Bool}{A B:Prop}(h:t=true)(a:A):Br t A B:=aG (fun _=>a) (fun e=>by rw[h]at e;cases e)
theorem bz.AK(h:bz e k cs r)(hn:0<r.n):∃b,r.a=some ⟨b,0,none⟩:=by
 cases h with
 |nil _=>exact absurd hn (Nat.lt_irrefl 0)
 |fO b n cap sp hl hs hn=>exact⟨b,rfl⟩
def rn(As:List ah):ah:=.dq (rest (bD As) [])
theorem Nw{j:Nat}(h:j<Ks.length):gt (bD (Ks++As)) j=Ks.getD j .d0:=by
 rw[sL,fg,lD h,fg]
theorem G9(Ks As:List ah)(i:Nat):gt (bD (Ks++As)) (Ks.length+i)=As.getD i .d0:=by
 rw[sL,fg,j6 ae,fg];simp[*]
theorem Sat.Tn(h:Sat I (bD (Ks++As)) w):Sat I (bD (Ks++[rn As])) w:=by
 obtain⟨⟨f,a,l,m⟩,hi⟩:=h;refine⟨⟨fun j b=>(j<Ks.length/\f j b)\/(j=Ks.length/\∃i,f (Ks.length+i) b),fun j=>?_,?_,?_⟩,hi⟩
 ·by_cases d:j<Ks.length
  ·rw[Nw d];have:=a j;rw[Nw d]at this;have e:(fun b=>(j<Ks.length/\f j b)\/(j=Ks.length/\∃i,f (Ks.length+i) b))=f j:=by
    grind
   grind
  ·by_cases k:j=Ks.length
   ·subst k;have e0:gt (bD (Ks++[rn As])) Ks.length=rn As:=G9 Ks [rn As] 0;rw[e0];refine⟨fun i=>f (Ks.length+i),fun i=>?_,fun i j b c g=>?_,fun i b c=>.inr ⟨rfl,i,c⟩⟩
    ·have:=a (Ks.length+i);rw[G9]at this;show(gt (bD As) i).holds I (hp w) _;rw[sL];omega
    grind
   ·have e0:gt (bD (Ks++[rn As])) j= .d0:=by
     rw[sL,fg,ot (by simp;omega)];rfl
    rw[e0];trivial
 all_goals grind
theorem Sat.Xh(h:Sat I (bD (Ks++[rn As])) w):Sat I (bD (Ks++As)) w:=by
 obtain⟨⟨f,a,l,m⟩,hi⟩:=h;have c:=a Ks.length;have e0:gt (bD (Ks++[rn As])) Ks.length=rn As:=G9 Ks [rn As] 0;rw[e0]at c;obtain⟨g,g1,k,g3⟩:=c;refine⟨⟨fun j b=>(j<Ks.length/\f j b)\/(Ks.length<=j/\g (j-Ks.length) b),fun j=>?_,?_,?_⟩,hi⟩
 ·by_cases d:j<Ks.length
  ·have:=a j;rw[Nw d]at this⊢;have e:(fun b=>(j<Ks.length/\f j b)\/(Ks.length<=j/\g (j-Ks.length) b))=f j:=by
    grind
   grind
  ·obtain⟨i,rfl⟩:∃i,j=Ks.length+i:=⟨j-Ks.length,ae⟩;have:=g1 i;replace this:(gt (bD As) i).holds I (hp w) (g i):=this;rw[sL]at this;rw[G9];grind
 all_goals grind
theorem YN{a:Addr}{v:Value}(i:Nat)(h:As[i]?=some A)(hl:aP A a v):aP (rn As) a v:=by
 refine aP.rest (j:=i) aL ?_;rw[sL,fg,h];exact hl
theorem az{S':St}(l:List Nat)(a:nodupB l=true:=by exact rfl)(b:bD (l.map (gt S))=S':=by exact rfl):aE S S':=aE.pick l a b
theorem im{p:Prop}(h:p:=by exact⟨(),trivial,rfl,aE.pick [0] rfl rfl⟩):p:=h
theorem bP(j:Nat)(h:j∉bG:=by simp)(e:gt S j=A:=by exact rfl):Sub A (.dq (rest S bG)):=oP j h e
end
section
open Go
structure SI where
 a:Option Addr
 n:Nat
 cap:Nat
 h:Int
def Fi:kP where
 X:=SI
 args x:=[.slice x.a x.n x.cap,.int .i64 x.h]
 cond x:=0<=x.h/\x.h<=x.cap
 val x:=.slice x.a x.h.toNat x.cap
theorem ajR{P:Program}{o:Oper}{t e:TypeId}{x y:Operand}{d:TypeInfo}(j:o.op= .slice t x none (some y) none)(l:P.underlying t=some (.slice e))(hi:P.info? e=some d):dJ P o Fi:=by
 refine⟨fun q w ρ i k=>?_⟩;obtain⟨a,n,cap,h⟩:=q;obtain⟨f,g⟩:=k;dsimp only at f g;simp only[j,Op.operands,Fi]at i;have c:ρ x= .slice a n cap/\ρ y= .int .i64 h:=by simpa using i
 obtain⟨hx,m⟩:=c;simp[execOp,j,hx,m,Instr.sliceAt,Instr.slice,Instr.sliceBounds,Instr.sliceBound,asIntOf,run_underlying l,run_sizeOf w hi,f,g,Fi];intro _;cases a with
 |none=>rfl
 |some b=>simp[Addr.add]
end
section
open Go
structure bh where
 kind:Int
 text:ByteArray
 num:Nat
 pos:Int
 aD:Bool
structure cj where
 kind:Int
 op:ByteArray
 num:Nat
 aJ:List Int
 pos:Int
structure al where
 i:Nat
 nodes:List cj
 bw:Int
 loops:Int
 bn:Int
inductive PR(α:Type)where
 |ok (a:α) (s:al)
 |stop (p e:Int) (s:al)
 |out
def PM(α:Type):=al->PR α
def ret{α:Type}(a:α):PM α:=fun s=>.ok a s
def b0{α β:Type}(m:PM α)(f:α->PM β):PM β:=fun s=>
 match m s with
 | .ok a t=>f a t
 | .stop p e t=>.stop p e t
 | .out=>.out
instance:Monad PM where
 pure:=ret
 bind:=b0
def Oc{α:Type}:PM α:=fun _=>.out
def acR{α:Type}(p e:Int):PM α:=fun s=>.stop p e s
def ez:PM al:=fun s=>.ok s s
def ic(s:al):PM Unit:=fun _=>.ok () s
def eE:PM Unit:=fun s=>.ok () {s with i:=s.i+1}
def db(x:cj):PM Int:=fun s=>.ok s.nodes.length {s with nodes:=s.nodes++[x]}
def bC(a b:ByteArray):Bool:=a==b
def qm:ByteArray:=⟨#[63]⟩
def colon:ByteArray:=⟨#[58]⟩
def TQ:ByteArray:=⟨#[46]⟩
def lb:ByteArray:=⟨#[91]⟩
def rb:ByteArray:=⟨#[93]⟩
def lp:ByteArray:=⟨#[40]⟩
def rp:ByteArray:=⟨#[41]⟩
def lc:ByteArray:=⟨#[123]⟩
def rc:ByteArray:=⟨#[125]⟩
def oj:ByteArray:=⟨#[44]⟩
def dm:ByteArray:=⟨#[59]⟩
def eq:ByteArray:=⟨#[61]⟩
def Ft:ByteArray:=⟨#[116,114,117,101]⟩
def Fq:ByteArray:=⟨#[102,97,108,115,101]⟩
def Fs:ByteArray:=⟨#[110,117,108,108]⟩
def r7:ByteArray:=⟨#[102,117,110,99,116,105,111,110]⟩
def R9:ByteArray:=⟨#[100,101,108,101,116,101]⟩
def lk:ByteArray:=⟨#[118,97,114]⟩
def tG:ByteArray:=⟨#[105,110]⟩
def pP:ByteArray:=⟨#[114,101,116,117,114,110]⟩
def pN:ByteArray:=⟨#[98,114,101,97,107]⟩
def pO:ByteArray:=⟨#[99,111,110,116,105,110,117,101]⟩
def qJ:ByteArray:=⟨#[116,104,114,111,119]⟩
def zS:ByteArray:=⟨#[105,102]⟩
def zQ:ByteArray:=⟨#[101,108,115,101]⟩
def zU:ByteArray:=⟨#[119,104,105,108,101]⟩
def zR:ByteArray:=⟨#[102,111,114]⟩
def zT:ByteArray:=⟨#[116,114,121]⟩
def W0:ByteArray:=⟨#[99,97,116,99,104]⟩
def oQ:ByteArray:=⟨#[102,105,110,97,108,108,121]⟩
def Cx:ByteArray:=⟨#[115,119,105,116,99,104]⟩
def zP:ByteArray:=⟨#[99,97,115,101]⟩
def qI:ByteArray:=⟨#[100,101,102,97,117,108,116]⟩
def pp:ByteArray:=⟨#[43,43]⟩
def mm:ByteArray:=⟨#[45,45]⟩
def nH:List (List ByteArray):=[[⟨#[124,124]⟩],[⟨#[38,38]⟩],[⟨#[124]⟩],[⟨#[94]⟩],[⟨#[38]⟩],[⟨#[61,61]⟩,⟨#[33,61]⟩,⟨#[61,61,61]⟩,⟨#[33,61,61]⟩],[⟨#[60]⟩,⟨#[62]⟩,⟨#[60,61]⟩,⟨#[62,61]⟩,⟨#[105,110]⟩],[⟨#[60,60]⟩,⟨#[62,62]⟩,⟨#[62,62,62]⟩],[⟨#[43]⟩,⟨#[45]⟩],[⟨#[42]⟩,⟨#[47]⟩,⟨#[37]⟩]]
def pd:List ByteArray:=[⟨#[61]⟩,⟨#[43,61]⟩,⟨#[45,61]⟩,⟨#[42,61]⟩,⟨#[47,61]⟩,⟨#[37,61]⟩]
def tK:List ByteArray:=[⟨#[45]⟩,⟨#[43]⟩,⟨#[33]⟩,⟨#[126]⟩,⟨#[116,121,112,101,111,102]⟩,⟨#[100,101,108,101,116,101]⟩]
def cI(l:List ByteArray)(t:ByteArray):Bool:=l.any fun x=>bC t x
def kZ:Nat:=4607182418800017408
def vi:Nat:=4611686018427387904
def vh:Nat:=4613937818241073152
section
variable(L:List bh)(fin:Int)(aI:Nat->ByteArray)(wide:ByteArray->ByteArray)
def aB(s:al):bh:=(L[s.i]?).getD ⟨0,.empty,0,fin,false⟩
def bc(s:al)(ahead:Nat)(t:ByteArray):Bool:=
 match L[s.i+ahead]? with
 |none=>false
 |some x=>(x.kind==5||x.kind==2)&&bC x.text t
def nameV(s:al)(ahead:Nat):Bool:=
 match L[s.i+ahead]? with
 |none=>false
 |some x=>x.kind==1
def iU{α:Type}:PM α:=fun s=>.stop (aB L fin s).pos 60 s
def cH(t:ByteArray):PM Bool:=fun s=>bif bc L s 0 t then .ok true {s with i:=s.i+1} else .ok false s
def cr(t:ByteArray):PM Unit:=fun s=>bif bc L s 0 t then .ok () {s with i:=s.i+1} else .stop (aB L fin s).pos 60 s
def iK(ahead:Nat)(t:ByteArray):PM Bool:=fun s=>.ok (bc L s ahead t) s
def e9:PM bh:=fun s=>.ok (aB L fin s) s
def du(s:al)(k:Int):Int:=((s.nodes[k.toNat]?).map (·.pos)).getD 0
def ow(s:al)(k:Int):Int:=((s.nodes[k.toNat]?).map (·.kind)).getD 0
def dN(k:Int):PM Int:=fun s=>.ok (du s k) s
def ka(k:Int)(ir:Bool):PM Unit:=fun s=>
 bif ow s k !=8&&(ow s k !=9&&(ow s k !=3|| !ir)) then .stop (du s k) 61 s else .ok () s
def gD:PM ByteArray:=fun s=>bif (aB L fin s).kind !=1 then .stop (aB L fin s).pos 60 s else .ok (aB L fin s).text {s with i:=s.i+1}
def dP:PM Unit:=fun s=>
 bif bc L s 0 dm then .ok () {s with i:=s.i+1}
 else bif bc L s 0 rc||(decide (s.i>=L.length)||(aB L fin s).aD) then .ok () s else .stop (aB L fin s).pos 60 s
def dW:PM Int:=fun s=>
 let x:=aB L fin s
 bif x.kind==1||x.kind==2 then db ⟨2,wide x.text,0,[],x.pos⟩ {s with i:=s.i+1}
 else bif x.kind==3 then db ⟨2,wide (aI x.num),0,[],x.pos⟩ {s with i:=s.i+1}
 else bif x.kind==4 then db ⟨2,x.text,0,[],x.pos⟩ {s with i:=s.i+1}
 else .stop x.pos 60 s
def iJ:PM Int:=do
 let x <-e9 L fin
 db ⟨36,.empty,0,[],x.pos⟩
inductive ap where
 |aZ|cond|level (n:Nat)|fM (n:Nat) (left:Int)|unary|dD|suffix|dO (k:Int)|dS (aJ:List Int)|cR (aJ:List Int)|cU (aJ:List Int)|dk
 |func (kind:Int)|dt (aJ:List Int)|block (body:Bool)|fC (aJ:List Int) (body:Bool)|paren|vars|dQ (aJ:List Int)|loop|di (pos:Int)|dy (pos:Int)|choose (pos:Int)|d8 (aJ:List Int) (seen:Bool)|ek (aJ:List Int)
 |simple (x:bh)|ci (body:Bool)|prog (aJ:List Int)
def one(m:PM (List Int)):PM Int:=b0 m fun l=>ret (l.headD 0)
def cg(x:cj):PM (List Int):=b0 (db x) fun k=>ret [k]
def P:Nat->ap->PM (List Int)
 |0,_=>Oc
 |f+1,.aZ=>do
  let left <-one (P f .cond)
  let x <-e9 L fin
  bif x.kind !=5|| !cI pd x.text then ret [left] else do
   ka left true
   eE
   let right <-one (P f .aZ)
   cg ⟨16,x.text,0,[left,right],<-dN left⟩
 |f+1,.cond=>do
  let c <-one (P f (.level 0))
  let g <-cH L qm
  bif !g then ret [c] else do
   let a <-one (P f .aZ)
   cr L fin colon
   let b <-one (P f .aZ)
   cg ⟨15,.empty,0,[c,a,b],<-dN c⟩
 |f+1,.level n=>bif n==10 then P f .unary else do
   let left <-one (P f (.level (n+1)))
   P f (.fM n left)
 |f+1,.fM n left=>do
  let x <-e9 L fin
  bif (x.kind !=5&&x.kind !=2)|| !cI ((nH[n]?).getD []) x.text then ret [left] else do
   eE
   let right <-one (P f (.level (n+1)))
   let k <-db ⟨bif decide (n<2) then 14 else 13,x.text,0,[left,right],<-dN left⟩
   P f (.fM n k)
 |f+1,.unary=>do
  let x <-e9 L fin
  bif x.kind !=5&&x.kind !=2 then P f .dD
  else bif cI tK x.text then do
   eE
   let k <-one (P f .unary)
   bif bC x.text R9 then ka k false else ret ()
   cg ⟨11,x.text,0,[k],x.pos⟩
  else bif cI [pp,mm] x.text then do
   eE
   let k <-one (P f .unary)
   ka k true
   cg ⟨12,x.text,kZ,[k],x.pos⟩
  else P f .dD
 |f+1,.dD=>do
  let k <-one (P f .suffix)
  let x <-e9 L fin
  bif x.kind !=5||(x.aD||(!bC x.text pp&& !bC x.text mm)) then ret [k] else do
   ka k true
   eE
   cg ⟨12,x.text,0,[k],<-dN k⟩
 |f+1,.suffix=>do
  let k <-one (P f .dk)
  P f (.dO k)
 |f+1,.dO k=>do
  let g <-cH L TQ
  bif g then do
   let x <-e9 L fin
   bif x.kind !=1&&x.kind !=2 then iU L fin else ret ()
   eE
   let m <-db ⟨8,x.text,0,[k],<-dN k⟩
   P f (.dO m)
  else do
   let g <-cH L lb
   bif g then do
    let e <-one (P f .aZ)
    cr L fin rb
    let m <-db ⟨9,.empty,0,[k,e],<-dN k⟩
    P f (.dO m)
   else do
    let g <-cH L lp
    bif g then do
     let aJ <-P f (.dS [k])
     let m <-db ⟨10,.empty,0,aJ,<-dN k⟩
     P f (.dO m)
    else ret [k]
 |f+1,.dS aJ=>do
  let g <-cH L rp
  bif g then ret aJ else do
   bif decide (aJ.length>1) then cr L fin oj else ret ()
   let e <-one (P f .aZ)
   P f (.dS (aJ++[e]))
 |f+1,.cR aJ=>do
  let g <-cH L rb
  bif g then ret aJ else do
   let e <-one (P f .aZ)
   let h <-iK L 0 rb
   bif !h then cr L fin oj else ret ()
   P f (.cR (aJ++[e]))
 |f+1,.cU aJ=>do
  let g <-cH L rc
  bif g then ret aJ else do
   let k <-dW L fin aI wide
   cr L fin colon
   let e <-one (P f .aZ)
   let h <-iK L 0 rc
   bif !h then cr L fin oj else ret ()
   P f (.cU (aJ++[k]++[e]))
 |f+1,.dk=>do
  let x <-e9 L fin
  bif x.kind==3 then do
   eE
   cg ⟨1,.empty,x.num,[],x.pos⟩
  else bif x.kind==4 then do
   eE
   cg ⟨2,x.text,0,[],x.pos⟩
  else bif x.kind==1 then do
   eE
   cg ⟨3,x.text,0,[],x.pos⟩
  else do
   let s <-ez
   bif bc L s 0 Ft||(bc L s 0 Fq||bc L s 0 Fs) then do
    eE
    cg ⟨4,x.text,0,[],x.pos⟩
   else bif bc L s 0 r7 then P f (.func 7)
   else do
    let g <-cH L lp
    bif g then do
     let k <-one (P f .aZ)
     cr L fin rp
     ret [k]
    else do
     let g <-cH L lb
     bif g then do
      let aJ <-P f (.cR [])
      cg ⟨5,.empty,0,aJ,x.pos⟩
     else do
      let g <-cH L lc
      bif g then do
       let aJ <-P f (.cU [])
       cg ⟨6,.empty,0,aJ,x.pos⟩
      else iU L fin
 |f+1,.func kind=>do
  let x <-e9 L fin
  eE
  let s <-ez
  let op <-bif kind==35||nameV L s 0 then gD L fin else ret .empty
  cr L fin lp
  let j <-P f (.dt [])
  let s <-ez
  ic {s with bw:=s.bw+1,loops:=0,bn:=0}
  let b <-one (P f (.block true))
  let t <-ez
  ic {t with bw:=t.bw-1,loops:=s.loops,bn:=s.bn}
  cg ⟨kind,op,0,j++[b],x.pos⟩
 |f+1,.dt aJ=>do
  let g <-cH L rp
  bif g then ret aJ else do
   bif decide (aJ.length>0) then cr L fin oj else ret ()
   let x <-e9 L fin
   let w <-gD L fin
   let k <-db ⟨3,w,0,[],x.pos⟩
   P f (.dt (aJ++[k]))
 |f+1,.block body=>do
  let x <-e9 L fin
  cr L fin lc
  let aJ <-P f (.fC [] body)
  cg ⟨23,.empty,0,aJ,x.pos⟩
 |f+1,.fC aJ body=>do
  let g <-cH L rc
  bif g then ret aJ else do
   let k <-one (P f (.ci body))
   P f (.fC (aJ++[k]) body)
 |f+1,.paren=>do
  cr L fin lp
  let k <-one (P f .aZ)
  cr L fin rp
  ret [k]
 |f+1,.vars=>do
  let x <-e9 L fin
  eE
  let aJ <-P f (.dQ [])
  cg ⟨21,.empty,0,aJ,x.pos⟩
 |f+1,.dQ aJ=>do
  let x <-e9 L fin
  let w <-gD L fin
  let g <-cH L eq
  let ks <-bif g then P f .aZ else ret []
  let k <-db ⟨22,w,0,ks,x.pos⟩
  let h <-cH L oj
  bif !h then ret (aJ++[k]) else P f (.dQ (aJ++[k]))
 |f+1,.loop=>do
  let s <-ez
  ic {s with loops:=s.loops+1,bn:=s.bn+1}
  let k <-one (P f (.ci false))
  let t <-ez
  ic {t with loops:=t.loops-1,bn:=t.bn-1}
  ret [k]
 |f+1,.di pos=>do
  cr L fin lp
  let s <-ez
  let v:Nat:=bif bc L s 0 lk then 1 else 0
  bif nameV L s v&&bc L s (v+1) tG then do
   ic {s with i:=s.i+v+2}
   let e <-one (P f .aZ)
   cr L fin rp
   let b <-one (P f .loop)
   cg ⟨27,((L[s.i+v]?).map (·.text)).getD .empty,bif v==1 then kZ else 0,[e,b],pos⟩
  else do
   let a <-bif v==1 then one (P f .vars) else bif bc L s 0 dm then iJ L fin else do
    let x <-e9 L fin
    let e <-one (P f .aZ)
    db ⟨20,.empty,0,[e],x.pos⟩
   cr L fin dm
   let h <-iK L 0 dm
   let c <-bif h then iJ L fin else one (P f .aZ)
   cr L fin dm
   let h <-iK L 0 rp
   let d <-bif h then iJ L fin else one (P f .aZ)
   cr L fin rp
   let b <-one (P f .loop)
   cg ⟨26,.empty,0,[a,c,d,b],pos⟩
 |f+1,.dy pos=>do
  let b <-one (P f (.block false))
  let g <-cH L W0
  let (op,ks) <-bif g then do
    cr L fin lp
    let w <-gD L fin
    cr L fin rp
    let c <-one (P f (.block false))
    ret (w,[c])
   else ret (.empty,[])
  let s <-ez
  bif !g&& !bc L s 0 oQ then iU L fin else ret ()
  let h <-cH L oQ
  let fs <-bif h then P f (.block false) else ret []
  cg ⟨34-2,op,bif g then (bif h then vh else kZ) else vi,[b]++ks++fs,pos⟩
 |f+1,.choose pos=>do
  let c <-one (P f .paren)
  cr L fin lc
  let s <-ez
  ic {s with bn:=s.bn+1}
  let aJ <-P f (.d8 [c] false)
  let t <-ez
  ic {t with bn:=t.bn-1}
  cg ⟨33,.empty,0,aJ,pos⟩
 |f+1,.d8 aJ seen=>do
  let g <-cH L rc
  bif g then ret aJ else do
   let x <-e9 L fin
   let g <-cH L zP
   let ks <-bif g then P f .aZ else do
    let h <-iK L 0 qI
    bif h&& !seen then do
     eE
     ret []
    else iU L fin
   cr L fin colon
   let all <-P f (.ek ks)
   let k <-db ⟨34,.empty,bif g then 0 else kZ,all,x.pos⟩
   P f (.d8 (aJ++[k]) (bif g then seen else true))
 |f+1,.ek aJ=>do
  let s <-ez
  bif !bc L s 0 zP&&(!bc L s 0 qI&& !bc L s 0 rc) then do
   let k <-one (P f (.ci false))
   P f (.ek (aJ++[k]))
  else ret aJ
 |f+1,.simple x=>do
  let s <-ez
  let kind <-bif bC x.text pP&&decide (s.bw>0) then ret 28 else bif bC x.text pN&&decide (s.bn>0) then ret 29 else bif bC x.text pO&&decide (s.loops>0) then ret 30 else bif bC x.text qJ then ret 31 else iU L fin
  eE
  let n <-e9 L fin
  let s <-ez
  bif kind==(31:Int)&&n.aD then iU L fin else ret ()
  let ks <-bif kind==(31:Int)||(kind==(28:Int)&&(decide (s.i<L.length)&&(!n.aD&&(!bc L s 0 dm&& !bc L s 0 rc)))) then P f .aZ else ret []
  dP L fin
  cg ⟨kind,.empty,0,ks,x.pos⟩
 |f+1,.ci body=>do
  let x <-e9 L fin
  let s <-ez
  bif bc L s 0 lc then P f (.block false)
  else bif bc L s 0 dm then do
   let k <-iJ L fin
   eE
   ret [k]
  else do
   let plain:PM (List Int):=do
    let e <-one (P f .aZ)
    dP L fin
    cg ⟨20,.empty,0,[e],x.pos⟩
   bif x.kind==2 then
    bif bC x.text lk then do
     let v <-one (P f .vars)
     dP L fin
     ret [v]
    else bif cI [pP,pN,pO,qJ] x.text then P f (.simple x)
    else bif bC x.text r7 then (bif !body then iU L fin else P f (.func 35))
    else bif bC x.text zS then do
     eE
     let c <-one (P f .paren)
     let a <-one (P f (.ci false))
     let g <-cH L zQ
     let ks <-bif g then P f (.ci false) else ret []
     cg ⟨24,.empty,0,[c,a]++ks,x.pos⟩
    else bif bC x.text zU then do
     eE
     let c <-one (P f .paren)
     let b <-one (P f .loop)
     cg ⟨25,.empty,0,[c,b],x.pos⟩
    else bif bC x.text zR then do
     eE
     P f (.di x.pos)
    else bif bC x.text zT then do
     eE
     P f (.dy x.pos)
    else bif bC x.text Cx then do
     eE
     P f (.choose x.pos)
    else plain
   else plain
 |f+1,.prog aJ=>do
  let s <-ez
  bif decide (s.i<L.length) then do
   let k <-one (P f (.ci true))
   P f (.prog (aJ++[k]))
  else cg ⟨37,.empty,0,aJ,0⟩
end
end
section
open Go
def bt(s:ByteArray)(i:Nat):Nat:=((s.data[i]?).map UInt8.toNat).getD 0
def cL(l:List Nat):ByteArray:=⟨⟨l.map fun n=>UInt8.ofNat n⟩⟩
def mJ(b lo hi:Nat):Bool:=decide (lo<=b)&&decide (b<=hi)
def cS(s:ByteArray)(i:Nat):Option (Nat×Nat):=
 bif decide (i<s.size) then
  (match Lib.decodeN (s.size-i) (bt s i) (bt s (i+1)) (bt s (i+2)) (bt s (i+3))with
  | (c,n)=>bif c==65533&&n==1 then none else some (c,n))
 else none
def ii(c:Nat):List Nat:=
 bif decide (c>65535) then
  let d:=c-65536
  [(55296+d/1024)/256,(55296+d/1024)%256,(56320+d%1024)/256,(56320+d%1024)%256]
 else [c/256,c%256]
def lV(s:ByteArray):Nat->Nat->List Nat->List Nat
 |0,_,o=>o
 |f+1,i,o=>bif decide (i<s.size) then (match cS s i with|some (c,n)=>lV s f (i+n) (o++ii c)|none=>[]) else o
def bx(s:ByteArray):ByteArray:=cL (lV s (s.size+1) 0 [])
def hL(c:Nat):Bool:=c==10||(c==13||(c==8232||c==8233))
def rE(c:Nat):Bool:=c==9||(c==11||(c==12||(c==32||(c==160||c==65279))))
def cY(s:ByteArray)(i:Nat)(t:List Nat):Bool:=decide (i+t.length<=s.size)&&(List.range t.length).all fun k=>bt s (i+k)==t.getD k 0
def nG(s:ByteArray)(t:List Nat):Nat->Nat->Option Nat
 |0,_=>none
 |f+1,i=>bif cY s i t then some i else bif decide (i<s.size) then nG s t f (i+1) else none
def fN(s:ByteArray):Nat->Nat->Nat×Bool
 |0,i=>(i,true)
 |f+1,i=>bif decide (i<s.size) then (match cS s i with|none=>(i,false)|some (c,n)=>bif hL c then (i,true) else fN s f (i+n)) else (i,true)
def eL(s:ByteArray):Nat->Nat->Bool->Bool×Bool
 |0,_,aD=>(true,aD)
 |f+1,i,aD=>bif decide (i<s.size) then (match cS s i with|none=>(false,aD)|some (c,n)=>eL s f (i+n) (aD||hL c)) else (true,aD)
def cF(s:ByteArray):Nat->Nat->Bool->Int×Nat×Bool
 |0,i,aD=>(-1,i,aD)
 |f+1,i,aD=>
  bif decide (i<s.size) then
   match cS s i with
   |none=>(i,i,aD)
   |some (c,n)=>
    bif hL c then cF s f (i+n) true
    else bif rE c then cF s f (i+n) aD
    else bif cY s i [47,47] then
     bif (fN s (s.size+1) i).2 then cF s f (fN s (s.size+1) i).1 aD else ((fN s (s.size+1) i).1,(fN s (s.size+1) i).1,aD)
    else bif cY s i [47,42] then
     match nG (s.extract (i+2) s.size) [42,47] (s.size+1) 0 with
     |none=>(i,i,aD)
     |some k=>
      let r:=eL (s.extract (i+2) (i+2+k)) (s.size+1) 0 aD
      bif r.1 then cF s f (i+k+4) r.2 else (i,i,r.2)
    else (-1,i,aD)
  else (-1,i,aD)
def fi(b:Nat):Bool:=mJ b 97 122||(mJ b 65 90||(b==95||b==36))
def bL(b:Nat):Bool:=mJ b 48 57
def fv(b:Nat):Bool:=bL b||mJ (b|||32) 97 102
def gj(s:ByteArray)(p:Nat->Bool):Nat->Nat->Nat
 |0,i=>i
 |f+1,i=>bif decide (i<s.size)&&p (bt s i) then gj s p f (i+1) else i
def bE(s:ByteArray)(p:Nat->Bool)(i:Nat):Nat:=gj s p (s.size+1) i
def dX(s:ByteArray)(i:Nat):Nat×Bool:=
 bif bt s i==48&&(decide (i+1<s.size)&&(bt s (i+1)|||32)==120) then
  let j:=bE s fv (i+2)
  (j,decide (j>i+2)&& !(fi (bt s j)||bL (bt s j)))
 else
  let j:=bE s bL i
  bif decide (j-i>1)&&bt s i==48 then (j,false) else
   let a:=bif bt s j==46 then bE s bL (j+1) else j
   bif (bt s a|||32)==101 then
    let c:=bif bt s (a+1)==43||bt s (a+1)==45 then a+2 else a+1
    let b:=bE s bL c
    (b,decide (b>c)&& !(fi (bt s b)||bL (bt s b)))
   else (a,!(fi (bt s a)||bL (bt s a)))
def et(s:ByteArray):Nat->Nat->Nat->Nat×Option Nat
 |0,i,u=>(i,some u)
 |n+1,i,u=>bif decide (i<s.size)&&fv (bt s i) then et s n (i+1) (u*16+(bif bL (bt s i) then bt s i-48 else (bt s i|||32)-97+10)) else (i,none)
def ug:List (Nat×Nat):=[(98,8),(116,9),(110,10),(118,11),(102,12),(114,13)]
def eo(s:ByteArray)(i:Nat):Nat×Option (List Nat):=
 match cS s i with
 |none=>(i,none)
 |some (c,n)=>
  let j:=i+n
  match ug.find? fun p=>p.1==c with
  |some p=>(j,some [0,p.2])
  |none=>
   bif c==120 then ((et s 2 j 0).1,(et s 2 j 0).2.map fun u=>[u/256%256,u%256])
   else bif c==117 then ((et s 4 j 0).1,(et s 4 j 0).2.map fun u=>[u/256%256,u%256])
   else bif c==48 then (j,bif bL (bt s j) then none else some [0,0])
   else bif mJ c 49 57 then (j,none)
   else bif c==13&&bt s j==10 then (j+1,some [])
   else bif hL c then (j,some [])
   else (j,some (ii c))
def gJ(s:ByteArray)(mark:Nat):Nat->Nat->List Nat->Nat×Option (List Nat)
 |0,i,_=>(i,none)
 |f+1,i,o=>
  match cS s i with
  |none=>(i,none)
  |some (c,n)=>
   bif c==10||c==13 then (i,none)
   else bif c==mark then (i+n,some o)
   else bif c==92 then
    match eo s (i+n)with
    | (j,none)=>(j,none)
    | (j,some u)=>gJ s mark f j (o++u)
   else gJ s mark f (i+n) (o++ii c)
def eV:List ByteArray:=[⟨#[62,62,62]⟩,⟨#[61,61,61]⟩,⟨#[33,61,61]⟩,⟨#[60,61]⟩,⟨#[62,61]⟩,⟨#[61,61]⟩,⟨#[33,61]⟩,⟨#[43,43]⟩,⟨#[45,45]⟩,⟨#[60,60]⟩,⟨#[62,62]⟩,⟨#[38,38]⟩,⟨#[124,124]⟩,⟨#[43,61]⟩,⟨#[45,61]⟩,⟨#[42,61]⟩,⟨#[47,61]⟩,⟨#[37,61]⟩,⟨#[123]⟩,⟨#[125]⟩,⟨#[40]⟩,⟨#[41]⟩,⟨#[91]⟩,⟨#[93]⟩,⟨#[59]⟩,⟨#[44]⟩,⟨#[46]⟩,⟨#[60]⟩,⟨#[62]⟩,⟨#[43]⟩,⟨#[45]⟩,⟨#[42]⟩,⟨#[47]⟩,⟨#[37]⟩,⟨#[38]⟩,⟨#[124]⟩,⟨#[94]⟩,⟨#[33]⟩,⟨#[126]⟩,⟨#[63]⟩,⟨#[58]⟩,⟨#[61]⟩]
def Sh:ByteArray:=⟨#[32,98,114,101,97,107,32,99,97,115,101,32,99,97,116,99,104,32,99,108,97,115,115,32,99,111,110,115,116,32,99,111,110,116,105,110,117,101,32,100,101,98,117,103,103,101,114,32,100,101,102,97,117,108,116,32,100,101,108,101,116,101,32,100,111,32,101,108,115,101,32,101,110,117,109,32,101,120,112,111,114,116,32,101,120,116,101,110,100,115,32,102,97,108,115,101,32,102,105,110,97,108,108,121,32,102,111,114,32,102,117,110,99,116,105,111,110,32,105,102,32,105,109,112,111,114,116,32,105,110,32,105,110,115,116,97,110,99,101,111,102,32,108,101,116,32,110,101,119,32,110,117,108,108,32,114,101,116,117,114,110,32,115,117,112,101,114,32,115,119,105,116,99,104,32,116,104,105,115,32,116,104,114,111,119,32,116,114,117,101,32,116,114,121,32,116,121,112,101,111,102,32,118,97,114,32,118,111,105,100,32,119,104,105,108,101,32,119,105,116,104,32,121,105,101,108,100,32]⟩
def dj(t:ByteArray):List Nat:=t.data.toList.map UInt8.toNat
def zY(t:ByteArray):Bool:=decide (t.size>0)&&(!Lib.contains t.data.toList [32]&&Lib.contains Sh.data.toList ([32]++t.data.toList++[32]))
def fl(num:Nat->Nat)(s:ByteArray)(i:Nat)(aD:Bool):Nat×Option bh:=
 let b:=bt s i
 bif fi b then
  let j:=bE s (fun b=>fi b||bL b) i
  let t:=s.extract i j
  (j,some ⟨bif zY t then 2 else 1,t,0,i,aD⟩)
 else bif bL b||(b==46&&(decide (i+1<s.size)&&bL (bt s (i+1)))) then
  ((dX s i).1,bif (dX s i).2 then some ⟨3,.empty,num i,i,aD⟩ else none)
 else bif b==34||b==39 then
  match gJ s b (s.size+1) (i+1) []with
  | (j,none)=>(j,none)
  | (j,some u)=>(j,some ⟨4,cL u,0,i,aD⟩)
 else
  match eV.find? fun m=>cY s i (dj m)with
  |none=>(i,none)
  |some m=>(i+m.size,some ⟨5,m,0,i,aD⟩)
def gB(num:Nat->Nat)(s:ByteArray):Nat->Nat->Bool->List bh->List bh×Int
 |0,_,_,_=>([],0)
 |f+1,i,aD,o=>
  match cF s (s.size+1) i aD with
  | (at_,j,aD)=>
   bif decide (at_>=0) then ([],at_)
   else bif j==s.size then (o,-1)
   else match fl num s j aD with
    | (_,none)=>([],j)
    | (k,some x)=>gB num s f k false (o++[x])
def sT(num:Nat->Nat)(s:ByteArray):List bh×Int:=gB num s (s.size+1) 0 false []
end
end Go.Proofs.YtdkchodgklpomaaGreatDoor
