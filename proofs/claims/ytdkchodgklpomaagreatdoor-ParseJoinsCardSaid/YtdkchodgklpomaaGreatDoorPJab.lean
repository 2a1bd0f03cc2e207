/- Part of the proof that ParseJoins answers true at every input. -/
import Derived.Test.YtdkchodgklpomaaGreatDoorPJaa
set_option linter.all false
namespace Go.Proofs.YtdkchodgklpomaaGreatDoor
set_option maxRecDepth 100000
open Go.Value (int slice string bool pointer agg tuple func float iface nilIface)
open Go.IntKind (i64 u8 u64 i32 u32 u16 i8 i16)
open Go.FloatKind (f64)
open Go.Ending (returned panicked)
section
open Go
section
variable{P:Program}{N:Nat}{H:Nat->OH}{aM:Array Oper}{ms:List Nat}
variable{a:Act}{Q:Exit->Act->World->Prop}{I:a8}{ds:List Deferred}{R1 R2 ef l:List Nat}{kp:List PanicEntry->Tm->St->Prop}{i r:Nat}{h:OH}{o:Oper}{S:St}{φ:St->St}{T:Tm}{k:Tm->St->Prop}{w:World}
theorem Ox{T':Tm}{k':Tm->St->Prop}{b:List PanicEntry->Tm->St->Prop}(a:tC o=false)
  (f:ps aM o T T') (d:Fr φ (uG (gC (gO P o h)))) (g:oJ φ S) (c:nx P N aM o h T S k kp)
  (hk:∀v S',eW S S' (jd (gC (gO P o h)))->k (dD N o.dst v T) S'->k' (dD N o.dst v T') (φ S')) (hp:∀e S',kp e T S'->b e T' (φ S')):
  nx P N aM o h T' (φ S) k' b:=by
 rw[og]at c⊢;rw[<-qK f];split at c
 ·exact Wh a f.A7 d g c hk hp
 ·exact hk _ _ (eW.refl _ _) c
 omega
theorem alv{next:Act->World->Prop}(h:o.wp P a w next fun _ _ _=>False):∃c w',next c w':=by
  unfold Oper.wp at h;generalize (execOp a.eval o).run P w=r at h;cases r with
  |ok n w'=>
    cases n <;> simp only[Oper.upon]at h <;> first
      |exact h.elim
      |exact⟨_,_,h⟩
      | (obtain⟨e,f,fr,b,_⟩:=h []
         cases e with
         |returned v=>exact⟨_,_,b⟩
         |panicked g=>exact b.elim
         |outgrown=>obtain⟨_,_,d⟩:=b;exact d.elim)
      | (obtain⟨v,f,b,_⟩:=h default []
         exact⟨_,_,b⟩)
  |halt x w'=>cases x <;> simp only[Oper.upon]at h
theorem ahf(g:tC o=false)
  (l:nx P N aM o h T S k fun _ _ _=>False) (b:dY N T a) (hd:a.defers=ds) (hs:Sat I S w):
  ∃v S' J c w',eW S S' (jd (gC (gO P o h)))/\dY N (dD N o.dst v T) c/\c.defers=ds/\Sat J S' w'/\k (dD N o.dst v T) S':=by
 have d:nx P N aM o h T S (fun T' S'=>∃v,T'=dD N o.dst v T/\eW S S' (jd (gC (gO P o h)))/\k T' S') (fun _ _ _=>False):=
  Ox (φ:=fun S=>S) g (fun _ _=>rfl) (Fr.id _) (oJ.id _) l (fun v S' i hk=>⟨v,rfl,i,hk⟩) (fun _ _ h=>h)
 rw[og]at d;split at d
 ·obtain⟨c,w',f⟩:=alv (HN (Q:=fun _ _ _=>False) d b hd hs (fun c w' h=>h) (fun m c w' h=>by obtain⟨_,_,_,_,_,_,_,_,j⟩:=h;exact j));obtain⟨T',S',J,d,n,p,q,r,v,rfl,i,hk⟩:=f;grind
 ·obtain⟨v,e,i,hk⟩:=d;exact⟨undef,S,I,a.put o.dst undef,w,i,b.put _ _,by simp[*],hs,hk⟩
 grind
theorem W7(hi:i∈l)(a:(ms.getD i 0).testBit r=false):sL ms r l=false:=by
 unfold sL;grind
abbrev cl(P:Program)(H:Nat->OH)(aM:Array Oper)(i:Nat):yh:=gC (gO P (cO aM i) (H i))
structure FX(P:Program)(H:Nat->OH)(aM:Array Oper)(ms:List Nat)(i r:Nat):Prop where
 TL:(ms.getD i 0).testBit r=false
 apart:(cO aM i).apart aM (cO aM r)=true
 pass:zq (cl P H aM r) (cl P H aM i)=true
 Sm:tC (cO aM r)=false
theorem Fh:
  nF P N H aM ms (i::l) T S k kp=nx P N aM (cO aM i) (H i) T S (fun T S=>nF P N H aM ms l T S k kp) (match sL ms i l with|true=>fun a _ S=>∀T,kp a T S|false=>fun _ _ _=>False):=rfl
theorem Nr{v:Value}(Good:Tm->St->Prop)
  (e:∀T S K m,Good T S->nx P N aM (cO aM i) (H i) T S K m->K (dD N (cO aM i).dst v T) (φ S)) (c:∀T S,Good T S->oJ φ S):
  ∀(R1:List Nat){T:Tm}{S:St},(∀r,r∈R1->FX P H aM ms i r/\Fr φ (uG (cl P H aM r))/\∀T S u S',Good T S->eW S S' (jd (cl P H aM r))->Good (dD N (cO aM r).dst u T) S')->
   Good T S->nF P N H aM ms (R1++i::R2) T S k kp->nF P N H aM ms (R1++R2) (dD N (cO aM i).dst v T) (φ S) k kp:=by
 intro R1
 induction R1 with
 |nil=>
  intro T S _ f b;exact e T S _ _ f b
 |cons r R1 p=>
  intro T S a f b;obtain⟨hp,l,h⟩:=a r (lC ..);rw[List.cons_append,Fh]at b⊢;have j:sL ms r (R1++i::R2)=false:=W7 (List.mem_append_right _ (lC ..)) hp.TL;rw[j]at b;refine Ox hp.Sm (ps.put hp.apart v T) l (c T S f) b (fun u S' o hk=>?_) (fun q S' n=>n.elim);have g:=h T S u S' f o;have:=p (fun r b=>a r (pO _ b)) g hk;rw[ON (x:=(cO aM i).dst) (y:=(cO aM r).dst) (fun d hd=>(Oper.apart_spec hp.apart).2.1 d hd)]at this;omega
theorem ajJ:∀(R1:List Nat){T:Tm}{S:St}{a:Act}{I:a8}{w:World},(∀r,r∈R1->FX P H aM ms i r)->
  (∀r j,r∈R1->j∈mW (cl P H aM i)->j∉jd (cl P H aM r))->nF P N H aM ms (R1++i::R2) T S k kp->dY N T a->a.defers=ds->Sat I S w->
  ∃T' S' K e,nx P N aM (cO aM i) (H i) T' S' K e/\ps aM (cO aM i) T T'/\∀j,j∈mW (cl P H aM i)->gt S' j=gt S j:=by
 intro R1
 induction R1 with
 |nil=>
  intro T S a I w _ _ c _ _ _;exact⟨T,S,_,_,c,fun _ _=>rfl,fun _ _=>rfl⟩
 |cons r R1 y=>
  intro T S a I w b f c g hd hs;have hp:=b r (lC ..);rw[List.cons_append,Fh]at c;have m:sL ms r (R1++i::R2)=false:=W7 (List.mem_append_right _ (lC ..)) hp.TL;rw[m]at c;obtain⟨v,S',J,z,w',x,d,h,l,hk⟩:=ahf hp.Sm c g hd hs;obtain⟨T2,p,K,e,q,s,u⟩:=y (fun r c=>b r (pO _ c)) (fun r j c=>f r j (pO _ c)) hk d h l;refine⟨T2,p,K,e,q,fun t o=>?_,fun j n=>?_⟩
  ·exact((yg hp.apart v T) t o).trans (s t o)
  ·rw[u j n];exact x j (f r j (lC ..) n)
theorem Ow(b:gC (gO P o h)= .mV l)(a:nu P N o h T S k kp):
  kD P o (gO P o h) T S fun v=>k (dD N o.dst v T) S:=by
 unfold nu at a;generalize gO P o h=g at*;cases g <;> first
  |exact a
  |exact a.no.elim
  |cases b
theorem WE(b:gC (gO P o h)= .mV l)(a:kD P o (gO P o h) T S fun v=>k (dD N o.dst v T) S):
  nu P N o h T S k kp:=by
 unfold nu;generalize gO P o h=g at*;cases g <;> first
  |exact a
  |exact a.elim
  |cases b
theorem uO{a b:List Nat}(h:yR a b=true):∀i,i∈a->i∉b:=by
 intro i hi c;have:=List.all_eq_true.1 (List.all_eq_true.1 h i hi) i c;simp at this
theorem move
  (E:tC (cO aM i)=false) (c:∀r,r∈R1->FX P H aM ms i r) (C:∀j,cl P H aM i= .new j->gt S j= .d8)
  (m:nF P N H aM ms (R1++i::R2) T S k kp) (R:dY N T a) (hd:a.defers=ds) (hs:Sat I S w):
  nx P N aM (cO aM i) (H i) T S (fun T S=>nF P N H aM ms (R1++R2) T S k kp) (match sL ms i R2 with|true=>fun X _ S=>∀T,kp X T S|false=>fun _ _ _=>False):=by
 have fW:∀{T T'},ps aM (cO aM i) T T'->execOp (ev T) (cO aM i)=execOp (ev T') (cO aM i):=fun h=>execOp_congr _ (Oq E) h.A7;rw[og];have p:=fun(x0:∀r j,r∈R1->j∈mW (cl P H aM i)->j∉jd (cl P H aM r))=>ajJ (ds:=ds) R1 c x0 m R hd hs;cases n:gd aM (cO aM i) T with
 |none=>
  exfalso;cases s:cl P H aM i with
  |mV l=>
   obtain⟨T',S',K,B,q,F,_⟩:=p (fun r j m o=>by
    have hp:=(c r m).pass;rw[s]at hp o;revert hp;cases t:cl P H aM r <;> intro hp <;> simp only[zq]at hp <;> simp only[jd]
    ·simp
    ·exact uO hp j o
    ·exact uO hp j o)
   rw[og,<-qK F,n]at q;exact q
  |new l=>
   obtain⟨T',S',K,B,q,F,_⟩:=p (fun r j m o=>by rw[s]at o;simp[mW]at o);rw[og,<-qK F,n]at q;exact q
  |pK l=>
   obtain⟨T',S',K,B,q,F,_⟩:=p (fun r j m o=>by rw[s]at o;simp[mW]at o);rw[og,<-qK F,n]at q;exact q
 |some met=>
  cases met with
  |false=>
   refine Nr (φ:=fun S=>S) (fun T _=>gd aM (cO aM i) T=some false) (fun T S K B n h=>?_) (fun _ _ _=>oJ.id _) R1 (fun r m=>⟨c r m,Fr.id _,fun T S u S' n _=>?_⟩) n m
   ·rw[og,n]at h;exact h
   ·rw[<-qK (yg (c r m).apart u T)];exact n
  |true=>
   simp only;cases s:cl P H aM i with
   |mV l=>
    have Q:∀r j,r∈R1->j∈mW (cl P H aM i)->j∉jd (cl P H aM r):=fun r j m o=>by
     have hp:=(c r m).pass;rw[s]at hp o;revert hp;cases t:cl P H aM r <;> intro hp <;> simp only[zq]at hp <;> simp only[jd]
     ·simp
     ·exact uO hp j o
     ·exact uO hp j o
    have hcl:∀j,j∈mW (gC (gO P (cO aM i) (H i)))->j∈mW (cl P H aM i):=fun j o=>o;obtain⟨T',S',K,B,q,F,h3⟩:=p Q;rw[og,<-qK F,n]at q;obtain⟨v,hv,_⟩:=Fd (Ow s q);have J:kD P (cO aM i) (gO P (cO aM i) (H i)) T S (·=v):=Km E (fun x hx=>(F.A7 x hx).symm) (fun j o=>h3 j o) hv;obtain⟨u,hu,_⟩:=Kn J hs;refine WE s (R4 J fun x e=>?_);subst e;refine Nr (φ:=fun S=>S) (fun T S=>gd aM (cO aM i) T=some true/\∀W,kD P (cO aM i) (gO P (cO aM i) (H i)) T S (·=W)->W=x) (fun T S K B n h=>?_) (fun _ _ _=>oJ.id _) R1
     (fun r m=>⟨c r m,Fr.id _,fun T S u S' n O=>⟨?_,fun W J=>?_⟩⟩) ⟨n,fun W Hk=>?_⟩ m
    ·rw[og,n.1]at h;obtain⟨y,hy,hk⟩:=Fd (Ow s h);rw[n.2 y hy]at hk;exact hk
    ·rw[<-qK (yg (c r m).apart u T)];exact n.1
    ·exact n.2 W (Km E (fun x hx=>((yg (c r m).apart u T).A7 x hx).symm) (fun j o=>O j (Q r j m o)) J)
    ·obtain⟨y,hy,e⟩:=Kn Hk hs;obtain⟨z,hz,e2⟩:=Kn J hs;rw[<-e,<-e2];exact hy.akQ hz
   |new j=>
    obtain⟨T',S',K,B,q,F,_⟩:=p (fun r j m o=>by rw[s]at o;simp[mW]at o);rw[og,<-qK F,n]at q;have D:∃L,gO P (cO aM i) (H i)= .n L/\L=j:=by
     revert s;show gC (gO P (cO aM i) (H i))= .new j->_;generalize gO P (cO aM i) (H i)=g;intro s;cases g <;> simp only[gC]at s <;> first|exact⟨_,rfl,by simpa using s⟩|cases s
    obtain⟨L,D,rfl⟩:=D;unfold nu at q⊢;rw[D]at q⊢;simp only at q⊢;rw[<-fW F]at q;split at q
    ·rename_i ob f Y
     intro b;have hb:=q b;split at hb
     ·rename_i v hv
      refine Nr (φ:=fun S=>f_ S L (mkAtom b ob)) (fun T S=>gd aM (cO aM i) T=some true/\yG P (execOp (ev T) (cO aM i))=some (ob,f)/\gt S L= .d8) (fun T S K B n h=>?_) (fun _ _ n=>oJ.oy n.2.2 _) R1
       (fun r m=>⟨c r m,Fr.oy (fun A=>?_) _,fun T S u S' n O=>⟨?_,?_,?_⟩⟩) ⟨n,Y,C L s⟩ m
      ·rw[og,n.1]at h;unfold nu at h;rw[D]at h;simp only[n.2.1]at h;have:=h b;rw[hv]at this;exact this
      ·have hp:=(c r m).pass;rw[s]at hp;revert hp A;cases t:cl P H aM r <;> intro A hp <;> simp only[zq]at hp <;> simp only[uG,mW,jd,dn,List.nil_append]at A
       ·exact uO hp L A aL
       ·simp only[List.mem_singleton]at A;subst A;simp at hp
       ·exact uO hp L aL A
      ·rw[<-qK (yg (c r m).apart u T)];exact n.1
      ·rw[<-fW (yg (c r m).apart u T)];exact n.2.1
      ·rw[O L (fun A=>?_)];exact n.2.2;have hp:=(c r m).pass;rw[s]at hp;revert hp A;cases t:cl P H aM r <;> intro A hp <;> simp only[zq]at hp <;> simp only[jd]at A
       ·simp at A
       ·simp only[List.mem_singleton]at A;subst A;simp at hp
       ·exact uO hp L aL A
     ·exact hb.elim
    ·exact q.elim
   |pK d9=>
    have hq:∀r,r∈R1->∃l,cl P H aM r= .mV l/\∀j,j∈l->j∉d9:=fun r m=>by
     have hp:=(c r m).pass;rw[s]at hp;cases t:cl P H aM r with
     |mV l=>rw[t]at hp;exact⟨l,rfl,fun j o=>uO hp j o⟩
     |new j=>rw[t]at hp;cases hp
     |pK l=>rw[t]at hp;cases hp
    clear p C R hs hd
    induction R1 generalizing T S with
    |nil=>
     have V:nx P N aM (cO aM i) (H i) T S _ _:=m;rw[og,n]at V;exact V
    |cons r R1 ih=>
     have hp:=c r (lC ..);obtain⟨l,hl,Z⟩:=hq r (lC ..);rw[List.cons_append,Fh]at m;have step:∀u,nF P N H aM ms (R1++i::R2) (dD N (cO aM r).dst u T) S k kp->
       (∀v S',eW S S' d9->nF P N H aM ms (R1++R2) (dD N (cO aM i).dst v (dD N (cO aM r).dst u T)) S' k kp->nF P N H aM ms (r::(R1++R2)) (dD N (cO aM i).dst v T) S' k kp)->
       nu P N (cO aM i) (H i) T S (fun T S=>nF P N H aM ms (r::(R1++R2)) T S k kp) (match sL ms i R2 with|true=>fun X _ S=>∀T,kp X T S|false=>fun _ _ _=>False):=by
      intro u hk U;have ha:=yg (N:=N) hp.apart u T;have:=ih (T:=dD N (cO aM r).dst u T) (S:=S) (fun r m=>c r (pO _ m)) hk (by rw[<-qK ha];exact n) (fun r m=>hq r (pO _ m));refine Wh (φ:=fun S=>S) E (fun x hx=>(ha.A7 x hx).symm) (Fr.id _) (oJ.id _) this (fun v S' O M=>U v S' (O.mono fun j o=>?_) M) (fun X S' M=>?_)
      ·have:jd (cl P H aM i)=d9:=by rw[s];rfl
       rw[<-this];exact o
      ·revert M;cases sL ms i R2 <;> exact fun h=>h
     rw[og]at m;cases G:gd aM (cO aM r) T with
     |none=>rw[G]at m;exact m.elim
     |some met=>
      cases met with
      |false=>
       rw[G]at m;refine step undef m fun v S' O M=>?_;rw[Fh,og,<-qK (ps.put hp.apart v T),G];rw[ON (x:=(cO aM i).dst) (y:=(cO aM r).dst) (fun d hd=>(Oper.apart_spec hp.apart).2.1 d hd)]at M;exact M
      |true=>
       rw[G]at m;obtain⟨u,hu,hk⟩:=Fd (Ow hl m);refine step u hk fun v S' O M=>?_;rw[Fh,og,<-qK (ps.put hp.apart v T),G];refine WE hl ?_;have x1:mW (gC (gO P (cO aM r) (H r)))=l:=by
        have:gC (gO P (cO aM r) (H r))= .mV l:=hl;rw[this];rfl
       refine R4 (Km hp.Sm (fun x hx=>(ps.put hp.apart v T).A7 x hx) (fun j o=>?_) hu) (fun x e=>?_)
       ·rw[x1]at o;exact(O j (Z j o)).symm
       ·subst e;rw[ON (x:=(cO aM i).dst) (y:=(cO aM r).dst) (fun d hd=>(Oper.apart_spec hp.apart).2.1 d hd)]at M;exact M
theorem adC:∀(a:List Edge),(a.foldr (fun e s=>bif Region.binds .any e then (2^e.on|||ef.getD e.on 0)|||s else s) 0).testBit r=true->
  ∃e,e∈a/\Region.binds .any e=true/\(e.on=r\/(ef.getD e.on 0).testBit r=true):=by
 intro a
 induction a with
 |nil=>intro h;simp at h
 |cons e a b=>
  intro h;simp only[List.foldr_cons]at h;grind
theorem agk:∀(a:List Edge){e:Edge},e∈a->Region.binds .any e=true->(a.foldr (fun e s=>bif Region.binds .any e then (2^e.on|||ef.getD e.on 0)|||s else s) 0).testBit e.on=true:=by
 intro a
 induction a with
 |nil=>intro e h;cases h
 |cons x a c=>
  intro e h b;simp only[List.foldr_cons];grind
def SS(aM:Array Oper)(eE:Array Bool):Prop:=∀i o,aM[i]?=some o->eE.getD i false=true->∀e,e∈o.after.toList->Region.binds .any e=true->eE.getD e.on false=true
theorem agl(eE:Array Bool)(A:SS aM eE):∀(l:List Oper)(ef:List Nat),(∀j,l[j]?=aM[ef.length+j]?)->
  (∀i,i<ef.length->∀o,aM[i]?=some o->(∀e,e∈o.after.toList->Region.binds .any e=true->eE.getD e.on false=true)->∀r,(ef.getD i 0).testBit r=true->eE.getD r false=true)->
  ∀i o,aM[i]?=some o->(∀e,e∈o.after.toList->Region.binds .any e=true->eE.getD e.on false=true)->∀r,((kU l ef).getD i 0).testBit r=true->i<ef.length+l.length->eE.getD r false=true:=by
 intro l
 induction l with
 |nil=>
  intro ef _ a i o s b r v hi;exact a i ae o s b r v
 |cons o l C=>
  intro ef hl a i D s b r v hi;refine C (ef++[Og o ef]) (fun j=>?_) (fun w B o2 d c x f=>?_) i D s b r v (by grind)
  ·have:=hl (j+1);grind
  ·by_cases q:w<ef.length
   ·refine a w q o2 d c x ?_;grind
   ·have p:w=ef.length:=by grind
    subst p;have t:some o=aM[ef.length]?:=by simpa using hl 0
    rw[<-t]at d;simp only[Option.some.injEq]at d;subst d;rw[ft,jb (bZ _)]at f;simp only[Nat.sub_self,List.getElem?_cons_zero,Option.getD_some]at f;obtain⟨e,y,z,n⟩:=adC _ f;have g:=c e y z;rcases n with rfl|n
    ·exact g
    ·by_cases u:e.on<ef.length
     ·have k:∃m,aM[e.on]?=some m:=by
       grind
      obtain⟨m,h⟩:=k;exact a e.on u m h (A e.on m h g) x n
     grind
theorem agj(k:aM[i]?=some o){e:Edge}(g:e∈o.after.toList)(f:Region.binds .any e=true):((kU aM.toList []).getD i 0).testBit e.on=true:=by
 have key:∀(l:List Oper)(ef:List Nat),(∀j,l[j]?=aM[ef.length+j]?)->ef.length<=i->i<ef.length+l.length->((kU l ef).getD i 0).testBit e.on=true:=by
  intro l
  induction l with
  |nil=>intro ef _ d b;simp at b;omega
  |cons x l c=>
   intro ef hl d b;simp only[kU];by_cases hi:i=ef.length
   ·subst hi;have hx:x=o:=by have:=hl 0;grind
    subst hx;have a:∀(l:List Oper)(ef:List Nat)(j:Nat),j<ef.length->(kU l ef).getD j 0=ef.getD j 0:=by
     intro l
     induction l with
     |nil=>intro ef j _;rfl
     |cons y l c=>
      intro ef j h;simp only[kU];grind
    rw[a l _ _ aL];rw[ft,jb (bZ _)];simp only[Nat.sub_self,List.getElem?_cons_zero,Option.getD_some];exact agk _ g f
   ·refine c (ef++[Og x ef]) (fun j=>?_) (by simp;omega) (by grind);have:=hl (j+1);simp only[List.getElem?_cons_succ]at this;rw[this];simp;grind
 grind
theorem aho(h:wO P H aM ms (R1++i::R2)=true):(∀r,r∈R1->By P H aM ms r i=true)/\wO P H aM ms (R1++R2)=true/\(∀r,r∈R2->By P H aM ms i r=true):=by
 induction R1 with
 |nil=>
  simp only[List.nil_append,wO,gX,List.all_eq_true]at h⊢;grind
 |cons r R1 a=>
  simp only[List.cons_append,wO,gX,List.all_eq_true]at h⊢;grind
structure K_(P:Program)(N:Nat)(H:Nat->OH)(aM:Array Oper)(ds:List Deferred)(k:Tm->St->Prop)(kp:List PanicEntry->Tm->St->Prop)(eE:Array Bool)(l:List Nat)(T:Tm)(S:St)(I:a8)(a:Act)(w:World):Prop where
 size:eE.size=aM.size
 mem:∀i,i<aM.size->(i∈l↔eE.getD i true=false)
 lt:∀i,i∈l->i<aM.size
 ag5:l.Nodup
 Ub:SS aM eE
 Wn:wO P H aM (kU aM.toList []) l=true
 run:nF P N H aM (kU aM.toList []) l T S k kp
 fresh:∀i j,i∈l->cl P H aM i= .new j->gt S j= .d8
 b_:dY N T a
 defers:a.defers=ds
 Fj:Sat I S w
theorem aaQ{I0:a8}{w0:World}
  (E:∀i,i<aM.size->tC (cO aM i)=false) (R:∀(i:Nat)(o:Oper),aM[i]?=some o->∀e:Edge,e∈o.after.toList->Region.binds .any e=true->e.on<aM.size)
  (U:∀i,i<aM.size->((kU aM.toList []).getD i 0).testBit i=false)
  (hk:∀G w',e9 N I0 w0 ds k G w'->Q .normal G w') (hQ:∀V G w',e9 N I0 w0 ds (kp V) G w'->Q (.panic V) G w'):
  ∀(g:Nat){eE:Array Bool}{l:List Nat}{T:Tm}{S:St}{I:a8}{a:Act}{w:World},l.length<=g->a8.le I0 I->cv w0 w->K_ P N H aM ds k kp eE l T S I a w->wpAny P .any aM Q g eE a w:=by
 intro g;have head:∀{eE:Array Bool}{r:Nat}{l:List Nat}{T:Tm}{S:St}{I:a8}{a:Act}{w:World},K_ P N H aM ds k kp eE (r::l) T S I a w->r∈Region.ready .any aM eE:=by
  intro eE r l T S I a w D;have c:=D.lt r (lC ..);have hrl:=(D.mem r c).1 (lC ..);have n:aM[r]?=some aM[r]:=by simp[c]
  unfold Region.ready;refine List.mem_filter.2 ⟨List.mem_range.2 c,?_⟩;simp only[hrl,Bool.not_false,Bool.true_and,n,Option.map_some,Option.getD_some];rw[<-Array.all_toList,List.all_eq_true];intro e O;cases A:Region.binds .any e with
  |false=>rfl
  |true=>
   simp only[Bool.not_true,Bool.false_or];have m:=R r _ n e O A;have d:=agj n O A;cases hl:eE.getD e.on true with
   |true=>
    have:e.on<eE.size:=by rw[D.size];exact m
    simpa[n0,this]using hl
   |false=>
    exfalso;have p:=(D.mem e.on m).2 hl;rcases List.mem_cons.1 p with e1|p
    ·rw[e1,U r c]at d;cases d
    ·have hp:=D.Wn;simp only[wO,gX,List.all_eq_true]at hp;have:=hp.1 _ p;simp only[By,gX,Bool.not_eq_true']at this;rw[this.1.1]at d;cases d
 have done:∀{eE:Array Bool}{l:List Nat}{T:Tm}{S:St}{I:a8}{a:Act}{w:World},a8.le I0 I->cv w0 w->K_ P N H aM ds k kp eE l T S I a w->Region.ready .any aM eE=[]->Q .normal a w:=by
  intro eE l T S I a w q f D h0;cases l with
  |nil=>exact hk _ _ ⟨T,S,I,D.b_,D.defers,q,D.Fj,f,D.run⟩
  |cons r l=>have:=head D;rw[h0]at this;cases this
 induction g with
 |zero=>
  intro eE l T S I a w hl q f D;have:l=[]:=List.length_eq_zero_iff.1 (Nat.le_zero.1 hl);subst this;have c:Region.ready .any aM eE=[]:=by
   unfold Region.ready;refine List.filter_eq_nil_iff.2 fun i hi=>?_;have hi':=List.mem_range.1 hi;have:eE.getD i true=true:=by
    cases Y:eE.getD i true with
    |true=>rfl
    |false=>have:=(D.mem i hi').2 Y;cases this
   simp[this]
  exact⟨c,done q f D c⟩
 |succ g ih=>
  intro eE l T S I a w hl q f D;refine⟨done q f D,fun i hi=>?_⟩;obtain⟨hi1,Z⟩:=List.mem_filter.1 hi;have m:=List.mem_range.1 hi1;have n:aM[i]?=some aM[i]:=by simp[m]
  have hoa:cO aM i=aM[i]:=by simp[cO,n0,n]
  simp only[gX,Bool.not_eq_true',n,Option.map_some,Option.getD_some]at Z;obtain⟨hnl,L⟩:=Z;rw[<-Array.all_toList,List.all_eq_true]at L;have C:∀e,e∈aM[i].after.toList->Region.binds .any e=true->eE.getD e.on false=true:=fun e O A=>by
   have:=L e O;rw[A]at this;simpa using this
  have K:=(D.mem i m).2 hnl;obtain⟨R1,R2,rfl⟩:=List.append_of_mem K;obtain⟨U6,U7,hp3⟩:=aho D.Wn;have hsz:∀r,r<aM.size->eE.getD r true=false->eE.getD r false=false:=fun r c h=>by
   have:r<eE.size:=by rw[D.size];exact c
   simpa[n0,this]using h
  have d:∀r,r∈R1->((kU aM.toList []).getD i 0).testBit r=false:=fun r c=>by
   cases A:((kU aM.toList []).getD i 0).testBit r with
   |false=>rfl
   |true=>
    have F:r∈R1++i::R2:=n4 _ c;have M:=D.lt r F;have:=agl eE D.Ub aM.toList [] (fun j=>aL) (fun i hi=>by simp at hi) i aM[i] n C r A (by simpa using m);rw[hsz r M ((D.mem r M).1 F)]at this;cases this
  have B:∀r,r∈R1->FX P H aM (kU aM.toList []) i r:=fun r c=>by
   have:=U6 r c;simp only[By,gX,d r c,Bool.false_or]at this;exact⟨d r c,this.2.1,this.2.2,E r (D.lt r (n4 _ c))⟩
  have hmv:=move (kp:=kp) (E i m) B (fun j s=>D.fresh i j K s) D.run D.b_ D.defers D.Fj;have x1:(R1++R2).Nodup/\i∉R1++R2:=by
   have:=D.ag5;rw[List.nodup_append]at this;obtain⟨h1,X,h3⟩:=this;rw[List.nodup_cons]at X;refine⟨List.nodup_append.2 ⟨h1,X.2,fun a ha b A=>h3 a ha b (pO _ A)⟩,fun p=>?_⟩;rcases List.mem_append.1 p with p|p
   ·exact h3 i p i (lC ..) rfl
   ·exact X.1 p
  unfold wpOp;rw[n];simp only;have x0:nx P N aM (cO aM i) (H i) T S (fun T' S'=>(∀r j,r∈R1++R2->cl P H aM r= .new j->gt S' j= .d8)/\nF P N H aM (kU aM.toList []) (R1++R2) T' S' k kp)
    (match sL (kU aM.toList []) i R2 with|true=>fun V _ S=>∀T,kp V T S|false=>fun _ _ _=>False):=by
   refine Ox (φ:=fun S=>S) (E i m) (fun _ _=>rfl) (Fr.id _) (oJ.id _) hmv (fun v S' W Y=>⟨fun r j c s=>?_,Y⟩) (fun _ _ h=>h);have F:r∈R1++i::R2:=by
    rcases List.mem_append.1 c with c|c
    ·exact n4 _ c
    ·exact List.mem_append_right _ (pO _ c)
   rw[W j ?_]
   ·exact D.fresh r j F s
   intro p;rcases List.mem_append.1 c with c|c
   ·
    have y:=(B r c).pass;rw[s]at y;have u:j∈jd (cl P H aM i):=p;revert y u;cases cl P H aM i <;> intro y u <;> simp only[zq]at y <;> simp only[jd]at u
    ·simp at u
    ·simp only[List.mem_singleton]at u;subst u;simp at y
    ·cases y
   ·
    have:=hp3 r c;simp only[By,gX]at this;have hu:=this.1.2;have hjr:gC (gO P (cO aM r) (H r))= .new j:=s;rw[hjr]at hu;exact uO hu j aL (List.mem_append_right _ p)
  have:=Wi (next:=wpAny P .any aM Q g (eE.setIfInBounds i true)) (Q:=Q) x0 D.b_ D.defers D.Fj (fun G w' z=>?_) (fun V G w' z=>?_)
  ·rw[hoa]at this;exact this
  ·obtain⟨T',S',J,h1,X,h3,h4,h5,hf,h6⟩:=z;refine ih (l:=R1++R2) (T:=T') (S:=S') (I:=J) (by simp at hl⊢;omega) (a8.le_trans q h3) (f.trans h5) ?_;refine⟨by simpa using D.size,fun j s=>?_,fun j s=>D.lt j ?_,x1.1,?_,U7,h6,hf,h1,X,h4⟩
   ·have hjs:j<eE.size:=by rw[D.size];exact s
    by_cases t:j=i
    ·subst t;refine⟨fun p=>absurd p x1.2,fun Y=>?_⟩;simp[n0,hjs]at Y
    ·have p:=D.mem j s;have e1:(eE.setIfInBounds i true).getD j true=eE.getD j true:=by
      simp[n0,Array.getElem?_setIfInBounds,show ¬i=j from fun e=>t e.symm]
     rw[e1,<-p];simp[t]
   ·rcases List.mem_append.1 s with s|s
    ·exact n4 _ s
    ·exact List.mem_append_right _ (pO _ s)
   ·intro j o W hl2 e O A;have mono:∀x,eE.getD x false=true->(eE.setIfInBounds i true).getD x false=true:=fun x hx=>by
     by_cases x2:i=x
     ·subst x2;have:i<eE.size:=by rw[D.size];exact m
      simp[n0,this]
     ·simpa[n0,Array.getElem?_setIfInBounds,x2]using hx
    by_cases t:i=j
    ·subst t;rw[n]at W;simp only[Option.some.injEq]at W;subst W;exact mono _ (C e O A)
    ·refine mono _ (D.Ub j o W ?_ e O A);simpa[n0,Array.getElem?_setIfInBounds,t]using hl2
  ·refine hQ V G w' ((z.from q f).mono fun T S h=>?_);revert h;cases sL (kU aM.toList []) i R2
   ·exact fun h=>h.elim
   ·exact fun h=>h T
theorem ag6:∀(n:Nat)(l:List Nat),l.Nodup->(∀x,x∈l->x<n)->l.length<=n:=by
 intro n
 induction n with
 |zero=>
  intro l _ h;cases l with
  |nil=>simp
  |cons x r=>have:=h x (lC ..);omega
 |succ n a=>
  intro l hn h;by_cases c:n∈l
  ·have b:=a (l.erase n) (hn.erase n) fun x hx=>by
    grind
   grind
  grind
theorem Nq
  (hl:(Oz P H aM l&&US S (Oh P H aM l))=true) (E:nF P N H aM (kU aM.toList []) l T S k kp) (d:dY N T a) (hd:a.defers=ds) (hs:Sat I S w)
  (hk:∀b w',e9 N I w ds k b w'->Q .normal b w') (z:∀m b w',e9 N I w ds (kp m) b w'->Q (.panic m) b w'):
  wpAny P .any aM Q aM.size (Array.replicate aM.size false) a w:=by
 simp only[Oz,gX]at hl;obtain⟨⟨⟨⟨⟨n,t⟩,u⟩,p⟩,v⟩,y⟩:=hl;have c:=HJ t;have r:l.length=aM.size:=by simpa using u
 rw[List.all_eq_true]at n p;have g:∀i,i∈l->i<aM.size:=fun i hi=>by
  have:=p i hi;simp only[gX]at this;have:=this.1;rw[Nat.blt_eq]at this;omega
 have q:∀i,i<aM.size->i∈l:=by
  intro i hi;refine Classical.byContradiction fun h=>?_;have:=ag6 aM.size (i::l) (List.nodup_cons.2 ⟨h,c⟩) fun x hx=>by
   grind
  grind
 have s:∀i,i<aM.size->cO aM i∈aM.toList:=fun i hi=>by
  have:cO aM i=aM[i]:=by simp[cO,n0,hi]
  simp[*]
 refine aaQ (k:=k) (kp:=kp) (H:=H) (I0:=I) (w0:=w) (fun i hi=>?_) (fun i o F e B A=>?_) (fun i hi=>?_) hk z aM.size (l:=l) (T:=T) (S:=S) (I:=I) ae (a8.le_refl I) (cv.refl w)
  ⟨aL,fun i hi=>?_,g,c,fun i o _ f=>?_,v,E,fun i j hi C=>?_,d,hd,hs⟩
 ·grind
 ·have hi:i<aM.size:=by
   grind
  have:=n o (by grind);simp only[gX,List.all_eq_true]at this;have:=this.2 e B;rw[A]at this;simp only[Bool.not_true,Bool.false_or]at this;rw[Nat.blt_eq]at this;omega
 ·grind
 ·simp[*]
 ·exfalso;simp[n0,Array.getElem?_replicate]at f;grind
 ·have D:j∈Oh P H aM l:=List.mem_filterMap.2 ⟨i,hi,by
   have:gC (gO P (cO aM i) (H i))= .new j:=C;rw[this]⟩
  have:=List.all_eq_true.1 y j D;grind
end
end
section
open Go
section
variable{P:Program}{N:Nat}
theorem CR(hm:P.follows .mixedOrders=true)(H:jj):∀(c:Code){key:Nat}{T:Tm}{S:St}{K:Exit->Tm->St->Prop}{a:Act}{I:a8}{w:World}{ds:List Deferred}{Q:Exit->Act->World->Prop},
  E P N H c key T S K->dY N T a->a.defers=ds->Sat I S w->(∀e g w',e9 N I w ds (K e) g w'->Q e g w')->c.wp P Q a w:=by
 intro c
 induction c with
 |skip=>
  intro key T S K a I w ds Q h b hd hs f;exact wp_skip (f _ _ _ ⟨T,S,I,b,hd,a8.le_refl I,hs,cv.refl w,h⟩)
 |exit id=>
  intro key T S K a I w ds Q h b hd hs f;exact wp_exit (f _ _ _ ⟨T,S,I,b,hd,a8.le_refl I,hs,cv.refl w,h⟩)
 |ret=>
  intro key T S K a I w ds Q h b hd hs f;exact wp_ret (f _ _ _ ⟨T,S,I,b,hd,a8.le_refl I,hs,cv.refl w,h⟩)
 |seq x y O R=>
  intro key T S K a I w ds Q h b hd hs f;simp only[E]at h;refine wp_seq ?_;split at h
  ·refine O h b hd hs fun e g w' d=>?_;cases e with
   |normal=>
    obtain⟨T',S',J,v,z,A,B,C,h6⟩:=d;exact R h6 v z B fun e a w h=>f e a w (h.from A C)
   |_=>exact f _ _ _ d
  ·rename_i V hV
   have go:∀j:V.X->Prop,(E P N H x key T S fun e T S=>match e with| .normal=>∃x,j x/\ji T (V.lv x)/\aE S (bC (V.st x))|e=>K e T S)->
     (∀x u,j x->E P N H y key (jy u (V.lv x)) (bC (V.st x)) K)->Code.wp P x (Exit.then (Code.wp P y Q) Q) a w:=by
    intro j hx L;refine O hx b hd hs fun e g w' d=>?_;cases e with
    |normal=>
     obtain⟨T',S',J,v,z,A,B,C,x,hp,he,D⟩:=d;obtain⟨J',k,s⟩:=D.h J w' B;exact R (L x T'.z00 hp) (oY v he) z s fun e a w h=>f e a w (h.from (a8.le_trans A k) C)
    |_=>exact f _ _ _ d
   split at h
   ·exact go _ h.1 h.2
   ·obtain⟨_,hx,L⟩:=h;exact go _ hx L
 |cond x c1 c2 ih1 ih2=>
  intro key T S K a I w ds Q h b hd hs f;simp only[E]at h;split at h
  ·rename_i t ht
   have hc:a.eval x= .bool t:=by rw[b.eval];exact ht
   refine wp_cond hc ?_;rcases Br.cases h with⟨rfl,hk⟩| ⟨rfl,hk⟩
   all_goals grind
  grind
 |block id c M=>
  intro key T S K a I w ds Q h b hd hs f;simp only[E]at h;refine wp_block (M h b hd hs fun e g w' d=>?_);cases e with
  |exit i=>
   simp only[Exit.inBlock];by_cases hi:i=id
   ·subst hi;simp only[if_true];refine f _ _ _ (d.mono fun T S h=>?_);simpa using h
   ·simp only[hi,if_false];refine f _ _ _ (d.mono fun T S h=>?_);simpa[tf hi]using h
  |_=>exact f _ _ _ d
 |scope c M=>
  intro key T S K a I w ds Q h b hd hs f;simp only[E]at h;refine wp_scope_straight (M h b hd hs fun e g w' d=>?_);cases e with
  |goto l=>
   obtain⟨_,_,_,_,_,_,_,_,h6⟩:=d;grind
  |_=>exact f _ _ _ d
 |loop c M=>
  intro key T S K a I w ds Q h b hd hs f;simp only[E]at h;split at h
  ·grind
  ·rename_i V hV
   have go:∀j:V.X->Prop,(∃x,j x/\ji T (V.lv x)/\aE S (bC (V.st x)))->(∀x u,j x->E P N H c key (jy u (V.lv x)) (bC (V.st x)) fun e T S=>match e with
     | .normal=>∃y,j y/\ji T (V.lv y)/\aE S (bC (V.st y))/\V.mu y<V.mu x
     |e=>K e T S)->Code.wp P (.loop c) Q a w:=by
    rintro j ⟨x0,Z,W,p⟩ m;obtain⟨J0,F,x2⟩:=p.h I w hs;refine wp_loop_ghost (fun n g w'=>∃x u J,V.mu x=n/\j x/\dY N (jy u (V.lv x)) g/\g.defers=ds/\a8.le I J/\Sat J (bC (V.st x)) w'/\cv w w') (V.mu x0)
     ⟨x0,T.z00,J0,rfl,Z,oY b W,hd,F,x2,cv.refl w⟩ ?_
    rintro n g w' ⟨x,u,J,rfl,hp,r,U,k,s,o⟩;refine M (m x u hp) r U s fun e a2 w2 d=>?_;cases e with
    |normal=>
     obtain⟨T',S',J',v,z,A,B,C,y,x1,X,q,Y⟩:=d;obtain⟨J2,G,x3⟩:=q.h J' w2 B;exact⟨V.mu y,Y,y,T'.z00,J2,rfl,x1,oY v X,z,a8.le_trans k (a8.le_trans A G),x3,o.trans C⟩
    |_=>exact f _ _ _ (d.from k o)
   split at h
   ·exact go _ h.1 h.2
   ·obtain⟨_,hx,L⟩:=h;exact go _ hx L
 |region id aM Uo=>
  intro key T S K a I w ds Q h b hd hs f;simp only[E]at h;split at h
  ·exact wp_region (R9 _ h b hd hs (fun a w h=>f _ a w h) (fun ch a w h=>f _ a w h))
  ·exact wp_region_any hm (Nq h.1 h.2 b hd (hs.heap (w':={w with drawn:=w.drawn+1}) rfl) (fun a w h=>f _ a w (h.from (a8.le_refl _) al)) (fun ch a w h=>f _ a w (h.from (a8.le_refl _) al)))
 |_=>intro key T S K a I w ds Q h;exact h.elim
variable{c:Code}{C:aR}{fn:Func}{f:FuncId}
theorem Cr{T:Tm}{a:Act}(h:dY N T a):results fn a.tmps=jG fn T:=by
 unfold results jG;congr 1;congr 1;funext r;cases r with
 |tmp t=>simp only[h.get]
 |cell x t=>simp only[h.get]
theorem abx(s:P.follows .mixedOrders=true){H:jj}{m:List LH}{args:List Value}{S:St}{R:Ending->St->Prop}{I:a8}{w:World}
  (r:P.funcs[f]?=some fn) (q:fn.body=some c) (o:fn.ntmps=N) (hl:args.length<=N) (h:Body P N fn H m c (nh args) S R) (hs:Sat I S w):
  Calls P f ⟨args⟩ w fun e w'=>∃J S',a8.le I J/\Sat J S' w'/\cv w w'/\R e S':=by
 refine calls_of_wp r q ?_;rw[o];refine CR s H c h (Ff args hl) rfl hs fun e a w' d=>?_;obtain⟨T,S',J,n,i,j,g,k,b⟩:=d;have fin:rd P S' (jG fn T) m (fun v=>R (.returned v) S')->a.defers=[]/\∃v,(results fn a.tmps).run P w'= .ok v w'/\∃J S',a8.le I J/\Sat J S' w'/\cv w w'/\R (.returned v) S':=fun b=>by
  obtain⟨v,l,p⟩:=vu g _ _ _ b;exact⟨i,v,by rw[Cr n];omega,J,S',j,g,k,p⟩
 cases e with
 |normal=>exact fin b
 |ret=>exact fin b
 |panic t=>exact⟨i,J,S',j,g,k,b⟩
 |_=>exact b.elim
theorem adx(q:P.follows .mixedOrders=true)(p:P.funcs[f]?=some fn)(n:fn.body=some c)(m:fn.ntmps=N)(hl:∀x,(C.args x).length<=N)
  (H:C.X->ah->jj) (s:List LH)
  (h:∀x F,C.cond x->C.aO x F->Body P N fn (H x F) s c (nh (C.args x)) (bC (C.pre x++[F])) (ar C x F)):kf P f C:=by
 refine⟨fun x F I w o r hs=>?_⟩;refine(abx q p n m (hl x) (h x F o r) hs).mono ?_;rintro e w' ⟨J,S',i,j,b,⟨y,g,rfl,a⟩⟩;obtain⟨l,d,k⟩:=a.h J w' j;exact⟨y,l,g,rfl,a8.le_trans i d,k,b⟩
theorem kf.A3{b:aR}(h':kf P f b)
  (h:∀x F I w,C.cond x->C.aO x F->Sat I (bC (C.pre x++[F])) w->∃a J,a8.le I J/\b.cond a/\b.aO a F/\C.args x=b.args a/\Sat J (bC (b.pre a++[F])) w/\
   ∀k,b.b_ a k->∃y,C.b_ x y/\b.val a k=C.val x y/\aE (bC (b.post a k++[F])) (bC (C.post x y++[F]))):kf P f C:=by
 refine⟨fun x F I w z A hs=>?_⟩;obtain⟨a,J,m,l,n,v,o,B⟩:=h x F I w z A hs;rw[v];refine(h'.h a F J w l n o).mono ?_;rintro e w' ⟨k,q,i,rfl,d,j,c⟩;obtain⟨y,s,t,u⟩:=B k i;obtain⟨r,g,p⟩:=u.h q w' j;exact⟨y,r,s,t,a8.le_trans m (a8.le_trans d g),p,c⟩
end
end
section
open Go
theorem aE.refl(S:St):aE S S:=⟨fun I _ h=>⟨I,a8.le_refl I,h⟩⟩
variable{I:a8}{bG:List Nat}{vs:List Value}{b j k:Nat}{B:Prop}{S S':St}{e t:TypeId}{w:World}
theorem aE.trans{a:St}(h:aE S S')(h':aE S' a):aE S a:=⟨fun I w hs=>by
 obtain⟨J,d,e⟩:=h.h I w hs;obtain⟨K,b,c⟩:=h'.h J w e;exact⟨K,a8.le_trans d b,c⟩⟩
theorem Sat.pick(se:List Nat)(hn:nodupB se=true)(e:bC (se.map (gt S))=S')(h:Sat I S w):Sat I S' w:=by
 subst e;have d:=HJ hn;obtain⟨f,l,g,m⟩:=h.lH;refine⟨⟨fun i b=>∃h:i<se.length,f se[i] b,fun i=>?_,fun i n b c a=>?_,fun i b c=>?_⟩,h.nr⟩
 ·rw[tu,ft];by_cases hi:i<se.length
  ·simp[*]
  ·simp only[fV,pN (Nat.le_of_not_lt hi),Option.map_none,Option.getD_none];trivial
 ·obtain⟨hi,c⟩:=c;obtain⟨j,a⟩:=a;have:=g _ _ _ c a;have k:=List.pairwise_iff_getElem.1 d;grind
 grind
theorem aE.pick(se:List Nat)(hn:nodupB se=true)(e:bC (se.map (gt S))=S'):aE S S':=⟨fun I _ h=>⟨I,a8.le_refl I,h.pick se hn e⟩⟩
theorem aG{t:Bool}{A:Prop}(a:t=true->A)(b:t=false->B):Br t A B:=by
 cases t
 ·exact b rfl
 ·exact a rfl
@[simp] theorem amq (A B:Prop):Br true A B=A:=rfl
@[simp] theorem amp (A B:Prop):Br false A B=B:=rfl
theorem bo{p:Prop}[Decidable p]{A:Prop}(a:p->A)(b:¬p->B):Br (decide p) A B:=aG (fun e=>a (jS e)) (fun e=>b (G_ e))
@[simp] theorem amY (b o:Nat):ed ⟨b,o,none⟩ b:=al
theorem Nk{h:Hp}{fr:Nat×Nat}(a:h b=some (.cells ⟨vs⟩ t fr))(o:Nat):uM h ⟨b,o,none⟩=vs[o]?:=by
 unfold uM;simp[a]
theorem aQ.cells{b o:Nat}{vs:List Value}{t:TypeId}{v:Value}(h:vs[o]?=some v):aQ (.cells b vs t) ⟨b,o,none⟩ v:=⟨fun I h' c _ a=>by
 rw[Nk a.2];exact h⟩
theorem aQ.rest(e:j∉bG){a:Addr}{v:Value}(h:aQ (gt S j) a v):aQ (.du (rest S bG)) a v:=⟨fun I h' o d c=>by
 obtain⟨f,b,_,_⟩:=c;have:=b j;rw[He]at this;simp only[e,if_false]at this;exact h.h I h' _ d this⟩
theorem aQ.sub{A B:ah}(hs:Sub A B){a:Addr}{v:Value}(h:aQ A a v):aQ B a v:=⟨fun I h' o d c=>by
 obtain⟨e,b⟩:=hs I h' o c;exact h.h I h' e d b⟩
def c_(A:ah)(a:Addr)(ys:List Value):Prop:=∀j u,ys[j]?=some u->aQ A (a.add j) u
theorem c_.sub{A B:ah}(hs:Sub A B){a:Addr}{ys:List Value}(h:c_ A a ys):c_ B a ys:=fun j u b=>(h j u b).sub hs
theorem pE(b o j:Nat):(⟨b,o,none⟩:Addr).add j=⟨b,o+j,none⟩:=by
 unfold Addr.add;simp[*]
theorem c_.rest(b:j∉bG){a:Addr}{ys:List Value}(h:c_ (gt S j) a ys):c_ (.du (rest S bG)) a ys:=fun i u hi=>(h i u hi).rest b
theorem c_.cells{b o:Nat}{vs ys:List Value}{t:TypeId}(h:∀j u,ys[j]?=some u->vs[o+j]?=some u):c_ (.cells b vs t) ⟨b,o,none⟩ ys:=fun j u a=>by
 rw[pE];exact aQ.cells (h j u a)
structure Row where
 a:Option Addr
 n:Nat
 cap:Nat
 A:ah
def Row.v(r:Row):Value:=.slice r.a r.n r.cap
inductive bz(e:TypeId)(k:Nat)(cs:List Value):Row->Prop
 |nil (h:cs=[]):bz e k cs ⟨none,0,0,.d8⟩
 |fU (b n cap:Nat) (sp:List Value) (hl:cs.length=n*k) (hs:(cs++sp).length=cap*k) (hn:n<=cap):bz e k cs ⟨some ⟨b,0,none⟩,n,cap,.cells b (cs++sp) e⟩
theorem bz.len{cs:List Value}{r:Row}(h:bz e k cs r):cs.length=r.n*k:=by
 cases h with
 |nil h=>subst h;simp
 |fU b n cap sp hl hs hn=>exact hl
theorem bz.le{cs:List Value}{r:Row}(h:bz e k cs r):r.n<=r.cap:=by
 cases h with
 |nil h=>exact bZ _
 |fU b n cap sp hl hs hn=>exact hn
def dL:Row:=⟨none,0,0,.d8⟩
section
variable{P:Program}
theorem Sat.setRow(h:Sat I S w){CH:List Value}(d:gt S j= .cells b vs t):Sat I (f_ S j (.cells b CH t)) (w.setRow b ⟨CH⟩):=by
 have e:=h.cells d;refine h.write (b:=b) (fun o a=>by rw[d]at a;exact a.1) (fun c f=>setRow_other w b c _ f) (by simp[*]) (fun o a=>?_);rw[d]at a;exact⟨a.1,setRow_heap w b _ _ t _ e⟩
theorem Sat.alloc(h:Sat I S w)(j:Nat)(cs:Array Value)(t:TypeId):Sat I (f_ S j (.cells w.heap.size cs.toList t)) (w.drew.alloc (.cells cs t)):=by
 have:=(h.heap (w':=w.drew) rfl).new j (.cells cs t);exact this
theorem c_.cell(h:Sat I S w){a:Addr}{ys:List Value}(hs:c_ (gt S j) a ys):∀i u,ys[i]?=some u->w.cell? (a.add i)=some u:=fun i u hi=>h.look (hs i u hi)
theorem Am(A B F:ah):f_ (bC [A,F]) 0 B=bC [B,F]:=rfl
structure pu where
 r:Row
 cs:List Value
 a:Option Addr
 m:Nat
 c:Nat
 ys:List Value
def dm(e:TypeId)(k bytes:Nat):aR where
 X:=pu
 Y:=Row
 args x:=[.slice x.r.a x.r.n x.r.cap,.slice x.a x.m x.c]
 pre x:=[x.r.A]
 cond x:=bz e k x.cs x.r/\x.ys.length=x.m*k/\(∀u∈x.ys,u.oneCell'=true)/\(x.r.n+x.m)*bytes<=140737488355328/\x.r.n+x.m<=9223372036854775807/\(x.a=none->x.m=0/\x.c=0)
 aO x F:=∀a,x.a=some a->c_ F a x.ys
 b_ x r:=bz e k (x.cs++x.ys) r/\r.n=x.r.n+x.m/\(x.m=0->r=x.r)
 val _ r:=.returned r.v
 post _ r:=[r.A]
 eT _ _ _ hs h a b:=(h a b).sub hs
theorem jN{o:Oper}{s x:Operand}{d:TypeInfo}{z:Value}(k bytes:Nat)(X:o.op= .call {callee:=.builtin .append,args:=#[s,x],argTypes:=#[t,t]})
  (O:P.underlying t=some (.slice e)) (hi:P.info? e=some d) (Z:d.zero=some z) (hk:d.size=k) (hb:d.bytes=bytes) (N:z.cells.size=k) (hk0:0<k):e_ P o (dm e k bytes):=by
 refine⟨fun x F I w ρ Q hc Y hs=>?_⟩;obtain⟨r,cs,a,m,c,ys⟩:=x;obtain⟨l,f,M,B,G,E⟩:=hc;dsimp only at l f M B G E;simp only[X,Op.operands,Call.operands,dm]at Q;have R:ρ s= .slice r.a r.n r.cap/\ρ x= .slice a m c:=by simpa using Q
 obtain⟨U,V⟩:=R;have fW:∀w',(execOp ρ o).run P w'=((Builtin.append_ #[t,t] o.type #[.slice r.a r.n r.cap,.slice a m c]).run P w').andThen fun v w2=>.ok (.value v) w2:=by
  intro w';simp[execOp,X,resolve,invoke,builtin,U,V]
 subst hk;subst hb;by_cases K:m=0
 ·subst K;have hy:ys=[]:=List.eq_nil_of_length_eq_zero (by simpa using f);subst hy;refine⟨r,I,w,r.v,⟨by simpa using l,rfl,fun _=>rfl⟩,?_,rfl,a8.le_refl I,hs,cv.refl w⟩;have S:=l.le;rw[fW];cases l <;> cases a <;> simp[Builtin.append_,run_underlying O,sizeOf,typeInfo,hi,Builtin.lenOf,Builtin.firstCells,loadCells,loadCellsFrom,storeCells,S,Row.v]
 obtain⟨y,rfl⟩:∃y,a=some y:=by
  cases a with
  |none=>exact absurd (E rfl).1 K
  |some y=>exact⟨y,rfl⟩
 have L:c_ F y ys:=Y y rfl;have q:∀i u,ys[i]?=some u->w.cell? (y.add i)=some u:=c_.cell hs (j:=1) (show c_ (gt (bC [r.A,F]) 1) y ys from L);dsimp only[dm,List.cons_append,List.nil_append]at hs;clear Y Q;cases l with
 |nil h=>
  subst h;have p:=run_append_nil (P:=P) w t o.type e d z O hi Z y m c ys f q ae (by dsimp only at G;omega) (by dsimp only at B;simp only[hU]at B;omega);refine⟨⟨some ⟨w.heap.size,0,none⟩,m,grownCap w m 0 e,.cells w.heap.size (ys++(Builtin.zeroCells z.cells (grownCap w m 0 e-m)).toList) e⟩,I,w.drew.alloc (.cells (ys.toArray++Builtin.zeroCells z.cells (grownCap w m 0 e-m)) e),_,⟨.fU _ _ _ _ ?_ ?_ (grownCap_ge w m 0 e),?_,?_⟩,?_,rfl,a8.le_refl I,?_,al⟩
  ·simpa using f
  ·have:=grownCap_ge w m 0 e;simp only[List.nil_append,dJ,Array.length_toList,size_zeroCells,N,f,<-Nat.add_mul];congr 1;omega
  ·simp
  ·intro e;exact absurd e K
  ·left;rw[fW,p];rfl
  ·have:=hs.alloc 0 (ys.toArray++Builtin.zeroCells z.cells (grownCap w m 0 e-m)) e;simpa[dm,Am]using this
 |fU b n cap sp hl H hn=>
  have C:w.heap[b]?=some (.cells ⟨cs++sp⟩ e (0,0)):=hs.cells (j:=0) rfl;by_cases g:n+m<=cap
  ·have D:n*d.size+ys.length<=(⟨cs++sp⟩:Array Value).size:=by
    show n*d.size+ys.length<=(cs++sp).length;rw[f,H,<-Nat.add_mul];exact Nat.mul_le_mul_right _ g
   have p:=run_append_room (P:=P) w t o.type e d O hi b n cap ⟨cs++sp⟩ C y m c ys f q M g D;have A:(cs++sp).take (n*d.size)=cs:=by rw[<-hl];exact List.take_left
   have J:(cs++ys++(cs++sp).drop (n*d.size+ys.length)).length=cap*d.size:=by
    simp only[dJ,List.length_drop]at D H⊢;rw[hl]at H⊢;have:n*d.size+ys.length<=cap*d.size:=by rw[f,<-Nat.add_mul];exact Nat.mul_le_mul_right _ g
    omega
   refine⟨⟨some ⟨b,0,none⟩,n+m,cap,.cells b (cs++ys++(cs++sp).drop (n*d.size+ys.length)) e⟩,I,w.setRow b ⟨cs++ys++(cs++sp).drop (n*d.size+ys.length)⟩,_,⟨.fU _ _ _ _ ?_ J g,rfl,fun e=>absurd e K⟩,?_,rfl,a8.le_refl I,?_,al⟩
   ·rw[dJ,hl,f,Nat.add_mul]
   ·left;rw[fW,p];simp only[A];rfl
   ·have:=hs.setRow (j:=0) (b:=b) (vs:=cs++sp) (t:=e) (CH:=cs++ys++(cs++sp).drop (n*d.size+ys.length)) rfl;simpa[dm,Am,A]using this
  ·have holds:∀j v,cs[j]?=some v->w.cell? ((⟨b,0,none⟩:Addr).add j)=some v:=by
    intro j v W;have T:=(jq.1 W).1;rw[pE,A1 (b:=b) al C];simp only[hU];rw[kq T];exact W
   have p:=run_append_grow (P:=P) w t o.type e d z O hi Z ⟨b,0,none⟩ n cap cs hl holds y m c ys f q ae (by dsimp only at G;omega) (growslice_fits ae B);refine⟨⟨some ⟨w.heap.size,0,none⟩,n+m,grownCap w (n+m) cap e,.cells w.heap.size (cs++ys++(Builtin.zeroCells z.cells (grownCap w (n+m) cap e-(n+m))).toList) e⟩,I,w.drew.alloc (.cells (cs.toArray++ys.toArray++Builtin.zeroCells z.cells (grownCap w (n+m) cap e-(n+m))) e),_,⟨.fU _ _ _ _ ?_ ?_ (grownCap_ge w (n+m) cap e),rfl,fun e=>absurd e K⟩,?_,rfl,a8.le_refl I,?_,al⟩
   ·rw[dJ,hl,f,Nat.add_mul]
   ·have:=grownCap_ge w (n+m) cap e;simp only[dJ,hl,f,Array.length_toList,size_zeroCells,N,<-Nat.add_mul];congr 1;omega
   ·left;rw[fW,p];rfl
   ·have:=hs.alloc 0 (cs.toArray++ys.toArray++Builtin.zeroCells z.cells (grownCap w (n+m) cap e-(n+m))) e;simpa[dm,Am]using this
end
end
section
open Go
def iu(z:List Value)(n:Nat):List Value:=(List.replicate n z).flatten
theorem SH(z:List Value)(n:Nat):(iu z n).length=n*z.length:=by unfold iu;simp
theorem XT(v:Value)(n:Nat):iu [v] n=List.replicate n v:=by
 unfold iu;simp[*]
theorem alL(z:List Value)(n:Nat):iu z (n+1)=z++iu z n:=by unfold iu;simp[List.replicate_succ]
theorem alJ(z:List Value)(a:z≠[]):∀(n i:Nat),i<n*z.length->(iu z n)[i]?=z[i%z.length]?:=by
 have hp:0<z.length:=List.length_pos_iff.2 a;intro n
 induction n with
 |zero=>intro i h;omega
 |succ n b=>
  intro i h;rw[alL];by_cases hi:i<z.length
  ·rw[kq hi,Nat.mod_eq_of_lt hi]
  ·rw[jb ae,b _ (by grind)];have:i%z.length=(i-z.length)%z.length:=Nat.mod_eq_sub_mod ae;rw[this]
theorem alI(z:Array Value)(n:Nat)(d:z.size≠0):(Builtin.zeroCells z n).toList=iu z.toList n:=by
 have a:z.toList≠[]:=fun e=>d (by rw[<-Array.length_toList,e];rfl);refine List.ext_getElem? fun i=>?_;have b:(Builtin.zeroCells z n).toList.length=n*z.size:=by rw[Array.length_toList,size_zeroCells]
 by_cases hi:i<n*z.size
 ·rw[alJ _ a n i ae];have c:i%z.size<z.size:=Nat.mod_lt _ ae;simp[Builtin.zeroCells,hi,c,getElem!_pos]
 ·rw[pN ae,pN (by rw[SH];grind)]
section
variable{P:Program}
structure FT where
 n:Int
 c:Int
def u0(e:TypeId)(z:List Value)(bytes:Nat):aR where
 X:=FT
 Y:=Nat
 args x:=[.int .i64 x.n,.int .i64 x.c]
 cond x:=0<=x.n/\x.n<=x.c/\x.c*bytes<=281474976710656/\x.c<=9223372036854775807
 val x b:=.returned (.slice (some ⟨b,0,none⟩) x.n.toNat x.c.toNat)
 post x b:=[.cells b (iu z x.c.toNat) e]
variable{o:Oper}
theorem DW{l c:Operand}{t e:TypeId}{a:TypeInfo}{b:Value}(z:List Value)(bytes:Nat)(u:o.op= .makeSlice t l c)
  (D:P.underlying t=some (.slice e)) (hi:P.info? e=some a) (E:a.zero=some b) (q:b.cells=⟨z⟩) (hk:a.size=z.length) (C:z≠[]) (A:a.bytes=bytes):e_ P o (u0 e z bytes):=by
 refine⟨fun x F I w ρ y B G hs=>?_⟩;obtain⟨n,d⟩:=x;obtain⟨s,i,k,h⟩:=B;dsimp only at s i k h;simp only[u,Op.operands,u0]at y;have j:ρ l= .int .i64 n/\ρ c= .int .i64 d:=by grind
 obtain⟨p,m⟩:=j;subst A;have r:b.cells.size≠0:=by simp[*]
 have f:madeCells b.cells (d.toNat*a.size)=Builtin.zeroCells b.cells d.toNat:=by
  have:b.cells.size=a.size:=by simp[*]
  unfold Builtin.zeroCells madeCells;rw[this]
 have g:=run_make (P:=P) w t e a b D hi E .i64 .i64 n d s i (by grind) h;refine⟨w.heap.size,I,w.alloc (.cells (Builtin.zeroCells b.cells d.toNat) e),_,ao,?_,rfl,a8.le_refl I,?_,al⟩
 ·rw[f]at g;simp[execOp,u,p,m,g,Sem.run]
 ·have:=(hs.new 1 (.cells (Builtin.zeroCells b.cells d.toNat) e));have e1:(Builtin.zeroCells b.cells d.toNat).toList=iu z d.toNat:=by rw[alI _ _ r,q]
  have v:Sat I [(0,F),(1,.cells w.heap.size (iu z d.toNat) e)] (w.alloc (.cells (Builtin.zeroCells b.cells d.toNat) e)):=by
   rw[<-e1];exact this
  exact Sat.pick [1,0] rfl rfl v
theorem e_.A3{C b:aR}(h':e_ P o b)
  (h:∀x F,C.cond x->C.aO x F->∃a,b.cond a/\b.aO a F/\C.args x=b.args a/\C.pre x=b.pre a/\
   ∀c,b.b_ a c->∃y,C.b_ x y/\b.val a c=C.val x y/\b.post a c=C.post x y):e_ P o C:=by
 refine⟨fun x F I w ρ f l n hs=>?_⟩;obtain⟨a,d,e,j,k,s⟩:=h x F l n;rw[j]at f;rw[k]at hs;obtain⟨c,J,w',v,g,i,r,m,p,q⟩:=h'.h a F I w ρ f d e hs;grind
end
end
section
open Go
variable{P:Program}
structure ux where
 b:Nat
 o:Nat
 len:Nat
 cap:Nat
 n:Int
def fJ(k:Nat):ln where
 X:=ux
 args x:=[.slice (some ⟨x.b,x.o,none⟩) x.len x.cap,.int .i64 x.n]
 cond x:=0<=x.n/\x.n<x.len
 val x:=.pointer (some ⟨x.b,x.o+x.n.toNat*k,none⟩)
variable{cs ys:List Value}{k:Nat}{a:Option Addr}{r:Row}{e:TypeId}
theorem gG{o:Oper}{x i:Operand}{t:TypeId}{a:TypeInfo}(k:Nat)(g:o.op= .indexAddr t x i)(l:P.underlying t=some (.slice e))(hi:P.info? e=some a)(hk:a.size=k):dR P o (fJ k):=by
 refine⟨fun X w ρ h j=>?_⟩;obtain⟨b,off,len,cap,n⟩:=X;obtain⟨d,f⟩:=j;dsimp only at d f;simp only[g,Op.operands,fJ]at h;obtain⟨hx,hn⟩:ρ x= .slice (some ⟨b,off,none⟩) len cap/\ρ i= .int .i64 n:=by grind
 have c:P.cellsOf e=a.size:=by unfold Program.cellsOf;simp[hi]
 subst hk;simp[execOp,g,hx,hn,Instr.indexAt,asIntOf,run_underlying l,run_sizeOf w hi,c,d,f,pE,Sem.run,fJ]
inductive jk(k:Nat)(ys:List Value):Option Addr->Nat->Prop
 |nil (h:ys=[]):jk k ys none 0
 |fU (b o n:Nat) (h:ys.length=n*k):jk k ys (some ⟨b,o,none⟩) n
 |zero (a:Addr) (h:ys=[]):jk k ys (some a) 0
def lU(F:ah)(a:Option Addr)(ys:List Value):Prop:=∀b,a=some b->c_ F b ys
theorem lU.sub{A B:ah}(hs:Sub A B)(h:lU A a ys):lU B a ys:=fun b e=>(h b e).sub hs
theorem jk.some{n:Nat}(h:jk k ys a n)(hn:0<n):∃b o,a=some ⟨b,o,none⟩:=by
 cases h with
 |nil _=>exact absurd hn (Nat.lt_irrefl 0)
 |fU b o n _=>exact⟨b,o,rfl⟩
 |zero _ _=>exact absurd hn (Nat.lt_irrefl 0)
theorem jk.len{n:Nat}(h:jk k ys a n):ys.length=n*k:=by
 cases h with
 |nil h=>subst h;simp
 |fU b o n h=>exact h
 |zero _ h=>subst h;simp
theorem bz.src(h:bz e k cs r):jk k cs r.a r.n:=by
 cases h with
 |nil h=>exact .nil h
 |fU b n cap sp a c d=>exact .fU b 0 n a
theorem bz.CB(h:bz e k cs r):lU r.A r.a cs:=by
 cases h with
 |nil h=>intro a e;cases e
 |fU b n cap sp c d f=>
  intro a e;cases e;refine c_.cells fun j u g=>?_;grind
theorem lU.look{F:ah}{b o j:Nat}{v:Value}(h:lU F (some ⟨b,o,none⟩) ys)(a:ys[j]?=some v):aQ F ⟨b,o+j,none⟩ v:=by
 have:=h _ rfl j v a
 rwa [pE]at this
end
section
open Go
variable{P:Program}
def gm(W:World):ah:=.du {holds:=fun I _ _=>a8.le (hp W) I,Bm:=fun _ _ _ _ _ h=>h,mono:=fun _ _ _ _ h k=>a8.le_trans k h}
variable{W w':World}
theorem wH{a:Addr}{v:Value}(h:W.cell? a=some v):aQ (gm W) a v:=⟨fun I h' o c b=>by
 have b:a8.le (hp W) I:=b;rw[<-TW]at h;unfold uM at h⊢;cases e:hp W a.block with
 |none=>rw[e]at h;simp at h
 |some d=>rw[e]at h;rw[c _ _ (b _ _ e)];exact h⟩
structure yl(W w':World):Prop where
 heap:∀b,b<W.heap.size->w'.heap[b]?=W.heap[b]?
 os:w'.os=W.os
 output:w'.output=W.output
theorem entry{f:FuncId}{C:aR}(i:kf P f C)(x:C.X)(W:World)(c:C.pre x=[])(n:C.cond x)(o:C.aO x (gm W)):
  Calls P f ⟨C.args x⟩ W fun e w'=>(∃y,C.b_ x y/\e=C.val x y)/\yl W w':=by
 refine(i.h x (gm W) (hp W) W n o ⟨⟨fun _ _=>False,fun j=>?_,fun _ _ _ h=>h.elim,fun _ _ h=>h.elim⟩,fun _ _ h=>h⟩).mono ?_
 ·rw[c];cases j with
  |zero=>exact a8.le_refl _
  |succ j=>trivial
 ·rintro e w' ⟨y,J,l,m,g,d,a⟩;refine⟨⟨y,l,m⟩,fun b k=>?_,a.1,a.2⟩;have e:=d.nr b _ (g b (W.heap[b]) (by simp[hp,k]));rw[show w'.heap[b]?=hp w' b from rfl,e];simp[k]
theorem yl.keptBut(h:yl W w')(a:MemPlace->Prop):W.keptBut w' a:=by
 refine⟨h.os,h.output,fun i hi=>?_⟩;rw[h.heap i hi];grind
theorem yl.same(h:yl W w'){p:MemPlace}(hp:p.block<W.heap.size):W.sameAt w' p:=by
 cases p with
 |cell b o=>exact World.cell?_of_block (w:=W) (h.heap b hp)
 |map b=>exact h.heap b hp
theorem Xv{H:Type}{gD:TypeId×Value->H}(hl:laidOutB P=true){W f:World}(hk:yl W f):∀(ts:List TypeId)(vs:List Value)(ds:List (DataW H))(e:List MemPlace),
  (ts.all fun t=>P.readableRec t&&Nat.blt t P.types.size)=true->(∀p∈e,p.block<W.heap.size)->DataW.TrodAll gD P W 0 (fun _=>true) true ts vs ds e->
  DataW.TrodAll gD P f 0 (fun b=>decide (b<W.heap.size)) true ts vs ds e
 | [],[],[],_,_,_,h=>h
 |t::ts,v::vs,d::ds,e,c,a,h=>by
  obtain⟨p,q,g,i,rfl⟩:=h;simp only[List.all_cons,gX]at c;refine⟨p,q,WideElems.Trod_stays hl c.1.1 (Nat.le_of_ble_eq_true c.1.2) g (fun x hx=>hk.same (a x (by simp[hx]))) (fun x hx=>by simpa using a x (by simp[hx])),Xv hl hk ts vs ds q c.2 (fun x hx=>a x (by simp[hx])) i,rfl⟩
 | [],[],_::_,_,_,_,h=>h.elim
 | [],_::_,_,_,_,_,h=>by cases h
 |_::_,[],_,_,_,_,h=>by cases h
 |_::_,_::_,[],_,_,_,h=>by cases h
theorem aid{H:Type}{gD:TypeId×Value->H}(hl:laidOutB P=true){f:Func}{s:ChangeSpec}{apart fresh handsOn:Bool}{i:World}{args:Array Value}{ds gs:List (DataW H)}{a:List MemPlace}
  (b:DataW.Whole gD P f.params.toList s.vars apart W args.toList ds gs a) (k:s.vars=[]) (hs:s.fn H (ds++gs)={results:=[.lit (.bool true)],args:=ds}) (hk:yl W i)
  {tb:TypeId} (l:P.underlying tb=some .bool) (m:f.resultTypes=#[tb]) (g:(f.params.toList.all fun t=>P.readableRec t&&Nat.blt t P.types.size)=true):
  s.post gD P f apart fresh handsOn false W args (.bool true) i:=by
 have d:=b.lt;obtain⟨p,q,j,c,e,_,_⟩:=b;have b:DataW.Whole gD P f.params.toList s.vars apart W args.toList ds gs a:=⟨p,q,j,c,e,by assumption,by assumption⟩;rw[k]at c;obtain⟨rfl,rfl⟩:=Go.ChangeShapes.trodVars_none c;rw[dn]at e;subst e;refine⟨ds,[],a,[],a,[],b,?_,?_,?_,hk.keptBut _,fun h=>by cases h⟩
 ·rw[hs,m];exact Go.ChangeShapes.trodAll_mk1 (⟨1,by simp[DataW.trod,Value.cells,l]⟩)
 ·rw[hs];exact Xv hl hk _ _ _ _ g d j
 ·rw[hs,k];rfl
end
section
open Go
def sK(P:Program)(t:TypeId):DataW Unit->Option Value
 | .lit l=>match P.underlying t,l with
  |some .bool,.bool b=>some (.bool b)
  |some (.int k),.int k' z=>if k'=k then some (.int k z) else none
  |some (.float k),.float k' b=>if k'=k then some (.float k b) else none
  |some .string,.string a=>some (.string ⟨a.toArray⟩)
  |_,_=>none
 |_=>none
def Fk(P:Program)(f:TypeId->DataW Unit->Option (List Value)):List (TypeId×Nat)->Nat->List (DataW Unit)->Option (List Value)
 | [],_,[]=>some []
 |x::r,k,d::ds=>if x.2=k then (f x.1 d).bind fun l=>if l.length=P.cellsOf x.1 then (Fk P f r (k+l.length) ds).map fun m=>l++m else none else none
 |_,_,_=>none
def jo(P:Program):Nat->TypeId->DataW Unit->Option (List Value)
 |0,t,d=>(sK P t d).map fun v=>[v]
 |n+1,t,d=>match d,P.underlying t with
  | .agg ds,some (.struct fs)=>(Fk P (jo P n) (fs.toList.map fun f=>(f.type,f.offset)) 0 ds).bind fun l=>if l.length=P.cellsOf t then some l else none
  | .agg ds,some (.array k e)=>(Fk P (jo P n) ((List.range k).map fun i=>(e,i*P.cellsOf e)) 0 ds).bind fun l=>if l.length=P.cellsOf t then some l else none
  |d,_=>(sK P t d).map fun v=>[v]
section
variable{P:Program}{w:World}{gD:TypeId×Value->Unit}{r6:Nat}{sp:Nat->Bool}{held:Bool}
theorem W2{t:TypeId}{d:DataW Unit}{v:Value}{a:Nat}{cs:List Value}{p:List MemPlace}(h:DataW.trod gD P w r6 sp held a t cs=some (d,p))(b:sK P t d=some v):cs=[v]:=by
 cases a with
 |zero=>simp[DataW.trod]at h
 |succ n=>
  cases d <;> unfold sK at b <;> dsimp only at b <;> try contradiction
  rename_i l
  unfold DataW.trod at h;cases c:P.underlying t with
  |none=>rw[c]at b;cases b
  |some u=>
   rw[c]at h b;cases u <;> cases l <;> dsimp only at b <;> try contradiction
   all_goals (split at h <;> simp_all)
   all_goals (obtain⟨-,e,-⟩:=h;subst e;rw[<-b])
theorem Sl{f:TypeId->DataW Unit->Option (List Value)}{m:Nat}(c:∀t d l,f t d=some l->∀cs p,DataW.trod gD P w r6 sp held m t cs=some (d,p)->cs=l){cs:List Value}:
  ∀(r:List (TypeId×Nat))(k:Nat)(ds:List (DataW Unit))(L:List Value),Fk P f r k ds=some L->
   (∀(i:Nat)x d,r[i]?=some x->ds[i]?=some d->∃p,DataW.trod gD P w r6 sp held m x.1 ((cs.drop x.2).take (P.cellsOf x.1))=some (d,p))->cs.length=k+L.length->cs.drop k=L
 | [],k,[],L,h,_,hl=>by
  cases h;rw[List.drop_eq_nil_of_le];rw[hl];exact bZ _
 |x::r,k,d::ds,L,h,b,hl=>by
  unfold Fk at h;split at h
  ·rename_i hk
   obtain⟨l,j,h⟩:=Option.bind_eq_some_iff.1 h;split at h
   ·rename_i o
    obtain⟨q,n,rfl⟩:=Option.map_eq_some_iff.1 h;obtain⟨p,hp⟩:=b 0 x d rfl rfl;have e1:=c _ _ _ j _ _ hp;rw[hk,<-o]at e1;rw[dJ]at hl;have g:=Sl c r (k+l.length) ds q n (fun i y e u s=>b (i+1) y e u s) ae;have a:=List.take_append_drop l.length (cs.drop k);rw[e1,List.drop_drop,g]at a;exact a.symm
   ·cases h
  ·cases h
 | [],_,_::_,_,h,_,_=>by cases h
 |_::_,_,[],_,h,_,_=>by cases h
theorem G7:∀(n:Nat)(t:TypeId)(d:DataW Unit)(l:List Value),jo P n t d=some l->∀(a:Nat)(cs:List Value)(p:List MemPlace),DataW.trod gD P w r6 sp held a t cs=some (d,p)->cs=l
 |0,t,d,l,h,a,cs,p,hp=>by
  unfold jo at h;obtain⟨v,o,rfl⟩:=Option.map_eq_some_iff.1 h;exact W2 hp o
 |n+1,t,d,l,h,a,cs,p,hp=>by
  unfold jo at h;split at h
  ·rename_i ds fs q
   obtain⟨L,g,h⟩:=Option.bind_eq_some_iff.1 h;split at h
   ·rename_i u
    cases h;obtain⟨B,m,rfl,hx,hl,r,b⟩:=DataW.trod_struct q hp;cases hx;have:=Sl (m:=m) (fun t d l e cs p=>G7 n t d l e m cs p) _ 0 _ l g (fun i x d hx hd=>by
     rw[fV,Option.map_eq_some_iff]at hx hd;obtain⟨f,z,rfl⟩:=hx;obtain⟨y,s,rfl⟩:=hd;exact⟨y.2,by rw[b i f (by simpa using z),s]⟩) ae
    simpa using this
   ·cases h
  ·rename_i ds k e q
   obtain⟨L,g,h⟩:=Option.bind_eq_some_iff.1 h;split at h
   ·rename_i u
    cases h;obtain⟨B,m,rfl,hx,hl,r,b⟩:=DataW.trod_array q hp;cases hx;have:=Sl (m:=m) (fun t d l e cs p=>G7 n t d l e m cs p) _ 0 _ l g (fun i x d hx hd=>by
     rw[fV,Option.map_eq_some_iff]at hx hd;obtain⟨j,A,rfl⟩:=hx;obtain⟨y,s,rfl⟩:=hd;obtain⟨c,rfl⟩:=jq.1 A;rw[List.length_range]at c;rw[List.getElem_range];exact⟨y.2,by rw[b i c,s]⟩) ae
    simpa using this
   ·cases h
  ·obtain⟨v,o,rfl⟩:=Option.map_eq_some_iff.1 h;exact W2 hp o
theorem Xd{b:Nat}{t e:TypeId}{cs:List Value}{ds sd:List (DataW Unit)}{p:List MemPlace}(E:P.underlying t=some (.slice e))(hp:DataW.trod gD P w r6 sp held b t cs=some (.slice ds sd,p)):
  ∃a c,cs=[.slice (some a) ds.length c]/\∀(n i:Nat)(d:DataW Unit)(l:List Value),ds[i]?=some d->jo P n e d=some l->∀(j:Nat)(v:Value),l[j]?=some v->w.cell? (a.add (i*P.cellsOf e+j))=some v:=by
 rcases DataW.trod_slice E hp with⟨_,hx⟩| ⟨a,len,cap,H,rs,m,rfl,rfl,hx,G,D,A,g,f,_,_⟩
 ·cases hx
 cases hx;refine⟨a,cap,by rw[List.length_map,g],fun n i d l hd B j v o=>?_⟩;rw[fV,Option.map_eq_some_iff]at hd;obtain⟨y,q,rfl⟩:=hd;have hi:i<len:=by rw[<-g];exact(jq.1 q).1
 have k:=f i hi;rw[q]at k;obtain⟨r,s,u⟩:=Option.bind_eq_some_iff.1 k;have x:=G7 n e y.1 l B m r y.2 u;subst x;obtain⟨_,F,z⟩:=World.cells?_some s;have C:=(jq.1 o).1;have h:=z j ae;rw[o]at h;rw[Addr.add_add]at h;exact h
theorem Xe{a:Addr}{v:Value}(h:w.cell? a=some v):a.spot=none:=by
 unfold World.cell? at h;split at h
 ·cases hs:a.spot with
  |none=>rfl
  |some s=>rw[hs]at h;simp at h
 ·cases h
end
def s7(P:Program)(w:World)(n:String)(d:DataW Unit):Prop:=
 ∃g t cs a p,P.globalNamed n=some g/\(P.globals[g]?).map (·.type)=some t/\w.var? P n=some cs/\DataW.trod (fun _=>()) P w 0 (fun _=>true) false a t cs.toList=some (d,p)
theorem XJ{P:Program}{w:World}:∀{l:List (String×DataW Unit)}{c:List MemPlace},DataW.LaidVars P w l c->∀x∈l,s7 P w x.1 x.2
 | [],_,_,_,b=>by cases b
 | (n,d)::r,c,h,x,b=>by
  obtain⟨g,t,cs,a,p,q,f,i,j,k,m,_⟩:=h;rcases List.mem_cons.1 b with e|e
  ·subst e;exact⟨g,t,cs,a,p,f,i,j,k⟩
  ·exact XJ m x e
theorem qL{P:Program}{w:World}{l:List (String×DataW Unit)}(h:laidMet P l w)(i:Nat){n:String}{d:DataW Unit}(hi:l[i]?=some (n,d)):s7 P w n d:=
 let ⟨_,a,_⟩:=h
 XJ a _ (nk hi)
section
variable{P:Program}{w:World}{n:String}{d:DataW Unit}{g:Nat}{t e:TypeId}{l:List Value}
theorem s7.flat(h:s7 P w n d)(i:P.globalNamed n=some g)(o:(P.globals[g]?).map (·.type)=some t)(k:Nat)(m:jo P k t d=some l):∃t fr,w.heap[g]?=some (.cells ⟨l⟩ t fr):=by
 obtain⟨q,t0,cs,f,p,c,e,a,hp⟩:=h;obtain rfl:=Option.some.inj (i.symm.trans c);obtain rfl:=Option.some.inj (o.symm.trans e);have:=G7 k _ _ _ m _ _ _ hp;obtain⟨cl⟩:=cs;have this:cl=l:=this;subst this;unfold World.var? at a;rw[i,Option.bind_some]at a;split at a
 ·rename_i nW t' b j
  cases a;exact⟨t',b,j⟩
 ·cases a
theorem s7.look(h:s7 P w n d)(b:P.globalNamed n=some g)(c:(P.globals[g]?).map (·.type)=some t)(k:Nat)(a:jo P k t d=some l)(i:Nat){v:Value}(hi:l[i]?=some v):aQ (gm w) ⟨g,i,none⟩ v:=by
 obtain⟨t,fr,e⟩:=h.flat b c k a;refine wH ?_;unfold World.cell?;dsimp only;rw[e];simpa using hi
theorem s7.Sq{ds sd:List (DataW Unit)}(h:s7 P w n (.slice ds sd))(y:P.globalNamed n=some g)(G:(P.globals[g]?).map (·.type)=some t)(H:P.underlying t=some (.slice e))(k:Nat)(A:∃d v l,ds[0]?=some d/\jo P k e d=some (v::l)):
  ∃b o c,aQ (gm w) ⟨g,0,none⟩ (.slice (some ⟨b,o,none⟩) ds.length c)/\∀(i:Nat)(d:DataW Unit)(l:List Value),ds[i]?=some d->jo P k e d=some l->∀(j:Nat)(v:Value),l[j]?=some v->aQ (gm w) ⟨b,o+(i*P.cellsOf e+j),none⟩ v:=by
 obtain⟨J,t0,cs,q,p,f,m,I,hp⟩:=h;obtain rfl:=Option.some.inj (y.symm.trans f);obtain rfl:=Option.some.inj (G.symm.trans m);obtain⟨a,c,B,r⟩:=Xd H hp;obtain⟨z,v0,l0,q1,q2⟩:=A;have u:=Xe (r k 0 z _ q1 q2 0 v0 rfl);obtain⟨b,o,s⟩:=a;have C:s=none:=by
  rw[Nat.zero_mul]at u;exact u
 subst C;refine⟨b,o,c,wH ?_,fun i d l hd E j v F=>wH ?_⟩
 ·rw[World.var?_cell y I 0,<-Array.getElem?_toList,B];rfl
 ·have x:=r k i d l hd E j v F;have e:(Addr.mk b o none).add (i*P.cellsOf e+j)=⟨b,o+(i*P.cellsOf e+j),none⟩:=by
   unfold Addr.add;split
   ·rename_i D;rw[D];rfl
   ·rfl
  rw[e]at x;exact x
theorem s7.ajo{k:Nat}{s:TypeId}{f:List (List (DataW Unit))}(h:s7 P w n (.agg (f.map fun ds=>.slice ds [])))(K:P.globalNamed n=some g)(U:(P.globals[g]?).map (·.type)=some t)(V:P.underlying t=some (.array k e))(S:P.underlying e=some (.slice s))(R:P.cellsOf e=1)(hs:P.cellsOf s=1):
  ∀(i:Nat)(ds:List (DataW Unit)),f[i]?=some ds->(∃d v,ds[0]?=some d/\sK P s d=some v)->
   ∃b o c,aQ (gm w) ⟨g,i,none⟩ (.slice (some ⟨b,o,none⟩) ds.length c)/\∀(j:Nat)(d:DataW Unit)(v:Value),ds[j]?=some d->sK P s d=some v->aQ (gm w) ⟨b,o+j,none⟩ v:=by
 obtain⟨X,t0,cs,I,p,A,C,W,hp⟩:=h;obtain rfl:=Option.some.inj (K.symm.trans A);obtain rfl:=Option.some.inj (U.symm.trans C);obtain⟨M,m,rfl,hx,hl,D,r⟩:=DataW.trod_array V hp;intro i ds hi ⟨N,v0,q1,q2⟩;have E:f.map (fun ds=>(.slice ds []:DataW Unit))=M.map (·.1):=by
  have:=congrArg Prod.fst hx;exact DataW.agg.inj this
 have u:(M.map (·.1))[i]?=some (.slice ds []):=by rw[<-E,fV,hi];rfl
 rw[fV,Option.map_eq_some_iff]at u;obtain⟨⟨y,q⟩,L,l⟩:=u;have l:y= .slice ds []:=l;subst l;have B:i<k:=by rw[<-D];exact(jq.1 L).1
 have J:=r i B;rw[L,R,Nat.mul_one]at J;obtain⟨a,c,e1,F⟩:=Xd S J;have H:∀{d:DataW Unit}{v:Value},sK P s d=some v->jo P 0 s d=some [v]:=fun h=>by unfold jo;rw[h];rfl
 have O:=F 0 0 N [v0] q1 (H q2) 0 v0 rfl;have x:=Xe O;rw[Nat.zero_mul]at x;obtain⟨b,o,sp⟩:=a;have x:sp=none:=x;subst x;refine⟨b,o,c,wH ?_,fun j d v T hd=>wH ?_⟩
 ·have G:=congrArg (·[0]?) e1;simp only[List.getElem?_take,List.getElem?_drop]at G;rw[World.var?_cell K W i,<-Array.getElem?_toList];simpa using G
 ·have z:=F 0 j d [v] T (H hd) 0 v rfl;rw[hs,Nat.mul_one,Nat.add_zero]at z;have e:(Addr.mk b o none).add j=⟨b,o+j,none⟩:=by
   unfold Addr.add;split
   ·rename_i Q;rw[Q];rfl
   ·rfl
  rw[e]at z;exact z
end
section
variable{H:Type}{gD:TypeId×Value->H}
theorem aja{a:Assume}{C:Checked}{os:Os}{f:FuncId}{fn:Func}{s:ChangeSpec}{d:List PathCond}{apart fresh handsOn again:Bool}{X:World->Prop}
  (z:∀(w w':World),w.heap=w'.heap->X w->X w')
  (lH:ownKnob C.prog.godebug=none) (g:os.Started) (k:C.prog.inits.idxOf? f=none) (p:C.prog.funcs[f]?=some fn)
  (h:∃(w:World)(tape:Tape)(i:Input),w.os=os/\(w.forCall tape i).Shaped C.prog/\i.vars=[]/\Input.okWide C.prog (w.forCall tape i) .any w.heap.size f i/\
   ((s.pre gD C.prog fn d apart (w.forCall tape i).memory i.args/\X (w.forCall tape i).memory)/\sizedMet gD C.prog fn (OpenSpec.ofChange s) apart (w.forCall tape i).memory i.args)/\a.holds C.prog (lone (Frame.enter C.prog f i.args .normal) [] (w.forCall tape i)))
  (c:∀(W:World)(r6:Nat)(args:Array Value)(ds gs:List (DataW H))(b:List MemPlace),
   (∀(j:Nat)t v,fn.params[j]?=some t->args[j]?=some v->Value.okWide C.prog W .any r6 t v)->
   DataW.Whole gD C.prog fn.params.toList s.vars apart W args.toList ds gs b->W.ShapedOpen C.prog->
   (DataW.weightsEach C.prog (fn.params.toList++s.plain.varTypes C.prog) (ds++gs)).all (·<=reachBytes)=true->X W->
   Calls C.prog f args W fun e x=>∃v,e= .returned v/\s.post gD C.prog fn apart fresh handsOn again W args v x):
  ReturnsInHanded a C os f .any (fun w args=>(s.pre gD C.prog fn d apart w args/\X w)/\sizedMet gD C.prog fn (OpenSpec.ofChange s) apart w args) (s.post gD C.prog fn apart fresh handsOn again):=by
 refine returnsInHanded_of_calls lH g k h ?_;intro w tape i _ r _ q m _;obtain⟨_,_,_,o,l,_,_,_,_,n⟩:=q;have e:o=fn:=Option.some.inj (l.symm.trans p);subst e;obtain⟨⟨⟨ds,gs,b,y,_⟩,hx⟩,B⟩:=m;have u:=DataW.Whole.of_heap (w':=w.forCall tape i) (by rfl) y;refine(c (w.forCall tape i) w.heap.size i.args ds gs b n u r (B.weights y) (z _ _ (by rfl) hx)).mono fun e x⟨v,A,hp⟩=>?_;subst A;exact ChangeSpec.post_blind hp
end
end
section
open Go
variable{A:ah}{I:a8}{As Ks:List ah}{bG:List Nat}{cs:List Value}{k:Nat}{r:Row}{S:St}{e:TypeId}{w:World}
theorem pd(j:Nat)(c:j∉bG)(e:gt S j=A):Sub A (.du (rest S bG)):=by
 intro I h o b;obtain⟨f,a,_,_⟩:=b;have:=a j;rw[He]at this;grind
theorem Sa(j:Nat)(b:j∉bG)(a:gt S j=r.A)(h:bz e k cs r):lU (.du (rest S bG)) r.a cs:=lU.sub (pd j b a) h.CB
theorem aby{t:Bool}{A B:Prop}(h:t=true)(a:A):Br t A B:=aG (fun _=>a) (fun e=>by rw[h]at e;cases e)
theorem bz.uH(h:bz e k cs r)(hn:0<r.n):∃b,r.a=some ⟨b,0,none⟩:=by
 cases h with
 |nil _=>exact absurd hn (Nat.lt_irrefl 0)
 |fU b n cap sp hl hs hn=>exact⟨b,rfl⟩
def r5(As:List ah):ah:=.du (rest (bC As) [])
theorem NP{j:Nat}(h:j<Ks.length):gt (bC (Ks++As)) j=Ks.getD j .d8:=by
 rw[tu,ft,kq h,ft]
theorem Hf(Ks As:List ah)(i:Nat):gt (bC (Ks++As)) (Ks.length+i)=As.getD i .d8:=by
 rw[tu,ft,jb ae,ft];simp[*]
theorem Sat.TJ(h:Sat I (bC (Ks++As)) w):Sat I (bC (Ks++[r5 As])) w:=by
 obtain⟨⟨f,a,l,m⟩,hi⟩:=h;refine⟨⟨fun j b=>(j<Ks.length/\f j b)\/(j=Ks.length/\∃i,f (Ks.length+i) b),fun j=>?_,?_,?_⟩,hi⟩
 ·by_cases d:j<Ks.length
  ·rw[NP d];have:=a j;rw[NP d]at this;have e:(fun b=>(j<Ks.length/\f j b)\/(j=Ks.length/\∃i,f (Ks.length+i) b))=f j:=by
    grind
   grind
  ·by_cases k:j=Ks.length
   ·subst k;have e0:gt (bC (Ks++[r5 As])) Ks.length=r5 As:=Hf Ks [r5 As] 0;rw[e0];refine⟨fun i=>f (Ks.length+i),fun i=>?_,fun i j b c g=>?_,fun i b c=>.inr ⟨rfl,i,c⟩⟩
    ·have:=a (Ks.length+i);rw[Hf]at this;show(gt (bC As) i).holds I (hp w) _;rw[tu];omega
    grind
   ·have e0:gt (bC (Ks++[r5 As])) j= .d8:=by
     rw[tu,ft,pN (by simp;omega)];rfl
    rw[e0];trivial
 all_goals grind
theorem Sat.Xz(h:Sat I (bC (Ks++[r5 As])) w):Sat I (bC (Ks++As)) w:=by
 obtain⟨⟨f,a,l,m⟩,hi⟩:=h;have c:=a Ks.length;have e0:gt (bC (Ks++[r5 As])) Ks.length=r5 As:=Hf Ks [r5 As] 0;rw[e0]at c;obtain⟨g,g1,k,g3⟩:=c;refine⟨⟨fun j b=>(j<Ks.length/\f j b)\/(Ks.length<=j/\g (j-Ks.length) b),fun j=>?_,?_,?_⟩,hi⟩
 ·by_cases d:j<Ks.length
  ·have:=a j;rw[NP d]at this⊢;have e:(fun b=>(j<Ks.length/\f j b)\/(Ks.length<=j/\g (j-Ks.length) b))=f j:=by
    grind
   grind
  ·obtain⟨i,rfl⟩:∃i,j=Ks.length+i:=⟨j-Ks.length,ae⟩;have:=g1 i;replace this:(gt (bC As) i).holds I (hp w) (g i):=this;rw[tu]at this;rw[Hf];grind
 all_goals grind
theorem Y1{a:Addr}{v:Value}(i:Nat)(h:As[i]?=some A)(hl:aQ A a v):aQ (r5 As) a v:=by
 refine aQ.rest (j:=i) aL ?_;rw[tu,ft,h];exact hl
theorem aA{S':St}(l:List Nat)(a:nodupB l=true:=by exact rfl)(b:bC (l.map (gt S))=S':=by exact rfl):aE S S':=aE.pick l a b
theorem iS{p:Prop}(h:p:=by exact⟨(),trivial,rfl,aE.pick [0] rfl rfl⟩):p:=h
theorem bU(j:Nat)(h:j∉bG:=by simp)(e:gt S j=A:=by exact rfl):Sub A (.du (rest S bG)):=pd j h e
end
section
open Go
structure S7 where
 a:Option Addr
 n:Nat
 cap:Nat
 h:Int
def Fo:ln where
 X:=S7
 args x:=[.slice x.a x.n x.cap,.int .i64 x.h]
 cond x:=0<=x.h/\x.h<=x.cap
 val x:=.slice x.a x.h.toNat x.cap
theorem aj_{P:Program}{o:Oper}{t e:TypeId}{x y:Operand}{d:TypeInfo}(j:o.op= .slice t x none (some y) none)(l:P.underlying t=some (.slice e))(hi:P.info? e=some d):dR P o Fo:=by
 refine⟨fun q w ρ i k=>?_⟩;obtain⟨a,n,cap,h⟩:=q;obtain⟨f,g⟩:=k;dsimp only at f g;simp only[j,Op.operands,Fo]at i;have c:ρ x= .slice a n cap/\ρ y= .int .i64 h:=by simpa using i
 obtain⟨hx,m⟩:=c;simp[execOp,j,hx,m,Instr.sliceAt,Instr.slice,Instr.sliceBounds,Instr.sliceBound,asIntOf,run_underlying l,run_sizeOf w hi,f,g,Fo];intro _;cases a with
 |none=>rfl
 |some b=>simp[Addr.add]
end
section
open Go
structure bh where
 kind:Int
 text:ByteArray
 num:Nat
 pos:Int
 aI:Bool
structure bP where
 kind:Int
 op:ByteArray
 num:Nat
 aB:List Int
 pos:Int
structure ap where
 i:Nat
 nodes:List bP
 bu:Int
 loops:Int
 bm:Int
inductive PR(α:Type)where
 |ok (a:α) (s:ap)
 |stop (p e:Int) (s:ap)
 |out
def PM(α:Type):=ap->PR α
def ret{α:Type}(a:α):PM α:=fun s=>.ok a s
def bS{α β:Type}(m:PM α)(f:α->PM β):PM β:=fun s=>
 match m s with
 | .ok a t=>f a t
 | .stop p e t=>.stop p e t
 | .out=>.out
instance:Monad PM where
 pure:=ret
 bind:=bS
def OA{α:Type}:PM α:=fun _=>.out
def ac9{α:Type}(p e:Int):PM α:=fun s=>.stop p e s
def eZ:PM ap:=fun s=>.ok s s
def io(s:ap):PM Unit:=fun _=>.ok () s
def eF:PM Unit:=fun s=>.ok () {s with i:=s.i+1}
def dj(x:bP):PM Int:=fun s=>.ok s.nodes.length {s with nodes:=s.nodes++[x]}
def bD(a b:ByteArray):Bool:=a==b
def qm:ByteArray:=⟨#[63]⟩
def colon:ByteArray:=⟨#[58]⟩
def Um:ByteArray:=⟨#[46]⟩
def lb:ByteArray:=⟨#[91]⟩
def rb:ByteArray:=⟨#[93]⟩
def lp:ByteArray:=⟨#[40]⟩
def rp:ByteArray:=⟨#[41]⟩
def lc:ByteArray:=⟨#[123]⟩
def rc:ByteArray:=⟨#[125]⟩
def oO:ByteArray:=⟨#[44]⟩
def cU:ByteArray:=⟨#[59]⟩
def eq:ByteArray:=⟨#[61]⟩
def Fz:ByteArray:=⟨#[116,114,117,101]⟩
def Fx:ByteArray:=⟨#[102,97,108,115,101]⟩
def Fy:ByteArray:=⟨#[110,117,108,108]⟩
def rz:ByteArray:=⟨#[102,117,110,99,116,105,111,110]⟩
def Sw:ByteArray:=⟨#[100,101,108,101,116,101]⟩
def lg:ByteArray:=⟨#[118,97,114]⟩
def uf:ByteArray:=⟨#[105,110]⟩
def pi:ByteArray:=⟨#[114,101,116,117,114,110]⟩
def pe:ByteArray:=⟨#[98,114,101,97,107]⟩
def pg:ByteArray:=⟨#[99,111,110,116,105,110,117,101]⟩
def qf:ByteArray:=⟨#[116,104,114,111,119]⟩
def xT:ByteArray:=⟨#[105,102]⟩
def ry:ByteArray:=⟨#[101,108,115,101]⟩
def xV:ByteArray:=⟨#[119,104,105,108,101]⟩
def xS:ByteArray:=⟨#[102,111,114]⟩
def xU:ByteArray:=⟨#[116,114,121]⟩
def Xk:ByteArray:=⟨#[99,97,116,99,104]⟩
def ph:ByteArray:=⟨#[102,105,110,97,108,108,121]⟩
def Ak:ByteArray:=⟨#[115,119,105,116,99,104]⟩
def Aj:ByteArray:=⟨#[99,97,115,101]⟩
def rx:ByteArray:=⟨#[100,101,102,97,117,108,116]⟩
def pp:ByteArray:=⟨#[43,43]⟩
def mm:ByteArray:=⟨#[45,45]⟩
def pQ:List (List ByteArray):=[[⟨#[124,124]⟩],[⟨#[38,38]⟩],[⟨#[124]⟩],[⟨#[94]⟩],[⟨#[38]⟩],[⟨#[61,61]⟩,⟨#[33,61]⟩,⟨#[61,61,61]⟩,⟨#[33,61,61]⟩],[⟨#[60]⟩,⟨#[62]⟩,⟨#[60,61]⟩,⟨#[62,61]⟩,⟨#[105,110]⟩],[⟨#[60,60]⟩,⟨#[62,62]⟩,⟨#[62,62,62]⟩],[⟨#[43]⟩,⟨#[45]⟩],[⟨#[42]⟩,⟨#[47]⟩,⟨#[37]⟩]]
def rY:List ByteArray:=[⟨#[61]⟩,⟨#[43,61]⟩,⟨#[45,61]⟩,⟨#[42,61]⟩,⟨#[47,61]⟩,⟨#[37,61]⟩]
def uj:List ByteArray:=[⟨#[45]⟩,⟨#[43]⟩,⟨#[33]⟩,⟨#[126]⟩,⟨#[116,121,112,101,111,102]⟩,⟨#[100,101,108,101,116,101]⟩]
def cM(l:List ByteArray)(t:ByteArray):Bool:=l.any fun x=>bD t x
def lG:Nat:=4607182418800017408
def vM:Nat:=4611686018427387904
def vL:Nat:=4613937818241073152
section
variable(L:List bh)(fin:Int)(aJ:Nat->ByteArray)(wide:ByteArray->ByteArray)
def aC(s:ap):bh:=(L[s.i]?).getD ⟨0,.empty,0,fin,false⟩
def bg(s:ap)(ahead:Nat)(t:ByteArray):Bool:=
 match L[s.i+ahead]? with
 |none=>false
 |some x=>(x.kind==5||x.kind==2)&&bD x.text t
def nameV(s:ap)(ahead:Nat):Bool:=
 match L[s.i+ahead]? with
 |none=>false
 |some x=>x.kind==1
def kj{α:Type}:PM α:=fun s=>.stop (aC L fin s).pos 60 s
def cZ(t:ByteArray):PM Bool:=fun s=>bif bg L s 0 t then .ok true {s with i:=s.i+1} else .ok false s
def cw(t:ByteArray):PM Unit:=fun s=>bif bg L s 0 t then .ok () {s with i:=s.i+1} else .stop (aC L fin s).pos 60 s
def iT(ahead:Nat)(t:ByteArray):PM Bool:=fun s=>.ok (bg L s ahead t) s
def fv:PM bh:=fun s=>.ok (aC L fin s) s
def dz(s:ap)(k:Int):Int:=((s.nodes[k.toNat]?).map (·.pos)).getD 0
def oT(s:ap)(k:Int):Int:=((s.nodes[k.toNat]?).map (·.kind)).getD 0
def dW(k:Int):PM Int:=fun s=>.ok (dz s k) s
def kv(k:Int)(iB:Bool):PM Unit:=fun s=>
 bif oT s k !=8&&(oT s k !=9&&(oT s k !=3|| !iB)) then .stop (dz s k) 61 s else .ok () s
def gJ:PM ByteArray:=fun s=>bif (aC L fin s).kind !=1 then .stop (aC L fin s).pos 60 s else .ok (aC L fin s).text {s with i:=s.i+1}
def dQ:PM Unit:=fun s=>
 bif bg L s 0 cU then .ok () {s with i:=s.i+1}
 else bif bg L s 0 rc||(decide (s.i>=L.length)||(aC L fin s).aI) then .ok () s else .stop (aC L fin s).pos 60 s
def d5:PM Int:=fun s=>
 let x:=aC L fin s
 bif x.kind==1||x.kind==2 then dj ⟨2,wide x.text,0,[],x.pos⟩ {s with i:=s.i+1}
 else bif x.kind==3 then dj ⟨2,wide (aJ x.num),0,[],x.pos⟩ {s with i:=s.i+1}
 else bif x.kind==4 then dj ⟨2,x.text,0,[],x.pos⟩ {s with i:=s.i+1}
 else .stop x.pos 60 s
def iv:PM Int:=do
 let x <-fv L fin
 dj ⟨36,.empty,0,[],x.pos⟩
inductive aq where
 |bf|cond|level (n:Nat)|fY (n:Nat) (left:Int)|unary|dO|suffix|d6 (k:Int)|d0 (aB:List Int)|cS (aB:List Int)|cW (aB:List Int)|dv
 |func (kind:Int)|dy (aB:List Int)|block (body:Bool)|fH (aB:List Int) (body:Bool)|paren|vars|dX (aB:List Int)|loop|dr (pos:Int)|dF (pos:Int)|choose (pos:Int)|ec (aB:List Int) (seen:Bool)|eu (aB:List Int)
 |simple (x:bh)|bT (body:Bool)|prog (aB:List Int)
def one(m:PM (List Int)):PM Int:=bS m fun l=>ret (l.headD 0)
def cm(x:bP):PM (List Int):=bS (dj x) fun k=>ret [k]
def P:Nat->aq->PM (List Int)
 |0,_=>OA
 |f+1,.bf=>do
  let left <-one (P f .cond)
  let x <-fv L fin
  bif x.kind !=5|| !cM rY x.text then ret [left] else do
   kv left true
   eF
   let right <-one (P f .bf)
   cm ⟨16,x.text,0,[left,right],<-dW left⟩
 |f+1,.cond=>do
  let c <-one (P f (.level 0))
  let g <-cZ L qm
  bif !g then ret [c] else do
   let a <-one (P f .bf)
   cw L fin colon
   let b <-one (P f .bf)
   cm ⟨15,.empty,0,[c,a,b],<-dW c⟩
 |f+1,.level n=>bif n==10 then P f .unary else do
   let left <-one (P f (.level (n+1)))
   P f (.fY n left)
 |f+1,.fY n left=>do
  let x <-fv L fin
  bif (x.kind !=5&&x.kind !=2)|| !cM ((pQ[n]?).getD []) x.text then ret [left] else do
   eF
   let right <-one (P f (.level (n+1)))
   let k <-dj ⟨bif decide (n<2) then 14 else 13,x.text,0,[left,right],<-dW left⟩
   P f (.fY n k)
 |f+1,.unary=>do
  let x <-fv L fin
  bif x.kind !=5&&x.kind !=2 then P f .dO
  else bif cM uj x.text then do
   eF
   let k <-one (P f .unary)
   bif bD x.text Sw then kv k false else ret ()
   cm ⟨11,x.text,0,[k],x.pos⟩
  else bif cM [pp,mm] x.text then do
   eF
   let k <-one (P f .unary)
   kv k true
   cm ⟨12,x.text,lG,[k],x.pos⟩
  else P f .dO
 |f+1,.dO=>do
  let k <-one (P f .suffix)
  let x <-fv L fin
  bif x.kind !=5||(x.aI||(!bD x.text pp&& !bD x.text mm)) then ret [k] else do
   kv k true
   eF
   cm ⟨12,x.text,0,[k],<-dW k⟩
 |f+1,.suffix=>do
  let k <-one (P f .dv)
  P f (.d6 k)
 |f+1,.d6 k=>do
  let g <-cZ L Um
  bif g then do
   let x <-fv L fin
   bif x.kind !=1&&x.kind !=2 then kj L fin else ret ()
   eF
   let m <-dj ⟨8,x.text,0,[k],<-dW k⟩
   P f (.d6 m)
  else do
   let g <-cZ L lb
   bif g then do
    let e <-one (P f .bf)
    cw L fin rb
    let m <-dj ⟨9,.empty,0,[k,e],<-dW k⟩
    P f (.d6 m)
   else do
    let g <-cZ L lp
    bif g then do
     let aB <-P f (.d0 [k])
     let m <-dj ⟨10,.empty,0,aB,<-dW k⟩
     P f (.d6 m)
    else ret [k]
 |f+1,.d0 aB=>do
  let g <-cZ L rp
  bif g then ret aB else do
   bif decide (aB.length>1) then cw L fin oO else ret ()
   let e <-one (P f .bf)
   P f (.d0 (aB++[e]))
 |f+1,.cS aB=>do
  let g <-cZ L rb
  bif g then ret aB else do
   let e <-one (P f .bf)
   let h <-iT L 0 rb
   bif !h then cw L fin oO else ret ()
   P f (.cS (aB++[e]))
 |f+1,.cW aB=>do
  let g <-cZ L rc
  bif g then ret aB else do
   let k <-d5 L fin aJ wide
   cw L fin colon
   let e <-one (P f .bf)
   let h <-iT L 0 rc
   bif !h then cw L fin oO else ret ()
   P f (.cW (aB++[k]++[e]))
 |f+1,.dv=>do
  let x <-fv L fin
  bif x.kind==3 then do
   eF
   cm ⟨1,.empty,x.num,[],x.pos⟩
  else bif x.kind==4 then do
   eF
   cm ⟨2,x.text,0,[],x.pos⟩
  else bif x.kind==1 then do
   eF
   cm ⟨3,x.text,0,[],x.pos⟩
  else do
   let s <-eZ
   bif bg L s 0 Fz||(bg L s 0 Fx||bg L s 0 Fy) then do
    eF
    cm ⟨4,x.text,0,[],x.pos⟩
   else bif bg L s 0 rz then P f (.func 7)
   else do
    let g <-cZ L lp
    bif g then do
     let k <-one (P f .bf)
     cw L fin rp
     ret [k]
    else do
     let g <-cZ L lb
     bif g then do
      let aB <-P f (.cS [])
      cm ⟨5,.empty,0,aB,x.pos⟩
     else do
      let g <-cZ L lc
      bif g then do
       let aB <-P f (.cW [])
       cm ⟨6,.empty,0,aB,x.pos⟩
      else kj L fin
 |f+1,.func kind=>do
  let x <-fv L fin
  eF
  let s <-eZ
  let op <-bif kind==35||nameV L s 0 then gJ L fin else ret .empty
  cw L fin lp
  let j <-P f (.dy [])
  let s <-eZ
  io {s with bu:=s.bu+1,loops:=0,bm:=0}
  let b <-one (P f (.block true))
  let t <-eZ
  io {t with bu:=t.bu-1,loops:=s.loops,bm:=s.bm}
  cm ⟨kind,op,0,j++[b],x.pos⟩
 |f+1,.dy aB=>do
  let g <-cZ L rp
  bif g then ret aB else do
   bif decide (aB.length>0) then cw L fin oO else ret ()
   let x <-fv L fin
   let w <-gJ L fin
   let k <-dj ⟨3,w,0,[],x.pos⟩
   P f (.dy (aB++[k]))
 |f+1,.block body=>do
  let x <-fv L fin
  cw L fin lc
  let aB <-P f (.fH [] body)
  cm ⟨23,.empty,0,aB,x.pos⟩
 |f+1,.fH aB body=>do
  let g <-cZ L rc
  bif g then ret aB else do
   let k <-one (P f (.bT body))
   P f (.fH (aB++[k]) body)
 |f+1,.paren=>do
  cw L fin lp
  let k <-one (P f .bf)
  cw L fin rp
  ret [k]
 |f+1,.vars=>do
  let x <-fv L fin
  eF
  let aB <-P f (.dX [])
  cm ⟨21,.empty,0,aB,x.pos⟩
 |f+1,.dX aB=>do
  let x <-fv L fin
  let w <-gJ L fin
  let g <-cZ L eq
  let ks <-bif g then P f .bf else ret []
  let k <-dj ⟨22,w,0,ks,x.pos⟩
  let h <-cZ L oO
  bif !h then ret (aB++[k]) else P f (.dX (aB++[k]))
 |f+1,.loop=>do
  let s <-eZ
  io {s with loops:=s.loops+1,bm:=s.bm+1}
  let k <-one (P f (.bT false))
  let t <-eZ
  io {t with loops:=t.loops-1,bm:=t.bm-1}
  ret [k]
 |f+1,.dr pos=>do
  cw L fin lp
  let s <-eZ
  let v:Nat:=bif bg L s 0 lg then 1 else 0
  bif nameV L s v&&bg L s (v+1) uf then do
   io {s with i:=s.i+v+2}
   let e <-one (P f .bf)
   cw L fin rp
   let b <-one (P f .loop)
   cm ⟨27,((L[s.i+v]?).map (·.text)).getD .empty,bif v==1 then lG else 0,[e,b],pos⟩
  else do
   let a <-bif v==1 then one (P f .vars) else bif bg L s 0 cU then iv L fin else do
    let x <-fv L fin
    let e <-one (P f .bf)
    dj ⟨20,.empty,0,[e],x.pos⟩
   cw L fin cU
   let h <-iT L 0 cU
   let c <-bif h then iv L fin else one (P f .bf)
   cw L fin cU
   let h <-iT L 0 rp
   let d <-bif h then iv L fin else one (P f .bf)
   cw L fin rp
   let b <-one (P f .loop)
   cm ⟨26,.empty,0,[a,c,d,b],pos⟩
 |f+1,.dF pos=>do
  let b <-one (P f (.block false))
  let g <-cZ L Xk
  let (op,ks) <-bif g then do
    cw L fin lp
    let w <-gJ L fin
    cw L fin rp
    let c <-one (P f (.block false))
    ret (w,[c])
   else ret (.empty,[])
  let s <-eZ
  bif !g&& !bg L s 0 ph then kj L fin else ret ()
  let h <-cZ L ph
  let fs <-bif h then P f (.block false) else ret []
  cm ⟨34-2,op,bif g then (bif h then vL else lG) else vM,[b]++ks++fs,pos⟩
 |f+1,.choose pos=>do
  let c <-one (P f .paren)
  cw L fin lc
  let s <-eZ
  io {s with bm:=s.bm+1}
  let aB <-P f (.ec [c] false)
  let t <-eZ
  io {t with bm:=t.bm-1}
  cm ⟨33,.empty,0,aB,pos⟩
 |f+1,.ec aB seen=>do
  let g <-cZ L rc
  bif g then ret aB else do
   let x <-fv L fin
   let g <-cZ L Aj
   let ks <-bif g then P f .bf else do
    let h <-iT L 0 rx
    bif h&& !seen then do
     eF
     ret []
    else kj L fin
   cw L fin colon
   let all <-P f (.eu ks)
   let k <-dj ⟨34,.empty,bif g then 0 else lG,all,x.pos⟩
   P f (.ec (aB++[k]) (bif g then seen else true))
 |f+1,.eu aB=>do
  let s <-eZ
  bif !bg L s 0 Aj&&(!bg L s 0 rx&& !bg L s 0 rc) then do
   let k <-one (P f (.bT false))
   P f (.eu (aB++[k]))
  else ret aB
 |f+1,.simple x=>do
  let s <-eZ
  let kind <-bif bD x.text pi&&decide (s.bu>0) then ret 28 else bif bD x.text pe&&decide (s.bm>0) then ret 29 else bif bD x.text pg&&decide (s.loops>0) then ret 30 else bif bD x.text qf then ret 31 else kj L fin
  eF
  let n <-fv L fin
  let s <-eZ
  bif kind==(31:Int)&&n.aI then kj L fin else ret ()
  let ks <-bif kind==(31:Int)||(kind==(28:Int)&&(decide (s.i<L.length)&&(!n.aI&&(!bg L s 0 cU&& !bg L s 0 rc)))) then P f .bf else ret []
  dQ L fin
  cm ⟨kind,.empty,0,ks,x.pos⟩
 |f+1,.bT body=>do
  let x <-fv L fin
  let s <-eZ
  bif bg L s 0 lc then P f (.block false)
  else bif bg L s 0 cU then do
   let k <-iv L fin
   eF
   ret [k]
  else do
   let plain:PM (List Int):=do
    let e <-one (P f .bf)
    dQ L fin
    cm ⟨20,.empty,0,[e],x.pos⟩
   bif x.kind==2 then
    bif bD x.text lg then do
     let v <-one (P f .vars)
     dQ L fin
     ret [v]
    else bif cM [pi,pe,pg,qf] x.text then P f (.simple x)
    else bif bD x.text rz then (bif !body then kj L fin else P f (.func 35))
    else bif bD x.text xT then do
     eF
     let c <-one (P f .paren)
     let a <-one (P f (.bT false))
     let g <-cZ L ry
     let ks <-bif g then P f (.bT false) else ret []
     cm ⟨24,.empty,0,[c,a]++ks,x.pos⟩
    else bif bD x.text xV then do
     eF
     let c <-one (P f .paren)
     let b <-one (P f .loop)
     cm ⟨25,.empty,0,[c,b],x.pos⟩
    else bif bD x.text xS then do
     eF
     P f (.dr x.pos)
    else bif bD x.text xU then do
     eF
     P f (.dF x.pos)
    else bif bD x.text Ak then do
     eF
     P f (.choose x.pos)
    else plain
   else plain
 |f+1,.prog aB=>do
  let s <-eZ
  bif decide (s.i<L.length) then do
   let k <-one (P f (.bT true))
   P f (.prog (aB++[k]))
  else cm ⟨37,.empty,0,aB,0⟩
end
end
section
open Go
def bt(s:ByteArray)(i:Nat):Nat:=((s.data[i]?).map UInt8.toNat).getD 0
def cJ(l:List Nat):ByteArray:=⟨⟨l.map fun n=>UInt8.ofNat n⟩⟩
def nf(b lo hi:Nat):Bool:=decide (lo<=b)&&decide (b<=hi)
def c7(s:ByteArray)(i:Nat):Option (Nat×Nat):=
 bif decide (i<s.size) then
  (match Lib.decodeN (s.size-i) (bt s i) (bt s (i+1)) (bt s (i+2)) (bt s (i+3))with
  | (c,n)=>bif c==65533&&n==1 then none else some (c,n))
 else none
def iI(c:Nat):List Nat:=
 bif decide (c>65535) then
  let d:=c-65536
  [(55296+d/1024)/256,(55296+d/1024)%256,(56320+d%1024)/256,(56320+d%1024)%256]
 else [c/256,c%256]
def mt(s:ByteArray):Nat->Nat->List Nat->List Nat
 |0,_,o=>o
 |f+1,i,o=>bif decide (i<s.size) then (match c7 s i with|some (c,n)=>mt s f (i+n) (o++iI c)|none=>[]) else o
def bx(s:ByteArray):ByteArray:=cJ (mt s (s.size+1) 0 [])
def hX(c:Nat):Bool:=c==10||(c==13||(c==8232||c==8233))
def sh(c:Nat):Bool:=c==9||(c==11||(c==12||(c==32||(c==160||c==65279))))
def dx(s:ByteArray)(i:Nat)(t:List Nat):Bool:=decide (i+t.length<=s.size)&&(List.range t.length).all fun k=>bt s (i+k)==t.getD k 0
def n9(s:ByteArray)(t:List Nat):Nat->Nat->Option Nat
 |0,_=>none
 |f+1,i=>bif dx s i t then some i else bif decide (i<s.size) then n9 s t f (i+1) else none
def fT(s:ByteArray):Nat->Nat->Nat×Bool
 |0,i=>(i,true)
 |f+1,i=>bif decide (i<s.size) then (match c7 s i with|none=>(i,false)|some (c,n)=>bif hX c then (i,true) else fT s f (i+n)) else (i,true)
def eS(s:ByteArray):Nat->Nat->Bool->Bool×Bool
 |0,_,aI=>(true,aI)
 |f+1,i,aI=>bif decide (i<s.size) then (match c7 s i with|none=>(false,aI)|some (c,n)=>eS s f (i+n) (aI||hX c)) else (true,aI)
def cT(s:ByteArray):Nat->Nat->Bool->Int×Nat×Bool
 |0,i,aI=>(-1,i,aI)
 |f+1,i,aI=>
  bif decide (i<s.size) then
   match c7 s i with
   |none=>(i,i,aI)
   |some (c,n)=>
    bif hX c then cT s f (i+n) true
    else bif sh c then cT s f (i+n) aI
    else bif dx s i [47,47] then
     bif (fT s (s.size+1) i).2 then cT s f (fT s (s.size+1) i).1 aI else ((fT s (s.size+1) i).1,(fT s (s.size+1) i).1,aI)
    else bif dx s i [47,42] then
     match n9 (s.extract (i+2) s.size) [42,47] (s.size+1) 0 with
     |none=>(i,i,aI)
     |some k=>
      let r:=eS (s.extract (i+2) (i+2+k)) (s.size+1) 0 aI
      bif r.1 then cT s f (i+k+4) r.2 else (i,i,r.2)
    else (-1,i,aI)
  else (-1,i,aI)
def fX(b:Nat):Bool:=nf b 97 122||(nf b 65 90||(b==95||b==36))
def bM(b:Nat):Bool:=nf b 48 57
def fC(b:Nat):Bool:=bM b||nf (b|||32) 97 102
def gv(s:ByteArray)(p:Nat->Bool):Nat->Nat->Nat
 |0,i=>i
 |f+1,i=>bif decide (i<s.size)&&p (bt s i) then gv s p f (i+1) else i
def bE(s:ByteArray)(p:Nat->Bool)(i:Nat):Nat:=gv s p (s.size+1) i
def ea(s:ByteArray)(i:Nat):Nat×Bool:=
 bif bt s i==48&&(decide (i+1<s.size)&&(bt s (i+1)|||32)==120) then
  let j:=bE s fC (i+2)
  (j,decide (j>i+2)&& !(fX (bt s j)||bM (bt s j)))
 else
  let j:=bE s bM i
  bif decide (j-i>1)&&bt s i==48 then (j,false) else
   let a:=bif bt s j==46 then bE s bM (j+1) else j
   bif (bt s a|||32)==101 then
    let c:=bif bt s (a+1)==43||bt s (a+1)==45 then a+2 else a+1
    let b:=bE s bM c
    (b,decide (b>c)&& !(fX (bt s b)||bM (bt s b)))
   else (a,!(fX (bt s a)||bM (bt s a)))
def eC(s:ByteArray):Nat->Nat->Nat->Nat×Option Nat
 |0,i,u=>(i,some u)
 |n+1,i,u=>bif decide (i<s.size)&&fC (bt s i) then eC s n (i+1) (u*16+(bif bM (bt s i) then bt s i-48 else (bt s i|||32)-97+10)) else (i,none)
def uP:List (Nat×Nat):=[(98,8),(116,9),(110,10),(118,11),(102,12),(114,13)]
def eI(s:ByteArray)(i:Nat):Nat×Option (List Nat):=
 match c7 s i with
 |none=>(i,none)
 |some (c,n)=>
  let j:=i+n
  match uP.find? fun p=>p.1==c with
  |some p=>(j,some [0,p.2])
  |none=>
   bif c==120 then ((eC s 2 j 0).1,(eC s 2 j 0).2.map fun u=>[u/256%256,u%256])
   else bif c==117 then ((eC s 4 j 0).1,(eC s 4 j 0).2.map fun u=>[u/256%256,u%256])
   else bif c==48 then (j,bif bM (bt s j) then none else some [0,0])
   else bif nf c 49 57 then (j,none)
   else bif c==13&&bt s j==10 then (j+1,some [])
   else bif hX c then (j,some [])
   else (j,some (iI c))
def kH(s:ByteArray)(mark:Nat):Nat->Nat->List Nat->Nat×Option (List Nat)
 |0,i,_=>(i,none)
 |f+1,i,o=>
  match c7 s i with
  |none=>(i,none)
  |some (c,n)=>
   bif c==10||c==13 then (i,none)
   else bif c==mark then (i+n,some o)
   else bif c==92 then
    match eI s (i+n)with
    | (j,none)=>(j,none)
    | (j,some u)=>kH s mark f j (o++u)
   else kH s mark f (i+n) (o++iI c)
def fh:List ByteArray:=[⟨#[62,62,62]⟩,⟨#[61,61,61]⟩,⟨#[33,61,61]⟩,⟨#[60,61]⟩,⟨#[62,61]⟩,⟨#[61,61]⟩,⟨#[33,61]⟩,⟨#[43,43]⟩,⟨#[45,45]⟩,⟨#[60,60]⟩,⟨#[62,62]⟩,⟨#[38,38]⟩,⟨#[124,124]⟩,⟨#[43,61]⟩,⟨#[45,61]⟩,⟨#[42,61]⟩,⟨#[47,61]⟩,⟨#[37,61]⟩,⟨#[123]⟩,⟨#[125]⟩,⟨#[40]⟩,⟨#[41]⟩,⟨#[91]⟩,⟨#[93]⟩,⟨#[59]⟩,⟨#[44]⟩,⟨#[46]⟩,⟨#[60]⟩,⟨#[62]⟩,⟨#[43]⟩,⟨#[45]⟩,⟨#[42]⟩,⟨#[47]⟩,⟨#[37]⟩,⟨#[38]⟩,⟨#[124]⟩,⟨#[94]⟩,⟨#[33]⟩,⟨#[126]⟩,⟨#[63]⟩,⟨#[58]⟩,⟨#[61]⟩]
def SE:ByteArray:=⟨#[32,98,114,101,97,107,32,99,97,115,101,32,99,97,116,99,104,32,99,108,97,115,115,32,99,111,110,115,116,32,99,111,110,116,105,110,117,101,32,100,101,98,117,103,103,101,114,32,100,101,102,97,117,108,116,32,100,101,108,101,116,101,32,100,111,32,101,108,115,101,32,101,110,117,109,32,101,120,112,111,114,116,32,101,120,116,101,110,100,115,32,102,97,108,115,101,32,102,105,110,97,108,108,121,32,102,111,114,32,102,117,110,99,116,105,111,110,32,105,102,32,105,109,112,111,114,116,32,105,110,32,105,110,115,116,97,110,99,101,111,102,32,108,101,116,32,110,101,119,32,110,117,108,108,32,114,101,116,117,114,110,32,115,117,112,101,114,32,115,119,105,116,99,104,32,116,104,105,115,32,116,104,114,111,119,32,116,114,117,101,32,116,114,121,32,116,121,112,101,111,102,32,118,97,114,32,118,111,105,100,32,119,104,105,108,101,32,119,105,116,104,32,121,105,101,108,100,32]⟩
def dP(t:ByteArray):List Nat:=t.data.toList.map UInt8.toNat
def Ao(t:ByteArray):Bool:=decide (t.size>0)&&(!Lib.contains t.data.toList [32]&&Lib.contains SE.data.toList ([32]++t.data.toList++[32]))
def gn(num:Nat->Nat)(s:ByteArray)(i:Nat)(aI:Bool):Nat×Option bh:=
 let b:=bt s i
 bif fX b then
  let j:=bE s (fun b=>fX b||bM b) i
  let t:=s.extract i j
  (j,some ⟨bif Ao t then 2 else 1,t,0,i,aI⟩)
 else bif bM b||(b==46&&(decide (i+1<s.size)&&bM (bt s (i+1)))) then
  ((ea s i).1,bif (ea s i).2 then some ⟨3,.empty,num i,i,aI⟩ else none)
 else bif b==34||b==39 then
  match kH s b (s.size+1) (i+1) []with
  | (j,none)=>(j,none)
  | (j,some u)=>(j,some ⟨4,cJ u,0,i,aI⟩)
 else
  match fh.find? fun m=>dx s i (dP m)with
  |none=>(i,none)
  |some m=>(i+m.size,some ⟨5,m,0,i,aI⟩)
def jv(num:Nat->Nat)(s:ByteArray):Nat->Nat->Bool->List bh->List bh×Int
 |0,_,_,_=>([],0)
 |f+1,i,aI,o=>
  match cT s (s.size+1) i aI with
  | (at_,j,aI)=>
   bif decide (at_>=0) then ([],at_)
   else bif j==s.size then (o,-1)
   else match gn num s j aI with
    | (_,none)=>([],j)
    | (k,some x)=>jv num s f k false (o++[x])
def uY(num:Nat->Nat)(s:ByteArray):List bh×Int:=jv num s (s.size+1) 0 false []
end
end Go.Proofs.YtdkchodgklpomaaGreatDoor
