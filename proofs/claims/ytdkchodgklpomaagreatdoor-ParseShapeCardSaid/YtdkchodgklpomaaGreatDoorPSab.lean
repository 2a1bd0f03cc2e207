/- Part of the proof that ParseShape answers true at every input. -/
import Derived.Test.YtdkchodgklpomaaGreatDoorPSaa
set_option linter.all false
namespace Go.Proofs.YtdkchodgklpomaaGreatDoor
set_option maxRecDepth 100000
open Go.Value (int slice string bool pointer agg tuple func float iface nilIface)
open Go.IntKind (i64 u8 u64 i32 u32 u16 i8 i16)
open Go.FloatKind (f64)
open Go.Ending (returned panicked)
section
open Go
section
variable{P:Program}{N:Nat}{H:Nat->OH}{aN:Array Oper}{ms:List Nat}
variable{a:Act}{Q:Exit->Act->World->Prop}{I:a7}{ds:List Deferred}{R1 R2 dX l:List Nat}{kp:List PanicEntry->Tm->St->Prop}{i r:Nat}{h:OH}{o:Oper}{S:St}{φ:St->St}{T:Tm}{k:Tm->St->Prop}{w:World}
theorem SX{T':Tm}{k':Tm->St->Prop}{fH:List PanicEntry->Tm->St->Prop}(oh:vZ o=false)
  (ha:qW aN o T T') (hφ:Fr φ (xj (gZ (im P o h)))) (hw:qg φ S) (hr:o6 P N aN o h T S k kp)
  (hk:∀v S',e7 S S' (jZ (gZ (im P o h)))->k (dz N o.dst v T) S'->k' (dz N o.dst v T') (φ S')) (hp:∀ch S',kp ch T S'->fH ch T' (φ S')):
  o6 P N aN o h T' (φ S) k' fH:=by
 rw[pQ]at hr⊢;rw[<-sV ha];split at hr
 ·exact aa1 oh ha.DI hφ hw hr hk hp
 ·exact hk _ _ (e7.refl _ _) hr
 omega
theorem aqk{next:Act->World->Prop}(h:o.wp P a w next fun _ _ _=>False):∃a' w',next a' w':=by
  unfold Oper.wp at h;generalize (execOp a.eval o).run P w=r at h;cases r with
  |ok n w'=>
    cases n <;> simp only[Oper.upon]at h <;> first
      |exact h.elim
      |exact⟨_,_,h⟩
      | (obtain⟨e,w2,fr,hR,_⟩:=h []
         cases e with
         |returned v=>exact⟨_,_,hR⟩
         |panicked ch=>exact hR.elim
         |outgrown=>obtain⟨_,_,hf⟩:=hR;exact hf.elim)
      | (obtain⟨v,w2,hR,_⟩:=h default []
         exact⟨_,_,hR⟩)
  |halt x w'=>cases x <;> simp only[Oper.upon]at h
theorem al3(oh:vZ o=false)
  (hr:o6 P N aN o h T S k fun _ _ _=>False) (bw:dM N T a) (hd:a.defers=ds) (hs:Sat I S w):
  ∃v S' J a' w',e7 S S' (jZ (gZ (im P o h)))/\dM N (dz N o.dst v T) a'/\a'.defers=ds/\Sat J S' w'/\k (dz N o.dst v T) S':=by
 have h1:o6 P N aN o h T S (fun T' S'=>∃v,T'=dz N o.dst v T/\e7 S S' (jZ (gZ (im P o h)))/\k T' S') (fun _ _ _=>False):=
  SX (φ:=fun S=>S) oh (fun _ _=>rfl) (Fr.id _) (qg.id _) hr (fun v S' ho hk=>⟨v,rfl,ho,hk⟩) (fun _ _ h=>h)
 rw[pQ]at h1;split at h1
 ·obtain⟨a',w',bN⟩:=aqk (Lq (Q:=fun _ _ _=>False) h1 bw hd hs (fun a' w' h=>h) (fun ch a' w' h=>by obtain⟨_,_,_,_,_,_,_,_,hf⟩:=h;exact hf));obtain⟨T',S',J,h1,h2,h3,h4,h5,v,rfl,ho,hk⟩:=bN;grind
 ·obtain⟨v,e,ho,hk⟩:=h1;exact⟨undef,S,I,a.put o.dst undef,w,ho,bw.put _ _,by simp[*],hs,hk⟩
 grind
theorem abT(hi:i∈l)(hb:(ms.getD i 0).testBit r=false):vc ms r l=false:=by
 unfold vc;grind
abbrev cl(P:Program)(H:Nat->OH)(aN:Array Oper)(i:Nat):AW:=gZ (im P (cV aN i) (H i))
structure I8(P:Program)(H:Nat->OH)(aN:Array Oper)(ms:List Nat)(i r:Nat):Prop where
 Yc:(ms.getD i 0).testBit r=false
 apart:(cV aN i).apart aN (cV aN r)=true
 pass:B3 (cl P H aN r) (cl P H aN i)=true
 WN:vZ (cV aN r)=false
theorem Iu:
  ph P N H aN ms (i::l) T S k kp=o6 P N aN (cV aN i) (H i) T S (fun T S=>ph P N H aN ms l T S k kp) (match vc ms i l with|true=>fun ch _ S=>∀T,kp ch T S|false=>fun _ _ _=>False):=rfl
theorem QZ{v:Value}(Good:Tm->St->Prop)
  (aiD:∀T S K fH,Good T S->o6 P N aN (cV aN i) (H i) T S K fH->K (dz N (cV aN i).dst v T) (φ S)) (ajL:∀T S,Good T S->qg φ S):
  ∀(R1:List Nat){T:Tm}{S:St},(∀r,r∈R1->I8 P H aN ms i r/\Fr φ (xj (cl P H aN r))/\∀T S u S',Good T S->e7 S S' (jZ (cl P H aN r))->Good (dz N (cV aN r).dst u T) S')->
   Good T S->ph P N H aN ms (R1++i::R2) T S k kp->ph P N H aN ms (R1++R2) (dz N (cV aN i).dst v T) (φ S) k kp:=by
 intro R1
 induction R1 with
 |nil=>
  intro T S _ hg hr;exact aiD T S _ _ hg hr
 |cons r R1 ih=>
  intro T S jJ hg hr;obtain⟨hp,hφ,rG⟩:=jJ r (ni ..);rw[List.cons_append,Iu]at hr⊢;have Se:vc ms r (R1++i::R2)=false:=abT (List.mem_append_right _ (ni ..)) hp.Yc;rw[Se]at hr;refine SX hp.WN (qW.put hp.apart v T) hφ (ajL T S hg) hr (fun u S' ho hk=>?_) (fun ch S' hf=>hf.elim);have hg':=rG T S u S' hg ho;have:=ih (fun r hr=>jJ r (sS _ hr)) hg' hk;rw[Tb (x:=(cV aN i).dst) (y:=(cV aN r).dst) (fun d hd=>(Oper.apart_spec hp.apart).2.1 d hd)]at this;omega
theorem aoA:∀(R1:List Nat){T:Tm}{S:St}{a:Act}{I:a7}{w:World},(∀r,r∈R1->I8 P H aN ms i r)->
  (∀r j,r∈R1->j∈oF (cl P H aN i)->j∉jZ (cl P H aN r))->ph P N H aN ms (R1++i::R2) T S k kp->dM N T a->a.defers=ds->Sat I S w->
  ∃T' S' K fH,o6 P N aN (cV aN i) (H i) T' S' K fH/\qW aN (cV aN i) T T'/\∀j,j∈oF (cl P H aN i)->gt S' j=gt S j:=by
 intro R1
 induction R1 with
 |nil=>
  intro T S a I w _ _ hr _ _ _;exact⟨T,S,_,_,hr,fun _ _=>rfl,fun _ _=>rfl⟩
 |cons r R1 ih=>
  intro T S a I w jJ oX hr bw hd hs;have hp:=jJ r (ni ..);rw[List.cons_append,Iu]at hr;have Se:vc ms r (R1++i::R2)=false:=abT (List.mem_append_right _ (ni ..)) hp.Yc;rw[Se]at hr;obtain⟨v,S',J,a',w',ho,oY,uE,el,hk⟩:=al3 hp.WN hr bw hd hs;obtain⟨T2,S2,K,fH,h1,h2,h3⟩:=ih (fun r hr=>jJ r (sS _ hr)) (fun r j hr=>oX r j (sS _ hr)) hk oY uE el;refine⟨T2,S2,K,fH,h1,fun t ht=>?_,fun j hj=>?_⟩
  ·exact((AV hp.apart v T) t ht).trans (h2 t ht)
  ·rw[h3 j hj];exact ho j (oX r j (ni ..) hj)
theorem SW(hc:gZ (im P o h)= .oE l)(hr:o5 P N o h T S k kp):
  lT P o (im P o h) T S fun v=>k (dz N o.dst v T) S:=by
 unfold o5 at hr;generalize im P o h=g at*;cases g <;> first
  |exact hr
  |exact hr.no.elim
  |cases hc
theorem abr(hc:gZ (im P o h)= .oE l)(hr:lT P o (im P o h) T S fun v=>k (dz N o.dst v T) S):
  o5 P N o h T S k kp:=by
 unfold o5;generalize im P o h=g at*;cases g <;> first
  |exact hr
  |exact hr.elim
  |cases hc
theorem xy{a b:List Nat}(h:Bq a b=true):∀i,i∈a->i∉b:=by
 intro i hi hb;have:=List.all_eq_true.1 (List.all_eq_true.1 h i hi) i hb;simp at this
theorem move
  (oh:vZ (cV aN i)=false) (jJ:∀r,r∈R1->I8 P H aN ms i r) (Zz:∀j,cl P H aN i= .new j->gt S j= .dT)
  (hr:ph P N H aN ms (R1++i::R2) T S k kp) (bw:dM N T a) (hd:a.defers=ds) (hs:Sat I S w):
  o6 P N aN (cV aN i) (H i) T S (fun T S=>ph P N H aN ms (R1++R2) T S k kp) (match vc ms i R2 with|true=>fun ch _ S=>∀T,kp ch T S|false=>fun _ _ _=>False):=by
 have l_:∀{T T'},qW aN (cV aN i) T T'->execOp (ev T) (cV aN i)=execOp (ev T') (cV aN i):=fun h=>execOp_congr _ (SN oh) h.DI;rw[pQ];have D0:=fun(oX:∀r j,r∈R1->j∈oF (cl P H aN i)->j∉jZ (cl P H aN r))=>aoA (ds:=ds) R1 jJ oX hr bw hd hs;cases hg:gd aN (cV aN i) T with
 |none=>
  exfalso;cases hc:cl P H aN i with
  |oE l=>
   obtain⟨T',S',K,fH,h1,h2,_⟩:=D0 (fun r j hr hj=>by
    have hp:=(jJ r hr).pass;rw[hc]at hp hj;revert hp;cases BC:cl P H aN r <;> intro hp <;> simp only[B3]at hp <;> simp only[jZ]
    ·simp
    ·exact xy hp j hj
    ·exact xy hp j hj)
   rw[pQ,<-sV h2,hg]at h1;exact h1
  |new l=>
   obtain⟨T',S',K,fH,h1,h2,_⟩:=D0 (fun r j hr hj=>by rw[hc]at hj;simp[oF]at hj);rw[pQ,<-sV h2,hg]at h1;exact h1
  |rz l=>
   obtain⟨T',S',K,fH,h1,h2,_⟩:=D0 (fun r j hr hj=>by rw[hc]at hj;simp[oF]at hj);rw[pQ,<-sV h2,hg]at h1;exact h1
 |some met=>
  cases met with
  |false=>
   refine QZ (φ:=fun S=>S) (fun T _=>gd aN (cV aN i) T=some false) (fun T S K fH hg h=>?_) (fun _ _ _=>qg.id _) R1 (fun r hr=>⟨jJ r hr,Fr.id _,fun T S u S' hg _=>?_⟩) hg hr
   ·rw[pQ,hg]at h;exact h
   ·rw[<-sV (AV (jJ r hr).apart u T)];exact hg
  |true=>
   simp only;cases hc:cl P H aN i with
   |oE l=>
    have KQ:∀r j,r∈R1->j∈oF (cl P H aN i)->j∉jZ (cl P H aN r):=fun r j hr hj=>by
     have hp:=(jJ r hr).pass;rw[hc]at hp hj;revert hp;cases BC:cl P H aN r <;> intro hp <;> simp only[B3]at hp <;> simp only[jZ]
     ·simp
     ·exact xy hp j hj
     ·exact xy hp j hj
    have RF:∀j,j∈oF (gZ (im P (cV aN i) (H i)))->j∈oF (cl P H aN i):=fun j hj=>hj;obtain⟨T',S',K,fH,h1,h2,h3⟩:=D0 KQ;rw[pQ,<-sV h2,hg]at h1;obtain⟨v,hv,_⟩:=Ip (SW hc h1);have D1:lT P (cV aN i) (im P (cV aN i) (H i)) T S (·=v):=NX oh (fun x hx=>(h2.DI x hx).symm) (fun j hj=>h3 j hj) hv;obtain⟨u,hu,_⟩:=NY D1 hs;refine abr hc (Wv D1 fun x e=>?_);subst e;refine QZ (φ:=fun S=>S) (fun T S=>gd aN (cV aN i) T=some true/\∀v',lT P (cV aN i) (im P (cV aN i) (H i)) T S (·=v')->v'=x) (fun T S K fH hg h=>?_) (fun _ _ _=>qg.id _) R1
     (fun r hr=>⟨jJ r hr,Fr.id _,fun T S u S' hg ho=>⟨?_,fun v' D1=>?_⟩⟩) ⟨hg,fun v' D3=>?_⟩ hr
    ·rw[pQ,hg.1]at h;obtain⟨y,hy,hk⟩:=Ip (SW hc h);rw[hg.2 y hy]at hk;exact hk
    ·rw[<-sV (AV (jJ r hr).apart u T)];exact hg.1
    ·exact hg.2 v' (NX oh (fun x hx=>((AV (jJ r hr).apart u T).DI x hx).symm) (fun j hj=>ho j (KQ r j hr hj)) D1)
    ·obtain⟨y,hy,e⟩:=NY D3 hs;obtain⟨z,hz,e2⟩:=NY D1 hs;rw[<-e,<-e2];exact hy.apH hz
   |new j=>
    obtain⟨T',S',K,fH,h1,h2,_⟩:=D0 (fun r j hr hj=>by rw[hc]at hj;simp[oF]at hj);rw[pQ,<-sV h2,hg]at h1;have td:∃j',im P (cV aN i) (H i)= .n j'/\j'=j:=by
     revert hc;show gZ (im P (cV aN i) (H i))= .new j->_;generalize im P (cV aN i) (H i)=g;intro hc;cases g <;> simp only[gZ]at hc <;> first|exact⟨_,rfl,by simpa using hc⟩|cases hc
    obtain⟨j',td,rfl⟩:=td;unfold o5 at h1⊢;rw[td]at h1⊢;simp only at h1⊢;rw[<-l_ h2]at h1;split at h1
    ·rename_i ob f RA
     intro b;have hb:=h1 b;split at hb
     ·rename_i v hv
      refine QZ (φ:=fun S=>gn S j' (mkAtom b ob)) (fun T S=>gd aN (cV aN i) T=some true/\Be P (execOp (ev T) (cV aN i))=some (ob,f)/\gt S j'= .dT) (fun T S K fH hg h=>?_) (fun _ _ hg=>qg.p5 hg.2.2 _) R1
       (fun r hr=>⟨jJ r hr,Fr.p5 (fun hm=>?_) _,fun T S u S' hg ho=>⟨?_,?_,?_⟩⟩) ⟨hg,RA,Zz j' hc⟩ hr
      ·rw[pQ,hg.1]at h;unfold o5 at h;rw[td]at h;simp only[hg.2.1]at h;have:=h b;rw[hv]at this;exact this
      ·have hp:=(jJ r hr).pass;rw[hc]at hp;revert hp hm;cases BC:cl P H aN r <;> intro hm hp <;> simp only[B3]at hp <;> simp only[xj,oF,jZ,dJ,List.nil_append]at hm
       ·exact xy hp j' hm aM
       ·simp only[List.mem_singleton]at hm;subst hm;simp at hp
       ·exact xy hp j' aM hm
      ·rw[<-sV (AV (jJ r hr).apart u T)];exact hg.1
      ·rw[<-l_ (AV (jJ r hr).apart u T)];exact hg.2.1
      ·rw[ho j' (fun hm=>?_)];exact hg.2.2;have hp:=(jJ r hr).pass;rw[hc]at hp;revert hp hm;cases BC:cl P H aN r <;> intro hm hp <;> simp only[B3]at hp <;> simp only[jZ]at hm
       ·simp at hm
       ·simp only[List.mem_singleton]at hm;subst hm;simp at hp
       ·exact xy hp j' aM hm
     ·exact hb.elim
    ·exact h1.elim
   |rz dU=>
    have hq:∀r,r∈R1->∃l,cl P H aN r= .oE l/\∀j,j∈l->j∉dU:=fun r hr=>by
     have hp:=(jJ r hr).pass;rw[hc]at hp;cases BC:cl P H aN r with
     |oE l=>rw[BC]at hp;exact⟨l,rfl,fun j hj=>xy hp j hj⟩
     |new j=>rw[BC]at hp;cases hp
     |rz l=>rw[BC]at hp;cases hp
    clear D0 Zz bw hs hd
    induction R1 generalizing T S with
    |nil=>
     have vS:o6 P N aN (cV aN i) (H i) T S _ _:=hr;rw[pQ,hg]at vS;exact vS
    |cons r R1 ih=>
     have hp:=jJ r (ni ..);obtain⟨l,hl,hld⟩:=hq r (ni ..);rw[List.cons_append,Iu]at hr;have step:∀u,ph P N H aN ms (R1++i::R2) (dz N (cV aN r).dst u T) S k kp->
       (∀v S',e7 S S' dU->ph P N H aN ms (R1++R2) (dz N (cV aN i).dst v (dz N (cV aN r).dst u T)) S' k kp->ph P N H aN ms (r::(R1++R2)) (dz N (cV aN i).dst v T) S' k kp)->
       o5 P N (cV aN i) (H i) T S (fun T S=>ph P N H aN ms (r::(R1++R2)) T S k kp) (match vc ms i R2 with|true=>fun ch _ S=>∀T,kp ch T S|false=>fun _ _ _=>False):=by
      intro u hk ail;have ha:=AV (N:=N) hp.apart u T;have:=ih (T:=dz N (cV aN r).dst u T) (S:=S) (fun r hr=>jJ r (sS _ hr)) hk (by rw[<-sV ha];exact hg) (fun r hr=>hq r (sS _ hr));refine aa1 (φ:=fun S=>S) oh (fun x hx=>(ha.DI x hx).symm) (Fr.id _) (qg.id _) this (fun v S' ho hh=>ail v S' (ho.mono fun j hj=>?_) hh) (fun ch S' hh=>?_)
      ·have:jZ (cl P H aN i)=dU:=by rw[hc];rfl
       rw[<-this];exact hj
      ·revert hh;cases vc ms i R2 <;> exact fun h=>h
     rw[pQ]at hr;cases GK:gd aN (cV aN r) T with
     |none=>rw[GK]at hr;exact hr.elim
     |some met=>
      cases met with
      |false=>
       rw[GK]at hr;refine step undef hr fun v S' ho hh=>?_;rw[Iu,pQ,<-sV (qW.put hp.apart v T),GK];rw[Tb (x:=(cV aN i).dst) (y:=(cV aN r).dst) (fun d hd=>(Oper.apart_spec hp.apart).2.1 d hd)]at hh;exact hh
      |true=>
       rw[GK]at hr;obtain⟨u,hu,hk⟩:=Ip (SW hl hr);refine step u hk fun v S' ho hh=>?_;rw[Iu,pQ,<-sV (qW.put hp.apart v T),GK];refine abr hl ?_;have hrs:oF (gZ (im P (cV aN r) (H r)))=l:=by
        have:gZ (im P (cV aN r) (H r))= .oE l:=hl;rw[this];rfl
       refine Wv (NX hp.WN (fun x hx=>(qW.put hp.apart v T).DI x hx) (fun j hj=>?_) hu) (fun x e=>?_)
       ·rw[hrs]at hj;exact(ho j (hld j hj)).symm
       ·subst e;rw[Tb (x:=(cV aN i).dst) (y:=(cV aN r).dst) (fun d hd=>(Oper.apart_spec hp.apart).2.1 d hd)]at hh;exact hh
theorem ahU:∀(es:List Edge),(es.foldr (fun e s=>bif Region.binds .any e then (2^e.on|||dX.getD e.on 0)|||s else s) 0).testBit r=true->
  ∃e,e∈es/\Region.binds .any e=true/\(e.on=r\/(dX.getD e.on 0).testBit r=true):=by
 intro es
 induction es with
 |nil=>intro h;simp at h
 |cons e es ih=>
  intro h;simp only[List.foldr_cons]at h;grind
theorem alc:∀(es:List Edge){e:Edge},e∈es->Region.binds .any e=true->(es.foldr (fun e s=>bif Region.binds .any e then (2^e.on|||dX.getD e.on 0)|||s else s) 0).testBit e.on=true:=by
 intro es
 induction es with
 |nil=>intro e h;cases h
 |cons x es ih=>
  intro e h hb;simp only[List.foldr_cons];grind
def Xl(aN:Array Oper)(eE:Array Bool):Prop:=∀i o,aN[i]?=some o->eE.getD i false=true->∀e,e∈o.after.toList->Region.binds .any e=true->eE.getD e.on false=true
theorem ald(eE:Array Bool)(hc:Xl aN eE):∀(l:List Oper)(dX:List Nat),(∀j,l[j]?=aN[dX.length+j]?)->
  (∀i,i<dX.length->∀o,aN[i]?=some o->(∀e,e∈o.after.toList->Region.binds .any e=true->eE.getD e.on false=true)->∀r,(dX.getD i 0).testBit r=true->eE.getD r false=true)->
  ∀i o,aN[i]?=some o->(∀e,e∈o.after.toList->Region.binds .any e=true->eE.getD e.on false=true)->∀r,((md l dX).getD i 0).testBit r=true->i<dX.length+l.length->eE.getD r false=true:=by
 intro l
 induction l with
 |nil=>
  intro dX _ KB i o ho qu r hr hi;exact KB i af o ho qu r hr
 |cons o l ih=>
  intro dX hl KB i o' ho qu r hr hi;refine ih (dX++[SH o dX]) (fun j=>?_) (fun i' sZ o2 KO ZV r2 kA=>?_) i o' ho qu r hr (by grind)
  ·have:=hl (j+1);grind
  ·by_cases bP:i'<dX.length
   ·refine KB i' bP o2 KO ZV r2 ?_;grind
   ·have jY:i'=dX.length:=by grind
    subst jY;have ho3:some o=aN[dX.length]?:=by simpa using hl 0
    rw[<-ho3]at KO;simp only[Option.some.injEq]at KO;subst KO;rw[fD,sR (cr _)]at kA;simp only[Nat.sub_self,List.getElem?_cons_zero,Option.getD_some]at kA;obtain⟨e,h1,h2,h3⟩:=ahU _ kA;have bS:=ZV e h1 h2;rcases h3 with rfl|h3
    ·exact bS
    ·by_cases hon:e.on<dX.length
     ·have ajf:∃o4,aN[e.on]?=some o4:=by
       grind
      obtain⟨o4,ZR⟩:=ajf;exact KB e.on hon o4 ZR (hc e.on o4 ZR bS) r2 h3
     grind
theorem alb(ho:aN[i]?=some o){e:Edge}(he:e∈o.after.toList)(hb:Region.binds .any e=true):((md aN.toList []).getD i 0).testBit e.on=true:=by
 have key:∀(l:List Oper)(dX:List Nat),(∀j,l[j]?=aN[dX.length+j]?)->dX.length<=i->i<dX.length+l.length->((md l dX).getD i 0).testBit e.on=true:=by
  intro l
  induction l with
  |nil=>intro dX _ h1 h2;simp at h2;omega
  |cons x l ih=>
   intro dX hl h1 h2;simp only[md];by_cases hi:i=dX.length
   ·subst hi;have hx:x=o:=by have:=hl 0;grind
    subst hx;have akk:∀(l:List Oper)(dX:List Nat)(j:Nat),j<dX.length->(md l dX).getD j 0=dX.getD j 0:=by
     intro l
     induction l with
     |nil=>intro dX j _;rfl
     |cons y l ih=>
      intro dX j hj;simp only[md];grind
    rw[akk l _ _ aM];rw[fD,sR (cr _)];simp only[Nat.sub_self,List.getElem?_cons_zero,Option.getD_some];exact alc _ he hb
   ·refine ih (dX++[SH x dX]) (fun j=>?_) (by simp;omega) (by grind);have:=hl (j+1);simp only[List.getElem?_cons_succ]at this;rw[this];simp;grind
 grind
theorem amc(h:zO P H aN ms (R1++i::R2)=true):(∀r,r∈R1->En P H aN ms r i=true)/\zO P H aN ms (R1++R2)=true/\(∀r,r∈R2->En P H aN ms i r=true):=by
 induction R1 with
 |nil=>
  simp only[List.nil_append,zO,kT,List.all_eq_true]at h⊢;grind
 |cons r R1 ih=>
  simp only[List.cons_append,zO,kT,List.all_eq_true]at h⊢;grind
structure OL(P:Program)(N:Nat)(H:Nat->OH)(aN:Array Oper)(ds:List Deferred)(k:Tm->St->Prop)(kp:List PanicEntry->Tm->St->Prop)(eE:Array Bool)(l:List Nat)(T:Tm)(S:St)(I:a7)(a:Act)(w:World):Prop where
 size:eE.size=aN.size
 mem:∀i,i<aN.size->(i∈l↔eE.getD i true=false)
 lt:∀i,i∈l->i<aN.size
 alS:l.Nodup
 Yv:Xl aN eE
 aba:zO P H aN (md aN.toList []) l=true
 run:ph P N H aN (md aN.toList []) l T S k kp
 fresh:∀i j,i∈l->cl P H aN i= .new j->gt S j= .dT
 cd:dM N T a
 defers:a.defers=ds
 Iw:Sat I S w
theorem afh{I0:a7}{w0:World}
  (oh:∀i,i<aN.size->vZ (cV aN i)=false) (aiC:∀(i:Nat)(o:Oper),aN[i]?=some o->∀e:Edge,e∈o.after.toList->Region.binds .any e=true->e.on<aN.size)
  (ajD:∀i,i<aN.size->((md aN.toList []).getD i 0).testBit i=false)
  (hk:∀a' w',fh N I0 w0 ds k a' w'->Q .normal a' w') (hQ:∀ch a' w',fh N I0 w0 ds (kp ch) a' w'->Q (.panic ch) a' w'):
  ∀(kU:Nat){eE:Array Bool}{l:List Nat}{T:Tm}{S:St}{I:a7}{a:Act}{w:World},l.length<=kU->a7.le I0 I->cE w0 w->OL P N H aN ds k kp eE l T S I a w->wpAny P .any aN Q kU eE a w:=by
 intro kU;have head:∀{eE:Array Bool}{r:Nat}{l:List Nat}{T:Tm}{S:St}{I:a7}{a:Act}{w:World},OL P N H aN ds k kp eE (r::l) T S I a w->r∈Region.ready .any aN eE:=by
  intro eE r l T S I a w D;have hr:=D.lt r (ni ..);have xP:=(D.mem r hr).1 (ni ..);have cv:aN[r]?=some aN[r]:=by simp[hr]
  unfold Region.ready;refine List.mem_filter.2 ⟨List.mem_range.2 hr,?_⟩;simp only[xP,Bool.not_false,Bool.true_and,cv,Option.map_some,Option.getD_some];rw[<-Array.all_toList,List.all_eq_true];intro e he;cases hb:Region.binds .any e with
  |false=>rfl
  |true=>
   simp only[Bool.not_true,Bool.false_or];have bP:=aiC r _ cv e he hb;have BB:=alb cv he hb;cases hl:eE.getD e.on true with
   |true=>
    have:e.on<eE.size:=by rw[D.size];exact bP
    simpa[pH,this]using hl
   |false=>
    exfalso;have hm:=(D.mem e.on bP).2 hl;rcases List.mem_cons.1 hm with e1|hm
    ·rw[e1,ajD r hr]at BB;cases BB
    ·have hp:=D.aba;simp only[zO,kT,List.all_eq_true]at hp;have:=hp.1 _ hm;simp only[En,kT,Bool.not_eq_true']at this;rw[this.1.1]at BB;cases BB
 have done:∀{eE:Array Bool}{l:List Nat}{T:Tm}{S:St}{I:a7}{a:Act}{w:World},a7.le I0 I->cE w0 w->OL P N H aN ds k kp eE l T S I a w->Region.ready .any aN eE=[]->Q .normal a w:=by
  intro eE l T S I a w bS ft D h0;cases l with
  |nil=>exact hk _ _ ⟨T,S,I,D.cd,D.defers,bS,D.Iw,ft,D.run⟩
  |cons r l=>have:=head D;rw[h0]at this;cases this
 induction kU with
 |zero=>
  intro eE l T S I a w hl bS ft D;have:l=[]:=List.length_eq_zero_iff.1 (Nat.le_zero.1 hl);subst this;have hr:Region.ready .any aN eE=[]:=by
   unfold Region.ready;refine List.filter_eq_nil_iff.2 fun i hi=>?_;have sZ:=List.mem_range.1 hi;have:eE.getD i true=true:=by
    cases hh:eE.getD i true with
    |true=>rfl
    |false=>have:=(D.mem i sZ).2 hh;cases this
   simp[this]
  exact⟨hr,done bS ft D hr⟩
 |succ kU ih=>
  intro eE l T S I a w hl bS ft D;refine⟨done bS ft D,fun i hi=>?_⟩;obtain⟨hi1,jY⟩:=List.mem_filter.1 hi;have bP:=List.mem_range.1 hi1;have cv:aN[i]?=some aN[i]:=by simp[bP]
  have hoa:cV aN i=aN[i]:=by simp[cV,pH,cv]
  simp only[kT,Bool.not_eq_true',cv,Option.map_some,Option.getD_some]at jY;obtain⟨hnl,qu⟩:=jY;rw[<-Array.all_toList,List.all_eq_true]at qu;have ZU:∀e,e∈aN[i].after.toList->Region.binds .any e=true->eE.getD e.on false=true:=fun e he hb=>by
   have:=qu e he;rw[hb]at this;simpa using this
  have tc:=(D.mem i bP).2 hnl;obtain⟨R1,R2,rfl⟩:=List.append_of_mem tc;obtain⟨vR,iE,hp3⟩:=amc D.aba;have gx:∀r,r<aN.size->eE.getD r true=false->eE.getD r false=false:=fun r hr h=>by
   have:r<eE.size:=by rw[D.size];exact hr
   simpa[pH,this]using h
  have BB:∀r,r∈R1->((md aN.toList []).getD i 0).testBit r=false:=fun r hr=>by
   cases hb:((md aN.toList []).getD i 0).testBit r with
   |false=>rfl
   |true=>
    have KU:r∈R1++i::R2:=rC _ hr;have ZW:=D.lt r KU;have:=ald eE D.Yv aN.toList [] (fun j=>aM) (fun i hi=>by simp at hi) i aN[i] cv ZU r hb (by simpa using bP);rw[gx r ZW ((D.mem r ZW).1 KU)]at this;cases this
  have jJ:∀r,r∈R1->I8 P H aN (md aN.toList []) i r:=fun r hr=>by
   have:=vR r hr;simp only[En,kT,BB r hr,Bool.false_or]at this;exact⟨BB r hr,this.2.1,this.2.2,oh r (D.lt r (rC _ hr))⟩
  have hmv:=move (kp:=kp) (oh i bP) jJ (fun j hj=>D.fresh i j tc hj) D.run D.cd D.defers D.Iw;have hY:(R1++R2).Nodup/\i∉R1++R2:=by
   have:=D.alS;rw[List.nodup_append]at this;obtain⟨h1,h2,h3⟩:=this;rw[List.nodup_cons]at h2;refine⟨List.nodup_append.2 ⟨h1,h2.2,fun a ha b hb=>h3 a ha b (sS _ hb)⟩,fun hm=>?_⟩;rcases List.mem_append.1 hm with hm|hm
   ·exact h3 i hm i (ni ..) rfl
   ·exact h2.1 hm
  unfold wpOp;rw[cv];simp only;have ai8:o6 P N aN (cV aN i) (H i) T S (fun T' S'=>(∀r j,r∈R1++R2->cl P H aN r= .new j->gt S' j= .dT)/\ph P N H aN (md aN.toList []) (R1++R2) T' S' k kp)
    (match vc (md aN.toList []) i R2 with|true=>fun ch _ S=>∀T,kp ch T S|false=>fun _ _ _=>False):=by
   refine SX (φ:=fun S=>S) (oh i bP) (fun _ _=>rfl) (Fr.id _) (qg.id _) hmv (fun v S' ho hh=>⟨fun r j hr hj=>?_,hh⟩) (fun _ _ h=>h);have KU:r∈R1++i::R2:=by
    rcases List.mem_append.1 hr with hr|hr
    ·exact rC _ hr
    ·exact List.mem_append_right _ (sS _ hr)
   rw[ho j ?_]
   ·exact D.fresh r j KU hj
   intro hm;rcases List.mem_append.1 hr with hr|hr
   ·
    have DZ:=(jJ r hr).pass;rw[hj]at DZ;have DW:j∈jZ (cl P H aN i):=hm;revert DZ DW;cases cl P H aN i <;> intro DZ DW <;> simp only[B3]at DZ <;> simp only[jZ]at DW
    ·simp at DW
    ·simp only[List.mem_singleton]at DW;subst DW;simp at DZ
    ·cases DZ
   ·
    have:=hp3 r hr;simp only[En,kT]at this;have hu:=this.1.2;have hjr:gZ (im P (cV aN r) (H r))= .new j:=hj;rw[hjr]at hu;exact xy hu j aM (List.mem_append_right _ hm)
  have:=aa2 (next:=wpAny P .any aN Q kU (eE.setIfInBounds i true)) (Q:=Q) ai8 D.cd D.defers D.Iw (fun a' w' bN=>?_) (fun ch a' w' bN=>?_)
  ·rw[hoa]at this;exact this
  ·obtain⟨T',S',J,h1,h2,h3,h4,h5,hf,h6⟩:=bN;refine ih (l:=R1++R2) (T:=T') (S:=S') (I:=J) (by simp at hl⊢;omega) (a7.le_trans bS h3) (ft.trans h5) ?_;refine⟨by simpa using D.size,fun j hj=>?_,fun j hj=>D.lt j ?_,hY.1,?_,iE,h6,hf,h1,h2,h4⟩
   ·have hjs:j<eE.size:=by rw[D.size];exact hj
    by_cases DV:j=i
    ·subst DV;refine⟨fun hm=>absurd hm hY.2,fun hh=>?_⟩;simp[pH,hjs]at hh
    ·have hm:=D.mem j hj;have e1:(eE.setIfInBounds i true).getD j true=eE.getD j true:=by
      simp[pH,Array.getElem?_setIfInBounds,show ¬i=j from fun e=>DV e.symm]
     rw[e1,<-hm];simp[DV]
   ·rcases List.mem_append.1 hj with hj|hj
    ·exact rC _ hj
    ·exact List.mem_append_right _ (sS _ hj)
   ·intro j o ho RU e he hb;have mono:∀x,eE.getD x false=true->(eE.setIfInBounds i true).getD x false=true:=fun x hx=>by
     by_cases G2:i=x
     ·subst G2;have:i<eE.size:=by rw[D.size];exact bP
      simp[pH,this]
     ·simpa[pH,Array.getElem?_setIfInBounds,G2]using hx
    by_cases DV:i=j
    ·subst DV;rw[cv]at ho;simp only[Option.some.injEq]at ho;subst ho;exact mono _ (ZU e he hb)
    ·refine mono _ (D.Yv j o ho ?_ e he hb);simpa[pH,Array.getElem?_setIfInBounds,DV]using RU
  ·refine hQ ch a' w' ((bN.from bS ft).mono fun T S h=>?_);revert h;cases vc (md aN.toList []) i R2
   ·exact fun h=>h.elim
   ·exact fun h=>h T
theorem alT:∀(n:Nat)(l:List Nat),l.Nodup->(∀x,x∈l->x<n)->l.length<=n:=by
 intro n
 induction n with
 |zero=>
  intro l _ h;cases l with
  |nil=>simp
  |cons x r=>have:=h x (ni ..);omega
 |succ n ih=>
  intro l hn h;by_cases hm:n∈l
  ·have h1:=ih (l.erase n) (hn.erase n) fun x hx=>by
    grind
   grind
  grind
theorem QY
  (hl:(SZ P H aN l&&Zb S (SI P H aN l))=true) (hr:ph P N H aN (md aN.toList []) l T S k kp) (bw:dM N T a) (hd:a.defers=ds) (hs:Sat I S w)
  (hk:∀a' w',fh N I w ds k a' w'->Q .normal a' w') (hQ:∀ch a' w',fh N I w ds (kp ch) a' w'->Q (.panic ch) a' w'):
  wpAny P .any aN Q aN.size (Array.replicate aN.size false) a w:=by
 simp only[SZ,kT]at hl;obtain⟨⟨⟨⟨⟨h1,h2⟩,h3⟩,h4⟩,h5⟩,h6⟩:=hl;have hY:=Lm h2;have jo:l.length=aN.size:=by simpa using h3
 rw[List.all_eq_true]at h1 h4;have bP:∀i,i∈l->i<aN.size:=fun i hi=>by
  have:=h4 i hi;simp only[kT]at this;have:=this.1;rw[Nat.blt_eq]at this;omega
 have sW:∀i,i<aN.size->i∈l:=by
  intro i hi;refine Classical.byContradiction fun hni=>?_;have:=alT aN.size (i::l) (List.nodup_cons.2 ⟨hni,hY⟩) fun x hx=>by
   grind
  grind
 have arI:∀i,i<aN.size->cV aN i∈aN.toList:=fun i hi=>by
  have:cV aN i=aN[i]:=by simp[cV,pH,hi]
  simp[*]
 refine afh (k:=k) (kp:=kp) (H:=H) (I0:=I) (w0:=w) (fun i hi=>?_) (fun i o ho e he hb=>?_) (fun i hi=>?_) hk hQ aN.size (l:=l) (T:=T) (S:=S) (I:=I) af (a7.le_refl I) (cE.refl w)
  ⟨aM,fun i hi=>?_,bP,hY,fun i o _ hli=>?_,h5,hr,fun i j hi hj=>?_,bw,hd,hs⟩
 ·grind
 ·have hi:i<aN.size:=by
   grind
  have:=h1 o (by grind);simp only[kT,List.all_eq_true]at this;have:=this.2 e he;rw[hb]at this;simp only[Bool.not_true,Bool.false_or]at this;rw[Nat.blt_eq]at this;omega
 ·grind
 ·simp[*]
 ·exfalso;simp[pH,Array.getElem?_replicate]at hli;grind
 ·have hm:j∈SI P H aN l:=List.mem_filterMap.2 ⟨i,hi,by
   have:gZ (im P (cV aN i) (H i))= .new j:=hj;rw[this]⟩
  have:=List.all_eq_true.1 h6 j hm;grind
end
end
section
open Go
section
variable{P:Program}{N:Nat}
theorem FG(hm:P.follows .mixedOrders=true)(H:kj):∀(c:Code){key:Nat}{T:Tm}{S:St}{K:Exit->Tm->St->Prop}{a:Act}{I:a7}{w:World}{ds:List Deferred}{Q:Exit->Act->World->Prop},
  E P N H c key T S K->dM N T a->a.defers=ds->Sat I S w->(∀e a' w',fh N I w ds (K e) a' w'->Q e a' w')->c.wp P Q a w:=by
 intro c
 induction c with
 |skip=>
  intro key T S K a I w ds Q h bw hd hs hQ;exact wp_skip (hQ _ _ _ ⟨T,S,I,bw,hd,a7.le_refl I,hs,cE.refl w,h⟩)
 |exit id=>
  intro key T S K a I w ds Q h bw hd hs hQ;exact wp_exit (hQ _ _ _ ⟨T,S,I,bw,hd,a7.le_refl I,hs,cE.refl w,h⟩)
 |ret=>
  intro key T S K a I w ds Q h bw hd hs hQ;exact wp_ret (hQ _ _ _ ⟨T,S,I,bw,hd,a7.le_refl I,hs,cE.refl w,h⟩)
 |seq x y zF xX=>
  intro key T S K a I w ds Q h bw hd hs hQ;simp only[E]at h;refine wp_seq ?_;split at h
  ·refine zF h bw hd hs fun e a' w' bN=>?_;cases e with
   |normal=>
    obtain⟨T',S',J,h1,h2,h3,h4,h5,h6⟩:=bN;exact xX h6 h1 h2 h4 fun e a w h=>hQ e a w (h.from h3 h5)
   |_=>exact hQ _ _ _ bN
  ·rename_i V hV
   have go:∀Pr:V.X->Prop,(E P N H x key T S fun e T S=>match e with| .normal=>∃x,Pr x/\ki T (V.lv x)/\aD S (bD (V.st x))|e=>K e T S)->
     (∀x js,Pr x->E P N H y key (kE js (V.lv x)) (bD (V.st x)) K)->Code.wp P x (Exit.then (Code.wp P y Q) Q) a w:=by
    intro Pr hx hy;refine zF hx bw hd hs fun e a' w' bN=>?_;cases e with
    |normal=>
     obtain⟨T',S',J,h1,h2,h3,h4,h5,x,hp,he,jW⟩:=bN;obtain⟨J',bS,el⟩:=jW.h J w' h4;exact xX (hy x T'.z00 hp) (qB h1 he) h2 el fun e a w h=>hQ e a w (h.from (a7.le_trans h3 bS) h5)
    |_=>exact hQ _ _ _ bN
   split at h
   ·exact go _ h.1 h.2
   ·obtain⟨_,hx,hy⟩:=h;exact go _ hx hy
 |cond x c1 c2 Sq Sr=>
  intro key T S K a I w ds Q h bw hd hs hQ;simp only[E]at h;split at h
  ·rename_i t ht
   have hc:a.eval x= .bool t:=by rw[bw.eval];exact ht
   refine wp_cond hc ?_;rcases Br.cases h with⟨rfl,hk⟩| ⟨rfl,hk⟩
   all_goals grind
  grind
 |block id c ih=>
  intro key T S K a I w ds Q h bw hd hs hQ;simp only[E]at h;refine wp_block (ih h bw hd hs fun e a' w' bN=>?_);cases e with
  |exit i=>
   simp only[Exit.inBlock];by_cases hi:i=id
   ·subst hi;simp only[if_true];refine hQ _ _ _ (bN.mono fun T S h=>?_);simpa using h
   ·simp only[hi,if_false];refine hQ _ _ _ (bN.mono fun T S h=>?_);simpa[vB hi]using h
  |_=>exact hQ _ _ _ bN
 |scope c ih=>
  intro key T S K a I w ds Q h bw hd hs hQ;simp only[E]at h;refine wp_scope_straight (ih h bw hd hs fun e a' w' bN=>?_);cases e with
  |goto l=>
   obtain⟨_,_,_,_,_,_,_,_,h6⟩:=bN;grind
  |_=>exact hQ _ _ _ bN
 |loop c ih=>
  intro key T S K a I w ds Q h bw hd hs hQ;simp only[E]at h;split at h
  ·grind
  ·rename_i V hV
   have go:∀Pr:V.X->Prop,(∃x,Pr x/\ki T (V.lv x)/\aD S (bD (V.st x)))->(∀x js,Pr x->E P N H c key (kE js (V.lv x)) (bD (V.st x)) fun e T S=>match e with
     | .normal=>∃y,Pr y/\ki T (V.lv y)/\aD S (bD (V.st y))/\V.mu y<V.mu x
     |e=>K e T S)->Code.wp P (.loop c) Q a w:=by
    rintro Pr ⟨x0,vQ,GF,GG⟩ GW;obtain⟨J0,BG,BJ⟩:=GG.h I w hs;refine wp_loop_ghost (fun n a' w'=>∃x js J,V.mu x=n/\Pr x/\dM N (kE js (V.lv x)) a'/\a'.defers=ds/\a7.le I J/\Sat J (bD (V.st x)) w'/\cE w w') (V.mu x0)
     ⟨x0,T.z00,J0,rfl,vQ,qB bw GF,hd,BG,BJ,cE.refl w⟩ ?_
    rintro n a' w' ⟨x,js,J,rfl,hp,oY,uE,bS,el,ft⟩;refine ih (GW x js hp) oY uE el fun e a2 w2 bN=>?_;cases e with
    |normal=>
     obtain⟨T',S',J',h1,h2,h3,h4,h5,y,GU,GI,GH,GQ⟩:=bN;obtain⟨J2,og,dD⟩:=GH.h J' w2 h4;exact⟨V.mu y,GQ,y,T'.z00,J2,rfl,GU,qB h1 GI,h2,a7.le_trans bS (a7.le_trans h3 og),dD,ft.trans h5⟩
    |_=>exact hQ _ _ _ (bN.from bS ft)
   split at h
   ·exact go _ h.1 h.2
   ·obtain⟨_,hx,hy⟩:=h;exact go _ hx hy
 |region id aN Kd=>
  intro key T S K a I w ds Q h bw hd hs hQ;simp only[E]at h;split at h
  ·exact wp_region (WA _ h bw hd hs (fun a w h=>hQ _ a w h) (fun ch a w h=>hQ _ a w h))
  ·exact wp_region_any hm (QY h.1 h.2 bw hd (hs.heap (w':={w with drawn:=w.drawn+1}) rfl) (fun a w h=>hQ _ a w (h.from (a7.le_refl _) ap)) (fun ch a w h=>hQ _ a w (h.from (a7.le_refl _) ap)))
 |_=>intro key T S K a I w ds Q h;exact h.elim
variable{c:Code}{C:aR}{fn:Func}{f:FuncId}
theorem Fe{T:Tm}{a:Act}(h:dM N T a):results fn a.tmps=kK fn T:=by
 unfold results kK;congr 1;congr 1;funext r;cases r with
 |tmp t=>simp only[h.get]
 |cell x t=>simp only[h.get]
theorem afT(hm:P.follows .mixedOrders=true){H:kj}{rh:List LH}{args:List Value}{S:St}{R:Ending->St->Prop}{I:a7}{w:World}
  (hf:P.funcs[f]?=some fn) (hb:fn.body=some c) (hN:fn.ntmps=N) (hl:args.length<=N) (h:Body P N fn H rh c (oS args) S R) (hs:Sat I S w):
  Calls P f ⟨args⟩ w fun e w'=>∃J S',a7.le I J/\Sat J S' w'/\cE w w'/\R e S':=by
 refine calls_of_wp hf hb ?_;rw[hN];refine FG hm H c h (Is args hl) rfl hs fun e a w' bN=>?_;obtain⟨T,S',J,h1,h2,h3,h4,h5,h6⟩:=bN;have fin:rd P S' (kK fn T) rh (fun v=>R (.returned v) S')->a.defers=[]/\∃v,(results fn a.tmps).run P w'= .ok v w'/\∃J S',a7.le I J/\Sat J S' w'/\cE w w'/\R (.returned v) S':=fun h6=>by
  obtain⟨v,cm,hR⟩:=yC h4 _ _ _ h6;exact⟨h2,v,by rw[Fe h1];omega,J,S',h3,h4,h5,hR⟩
 cases e with
 |normal=>exact fin h6
 |ret=>exact fin h6
 |panic ch=>exact⟨h2,J,S',h3,h4,h5,h6⟩
 |_=>exact h6.elim
theorem ahP(hm:P.follows .mixedOrders=true)(hf:P.funcs[f]?=some fn)(hb:fn.body=some c)(hN:fn.ntmps=N)(hl:∀x,(C.args x).length<=N)
  (H:C.X->ai->kj) (rh:List LH)
  (h:∀x F,C.cond x->C.aQ x F->Body P N fn (H x F) rh c (oS (C.args x)) (bD (C.pre x++[F])) (aq C x F)):lB P f C:=by
 refine⟨fun x F I w hc hr hs=>?_⟩;refine(afT hm hf hb hN (hl x) (h x F hc hr) hs).mono ?_;rintro e w' ⟨J,S',bS,el,ft,⟨y,bw,rfl,jW⟩⟩;obtain⟨J',xK,dD⟩:=jW.h J w' el;exact⟨y,J',bw,rfl,a7.le_trans bS xK,dD,ft⟩
theorem lB.DE{C':aR}(h':lB P f C')
  (h:∀x F I w,C.cond x->C.aQ x F->Sat I (bD (C.pre x++[F])) w->∃x' J,a7.le I J/\C'.cond x'/\C'.aQ x' F/\C.args x=C'.args x'/\Sat J (bD (C'.pre x'++[F])) w/\
   ∀y',C'.cd x' y'->∃y,C.cd x y/\C'.val x' y'=C.val x y/\aD (bD (C'.post x' y'++[F])) (bD (C.post x y++[F]))):lB P f C:=by
 refine⟨fun x F I w hc hr hs=>?_⟩;obtain⟨x',J,bS,mI,vS,ha,el,hy⟩:=h x F I w hc hr hs;rw[ha];refine(h'.h x' F J w mI vS el).mono ?_;rintro e w' ⟨y',J',bw,rfl,xK,qw,ft⟩;obtain⟨y,h1,h2,h3⟩:=hy y' bw;obtain⟨J2,og,dD⟩:=h3.h J' w' qw;exact⟨y,J2,h1,h2,a7.le_trans bS (a7.le_trans xK og),dD,ft⟩
end
end
section
open Go
theorem aD.refl(S:St):aD S S:=⟨fun I _ h=>⟨I,a7.le_refl I,h⟩⟩
variable{I:a7}{bF:List Nat}{vs:List Value}{b j k:Nat}{B:Prop}{S S':St}{e t:TypeId}{w:World}
theorem aD.trans{Xu:St}(h:aD S S')(h':aD S' Xu):aD S Xu:=⟨fun I w hs=>by
 obtain⟨J,bS,el⟩:=h.h I w hs;obtain⟨K,xK,ajz⟩:=h'.h J w el;exact⟨K,a7.le_trans bS xK,ajz⟩⟩
theorem Sat.pick(xW:List Nat)(hn:nodupB xW=true)(e:bD (xW.map (gt S))=S')(h:Sat I S w):Sat I S' w:=by
 subst e;have hY:=Lm hn;obtain⟨f,h1,h2,h3⟩:=h.mN;refine⟨⟨fun i b=>∃h:i<xW.length,f xW[i] b,fun i=>?_,fun i i' b hb l8=>?_,fun i b hb=>?_⟩,h.o0⟩
 ·rw[vL,fD];by_cases hi:i<xW.length
  ·simp[*]
  ·simp only[gw,sQ (Nat.le_of_not_lt hi),Option.map_none,Option.getD_none];trivial
 ·obtain⟨hi,hb⟩:=hb;obtain⟨sZ,l8⟩:=l8;have:=h2 _ _ _ hb l8;have R8:=List.pairwise_iff_getElem.1 hY;grind
 grind
theorem aD.pick(xW:List Nat)(hn:nodupB xW=true)(e:bD (xW.map (gt S))=S'):aD S S':=⟨fun I _ h=>⟨I,a7.le_refl I,h.pick xW hn e⟩⟩
theorem aG{t:Bool}{A:Prop}(h1:t=true->A)(h2:t=false->B):Br t A B:=by
 cases t
 ·exact h2 rfl
 ·exact h1 rfl
@[simp] theorem ard (A B:Prop):Br true A B=A:=rfl
@[simp] theorem arc (A B:Prop):Br false A B=B:=rfl
theorem bl{p:Prop}[Decidable p]{A:Prop}(h1:p->A)(h2:¬p->B):Br (decide p) A B:=aG (fun e=>h1 (l7 e)) (fun e=>h2 (Ro e))
@[simp] theorem arV (b o:Nat):dS ⟨b,o,none⟩ b:=ap
theorem QT{h:Hp}{fr:Nat×Nat}(hb:h b=some (.cells ⟨vs⟩ t fr))(o:Nat):xw h ⟨b,o,none⟩=vs[o]?:=by
 unfold xw;simp[hb]
theorem aO.cells{b o:Nat}{vs:List Value}{t:TypeId}{v:Value}(h:vs[o]?=some v):aO (.cells b vs t) ⟨b,o,none⟩ v:=⟨fun I h' o' _ hA=>by
 rw[QT hA.2];exact h⟩
theorem aO.rest(hj:j∉bF){a:Addr}{v:Value}(h:aO (gt S j) a v):aO (.dv (rest S bF)) a v:=⟨fun I h' o hc hA=>by
 obtain⟨f,h1,_,_⟩:=hA;have:=h1 j;rw[Ku]at this;simp only[hj,if_false]at this;exact h.h I h' _ hc this⟩
theorem aO.sub{A B:ai}(hs:Sub A B){a:Addr}{v:Value}(h:aO A a v):aO B a v:=⟨fun I h' o hc hB=>by
 obtain⟨o',hA⟩:=hs I h' o hB;exact h.h I h' o' hc hA⟩
def da(A:ai)(a:Addr)(ys:List Value):Prop:=∀j u,ys[j]?=some u->aO A (a.add j) u
theorem da.sub{A B:ai}(hs:Sub A B){a:Addr}{ys:List Value}(h:da A a ys):da B a ys:=fun j u hj=>(h j u hj).sub hs
theorem sD(b o j:Nat):(⟨b,o,none⟩:Addr).add j=⟨b,o+j,none⟩:=by
 unfold Addr.add;simp[*]
theorem da.rest(hj:j∉bF){a:Addr}{ys:List Value}(h:da (gt S j) a ys):da (.dv (rest S bF)) a ys:=fun i u hi=>(h i u hi).rest hj
theorem da.cells{b o:Nat}{vs ys:List Value}{t:TypeId}(h:∀j u,ys[j]?=some u->vs[o+j]?=some u):da (.cells b vs t) ⟨b,o,none⟩ ys:=fun j u hj=>by
 rw[sD];exact aO.cells (h j u hj)
structure Row where
 a:Option Addr
 n:Nat
 cap:Nat
 A:ai
def Row.v(r:Row):Value:=.slice r.a r.n r.cap
inductive bv(e:TypeId)(k:Nat)(cs:List Value):Row->Prop
 |nil (h:cs=[]):bv e k cs ⟨none,0,0,.dT⟩
 |gg (b n cap:Nat) (sp:List Value) (hl:cs.length=n*k) (hs:(cs++sp).length=cap*k) (hn:n<=cap):bv e k cs ⟨some ⟨b,0,none⟩,n,cap,.cells b (cs++sp) e⟩
theorem bv.len{cs:List Value}{r:Row}(h:bv e k cs r):cs.length=r.n*k:=by
 cases h with
 |nil h=>subst h;simp
 |gg b n cap sp hl hs hn=>exact hl
theorem bv.le{cs:List Value}{r:Row}(h:bv e k cs r):r.n<=r.cap:=by
 cases h with
 |nil h=>exact cr _
 |gg b n cap sp hl hs hn=>exact hn
def dF:Row:=⟨none,0,0,.dT⟩
section
variable{P:Program}
theorem Sat.setRow(h:Sat I S w){Fw:List Value}(hj:gt S j= .cells b vs t):Sat I (gn S j (.cells b Fw t)) (w.setRow b ⟨Fw⟩):=by
 have hb:=h.cells hj;refine h.write (b:=b) (fun o ho=>by rw[hj]at ho;exact ho.1) (fun c hc=>setRow_other w b c _ hc) (by simp[*]) (fun o ho=>?_);rw[hj]at ho;exact⟨ho.1,setRow_heap w b _ _ t _ hb⟩
theorem Sat.alloc(h:Sat I S w)(j:Nat)(cs:Array Value)(t:TypeId):Sat I (gn S j (.cells w.heap.size cs.toList t)) (w.drew.alloc (.cells cs t)):=by
 have:=(h.heap (w':=w.drew) rfl).new j (.cells cs t);exact this
theorem da.cell(h:Sat I S w){a:Addr}{ys:List Value}(hs:da (gt S j) a ys):∀i u,ys[i]?=some u->w.cell? (a.add i)=some u:=fun i u hi=>h.look (hs i u hi)
theorem CW(A B F:ai):gn (bD [A,F]) 0 B=bD [B,F]:=rfl
structure qX where
 r:Row
 cs:List Value
 a:Option Addr
 m:Nat
 c:Nat
 ys:List Value
def dt(e:TypeId)(k bytes:Nat):aR where
 X:=qX
 Y:=Row
 args x:=[.slice x.r.a x.r.n x.r.cap,.slice x.a x.m x.c]
 pre x:=[x.r.A]
 cond x:=bv e k x.cs x.r/\x.ys.length=x.m*k/\(∀u∈x.ys,u.oneCell'=true)/\(x.r.n+x.m)*bytes<=140737488355328/\x.r.n+x.m<=9223372036854775807/\(x.a=none->x.m=0/\x.c=0)
 aQ x F:=∀a,x.a=some a->da F a x.ys
 cd x r:=bv e k (x.cs++x.ys) r/\r.n=x.r.n+x.m/\(x.m=0->r=x.r)
 val _ r:=.returned r.v
 post _ r:=[r.A]
 eX _ _ _ hs h a ha:=(h a ha).sub hs
theorem kP{o:Oper}{s x:Operand}{cy:TypeInfo}{z:Value}(k bytes:Nat)(ho:o.op= .call {callee:=.builtin .append,args:=#[s,x],argTypes:=#[t,t]})
  (ht:P.underlying t=some (.slice e)) (hi:P.info? e=some cy) (hz:cy.zero=some z) (hk:cy.size=k) (hb:cy.bytes=bytes) (G4:z.cells.size=k) (hk0:0<k):fj P o (dt e k bytes):=by
 refine⟨fun x F I w ρ ha hc hr hs=>?_⟩;obtain⟨r,cs,a,m,c,ys⟩:=x;obtain⟨bB,tf,xT,xC,DS,ZQ⟩:=hc;dsimp only at bB tf xT xC DS ZQ;simp only[ho,Op.operands,Call.operands,dt]at ha;have c5:ρ s= .slice r.a r.n r.cap/\ρ x= .slice a m c:=by simpa using ha
 obtain⟨qv,rH⟩:=c5;have l_:∀w',(execOp ρ o).run P w'=((Builtin.append_ #[t,t] o.type #[.slice r.a r.n r.cap,.slice a m c]).run P w').andThen fun v w2=>.ok (.value v) w2:=by
  intro w';simp[execOp,ho,resolve,invoke,builtin,qv,rH]
 subst hk;subst hb;by_cases hm:m=0
 ·subst hm;have hy:ys=[]:=List.eq_nil_of_length_eq_zero (by simpa using tf);subst hy;refine⟨r,I,w,r.v,⟨by simpa using bB,rfl,fun _=>rfl⟩,?_,rfl,a7.le_refl I,hs,cE.refl w⟩;have bS:=bB.le;rw[l_];cases bB <;> cases a <;> simp[Builtin.append_,run_underlying ht,sizeOf,typeInfo,hi,Builtin.lenOf,Builtin.firstCells,loadCells,loadCellsFrom,storeCells,bS,Row.v]
 obtain⟨ad,rfl⟩:∃ad,a=some ad:=by
  cases a with
  |none=>exact absurd (ZQ rfl).1 hm
  |some ad=>exact⟨ad,rfl⟩
 have ajC:da F ad ys:=hr ad rfl;have xD:∀i u,ys[i]?=some u->w.cell? (ad.add i)=some u:=da.cell hs (j:=1) (show da (gt (bD [r.A,F]) 1) ad ys from ajC);dsimp only[dt,List.cons_append,List.nil_append]at hs;clear hr ha;cases bB with
 |nil h=>
  subst h;have cm:=run_append_nil (P:=P) w t o.type e cy z ht hi hz ad m c ys tf xD af (by dsimp only at DS;omega) (by dsimp only at xC;simp only[jk]at xC;omega);refine⟨⟨some ⟨w.heap.size,0,none⟩,m,grownCap w m 0 e,.cells w.heap.size (ys++(Builtin.zeroCells z.cells (grownCap w m 0 e-m)).toList) e⟩,I,w.drew.alloc (.cells (ys.toArray++Builtin.zeroCells z.cells (grownCap w m 0 e-m)) e),_,⟨.gg _ _ _ _ ?_ ?_ (grownCap_ge w m 0 e),?_,?_⟩,?_,rfl,a7.le_refl I,?_,ap⟩
  ·simpa using tf
  ·have:=grownCap_ge w m 0 e;simp only[List.nil_append,gi,Array.length_toList,size_zeroCells,G4,tf,<-Nat.add_mul];congr 1;omega
  ·simp
  ·intro e;exact absurd e hm
  ·left;rw[l_,cm];rfl
  ·have:=hs.alloc 0 (ys.toArray++Builtin.zeroCells z.cells (grownCap w m 0 e-m)) e;simpa[dt,CW]using this
 |gg b n cap sp hl dD hn=>
  have pK:w.heap[b]?=some (.cells ⟨cs++sp⟩ e (0,0)):=hs.cells (j:=0) rfl;by_cases BH:n+m<=cap
  ·have KJ:n*cy.size+ys.length<=(⟨cs++sp⟩:Array Value).size:=by
    show n*cy.size+ys.length<=(cs++sp).length;rw[tf,dD,<-Nat.add_mul];exact Nat.mul_le_mul_right _ BH
   have cm:=run_append_room (P:=P) w t o.type e cy ht hi b n cap ⟨cs++sp⟩ pK ad m c ys tf xD xT BH KJ;have KX:(cs++sp).take (n*cy.size)=cs:=by rw[<-hl];exact List.take_left
   have jo:(cs++ys++(cs++sp).drop (n*cy.size+ys.length)).length=cap*cy.size:=by
    simp only[gi,List.length_drop]at KJ dD⊢;rw[hl]at dD⊢;have:n*cy.size+ys.length<=cap*cy.size:=by rw[tf,<-Nat.add_mul];exact Nat.mul_le_mul_right _ BH
    omega
   refine⟨⟨some ⟨b,0,none⟩,n+m,cap,.cells b (cs++ys++(cs++sp).drop (n*cy.size+ys.length)) e⟩,I,w.setRow b ⟨cs++ys++(cs++sp).drop (n*cy.size+ys.length)⟩,_,⟨.gg _ _ _ _ ?_ jo BH,rfl,fun e=>absurd e hm⟩,?_,rfl,a7.le_refl I,?_,ap⟩
   ·rw[gi,hl,tf,Nat.add_mul]
   ·left;rw[l_,cm];simp only[KX];rfl
   ·have:=hs.setRow (j:=0) (b:=b) (vs:=cs++sp) (t:=e) (Fw:=cs++ys++(cs++sp).drop (n*cy.size+ys.length)) rfl;simpa[dt,CW,KX]using this
  ·have holds:∀j v,cs[j]?=some v->w.cell? ((⟨b,0,none⟩:Addr).add j)=some v:=by
    intro j v hj;have bP:=(mG.1 hj).1;rw[sD,DC (b:=b) ap pK];simp only[jk];rw[rB bP];exact hj
   have cm:=run_append_grow (P:=P) w t o.type e cy z ht hi hz ⟨b,0,none⟩ n cap cs hl holds ad m c ys tf xD af (by dsimp only at DS;omega) (growslice_fits af xC);refine⟨⟨some ⟨w.heap.size,0,none⟩,n+m,grownCap w (n+m) cap e,.cells w.heap.size (cs++ys++(Builtin.zeroCells z.cells (grownCap w (n+m) cap e-(n+m))).toList) e⟩,I,w.drew.alloc (.cells (cs.toArray++ys.toArray++Builtin.zeroCells z.cells (grownCap w (n+m) cap e-(n+m))) e),_,⟨.gg _ _ _ _ ?_ ?_ (grownCap_ge w (n+m) cap e),rfl,fun e=>absurd e hm⟩,?_,rfl,a7.le_refl I,?_,ap⟩
   ·rw[gi,hl,tf,Nat.add_mul]
   ·have:=grownCap_ge w (n+m) cap e;simp only[gi,hl,tf,Array.length_toList,size_zeroCells,G4,<-Nat.add_mul];congr 1;omega
   ·left;rw[l_,cm];rfl
   ·have:=hs.alloc 0 (cs.toArray++ys.toArray++Builtin.zeroCells z.cells (grownCap w (n+m) cap e-(n+m))) e;simpa[dt,CW]using this
end
end
section
open Go
def iI(z:List Value)(n:Nat):List Value:=(List.replicate n z).flatten
theorem Xb(z:List Value)(n:Nat):(iI z n).length=n*z.length:=by unfold iI;simp
theorem acK(v:Value)(n:Nat):iI [v] n=List.replicate n v:=by
 unfold iI;simp[*]
theorem aqz(z:List Value)(n:Nat):iI z (n+1)=z++iI z n:=by unfold iI;simp[List.replicate_succ]
theorem aqy(z:List Value)(hz:z≠[]):∀(n i:Nat),i<n*z.length->(iI z n)[i]?=z[i%z.length]?:=by
 have hp:0<z.length:=List.length_pos_iff.2 hz;intro n
 induction n with
 |zero=>intro i h;omega
 |succ n ih=>
  intro i h;rw[aqz];by_cases hi:i<z.length
  ·rw[rB hi,Nat.mod_eq_of_lt hi]
  ·rw[sR af,ih _ (by grind)];have:i%z.length=(i-z.length)%z.length:=Nat.mod_eq_sub_mod af;rw[this]
theorem aqx(z:Array Value)(n:Nat)(hz:z.size≠0):(Builtin.zeroCells z n).toList=iI z.toList n:=by
 have hz':z.toList≠[]:=fun e=>hz (by rw[<-Array.length_toList,e];rfl);refine List.ext_getElem? fun i=>?_;have jo:(Builtin.zeroCells z n).toList.length=n*z.size:=by rw[Array.length_toList,size_zeroCells]
 by_cases hi:i<n*z.size
 ·rw[aqy _ hz' n i af];have hm:i%z.size<z.size:=Nat.mod_lt _ af;simp[Builtin.zeroCells,hi,hm,getElem!_pos]
 ·rw[sQ af,sQ (by rw[Xb];grind)]
section
variable{P:Program}
structure FR where
 n:Int
 c:Int
def wc(e:TypeId)(z:List Value)(bytes:Nat):aR where
 X:=FR
 Y:=Nat
 args x:=[.int .i64 x.n,.int .i64 x.c]
 cond x:=0<=x.n/\x.n<=x.c/\x.c*bytes<=281474976710656/\x.c<=9223372036854775807
 val x b:=.returned (.slice (some ⟨b,0,none⟩) x.n.toNat x.c.toNat)
 post x b:=[.cells b (iI z x.c.toNat) e]
variable{o:Oper}
theorem Ed{l c:Operand}{t e:TypeId}{cy:TypeInfo}{zv:Value}(z:List Value)(bytes:Nat)(ho:o.op= .makeSlice t l c)
  (ht:P.underlying t=some (.slice e)) (hi:P.info? e=some cy) (hz:cy.zero=some zv) (hzc:zv.cells=⟨z⟩) (hk:cy.size=z.length) (hk0:z≠[]) (hb:cy.bytes=bytes):fj P o (wc e z bytes):=by
 refine⟨fun x F I w ρ ha hc hr hs=>?_⟩;obtain⟨n,c'⟩:=x;obtain⟨h0,R3,xC,DS⟩:=hc;dsimp only at h0 R3 xC DS;simp only[ho,Op.operands,wc]at ha;have c5:ρ l= .int .i64 n/\ρ c= .int .i64 c':=by grind
 obtain⟨uF,vN⟩:=c5;subst hb;have hzl:zv.cells.size≠0:=by simp[*]
 have RE:madeCells zv.cells (c'.toNat*cy.size)=Builtin.zeroCells zv.cells c'.toNat:=by
  have:zv.cells.size=cy.size:=by simp[*]
  unfold Builtin.zeroCells madeCells;rw[this]
 have cm:=run_make (P:=P) w t e cy zv ht hi hz .i64 .i64 n c' h0 R3 (by grind) DS;refine⟨w.heap.size,I,w.alloc (.cells (Builtin.zeroCells zv.cells c'.toNat) e),_,ao,?_,rfl,a7.le_refl I,?_,ap⟩
 ·rw[RE]at cm;simp[execOp,ho,uF,vN,cm,Sem.run]
 ·have:=(hs.new 1 (.cells (Builtin.zeroCells zv.cells c'.toNat) e));have e1:(Builtin.zeroCells zv.cells c'.toNat).toList=iI z c'.toNat:=by rw[aqx _ _ hzl,hzc]
  have h2:Sat I [(0,F),(1,.cells w.heap.size (iI z c'.toNat) e)] (w.alloc (.cells (Builtin.zeroCells zv.cells c'.toNat) e)):=by
   rw[<-e1];exact this
  exact Sat.pick [1,0] rfl rfl h2
theorem fj.DE{C C':aR}(h':fj P o C')
  (h:∀x F,C.cond x->C.aQ x F->∃x',C'.cond x'/\C'.aQ x' F/\C.args x=C'.args x'/\C.pre x=C'.pre x'/\
   ∀y',C'.cd x' y'->∃y,C.cd x y/\C'.val x' y'=C.val x y/\C'.post x' y'=C.post x y):fj P o C:=by
 refine⟨fun x F I w ρ ha hc hr hs=>?_⟩;obtain⟨x',mI,vS,ea,ep,hy⟩:=h x F hc hr;rw[ea]at ha;rw[ep]at hs;obtain⟨y',J,w',v,bw,cm,hv,bS,el,he⟩:=h'.h x' F I w ρ ha mI vS hs;grind
end
end
section
open Go
variable{P:Program}
structure w6 where
 b:Nat
 o:Nat
 len:Nat
 cap:Nat
 n:Int
def h_(k:Nat):mw where
 X:=w6
 args x:=[.slice (some ⟨x.b,x.o,none⟩) x.len x.cap,.int .i64 x.n]
 cond x:=0<=x.n/\x.n<x.len
 val x:=.pointer (some ⟨x.b,x.o+x.n.toNat*k,none⟩)
variable{cs ys:List Value}{k:Nat}{a:Option Addr}{r:Row}{e:TypeId}
theorem jp{o:Oper}{x i:Operand}{t:TypeId}{cy:TypeInfo}(k:Nat)(ho:o.op= .indexAddr t x i)(ht:P.underlying t=some (.slice e))(hi:P.info? e=some cy)(hk:cy.size=k):dH P o (h_ k):=by
 refine⟨fun X w ρ ha hc=>?_⟩;obtain⟨b,off,len,cap,n⟩:=X;obtain⟨h0,h1⟩:=hc;dsimp only at h0 h1;simp only[ho,Op.operands,h_]at ha;obtain⟨hx,hn⟩:ρ x= .slice (some ⟨b,off,none⟩) len cap/\ρ i= .int .i64 n:=by grind
 have gx:P.cellsOf e=cy.size:=by unfold Program.cellsOf;simp[hi]
 subst hk;simp[execOp,ho,hx,hn,Instr.indexAt,asIntOf,run_underlying ht,run_sizeOf w hi,gx,h0,h1,sD,Sem.run,h_]
inductive mt(k:Nat)(ys:List Value):Option Addr->Nat->Prop
 |nil (h:ys=[]):mt k ys none 0
 |gg (b o n:Nat) (h:ys.length=n*k):mt k ys (some ⟨b,o,none⟩) n
 |zero (a:Addr) (h:ys=[]):mt k ys (some a) 0
def rl(F:ai)(a:Option Addr)(ys:List Value):Prop:=∀ad,a=some ad->da F ad ys
theorem rl.sub{A B:ai}(hs:Sub A B)(h:rl A a ys):rl B a ys:=fun ad e=>(h ad e).sub hs
theorem mt.some{n:Nat}(h:mt k ys a n)(hn:0<n):∃b o,a=some ⟨b,o,none⟩:=by
 cases h with
 |nil _=>exact absurd hn (Nat.lt_irrefl 0)
 |gg b o n _=>exact⟨b,o,rfl⟩
 |zero _ _=>exact absurd hn (Nat.lt_irrefl 0)
theorem mt.len{n:Nat}(h:mt k ys a n):ys.length=n*k:=by
 cases h with
 |nil h=>subst h;simp
 |gg b o n h=>exact h
 |zero _ h=>subst h;simp
theorem bv.src(h:bv e k cs r):mt k cs r.a r.n:=by
 cases h with
 |nil h=>exact .nil h
 |gg b n cap sp h1 h2 h3=>exact .gg b 0 n h1
theorem bv.Fo(h:bv e k cs r):rl r.A r.a cs:=by
 cases h with
 |nil h=>intro ad e;cases e
 |gg b n cap sp h1 h2 h3=>
  intro ad e;cases e;refine da.cells fun j u hj=>?_;grind
theorem rl.look{F:ai}{b o j:Nat}{v:Value}(h:rl F (some ⟨b,o,none⟩) ys)(hj:ys[j]?=some v):aO F ⟨b,o+j,none⟩ v:=by
 have:=h _ rfl j v hj
 rwa [sD]at this
end
section
open Go
variable{P:Program}
def gM(W:World):ai:=.dv {holds:=fun I _ _=>a7.le (hp W) I,Eb:=fun _ _ _ _ _ h=>h,mono:=fun _ _ _ _ h k=>a7.le_trans k h}
variable{W w':World}
theorem zJ{a:Addr}{v:Value}(h:W.cell? a=some v):aO (gM W) a v:=⟨fun I h' o hc hA=>by
 have hA:a7.le (hp W) I:=hA;rw[<-Yp]at h;unfold xw at h⊢;cases e:hp W a.block with
 |none=>rw[e]at h;simp at h
 |some ob=>rw[e]at h;rw[hc _ _ (hA _ _ e)];exact h⟩
structure AZ(W w':World):Prop where
 heap:∀b,b<W.heap.size->w'.heap[b]?=W.heap[b]?
 os:w'.os=W.os
 output:w'.output=W.output
theorem entry{f:FuncId}{C:aR}(ii:lB P f C)(x:C.X)(W:World)(qu:C.pre x=[])(hc:C.cond x)(hr:C.aQ x (gM W)):
  Calls P f ⟨C.args x⟩ W fun e w'=>(∃y,C.cd x y/\e=C.val x y)/\AZ W w':=by
 refine(ii.h x (gM W) (hp W) W hc hr ⟨⟨fun _ _=>False,fun j=>?_,fun _ _ _ h=>h.elim,fun _ _ h=>h.elim⟩,fun _ _ h=>h⟩).mono ?_
 ·rw[qu];cases j with
  |zero=>exact a7.le_refl _
  |succ j=>trivial
 ·rintro e w' ⟨y,J,h1,h2,bS,qw,ft⟩;refine⟨⟨y,h1,h2⟩,fun b hb=>?_,ft.1,ft.2⟩;have e:=qw.o0 b _ (bS b (W.heap[b]) (by simp[hp,hb]));rw[show w'.heap[b]?=hp w' b from rfl,e];simp[hb]
theorem AZ.keptBut(h:AZ W w')(may:MemPlace->Prop):W.keptBut w' may:=by
 refine⟨h.os,h.output,fun i hi=>?_⟩;rw[h.heap i hi];grind
theorem AZ.same(h:AZ W w'){p:MemPlace}(hp:p.block<W.heap.size):W.sameAt w' p:=by
 cases p with
 |cell b o=>exact World.cell?_of_block (w:=W) (h.heap b hp)
 |map b=>exact h.heap b hp
theorem acl{H:Type}{g_:TypeId×Value->H}(hl:laidOutB P=true){W W':World}(hk:AZ W W'):∀(ts:List TypeId)(vs:List Value)(ds:List (DataW H))(ps:List MemPlace),
  (ts.all fun t=>P.readableRec t&&Nat.blt t P.types.size)=true->(∀p∈ps,p.block<W.heap.size)->DataW.TrodAll g_ P W 0 (fun _=>true) true ts vs ds ps->
  DataW.TrodAll g_ P W' 0 (fun b=>decide (b<W.heap.size)) true ts vs ds ps
 | [],[],[],_,_,_,h=>h
 |t::ts,v::vs,d::ds,ps,ha,bP,h=>by
  obtain⟨p,q,h1,h2,rfl⟩:=h;simp only[List.all_cons,kT]at ha;refine⟨p,q,WideElems.Trod_stays hl ha.1.1 (Nat.le_of_ble_eq_true ha.1.2) h1 (fun x hx=>hk.same (bP x (by simp[hx]))) (fun x hx=>by simpa using bP x (by simp[hx])),acl hl hk ts vs ds q ha.2 (fun x hx=>bP x (by simp[hx])) h2,rfl⟩
 | [],[],_::_,_,_,_,h=>h.elim
 | [],_::_,_,_,_,_,h=>by cases h
 |_::_,[],_,_,_,_,h=>by cases h
 |_::_,_::_,[],_,_,_,h=>by cases h
theorem am2{H:Type}{g_:TypeId×Value->H}(hl:laidOutB P=true){f:Func}{s:ChangeSpec}{apart fresh handsOn:Bool}{W':World}{args:Array Value}{ds gs:List (DataW H)}{xu:List MemPlace}
  (hW:DataW.Whole g_ P f.params.toList s.vars apart W args.toList ds gs xu) (hv:s.vars=[]) (hs:s.fn H (ds++gs)={results:=[.lit (.bool true)],args:=ds}) (hk:AZ W W')
  {tb:TypeId} (hb:P.underlying tb=some .bool) (hr:f.resultTypes=#[tb]) (GY:(f.params.toList.all fun t=>P.readableRec t&&Nat.blt t P.types.size)=true):
  s.post g_ P f apart fresh handsOn false W args (.bool true) W':=by
 have bP:=hW.lt;obtain⟨p,q,hA,hV,e,_,_⟩:=hW;have hW:DataW.Whole g_ P f.params.toList s.vars apart W args.toList ds gs xu:=⟨p,q,hA,hV,e,by assumption,by assumption⟩;rw[hv]at hV;obtain⟨rfl,rfl⟩:=Go.ChangeShapes.trodVars_none hV;rw[dJ]at e;subst e;refine⟨ds,[],xu,[],xu,[],hW,?_,?_,?_,hk.keptBut _,fun h=>by cases h⟩
 ·rw[hs,hr];exact Go.ChangeShapes.trodAll_mk1 (⟨1,by simp[DataW.trod,Value.cells,hb]⟩)
 ·rw[hs];exact acl hl hk _ _ _ _ GY bP hA
 ·rw[hs,hv];rfl
end
section
open Go
def u_(P:Program)(t:TypeId):DataW Unit->Option Value
 | .lit l=>match P.underlying t,l with
  |some .bool,.bool b=>some (.bool b)
  |some (.int k),.int k' z=>if k'=k then some (.int k z) else none
  |some (.float k),.float k' b=>if k'=k then some (.float k b) else none
  |some .string,.string bs=>some (.string ⟨bs.toArray⟩)
  |_,_=>none
 |_=>none
def Ix(P:Program)(f:TypeId->DataW Unit->Option (List Value)):List (TypeId×Nat)->Nat->List (DataW Unit)->Option (List Value)
 | [],_,[]=>some []
 |x::r,k,d::ds=>if x.2=k then (f x.1 d).bind fun l=>if l.length=P.cellsOf x.1 then (Ix P f r (k+l.length) ds).map fun m=>l++m else none else none
 |_,_,_=>none
def kv(P:Program):Nat->TypeId->DataW Unit->Option (List Value)
 |0,t,d=>(u_ P t d).map fun v=>[v]
 |n+1,t,d=>match d,P.underlying t with
  | .agg ds,some (.struct fs)=>(Ix P (kv P n) (fs.toList.map fun f=>(f.type,f.offset)) 0 ds).bind fun l=>if l.length=P.cellsOf t then some l else none
  | .agg ds,some (.array k e)=>(Ix P (kv P n) ((List.range k).map fun i=>(e,i*P.cellsOf e)) 0 ds).bind fun l=>if l.length=P.cellsOf t then some l else none
  |d,_=>(u_ P t d).map fun v=>[v]
section
variable{P:Program}{w:World}{g_:TypeId×Value->Unit}{uw:Nat}{sp:Nat->Bool}{held:Bool}
theorem abO{t:TypeId}{d:DataW Unit}{v:Value}{kU:Nat}{cs:List Value}{p:List MemPlace}(h:DataW.trod g_ P w uw sp held kU t cs=some (d,p))(hv:u_ P t d=some v):cs=[v]:=by
 cases kU with
 |zero=>simp[DataW.trod]at h
 |succ n=>
  cases d <;> unfold u_ at hv <;> dsimp only at hv <;> try contradiction
  rename_i l
  unfold DataW.trod at h;cases hu:P.underlying t with
  |none=>rw[hu]at hv;cases hv
  |some u=>
   rw[hu]at h hv;cases u <;> cases l <;> dsimp only at hv <;> try contradiction
   all_goals (split at h <;> simp_all)
   all_goals (obtain⟨-,h2,-⟩:=h;subst h2;rw[<-hv])
theorem WM{f:TypeId->DataW Unit->Option (List Value)}{m:Nat}(hf:∀t d l,f t d=some l->∀cs p,DataW.trod g_ P w uw sp held m t cs=some (d,p)->cs=l){cs:List Value}:
  ∀(r:List (TypeId×Nat))(k:Nat)(ds:List (DataW Unit))(L:List Value),Ix P f r k ds=some L->
   (∀(i:Nat)x d,r[i]?=some x->ds[i]?=some d->∃p,DataW.trod g_ P w uw sp held m x.1 ((cs.drop x.2).take (P.cellsOf x.1))=some (d,p))->cs.length=k+L.length->cs.drop k=L
 | [],k,[],L,h,_,hl=>by
  cases h;rw[List.drop_eq_nil_of_le];rw[hl];exact cr _
 |x::r,k,d::ds,L,h,ha,hl=>by
  unfold Ix at h;split at h
  ·rename_i hk
   obtain⟨l,h1,h⟩:=Option.bind_eq_some_iff.1 h;split at h
   ·rename_i hc
    obtain⟨q,h2,rfl⟩:=Option.map_eq_some_iff.1 h;obtain⟨p,hp⟩:=ha 0 x d rfl rfl;have e1:=hf _ _ _ h1 _ _ hp;rw[hk,<-hc]at e1;rw[gi]at hl;have e2:=WM hf r (k+l.length) ds q h2 (fun i y e hy he=>ha (i+1) y e hy he) af;have e3:=List.take_append_drop l.length (cs.drop k);rw[e1,List.drop_drop,e2]at e3;exact e3.symm
   ·cases h
  ·cases h
 | [],_,_::_,_,h,_,_=>by cases h
 |_::_,_,[],_,h,_,_=>by cases h
theorem Kn:∀(n:Nat)(t:TypeId)(d:DataW Unit)(l:List Value),kv P n t d=some l->∀(kU:Nat)(cs:List Value)(p:List MemPlace),DataW.trod g_ P w uw sp held kU t cs=some (d,p)->cs=l
 |0,t,d,l,h,kU,cs,p,hp=>by
  unfold kv at h;obtain⟨v,h2,rfl⟩:=Option.map_eq_some_iff.1 h;exact abO hp h2
 |n+1,t,d,l,h,kU,cs,p,hp=>by
  unfold kv at h;split at h
  ·rename_i ds fs hu
   obtain⟨L,h1,h⟩:=Option.bind_eq_some_iff.1 h;split at h
   ·rename_i hc
    cases h;obtain⟨xs,m,rfl,hx,hl,Si,sW⟩:=DataW.trod_struct hu hp;cases hx;have:=WM (m:=m) (fun t d l e cs p=>Kn n t d l e m cs p) _ 0 _ l h1 (fun i x d hx hd=>by
     rw[gw,Option.map_eq_some_iff]at hx hd;obtain⟨f,hf,rfl⟩:=hx;obtain⟨y,hy,rfl⟩:=hd;exact⟨y.2,by rw[sW i f (by simpa using hf),hy]⟩) af
    simpa using this
   ·cases h
  ·rename_i ds k e hu
   obtain⟨L,h1,h⟩:=Option.bind_eq_some_iff.1 h;split at h
   ·rename_i hc
    cases h;obtain⟨xs,m,rfl,hx,hl,Si,sW⟩:=DataW.trod_array hu hp;cases hx;have:=WM (m:=m) (fun t d l e cs p=>Kn n t d l e m cs p) _ 0 _ l h1 (fun i x d hx hd=>by
     rw[gw,Option.map_eq_some_iff]at hx hd;obtain⟨j,hj,rfl⟩:=hx;obtain⟨y,hy,rfl⟩:=hd;obtain⟨GM,rfl⟩:=mG.1 hj;rw[List.length_range]at GM;rw[List.getElem_range];exact⟨y.2,by rw[sW i GM,hy]⟩) af
    simpa using this
   ·cases h
  ·obtain⟨v,h2,rfl⟩:=Option.map_eq_some_iff.1 h;exact abO hp h2
theorem ab0{kU:Nat}{t e:TypeId}{cs:List Value}{ds sd:List (DataW Unit)}{p:List MemPlace}(hu:P.underlying t=some (.slice e))(hp:DataW.trod g_ P w uw sp held kU t cs=some (.slice ds sd,p)):
  ∃a c,cs=[.slice (some a) ds.length c]/\∀(n i:Nat)(d:DataW Unit)(l:List Value),ds[i]?=some d->kv P n e d=some l->∀(j:Nat)(v:Value),l[j]?=some v->w.cell? (a.add (i*P.cellsOf e+j))=some v:=by
 rcases DataW.trod_slice hu hp with⟨_,hx⟩| ⟨a,len,cap,xs,rs,m,rfl,rfl,hx,hb,hU,hcm,RK,sW,_,_⟩
 ·cases hx
 cases hx;refine⟨a,cap,by rw[List.length_map,RK],fun n i d l hd hf j v hj=>?_⟩;rw[gw,Option.map_eq_some_iff]at hd;obtain⟨y,hy,rfl⟩:=hd;have hi:i<len:=by rw[<-RK];exact(mG.1 hy).1
 have h1:=sW i hi;rw[hy]at h1;obtain⟨es,h2,h3⟩:=Option.bind_eq_some_iff.1 h1;have h4:=Kn n e y.1 l hf m es y.2 h3;subst h4;obtain⟨_,h5,h6⟩:=World.cells?_some h2;have s8:=(mG.1 hj).1;have h7:=h6 j af;rw[hj]at h7;rw[Addr.add_add]at h7;exact h7
theorem ab2{a:Addr}{v:Value}(h:w.cell? a=some v):a.spot=none:=by
 unfold World.cell? at h;split at h
 ·cases hs:a.spot with
  |none=>rfl
  |some s=>rw[hs]at h;simp at h
 ·cases h
end
def vu(P:Program)(w:World)(n:String)(d:DataW Unit):Prop:=
 ∃g t cs kU p,P.globalNamed n=some g/\(P.globals[g]?).map (·.type)=some t/\w.var? P n=some cs/\DataW.trod (fun _=>()) P w 0 (fun _=>true) false kU t cs.toList=some (d,p)
theorem acA{P:Program}{w:World}:∀{l:List (String×DataW Unit)}{ps:List MemPlace},DataW.LaidVars P w l ps->∀x∈l,vu P w x.1 x.2
 | [],_,_,_,hm=>by cases hm
 | (n,d)::r,ps,h,x,hm=>by
  obtain⟨g,t,cs,kU,p,q,h1,h2,h3,h4,h5,_⟩:=h;rcases List.mem_cons.1 hm with e|e
  ·subst e;exact⟨g,t,cs,kU,p,h1,h2,h3,h4⟩
  ·exact acA h5 x e
theorem ti{P:Program}{w:World}{l:List (String×DataW Unit)}(h:laidMet P l w)(i:Nat){n:String}{d:DataW Unit}(hi:l[i]?=some (n,d)):vu P w n d:=
 let ⟨_,hv,_⟩:=h
 acA hv _ (oU hi)
section
variable{P:Program}{w:World}{n:String}{d:DataW Unit}{g:Nat}{t e:TypeId}{l:List Value}
theorem vu.flat(h:vu P w n d)(hg:P.globalNamed n=some g)(ht:(P.globals[g]?).map (·.type)=some t)(k:Nat)(hf:kv P k t d=some l):∃t fr,w.heap[g]?=some (.cells ⟨l⟩ t fr):=by
 obtain⟨g0,t0,cs,kU,p,vO,GX,hv,hp⟩:=h;obtain rfl:=Option.some.inj (hg.symm.trans vO);obtain rfl:=Option.some.inj (ht.symm.trans GX);have:=Kn k _ _ _ hf _ _ _ hp;obtain⟨cl⟩:=cs;have this:cl=l:=this;subst this;unfold World.var? at hv;rw[hg,Option.bind_some]at hv;split at hv
 ·rename_i pF t' fr' e'
  cases hv;exact⟨t',fr',e'⟩
 ·cases hv
theorem vu.look(h:vu P w n d)(hg:P.globalNamed n=some g)(ht:(P.globals[g]?).map (·.type)=some t)(k:Nat)(hf:kv P k t d=some l)(i:Nat){v:Value}(hi:l[i]?=some v):aO (gM w) ⟨g,i,none⟩ v:=by
 obtain⟨t,fr,e⟩:=h.flat hg ht k hf;refine zJ ?_;unfold World.cell?;dsimp only;rw[e];simpa using hi
theorem vu.WT{ds sd:List (DataW Unit)}(h:vu P w n (.slice ds sd))(hg:P.globalNamed n=some g)(ht:(P.globals[g]?).map (·.type)=some t)(hu:P.underlying t=some (.slice e))(k:Nat)(h0:∃d v l,ds[0]?=some d/\kv P k e d=some (v::l)):
  ∃b o c,aO (gM w) ⟨g,0,none⟩ (.slice (some ⟨b,o,none⟩) ds.length c)/\∀(i:Nat)(d:DataW Unit)(l:List Value),ds[i]?=some d->kv P k e d=some l->∀(j:Nat)(v:Value),l[j]?=some v->aO (gM w) ⟨b,o+(i*P.cellsOf e+j),none⟩ v:=by
 obtain⟨g0,t0,cs,kU,p,vO,GX,hv,hp⟩:=h;obtain rfl:=Option.some.inj (hg.symm.trans vO);obtain rfl:=Option.some.inj (ht.symm.trans GX);obtain⟨a,c,h1,h2⟩:=ab0 hu hp;obtain⟨d0,v0,l0,q1,q2⟩:=h0;have h3:=ab2 (h2 k 0 d0 _ q1 q2 0 v0 rfl);obtain⟨b,o,s⟩:=a;have h4:s=none:=by
  rw[Nat.zero_mul]at h3;exact h3
 subst h4;refine⟨b,o,c,zJ ?_,fun i d l hd hf j v hj=>zJ ?_⟩
 ·rw[World.var?_cell hg hv 0,<-Array.getElem?_toList,h1];rfl
 ·have h5:=h2 k i d l hd hf j v hj;have e:(Addr.mk b o none).add (i*P.cellsOf e+j)=⟨b,o+(i*P.cellsOf e+j),none⟩:=by
   unfold Addr.add;split
   ·rename_i h6;rw[h6];rfl
   ·rfl
  rw[e]at h5;exact h5
theorem vu.aoe{k:Nat}{s:TypeId}{Q0:List (List (DataW Unit))}(h:vu P w n (.agg (Q0.map fun ds=>.slice ds [])))(hg:P.globalNamed n=some g)(ht:(P.globals[g]?).map (·.type)=some t)(hu:P.underlying t=some (.array k e))(he:P.underlying e=some (.slice s))(hc:P.cellsOf e=1)(hs:P.cellsOf s=1):
  ∀(i:Nat)(ds:List (DataW Unit)),Q0[i]?=some ds->(∃d v,ds[0]?=some d/\u_ P s d=some v)->
   ∃b o c,aO (gM w) ⟨g,i,none⟩ (.slice (some ⟨b,o,none⟩) ds.length c)/\∀(j:Nat)(d:DataW Unit)(v:Value),ds[j]?=some d->u_ P s d=some v->aO (gM w) ⟨b,o+j,none⟩ v:=by
 obtain⟨g0,t0,cs,kU,p,vO,GX,hv,hp⟩:=h;obtain rfl:=Option.some.inj (hg.symm.trans vO);obtain rfl:=Option.some.inj (ht.symm.trans GX);obtain⟨xs,m,rfl,hx,hl,Si,sW⟩:=DataW.trod_array hu hp;intro i ds hi ⟨d0,v0,q1,q2⟩;have Sj:Q0.map (fun ds=>(.slice ds []:DataW Unit))=xs.map (·.1):=by
  have:=congrArg Prod.fst hx;exact DataW.agg.inj this
 have G2:(xs.map (·.1))[i]?=some (.slice ds []):=by rw[<-Sj,gw,hi];rfl
 rw[gw,Option.map_eq_some_iff]at G2;obtain⟨⟨y,q⟩,hy,nk⟩:=G2;have nk:y= .slice ds []:=nk;subst nk;have hik:i<k:=by rw[<-Si];exact(mG.1 hy).1
 have h1:=sW i hik;rw[hy,hc,Nat.mul_one]at h1;obtain⟨a,c,e1,e2⟩:=ab0 he h1;have fl:∀{d:DataW Unit}{v:Value},u_ P s d=some v->kv P 0 s d=some [v]:=fun h=>by unfold kv;rw[h];rfl
 have h3:=e2 0 0 d0 [v0] q1 (fl q2) 0 v0 rfl;have h4:=ab2 h3;rw[Nat.zero_mul]at h4;obtain⟨b,o,sp⟩:=a;have h4:sp=none:=h4;subst h4;refine⟨b,o,c,zJ ?_,fun j d v hj hd=>zJ ?_⟩
 ·have e3:=congrArg (·[0]?) e1;simp only[List.getElem?_take,List.getElem?_drop]at e3;rw[World.var?_cell hg hv i,<-Array.getElem?_toList];simpa using e3
 ·have h5:=e2 0 j d [v] hj (fl hd) 0 v rfl;rw[hs,Nat.mul_one,Nat.add_zero]at h5;have e:(Addr.mk b o none).add j=⟨b,o+j,none⟩:=by
   unfold Addr.add;split
   ·rename_i h6;rw[h6];rfl
   ·rfl
  rw[e]at h5;exact h5
end
section
variable{H:Type}{g_:TypeId×Value->H}
theorem an1{a:Assume}{C:Checked}{os:Os}{f:FuncId}{fn:Func}{s:ChangeSpec}{Yy:List PathCond}{apart fresh handsOn again:Bool}{X:World->Prop}
  (hX:∀(w w':World),w.heap=w'.heap->X w->X w')
  (mN:ownKnob C.prog.godebug=none) (II:os.Started) (alP:C.prog.inits.idxOf? f=none) (RO:C.prog.funcs[f]?=some fn)
  (aqb:∃(w:World)(tape:Tape)(i:Input),w.os=os/\(w.forCall tape i).Shaped C.prog/\i.vars=[]/\Input.okWide C.prog (w.forCall tape i) .any w.heap.size f i/\
   ((s.pre g_ C.prog fn Yy apart (w.forCall tape i).memory i.args/\X (w.forCall tape i).memory)/\sizedMet g_ C.prog fn (OpenSpec.ofChange s) apart (w.forCall tape i).memory i.args)/\a.holds C.prog (lone (Frame.enter C.prog f i.args .normal) [] (w.forCall tape i)))
  (ags:∀(W:World)(uw:Nat)(args:Array Value)(ds gs:List (DataW H))(xu:List MemPlace),
   (∀(j:Nat)t v,fn.params[j]?=some t->args[j]?=some v->Value.okWide C.prog W .any uw t v)->
   DataW.Whole g_ C.prog fn.params.toList s.vars apart W args.toList ds gs xu->W.ShapedOpen C.prog->
   (DataW.weightsEach C.prog (fn.params.toList++s.plain.varTypes C.prog) (ds++gs)).all (·<=reachBytes)=true->X W->
   Calls C.prog f args W fun e W'=>∃v,e= .returned v/\s.post g_ C.prog fn apart fresh handsOn again W args v W'):
  ReturnsInHanded a C os f .any (fun w args=>(s.pre g_ C.prog fn Yy apart w args/\X w)/\sizedMet g_ C.prog fn (OpenSpec.ofChange s) apart w args) (s.post g_ C.prog fn apart fresh handsOn again):=by
 refine returnsInHanded_of_calls mN II alP aqb ?_;intro w tape i _ hsh _ ii qu _;obtain⟨_,_,_,n5,aiK,_,_,_,_,Sg⟩:=ii;have e:n5=fn:=Option.some.inj (aiK.symm.trans RO);subst e;obtain⟨⟨⟨ds,gs,xu,hw,_⟩,hx⟩,hz⟩:=qu;have hw':=DataW.Whole.of_heap (w':=w.forCall tape i) (by rfl) hw;refine(ags (w.forCall tape i) w.heap.size i.args ds gs xu Sg hw' hsh (hz.weights hw) (hX _ _ (by rfl) hx)).mono fun e W'⟨v,he,hp⟩=>?_;subst he;exact ChangeSpec.post_blind hp
end
end
section
open Go
variable{A:ai}{I:a7}{As Ks:List ai}{bF:List Nat}{cs:List Value}{k:Nat}{r:Row}{S:St}{e:TypeId}{w:World}
theorem qN(j:Nat)(hj:j∉bF)(e:gt S j=A):Sub A (.dv (rest S bF)):=by
 intro I h o hA;obtain⟨f,h1,_,_⟩:=hA;have:=h1 j;rw[Ku]at this;grind
theorem WC(j:Nat)(hj:j∉bF)(e':gt S j=r.A)(h:bv e k cs r):rl (.dv (rest S bF)) r.a cs:=rl.sub (qN j hj e') h.Fo
theorem afU{t:Bool}{A B:Prop}(h:t=true)(a:A):Br t A B:=aG (fun _=>a) (fun e=>by rw[h]at e;cases e)
theorem bv.Bg(h:bv e k cs r)(hn:0<r.n):∃b,r.a=some ⟨b,0,none⟩:=by
 cases h with
 |nil _=>exact absurd hn (Nat.lt_irrefl 0)
 |gg b n cap sp hl hs hn=>exact⟨b,rfl⟩
def uv(As:List ai):ai:=.dv (rest (bD As) [])
theorem Rs{j:Nat}(h:j<Ks.length):gt (bD (Ks++As)) j=Ks.getD j .dT:=by
 rw[vL,fD,rB h,fD]
theorem Kv(Ks As:List ai)(i:Nat):gt (bD (Ks++As)) (Ks.length+i)=As.getD i .dT:=by
 rw[vL,fD,sR af,fD];simp[*]
theorem Sat.Yb(h:Sat I (bD (Ks++As)) w):Sat I (bD (Ks++[uv As])) w:=by
 obtain⟨⟨f,h1,h2,h3⟩,hi⟩:=h;refine⟨⟨fun j b=>(j<Ks.length/\f j b)\/(j=Ks.length/\∃i,f (Ks.length+i) b),fun j=>?_,?_,?_⟩,hi⟩
 ·by_cases hj:j<Ks.length
  ·rw[Rs hj];have:=h1 j;rw[Rs hj]at this;have e:(fun b=>(j<Ks.length/\f j b)\/(j=Ks.length/\∃i,f (Ks.length+i) b))=f j:=by
    grind
   grind
  ·by_cases he:j=Ks.length
   ·subst he;have e0:gt (bD (Ks++[uv As])) Ks.length=uv As:=Kv Ks [uv As] 0;rw[e0];refine⟨fun i=>f (Ks.length+i),fun i=>?_,fun i j b hb l8=>?_,fun i b hb=>.inr ⟨rfl,i,hb⟩⟩
    ·have:=h1 (Ks.length+i);rw[Kv]at this;show(gt (bD As) i).holds I (hp w) _;rw[vL];omega
    grind
   ·have e0:gt (bD (Ks++[uv As])) j= .dT:=by
     rw[vL,fD,sQ (by simp;omega)];rfl
    rw[e0];trivial
 all_goals grind
theorem Sat.acq(h:Sat I (bD (Ks++[uv As])) w):Sat I (bD (Ks++As)) w:=by
 obtain⟨⟨f,h1,h2,h3⟩,hi⟩:=h;have hb:=h1 Ks.length;have e0:gt (bD (Ks++[uv As])) Ks.length=uv As:=Kv Ks [uv As] 0;rw[e0]at hb;obtain⟨g,g1,g2,g3⟩:=hb;refine⟨⟨fun j b=>(j<Ks.length/\f j b)\/(Ks.length<=j/\g (j-Ks.length) b),fun j=>?_,?_,?_⟩,hi⟩
 ·by_cases hj:j<Ks.length
  ·have:=h1 j;rw[Rs hj]at this⊢;have e:(fun b=>(j<Ks.length/\f j b)\/(Ks.length<=j/\g (j-Ks.length) b))=f j:=by
    grind
   grind
  ·obtain⟨i,rfl⟩:∃i,j=Ks.length+i:=⟨j-Ks.length,af⟩;have:=g1 i;replace this:(gt (bD As) i).holds I (hp w) (g i):=this;rw[vL]at this;rw[Kv];grind
 all_goals grind
theorem adU{a:Addr}{v:Value}(i:Nat)(h:As[i]?=some A)(hl:aO A a v):aO (uv As) a v:=by
 refine aO.rest (j:=i) aM ?_;rw[vL,fD,h];exact hl
theorem aB{S':St}(l:List Nat)(h1:nodupB l=true:=by exact rfl)(h2:bD (l.map (gt S))=S':=by exact rfl):aD S S':=aD.pick l h1 h2
theorem lJ{p:Prop}(h:p:=by exact⟨(),trivial,rfl,aD.pick [0] rfl rfl⟩):p:=h
theorem b_(j:Nat)(h:j∉bF:=by simp)(e:gt S j=A:=by exact rfl):Sub A (.dv (rest S bF)):=qN j h e
end
section
open Go
structure Xy where
 a:Option Addr
 n:Nat
 cap:Nat
 h:Int
def IB:mw where
 X:=Xy
 args x:=[.slice x.a x.n x.cap,.int .i64 x.h]
 cond x:=0<=x.h/\x.h<=x.cap
 val x:=.slice x.a x.h.toNat x.cap
theorem ao4{P:Program}{o:Oper}{t e:TypeId}{x y:Operand}{cy:TypeInfo}(ho:o.op= .slice t x none (some y) none)(ht:P.underlying t=some (.slice e))(hi:P.info? e=some cy):dH P o IB:=by
 refine⟨fun q w ρ ha hc=>?_⟩;obtain⟨a,n,cap,h⟩:=q;obtain⟨h0,h1⟩:=hc;dsimp only at h0 h1;simp only[ho,Op.operands,IB]at ha;have c5:ρ x= .slice a n cap/\ρ y= .int .i64 h:=by simpa using ha
 obtain⟨hx,hy⟩:=c5;simp[execOp,ho,hx,hy,Instr.sliceAt,Instr.slice,Instr.sliceBounds,Instr.sliceBound,asIntOf,run_underlying ht,run_sizeOf w hi,h0,h1,IB];intro _;cases a with
 |none=>rfl
 |some b=>simp[Addr.add]
end
section
open Go
structure bA where
 kind:Int
 text:ByteArray
 num:Nat
 pos:Int
 aK:Bool
structure cA where
 kind:Int
 op:ByteArray
 num:Nat
 aF:List Int
 pos:Int
structure aw where
 i:Nat
 nodes:List cA
 bQ:Int
 loops:Int
 bI:Int
inductive PR(α:Type)where
 |ok (a:α) (s:aw)
 |stop (p e:Int) (s:aw)
 |out
def PM(α:Type):=aw->PR α
def ret{α:Type}(a:α):PM α:=fun s=>.ok a s
def cq{α β:Type}(m:PM α)(f:α->PM β):PM β:=fun s=>
 match m s with
 | .ok a t=>f a t
 | .stop p e t=>.stop p e t
 | .out=>.out
instance:Monad PM where
 pure:=ret
 bind:=cq
def aa8{α:Type}:PM α:=fun _=>.out
def aht{α:Type}(p e:Int):PM α:=fun s=>.stop p e s
def ie:PM aw:=fun s=>.ok s s
def lV(s:aw):PM Unit:=fun _=>.ok () s
def gA:PM Unit:=fun s=>.ok () {s with i:=s.i+1}
def eK(x:cA):PM Int:=fun s=>.ok s.nodes.length {s with nodes:=s.nodes++[x]}
def bW(a b:ByteArray):Bool:=a==b
def qm:ByteArray:=⟨#[63]⟩
def colon:ByteArray:=⟨#[58]⟩
def YH:ByteArray:=⟨#[46]⟩
def lb:ByteArray:=⟨#[91]⟩
def rb:ByteArray:=⟨#[93]⟩
def lp:ByteArray:=⟨#[40]⟩
def rp:ByteArray:=⟨#[41]⟩
def lc:ByteArray:=⟨#[123]⟩
def rc:ByteArray:=⟨#[125]⟩
def sG:ByteArray:=⟨#[44]⟩
def fM:ByteArray:=⟨#[59]⟩
def eq:ByteArray:=⟨#[61]⟩
def IL:ByteArray:=⟨#[116,114,117,101]⟩
def IJ:ByteArray:=⟨#[102,97,108,115,101]⟩
def IK:ByteArray:=⟨#[110,117,108,108]⟩
def vd:ByteArray:=⟨#[102,117,110,99,116,105,111,110]⟩
def WY:ByteArray:=⟨#[100,101,108,101,116,101]⟩
def nJ:ByteArray:=⟨#[118,97,114]⟩
def CQ:ByteArray:=⟨#[105,110]⟩
def sa:ByteArray:=⟨#[114,101,116,117,114,110]⟩
def r9:ByteArray:=⟨#[98,114,101,97,107]⟩
def r_:ByteArray:=⟨#[99,111,110,116,105,110,117,101]⟩
def tV:ByteArray:=⟨#[116,104,114,111,119]⟩
def CP:ByteArray:=⟨#[105,102]⟩
def WZ:ByteArray:=⟨#[101,108,115,101]⟩
def CS:ByteArray:=⟨#[119,104,105,108,101]⟩
def CO:ByteArray:=⟨#[102,111,114]⟩
def CR:ByteArray:=⟨#[116,114,121]⟩
def ab7:ByteArray:=⟨#[99,97,116,99,104]⟩
def tU:ByteArray:=⟨#[102,105,110,97,108,108,121]⟩
def Ft:ByteArray:=⟨#[115,119,105,116,99,104]⟩
def CN:ByteArray:=⟨#[99,97,115,101]⟩
def tT:ByteArray:=⟨#[100,101,102,97,117,108,116]⟩
def pp:ByteArray:=⟨#[43,43]⟩
def mm:ByteArray:=⟨#[45,45]⟩
def x8:List (List ByteArray):=[[⟨#[124,124]⟩],[⟨#[38,38]⟩],[⟨#[124]⟩],[⟨#[94]⟩],[⟨#[38]⟩],[⟨#[61,61]⟩,⟨#[33,61]⟩,⟨#[61,61,61]⟩,⟨#[33,61,61]⟩],[⟨#[60]⟩,⟨#[62]⟩,⟨#[60,61]⟩,⟨#[62,61]⟩,⟨#[105,110]⟩],[⟨#[60,60]⟩,⟨#[62,62]⟩,⟨#[62,62,62]⟩],[⟨#[43]⟩,⟨#[45]⟩],[⟨#[42]⟩,⟨#[47]⟩,⟨#[37]⟩]]
def xq:List ByteArray:=[⟨#[61]⟩,⟨#[43,61]⟩,⟨#[45,61]⟩,⟨#[42,61]⟩,⟨#[47,61]⟩,⟨#[37,61]⟩]
def AM:List ByteArray:=[⟨#[45]⟩,⟨#[43]⟩,⟨#[33]⟩,⟨#[126]⟩,⟨#[116,121,112,101,111,102]⟩,⟨#[100,101,108,101,116,101]⟩]
def dy(l:List ByteArray)(t:ByteArray):Bool:=l.any fun x=>bW t x
def ox:Nat:=4607182418800017408
def CU:Nat:=4611686018427387904
def CT:Nat:=4613937818241073152
section
variable(L:List bA)(fin:Int)(aL:Nat->ByteArray)(wide:ByteArray->ByteArray)
def aI(s:aw):bA:=(L[s.i]?).getD ⟨0,.empty,0,fin,false⟩
def bE(s:aw)(ahead:Nat)(t:ByteArray):Bool:=
 match L[s.i+ahead]? with
 |none=>false
 |some x=>(x.kind==5||x.kind==2)&&bW x.text t
def uP(s:aw)(ahead:Nat):Bool:=
 match L[s.i+ahead]? with
 |none=>false
 |some x=>x.kind==1
def m9{α:Type}:PM α:=fun s=>.stop (aI L fin s).pos 60 s
def eg(t:ByteArray):PM Bool:=fun s=>bif bE L s 0 t then .ok true {s with i:=s.i+1} else .ok false s
def dn(t:ByteArray):PM Unit:=fun s=>bif bE L s 0 t then .ok () {s with i:=s.i+1} else .stop (aI L fin s).pos 60 s
def th(ahead:Nat)(t:ByteArray):PM Bool:=fun s=>.ok (bE L s ahead t) s
def ig:PM bA:=fun s=>.ok (aI L fin s) s
def dG(s:aw)(k:Int):Int:=((s.nodes[k.toNat]?).map (·.pos)).getD 0
def uJ(s:aw)(k:Int):Int:=((s.nodes[k.toNat]?).map (·.kind)).getD 0
def fJ(k:Int):PM Int:=fun s=>.ok (dG s k) s
def nt(k:Int)(jr:Bool):PM Unit:=fun s=>
 bif uJ s k !=8&&(uJ s k !=9&&(uJ s k !=3|| !jr)) then .stop (dG s k) 61 s else .ok () s
def ly:PM ByteArray:=fun s=>bif (aI L fin s).kind !=1 then .stop (aI L fin s).pos 60 s else .ok (aI L fin s).text {s with i:=s.i+1}
def fy:PM Unit:=fun s=>
 bif bE L s 0 fM then .ok () {s with i:=s.i+1}
 else bif bE L s 0 rc||(decide (s.i>=L.length)||(aI L fin s).aK) then .ok () s else .stop (aI L fin s).pos 60 s
def eV:PM Int:=fun s=>
 let x:=aI L fin s
 bif x.kind==1||x.kind==2 then eK ⟨2,wide x.text,0,[],x.pos⟩ {s with i:=s.i+1}
 else bif x.kind==3 then eK ⟨2,wide (aL x.num),0,[],x.pos⟩ {s with i:=s.i+1}
 else bif x.kind==4 then eK ⟨2,x.text,0,[],x.pos⟩ {s with i:=s.i+1}
 else .stop x.pos 60 s
def nV:PM Int:=do
 let x <-ig L fin
 eK ⟨36,.empty,0,[],x.pos⟩
inductive ar where
 |bx|cond|level (n:Nat)|j6 (n:Nat) (left:Int)|unary|gf|suffix|gm (k:Int)|gY (aF:List Int)|dY (aF:List Int)|ey (aF:List Int)|fx
 |func (kind:Int)|gk (aF:List Int)|block (body:Bool)|jR (aF:List Int) (body:Bool)|paren|vars|gR (aF:List Int)|loop|ef (pos:Int)|eQ (pos:Int)|choose (pos:Int)|ip (aF:List Int) (seen:Bool)|iz (aF:List Int)
 |simple (x:bA)|cS (body:Bool)|prog (aF:List Int)
def one(m:PM (List Int)):PM Int:=cq m fun l=>ret (l.headD 0)
def bM(x:cA):PM (List Int):=cq (eK x) fun k=>ret [k]
def P:Nat->ar->PM (List Int)
 |0,_=>aa8
 |f+1,.bx=>do
  let left <-one (P f .cond)
  let x <-ig L fin
  bif x.kind !=5|| !dy xq x.text then ret [left] else do
   nt left true
   gA
   let right <-one (P f .bx)
   bM ⟨16,x.text,0,[left,right],<-fJ left⟩
 |f+1,.cond=>do
  let c <-one (P f (.level 0))
  let g <-eg L qm
  bif !g then ret [c] else do
   let a <-one (P f .bx)
   dn L fin colon
   let b <-one (P f .bx)
   bM ⟨15,.empty,0,[c,a,b],<-fJ c⟩
 |f+1,.level n=>bif n==10 then P f .unary else do
   let left <-one (P f (.level (n+1)))
   P f (.j6 n left)
 |f+1,.j6 n left=>do
  let x <-ig L fin
  bif (x.kind !=5&&x.kind !=2)|| !dy ((x8[n]?).getD []) x.text then ret [left] else do
   gA
   let right <-one (P f (.level (n+1)))
   let k <-eK ⟨bif decide (n<2) then 14 else 13,x.text,0,[left,right],<-fJ left⟩
   P f (.j6 n k)
 |f+1,.unary=>do
  let x <-ig L fin
  bif x.kind !=5&&x.kind !=2 then P f .gf
  else bif dy AM x.text then do
   gA
   let k <-one (P f .unary)
   bif bW x.text WY then nt k false else ret ()
   bM ⟨11,x.text,0,[k],x.pos⟩
  else bif dy [pp,mm] x.text then do
   gA
   let k <-one (P f .unary)
   nt k true
   bM ⟨12,x.text,ox,[k],x.pos⟩
  else P f .gf
 |f+1,.gf=>do
  let k <-one (P f .suffix)
  let x <-ig L fin
  bif x.kind !=5||(x.aK||(!bW x.text pp&& !bW x.text mm)) then ret [k] else do
   nt k true
   gA
   bM ⟨12,x.text,0,[k],<-fJ k⟩
 |f+1,.suffix=>do
  let k <-one (P f .fx)
  P f (.gm k)
 |f+1,.gm k=>do
  let g <-eg L YH
  bif g then do
   let x <-ig L fin
   bif x.kind !=1&&x.kind !=2 then m9 L fin else ret ()
   gA
   let m <-eK ⟨8,x.text,0,[k],<-fJ k⟩
   P f (.gm m)
  else do
   let g <-eg L lb
   bif g then do
    let e <-one (P f .bx)
    dn L fin rb
    let m <-eK ⟨9,.empty,0,[k,e],<-fJ k⟩
    P f (.gm m)
   else do
    let g <-eg L lp
    bif g then do
     let aF <-P f (.gY [k])
     let m <-eK ⟨10,.empty,0,aF,<-fJ k⟩
     P f (.gm m)
    else ret [k]
 |f+1,.gY aF=>do
  let g <-eg L rp
  bif g then ret aF else do
   bif decide (aF.length>1) then dn L fin sG else ret ()
   let e <-one (P f .bx)
   P f (.gY (aF++[e]))
 |f+1,.dY aF=>do
  let g <-eg L rb
  bif g then ret aF else do
   let e <-one (P f .bx)
   let h <-th L 0 rb
   bif !h then dn L fin sG else ret ()
   P f (.dY (aF++[e]))
 |f+1,.ey aF=>do
  let g <-eg L rc
  bif g then ret aF else do
   let k <-eV L fin aL wide
   dn L fin colon
   let e <-one (P f .bx)
   let h <-th L 0 rc
   bif !h then dn L fin sG else ret ()
   P f (.ey (aF++[k]++[e]))
 |f+1,.fx=>do
  let x <-ig L fin
  bif x.kind==3 then do
   gA
   bM ⟨1,.empty,x.num,[],x.pos⟩
  else bif x.kind==4 then do
   gA
   bM ⟨2,x.text,0,[],x.pos⟩
  else bif x.kind==1 then do
   gA
   bM ⟨3,x.text,0,[],x.pos⟩
  else do
   let s <-ie
   bif bE L s 0 IL||(bE L s 0 IJ||bE L s 0 IK) then do
    gA
    bM ⟨4,x.text,0,[],x.pos⟩
   else bif bE L s 0 vd then P f (.func 7)
   else do
    let g <-eg L lp
    bif g then do
     let k <-one (P f .bx)
     dn L fin rp
     ret [k]
    else do
     let g <-eg L lb
     bif g then do
      let aF <-P f (.dY [])
      bM ⟨5,.empty,0,aF,x.pos⟩
     else do
      let g <-eg L lc
      bif g then do
       let aF <-P f (.ey [])
       bM ⟨6,.empty,0,aF,x.pos⟩
      else m9 L fin
 |f+1,.func kind=>do
  let x <-ig L fin
  gA
  let s <-ie
  let op <-bif kind==35||uP L s 0 then ly L fin else ret .empty
  dn L fin lp
  let ps <-P f (.gk [])
  let s <-ie
  lV {s with bQ:=s.bQ+1,loops:=0,bI:=0}
  let b <-one (P f (.block true))
  let t <-ie
  lV {t with bQ:=t.bQ-1,loops:=s.loops,bI:=s.bI}
  bM ⟨kind,op,0,ps++[b],x.pos⟩
 |f+1,.gk aF=>do
  let g <-eg L rp
  bif g then ret aF else do
   bif decide (aF.length>0) then dn L fin sG else ret ()
   let x <-ig L fin
   let w <-ly L fin
   let k <-eK ⟨3,w,0,[],x.pos⟩
   P f (.gk (aF++[k]))
 |f+1,.block body=>do
  let x <-ig L fin
  dn L fin lc
  let aF <-P f (.jR [] body)
  bM ⟨23,.empty,0,aF,x.pos⟩
 |f+1,.jR aF body=>do
  let g <-eg L rc
  bif g then ret aF else do
   let k <-one (P f (.cS body))
   P f (.jR (aF++[k]) body)
 |f+1,.paren=>do
  dn L fin lp
  let k <-one (P f .bx)
  dn L fin rp
  ret [k]
 |f+1,.vars=>do
  let x <-ig L fin
  gA
  let aF <-P f (.gR [])
  bM ⟨21,.empty,0,aF,x.pos⟩
 |f+1,.gR aF=>do
  let x <-ig L fin
  let w <-ly L fin
  let g <-eg L eq
  let ks <-bif g then P f .bx else ret []
  let k <-eK ⟨22,w,0,ks,x.pos⟩
  let h <-eg L sG
  bif !h then ret (aF++[k]) else P f (.gR (aF++[k]))
 |f+1,.loop=>do
  let s <-ie
  lV {s with loops:=s.loops+1,bI:=s.bI+1}
  let k <-one (P f (.cS false))
  let t <-ie
  lV {t with loops:=t.loops-1,bI:=t.bI-1}
  ret [k]
 |f+1,.ef pos=>do
  dn L fin lp
  let s <-ie
  let v:Nat:=bif bE L s 0 nJ then 1 else 0
  bif uP L s v&&bE L s (v+1) CQ then do
   lV {s with i:=s.i+v+2}
   let e <-one (P f .bx)
   dn L fin rp
   let b <-one (P f .loop)
   bM ⟨27,((L[s.i+v]?).map (·.text)).getD .empty,bif v==1 then ox else 0,[e,b],pos⟩
  else do
   let a <-bif v==1 then one (P f .vars) else bif bE L s 0 fM then nV L fin else do
    let x <-ig L fin
    let e <-one (P f .bx)
    eK ⟨20,.empty,0,[e],x.pos⟩
   dn L fin fM
   let h <-th L 0 fM
   let c <-bif h then nV L fin else one (P f .bx)
   dn L fin fM
   let h <-th L 0 rp
   let d <-bif h then nV L fin else one (P f .bx)
   dn L fin rp
   let b <-one (P f .loop)
   bM ⟨26,.empty,0,[a,c,d,b],pos⟩
 |f+1,.eQ pos=>do
  let b <-one (P f (.block false))
  let g <-eg L ab7
  let (op,ks) <-bif g then do
    dn L fin lp
    let w <-ly L fin
    dn L fin rp
    let c <-one (P f (.block false))
    ret (w,[c])
   else ret (.empty,[])
  let s <-ie
  bif !g&& !bE L s 0 tU then m9 L fin else ret ()
  let h <-eg L tU
  let fs <-bif h then P f (.block false) else ret []
  bM ⟨34-2,op,bif g then (bif h then CT else ox) else CU,[b]++ks++fs,pos⟩
 |f+1,.choose pos=>do
  let c <-one (P f .paren)
  dn L fin lc
  let s <-ie
  lV {s with bI:=s.bI+1}
  let aF <-P f (.ip [c] false)
  let t <-ie
  lV {t with bI:=t.bI-1}
  bM ⟨33,.empty,0,aF,pos⟩
 |f+1,.ip aF seen=>do
  let g <-eg L rc
  bif g then ret aF else do
   let x <-ig L fin
   let g <-eg L CN
   let ks <-bif g then P f .bx else do
    let h <-th L 0 tT
    bif h&& !seen then do
     gA
     ret []
    else m9 L fin
   dn L fin colon
   let all <-P f (.iz ks)
   let k <-eK ⟨34,.empty,bif g then 0 else ox,all,x.pos⟩
   P f (.ip (aF++[k]) (bif g then seen else true))
 |f+1,.iz aF=>do
  let s <-ie
  bif !bE L s 0 CN&&(!bE L s 0 tT&& !bE L s 0 rc) then do
   let k <-one (P f (.cS false))
   P f (.iz (aF++[k]))
  else ret aF
 |f+1,.simple x=>do
  let s <-ie
  let kind <-bif bW x.text sa&&decide (s.bQ>0) then ret 28 else bif bW x.text r9&&decide (s.bI>0) then ret 29 else bif bW x.text r_&&decide (s.loops>0) then ret 30 else bif bW x.text tV then ret 31 else m9 L fin
  gA
  let n <-ig L fin
  let s <-ie
  bif kind==(31:Int)&&n.aK then m9 L fin else ret ()
  let ks <-bif kind==(31:Int)||(kind==(28:Int)&&(decide (s.i<L.length)&&(!n.aK&&(!bE L s 0 fM&& !bE L s 0 rc)))) then P f .bx else ret []
  fy L fin
  bM ⟨kind,.empty,0,ks,x.pos⟩
 |f+1,.cS body=>do
  let x <-ig L fin
  let s <-ie
  bif bE L s 0 lc then P f (.block false)
  else bif bE L s 0 fM then do
   let k <-nV L fin
   gA
   ret [k]
  else do
   let plain:PM (List Int):=do
    let e <-one (P f .bx)
    fy L fin
    bM ⟨20,.empty,0,[e],x.pos⟩
   bif x.kind==2 then
    bif bW x.text nJ then do
     let v <-one (P f .vars)
     fy L fin
     ret [v]
    else bif dy [sa,r9,r_,tV] x.text then P f (.simple x)
    else bif bW x.text vd then (bif !body then m9 L fin else P f (.func 35))
    else bif bW x.text CP then do
     gA
     let c <-one (P f .paren)
     let a <-one (P f (.cS false))
     let g <-eg L WZ
     let ks <-bif g then P f (.cS false) else ret []
     bM ⟨24,.empty,0,[c,a]++ks,x.pos⟩
    else bif bW x.text CS then do
     gA
     let c <-one (P f .paren)
     let b <-one (P f .loop)
     bM ⟨25,.empty,0,[c,b],x.pos⟩
    else bif bW x.text CO then do
     gA
     P f (.ef x.pos)
    else bif bW x.text CR then do
     gA
     P f (.eQ x.pos)
    else bif bW x.text Ft then do
     gA
     P f (.choose x.pos)
    else plain
   else plain
 |f+1,.prog aF=>do
  let s <-ie
  bif decide (s.i<L.length) then do
   let k <-one (P f (.cS true))
   P f (.prog (aF++[k]))
  else bM ⟨37,.empty,0,aF,0⟩
end
end
section
open Go
def bt(s:ByteArray)(i:Nat):Nat:=((s.data[i]?).map UInt8.toNat).getD 0
def cQ(l:List Nat):ByteArray:=⟨⟨l.map fun n=>UInt8.ofNat n⟩⟩
def pE(b lo hi:Nat):Bool:=decide (lo<=b)&&decide (b<=hi)
def eo(s:ByteArray)(i:Nat):Option (Nat×Nat):=
 bif decide (i<s.size) then
  (match Lib.decodeN (s.size-i) (bt s i) (bt s (i+1)) (bt s (i+2)) (bt s (i+3))with
  | (c,n)=>bif c==65533&&n==1 then none else some (c,n))
 else none
def jz(c:Nat):List Nat:=
 bif decide (c>65535) then
  let d:=c-65536
  [(55296+d/1024)/256,(55296+d/1024)%256,(56320+d%1024)/256,(56320+d%1024)%256]
 else [c/256,c%256]
def nK(s:ByteArray):Nat->Nat->List Nat->List Nat
 |0,_,o=>o
 |f+1,i,o=>bif decide (i<s.size) then (match eo s i with|some (c,n)=>nK s f (i+n) (o++jz c)|none=>[]) else o
def br(s:ByteArray):ByteArray:=cQ (nK s (s.size+1) 0 [])
def kX(c:Nat):Bool:=c==10||(c==13||(c==8232||c==8233))
def x6(c:Nat):Bool:=c==9||(c==11||(c==12||(c==32||(c==160||c==65279))))
def ij(s:ByteArray)(i:Nat)(t:List Nat):Bool:=decide (i+t.length<=s.size)&&(List.range t.length).all fun k=>bt s (i+k)==t.getD k 0
def vV(s:ByteArray)(t:List Nat):Nat->Nat->Option Nat
 |0,_=>none
 |f+1,i=>bif ij s i t then some i else bif decide (i<s.size) then vV s t f (i+1) else none
def kZ(s:ByteArray):Nat->Nat->Nat×Bool
 |0,i=>(i,true)
 |f+1,i=>bif decide (i<s.size) then (match eo s i with|none=>(i,false)|some (c,n)=>bif kX c then (i,true) else kZ s f (i+n)) else (i,true)
def gc(s:ByteArray):Nat->Nat->Bool->Bool×Bool
 |0,_,aK=>(true,aK)
 |f+1,i,aK=>bif decide (i<s.size) then (match eo s i with|none=>(false,aK)|some (c,n)=>gc s f (i+n) (aK||kX c)) else (true,aK)
def eG(s:ByteArray):Nat->Nat->Bool->Int×Nat×Bool
 |0,i,aK=>(-1,i,aK)
 |f+1,i,aK=>
  bif decide (i<s.size) then
   match eo s i with
   |none=>(i,i,aK)
   |some (c,n)=>
    bif kX c then eG s f (i+n) true
    else bif x6 c then eG s f (i+n) aK
    else bif ij s i [47,47] then
     bif (kZ s (s.size+1) i).2 then eG s f (kZ s (s.size+1) i).1 aK else ((kZ s (s.size+1) i).1,(kZ s (s.size+1) i).1,aK)
    else bif ij s i [47,42] then
     match vV (s.extract (i+2) s.size) [42,47] (s.size+1) 0 with
     |none=>(i,i,aK)
     |some k=>
      let r:=gc (s.extract (i+2) (i+2+k)) (s.size+1) 0 aK
      bif r.1 then eG s f (i+k+4) r.2 else (i,i,r.2)
    else (-1,i,aK)
  else (-1,i,aK)
def jq(b:Nat):Bool:=pE b 97 122||(pE b 65 90||(b==95||b==36))
def ce(b:Nat):Bool:=pE b 48 57
def gz(b:Nat):Bool:=ce b||pE (b|||32) 97 102
def iW(s:ByteArray)(p:Nat->Bool):Nat->Nat->Nat
 |0,i=>i
 |f+1,i=>bif decide (i<s.size)&&p (bt s i) then iW s p f (i+1) else i
def bL(s:ByteArray)(p:Nat->Bool)(i:Nat):Nat:=iW s p (s.size+1) i
def fw(s:ByteArray)(i:Nat):Nat×Bool:=
 bif bt s i==48&&(decide (i+1<s.size)&&(bt s (i+1)|||32)==120) then
  let j:=bL s gz (i+2)
  (j,decide (j>i+2)&& !(jq (bt s j)||ce (bt s j)))
 else
  let j:=bL s ce i
  bif decide (j-i>1)&&bt s i==48 then (j,false) else
   let j2:=bif bt s j==46 then bL s ce (j+1) else j
   bif (bt s j2|||32)==101 then
    let j3:=bif bt s (j2+1)==43||bt s (j2+1)==45 then j2+2 else j2+1
    let j4:=bL s ce j3
    (j4,decide (j4>j3)&& !(jq (bt s j4)||ce (bt s j4)))
   else (j2,!(jq (bt s j2)||ce (bt s j2)))
def fF(s:ByteArray):Nat->Nat->Nat->Nat×Option Nat
 |0,i,u=>(i,some u)
 |n+1,i,u=>bif decide (i<s.size)&&gz (bt s i) then fF s n (i+1) (u*16+(bif ce (bt s i) then bt s i-48 else (bt s i|||32)-97+10)) else (i,none)
def zt:List (Nat×Nat):=[(98,8),(116,9),(110,10),(118,11),(102,12),(114,13)]
def iB(s:ByteArray)(i:Nat):Nat×Option (List Nat):=
 match eo s i with
 |none=>(i,none)
 |some (c,n)=>
  let j:=i+n
  match zt.find? fun p=>p.1==c with
  |some p=>(j,some [0,p.2])
  |none=>
   bif c==120 then ((fF s 2 j 0).1,(fF s 2 j 0).2.map fun u=>[u/256%256,u%256])
   else bif c==117 then ((fF s 4 j 0).1,(fF s 4 j 0).2.map fun u=>[u/256%256,u%256])
   else bif c==48 then (j,bif ce (bt s j) then none else some [0,0])
   else bif pE c 49 57 then (j,none)
   else bif c==13&&bt s j==10 then (j+1,some [])
   else bif kX c then (j,some [])
   else (j,some (jz c))
def pm(s:ByteArray)(mark:Nat):Nat->Nat->List Nat->Nat×Option (List Nat)
 |0,i,_=>(i,none)
 |f+1,i,o=>
  match eo s i with
  |none=>(i,none)
  |some (c,n)=>
   bif c==10||c==13 then (i,none)
   else bif c==mark then (i+n,some o)
   else bif c==92 then
    match iB s (i+n)with
    | (j,none)=>(j,none)
    | (j,some u)=>pm s mark f j (o++u)
   else pm s mark f (i+n) (o++jz c)
def jK:List ByteArray:=[⟨#[62,62,62]⟩,⟨#[61,61,61]⟩,⟨#[33,61,61]⟩,⟨#[60,61]⟩,⟨#[62,61]⟩,⟨#[61,61]⟩,⟨#[33,61]⟩,⟨#[43,43]⟩,⟨#[45,45]⟩,⟨#[60,60]⟩,⟨#[62,62]⟩,⟨#[38,38]⟩,⟨#[124,124]⟩,⟨#[43,61]⟩,⟨#[45,61]⟩,⟨#[42,61]⟩,⟨#[47,61]⟩,⟨#[37,61]⟩,⟨#[123]⟩,⟨#[125]⟩,⟨#[40]⟩,⟨#[41]⟩,⟨#[91]⟩,⟨#[93]⟩,⟨#[59]⟩,⟨#[44]⟩,⟨#[46]⟩,⟨#[60]⟩,⟨#[62]⟩,⟨#[43]⟩,⟨#[45]⟩,⟨#[42]⟩,⟨#[47]⟩,⟨#[37]⟩,⟨#[38]⟩,⟨#[124]⟩,⟨#[94]⟩,⟨#[33]⟩,⟨#[126]⟩,⟨#[63]⟩,⟨#[58]⟩,⟨#[61]⟩]
def W9:ByteArray:=⟨#[32,98,114,101,97,107,32,99,97,115,101,32,99,97,116,99,104,32,99,108,97,115,115,32,99,111,110,115,116,32,99,111,110,116,105,110,117,101,32,100,101,98,117,103,103,101,114,32,100,101,102,97,117,108,116,32,100,101,108,101,116,101,32,100,111,32,101,108,115,101,32,101,110,117,109,32,101,120,112,111,114,116,32,101,120,116,101,110,100,115,32,102,97,108,115,101,32,102,105,110,97,108,108,121,32,102,111,114,32,102,117,110,99,116,105,111,110,32,105,102,32,105,109,112,111,114,116,32,105,110,32,105,110,115,116,97,110,99,101,111,102,32,108,101,116,32,110,101,119,32,110,117,108,108,32,114,101,116,117,114,110,32,115,117,112,101,114,32,115,119,105,116,99,104,32,116,104,105,115,32,116,104,114,111,119,32,116,114,117,101,32,116,114,121,32,116,121,112,101,111,102,32,118,97,114,32,118,111,105,100,32,119,104,105,108,101,32,119,105,116,104,32,121,105,101,108,100,32]⟩
def nr(t:ByteArray):List Nat:=t.data.toList.map UInt8.toNat
def CZ(t:ByteArray):Bool:=decide (t.size>0)&&(!Lib.contains t.data.toList [32]&&Lib.contains W9.data.toList ([32]++t.data.toList++[32]))
def il(num:Nat->Nat)(s:ByteArray)(i:Nat)(aK:Bool):Nat×Option bA:=
 let b:=bt s i
 bif jq b then
  let j:=bL s (fun b=>jq b||ce b) i
  let t:=s.extract i j
  (j,some ⟨bif CZ t then 2 else 1,t,0,i,aK⟩)
 else bif ce b||(b==46&&(decide (i+1<s.size)&&ce (bt s (i+1)))) then
  ((fw s i).1,bif (fw s i).2 then some ⟨3,.empty,num i,i,aK⟩ else none)
 else bif b==34||b==39 then
  match pm s b (s.size+1) (i+1) []with
  | (j,none)=>(j,none)
  | (j,some u)=>(j,some ⟨4,cQ u,0,i,aK⟩)
 else
  match jK.find? fun m=>ij s i (nr m)with
  |none=>(i,none)
  |some m=>(i+m.size,some ⟨5,m,0,i,aK⟩)
def uM(num:Nat->Nat)(s:ByteArray):Nat->Nat->Bool->List bA->List bA×Int
 |0,_,_,_=>([],0)
 |f+1,i,aK,o=>
  match eG s (s.size+1) i aK with
  | (at_,j,aK)=>
   bif decide (at_>=0) then ([],at_)
   else bif j==s.size then (o,-1)
   else match il num s j aK with
    | (_,none)=>([],j)
    | (k,some x)=>uM num s f k false (o++[x])
def Ea(num:Nat->Nat)(s:ByteArray):List bA×Int:=uM num s (s.size+1) 0 false []
end
end Go.Proofs.YtdkchodgklpomaaGreatDoor
