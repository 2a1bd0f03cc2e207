/- Part of the proof that ParseParens answers true at every input. -/
import Derived.Test.YtdkchodgklpomaaGreatDoorPPaq
set_option linter.all false
namespace Go.Proofs.YtdkchodgklpomaaGreatDoor
set_option maxRecDepth 100000
open Go.Value (int slice string bool pointer agg tuple func float iface nilIface)
open Go.IntKind (i64 u8 u64 i32 u32 u16 i8 i16)
open Go.FloatKind (f64)
open Go.Ending (returned panicked)
section
open Go
theorem Tt(s:ByteArray):∀(f i:Nat)(aD:Bool),(cF s f i aD).1= -1\/0<=(cF s f i aD).1:=by
 intro f
 induction f with
 |zero=>intro i aD;exact .inl rfl
 |succ f a=>
  intro i aD;rw[cF];cases decide (i<s.size)with
  |false=>exact .inl rfl
  |true=>
   rw[aU];cases cS s i with
   |none=>exact .inr (Int.natCast_nonneg _)
   |some b=>
    obtain⟨c,n⟩:=b;dsimp only;cases hL c with
    |true=>exact a _ _
    |false=>
     rw[aM];cases rE c with
     |true=>exact a _ _
     |false=>
      grind
section
variable{s w:ByteArray}{d:Nat}
theorem cM.ajj(h:cM s w d)(p:Nat->Bool)(e:p 10=false):∀(f g i:Nat),i<=s.size->s.size-i<f->w.size-(i+d)<g->gj w p g (i+d)=gj s p f i+d:=by
 intro f
 induction f with
 |zero=>intro g i _ b _;omega
 |succ f a=>
  intro g i hi j l;obtain⟨g,rfl⟩:∃k,g=k+1:=⟨g-1,ae⟩;have hs:=h.size;rw[gj,gj,h.He hi p e];cases c:(decide (i<s.size)&&p (bt s i))with
  |false=>rfl
  |true=>
   rw[aU,aU,show i+d+1=i+1+d by omega];have hl:i<s.size:=by
    grind
   exact a g (i+1) hl ae ae
variable{aD:Bool}{i mark:Nat}{num iL:Nat->Nat}
theorem cM.Kh(h:cM s w d)(p:Nat->Bool)(e:p 10=false)(hi:i<=s.size):bE w p (i+d)=bE s p i+d:=by
 unfold bE;exact h.ajj p e _ _ i hi ae ae
theorem cM.WB(h:cM s w d)(p:Nat->Bool)(e:p 10=false){n:Nat}(hi:i+n<=s.size):bE w p (i+d+n)=bE s p (i+n)+d:=by
 rw[show i+d+n=i+n+d by omega];exact h.Kh p e hi
theorem cM.gt(i j k:Nat):decide (j+d>i+d+k)=decide (j>i+k):=by
 grind
theorem cM.VN(h:cM s w d){j:Nat}(f:j<=s.size):ps w (j+d)=((ps s j).1+d,(ps s j).2):=by
 unfold ps;rw[h.ask f (fun b=>(b|||32)==101) rfl];cases a:(bt s j|||32)==101 with
 |false=>
  rw[aM,aM];unfold aI;rw[h.ask f (fun b=> !(fi b||bL b)) rfl]
 |true=>
  rw[aU,aU];have hl:j<s.size:=uc (by intro e;rw[e]at a;cases a);rw[show j+d+1=j+1+d by omega,h.ask (k:=j+1) hl (fun b=>b==43||b==45) rfl];have key:∀m,m<=s.size->yO w (m+d)=((yO s m).1+d,(yO s m).2):=fun m g=>by
   unfold yO;have r:=lR s bL g;rw[h.Kh bL rfl g,h.ask r.2 (fun b=> !(fi b||bL b)) rfl];simp[*]
  cases c:(bt s (j+1)==43||bt s (j+1)==45)with
  |true=>
   rw[aU,aU,show j+d+2=j+2+d by omega];have i:j+1<s.size:=uc (by intro e;rw[e]at c;cases c);grind
  |false=>
   grind
theorem cM.N7(h:cM s w d)(hi:i<s.size):dX w (i+d)=((dX s i).1+d,(dX s i).2):=by
 rw[yN,yN,show i+d+1=i+1+d by omega,h.at_ hi,h.He (k:=i+1) hi (fun b=>(b|||32)==120) rfl];cases c:(bt s i==48&&(decide (i+1<s.size)&&(bt s (i+1)|||32)==120))with
 |true=>
  rw[aU,aU];have a:i+1<s.size:=by
   grind
  have r:=lR s fv (show i+2<=s.size by omega);rw[h.WB fv rfl (show i+2<=s.size by omega),h.ask r.2 (fun b=> !(fi b||bL b)) rfl,cM.gt]
 |false=>
  rw[aM,aM];unfold HA wg;have r:=lR s bL (Nat.le_of_lt hi);rw[h.Kh bL rfl (Nat.le_of_lt hi),h.at_ hi,show decide (bE s bL i+d-(i+d)>1)=decide (bE s bL i-i>1) by grind];cases f:(decide (bE s bL i-i>1)&&bt s i==48)with
  |true=>rfl
  |false=>
   rw[aM,aM];unfold yM;rw[h.ask r.2 (fun b=>b==46) rfl];cases a:bt s (bE s bL i)==46 with
   |false=>rw[aM,aM];exact h.VN r.2
   |true=>
    rw[aU,aU];have g:bE s bL i<s.size:=uc (by intro e;rw[e]at a;cases a);rw[h.WB bL rfl (i:=bE s bL i) (n:=1) ae];exact h.VN (lR s bL (show bE s bL i+1<=s.size by omega)).2
theorem cM.fQ(h:cM s w d):∀(n i u:Nat),i<=s.size->et w n (i+d) u=((et s n i u).1+d,(et s n i u).2):=by
 intro n
 induction n with
 |zero=>intro i u _;rfl
 |succ n b=>
  intro i u hi;rw[et,et,h.He hi fv rfl];cases a:(decide (i<s.size)&&fv (bt s i))with
  |false=>rfl
  |true=>
   have hl:i<s.size:=by
    grind
   rw[aU,aU,h.at_ hl,show i+d+1=i+1+d by omega];grind
theorem cM.TZ(h:cM s w d)(hi:i<=s.size):eo w (i+d)=((eo s i).1+d,(eo s i).2)\/(s.size+d<w.size/\eo w (i+d)=(s.size+d+1,some [])/\((eo s i).2=none\/(eo s i).1=s.size)):=by
 have hs:=h.size;rcases Nat.lt_or_ge i s.size with hl|hl
 ·unfold eo;rw[h.next hl];cases hn:cS s i with
  |none=>exact .inl rfl
  |some j=>
   obtain⟨c,n⟩:=j;obtain⟨a,f2,f3⟩:=jO hn;dsimp only;have k:i+d+n=i+n+d:=ae;rw[k];cases ug.find? (fun p=>p.1==c)with
   |some p=>exact .inl rfl
   |none=>
    dsimp only;cases c==120 with
    |true=>
     rw[aU,aU,h.fQ 2 (i+n) 0 a];simp[*]
    |false=>
     rw[aM,aM];cases c==117 with
     |true=>
      rw[aU,aU,h.fQ 4 (i+n) 0 a];simp[*]
     |false=>
      rw[aM,aM];cases c==48 with
      |true=>
       rw[aU,aU,h.ask a bL rfl];simp[*]
      |false=>
       rw[aM,aM];cases mJ c 49 57 with
       |true=>exact .inl rfl
       |false=>
        rw[aM,aM];cases b:c==13 with
        |false=>
         grind
        |true=>
         rw[Bool.true_and,Bool.true_and];have f:hL c=true:=by rw[eq_of_beq b];rfl
         rw[f];rcases Nat.lt_or_ge (i+n) s.size with g|g
         ·rw[h.at_ g];grind
         ·have e:i+n=s.size:=by omega
          rw[e,ud (bT _)];rcases h.nl with⟨_,q⟩| ⟨q0,q⟩
          all_goals grind
 ·have e:i=s.size:=by omega
  subst e;have l:eo s s.size=(s.size,none):=by
   unfold eo;rw[Bk (bT _)]
  rw[l];rcases h.nl with⟨q0,q⟩| ⟨q0,q⟩
  ·refine .inl ?_;unfold eo;rw[Bk ae]
  ·refine .inr ⟨q0,?_,.inl rfl⟩;unfold eo;rw[DU q q0];rfl
theorem cM.text(h:cM s w d)(mark:Nat):∀(f g i:Nat)(o:List Nat)(j:Nat)(u:List Nat),i<=s.size->w.size-(i+d)<g->gJ s mark f i o=(j,some u)->gJ w mark g (i+d) o=(j+d,some u):=by
 intro f
 induction f with
 |zero=>intro g i o j u _ _ b;cases b
 |succ f x=>
  intro g i o j u hi y a;obtain⟨g,rfl⟩:∃k,g=k+1:=⟨g-1,ae⟩;have hs:=h.size;rw[gJ]at a;rcases Nat.lt_or_ge i s.size with hl|hl
  ·rw[gJ,h.next hl];cases hn:cS s i with
   |none=>rw[hn]at a;cases a
   |some r=>
    obtain⟨c,n⟩:=r;obtain⟨e,f2,f3⟩:=jO hn;rw[hn]at a;dsimp only at a⊢;have t:i+d+n=i+n+d:=ae;rw[t];cases b:(c==10||c==13)with
    |true=>rw[b]at a;cases a
    |false=>
     rw[b,aM]at a;rw[aM];cases m:c==mark with
     |true=>rw[m,aU]at a;cases a;rfl
     |false=>
      rw[m,aM]at a;rw[aM];cases p:c==92 with
      |false=>
       rw[p,aM]at a;rw[aM];exact x g (i+n) _ j u e ae a
      |true=>
       rw[p,aU]at a;rw[aU];rcases l:eo s (i+n)with⟨k,_|v⟩
       ·grind
       ·rw[l]at a;obtain⟨q1,q2,q3⟩:=AV l e;dsimp only at a;rcases h.TZ e with q| ⟨_,_,q|q⟩
        ·grind
        ·grind
        ·rw[l]at q;dsimp only at q;subst q;cases f with
         |zero=>cases a
         |succ f=>
          rw[gJ,Bk (bT _)]at a;cases a
  ·rw[Bk hl]at a;cases a
structure AE(s w:ByteArray)(d:Nat):Prop where
 t:s.size+d<w.size->bt w (s.size+d+1)=41/\s.size+d+1<w.size/\(w.size=s.size+d+2\/(s.size+d+2<w.size/\bt w (s.size+d+2)=10))
theorem AE.no(h:AE s w d)(hl:s.size+d<w.size)(i:mark≠41):∀(g:Nat)(o:List Nat),(gJ w mark g (s.size+d+1) o).2=none:=by
 intro g o;obtain⟨b,c,a⟩:=h.t hl;cases g with
 |zero=>rfl
 |succ g=>
  rw[gJ,VH b (by decide) c];dsimp only;rw[show(41==mark)=false from dU.2 (fun e=>i e.symm)];show(gJ w mark g (s.size+d+1+1) (o++ii 41)).2=none;cases g with
  |zero=>rfl
  |succ g=>
   rw[gJ];rcases a with a| ⟨a,f⟩
   ·rw[Bk ae]
   ·rw[DU f a];rfl
theorem cM.akc(h:cM s w d)(x:AE s w d)(u:mark≠41):∀(f g i:Nat)(o b:List Nat),i<=s.size->s.size-i<f->(gJ s mark f i o).2=none->(gJ w mark g (i+d) b).2=none:=by
 intro f
 induction f with
 |zero=>intro g i o b _ j;omega
 |succ f y=>
  intro g i o b hi z hx;cases g with
  |zero=>rfl
  |succ g=>
  have hs:=h.size;rw[gJ]at hx;rcases Nat.lt_or_ge i s.size with hl|hl
  ·rw[gJ,h.next hl];cases hn:cS s i with
   |none=>rfl
   |some r=>
    obtain⟨c,n⟩:=r;obtain⟨a,f2,f3⟩:=jO hn;rw[hn]at hx;dsimp only at hx⊢;have t:i+d+n=i+n+d:=ae;rw[t];cases j:(c==10||c==13)with
    |true=>rfl
    |false=>
     rw[j,aM]at hx;rw[aM];cases l:c==mark with
     |true=>rw[l,aU]at hx;cases hx
     |false=>
      rw[l,aM]at hx;rw[aM];cases m:c==92 with
      |false=>
       rw[m,aM]at hx;rw[aM];exact y g (i+n) _ _ a ae hx
      |true=>
       rw[m,aU]at hx;rw[aU];rcases h.TZ a with q| ⟨q0,q,_⟩
       ·rw[q];rcases p:eo s (i+n)with⟨k,_|v⟩
        ·rfl
        ·rw[p]at hx;obtain⟨q1,q2,q3⟩:=AV p a;grind
       ·rw[q];exact x.no q0 u _ _
  ·have e:i=s.size:=by omega
   subst e;rw[gJ];rcases h.nl with⟨q0,q⟩| ⟨q0,q⟩
   ·rw[Bk ae]
   ·rw[DU q q0];rfl
def bh.mv(d:Nat)(x:bh):bh:={x with pos:=x.pos+d}
theorem afV:∀m∈eV,∀b∈dj m,b≠10/\b≠0:=by decide+kernel
theorem cM.find(h:cM s w d)(hi:i<=s.size):(eV.find? fun m=>cY w (i+d) (dj m))=eV.find? fun m=>cY s i (dj m):=by
 have key:∀l:List ByteArray,(∀m∈l,∀b∈dj m,b≠10/\b≠0)->(l.find? fun m=>cY w (i+d) (dj m))=l.find? fun m=>cY s i (dj m):=by
  intro l
  induction l with
  |nil=>intro _;rfl
  |cons m l a=>
   intro hl;rw[List.find?_cons,List.find?_cons,h.hp hi (hl m kW),a (fun x hx=>hl x (pn _ hx))]
 exact key eV afV
theorem cM.UW(h:cM s w d)(hi:i<s.size):gU w (i+d)=gU s i:=by
 unfold gU;rw[h.at_ hi,show i+d+1=i+1+d by omega,h.He (k:=i+1) hi bL rfl]
theorem cM.one(h:cM s w d)(hi:i<s.size)(hn:gU s i=true->(dX s i).2=true->iL (i+d)=num i){k:Nat}{x:bh}(e:fl num s i aD=(k,some x)):fl iL w (i+d) aD=(k+d,some (x.mv d)):=by
 have t:((i+d:Nat):Int)=(i:Int)+d:=ae;have q:=h.at_ hi;have n:=h.UW hi;cases hl:fi (bt s i)with
 |true=>
  have b:fi (bt w (i+d))=true:=by simp[*]
  rw[yQ hl]at e;rw[yQ b];cases e;have r:=lR s gA (Nat.le_of_lt hi);rw[h.Kh gA rfl (Nat.le_of_lt hi),h.ext (Nat.le_of_lt hi) r.2];rfl
 |false=>
  have b:fi (bt w (i+d))=false:=by simp[*]
  cases a:gU s i with
  |true=>
   rw[wj hl a]at e;rw[wj b (n.trans a),h.N7 hi];cases f:(dX s i).2 with
   |false=>rw[f]at e;cases e
   |true=>
    rw[f]at e;cases e;rw[aU,hn a f];rfl
  |false=>
   have c:=n.trans a;cases p:(bt s i==34||bt s i==39)with
   |true=>
    have g:(bt w (i+d)==34||bt w (i+d)==39)=true:=by simp[*]
    rw[wk hl a p]at e;rw[wk b c g];rcases l:jA s i with⟨j,_|u⟩
    ·grind
    ·rw[l]at e;cases e;have hs:=h.size;have:jA w (i+d)=(k+d,some u):=by
      unfold jA at l⊢;rw[q,show i+d+1=i+1+d by omega];exact h.text _ _ _ _ _ _ _ hi ae l
     rw[this];rfl
   |false=>
    have g:(bt w (i+d)==34||bt w (i+d)==39)=false:=by simp[*]
    rw[uy hl a p]at e;rw[uy b c g,h.find (Nat.le_of_lt hi)];cases o:eV.find? (fun m=>cY s i (dj m))with
    |none=>rw[o]at e;cases e
    |some m=>
     rw[o]at e;cases e;unfold bh.mv;grind
theorem cM.agO(h:cM s w d)(n:AE s w d)(hi:i<s.size){Hm:Bool}(e:(fl num s i aD).2=none):(fl iL w (i+d) Hm).2=none:=by
 have l:=h.at_ hi;have k:=h.UW hi;cases hl:fi (bt s i)with
 |true=>rw[yQ hl]at e;cases e
 |false=>
  have c:fi (bt w (i+d))=false:=by simp[*]
  cases a:gU s i with
  |true=>
   rw[wj hl a]at e;rw[wj c (k.trans a),h.N7 hi];grind
  |false=>
   have b:=k.trans a;cases j:(bt s i==34||bt s i==39)with
   |true=>
    have f:(bt w (i+d)==34||bt w (i+d)==39)=true:=by simp[*]
    rw[wk hl a j]at e;rw[wk c b f];have m:bt s i≠41:=by
     grind
    have g:(jA s i).2=none:=by
     grind
    have o:(jA w (i+d)).2=none:=by
     unfold jA at g⊢;rw[l,show i+d+1=i+1+d by omega];exact h.akc n m _ _ _ _ _ hi ae g
    grind
   |false=>
    have f:(bt w (i+d)==34||bt w (i+d)==39)=false:=by simp[*]
    rw[uy hl a j]at e;rw[uy c b f,h.find (Nat.le_of_lt hi)];grind
theorem cM.NP(h:cM s w d)(hn:∀i,i<s.size->gU s i=true->(dX s i).2=true->iL (i+d)=num i):∀(f g i:Nat)(aD:Bool)(o r:List bh),i<=s.size->w.size-(i+d)<g->gB num s f i aD o=(r,-1)->
  ∃(x:List bh)(l:Bool)(m:Nat),r=o++x/\w.size-(s.size+d)<m/\∀n,gB iL w g (i+d) aD n=gB iL w m (s.size+d) l (n++x.map (bh.mv d)):=by
 intro f
 induction f with
 |zero=>intro g i aD o r _ _ e;cases e
 |succ f A=>
  intro g i aD o r hi E e;obtain⟨g,rfl⟩:∃k,g=k+1:=⟨g-1,ae⟩;have hs:=h.size;rw[gB]at e;have u:=Dt s (s.size+1) i aD hi;have c:=Tt s (s.size+1) i aD;rcases t:cF s (s.size+1) i aD with⟨q,j,l⟩;rw[t]at e u c;dsimp only at e u c;have z:q= -1:=by
   grind
  subst z;rw[bF (by decide),aM]at e;obtain⟨w1,B⟩:=h.Ts (s.size+1) (w.size+1) i j aD l hi ae ae t;cases b:j==s.size with
  |true=>
   rw[b,aU]at e;have b:=eq_of_beq b;cases e;refine⟨[],l,g+1,(dv _).symm,ae,fun n=>?_⟩;rw[List.map_nil,dv,gB,gB,B b (w.size+1) ae]
  |false=>
   rw[b,aM]at e;have b:=dU.1 b;have a:j<s.size:=ae;rcases p:fl num s j l with⟨k,_|x⟩
   ·grind
   ·rw[p]at e;dsimp only at e;have y:=DX a p;obtain⟨C,l2,m,e1,v,D⟩:=A g k false (o++[x]) r y.2 ae e;refine⟨x::C,l2,m,by simp[*],v,fun n=>?_⟩;rw[gB,w1 a];dsimp only;rw[bF (by decide),aM,show(j+d==w.size)=false from dU.2 ae,aM,h.one a (hn j a) p];simp[*]
theorem cM.afk(h:cM s w d)(y:AE s w d)(c:∀i,i<s.size->bt s i≠47)(hn:∀i,i<s.size->gU s i=true->(dX s i).2=true->iL (i+d)=num i):∀(f g i:Nat)(aD:Bool)(o p:List bh),i<=s.size->s.size-i<f->w.size-(i+d)<g->0<=(gB num s f i aD o).2->0<=(gB iL w g (i+d) aD p).2:=by
 intro f
 induction f with
 |zero=>intro g i aD o p _ A;omega
 |succ f z=>
  intro g i aD o p hi B C e;obtain⟨g,rfl⟩:∃k,g=k+1:=⟨g-1,ae⟩;have hs:=h.size;rw[gB]at e⊢;have t:=Dt s (s.size+1) i aD hi;have b:=Tt s (s.size+1) i aD;rcases r:cF s (s.size+1) i aD with⟨q,j,l⟩;rw[r]at e t b;dsimp only at e t b;rcases b with u|u
  ·subst u;rw[bF (by decide),aM]at e;obtain⟨w1,D⟩:=h.Ts (s.size+1) (w.size+1) i j aD l hi ae ae r;cases n:j==s.size with
   |true=>rw[n,aU]at e;exact absurd e ae
   |false=>
    rw[n,aM]at e;have n:=dU.1 n;have a:j<s.size:=ae;rw[w1 a];dsimp only;rw[bF (by decide),aM,show(j+d==w.size)=false from dU.2 ae,aM];rcases m:fl num s j l with⟨k,_|x⟩
    ·have:=h.agO y a (num:=num) (iL:=iL) (aD:=l) (Hm:=l) (by rw[m]);grind
    ·rw[m]at e;dsimp only at e;have v:=DX a m;rw[h.one a (hn j a) m];dsimp only;exact z g k false _ _ v.2 ae ae e
  ·have:=h.abf c (s.size+1) (w.size+1) i aD hi (by simp[*]) ae;simp[*]
end
end
section
open Go
section
variable{V:Vw}
end
theorem akr{a b:ByteArray}(h:bC a b=true):a=b:=by
 have h:(a.data==b.data)=true:=h;exact ByteArray.ext (eq_of_beq h)
section
variable{L:List bh}{fin:Int}{aI:Nat->ByteArray}{wide:ByteArray->ByteArray}{s:al}
end
section
variable{La Lb J:List bh}{fa fb fj:Int}{aI:Nat->ByteArray}{wide:ByteArray->ByteArray}
end
end
section
open Go
section
variable{s w:ByteArray}{d:Nat}
def uv(c:Nat)(m:ByteArray):Bool:=decide (c<128)&&(!hL c&&(!rE c&&(!(c==47)&&(!fi c&&(!bL c&&(!(c==46)&&(!(c==34)&&(!(c==39)&&((eV.all fun m'=> !((dj m').head?==some c)||dj m'==[c])&&((eV.find? fun m'=>dj m'==[c]).map dj==some (dj m)&&m.size==1))))))))))
theorem Vq:uv 40 lp=true:=by decide+kernel
theorem Vr:uv 41 rp=true:=by decide+kernel
theorem agc{a b:ByteArray}(h:dj a=dj b):a=b:=by
 unfold dj at h;have:=List.map_inj_right (f:=UInt8.toNat) (fun x y e=>UInt8.toNat.inj e) |>.1 h;exact ByteArray.ext (Array.ext' this)
theorem afT{c:Nat}{m:ByteArray}(g:uv c m=true){j:Nat}(t:j<w.size)(s:bt w j=c):(eV.find? fun m=>cY w j (dj m))=some m:=by
 unfold uv at g;simp only[gx]at g;obtain⟨-,-,-,-,-,-,-,-,-,k,d,p⟩:=g;rw[List.all_eq_true]at k;have d:=eq_of_beq d;have key:∀m'∈eV,cY w j (dj m')=(dj m'==[c]):=by
  intro m' h;have q:=k m' h;have i:dj m'≠[]:=by
   have:∀m∈eV,dj m≠[]:=by decide+kernel
   simp[*]
  cases hn:dj m' with
  |nil=>exact absurd hn i
  |cons b r=>
   rw[hn]at q;rw[List.head?_cons]at q;by_cases f:b=c
   ·subst f;have e:(b::r)=[b]:=by
     grind
    rw[e];unfold cY;grind
   ·have n:(b::r==[c])=false:=dU.2 (fun e=>f (List.cons.inj e).1);rw[n];unfold cY;rw[Bool.and_eq_false_iff];refine .inr ?_;rw[List.all_eq_false];refine⟨0,List.mem_range.2 (Nat.succ_pos _),?_⟩;grind
 have o:(eV.find? fun m=>cY w j (dj m))=eV.find? fun m'=>dj m'==[c]:=by
  have:∀l:List ByteArray,(∀m'∈l,cY w j (dj m')=(dj m'==[c]))->(l.find? fun m=>cY w j (dj m))=l.find? fun m'=>dj m'==[c]:=by
   intro l
   induction l with
   |nil=>intro _;rfl
   |cons a l u=>
    grind
  grind
 rw[o];cases hx:eV.find? (fun m'=>dj m'==[c])with
 |none=>rw[hx]at d;cases d
 |some y=>
  rw[hx]at d;have:dj y=dj m:=Option.some.inj d;rw[agc this]
theorem Vb{c:Nat}{m:ByteArray}(a:uv c m=true){num:Nat->Nat}{g i j:Nat}{l b:Bool}{o:List bh}(d:cF w (w.size+1) i l=(-1,j,b))(f:j<w.size)(h:bt w j=c):gB num w (g+1) i l o=gB num w g (j+1) false (o++[⟨5,m,0,j,b⟩]):=by
 have e:=afT a f h;unfold uv at a;simp only[gx,Bool.not_eq_true']at a;obtain⟨n,p,q,r,s,t,u,v,x,-,-,y⟩:=a;rw[gB,d];dsimp only;rw[bF (by decide),aM,show(j==w.size)=false from dU.2 ae,aM];have hl:fi (bt w j)=false:=by simp[*]
 have hn:gU w j=false:=by unfold gU;simp[*]
 have k:(bt w j==34||bt w j==39)=false:=by simp[*]
 rw[uy hl hn k,e];grind
theorem Tu{c:Nat}{m:ByteArray}(a:uv c m=true){f j:Nat}{l:Bool}(b:j<w.size)(h:bt w j=c):cF w (f+1) j l=(-1,j,l):=by
 unfold uv at a;simp only[gx,Bool.not_eq_true']at a;obtain⟨d,e,g,i,-⟩:=a;have no:∀t:List Nat,cY w j (47::t)=false:=fun t=>by
  cases hp:cY w j (47::t)with
  |false=>rfl
  |true=>
   exfalso;unfold cY at hp;rw[gx,List.all_eq_true]at hp;have:=hp.2 0 (List.mem_range.2 (Nat.succ_pos _));grind
 rw[cF,bv b,VH h (j7 d) b];simp[*]
theorem abh{c:Nat}{m:ByteArray}(d:uv c m=true){j:Nat}{l:Bool}(b:j+1<w.size)(a:bt w j=10)(h:bt w (j+1)=c):cF w (w.size+1) j l=(-1,j+1,true):=by
 obtain⟨k,hk⟩:∃k,w.size=k+1:=⟨w.size-1,ae⟩;rw[cF,bv (show j<w.size by omega),DU a ae];show cF w w.size (j+1) true=_;have:=Tu (w:=w) d (f:=k) (j:=j+1) (l:=true) b h;simp[*]
theorem afm{num:Nat->Nat}{g:Nat}{l:Bool}{o:List bh}:gB num w (g+1) w.size l o=(o,-1):=by
 rw[gB,cF,bF (Nat.lt_irrefl _)];simp[*]
theorem cM.num(h:cM s w d)(K:bQ):∀i,i<s.size->gU s i=true->(dX s i).2=true->iu K w (i+d)=iu K s i:=by
 intro i hi hn ok;unfold iu;have:=VP hi hn ok;rw[h.N7 hi,h.ext (Nat.le_of_lt hi) this.2]
theorem Va{num:Nat->Nat}{s:ByteArray}(h:(sT num s).2<0):∃r,sT num s=(r,-1):=by
 have:=(U_ h).1;grind
end
theorem amF{d:Nat}{l:List bh}{i:Nat}{x:bh}(h:l[i]?=some x):(l.map (bh.mv d))[i]?=some (x.mv d):=by
 simp[*]
def dd:Nat->ByteArray->ByteArray
 |0,s=>s
 |k+1,s=>(⟨#[40]⟩++dd k s)++⟨#[10,41]⟩
def r8:Nat->List UInt8
 |0=>[]
 |k+1=>10::41::r8 k
theorem W1:∀k,r8 k++[10,41]=r8 (k+1)
 |0=>rfl
 |k+1=>by
  show 10::41::(r8 k++[10,41])=_;rw[W1 k];rfl
theorem W3:∀k,(r8 k).length=2*k
 |0=>rfl
 |k+1=>by
  show(r8 k).length+1+1=_;rw[W3 k];omega
theorem W2:∀(k i:Nat),i<k->(r8 k)[2*i]?=some 10/\(r8 k)[2*i+1]?=some 41
 |0,i,h=>absurd h (Nat.not_lt_zero _)
 |k+1,0,_=>aq
 |k+1,i+1,h=>by
  have:=W2 k i ae;exact this
theorem FD(s:ByteArray):∀k,(dd k s).data.toList=List.replicate k 40++(s.data.toList++r8 k)
 |0=>by
  show s.data.toList=[]++(s.data.toList++[]);rw[dv];rfl
 |k+1=>by
  unfold dd;rw[ByteArray.data_append,ByteArray.data_append,Array.toList_append,Array.toList_append,FD s k,<-W1 k,List.replicate_succ];simp
theorem zZ(s:ByteArray)(k:Nat):(dd k s).size=k+s.size+2*k:=by
 have:=congrArg List.length (FD s k);rw[sS,eS,eS,List.length_replicate,sS,W3]at this;omega
theorem XB(s:ByteArray)(k:Nat):cM s (dd k s) k:=⟨List.replicate k 40,r8 k,FD s k,List.length_replicate,by
 cases k with
 |zero=>exact .inl rfl
 |succ k=>exact .inr ⟨_,rfl⟩⟩
theorem Xz(s:ByteArray){k i:Nat}(h:i<k):bt (dd k s) i=40:=by
 rw[AO,FD,lD (by simp[*]),List.getElem?_replicate,if_pos h];rfl
theorem Sk(s:ByteArray){k i:Nat}(h:i<k):bt (dd k s) (s.size+k+2*i)=10/\bt (dd k s) (s.size+k+2*i+1)=41:=by
 have g:∀j,bt (dd k s) (s.size+k+j)=(((r8 k)[j]?).map UInt8.toNat).getD 0:=fun j=>by
  rw[AO,FD,j6 (by grind),List.length_replicate,j6 (by rw[sS];omega),sS,show s.size+k+j-k-s.size=j by omega]
 obtain⟨a,b⟩:=W2 k i h;grind
theorem alo(s:ByteArray)(k:Nat):AE s (dd k s) k:=by
 have b:=zZ s k;refine⟨fun hl=>?_⟩;have hk:0<k:=ae;refine⟨(Sk s hk).2,ae,?_⟩;by_cases a:k=1
 ·omega
 ·exact .inr ⟨ae,(Sk s (i:=1) ae).1⟩
def uu(n:Nat):List bh:=(List.range n).map fun i=>⟨5,lp,0,((i:Nat):Int),false⟩
def Ck(z n:Nat):List bh:=(List.range n).map fun i=>⟨5,rp,0,((z+2*i+1:Nat):Int),true⟩
theorem XA(s:ByteArray)(k:Nat)(num:Nat->Nat):∀j,j<=k->gB num (dd k s) ((dd k s).size+1) 0 false []=gB num (dd k s) ((dd k s).size+1-j) j false (uu j):=by
 have d:=zZ s k;intro j
 induction j with
 |zero=>intro _;rfl
 |succ j b=>
  intro c;rw[b ae];obtain⟨g,a⟩:∃g,(dd k s).size+1-j=g+1:=⟨(dd k s).size-j,ae⟩;rw[a,Vb Vq (Tu Vq ae (Xz s ae)) ae (Xz s ae)];rw[show(dd k s).size+1-(j+1)=g by omega];unfold uu;rw[List.range_succ,List.map_append];rfl
theorem aln(s:ByteArray)(k:Nat)(num:Nat->Nat)(g:Nat)(l:Bool)(o:List bh)(f:(dd k s).size-(s.size+k)<g):∀j,j<=k->∃a c,(dd k s).size-(s.size+k+2*j)<a/\gB num (dd k s) g (s.size+k) l o=gB num (dd k s) a (s.size+k+2*j) c (o++Ck (s.size+k) j):=by
 have q:=zZ s k;intro j
 induction j with
 |zero=>intro _;exact⟨g,l,f,by show _=gB num (dd k s) g (s.size+k) l (o++[]);simp[*]⟩
 |succ j h=>
  intro p;obtain⟨a,c,m,e⟩:=h ae;obtain⟨d,b⟩:=Sk s (k:=k) (i:=j) ae;obtain⟨a,rfl⟩:∃n,a=n+1:=⟨a-1,ae⟩;refine⟨a,false,ae,?_⟩;rw[e,Vb Vr (abh Vr ae d b) ae b];unfold Ck;rw[List.range_succ,List.map_append,<-jj];rfl
theorem Xy{K:bQ}{s:ByteArray}(k:Nat)(h:(co K s).2<0):(co K (dd k s)).2= -1/\Dn (co K s).1 (co K (dd k s)).1 k:=by
 have p:=zZ s k;have c:=XB s k;obtain⟨r,e⟩:=Va (s:=s) h;obtain⟨x,l,g,a1,a2,a3⟩:=c.NP (c.num K) (s.size+1) ((dd k s).size+1-k) 0 false [] r (df _) ae e;rw[List.nil_append]at a1;subst a1;have a3:=a3 (uu k);rw[gT]at a3;obtain⟨a,q,j,b⟩:=aln s k (iu K (dd k s)) g l (uu k++r.map (bh.mv k)) a2 k (bT _);obtain⟨a,rfl⟩:∃n,a=n+1:=⟨a-1,ae⟩;rw[show s.size+k+2*k=(dd k s).size by omega,afm]at b;have e1:co K (dd k s)=(uu k++r.map (bh.mv k)++Ck (s.size+k) k,-1):=by
  unfold co sT;rw[XA s k _ k (bT _),a3,b]
 have d:(co K s).1=r:=by unfold co;rw[e]
 rw[e1,d];have l1:(uu k).length=k:=by unfold uu;simp
 have l2:(Ck (s.size+k) k).length=k:=by unfold Ck;simp
 refine⟨rfl,by grind,fun i hi=>?_,fun i hi=>?_,fun i m o=>?_⟩
 ·refine⟨⟨5,lp,0,((i:Nat):Int),false⟩,?_,rfl,rfl⟩;dsimp only;rw[jj,lD ae];unfold uu;simp[*]
 ·obtain⟨y,f⟩:∃y,r[i]?=some y:=⟨_,gy hi⟩;refine⟨y,y.mv k,f,?_,rfl,rfl,rfl,rfl⟩;dsimp only;rw[jj,j6 ae,l1,Nat.add_sub_cancel,lD (by simp[*])];grind
 ·refine⟨⟨5,rp,0,((s.size+k+2*(i-k-r.length)+1:Nat):Int),true⟩,?_,rfl,rfl,rfl⟩;dsimp only;rw[j6 (by simp[*]),eS,List.length_map,l1,show i-(k+r.length)=i-k-r.length by omega];unfold Ck;grind
theorem alm{K:bQ}{s:ByteArray}(k:Nat)(hn:∀i,i<s.size->bt s i≠47)(h:0<=(co K s).2):0<=(co K (dd k s)).2:=by
 have b:=zZ s k;have a:=XB s k;have:=a.afk (alo s k) hn (a.num K) (s.size+1) ((dd k s).size+1-k) 0 false [] (uu k) (df _) ae ae h;unfold co sT;rw[XA s k _ k (bT _)];grind
theorem afn{num:Nat->Nat}{s:ByteArray}:∀(f i:Nat)(aD:Bool)(o r:List bh),i<=s.size->gB num s f i aD o=(r,-1)->∀x∈r,x∈o\/∃j l k,j<s.size/\fl num s j l=(k,some x):=by
 intro f
 induction f with
 |zero=>intro i aD o r _ h;cases h
 |succ f p=>
  intro i aD o r hi h x hx;rw[gB]at h;have c:=Dt s (s.size+1) i aD hi;rcases m:cF s (s.size+1) i aD with⟨q,j,l⟩;rw[m]at h c;dsimp only at h c;cases n:decide (q>=0)with
  |true=>
   grind
  |false=>
   rw[n,aM]at h;cases a:j==s.size with
   |true=>
    grind
   |false=>
    rw[a,aM]at h;have a:=dU.1 a;rcases b:fl num s j l with⟨k,_|d⟩
    ·grind
    ·rw[b]at h;dsimp only at h;have e:=DX ae b;rcases p k false (o++[d]) r e.2 h x hx with g|g
     all_goals grind
theorem afp{K:bQ}{s:ByteArray}(h:(co K s).2<0)(hn:∀i,i<s.size->bt s i≠40/\bt s i≠41):∀x,x∈(co K s).1->((x.kind==5||x.kind==2)&&(bC x.text lp||bC x.text rp))=false:=by
 intro x hx;obtain⟨r,e⟩:=Va (s:=s) h;have hx:x∈r:=by
  have:(co K s).1=r:=by unfold co;rw[e]
  grind
 rcases afn _ _ _ _ _ (df _) e x hx with t| ⟨j,l,k,o,a⟩
 ·cases t
 cases v:(x.kind==5||x.kind==2)&&(bC x.text lp||bC x.text rp)with
 |false=>rfl
 |true=>
  exfalso;obtain⟨z,c⟩:=(gx _ _).mp v;have c:=(Bool.or_eq_true _ _).mp c;have d:x.text.size=1/\(bt x.text 0=40\/bt x.text 0=41):=by
   rcases c with c|c <;> rw[akr c]
   ·exact⟨rfl,.inl rfl⟩
   ·exact⟨rfl,.inr rfl⟩
  obtain⟨n,z2⟩:=d;have A:=hn j o;cases hl:fi (bt s j)with
  |true=>
   rw[yQ hl]at a;cases a;dsimp only at n z2;rw[gS]at n;have r:=lR s gA (Nat.le_of_lt o);rw[MY ae r.2,Nat.add_zero]at z2;omega
  |false=>
   cases b:gU s j with
   |true=>
    rw[wj hl b]at a;grind
   |false=>
    cases q:(bt s j==34||bt s j==39)with
    |true=>
     rw[wk hl b q]at a;grind
    |false=>
     rw[uy hl b q]at a;cases f:eV.find? (fun m=>cY s j (dj m))with
     |none=>rw[f]at a;cases a
     |some m=>
      rw[f]at a;cases a;dsimp only at n z2;have hp:cY s j (dj m)=true:=List.find?_some (p:=fun m=>cY s j (dj m)) f;have w:dj m=[bt m 0]:=by
       have g:m.data.toList.length=1:=by simp[*]
       obtain⟨u,y⟩:=List.length_eq_one_iff.1 g;unfold dj;rw[AO,y];rfl
      rw[w]at hp;unfold cY at hp;rw[gx,List.all_eq_true]at hp;have:=eq_of_beq (hp.2 0 (List.mem_range.2 (Nat.succ_pos _)));grind
end
section
open Go
end
section
open Go
theorem afi(K:bQ)(s:ByteArray):(i6 K s).2≠0:=by
 unfold i6;grind
section
variable{M:bQ->cf->Nat->PM Unit}{K:bQ}{s:ByteArray}{n:Nat}
theorem Oo(g:∀p t,M K (jf K s) n ee≠.stop p 0 t)(i:M K (jf K s) n ee≠.out)(h:(bY M K s n).2.2=0):
  ¬nq K s/\∃t,M K (jf K s) n ee= .ok () t/\t.nodes.length<=4096/\lA t.nodes=false/\bY M K s n=(t.nodes,0,0):=by
 by_cases c:nq K s
 ·rw[Og c]at h;exact absurd h (afi K s)
 ·refine⟨c,?_⟩;rw[DZ c]at h⊢;cases f:M K (jf K s) n ee with
  |out=>exact absurd f i
  |stop p e t=>
   grind
  |ok a t=>
   rw[f]at h;dsimp only at h⊢;by_cases d:t.nodes.length>4096
   ·rw[M1 d]at h;omega
   cases b:lA t.nodes with
   |true=>rw[M0 b]at h;exact absurd h (show ¬(4:Int)=0 by decide)
   |false=>exact⟨t,rfl,ae,b,by rw[GL d b]⟩
theorem Wf{t:al}(b:¬nq K s)(h:M K (jf K s) n ee= .ok () t)(c:t.nodes.length<=4096)(a:lA t.nodes=false):bY M K s n=(t.nodes,0,0):=by
 rw[DZ b,h];dsimp only;rw[GL ae a]
theorem aiA(h:(bY M K s n).2.2≠0):(bY M K s n).1=[]:=by
 by_cases b:nq K s
 ·rw[Og b]
 ·rw[DZ b]at h⊢;cases c:M K (jf K s) n ee with
  |out=>rfl
  |stop p e t=>rfl
  |ok a t=>
   rw[c]at h;dsimp only at h⊢;rcases abq t.nodes with e| ⟨e,_⟩
   all_goals grind
end
section
variable{L:List bh}{fin:Int}{aI:Nat->ByteArray}{wide:ByteArray->ByteArray}{s t:al}{f g:Nat}
theorem Ud(b:f<=g)(h:j4 L fin aI wide f s≠.out):j4 L fin aI wide g s=j4 L fin aI wide f s:=by
 let k:List Int->PM Unit:=fun _=>ez>>=fun s=>bif decide (s.i<L.length) then iU L fin else ret ()
 have a:∀n,j4 L fin aI wide n s=b0 (P L fin aI wide n .aZ) k s:=fun _=>rfl;rw[a]at h;rw[a,a];unfold b0 at h⊢;rcases FP L fin aI wide b .aZ s with e|e
 all_goals grind
theorem Nf:NZ (j4 L fin aI wide f):=NZ.bind (Y4 f .aZ) fun _=>NZ.bind NZ.get fun _=>NZ.bif NZ.dI NZ.ret
theorem Nd{F:Nat}(h:∀G,F<=G->j4 L fin aI wide G s= .ok () t)(a:j4 L fin aI wide f s≠.out):j4 L fin aI wide f s= .ok () t:=by
 rw[<-Ud (Nat.le_max_right F f) a];grind
end
theorem WE{ns ms:List cj}(h:C3 ns ms):lA ms=lA ns:=by
 have key:∀(i:Nat)(ab:List Int),p8 ms i ab=p8 ns i ab:=by
  intro i
  induction i with
  |zero=>intro ab;rfl
  |succ i a=>
   intro ab;have e:(ms[i]?).map (·.aJ)=(ns[i]?).map (·.aJ):=by
    cases hx:ns[i]? with
    |some x=>
     obtain⟨y,b,-,-,-,hk⟩:=h.get i x hx;simp[*]
    |none=>
     have:=List.getElem?_eq_none_iff.1 hx;rw[ot (by rw[h.len];omega)]
   rw[p8,p8,a,e]
 unfold lA;rw[key,h.len]
section
variable{K:bQ}{s:ByteArray}{k:Nat}
theorem alk(hs:s.size<=1500)(hk:k<=8)(h:(co K (dd k s)).2= -1):¬nq K (dd k s):=by
 rintro(e|e)
 ·rw[zZ]at e;omega
 omega
theorem afo(h:¬nq K s):(co K s).2<0:=by
 have:¬0<=(co K s).2:=fun e=>h (.inr e);omega
theorem ag1(hs:s.size<=1500)(hk:k<=8)(h:(bY bS K s (cm K s)).2.2=0):
  (bY bS K (dd k s) (cm K (dd k s))).2.2=0/\C3 (bY bS K s (cm K s)).1 (bY bS K (dd k s) (cm K (dd k s))).1:=by
 obtain⟨g,t,c,d,e,f⟩:=Oo (fun p t=>Nf _ p t) yr h;obtain⟨w1,j⟩:=Xy k (afo g);have a:=alk hs hk w1;obtain⟨F,u,i,b⟩:=j.A4 (d1:=(dd k s).size) (show j4 (co K s).1 s.size K.tv bx (cm K s) hF= .ok () t from c);have e0:bS K (jf K (dd k s)) (cm K (dd k s)) ee= .ok () u:=Nd i yr;rw[Wf a e0 (by rw[b.len];exact d) (by rw[WE b];exact e),f];simp[*]
theorem ag0(hs:s.size<=1500)(hk:k<=8)(l:0<k)(hn:∀i,i<s.size->bt s i≠40/\bt s i≠41/\bt s i≠47)(h:(bY bS K s (cm K s)).2.2≠0):
  (bY bS K (dd k s) (cm K (dd k s))).2.2≠0:=by
 intro q;obtain⟨b,u,d,m,n,w⟩:=Oo (fun p t=>Nf _ p t) yr q;by_cases hl:0<=(co K s).2
 ·exact b (.inr (alm k (fun i hi=>(hn i hi).2.2) hl))
 have hl:(co K s).2<0:=ae;obtain⟨w1,j⟩:=Xy k hl;have o:¬nq K s:=by
  rintro(e|e)
  all_goals omega
 obtain⟨f,t,r⟩:=j.cK (fin:=s.size) l (afp hl fun i hi=>⟨(hn i hi).1,(hn i hi).2.1⟩) (show j4 (co K (dd k s)).1 (dd k s).size K.tv bx (cm K (dd k s)) hF= .ok () u from d);have a:∀G,f<=G->j4 (co K s).1 s.size K.tv bx G hF= .ok () t:=fun G a=>by
  rw[Ud a (by simp[*])];exact r
 have e0:bS K (jf K s) (cm K s) ee= .ok () t:=Nd a yr;obtain⟨F,v,c,g⟩:=j.A4 (d1:=(dd k s).size) (show j4 (co K s).1 s.size K.tv bx (cm K s) hF= .ok () t from e0);have e1:bS K (jf K (dd k s)) (cm K (dd k s)) ee= .ok () v:=Nd c yr;rw[d]at e1;cases e1;apply h;rw[Wf o e0 (by rw[<-g.len];exact m) (by rw[<-WE g];exact n)]
end
end
section
open Go
theorem acE{K:bQ}(l:nh K){s:ByteArray}(h:(bY bS K s (cm K s)).2.2=0):
  (bY bS K s (cm K s)).1.length<=4096/\∀d∈(bY bS K s (cm K s)).1,d.aJ.length<=4096:=by
 obtain⟨n,t,f,g,q,j⟩:=Oo (fun p t=>Nf _ p t) yr h;have m:=l.Oe n;obtain⟨r,t1,e1,c⟩:=ru (show j4 (co K s).1 s.size K.tv bx (cm K s) hF= .ok () t from f);have a:(bif decide (t1.i<(co K s).1.length) then iU (co K s).1 s.size else ret ()) t1=PR.ok () t:=c;have e:t=t1:=by
  cases hd:decide (t1.i<(co K s).1.length)with
  |true=>rw[hd]at a;cases a
  |false=>rw[hd]at a;cases a;rfl
 have b:=K4 (aI:=K.tv) (wide:=bx) m.d6 (cm K s) .aZ hF [] trivial ⟨List.Perm.refl _,List.Pairwise.nil,fun i x h=>by simp[hF]at h,fun x h=>by simp[hF]at h⟩;unfold WP at b;rw[show P (jf K s).L (jf K s).fin K.tv bx (cm K s) .aZ hF= .ok r t1 from e1]at b;have k:=b.1;rw[j];refine⟨g,fun d hd=>?_⟩;have hp:=k.yW.length_eq;rw[UP,eS]at hp;rw[<-e]at hp;obtain⟨l1,l2,o⟩:=List.append_of_mem hd;grind
theorem VB{y:eP}{ns:List cj}{F:ah}(f:y.ok ns)(hk:kO ns y.vs)(h:Sub y.r.A F)(p:Sub (fR ns y.vs) F):vC ns y.r.a F:=⟨fun i d hd=>by
 have hl:=f.len;have hi:=(kw.1 hd).1;obtain⟨rb,g⟩:=f.1.AK ae;obtain⟨a,n,c,q,hs,hn,r⟩:=VC f hk g hd;subst hn;refine⟨rb,a,c,g,hs,?_,(we (j:=0) f g hd fun v=>rfl).sub h,(we (j:=1) f g hd fun v=>rfl).sub h,(we (j:=2) f g hd fun v=>rfl).sub h,r.sub h,(we (j:=4) f g hd fun v=>rfl).sub h⟩;intro s e j u m;subst e;unfold bB at m;rw[fP,Option.map_eq_some_iff]at m;obtain⟨k,l,rfl⟩:=m;obtain⟨b,o,e⟩:=hs.some (by have:=(kw.1 l).1;omega);cases e;rw[pa];exact(NJ hd q l).sub p⟩
structure Am where
 K:bQ
 src:ByteArray
 n:Int
def s8:aQ where
 X:=Am
 args x:=[ai x.src,a8 x.n]
 cond x:=nh x.K/\0<=x.n/\x.n<=255
 aO x F:=eH x.K F/\iA F
 val _ _:=ax (aj true)
structure vF where
 y:eP
 b:Nat
 j:Nat
structure Do(x:Am)(d:vF):Prop where
 le:(d.j:Int)<=x.n.tmod 9
 len:x.src.size<=1500
 ok:d.y.ok (bY bS x.K x.src (cm x.K x.src)).1
 kp:kO (bY bS x.K x.src (cm x.K x.src)).1 d.y.vs
def EZ(d:vF):List Value:=[au d.y.r.a d.y.r.n d.y.r.cap]
def aig(x:Am)(F:ah):Nat->Option Inv:=fun
 |0=>some {X:=vF,P:=Do x,mu:=fun d=>(x.n.tmod 9).toNat-d.j,lv:=fun d=>[(0,ai x.src),(1,a8 x.n),(5,ag (some ⟨d.b,0,none⟩)),(7,(ad (bY bS x.K x.src (cm x.K x.src)).2.2)),(8,ai (dd d.j x.src)),(25,a8 (x.n.tmod 9)),(26,a8 d.j)],st:=fun d=>[F,d.y.r.A,(fR (bY bS x.K x.src (cm x.K x.src)).1 d.y.vs),af d.b (EZ d) 25]}
 |_=>none
def D6(F:ah)(a:vF)(x:Am):=[(0,F),(1,a.y.r.A),(2,eT (Kf.rest (bY bS x.K x.src (cm x.K x.src)).fst a.y.vs)),(3,af a.b (EZ a) 25)]
def uG(F:ah)(g:vF)(x:Am)(d:eP)(e:o9)(c:Nat):=[(0,F),(1,g.y.r.A),(2,eT (Kf.rest (bY bS x.K x.src (cm x.K x.src)).fst g.y.vs)),(3,af g.b (EZ g) 25),(21,d.r.A),(22,eT (Kf.rest (bY bS e.K e.src (cm e.K e.src)).fst d.vs)),(12060,af c (mj d) 25)]
theorem aii(x:Am)(F:ah)(E:s8.cond x)(L:s8.aO x F):aC 6 oe/\true=true/\∃(l:KR),([]:List Value)=[]/\([]:List ah)=[]/\nh l.K/\(eH l.K (cP F)/\iA (cP F))/\∀(k:Unit),True->aS ((x.src.size:Int)>1500) (ar s8 x F fm [(0,F)]) (At [ai x.src] (cP F) (fun j i=>∀(h:Nat),aw h 0/\(9:Int)≠(0:Int)/\(∃(a:vF),Do x a/\(ai x.src=ai x.src/\a8 x.n=a8 x.n/\ag (bI h)=ag (some ⟨a.b,0,none⟩)/\ad (bY bS j.K j.src (cm j.K j.src)).snd.snd=ad (bY bS x.K x.src (cm x.K x.src)).snd.snd/\ai x.src=ai (dd a.j x.src)/\a8 (x.n.tmod (9:Int))=a8 (x.n.tmod (9:Int))/\a8 0=a8 ↑a.j/\True)/\aE [(0,F),(11,i.r.A),(12,eT (Kf.rest (bY bS j.K j.src (cm j.K j.src)).fst i.vs)),(6060,af h (mj i) 25)] (D6 F a x))/\aT fun(g:vF)_=>Do x g->aS (g.j<x.n.tmod (9:Int)) (1+(dd g.j x.src).size<=9223372036854775807/\((ByteArray.mk #[40])++dd g.j x.src).size+2<=9223372036854775807/\(0<=(g.j:Int)+1/\(g.j:Int)+1<=(255:Int))/\∃(a:vF),Do x a/\(ai x.src=ai x.src/\a8 x.n=a8 x.n/\ag (some ⟨g.b,0,none⟩)=ag (some ⟨a.b,0,none⟩)/\ad (bY bS x.K x.src (cm x.K x.src)).snd.snd=ad (bY bS x.K x.src (cm x.K x.src)).snd.snd/\ai ((ByteArray.mk #[40])++dd g.j x.src++(ByteArray.mk #[10,41]))=ai (dd a.j x.src)/\a8 (x.n.tmod (9:Int))=a8 (x.n.tmod (9:Int))/\a8 ((g.j:Int)+1)=a8 ↑a.j/\True)/\aE (D6 F g x) (D6 F a x)/\(x.n.tmod (9:Int)).toNat-a.j<(x.n.tmod (9:Int)).toNat-g.j) (At [ai (dd g.j x.src)] (aH (D6 F g x) []) (fun e d=>∀(c:Nat),aw c 0/\Br ((bY bS x.K x.src (cm x.K x.src)).snd.snd !=0) (aw g.b 0/\Br ((g.y.r.n:Int)==0) ((9:Int)≠(0:Int)/\Br (x.n.tmod (9:Int)==(0:Int)) (ar s8 x F fm (uG F g x d e c)) (Br ((bY bS e.K e.src (cm e.K e.src)).snd.snd !=0) (ar s8 x F fm (uG F g x d e c)) (aC 8 u4/\true=true/\∃(b:vw),[ai x.src]=[ai b.s]/\([]:List ah)=[]/\b.s.size<=1048576/\True/\∀(a:Bool),(a=false->Ah b.s b.s.size)->ar s8 x F (ax (aj a)) (uG F g x d e c)))) (ar s8 x F cV (uG F g x d e c))) (Br (JW e) (aw g.b 0/\aw c 0/\aC 9 zK/\true=true/\∃(b:xO),[agg ⟨EZ g⟩,agg ⟨mj d⟩,aj false]=[agg ⟨zs b⟩,agg ⟨zt b⟩,aj false]/\([]:List ah)=[]/\(C3 b.ns b.ms/\b.ns.length<=1048576/\∀(a:cj),a∈b.ns->a.aJ.length<=1048576)/\(vC b.ns b.a (aH (uG F g x d e c) [])/\vC b.ms b.b (aH (uG F g x d e c) []))/\∀(a:Unit),True->ar s8 x F fm (uG F g x d e c)) (ar s8 x F cV (uG F g x d e c))))))):=by
 delta cP fm At bI mj EZ D6 uG c6 cV JW zs zt aH aw ad a8 ai aj ag au af eT aS ax aT;obtain⟨K,src,n⟩:=x;obtain⟨s,v,w⟩:=E;obtain⟨t,u⟩:=L;dsimp only at s v w t u;have p:∀{S:St}{bG:List Nat},(0:Nat)∉bG->gt S 0=F->eH K (.dq (rest S bG))/\iA (.dq (rest S bG)):=fun h e=>⟨eH.sub t (oP 0 h e),iA.sub u (oP 0 h e)⟩;have M:0<=n.tmod 9/\n.tmod 9<=8:=by
  grind
 refine br aaW ⟨K⟩ s (p aL rfl) fun _ _=>bo (fun h=>im) (fun o=>?_);have o:src.size<=1500:=by grind
 refine br KA ⟨K,src⟩ s (p aL rfl) fun y m b=>⟨aq,by decide,⟨⟨y,b,0⟩,⟨M.1,o,m.1,m.2⟩,aV,az [0,11,12,6060]⟩,?_⟩;clear m y;rintro⟨y,b,j⟩ R ⟨I,hl,m,hk⟩;dsimp only at I hl m hk⊢;have Q:=zZ src j;refine bo (fun J=>⟨ae,?_,aK,⟨y,b,j+1⟩,⟨by grind,hl,m,hk⟩,aV,az [0,1,2,3],by grind⟩) (fun H=>?_)
 ·rw[ky];show 1+_+2<=_;omega
 refine br KA ⟨K,dd j src⟩ s (p aL rfl) fun z q c=>⟨aq,aG (fun G=>?_) (fun G=>?_)⟩
 ·have f:(bY bS K src (cm K src)).2.2≠0:=by grind
  have C:=m.len;rw[aiA f]at C;refine⟨aq,sC (by simp[*]) ⟨by decide,aG (fun _=>im) (fun D=>aG (fun _=>im) (fun P=>bO ai0 ⟨src⟩ (by grind) fun r B=>⟨(),ao,?_,az [0]⟩))⟩⟩;cases r with
  |true=>rfl
  |false=>
   exfalso;have D:=dU.1 D;have A:=B rfl;exact ag0 hl (k:=j) ae ae (fun i hi=>A i hi hi) f (by grind)
 ·have f:(bY bS K src (cm K src)).2.2=0:=by grind
  obtain⟨N,O⟩:=ag1 (k:=j) hl ae f;obtain⟨q1,q2⟩:=acE s f;exact sC (by rw[N];rfl) ⟨aq,aq,ajU,rfl,⟨_,_,y.r.a,y.r.cap,z.r.a,z.r.cap⟩,by rw[m.len,q.1.len],rfl,⟨O,gR q1 (by decide),fun d hd=>gR (q2 d hd) (by decide)⟩,⟨VB m hk (bP 1) (bP 2),VB q.1 q.2 (bP 21) (bP 22)⟩,fun _ _=>im⟩
theorem aih:aC 3 s8:=fo 64 Tryz.func3 (fun _ _=>[(1,0,aW oe),(5,1,.c (nV bS) [] [11,12]),(5,6,.n 6060),(5,7,.w [.z00 6060]),(7,1,.ck),(10,0,.ck),(11,1,.c (nV bS) [] [21,22]),(11,6,.n 12060),(11,7,.w [.z00 12060]),(13,1,aR 3),(13,6,.ck),(13,14,aW u4),(14,3,aR 3),(14,4,aR 12060),(14,5,aW zK)]) [] aig aY bA [] aii
end
section
open Go Go.ChangeShapes Go.WideShapes Go.ChangeAt Go.RowKit Go.ChangeMaps
theorem ag2(os:Os)(a:os.Started)(H:Type)(gv:TypeId×Value->H):
  ReturnsInHanded {} Tryz.checked os 3 .any (fun w args=>(Rows.parseParensSpec.pre gv Tryz.prog Tryz.f3 [] false w args/\laidMetH Tryz.prog Rows.parseParensRow.laid w)/\sizedMet gv Tryz.prog Tryz.f3 (OpenSpec.ofChange Rows.parseParensSpec) false w args)
   (Rows.parseParensSpec.post gv Tryz.prog Tryz.f3 false true false false):=by
 refine aiR (C:=Tryz.checked) (X:=fun w=>laidMetH Tryz.prog Rows.parseParensRow.laid w) (fun _ _ x h=>h.of_heap x) ajW a bl Tryz.func3
  (ChangeSpec.witness_shaped (enc:=gv) (C:=Tryz.checked) (os:=os) (X:=fun w _=>laidMetH Tryz.prog Rows.parseParensRow.laid w) false (World.laidAll Tryz.prog os Rows.parseParensRow.laid) #[.string .empty,.int .u8 0] 8 (World.laidAll_os _ _ _)
   (World.shaped_of_ZipB bl bl) bl bl bl
   (by rw[MakeChecks.laidMetH_plain _ _ _ bl];exact laidMet_laidAll _ bl bl)) ?_
 intro W rq args ds gs d c l r y i;have g:=l;obtain⟨p,q,f,u,rfl,_,_⟩:=l;obtain⟨rfl,rfl⟩:=trodVars_none u;have b:Tryz.f3.params=#[9,5]:=bl;rw[MakeChecks.laidMetH_plain _ _ _ bl]at i;have o:=adv i r;have f:DataW.TrodAll gv Tryz.prog W 0 (fun _=>true) true [9,5] args.toList ds p:=by
  have:=f;rw[b]at this;exact this
 have m:∀(j:Nat)t v,([9,5]:List TypeId)[j]?=some t->args[j]?=some v->Value.okWide Tryz.prog W .any rq t v:=fun j t v h=>c j t v (by rw[b,<-Array.getElem?_toList];exact h);obtain⟨v0,v1,B,D,E,F,rfl,rfl,rfl,t0,t1⟩:=trodAll_two f;obtain⟨s,rfl,rfl,rfl,z⟩:=open_string bl (m 0 _ _ rfl rfl) t0;obtain⟨n,rfl,rfl,rfl,A⟩:=open_int (k:=.u8) bl (m 1 _ _ rfl rfl) t1;have hn:0<=n/\n<=255:=by simpa[Lit.wf,IntKind.min,IntKind.max,IntKind.signed,IntKind.bits]using A
 refine(entry aih ⟨M5,s,n⟩ W rfl ⟨kOk,hn.1,hn.2⟩ o).mono ?_;rintro e w' ⟨⟨_,_,rfl⟩,hk⟩;exact⟨_,rfl,ahT ajQ g rfl rfl hk (tb:=4) bl bl bl⟩
theorem ag3:Rows.ParseParensSaid:=
 OpenClaim.holds_of_wide 3 Tryz.f3 rfl rfl rfl rfl rfl rfl rfl ⟨rfl,rfl,rfl,rfl,rfl⟩ rfl rfl rfl rfl rfl bl Tryz.func3 bl
  (j7 bl) (by unfold Func.isWrapper;first| (rw[if_pos (by decide+kernel)];kernel_rfl)| (rw[if_neg (by decide+kernel)];exact⟨rfl,rfl⟩))
  (fun os a H gv _=>ag2 os a H gv)
theorem parens_holds:Rows.ParseParensCardSaid:=
 Claim7.holds_tied_plain_at .later [] [.data,.data,.widerDeep,.widerDeep,.data,.data,.data,.data,.data,.data,.sentinel,.sentinel,.widerDeep,.widerDeep,.widerDeep,.pinned,.pinned,.pinned] true (true,"4f0dfc1f908ff48b448c1f523d82cbed67c888fdffb4e66fea6a868615751529") true
  ag3 (fun _ h=>by cases h) bl (fun _ h=>by cases h) parseParens_row_tie rfl ⟨rfl,rfl⟩ bl rfl
  (fun f fn e c=>by
   obtain rfl:f=3:=Option.some.inj ((show Tryz.prog.funcNamed "pennant/pennantlaw06.ParseParens"=some 3 by kernel_rfl).symm.trans e) |>.symm;obtain rfl:fn=Tryz.f3:=(Option.some.inj (Tryz.func3.symm.trans c)).symm;have b:Tryz.f3.params=#[9,5]:=by kernel_rfl
   exact⟨bl,fun j t d=>by
    rw[b]at d;have g:t∈[9,5]:=by simpa using Array.mem_of_getElem? d
    have a:([9,5].all fun u=> !Tryz.prog.wantsStandIn u)=true:=by kernel_rfl
    exact(show Tryz.prog.wantsStandIn t=false by simpa using List.all_eq_true.1 a t g)⟩)
  bl
end
end Go.Proofs.YtdkchodgklpomaaGreatDoor
#print axioms Go.Proofs.YtdkchodgklpomaaGreatDoor.parens_holds
