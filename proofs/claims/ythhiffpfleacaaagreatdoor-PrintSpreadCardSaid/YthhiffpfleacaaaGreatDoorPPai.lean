/- A part of the proof that pennantlaw07.PrintSpread answers true at every input. -/
import Derived.Test.YthhiffpfleacaaaGreatDoorPPah
set_option linter.all false
namespace Go.Proofs.YthhiffpfleacaaaGreatDoor
set_option maxRecDepth 100000
open Go.Value (int slice string bool pointer agg tuple func float iface nilIface)
open Go.IntKind (i64 u8 u64 i32 u32 u16 i8 i16)
open Go.FloatKind (f64)
open Go.Ending (returned panicked)
open Go.Proofs.Tryz
section
structure mQ where
 K:bD
 x:bY
 s:ap
 os:aM
 n:Nat
 kc:Nat
 pc:Nat
 ks:aM
 r:Row
abbrev ji(x:mQ):aN:=[W (some ⟨x.x.b,0,none⟩)]
abbrev sR(x:mQ):aN:=[Q x.r.a x.r.n x.r.aq]
abbrev Bi:aF where
 X:=mQ
 Y:=(Int×ap×Row) ⊕ (Int×Int)
 args x:=[W (some ⟨x.kc,0,none⟩),W (some ⟨x.pc,0,none⟩)]
 pre x:=[G x.x x.s,D x.kc (sR x) 33,D x.pc (ji x) 37,x.r.A]
 cond x:=(∀bA,aG bA (cv x.n bA))/\hW x.K x.x/\PG x.x x.s (x.os++x.ks)/\bl 3 1 (a7 x.ks) x.r/\bm x.K x.x x.n .bf x.s≠.out
 aE x F:=dj x.K x.x F
 bS x y:=match y with
  | .inl a=>bm x.K x.x x.n .bf x.s= .ok [a.1] a.2.1/\bl 3 1 (a7 (x.ks++[a.1])) a.2.2
  | .inr a=>∃t,bm x.K x.x x.n .bf x.s= .stop a.1 a.2 t
 val x y:=match y with
  | .inl _=>.returned (.tuple #[])
  | .inr a=>.panicked [⟨jj a.1 a.2,false,false⟩]
 post x y:=match y with
  | .inl a=>[G x.x a.2.1,.cells x.kc [.slice a.2.2.a a.2.2.n a.2.2.aq] 33,.cells x.pc [.pointer (some ⟨x.x.b,0,none⟩)] 37,a.2.2.A]
  | .inr _=>[]
 eL _ _ _ b h:=dj.sub b h
 sum:=some (iL (Int×ap×Row) (Int×Int))
def aeC(x:mQ)(a:ag):List (Nat×Nat×OH):=[(0,0,z 1),(0,1,z 2),(0,2,q (cv x.n 10)),(0,3,.n 1030),(0,4,.o (cS 3 1 8) [3] [3]),(0,5,.w [.aS 1])]
abbrev NU(x:mQ)(F:ag):=g [(0,G x.x x.s),(1,D x.kc (sR x) 33),(2,D x.pc (ji x) 37),(3,x.r.A),(4,F)] [0]
def Kk(c:Oper):=jc c (cS (3:TypeId) 1 8) rz l6 (λa b=>bl 3 1 (a.cs++a.ys) b/\b.n=a.r.n+a.m/\(a.m=0->b=a.r))
abbrev Ol(x:mQ)(F:ag):=[(0,aY),(1,D x.kc (sR x) 33),(2,D x.pc (ji x) 37),(3,x.r.A),(4,F)]
def aeE(x:mQ)(F:ag)(r:Bi.cond x)(v:Bi.aE x F):true=true/\V x.kc 0/\V x.pc 0/\cd x.n 10 (ji x) [G x.x x.s] (NU x F) (λe d=>∀(c:Nat),Kk (aL f206 0 4) [Q x.r.a x.r.n x.r.aq,Q (bq c) 1 1] [x.r.A] (g [(0,G e.x d.snd),(1,D x.kc (sR x) 33),(2,D x.pc (ji x) 37),(3,x.r.A),(4,F),(1030,D c (bI d) 3)] [3]) (λb a=>V x.kc 0/\l Bi x F eK [(0,G e.x d.snd),(1,D x.kc (uA a) 33),(2,D x.pc (ji x) 37),(3,a.A),(4,F),(1030,D c (bI d) 3)])) (λe b=>∀(a:Tm),l Bi x F (q8 b) (Ol x F)):=by
 delta cd ji sR NU mM jx rz l6 Kk bq bI eK uA q8 Ol g G V jc Z W Q ce D aY al;obtain⟨K,x,s,w,n,z,A,o,B⟩:=x;obtain⟨m,i,h,f,j⟩:=r;dsimp only at m i h f j⊢;refine⟨rfl,Y,Y,m _,rfl,⟨K,x,s,w++o,.bf⟩,rfl,rfl,⟨i,h,rfl,ai,ai,ai,j⟩,v.sub (bB 4),λa q=>?_,λa q=>λ_=>⟨.inr a,q,rfl,ao [4]⟩⟩;obtain⟨k,t⟩:=a;replace q:bm K x n .bf s= .ok [k] t:=q;intro lb;have u:=qH h i.len;refine mn (ks:=o) (k:=k) 1030 f O (λy p=>?_);exact⟨Y,.inl (k,t,y),⟨q,p⟩,rfl,ao [0,1,2,3,4]⟩
def aeD:aG 206 Bi:=iB func206 aeC aeE
def iq(L:List a8)(ae:Int)(tv:Nat->ah)(n:Nat):j (aM):=do
 let k <-ec L ae tv bo
 cu L ae colon
 let e <-one (P L ae tv bo n .bf)
 ret [k,e]
abbrev wQ:aF where
 X:=mQ
 Y:=(Int×Int×ap×Row) ⊕ (Int×Int)
 args x:=[W (some ⟨x.kc,0,none⟩),W (some ⟨x.pc,0,none⟩)]
 pre x:=[G x.x x.s,D x.kc (sR x) 33,D x.pc (ji x) 37,x.r.A]
 cond x:=(∀bA,aG bA (cv x.n bA))/\hW x.K x.x/\PG x.x x.s (x.os++x.ks)/\bl 3 1 (a7 x.ks) x.r/\iq x.x.L x.x.ae x.K.tv x.n x.s≠.out
 aE x F:=dj x.K x.x F
 bS x y:=match y with
  | .inl a=>iq x.x.L x.x.ae x.K.tv x.n x.s= .ok [a.1,a.2.1] a.2.2.1/\bl 3 1 (a7 (x.ks++[a.1]++[a.2.1])) a.2.2.2/\PG x.x a.2.2.1 (x.os++x.ks++[a.1]++[a.2.1])
  | .inr a=>∃t,iq x.x.L x.x.ae x.K.tv x.n x.s= .stop a.1 a.2 t
 val x y:=match y with
  | .inl _=>.returned (.tuple #[])
  | .inr a=>.panicked [⟨jj a.1 a.2,false,false⟩]
 post x y:=match y with
  | .inl a=>[G x.x a.2.2.1,.cells x.kc [.slice a.2.2.2.a a.2.2.2.n a.2.2.2.aq] 33,.cells x.pc [.pointer (some ⟨x.x.b,0,none⟩)] 37,a.2.2.2.A]
  | .inr _=>[]
 eL _ _ _ b h:=dj.sub b h
 sum:=some (iL (Int×Int×ap×Row) (Int×Int))
def aeF(x:mQ)(a:ag):List (Nat×Nat×OH):=[(0,0,z 1),(0,1,z 2),(0,2,q BL),(0,3,.n 1030),(0,4,.o (cS 3 1 8) [3] [3]),(0,5,.w [.aS 1]),(1,0,z 2),(1,1,q iU),(2,0,z 1),(2,1,z 2),(2,2,q (cv x.n 10)),(2,3,.n 3030),(2,4,.o (cS 3 1 8) [3] [3]),(2,5,.w [.aS 1])]
abbrev E2(l:ox):aN:=[Z ↑l.s.a.length]
abbrev VZ(e:ph)(d:Int×ap)(x:mQ)(h:Row)(F:ag)(j:Nat)(l:ox)(c:Nat):=[(0,G e.x d.snd),(1,D x.kc (uA h) 33),(2,D x.pc (ji x) 37),(3,h.A),(4,F),(1030,D j (E2 l) 3),(3030,D c (bI d) 3)]
abbrev VH(x:mQ)(h:Row)(F:ag)(j:Nat)(l:ox):=[(0,aY),(1,D x.kc (uA h) 33),(2,D x.pc (ji x) 37),(3,h.A),(4,F),(1030,D j (E2 l) 3)]
abbrev zF(b:Int):=panicked [{v:=ce 54 (agg ⟨[Z b,Z 60]⟩),recovered:=false}]
def aeL(x:mQ)(F:ag)(hc:wQ.cond x)(hr:wQ.aE x F):true=true/\V x.kc 0/\V x.pc 0/\aG 208 BL/\true=true/\∃(m:ox),(ji x)=[W (vW m)]/\[G x.x x.s]=[G m.x m.s]/\(PaK m.K m.x/\m.s.a.length<=4194304)/\dj m.K m.x (NU x F)/\(∀(k:ap),ec m.x.L m.x.ae m.K.tv bo m.s=PR.ok (m.s.a.length:Int) k->∀(j:Nat),gu (aL f207 0 4) [Q x.r.a x.r.n x.r.aq,Q (bq j) 1 1] [x.r.A] (g [(0,G m.x k),(1,D x.kc (sR x) 33),(2,D x.pc (ji x) 37),(3,x.r.A),(4,F),(1030,D j (E2 m) 3)] [3]) (λi h=>V x.kc 0/\V x.pc 0/\gE [W (some ⟨x.x.b,0,none⟩),C ⟨#[58]⟩] [G m.x k] (g [(0,G m.x k),(1,D x.kc (uA h) 33),(2,D x.pc (ji x) 37),(3,h.A),(4,F),(1030,D j (E2 m) 3)] [0]) (λo f=>true=true/\V x.kc 0/\V x.pc 0/\cd x.n 10 (ji x) [G o.x o.s.az] (g [(0,G o.x o.s.az),(1,D x.kc (uA h) 33),(2,D x.pc (ji x) 37),(3,h.A),(4,F),(1030,D j (E2 m) 3)] [0]) (λe d=>∀(c:Nat),Kk (aL f207 2 4) (vP h c) [h.A] (g (VZ e d x h F j m c) [3]) (λb a=>V x.kc 0/\l wQ x F eK (VZ e d x a F j m c))) (λe b=>∀(a:Tm),l wQ x F (q8 b) (VH x h F j m))) (λo a=>l wQ x F (gI o) (VH x h F j m))))/\∀(b:Int),ec m.x.L m.x.ae m.K.tv bo m.s=PR.stop b (60:Int) m.s->∀(a:Tm),l wQ x F (zF b) (Ol x F):=by
 delta ji vW sR NU mM jx rz l6 gu bq E2 jR gE uA cd Kk vP bI VZ eK q8 VH gI zF Ol g G V jc Z C W Q ce D aY al;obtain⟨K,x,s,os,n,kc,pc,A,r'⟩:=x;obtain⟨ih,z,y,v,L⟩:=hc;dsimp only at ih z y v L⊢;have J:=z.len;obtain⟨r,w⟩:∃r,iq x.L x.ae K.tv n s=r:=⟨_,rfl⟩;rw[w]at L;have U:=w;rw[iq]at U;refine⟨rfl,Y,Y,aiT,rfl,⟨K,x,s⟩,rfl,rfl,⟨z.toPaK,by have:=y.aq J;dsimp only;omega⟩,hr.sub (bB 4),λu q=>?_,λp q=>λ_=>⟨.inr (p,60),⟨_,w.trans (U.symm.trans (Jc q))⟩,rfl,ao [4]⟩⟩;replace q:ec x.L x.ae K.tv bo s= .ok (s.a.length:Int) u:=q;obtain⟨T,i1,-⟩:=PG.key z y q;rw[tu q]at U;clear q;intro lb;have x0:=qH y J;refine mn (ks:=A) (k:=(s.a.length:Int)) 1030 v O (λr2 H=>?_);refine⟨Y,Y, ?_⟩;refine ma T U (λU g2=>?_);refine⟨rfl,Y,Y, ?_⟩;refine ca g2 (fH U L) (λe t U g3 M R E P B S=>?_) (cB:=ai) (ct:=ai) (cP:=ai);dsimp only[aj.sl,ap.az,ap.add]at M R E P B S;rw[C0]at U;intro N;have X:=qH (os:=os) (ks:=A++[(s.a.length:Int)]) (T.cast (jJ _ _ _)) J;refine ba (iN 1 8 rfl rfl rfl rfl rfl rfl rfl (by decide)) ⟨r2,a7 (A++[(s.a.length:Int)]),some ⟨N,0,none⟩,1,1,a7 [e]⟩ ⟨H,rfl,xg _,ye H O,yf H O,λh=>nomatch h⟩ (yk 3030 rfl) λr3 I=>?_;replace I:bl 3 1 (a7 (A++[(s.a.length:Int)]++[e])) r3:=by rw[xf];exact I.1
 exact⟨Y,.inl ((s.a.length:Int),e,t,r3),⟨w.trans U.symm,I,g3⟩,rfl,ao [0,1,2,3,4]⟩
def aeK:aG 207 wQ:=iB func207 aeF aeL
section
variable{L:List a8}{ae:Int}{tv:Nat->ah}{f:Nat}{s u:ap}{R:Int->Int->j (aM)}
theorem Ro:(∃k e u,iq L ae tv f s= .ok [k,e] u/\∀R:Int->Int->j (aM),(ec L ae tv bo>>=λk=>cu L ae colon>>=λ_=>one (P L ae tv bo f .bf)>>=λe=>R k e) s=R k e u)\/(∃p e u,iq L ae tv f s= .stop p e u/\∀R:Int->Int->j (aM),(ec L ae tv bo>>=λk=>cu L ae colon>>=λ_=>one (P L ae tv bo f .bf)>>=λe=>R k e) s= .stop p e u)\/(iq L ae tv f s= .out/\∀R:Int->Int->j (aM),(ec L ae tv bo>>=λk=>cu L ae colon>>=λ_=>one (P L ae tv bo f .bf)>>=λe=>R k e) s= .out):=by
 cases a:ec L ae tv bo s with
 |stop p e u=>exact .inr (.inl ⟨p,e,u,by rw[iq,Jc a],λR=>by rw[Jc a]⟩)
 |out=>exact .inr (.inr ⟨by rw[iq];show bP _ _ s=_;unfold bP;rw[a],λR=>by show bP _ _ s=_;unfold bP;rw[a]⟩)
 |ok k u=>
  cases b:K L u 0 colon with
  |false=>exact .inr (.inl ⟨_,_,_,by rw[iq,tu a,Jd b],λR=>by rw[tu a,Jd b]⟩)
  |true=>
   cases c:one (P L ae tv bo f .bf) u.az with
   |ok e v=>exact .inl ⟨k,e,v,by rw[iq,tu a,wh b,F0 c,C0],λR=>by rw[tu a,wh b,F0 c]⟩
   |stop p e v=>exact .inr (.inl ⟨p,e,v,by rw[iq,tu a,wh b,F1 c],λR=>by rw[tu a,wh b,F1 c]⟩)
   |out=>exact .inr (.inr ⟨by rw[iq,tu a,wh b];show bP _ _ u.az=_;unfold bP;rw[c],λR=>by rw[tu a,wh b];show bP _ _ u.az=_;unfold bP;rw[c]⟩)
theorem aeG{k e:Int}(h:iq L ae tv f s= .ok [k,e] u):(ec L ae tv bo>>=λk=>cu L ae colon>>=λ_=>one (P L ae tv bo f .bf)>>=λe=>R k e) s=R k e u:=by
 rcases Ro (L:=L) (ae:=ae) (tv:=tv) (f:=f) (s:=s)with⟨g,c,d,a,b⟩| ⟨p,c,d,a,b⟩| ⟨a,b⟩;rw[h]at a;cases a;exact b R;rw[h]at a;cases a;rw[h]at a;cases a
theorem aeI{p e:Int}(h:iq L ae tv f s= .stop p e u):(ec L ae tv bo>>=λk=>cu L ae colon>>=λ_=>one (P L ae tv bo f .bf)>>=λe=>R k e) s= .stop p e u:=by
 rcases Ro (L:=L) (ae:=ae) (tv:=tv) (f:=f) (s:=s)with⟨g,c,d,a,b⟩| ⟨i,c,d,a,b⟩| ⟨a,b⟩;rw[h]at a;cases a;rw[h]at a;cases a;exact b R;rw[h]at a;cases a
theorem aeH(h:(ec L ae tv bo>>=λk=>cu L ae colon>>=λ_=>one (P L ae tv bo f .bf)>>=λe=>R k e) s≠.out):iq L ae tv f s≠.out:=by
 rcases Ro (L:=L) (ae:=ae) (tv:=tv) (f:=f) (s:=s)with⟨g,c,d,a,b⟩| ⟨i,c,d,a,b⟩| ⟨a,b⟩;rw[a];intro e;cases e;rw[a];intro e;cases e;exact absurd (b R) h
theorem aeJ{n:Nat}(c:f<=n)(h:iq L ae tv f s≠.out):iq L ae tv n s=iq L ae tv f s:=by
 unfold iq at h⊢;cases a:ec L ae tv bo s with
 |stop p e u=>rw[Jc a,Jc a]
 |out=>exact absurd (by show bP _ _ s=_;unfold bP;rw[a]) h
 |ok k u=>
  rw[tu a]at h;rw[tu a,tu a];cases b:K L u 0 colon with
  |false=>rw[Jd b,Jd b]
  |true=>
   rw[wh b]at h;rw[wh b,wh b];have e1:P L ae tv bo n .bf u.az=P L ae tv bo f .bf u.az:=by{rcases JF (L:=L) (ae:=ae) (aO:=tv) (wide:=bo) c .bf u.az with e|e;exact absurd e (WI h);exact e};show bP (one _) _ _=bP (one _) _ _;unfold bP one bP;rw[e1]
end
structure lg where
 a:mQ
 f:Nat
structure qE where
 t:ap
 ks:aM
 r:Row
 f:Nat
abbrev nk(x:lg):bv:=some ⟨x.a.x.b,0,none⟩
abbrev CC(x:lg):aN:=[Q x.a.r.a x.a.r.n x.a.r.aq]
abbrev qn(x:lg):aN:=[W (nk x)]
abbrev oO(bA:FuncId)(b:ah)(c:aM->aj):aF where
 X:=lg
 Y:=(aM×ap×Row) ⊕ (Int×Int)
 args x:=[.pointer (some ⟨x.a.x.b,0,none⟩),.string b,.func (.func bA) #[] #[.pointer (some ⟨x.a.kc,0,none⟩),.pointer (some ⟨x.a.pc,0,none⟩)]]
 pre x:=[G x.a.x x.a.s,D x.a.kc (CC x) 33,D x.a.pc (qn x) 37,x.a.r.A]
 cond x:=(∀bA,aG bA (cv x.a.n bA))/\hW x.a.K x.a.x/\PG x.a.x x.a.s (x.a.os++x.a.ks)/\bl 3 1 (a7 x.a.ks) x.a.r/\x.f<=x.a.n/\bm x.a.K x.a.x x.f (c x.a.ks) x.a.s≠.out
 aE x F:=dj x.a.K x.a.x F
 bS x y:=match y with
  | .inl a=>bm x.a.K x.a.x x.f (c x.a.ks) x.a.s= .ok a.1 a.2.1/\bl 3 1 (a7 a.1) a.2.2/\PG x.a.x a.2.1 (x.a.os++a.1)
  | .inr a=>∃t,bm x.a.K x.a.x x.f (c x.a.ks) x.a.s= .stop a.1 a.2 t
 val x y:=match y with
  | .inl _=>.returned (.tuple #[])
  | .inr a=>.panicked [⟨jj a.1 a.2,false,false⟩]
 post x y:=match y with
  | .inl a=>[G x.a.x a.2.1,.cells x.a.kc [.slice a.2.2.a a.2.2.n a.2.2.aq] 33,.cells x.a.pc [.pointer (some ⟨x.a.x.b,0,none⟩)] 37,a.2.2.A]
  | .inr _=>[]
 eL _ _ _ d h:=dj.sub d h
 sum:=some (iL (aM×ap×Row) (Int×Int))
abbrev zL(d:qE):aN:=[Q d.r.a d.r.n d.r.aq]
def Zy(bA:FuncId)(a:ah)(b:aM->aj)(x:lg)(F:ag):Nat->Option Inv:=fun
 |0=>some {X:=qE,P:=λd=>PG x.a.x d.t (x.a.os++d.ks)/\bl 3 1 (a7 d.ks) d.r/\d.f<=x.a.n/\P x.a.x.L x.a.x.ae x.a.K.tv bo d.f (b d.ks) d.t=bm x.a.K x.a.x x.f (b x.a.ks) x.a.s,mu:=λd=>d.f,lv:=λ_=>[(0,.pointer (some ⟨x.a.x.b,0,none⟩)),(1,.string a),(2,.func (.func bA) #[] #[.pointer (some ⟨x.a.kc,0,none⟩),.pointer (some ⟨x.a.pc,0,none⟩)])],st:=λd=>[G x.a.x d.t,D x.a.kc (zL d) 33,D x.a.pc (qn x) 37,d.r.A,F]}
 |_=>none
def To(x:lg)(b:qE):=PG x.a.x b.t (x.a.os++b.ks)/\bl 3 1 (a7 b.ks) b.r/\b.f<=x.a.n/\P x.a.x.L x.a.x.ae x.a.K.tv bo b.f ((λ(a:aM)=>aj.de a) b.ks) b.t=bm x.a.K x.a.x x.f ((λ(a:aM)=>aj.de a) x.a.ks) x.a.s
abbrev uD(a:lg):aN:=[W (some ⟨a.a.kc,0,none⟩),W (some ⟨a.a.pc,0,none⟩)]
def TN(a:lg):=W (nk a)=W (nk a)/\C rb=C rb/\func (Fn.func 206) ⟨[]⟩ ⟨uD a⟩=func (Fn.func 206) ⟨[]⟩ ⟨uD a⟩/\True
abbrev NC(x:lg)(F:ag):=[(0,G x.a.x x.a.s),(1,D x.a.kc (CC x) 33),(2,D x.a.pc (qn x) 37),(3,x.a.r.A),(4,F)]
abbrev Ai(a:lg)(z:qE)(e1:ag):=[(0,G a.a.x z.t),(1,D a.a.kc (zL z) 33),(2,D a.a.pc (qn a) 37),(3,z.r.A),(4,e1)]
abbrev OD(j:jo)(x:lg)(l:qE)(F:ag):=[(0,G j.x j.s.az),(1,D x.a.kc (zL l) 33),(2,D x.a.pc (qn x) 37),(3,l.r.A),(4,F)]
abbrev Ow(h:mQ):aN:=[W (some ⟨h.kc,0,none⟩),W (some ⟨h.pc,0,none⟩)]
abbrev N3(j:jo)(x:lg)(l:qE)(F:ag):=g [(0,G j.x j.s),(1,D x.a.kc (zL l) 33),(2,D x.a.pc (qn x) 37),(3,l.r.A),(4,F)] [0,1,2,3]
abbrev Oq(g:Int×ap×Row):aN:=[Q g.snd.snd.a g.snd.snd.n g.snd.snd.aq]
abbrev MH(h:mQ)(g:Int×ap×Row)(F:ag):=[(0,G h.x g.snd.fst),(1,D h.kc (Oq g) 33),(2,D h.pc (ji h) 37),(3,g.snd.snd.A),(4,F)]
def QH(a:lg)(e1:ag)(c:St)(mm:Nat):=∃(z:qE),(PG a.a.x z.t (a.a.os++z.ks)/\bl 3 1 (a7 z.ks) z.r/\z.f<=a.a.n/\P a.a.x.L a.a.x.ae a.a.K.tv bo z.f ((λ(b:aM)=>aj.de b) z.ks) z.t=bm a.a.K a.a.x a.f ((λ(b:aM)=>aj.de b) a.a.ks) a.a.s)/\TN a/\ay c (Ai a z e1)/\z.f<mm
def ai0(x:lg)(F:ag)(hc:aF.cond (oO 206 rb (λE=>aj.de E)) x)(O:aF.aE (oO 206 rb (λE=>aj.de E)) x F):(∃(b:qE),To x b/\TN x/\ay (NC x F) (Ai x b F))/\aQ λ(k:qE)_=>To x k->fW [W (nk x),C rb] [G x.a.x k.t] (g (Ai x k F) [0]) (λj b=>l (oO (206:FuncId) rb λ(a:aM)=>aj.de a) x F eK (OD j x k F)) (λj i=>aG 206 Bi/\true=true/\∃(h:mQ),(uD x)=(Ow h)/\[G j.x j.s,D x.a.kc (zL k) 33,D x.a.pc (qn x) 37,k.r.A]=[G h.x h.s,D h.kc (sR h) 33,D h.pc (ji h) 37,h.r.A]/\((∀(a:FuncId),aG a (cv h.n a))/\hW h.K h.x/\PG h.x h.s (h.os++h.ks)/\bl 3 1 (a7 h.ks) h.r/\bm h.K h.x h.n aj.bf h.s≠PR.out)/\dj h.K h.x (N3 j x k F)/\(∀(m:Int×ap×Row),(bm h.K h.x h.n aj.bf h.s=PR.ok [m.fst] m.snd.fst/\bl 3 1 (a7 (h.ks++[m.fst])) m.snd.snd)->gP [W (nk x),Z 0,C rb] (g (MH h m F) []) (λf e=>Br (!iS f.p.L (f.p.i+f.a) f.t) (gE [W (nk x),C ⟨#[44]⟩] [G h.x m.snd.fst] (g (MH h m F) [0]) (λd c=>QH x F [(0,G d.x d.s.az),(1,D h.kc (Oq m) 33),(2,D h.pc (ji h) 37),(3,m.snd.snd.A),(4,F)] k.f) (λd b=>l (oO (206:FuncId) rb λ(a:aM)=>aj.de a) x F (gI d) [(0,aY),(1,D h.kc (Oq m) 33),(2,D h.pc (ji h) 37),(3,m.snd.snd.A),(4,F)])) (QH x F (MH h m F) k.f)))/\∀(b:Int×Int),(∃(a:ap),bm h.K h.x h.n aj.bf h.s=PR.stop b.fst b.snd a)->l (oO (206:FuncId) rb λ(a:aM)=>aj.de a) x F (q8 b) [(0,aY),(1,aY),(2,aY),(3,aY),(4,F)]):=by
 delta To nk uD TN CC qn NC zL Ai jR fW eK OD Ow sR ji N3 rC gP Oq MH gE QH gI q8 g G bz Z C W Q ce D aY al aQ;obtain⟨⟨o,x,s,os,n,kc,pc,E,r'⟩,f⟩:=x;obtain⟨ih,J,T,z,V,L⟩:=hc;dsimp only at ih J T z V L⊢;have Y:=J.len;obtain⟨r,B⟩:∃r,bm o x f (.de E) s=r:=⟨_,rfl⟩;rw[B]at L;refine⟨⟨⟨s,E,r',f⟩,⟨T,z,V,rfl⟩,aU,ao [0,1,2,3,4]⟩, ?_⟩;rintro⟨t,w,H,f2⟩ js ⟨m,p,v,U⟩;dsimp only at m p v U⊢;rw[B]at U;obtain _|f2:=f2;exact absurd U (λe=>L (e.symm.trans (by rw[P] <;> rfl)));replace v:f2<=n:=Nat.le_of_succ_le v;rw[P]at U;refine ba kM ⟨x,t,rb⟩ ⟨Y,m.i⟩ (O.ls.sub (bB 4)) ⟨λ_ q=>?_,λ_ q=>?_⟩;rw[mb q,aW,C0]at U;exact⟨.inl (w,t.az,H),⟨B.trans U.symm,p,m.is q⟩,rfl,ao [0,1,2,3,4]⟩;rw[mO q,y]at U;have oo:bm o x f2 .bf t≠.out:=WI (by rw[U];exact L);have M:bm o x n .bf t=bm o x f2 .bf t:=aaq v oo;refine ba aeD ⟨o,x,t,os,n,kc,pc,w,H⟩ ⟨ih,J,m,p,λe=>oo (M.symm.trans e)⟩ (O.sub (bB 4)) ⟨λa R=>?_,λa⟨u,R⟩=>⟨.inr a,⟨u,B.trans (U.symm.trans (abn (M.symm.trans R)))⟩,rfl,ao [4]⟩⟩;obtain⟨e,A,S⟩:=a;obtain⟨q1,I⟩:=R;replace q1:bm o x f2 .bf t= .ok [e] A:=M.symm.trans q1;replace I:bl 3 1 (a7 (w++[e])) S:=I;obtain⟨N,-⟩:=PG.run (tag:=.bf) J m trivial trivial rfl rfl q1;rw[abm q1,Jb]at U;refine ba kO ⟨x.p A,0,rb⟩ ⟨Y,by have:=N.i;show A.i<=1048576;omega,bX⟩ (O.ls.dc 0 4 X X rfl rfl) λ_ _=>ar (λh=>?_) (λh=>?_);rw[show(!K x.L A 0 rb)=true from h,aW]at U;refine ma N U (λU g3=>?_);exact⟨⟨A.az,w++[e],S,f2⟩,⟨g3.cast (jJ _ _ _),I,v,U.trans B.symm⟩,aU,ao [0,1,2,3,4],jd _⟩;rw[show(!K x.L A 0 rb)=false from h,y,iX]at U;exact⟨⟨A,w++[e],S,f2⟩,⟨N.cast (jJ _ _ _),I,v,U.trans B.symm⟩,aU,ao [0,1,2,3,4],jd _⟩
def aiZ:aG 205 (oO 206 rb (λa=>aj.de a)):=mt func205 (λ_ _=>[(0,2,q iQ),(1,1,.c Bi [0,1,2,3] [0,1,2,3]),(2,2,aI gU),(3,1,q iU)]) (Zy 206 rb (λa=>aj.de a)) ai0
def Tp(x:lg)(b:qE):=PG x.a.x b.t (x.a.os++b.ks)/\bl 3 1 (a7 b.ks) b.r/\b.f<=x.a.n/\P x.a.x.L x.a.x.ae x.a.K.tv bo b.f ((λ(a:aM)=>aj.dr a) b.ks) b.t=bm x.a.K x.a.x x.f ((λ(a:aM)=>aj.dr a) x.a.ks) x.a.s
def TO(a:lg):=W (nk a)=W (nk a)/\C rc=C rc/\func (Fn.func 207) ⟨[]⟩ ⟨uD a⟩=func (Fn.func 207) ⟨[]⟩ ⟨uD a⟩/\True
abbrev N2(g:Int×Int×ap×Row):aN:=[Q g.snd.snd.snd.a g.snd.snd.snd.n g.snd.snd.snd.aq]
abbrev Mz(h:mQ)(g:Int×Int×ap×Row)(F:ag):=[(0,G h.x g.snd.snd.fst),(1,D h.kc (N2 g) 33),(2,D h.pc (ji h) 37),(3,g.snd.snd.snd.A),(4,F)]
def QI(a:lg)(e1:ag)(c:St)(mm:Nat):=∃(z:qE),(PG a.a.x z.t (a.a.os++z.ks)/\bl 3 1 (a7 z.ks) z.r/\z.f<=a.a.n/\P a.a.x.L a.a.x.ae a.a.K.tv bo z.f ((λ(b:aM)=>aj.dr b) z.ks) z.t=bm a.a.K a.a.x a.f ((λ(b:aM)=>aj.dr b) a.a.ks) a.a.s)/\TO a/\ay c (Ai a z e1)/\z.f<mm
def ai3(x:lg)(F:ag)(hc:aF.cond (oO 207 rc (λH=>aj.dr H)) x)(S:aF.aE (oO 207 rc (λH=>aj.dr H)) x F):(∃(b:qE),Tp x b/\TO x/\ay (NC x F) (Ai x b F))/\aQ λ(m:qE)_=>Tp x m->fW [W (nk x),C rc] [G x.a.x m.t] (g (Ai x m F) [0]) (λj b=>l (oO (207:FuncId) rc λ(a:aM)=>aj.dr a) x F eK (OD j x m F)) (λj i=>aG 207 wQ/\true=true/\∃(h:mQ),(uD x)=(Ow h)/\[G j.x j.s,D x.a.kc (zL m) 33,D x.a.pc (qn x) 37,m.r.A]=[G h.x h.s,D h.kc (sR h) 33,D h.pc (ji h) 37,h.r.A]/\((∀(a:FuncId),aG a (cv h.n a))/\hW h.K h.x/\PG h.x h.s (h.os++h.ks)/\bl 3 1 (a7 h.ks) h.r/\iq h.x.L h.x.ae h.K.tv h.n h.s≠PR.out)/\dj h.K h.x (N3 j x m F)/\(∀(o:Int×Int×ap×Row),(iq h.x.L h.x.ae h.K.tv h.n h.s=PR.ok [o.fst,o.snd.fst] o.snd.snd.fst/\bl 3 1 (a7 (h.ks++[o.fst]++[o.snd.fst])) o.snd.snd.snd/\PG h.x o.snd.snd.fst (h.os++h.ks++[o.fst]++[o.snd.fst]))->gP [W (nk x),Z 0,C rc] (g (Mz h o F) []) (λf e=>Br (!iS f.p.L (f.p.i+f.a) f.t) (gE [W (nk x),C ⟨#[44]⟩] [G h.x o.snd.snd.fst] (g (Mz h o F) [0]) (λd c=>QI x F [(0,G d.x d.s.az),(1,D h.kc (N2 o) 33),(2,D h.pc (ji h) 37),(3,o.snd.snd.snd.A),(4,F)] m.f) (λd b=>l (oO (207:FuncId) rc λ(a:aM)=>aj.dr a) x F (gI d) [(0,aY),(1,D h.kc (N2 o) 33),(2,D h.pc (ji h) 37),(3,o.snd.snd.snd.A),(4,F)])) (QI x F (Mz h o F) m.f)))/\∀(b:Int×Int),(∃(a:ap),iq h.x.L h.x.ae h.K.tv h.n h.s=PR.stop b.fst b.snd a)->l (oO (207:FuncId) rc λ(a:aM)=>aj.dr a) x F (q8 b) [(0,aY),(1,aY),(2,aY),(3,aY),(4,F)]):=by
 delta Tp nk uD TO CC qn NC zL Ai jR fW eK OD Ow sR ji N3 rC gP N2 Mz gE QI gI q8 g G bz Z C W Q ce D aY al aQ;obtain⟨⟨p,x,s,T,n,kc,pc,H,r'⟩,f⟩:=x;obtain⟨ih,R,hG,B,hf,N⟩:=hc;dsimp only at ih R hG B hf N⊢;have hl:=R.len;obtain⟨r,E⟩:∃r,bm p x f (.dr H) s=r:=⟨_,rfl⟩;rw[E]at N;refine⟨⟨⟨s,H,r',f⟩,⟨hG,B,hf,rfl⟩,aU,ao [0,1,2,3,4]⟩, ?_⟩;rintro⟨t,w,J,f2⟩ js ⟨o,v,z,U⟩;dsimp only at o v z U⊢;rw[E]at U;obtain _|f2:=f2;exact absurd U (λe=>N (e.symm.trans (by rw[P] <;> rfl)));replace z:f2<=n:=Nat.le_of_succ_le z;rw[P]at U;refine ba kM ⟨x,t,rc⟩ ⟨hl,o.i⟩ (S.ls.sub (bB 4)) ⟨λ_ q=>?_,λ_ q=>?_⟩;rw[mb q,aW,C0]at U;exact⟨.inl (w,t.az,J),⟨E.trans U.symm,v,o.is q⟩,rfl,ao [0,1,2,3,4]⟩;rw[mO q,y]at U;have oo:iq x.L x.ae p.tv f2 t≠.out:=aeH (by rw[U];exact N);have O:iq x.L x.ae p.tv n t=iq x.L x.ae p.tv f2 t:=aeJ z oo;refine ba aeK ⟨p,x,t,T,n,kc,pc,w,J⟩ ⟨ih,R,o,v,λe=>oo (O.symm.trans e)⟩ (S.sub (bB 4)) ⟨λa V=>?_,λa⟨u,V⟩=>⟨.inr a,⟨u,E.trans (U.symm.trans (aeI (O.symm.trans V)))⟩,rfl,ao [4]⟩⟩;obtain⟨k,e,A,Y⟩:=a;obtain⟨q1,M,L⟩:=V;replace q1:iq x.L x.ae p.tv f2 t= .ok [k,e] A:=O.symm.trans q1;replace M:bl 3 1 (a7 (w++[k]++[e])) Y:=M;replace L:PG x A (T++w++[k]++[e]):=L;have I:PG x A (T++(w++[k]++[e])):=L.cast X;rw[aeG q1,Jb]at U;refine ba kO ⟨x.p A,0,rc⟩ ⟨hl,by have:=L.i;show A.i<=1048576;omega,bX⟩ (S.ls.dc 0 4 X X rfl rfl) λ_ _=>ar (λh=>?_) (λh=>?_);rw[show(!K x.L A 0 rc)=true from h,aW]at U;refine ma I U (λU g3=>?_);exact⟨⟨A.az,w++[k]++[e],Y,f2⟩,⟨g3,M,z,U.trans E.symm⟩,aU,ao [0,1,2,3,4],jd _⟩;rw[show(!K x.L A 0 rc)=false from h,y,iX]at U;exact⟨⟨A,w++[k]++[e],Y,f2⟩,⟨I,M,z,U.trans E.symm⟩,aU,ao [0,1,2,3,4],jd _⟩
def ai2:aG 205 (oO 207 rc (λa=>aj.dr a)):=mt func205 (λ_ _=>[(0,2,q iQ),(1,1,.c wQ [0,1,2,3] [0,1,2,3]),(2,2,aI gU),(3,1,q iU)]) (Zy 207 rc (λa=>aj.dr a)) ai3
end
def al6(x:bc ax)(b:ag):List (Nat×Nat×OH):=[(0,0,.n 1000),(1,0,z 1000),(1,1,aI jf),(1,2,.n 2020),(1,3,.w (eT 2020)),(2,1,z 2020),
 (4,0,z 1000),(4,3,cD),(4,7,dU fQ),(5,0,z 1000),(5,2,z 2020),(5,4,z 2020),(5,6,.c fO [0,999] [0]),
 (7,0,z 1000),(7,3,cD),(7,7,dU fQ),(8,0,z 1000),(8,2,z 2020),(8,4,z 2020),(8,6,.c fO [0,999] [0]),
 (10,0,z 1000),(10,3,cD),(10,7,dU fQ),(11,0,z 1000),(11,2,z 2020),(11,4,z 2020),(11,6,.c fO [0,999] [0]),
 (12,0,.n 13000),(13,0,z 1000),(13,1,aI gU),(13,3,z 1000),(13,4,aI gU),(13,7,z 1000),(13,8,aI gU),
 (14,0,z 1000),(14,3,cD),(14,7,dU fQ),(15,0,z 1000),(15,2,z 2020),(15,4,z 2020),(15,6,.c fO [0,999] [0]),
 (16,0,z 1000),(16,1,aI gU),(17,0,z 1000),(17,1,q (cv x.n 77)),(18,0,z 1000),(18,1,q iQ),(19,0,z 1000),(19,1,q (cv x.n 10)),(20,0,z 1000),(20,1,q iU),
 (22,0,z 1000),(22,1,q iQ),(23,0,z 1000),(23,2,.c (oO 206 rb (λa=>aj.de a)) [0,13000,1000,999] [0,13000,1000,998]),(24,0,z 1000),(24,1,z 13000),(24,3,z 2020),(24,5,.c fO [0,998] [0]),
 (25,0,z 1000),(25,1,q iQ),(26,0,z 1000),(26,2,.c (oO 207 rc (λa=>aj.dr a)) [0,13000,1000,999] [0,13000,1000,998]),(27,0,z 1000),(27,1,z 13000),(27,3,z 2020),(27,5,.c fO [0,998] [0]),(28,0,z 1000),(28,1,aI mo)]
abbrev Mx(x:bc ax)(F:ag)(z u:Nat)(y:dm):tI->ax->Prop:=λc b=>l (bh λ(a:ax)=>aj.dL) x F (fG c) [(0,G c.x (c.s.add c.n)),(1,F),(999,aY),(1000,D z (ef x) 37),(2020,D u (q0 y) 56)]
abbrev eJ:aN:=[Q none 0 0]
abbrev B_(x:bc ax)(F:ag)(z u:Nat)(y:dm)(t:Nat):=[(0,G x.x x.s),(1,F),(1000,D z (ef x) 37),(2020,D u (q0 y) 56),(13000,D t eJ 33)]
def Nf(z:Nat)(x:bc ax)(u:Nat)(y:dm)(F:ag)(t:Nat):=V z 0/\T1 (G x.x x.s) ⟨x.x.b,1,none⟩ (λf=>aA (f+1)/\dM (aL f179 14 7) (oW x f) [G x.x x.s] (λe d=>V z 0/\V u 1/\V u 3/\c7 [W (bT x),agg ⟨[Z 4,C (b_ y.L y.ae y.i).aJ,float f64 0,Q none 0 0,Z (b_ y.L y.ae y.i).au]⟩] [G e.x e.t,aY] (λc b=>l (bh λ(a:ax)=>aj.dL) x F (fG c) [(0,G c.x (c.s.add c.n)),(1,F),(999,aY),(1000,D z (ef x) 37),(2020,D u (q0 y) 56),(13000,D t eJ 33)])))
abbrev No(F:ag)(z:Nat)(x:bc ax)(u:Nat)(y:dm)(t:Nat):=[(0,aY),(1,F),(1000,D z (ef x) 37),(2020,D u (q0 y) 56),(13000,D t eJ 33)]
abbrev H2(k:jo)(F:ag)(z:Nat)(x:bc ax)(u:Nat)(y:dm)(t:Nat):=[(0,G k.x k.s.az),(1,F),(1000,D z (ef x) 37),(2020,D u (q0 y) 56),(13000,D t eJ 33)]
abbrev H5(k:jo)(F:ag)(z:Nat)(x:bc ax)(u:Nat)(y:dm)(t:Nat):=[(0,G k.x k.s),(1,F),(1000,D z (ef x) 37),(2020,D u (q0 y) 56),(13000,D t eJ 33)]
abbrev Tv(x:bc ax)(F:ag)(e:lg)(u:Nat)(y:dm)(d:aM×ap×Row):tI->ax->Prop:=λc b=>l (bh λ(a:ax)=>aj.dL) x F (fG c) [(0,G c.x (c.s.add c.n)),(1,F),(998,aY),(999,aY),(1000,D e.a.pc (qn e) 37),(2020,D u (q0 y) 56),(13000,D e.a.kc [Q d.snd.snd.a d.snd.snd.n d.snd.snd.aq] 33)]
abbrev VG(F:ag)(u:Nat)(y:dm):=[(0,aY),(1,F),(999,aY),(1000,aY),(2020,D u (q0 y) 56),(13000,aY)]
def al8(x:bc ax)(F:ag)(hc:aF.cond (bh (λ(_:ax)=>aj.dL)) x)(R:aF.aE (bh (λ(_:ax)=>aj.dL)) x F):∀(z:Nat),V z 0/\fq (ef x) (g [(0,G x.x x.s),(1,F),(1000,D z (ef x) 37)] []) (λv w=>∀(u:Nat),bQ u (V u 0/\Br ((b_ v.L v.ae v.i).ak==3) (V z 0/\T1 (G x.x x.s) ⟨x.x.b,1,none⟩ (λf=>aA (f+1)/\dM (aL f179 4 7) (oW x f) [G x.x x.s] (λe d=>V z 0/\V u 2/\V u 3/\c7 [W (bT x),agg ⟨[Z 1,C ⟨#[]⟩,float f64 (b_ v.L v.ae v.i).aT,Q none 0 0,Z (b_ v.L v.ae v.i).au]⟩] [G e.x e.t,aY] (Mx x F z u v)))) (Br ((b_ v.L v.ae v.i).ak==4) (V z 0/\T1 (G x.x x.s) ⟨x.x.b,1,none⟩ (λf=>aA (f+1)/\dM (aL f179 7 7) (oW x f) [G x.x x.s] (λe d=>V z 0/\V u 1/\V u 3/\c7 [W (bT x),agg ⟨NM v⟩] [G e.x e.t,aY] (Mx x F z u v)))) (Br (IS v) (V z 0/\T1 (G x.x x.s) ⟨x.x.b,1,none⟩ (λf=>aA (f+1)/\dM (aL f179 10 7) (oW x f) [G x.x x.s] (λe d=>V z 0/\V u 1/\V u 3/\c7 [W (bT x),agg ⟨[Z 3,C (b_ v.L v.ae v.i).aJ,float f64 0,Q none 0 0,Z (b_ v.L v.ae v.i).au]⟩] [G e.x e.t,aY] (Mx x F z u v)))) (∀(t:Nat),V z 0/\gP [W (bT x),Z 0,C ⟨#[116,114,117,101]⟩] (g (B_ x F z u v t) []) (λs r=>Br (iS s.p.L (s.p.i+s.a) s.t) (Nf z x u v F t) (V z 0/\gP [W (bT x),Z 0,C ⟨#[102,97,108,115,101]⟩] (g (B_ x F z u v t) []) (λq p=>Br (iS q.p.L (q.p.i+q.a) q.t) (Nf z x u v F t) (V z 0/\gP [W (bT x),Z 0,C ⟨#[110,117,108,108]⟩] (g (B_ x F z u v t) []) (λo n=>Br (iS o.p.L (o.p.i+o.a) o.t) (Nf z x u v F t) (V z 0/\gP [W (bT x),Z 0,C ⟨#[102,117,110,99,116,105,111,110]⟩] (g (B_ x F z u v t) []) (λm B=>Br (iS m.p.L (m.p.i+m.a) m.t) (V z 0/\cd x.n 77 [W (bT x),Z 7] [G x.x x.s] (g (B_ x F z u v t) [0]) (λc b=>l (bh λ(a:ax)=>aj.dL) x F (ku b) [(0,G c.x b.snd),(1,F),(1000,D z (ef x) 37),(2020,D u (q0 v) 56),(13000,D t eJ 33)]) (λc b=>l (bh λ(a:ax)=>aj.dL) x F (q8 b) (No F z x u v t))) (V z 0/\fW [W (bT x),C ⟨#[40]⟩] [G x.x x.s] (g (B_ x F z u v t) [0]) (λk f=>V z 0/\cd x.n 10 (ef x) [G k.x k.s.az] (g (H2 k F z x u v t) [0]) (λe d=>V z 0/\gE [W (bT x),C ⟨#[41]⟩] [G e.x d.snd] (g [(0,G e.x d.snd),(1,F),(1000,D z (ef x) 37),(2020,D u (q0 v) 56),(13000,D t eJ 33)] [0]) (λc b=>l (bh λ(a:ax)=>aj.dL) x F (ku d) (H2 c F z x u v t)) (λc b=>l (bh λ(a:ax)=>aj.dL) x F (gI c) (No F z x u v t))) (λe b=>l (bh λ(a:ax)=>aj.dL) x F (q8 b) (No F z x u v t))) (λk j=>V z 0/\fW [W (bT x),C ⟨#[91]⟩] [G k.x k.s] (g (H5 k F z x u v t) [0]) (λi f=>V z 0/\aG 205 (oO (206:FuncId) rb λ(a:aM)=>aj.de a)/\true=true/\∃(e:lg),[W (bT x),C ⟨#[93]⟩,func (Fn.func 206) ⟨[]⟩ ⟨[W (bq t),W (bq z)]⟩]=[W (nk e),C rb,func (Fn.func 206) ⟨[]⟩ ⟨uD e⟩]/\[G i.x i.s.az,D t eJ 33,D z (ef x) 37,aY]=[G e.a.x e.a.s,D e.a.kc (CC e) 33,D e.a.pc (qn e) 37,e.a.r.A]/\((∀(a:FuncId),aG a (cv e.a.n a))/\hW e.a.K e.a.x/\PG e.a.x e.a.s (e.a.os++e.a.ks)/\bl 3 1 (a7 e.a.ks) e.a.r/\e.f<=e.a.n/\bm e.a.K e.a.x e.f ((λ(a:aM)=>aj.de a) e.a.ks) e.a.s≠PR.out)/\dj e.a.K e.a.x (g (H2 i F z x u v t) [0,13000,1000,999])/\(∀(d:aM×ap×Row),(bm e.a.K e.a.x e.f ((λ(a:aM)=>aj.de a) e.a.ks) e.a.s=PR.ok d.fst d.snd.fst/\bl 3 1 (a7 d.fst) d.snd.snd/\PG e.a.x d.snd.fst (e.a.os++d.fst))->d6 ⟨z,0,none⟩ e.a.pc/\d6 ⟨t,0,none⟩ e.a.kc/\V u 3/\c7 [W (nk e),agg ⟨[Z 5,C ⟨#[]⟩,float f64 0,Q d.snd.snd.a d.snd.snd.n d.snd.snd.aq,Z (b_ v.L v.ae v.i).au]⟩] [G e.a.x d.snd.fst,d.snd.snd.A] (Tv x F e u v d))/\∀(c:Int×Int),(∃(b:ap),bm e.a.K e.a.x e.f ((λ(a:aM)=>aj.de a) e.a.ks) e.a.s=PR.stop c.fst c.snd b)->l (bh λ(a:ax)=>aj.dL) x F (q8 c) (VG F u v)) (λi h=>V z 0/\fW [W (bT x),C ⟨#[123]⟩] [G i.x i.s] (g (H5 i F z x u v t) [0]) (λE f=>V z 0/\aG 205 (oO (207:FuncId) rc λ(a:aM)=>aj.dr a)/\true=true/\∃(e:lg),[W (bT x),C ⟨#[125]⟩,func (Fn.func 207) ⟨[]⟩ ⟨[W (bq t),W (bq z)]⟩]=[W (nk e),C rc,func (Fn.func 207) ⟨[]⟩ ⟨uD e⟩]/\[G E.x E.s.az,D t eJ 33,D z (ef x) 37,aY]=[G e.a.x e.a.s,D e.a.kc (CC e) 33,D e.a.pc (qn e) 37,e.a.r.A]/\((∀(a:FuncId),aG a (cv e.a.n a))/\hW e.a.K e.a.x/\PG e.a.x e.a.s (e.a.os++e.a.ks)/\bl 3 1 (a7 e.a.ks) e.a.r/\e.f<=e.a.n/\bm e.a.K e.a.x e.f ((λ(a:aM)=>aj.dr a) e.a.ks) e.a.s≠PR.out)/\dj e.a.K e.a.x (g (H2 E F z x u v t) [0,13000,1000,999])/\(∀(d:aM×ap×Row),(bm e.a.K e.a.x e.f ((λ(a:aM)=>aj.dr a) e.a.ks) e.a.s=PR.ok d.fst d.snd.fst/\bl 3 1 (a7 d.fst) d.snd.snd/\PG e.a.x d.snd.fst (e.a.os++d.fst))->d6 ⟨z,0,none⟩ e.a.pc/\d6 ⟨t,0,none⟩ e.a.kc/\V u 3/\c7 [W (nk e),agg ⟨[Z 6,C ⟨#[]⟩,float f64 0,Q d.snd.snd.a d.snd.snd.n d.snd.snd.aq,Z (b_ v.L v.ae v.i).au]⟩] [G e.a.x d.snd.fst,d.snd.snd.A] (Tv x F e u v d))/\∀(c:Int×Int),(∃(b:ap),bm e.a.K e.a.x e.f ((λ(a:aM)=>aj.dr a) e.a.ks) e.a.s=PR.stop c.fst c.snd b)->l (bh λ(a:ax)=>aj.dL) x F (q8 c) (VG F u v)) (λE d=>V z 0/\lN (ef x) (g (H5 E F z x u v t) []) (λc b=>l (bh λ(a:ax)=>aj.dL) x F (kv c) (H5 E F z x u v t)))))))))))))))))):=by
 delta fq bT ef T1 mK mL dM oW lB c7 kV fG q0 Mx NM IS rC gP eJ B_ Nf cd ku q8 No jR fW H2 gE gI H5 bq nk uD CC qn Tv VG lN kv g G V aA bQ bz dK lh Z C H W Q ce D aY al;obtain⟨J,x,s,os,n,tp⟩:=x;obtain⟨ih,hK,L,hp,x4,x3,ho⟩:=hc;replace R:dj J x F:=R;replace ho:bm J x (n+1) .dL s≠.out:=ho;dsimp only at ih hK L hp x4 x3⊢;obtain⟨r,N⟩:∃r,bm J x (n+1) .dL s=r:=⟨_,rfl⟩;rw[N]at ho;have U:=N;unfold bm at U;rw[P]at U;have M:=hK.len;rw[o7]at U;intro pc;refine⟨Y, ?_⟩;refine ba lR (x.p s) M (R.ls.dc 0 1 X X rfl rfl) λ_ _ c=>?_
 repeat (refine⟨Y, ?_⟩)
 refine ar (λh1=>?_) (λh1=>?_);replace h1:((I x.L x.ae s).ak==3)=true:=h1;rw[h1,aW,mc,jy]at U;have O:=L.step (zf h1 (by decide));refine⟨Y, ?_⟩;refine⟨_,ee λ_=>rfl,oK (i:=s.i) (gi L.i M),gM rfl rfl rfl,rfl,⟨x,s,s.az,1,_⟩,rfl,rfl,⟨λ_=>rfl,rfl,by simp[*],rfl,rfl⟩,ai,λ_ _=>?_⟩;refine⟨Y,Y,Y, ?_⟩;refine bG fy ⟨x,s.az,⟨1,.empty,(I x.L x.ae s).aT,[],(I x.L x.ae s).au⟩,dq⟩ ⟨by have:=O.aq M;grind,.nil rfl⟩ λ_ _=>?_;exact eD (N.trans U.symm);replace h1:((I x.L x.ae s).ak==3)=false:=h1;rw[h1,y]at U;refine ar (λh2=>?_) (λh2=>?_);replace h2:((I x.L x.ae s).ak==4)=true:=h2;rw[h2,aW,mc,jy]at U;have O:=L.step (zf h2 (by decide));refine⟨Y, ?_⟩;refine⟨_,ee λ_=>rfl,oK (i:=s.i) (gi L.i M),gM rfl rfl rfl,rfl,⟨x,s,s.az,1,_⟩,rfl,rfl,⟨λ_=>rfl,rfl,by simp[*],rfl,rfl⟩,ai,λ_ _=>?_⟩;refine⟨Y,Y,Y, ?_⟩;refine bG fy ⟨x,s.az,⟨2,(I x.L x.ae s).aJ,0,[],(I x.L x.ae s).au⟩,dq⟩ ⟨by have:=O.aq M;grind,.nil rfl⟩ λ_ _=>?_;exact eD (N.trans U.symm);replace h2:((I x.L x.ae s).ak==4)=false:=h2;rw[h2,y]at U;refine ar (λh3=>?_) (λh3=>?_);replace h3:((I x.L x.ae s).ak==1)=true:=h3;rw[h3,aW,mc,jy]at U;have O:=L.step (zf h3 (by decide));refine⟨Y, ?_⟩;refine⟨_,ee λ_=>rfl,oK (i:=s.i) (gi L.i M),gM rfl rfl rfl,rfl,⟨x,s,s.az,1,_⟩,rfl,rfl,⟨λ_=>rfl,rfl,by simp[*],rfl,rfl⟩,ai,λ_ _=>?_⟩;refine⟨Y,Y,Y, ?_⟩;refine bG fy ⟨x,s.az,⟨3,(I x.L x.ae s).aJ,0,[],(I x.L x.ae s).au⟩,dq⟩ ⟨by have:=O.aq M;grind,.nil rfl⟩ λ_ _=>?_;exact eD (N.trans U.symm);replace h3:((I x.L x.ae s).ak==1)=false:=h3;rw[h3,y,nt]at U;intro kc;refine⟨Y, ?_⟩;have x2:=L.i;have c0:x.L.length<=1048576/\s.i<=1048576/\0<=1048576:=⟨M,gi x2 M,b7 _⟩;refine lH (A:=(K x.L s 0 Jj||(K x.L s 0 Jh||K x.L s 0 Ji))=true) (λkx=>ba kO ⟨x.p s,0,Jj⟩ c0 (R.ls.dc 0 1 X X rfl rfl) λ_ _=>ar (λh4=>kx ?_) (λh4=>⟨Y,kO,rfl,⟨x.p s,0,Jh⟩,rfl,rfl,c0,R.ls.dc 0 1 X X rfl rfl,λ_ _=>ar (λh5=>kx ?_) (λh5=>⟨Y,kO,rfl,⟨x.p s,0,Ji⟩,rfl,rfl,c0,R.ls.dc 0 1 X X rfl rfl,λ_ _=>ar (λh6=>kx ?_) (λh6=>?_)⟩)⟩)) (λhx=>?_)
 rotate_right
 rw[hx,aW,mc,jy]at U;have hi:s.i<x.L.length:=by{rw[Bool.or_eq_true,Bool.or_eq_true]at hx;rcases hx with h|h|h <;> exact p9 h};have O:=L.step hi;refine⟨Y, ?_⟩;refine⟨_,ee λ_=>rfl,oK (i:=s.i) (gi L.i M),gM rfl rfl rfl,rfl,⟨x,s,s.az,1,_⟩,rfl,rfl,⟨λ_=>rfl,rfl,by simp[*],rfl,rfl⟩,ai,λ_ _=>?_⟩;refine⟨Y,Y,Y, ?_⟩;refine bG fy ⟨x,s.az,⟨4,(I x.L x.ae s).aJ,0,[],(I x.L x.ae s).au⟩,dq⟩ ⟨by have:=O.aq M;grind,.nil rfl⟩ λ_ _=>?_;exact eD (N.trans U.symm);rw[show K x.L s 0 Jj=true from h4] <;> rfl;rw[show K x.L s 0 Jh=true from h5,Bool.true_or,oG];rw[show K x.L s 0 Ji=true from h6,oG,oG];rw[show K x.L s 0 Jj=false from h4,show K x.L s 0 Jh=false from h5,show K x.L s 0 Ji=false from h6,Bool.or_self,Bool.or_self,y]at U;refine⟨Y, ?_⟩;refine ba kO ⟨x.p s,0,uK⟩ ⟨M,by have:=L.i;show s.i<=1048576;omega,by simp[*]⟩ (R.ls.dc 0 1 X X rfl rfl) λ_ _=>?_;refine ar (λh7=>?_) (λh7=>?_);replace h7:K x.L s 0 uK=true:=h7;rw[h7,aW]at U;refine⟨Y, ?_⟩;exact ca L (v_ U ho) (λ_ _ q _ _ _ _ _ _ _=>eD (N.trans q.symm)) (cB:=ai) (ct:=p9 h7) (cP:=ai);rw[show K x.L s 0 uK=false from h7,y]at U;refine⟨Y, ?_⟩;refine ba kM ⟨x,s,lp⟩ ⟨M,L.i⟩ (R.ls.sub (bB 1)) ⟨λ_ q=>?_,λ_ q=>?_⟩;rw[mb q,aW]at U;have O:=L.is q;refine⟨Y, ?_⟩;refine ca O (fH U ho) (λk t1 U T x5 x7 x1 x6 x0 x8=>?_) (cB:=ai) (ct:=ai) (cP:=ai);dsimp only[aj.sl,ap.az,ap.add]at x5 x7 x1 x6 x0 x8;refine⟨Y, ?_⟩;refine ma T U (λU g3=>?_);exact eD (N.trans U.symm);rw[mO q,y]at U;refine⟨Y, ?_⟩;refine ba kM ⟨x,s,lb⟩ ⟨M,L.i⟩ (R.ls.sub (bB 1)) ⟨λ_ q=>?_,λ_ q=>?_⟩;rw[mb q,aW]at U;have O:=L.is q;have oo:bm J x n (.de []) s.az≠.out:=O2 (by rw[U];exact ho);refine⟨Y,aiZ,rfl,⟨⟨J,x,s.az,os,n,kc,pc,[],dq⟩,n⟩,rfl,rfl,⟨ih,hK,O.cast (dQ _).symm,.nil rfl,bK _,oo⟩,R.sub (bB 1),λa qq=>?_,λa⟨u,qq⟩=>⟨.inr a,⟨u,N.trans (U.symm.trans (F1 qq))⟩,rfl,ao [1]⟩⟩;obtain⟨ks,t1,r'⟩:=a;obtain⟨q1,S,T⟩:=qq;replace q1:bm J x n (.de []) s.az= .ok ks t1:=q1;replace T:PG x t1 (os++ks):=T;rw[F0 q1,jy]at U;refine⟨Y,Y,Y, ?_⟩;refine bG fy ⟨x,t1,⟨5,.empty,0,ks,(I x.L x.ae s).au⟩,r'⟩ ⟨by have:=T.aq M;grind,S⟩ λ_ _=>?_;exact eD (N.trans U.symm);rw[mO q,y]at U;refine⟨Y, ?_⟩;refine ba kM ⟨x,s,lc⟩ ⟨M,L.i⟩ (R.ls.sub (bB 1)) ⟨λ_ q=>?_,λ_ q=>?_⟩;rw[mb q,aW]at U;have O:=L.is q;have oo:bm J x n (.dr []) s.az≠.out:=O2 (by rw[U];exact ho);refine⟨Y,ai2,rfl,⟨⟨J,x,s.az,os,n,kc,pc,[],dq⟩,n⟩,rfl,rfl,⟨ih,hK,O.cast (dQ _).symm,.nil rfl,bK _,oo⟩,R.sub (bB 1),λa qq=>?_,λa⟨u,qq⟩=>⟨.inr a,⟨u,N.trans (U.symm.trans (F1 qq))⟩,rfl,ao [1]⟩⟩;obtain⟨ks,t1,r'⟩:=a;obtain⟨q1,S,T⟩:=qq;replace q1:bm J x n (.dr []) s.az= .ok ks t1:=q1;replace T:PG x t1 (os++ks):=T;rw[F0 q1,jy]at U;refine⟨Y,Y,Y, ?_⟩;refine bG fy ⟨x,t1,⟨6,.empty,0,ks,(I x.L x.ae s).au⟩,r'⟩ ⟨by have:=T.aq M;grind,S⟩ λ_ _=>?_;exact eD (N.trans U.symm);rw[mO q,y]at U;refine⟨Y, ?_⟩;exact ba qS (x.p s) M (R.ls.dc 0 1 X X rfl rfl) λ_ _=>⟨.inr (_,_),⟨_,N.trans U.symm⟩,rfl,ao [1]⟩
def al7:aG 179 (bh (λ(_:ax)=>aj.dL)):=iB func179 al6 al8
def BS:bl 3 1 (a7 []) dq:=.nil rfl
def amF(x:bc Int)(a:ag):List (Nat×Nat×OH):=[(1,2,.n 2020),(1,3,.w (eT 2020)),(2,1,z 2020),(2,3,q (cv x.n 45)),(2,4,.n 3040),(2,5,.o (cS 3 1 8) [999] [998]),(2,7,.w [.aS 2020]),(3,1,q iQ),(4,1,q iU),(5,1,q wv),(5,3,.w [.aS 2020]),(6,1,q iU),(7,1,z 2020),(7,4,.w [.aS 2020]),(8,1,z 2020),(8,3,q (cv x.n 45)),(8,4,.n 9040),(8,5,.o (cS 3 1 8) [998] [998]),(8,7,.w [.aS 2020]),
 (9,1,z 2020),(9,5,aI gU),(10,1,aI mo),(11,1,q iQ),(12,1,z 2020),(12,4,.w [.aS 2020]),(13,1,z 2020),(13,3,q (cv x.n 45)),(13,4,.n 14040),(13,5,.o (cS 3 1 8) [998] [998]),(13,7,.w [.aS 2020]),(14,1,.q (eT 2020)),(14,2,.c fO [0,998] [0])]
abbrev Cw(x:bc Int):aN:=[W (cg x),H false]
abbrev Nu(x:bc Int):aN:=[Z 32,C ⟨#[]⟩,float f64 0,Q none 0 0,Z x.t]
abbrev zQ(B:Nat):aN:=[Q none 0 0,Q (bq B) 1 1]
abbrev xZ(z:Row)(x:bc Int):aN:=[Z 32,C ⟨#[]⟩,float f64 0,Q z.a z.n z.aq,Z x.t]
abbrev VI(s:lI)(z:Row)(x:bc Int):aN:=[Z 32,C (I s.x.L s.x.ae s.s).aJ,float f64 0,Q z.a z.n z.aq,Z x.t]
abbrev B9(s:lI)(z:Row)(x:bc Int):aN:=[Z 32,C (I s.x.L s.x.ae s.s).aJ,float f64 4607182418800017408,Q z.a z.n z.aq,Z x.t]
abbrev EJ(s:lI)(k:Row)(x:bc Int):aN:=[Z 32,C (I s.x.L s.x.ae s.s).aJ,float f64 4613937818241073152,Q k.a k.n k.aq,Z x.t]
abbrev H8(y:jo)(F:ag)(z:Row)(E:Nat)(x:bc Int)(B:Nat)(C:Int×ap):=[(0,G y.x y.s),(1,F),(998,z.A),(999,aY),(2020,D E (xZ z x) 35),(3040,D B (bI C) 3)]
abbrev EL(z:Row)(x:bc Int):aN:=[Z 32,C ⟨#[]⟩,float f64 4611686018427387904,Q z.a z.n z.aq,Z x.t]
def amH(x:bc Int)(F:ag)(hc:aF.cond (bh (λ(p:Int)=>aj.d5 p)) x)(hr:aF.aE (bh (λ(p:Int)=>aj.d5 p)) x F):∀(E:Nat),bQ E (true=true/\V E 3/\cd x.n 45 (Cw x) [G x.x x.s] (g [(0,G x.x x.s),(1,F),(2020,D E (Nu x) 35)] [0]) (λv J=>∀(B:Nat),gu (aL f81 2 5) (zQ B) [aY] (g [(0,G v.x J.snd),(1,F),(2020,D E (Nu x) 35),(3040,D B (bI J) 3)] [999]) (λA z=>V E 3/\fW [W (cg x),C ⟨#[99,97,116,99,104]⟩] [G v.x J.snd] (g [(0,G v.x J.snd),(1,F),(998,z.A),(999,aY),(2020,D E (xZ z x) 35),(3040,D B (bI J) 3)] [0]) (λL w=>gE [W (cg x),C ⟨#[40]⟩] [G L.x L.s.az] (g [(0,G L.x L.s.az),(1,F),(998,z.A),(999,aY),(2020,D E (xZ z x) 35),(3040,D B (bI J) 3)] [0]) (λu t=>A9 (kw x) [G u.x u.s.az] (g [(0,G u.x u.s.az),(1,F),(998,z.A),(999,aY),(2020,D E (xZ z x) 35),(3040,D B (bI J) 3)] [0]) (λs r=>V E 1/\gE (Cz x) [G s.x s.s.az] (g [(0,G s.x s.s.az),(1,F),(998,z.A),(999,aY),(2020,D E (VI s z x) 35),(3040,D B (bI J) 3)] [0]) (λq p=>V E 2/\V E 2/\true=true/\V E 3/\cd x.n 45 (Cw x) [G q.x q.s.az] (g [(0,G q.x q.s.az),(1,F),(998,z.A),(999,aY),(2020,D E (B9 s z x) 35),(3040,D B (bI J) 3)] [0]) (λo n=>∀(m:Nat),gu (aL f81 8 5) (vP z m) [z.A] (g [(0,G o.x n.snd),(1,F),(998,z.A),(999,aY),(2020,D E (B9 s z x) 35),(3040,D B (bI J) 3),(9040,D m (bI n) 3)] [998]) (λM k=>V E 3/\V E 2/\fW [W (cg x),C ⟨#[102,105,110,97,108,108,121]⟩] [G o.x n.snd] (g [(0,G o.x n.snd),(1,F),(998,k.A),(999,aY),(2020,D E (B9 s k x) 35),(3040,D B (bI J) 3),(9040,D m (bI n) 3)] [0]) (λj i=>V E 2/\V E 2/\true=true/\V E 3/\cd x.n 45 (Cw x) [G j.x j.s.az] (g [(0,G j.x j.s.az),(1,F),(998,k.A),(999,aY),(2020,D E (EJ s k x) 35),(3040,D B (bI J) 3),(9040,D m (bI n) 3)] [0]) (λh N=>∀(f:Nat),gu (aL f81 13 5) (vP k f) [k.A] (g [(0,G h.x N.snd),(1,F),(998,k.A),(999,aY),(2020,D E (EJ s k x) 35),(3040,D B (bI J) 3),(9040,D m (bI n) 3),(14040,D f (bI N) 3)] [998]) (λe d=>V E 3/\bQ E (c7 [W (cg x),agg ⟨EJ s d x⟩] [G h.x N.snd,d.A] (λc b=>l (bh λ(a:Int)=>aj.d5 a) x F (fG c) [(0,G c.x (c.s.add c.n)),(1,F),(998,aY),(999,aY),(2020,D E (EJ s d x) 35),(3040,D B (bI J) 3),(9040,D m (bI n) 3),(14040,D f (bI N) 3)])))) (λh c=>∀(b:Tm),l (bh λ(a:Int)=>aj.d5 a) x F (q8 c) [(0,aY),(1,F),(998,k.A),(999,aY),(2020,D E (EJ s k x) 35),(3040,D B (bI J) 3),(9040,D m (bI n) 3)])) (λj d=>bQ E (c7 [W (cg x),agg ⟨B9 s k x⟩] [G j.x j.s,k.A] (λc b=>l (bh λ(a:Int)=>aj.d5 a) x F (fG c) [(0,G c.x (c.s.add c.n)),(1,F),(998,aY),(999,aY),(2020,D E (B9 s k x) 35),(3040,D B (bI J) 3),(9040,D m (bI n) 3)]))))) (λo c=>∀(b:Tm),l (bh λ(a:Int)=>aj.d5 a) x F (q8 c) [(0,aY),(1,F),(998,z.A),(999,aY),(2020,D E (B9 s z x) 35),(3040,D B (bI J) 3)])) (λq b=>l (bh λ(a:Int)=>aj.d5 a) x F (gI q) [(0,aY),(1,F),(998,z.A),(999,aY),(2020,D E (VI s z x) 35),(3040,D B (bI J) 3)])) (λs b=>l (bh λ(a:Int)=>aj.d5 a) x F (Cf s) [(0,aY),(1,F),(998,z.A),(999,aY),(2020,D E (xZ z x) 35),(3040,D B (bI J) 3)])) (λu b=>l (bh λ(a:Int)=>aj.d5 a) x F (gI u) [(0,aY),(1,F),(998,z.A),(999,aY),(2020,D E (xZ z x) 35),(3040,D B (bI J) 3)])) (λL m=>V E 2/\gP [W (cg x),Z 0,C ⟨#[102,105,110,97,108,108,121]⟩] (g (H8 L F z E x B J) []) (λM k=>Br (!iS M.p.L (M.p.i+M.a) M.t) (lN (kw x) (g (H8 L F z E x B J) []) (λc b=>l (bh λ(a:Int)=>aj.d5 a) x F (kv c) (H8 L F z E x B J))) (fW [W (cg x),C ⟨#[102,105,110,97,108,108,121]⟩] [G L.x L.s] (g (H8 L F z E x B J) [0]) (λj i=>V E 2/\V E 2/\true=true/\V E 3/\cd x.n 45 (Cw x) [G j.x j.s.az] (g [(0,G j.x j.s.az),(1,F),(998,z.A),(999,aY),(2020,D E (EL z x) 35),(3040,D B (bI J) 3)] [0]) (λh N=>∀(f:Nat),gu (aL f81 13 5) (vP z f) [z.A] (g [(0,G h.x N.snd),(1,F),(998,z.A),(999,aY),(2020,D E (EL z x) 35),(3040,D B (bI J) 3),(14040,D f (bI N) 3)] [998]) (λe d=>V E 3/\bQ E (c7 [W (cg x),agg ⟨EL d x⟩] [G h.x N.snd,d.A] (λc b=>l (bh λ(a:Int)=>aj.d5 a) x F (fG c) [(0,G c.x (c.s.add c.n)),(1,F),(998,aY),(999,aY),(2020,D E (EL d x) 35),(3040,D B (bI J) 3),(14040,D f (bI N) 3)])))) (λh c=>∀(b:Tm),l (bh λ(a:Int)=>aj.d5 a) x F (q8 c) [(0,aY),(1,F),(998,z.A),(999,aY),(2020,D E (EL z x) 35),(3040,D B (bI J) 3)])) (λj d=>bQ E (c7 [W (cg x),agg ⟨xZ z x⟩] [G j.x j.s,z.A] (λc b=>l (bh λ(a:Int)=>aj.d5 a) x F (fG c) [(0,G c.x (c.s.add c.n)),(1,F),(998,aY),(999,aY),(2020,D E (xZ z x) 35),(3040,D B (bI J) 3)])))))))) (λv c=>∀(b:Tm),l (bh λ(a:Int)=>aj.d5 a) x F (q8 c) [(0,aY),(1,F),(2020,D E (Nu x) 35)])):=by
 delta cd cg Cw Nu mM jx rz l6 gu bq zQ bI jR fW xZ gE oY o4 A9 kw Cz VI B9 vP EJ lB c7 kV fG q8 gI Cf rC gP H8 lN kv EL g G V bQ bz dK jc Z C H W Q ce D aY al;obtain⟨O,x,s,os,n,tp⟩:=x;obtain⟨ih,hK,hG,hp,y2,y1,ho⟩:=hc;replace hr:dj O x F:=hr;replace ho:bm O x (n+1) (.d5 tp) s≠.out:=ho;dsimp only at ih hK hG hp y2 y1⊢;obtain⟨r,e0⟩:∃r,bm O x (n+1) (.d5 tp) s=r:=⟨_,rfl⟩;rw[e0]at ho;have U:=e0;unfold bm at U;rw[P]at U;have T:=hK.len;intro c
 repeat (refine⟨Y, ?_⟩)
 refine⟨rfl,Y, ?_⟩;refine ca hG (fH U ho) (λb S U g1 y3 y8 x9 y6 x7 z0=>?_) (cB:=ai) (ct:=ai) (cP:=ai);dsimp only[aj.sl,ap.az,ap.add]at y3 y8 x9 y6 x7 z0;intro lb;refine mn (ks:=[]) (k:=b) 3040 BS (by simp[*]) (λr2 h2=>?_);refine⟨Y, ?_⟩;refine ba kM ⟨x,S,abu⟩ ⟨T,g1.i⟩ (hr.ls.sub (bB 1)) ⟨λ_ q=>?_,λ_ q=>?_⟩;rw[mb q,aW,eZ]at U;have g2:=g1.is q;refine ma g2 U (λU g3=>?_);rw[eZ]at U;refine ba Pk ⟨x,S.az.az⟩ T (hr.ls.sub (bB 1)) ⟨λ_ q=>?_,λ_ q=>⟨.inr (_,_),⟨_,e0.trans (U.symm.trans (O6 q))⟩,rfl,ao [1]⟩⟩;rw[O7 q,eZ]at U;have hi:S.az.az.i<x.L.length:=w9 (ae:=x.ae) (λe=>by rw[e]at q;cases q);have g4:=g3.step hi;refine⟨Y, ?_⟩;refine ma g4 U (λU g5=>?_);rw[eZ]at U;refine⟨Y,Y,rfl,Y, ?_⟩;refine ca g5 (fH U ho) (λc2 t2 U g6 y4 y9 y0 y7 x8 z1=>?_) (cB:=ai) (ct:=ai) (cP:=ai);dsimp only[aj.sl,ap.az,ap.add]at y4 y9 y0 y7 x8 z1;rw[iX]at U;dsimp only at U;rw[nt]at U;simp only[Bool.not_true,lj,y]at U;rw[iX]at U;intro y5;have R:bl 3 1 (a7 [b]) r2:=h2;refine ba (iN 1 8 rfl rfl rfl rfl rfl rfl rfl (by decide)) ⟨r2,a7 [b],some ⟨y5,0,none⟩,1,1,a7 [c2]⟩ ⟨R,rfl,xg _,ye R X,yf R X,λh=>nomatch h⟩ (yk 9040 rfl) λr3 h3=>?_;replace h3:bl 3 1 (a7 ([b]++[c2])) r3:=by rw[xf];simp[*]
 refine⟨Y,Y, ?_⟩;refine ba kM ⟨x,t2,rM⟩ ⟨T,g6.i⟩ (hr.ls.sub (bB 1)) ⟨λ_ q=>?_,λ_ q=>?_⟩;rw[mb q,aW]at U;have g7:=g6.is q;refine⟨Y,Y,rfl,Y, ?_⟩;refine ca g7 (CO U ho) (λc3 t3 U g8 x2 x5 x1 x4 x0 x6=>?_) (cB:=ai) (ct:=ai) (cP:=ai);dsimp only[aj.sl,ap.az,ap.add]at x2 x5 x1 x4 x0 x6;rw[jy]at U;intro x3;refine ba (iN 1 8 rfl rfl rfl rfl rfl rfl rfl (by decide)) ⟨r3,a7 ([b]++[c2]),some ⟨x3,0,none⟩,1,1,a7 [c3]⟩ ⟨h3,rfl,xg _,ye h3 X,yf h3 X,λh=>nomatch h⟩ (yk 14040 rfl) λr4 h4=>?_;replace h4:bl 3 1 (a7 ([b]++[c2]++[c3])) r4:=by rw[xf];grind
 repeat (refine⟨Y, ?_⟩)
 refine bG fy ⟨x,t3,⟨34-2,(I x.L x.ae S.az.az).aJ,wm,[b]++[c2]++[c3],tp⟩,r4⟩ ⟨by have:=g8.aq T;grind,h4⟩ λ_ _=>?_;exact eD (e0.trans U.symm);rw[mO q,y,iX,jy]at U
 repeat (refine⟨Y, ?_⟩)
 refine bG fy ⟨x,t2,⟨34-2,(I x.L x.ae S.az.az).aJ,iI,[b]++[c2]++[],tp⟩,r3⟩ ⟨by have:=g6.aq T;grind,h3⟩ λ_ _=>?_;exact eD (e0.trans U.symm);rw[mO q,y,iX]at U;dsimp only at U;rw[nt]at U;simp only[Bool.not_false,Bool.true_and,y]at U;refine⟨Y, ?_⟩;refine ba kO ⟨x.p S,0,rM⟩ ⟨T,by have:=g1.i;show S.i<=1048576;omega,by simp[*]⟩ (hr.ls.dc 0 1 X X rfl rfl) λ_ _=>?_;refine ar (λh=>?_) (λh=>?_);rw[show(!K x.L S 0 rM)=true from h,aW,Ja]at U;exact ba qS (x.p S) T (hr.ls.dc 0 1 X X rfl rfl) λ_ _=>⟨.inr (_,_),⟨_,e0.trans U.symm⟩,rfl,ao [1]⟩;rw[show(!K x.L S 0 rM)=false from h,y,iX]at U;refine ba kM ⟨x,S,rM⟩ ⟨T,g1.i⟩ (hr.ls.sub (bB 1)) ⟨λ_ q=>?_,λ_ q=>?_⟩;rw[mb q,aW]at U;have g7:=g1.is q;refine⟨Y,Y,rfl,Y, ?_⟩;refine ca g7 (CO U ho) (λc3 t3 U g8 x2 x5 x1 x4 x0 x6=>?_) (cB:=ai) (ct:=ai) (cP:=ai);dsimp only[aj.sl,ap.az,ap.add]at x2 x5 x1 x4 x0 x6;rw[jy]at U;intro x3;have R:bl 3 1 (a7 [b]) r2:=h2;refine ba (iN 1 8 rfl rfl rfl rfl rfl rfl rfl (by decide)) ⟨r2,a7 [b],some ⟨x3,0,none⟩,1,1,a7 [c3]⟩ ⟨R,rfl,xg _,ye R X,yf R X,λh=>nomatch h⟩ (yk 14040 rfl) λr4 h4=>?_;replace h4:bl 3 1 (a7 ([b]++[]++[c3])) r4:=by rw[dQ,xf];simp[*]
 repeat (refine⟨Y, ?_⟩)
 refine bG fy ⟨x,t3,⟨34-2,.empty,uL,[b]++[]++[c3],tp⟩,r4⟩ ⟨by have:=g8.aq T;grind,h4⟩ λ_ _=>?_;exact eD (e0.trans U.symm);have q2:K x.L S 0 rM=false:=q;have h2:(!K x.L S 0 rM)=false:=h;grind
def amG:aG 81 (bh (λ(p:Int)=>aj.d5 p)):=iB func81 amF amH
def rJ(L:List a8)(s:ap)(ak:Int)(aB:Bool):Bool:=ak==(31:Int)||(ak==(28:Int)&&(decide (s.i<L.length)&&(!aB&&(!K L s 0 dt&& !K L s 0 rc))))
def O0(L:List a8)(ae:Int)(ak au:Int)(ks:aM):j (aM):=do
 eh L ae
 cj ⟨ak,.empty,0,ks,au⟩
def yq(L:List a8)(ae:Int)(tv:Nat->ah)(n:Nat)(ak au:Int)(b:Bool):j (aM):=do
 let a <-bif b then P L ae tv bo n .bf else ret []
 O0 L ae ak au a
def OZ(L:List a8)(ae:Int)(tv:Nat->ah)(f:Nat)(ak au:Int):j (aM):=do
 fh
 let n <-gk L ae
 let s <-fd
 bif ak==(31:Int)&&n.aB then ju L ae else ret ()
 yq L ae tv f ak au (rJ L s ak n.aB)
structure jt where
 ak:Int
 t:ap
 ks:aM
 r:Row
 b:Bool
 c:Nat
abbrev gV(x:bc a8):bv:=some ⟨x.x.b,0,none⟩
abbrev pL(d:jt):bv:=some ⟨d.c,0,none⟩
abbrev sV(d:jt):=W (pL d)
def amt(x:bc a8)(F:ag):Nat->Option Inv:=fun
 |11=>some {X:=jt,P:=λd=>OZ x.x.L x.x.ae x.K.tv x.n d.ak x.t.au x.s=bm x.K x.x (x.n+1) (.simple x.t) x.s,mu:=λ_=>0,lv:=λd=>[(0,W (gV x)),(5,sV d)],st:=λd=>[G x.x x.s,F,(m_ d.c d.ak .empty 0 dq x.t.au)]}
 |17=>some {X:=jt,P:=λd=>yq x.x.L x.x.ae x.K.tv x.n d.ak x.t.au d.b x.s.az=bm x.K x.x (x.n+1) (.simple x.t) x.s,mu:=λ_=>0,lv:=λd=>[(0,W (gV x)),(5,sV d),(72,H d.b)],st:=λd=>[G x.x x.s.az,F,(m_ d.c d.ak .empty 0 dq x.t.au)]}
 |18=>some {X:=jt,P:=λd=>PG x.x d.t (x.os++d.ks)/\bl 3 1 (a7 d.ks) d.r/\O0 x.x.L x.x.ae d.ak x.t.au d.ks d.t=bm x.K x.x (x.n+1) (.simple x.t) x.s,mu:=λ_=>0,lv:=λd=>[(0,W (gV x)),(5,sV d)],st:=λd=>[G x.x d.t,F,(m_ d.c d.ak .empty 0 d.r x.t.au),d.r.A]}
 |_=>none
def amu(x:bc a8)(a:ag):List (Nat×Nat×OH):=[(0,0,.n 1000),(1,1,z 1000),(1,3,.n 2030),(1,4,.w (eT 2030)),(3,1,z 1000),(3,7,cD),(4,1,.w [.aS 2030]),(5,1,z 1000),(5,7,cD),(6,1,.w [.aS 2030]),(7,1,z 1000),(7,7,cD),(8,1,.w [.aS 2030]),(9,1,z 1000),(10,1,.w [.aS 2030]),(2,1,aI mo),
 (11,3,cD),(11,7,dU fQ),(12,1,aI jf),(12,2,.n 13020),(12,3,.w (eT 13020)),(13,1,z 2),(13,5,z 13020),(14,1,aI mo),(15,1,z 2),(16,1,z 2),(16,7,cD),(16,11,.q [.ex 0 .slice]),(16,17,z 13020),(16,22,aI gU),(16,27,aI gU),
 (17,1,q (cv x.n 10)),(17,2,.n 18020),(17,4,.w [.aS 2]),(18,1,q tc),(19,1,.q (eT 2)),(19,2,.c fO [0,3] [0])]
abbrev IE:ah:=ByteArray.mk #[114,101,116,117,114,110]
abbrev Cv(q:jt)(x:bc a8):aN:=[Z q.ak,C ByteArray.empty,float f64 0,Q none 0 0,Z x.t.au]
def GC(a:bc a8)(e1:ag)(c:aD)(b:St):=∃(z:jt),OZ a.x.L a.x.ae a.K.tv a.n z.ak a.t.au a.s=bm a.K a.x (a.n+1) (aj.simple a.t) a.s/\(W (gV a)=W (gV a)/\c=W (pL z)/\True)/\ay b [(0,G a.x a.s),(1,e1),(2,D z.c (Cv z a) 35)]
abbrev EI(x:bc a8):aN:=[Z x.t.ak,C x.t.aJ,float f64 x.t.aT,Z x.t.au,H x.t.aB]
abbrev IK:ah:=ByteArray.mk #[98,114,101,97,107]
abbrev Ix:ah:=ByteArray.mk #[99,111,110,116,105,110,117,101]
abbrev UE(x:bc a8)(F:ag)(s r:Nat):=[(0,G x.x x.s),(1,F),(1000,D s (EI x) 56),(2030,D r [Z 0,C ⟨#[]⟩,float f64 0,Q none 0 0,Z x.t.au] 35)]
def UM(s:Nat)(x:bc a8)(r:Nat)(F:ag):=V s 1/\Br (x.t.aJ.toList==(ByteArray.mk #[116,104,114,111,119]).toList) (V r 0/\GC x F (bL r) [(0,G x.x x.s),(1,F),(1000,D s (EI x) 56),(2030,D r [Z 31,C ⟨#[]⟩,float f64 0,Q none 0 0,Z x.t.au] 35)]) (lN [W (gV x)] (g (UE x F s r) []) (λc b=>l (bh λ(a:a8)=>aj.simple a) x F (kv c) (UE x F s r)))
def q6(s:Nat)(x:bc a8)(r:Nat)(F:ag):=V s 1/\Br (x.t.aJ.toList==Ix.toList) (T1 (G x.x x.s) ⟨x.x.b,5,none⟩ (λd=>aK (d>0) (V r 0/\GC x F (bL r) [(0,G x.x x.s),(1,F),(1000,D s (EI x) 56),(2030,D r [Z 30,C ⟨#[]⟩,float f64 0,Q none 0 0,Z x.t.au] 35)]) (UM s x r F))) (UM s x r F)
def S5(s:Nat)(x:bc a8)(r:Nat)(F:ag):=V s 1/\Br (x.t.aJ.toList==IK.toList) (T1 (G x.x x.s) ⟨x.x.b,6,none⟩ (λe=>aK (e>0) (V r 0/\GC x F (bL r) [(0,G x.x x.s),(1,F),(1000,D s (EI x) 56),(2030,D r [Z 29,C ⟨#[]⟩,float f64 0,Q none 0 0,Z x.t.au] 35)]) (q6 s x r F))) (q6 s x r F)
abbrev oV(n:yL)(F:ag)(q:jt)(x:bc a8)(j:Nat)(l:dm):=[(0,G n.x n.t),(1,F),(2,D q.c (Cv q x) 35),(13020,D j (q0 l) 56)]
abbrev xC(x:bc a8)(F:ag)(a:jt):=[(0,G x.x x.s.az),(1,F),(2,D a.c (Cv a x) 35)]
abbrev VW(e:Dr):aN:=[W (some ⟨e.p.b,0,none⟩),Z ↑e.a,C e.t]
def Im(x:bc a8)(q:jt)(n:yL)(F:ag)(j:Nat)(l:dm):=∃(a:jt),yq x.x.L x.x.ae x.K.tv x.n a.ak x.t.au a.b x.s.az=bm x.K x.x (x.n+1) (aj.simple x.t) x.s/\(W (gV x)=W (gV x)/\W (pL q)=W (pL a)/\H false=H a.b/\True)/\ay (oV n F q x j l) (xC x F a)
def HP(a:bc a8)(z:jt):=PG a.x z.t (a.os++z.ks)/\bl 3 1 (a7 z.ks) z.r/\O0 a.x.L a.x.ae z.ak a.t.au z.ks z.t=bm a.K a.x (a.n+1) (aj.simple a.t) a.s
abbrev U0(d:ph)(c:Int×ap)(F:ag)(f:jt)(b:Nat)(x:bc a8):=[(0,G d.x c.snd),(1,F),(2,D f.c [Z f.ak,C ByteArray.empty,float f64 0,Q (bq b) 1 1,Z x.t.au] 35),(18020,D b (bI c) 3)]
abbrev HM(z:jt)(a:bc a8):aN:=[Z z.ak,C ByteArray.empty,float f64 0,Q z.r.a z.r.n z.r.aq,Z a.t.au]
abbrev Iq(a:bc a8)(z:jt)(e1:ag):=[(0,G a.x z.t),(1,e1),(2,D z.c (HM z a) 35),(3,z.r.A)]
def A_(a:bc a8)(e1:ag)(c d:aD)(b:St):=∃(z:jt),yq a.x.L a.x.ae a.K.tv a.n z.ak a.t.au z.b a.s.az=bm a.K a.x (a.n+1) (aj.simple a.t) a.s/\(W (gV a)=W (gV a)/\c=W (pL z)/\d=H z.b/\True)/\ay b (xC a e1 z)
def QK(a:bc a8)(e1:ag)(c:aD)(b:St):=∃(z:jt),HP a z/\(W (gV a)=W (gV a)/\c=W (pL z)/\True)/\ay b (Iq a z e1)
def DB(c:aN)(pp:List ag)(f:ag)(d:lI->ap->Prop)(e:lI->Int->Prop):=aG 48 tc/\true=true/\∃(z:lI),c=(o4 z)/\pp=[G z.x z.s]/\(z.x.L.length<=1048576/\z.s.i<=z.x.L.length)/\gX z.x f/\(∀(a:ap),eh z.x.L z.x.ae z.s=PR.ok () a->d z a)/\∀(b:Int),eh z.x.L z.x.ae z.s=PR.stop b (60:Int) z.s->e z b
def amw(x:bc a8)(F:ag)(hc:aF.cond (bh (λ(d:a8)=>aj.simple d)) x)(O:aF.aE (bh (λ(d:a8)=>aj.simple d)) x F):∀(s:Nat),V s 3/\∀(r:Nat),bQ r ((V s 1/\Br (x.t.aJ.toList==IE.toList) (T1 (G x.x x.s) ⟨x.x.b,4,none⟩ (λf=>aK (f>0) (V r 0/\GC x F (bL r) [(0,G x.x x.s),(1,F),(1000,D s (EI x) 56),(2030,D r [Z 28,C ⟨#[]⟩,float f64 0,Q none 0 0,Z x.t.au] 35)]) (S5 s x r F))) (S5 s x r F))/\aQ λ(q:jt)_=>OZ x.x.L x.x.ae x.K.tv x.n q.ak x.t.au x.s=bm x.K x.x (x.n+1) (aj.simple x.t) x.s->T1 (G x.x x.s) ⟨x.x.b,1,none⟩ (λo=>aA (o+1)/\dM (aL f76 11 7) [W (some ⟨x.x.b,1,none⟩),Z (o+1)] [G x.x x.s] (λn m=>fq [W (gV x)] (g [(0,G n.x n.t),(1,F),(2,D q.c (Cv q x) 35)] []) (λv k=>∀(j:Nat),bQ j ((V q.c 0/\Br (q.ak==31) (V j 4/\Br (b_ v.L v.ae v.i).aB (aG 11 mo/\true=true/\∃(c:dm),[W (gV x)]=[W (xW c)]/\([]:List ag)=[]/\c.L.length<=1048576/\j4 c (g (oV n F q x j v) [])/\∀(b:ax),True->l (bh λ(a:a8)=>aj.simple a) x F (kv c) (oV n F q x j v)) ((d6 ⟨q.c,0,none⟩ q.c/\Br (q.ak==31) (∃(a:jt),yq x.x.L x.x.ae x.K.tv x.n a.ak x.t.au a.b x.s.az=bm x.K x.x (x.n+1) (aj.simple x.t) x.s/\(W (gV x)=W (gV x)/\W (pL q)=W (pL a)/\H (q.ak==31)=H a.b/\True)/\ay (oV n F q x j v) (xC x F a)) (true=true/\d6 ⟨q.c,0,none⟩ q.c/\Br (q.ak==28) (∃(i:Int),aH (G n.x n.t) ⟨x.x.b,1,none⟩ (Z i)/\∃(h:bv),∃(w:Nat),∃(f:Nat),aH (G n.x n.t) ⟨x.x.b,0,none⟩ (Q h w f)/\aK (i<w) (d6 ⟨j,4,none⟩ j/\Br (!(b_ v.L v.ae v.i).aB) (aG 44 gU/\true=true/\∃(e:Dr),[W (gV x),Z 0,C ⟨#[59]⟩]=(VW e)/\([]:List ag)=[]/\rC e/\j4 e.p (g (oV n F q x j v) [])/\∀(d:ax),True->Br (!iS e.p.L (e.p.i+e.a) e.t) (aG 44 gU/\true=true/\∃(c:Dr),[W (gV x),Z 0,C ⟨#[125]⟩]=(VW c)/\([]:List ag)=[]/\rC c/\j4 c.p (g (oV n F q x j v) [])/\∀(b:ax),True->∃(a:jt),yq x.x.L x.x.ae x.K.tv x.n a.ak x.t.au a.b x.s.az=bm x.K x.x (x.n+1) (aj.simple x.t) x.s/\(W (gV x)=W (gV x)/\W (pL q)=W (pL a)/\(H !iS c.p.L (c.p.i+c.a) c.t)=H a.b/\True)/\ay (oV n F q x j v) (xC x F a)) (Im x q n F j v)) (Im x q n F j v)) (Im x q n F j v)) (Im x q n F j v)))/\aQ λ(f:jt)_=>yq x.x.L x.x.ae x.K.tv x.n f.ak x.t.au f.b x.s.az=bm x.K x.x (x.n+1) (aj.simple x.t) x.s->Br f.b (aG 10 (cv x.n (10:FuncId))/\true=true/\∃(d:ph),[W (gV x)]=W (some ⟨d.x.b,0,none⟩)::d.tag.args/\[G x.x x.s.az]=[G d.x d.s]/\(hW d.K d.x/\PG d.x d.s d.os/\d.tag.bA=some 10/\aj.cB d.x.ae d.tag/\aj.ct d.x.L d.s d.tag/\aj.cP d.s d.tag/\bm d.K d.x x.n d.tag d.s≠PR.out)/\dj d.K d.x (g (xC x F f) [0])/\(∀(c:Int×ap),bm d.K d.x x.n d.tag d.s=PR.ok [c.fst] c.snd->∀(b:Nat),d6 ⟨f.c,3,none⟩ f.c/\∃(a:jt),HP x a/\(W (gV x)=W (gV x)/\W (pL f)=W (pL a)/\True)/\ay (U0 d c F f b x) (Iq x a F))/\∀(b:Int×Int),(∃(a:ap),bm d.K d.x x.n d.tag d.s=PR.stop b.fst b.snd a)->l (bh λ(a:a8)=>aj.simple a) x F (q8 b) [(0,aY),(1,F),(2,D f.c (Cv f x) 35)]) (∃(a:jt),HP x a/\(W (gV x)=W (gV x)/\W (pL f)=W (pL a)/\True)/\ay (xC x F f) (Iq x a F)))) ((V q.c 0/\Br (q.ak==31) (A_ x F (sV q) (H (q.ak==31)) (oV n F q x j v)) (true=true/\V q.c 0/\Br (q.ak==28) (T1 (G n.x n.t) ⟨x.x.b,1,none⟩ (λi=>dN (G n.x n.t) ⟨x.x.b,0,none⟩ (λh w f=>aK (i<w) (V j 4/\Br (!(b_ v.L v.ae v.i).aB) (gP [W (gV x),Z 0,C ⟨#[59]⟩] (g (oV n F q x j v) []) (λe d=>Br (!iS e.p.L (e.p.i+e.a) e.t) (gP [W (gV x),Z 0,C ⟨#[125]⟩] (g (oV n F q x j v) []) (λc b=>A_ x F (sV q) (H !iS c.p.L (c.p.i+c.a) c.t) (oV n F q x j v))) (A_ x F (sV q) cM (oV n F q x j v)))) (A_ x F (sV q) cM (oV n F q x j v))) (A_ x F (sV q) cM (oV n F q x j v))))) (A_ x F (sV q) cM (oV n F q x j v))))/\aQ λ(f:jt)_=>yq x.x.L x.x.ae x.K.tv x.n f.ak x.t.au f.b x.s.az=bm x.K x.x (x.n+1) (aj.simple x.t) x.s->Br f.b (cd x.n 10 [W (gV x)] [G x.x x.s.az] (g (xC x F f) [0]) (λd c=>∀(b:Nat),V f.c 3/\QK x F (sV f) (U0 d c F f b x)) (λd b=>l (bh λ(a:a8)=>aj.simple a) x F (q8 b) [(0,aY),(1,F),(2,D f.c (Cv f x) 35)])) (QK x F (sV f) (xC x F f))))/\aQ λ(w:jt)_=>HP x w->DB [W (gV x)] [G x.x w.t] (g (Iq x w F) [0]) (λe d=>bQ w.c (c7 [W (gV x),agg ⟨HM w x⟩] [G e.x d,w.r.A] (λc b=>l (bh λ(a:a8)=>aj.simple a) x F (fG c) [(0,G c.x (c.s.add c.n)),(1,F),(2,D w.c (HM w x) 35),(3,aY)]))) (λe b=>l (bh λ(a:a8)=>aj.simple a) x F (zF b) [(0,aY),(1,F),(2,D w.c (HM w x) 35),(3,w.r.A)])))))):=by
 delta IE T1 gV pL Cv GC bq bL EI IK Ix lN UE kv UM q6 S5 mK mL dM fq xW q0 oV xC VW rC Im HP bI U0 HM Iq q8 A_ sV dN gP cM cd QK oY o4 DB lB c7 kV fG zF g G V aA bQ bz dK lh Z C H W Q ce D aY aK al aQ;obtain⟨z,x,s,os,n,E⟩:=x;obtain⟨ih,hK,hG,hp,M,x2,ho⟩:=hc;replace O:dj z x F:=O;replace ho:bm z x (n+1) (.simple E) s≠.out:=ho;dsimp only at ih hK hG hp M x2⊢;obtain⟨r,B⟩:∃r,bm z x (n+1) (.simple E) s=r:=⟨_,rfl⟩;rw[B]at ho;have U:=B;unfold bm at U;rw[P]at U;have N:=hK.len;have M:s.i<x.L.length:=M;rw[nt]at U;intro x8;refine⟨Y,λc=>?_⟩
 repeat (refine⟨Y, ?_⟩)
 refine⟨?_, ?_⟩;refine lH (A:=(bx E.aJ rN&&decide (s.h>0))=false) (λk1=>⟨Y,ar (λa=>⟨_,ee λ_=>rfl,bd (λb=>⟨Y,⟨28,s,[],dq,false,c⟩, ?_,aU,ao [0,1,2030]⟩) (λb=>k1 ?_)⟩) (λa=>k1 ?_)⟩) (λJ=>lH (A:=(bx E.aJ rK&&decide (s.d>0))=false) (λk2=>⟨Y,ar (λa=>⟨_,ee λ_=>rfl,bd (λb=>⟨Y,⟨29,s,[],dq,false,c⟩, ?_,aU,ao [0,1,2030]⟩) (λb=>k2 ?_)⟩) (λa=>k2 ?_)⟩) (λL=>lH (A:=(bx E.aJ rL&&decide (s.loops>0))=false) (λk3=>⟨Y,ar (λa=>⟨_,ee λ_=>rfl,bd (λb=>⟨Y,⟨30,s,[],dq,false,c⟩, ?_,aU,ao [0,1,2030]⟩) (λb=>k3 ?_)⟩) (λa=>k3 ?_)⟩) (λT=>⟨Y,ar (λa=>⟨Y,⟨31,s,[],dq,false,c⟩, ?_,aU,ao [0,1,2030]⟩) (λa=>?_)⟩)));rw[gq]at a;rw[show bx E.aJ rN=true from a,bp (show s.h>0 from b),Bool.and_self,aW,iX]at U;exact U.trans B.symm;simp[*];rw[gq]at a;rw[show bx E.aJ rN=false from a,lj];rw[gq]at a;rw[J,y,show bx E.aJ rK=true from a,bp (show s.d>0 from b),Bool.and_self,aW,iX]at U;exact U.trans B.symm;simp[*];rw[gq]at a;rw[show bx E.aJ rK=false from a,lj];rw[gq]at a;rw[J,y,L,y,show bx E.aJ rL=true from a,bp (show s.loops>0 from b),Bool.and_self,aW,iX]at U;exact U.trans B.symm;simp[*];rw[gq]at a;rw[show bx E.aJ rL=false from a,lj];rw[gq]at a;rw[J,y,L,y,T,y,show bx E.aJ tw=true from a,aW,iX]at U;exact U.trans B.symm;rw[gq]at a;rw[J,y,L,y,T,y,show bx E.aJ tw=false from a,y,Ja]at U;exact ba qS (x.p s) N (O.ls.dc 0 1 X X rfl rfl) λ_ _=>⟨.inr (_,_),⟨_,B.trans U.symm⟩,rfl,ao [1]⟩;clear U;rintro⟨ak,t0,x4,r0,b0,c⟩ js U;dsimp only at U⊢;rw[B,OZ,mc,o7,nt]at U;have g1:=hG.step M;refine⟨_,ee λ_=>rfl,oK (i:=s.i) (gi hG.i N),gM rfl rfl rfl,rfl,⟨x,s,s.az,1,_⟩,rfl,rfl,⟨λ_=>rfl,rfl,by simp[*],rfl,rfl⟩,ai,λ_ _=>?_⟩;refine ba lR (x.p s.az) N (O.ls.dc 0 1 X X rfl rfl) λ_ _ c2=>?_
 repeat (refine⟨Y, ?_⟩)
 refine⟨?_, ?_⟩
 ·refine lH (A:=(ak==(31:Int)&&(I x.L x.ae s.az).aB)=false) (λkx=>⟨Y,ar (λJ=>⟨Y,ar (λL=>?_) (λL=>kx ?_)⟩) (λJ=>kx ?_)⟩) (λhx=>?_);rw[show(ak==(31:Int))=true from J,show(I x.L x.ae s.az).aB=true from L,Bool.and_self,aW,Ja]at U;exact ba qS (x.p s.az) N (O.ls.dc 0 1 X X rfl rfl) λ_ _=>⟨.inr (_,_),⟨_,B.trans U.symm⟩,rfl,ao [1]⟩;rw[show(I x.L x.ae s.az).aB=false from L,nO];simp[*];rw[hx,y,iX]at U;refine⟨⟨Y, ?_⟩, ?_⟩
  ·have c0:x.L.length<=1048576/\s.az.i<=1048576/\0<=1048576:=⟨N,gi g1.i N,b7 _⟩;refine ar (λJ=>⟨⟨ak,s,[],dq,true,c⟩, ?_,⟨rfl,rfl, ?_,ai⟩,ao [0,1,2]⟩) (λJ=>⟨rfl,Y,ar (λL=>⟨_,ee λ_=>rfl,_,_,_,ee λ_=>rfl,bd (λT=>⟨Y,ar (λh4=>ba kO ⟨x.p s.az,0,dt⟩ c0 (O.ls.dc 0 1 X X rfl rfl) λ_ _=>ar (λh5=>ba kO ⟨x.p s.az,0,rc⟩ c0 (O.ls.dc 0 1 X X rfl rfl) λ_ _=>⟨⟨ak,s,[],dq,!K x.L s.az 0 rc,c⟩, ?_,⟨rfl,rfl, ?_,ai⟩,ao [0,1,2]⟩) (λh5=>⟨⟨ak,s,[],dq,false,c⟩, ?_,aU,ao [0,1,2]⟩)) (λh4=>⟨⟨ak,s,[],dq,false,c⟩, ?_,aU,ao [0,1,2]⟩)⟩) (λT=>⟨⟨ak,s,[],dq,false,c⟩, ?_,aU,ao [0,1,2]⟩)⟩) (λL=>⟨⟨ak,s,[],dq,false,c⟩, ?_,aU,ao [0,1,2]⟩)⟩);have S:rJ x.L s.az ak (I x.L x.ae s.az).aB=true:=by unfold rJ;simp[*]
   grind;simp[*]
   all_goals have n1:(ak==(31:Int))=false:=J
   have S:rJ x.L s.az ak (I x.L x.ae s.az).aB= !K x.L s.az 0 rc:=by{unfold rJ;rw[n1,show(ak==(28:Int))=true from L,bp (show s.az.i<x.L.length from Int.ofNat_lt.1 T),show(!(I x.L x.ae s.az).aB)=true from h4,show(!K x.L s.az 0 dt)=true from h5];rfl};grind;rfl;have S:rJ x.L s.az ak (I x.L x.ae s.az).aB=false:=by{unfold rJ;rw[n1,show(!K x.L s.az 0 dt)=false from h5];simp};grind;have S:rJ x.L s.az ak (I x.L x.ae s.az).aB=false:=by{unfold rJ;rw[n1,show(!(I x.L x.ae s.az).aB)=false from h4];simp};grind;have S:rJ x.L s.az ak (I x.L x.ae s.az).aB=false:=by{unfold rJ;grind};grind;have S:rJ x.L s.az ak (I x.L x.ae s.az).aB=false:=by{unfold rJ;simp[*]};grind
  clear U hx;rintro⟨ak,t0,x4,r0,b0,c⟩ js U;dsimp only at U⊢;rw[B,yq]at U;refine ar (λh=>?_) (λh=>?_);have h:b0=true:=h;rw[h,aW]at U;refine ca g1 (CO U ho) (λk t1 U g2 x3 x6 x1 x5 x0 x7=>?_) (cB:=ai) (ct:=ai) (cP:=ai);dsimp only[aj.sl,ap.az,ap.add]at x3 x6 x1 x5 x0 x7;intro lb;exact⟨Y,⟨ak,t1,[k],lT lb [k],false,c⟩,⟨g2,ki lb [k],U.trans B.symm⟩,aU,ao [0,1,2,18020]⟩;have h:b0=false:=h;rw[h,y,iX]at U;exact⟨⟨ak,s.az,[],dq,false,c⟩,⟨g1.cast (dQ _).symm,BS,U.trans B.symm⟩,aU,ao [0,1,2,999]⟩
 clear U;rintro⟨ak,t,ks,r',b0,c⟩ js ⟨w,R,U⟩;dsimp only at w R U⊢;rw[B,O0]at U;refine ba Wx ⟨x,t⟩ ⟨N,w.i⟩ (O.ls.sub (bB 1)) ⟨λu q=>?_,λp q=>⟨.inr (p,60),⟨_,B.trans (U.symm.trans (WK q))⟩,rfl,ao [1]⟩⟩;rw[WJ q,jy]at U;obtain⟨g2,-⟩:=PG.Av hK w q
 repeat (refine⟨Y, ?_⟩)
 refine bG fy ⟨x,u,⟨ak,.empty,0,ks,E.au⟩,r'⟩ ⟨by have:=g2.aq N;grind,R⟩ λ_ _=>?_;exact eD (B.trans U.symm)
def amv:aG 76 (bh (λ(d:a8)=>aj.simple d)):=oI func76 amu amt amw
section
section
variable{P:Program}
structure Pq where
 ts:List ah
 n:Nat
def KR:j5 where
 X:=Pq
 args x:=[.agg ⟨x.ts.map string⟩,.int .i64 x.n]
 cond x:=x.ts.length=2/\x.n<2
 val x:=.string (x.ts.getD x.n .empty)
theorem X9{o:Oper}{t e:TypeId}{x i:Operand}{g:TypeInfo}(j:o.op= .index t x i)(v:P.underlying t=some (.array 2 e))(r:P.info? e=some g)(k:P.cellsOf e=1)(y:P.underlying e=some .string):cN P o KR:=by
 refine⟨λq w ρ l m=>?_⟩;obtain⟨b,n⟩:=q;obtain⟨s,h⟩:=m;dsimp only at s h;obtain⟨c,B⟩:∃c,c=b.map string:=⟨_,rfl⟩;simp only[j,Op.operands,KR]at l;have a:ρ x= .agg ⟨c⟩/\ρ i= .int .i64 n:=by grind
 have C:(0:Int)<=n/\(n:Int)<(2:Nat):=O;have d:(isAgg e).run P w= .ok false w:=by simp[isAgg,run_underlying y]
 obtain⟨u,z⟩:∃u,b[n]?=some u:=⟨_,da O⟩;have A:c[n]?=some (.string u):=by grind
 have f:(n:Int)<2:=O;have p:b.getD n .empty=u:=by grind
 show(execOp ρ o).run P w= .ok (.value (.string (b.getD n .empty))) w;rw[p];simp[execOp,j,a.1,a.2,Instr.index,asIntOf,run_underlying v,f,h,run_sizeOf w r,k,part,d,A]
end
def Lf(L:List a8)(ae:Int)(tv:Nat->ah)(n:Nat)(au:Int)(ks:aM):j (aM):=do
 cu L ae rp
 let b <-one (P L ae tv bo n .loop)
 cj ⟨26,.empty,0,ks++[b],au⟩
def Le(L:List a8)(ae:Int)(tv:Nat->ah)(n:Nat)(au:Int)(ks:aM):j (aM):=do
 cu L ae dt
 let h <-jM L 0 rp
 let d <-bif h then kF L ae else one (P L ae tv bo n .bf)
 Lf L ae tv n au (ks++[d])
def D9(L:List a8)(ae:Int)(tv:Nat->ah)(n:Nat)(au:Int)(ks:aM):j (aM):=do
 cu L ae dt
 let h <-jM L 0 dt
 let c <-bif h then kF L ae else one (P L ae tv bo n .bf)
 Le L ae tv n au (ks++[c])
def Y5(L:List a8)(ae:Int)(tv:Nat->ah)(n:Nat)(au:Int):Nat->aM->j (aM)
 |0,a=>D9 L ae tv n au a
 |1,a=>Le L ae tv n au a
 |_,a=>Lf L ae tv n au a
def Y4(L:List a8)(ae:Int)(tv:Nat->ah)(n:Nat)(au:Int)(v:Nat)(s:ap):j (aM):=do
 let a <-bif v==1 then one (P L ae tv bo n .vars) else bif K L s 0 dt then kF L ae else do
  let x <-gk L ae
  let e <-one (P L ae tv bo n .bf)
  dX ⟨20,.empty,0,[e],x.au⟩
 D9 L ae tv n au [a]
def RZ(L:List a8)(ae:Int)(tv:Nat->ah)(n:Nat)(au:Int)(v:Nat)(s:ap):j (aM):=
 bif nameV L s v&&K L s (v+1) wi then do
  jU {s with i:=s.i+v+2}
  let e <-one (P L ae tv bo n .bf)
  cu L ae rp
  let b <-one (P L ae tv bo n .loop)
  cj ⟨27,((L[s.i+v]?).map (·.aJ)).getD .empty,bif v==1 then iI else 0,[e,b],au⟩
 else Y4 L ae tv n au v s
structure jY where
 v:Nat
 t:ap
 ks:aM
 r:Row
 c:Nat
def jY.ok(d:jY)(x:bY)(s:ap)(os:aM):Prop:=PG x d.t (os++d.ks)/\bl 3 1 (a7 d.ks) d.r/\s.i+1<=d.t.i/\d.t.loops=s.loops/\d.t.d=s.d
abbrev Fj:aN:=[C dt,C rp]
abbrev E_(d:jY):=W (some ⟨d.c,0,none⟩)
def alg(x:bc Int)(F:ag):Nat->Option Inv:=fun
 |1=>some {X:=jY,P:=λd=>d.ok x.x x.s x.os/\d.v<=2/\Y5 x.x.L x.x.ae x.K.tv x.n x.t d.v d.ks d.t=bm x.K x.x (x.n+1) (.dv x.t) x.s,mu:=λd=>2-d.v,lv:=λd=>[(0,W (cg x)),(8,E_ d),(102,agg ⟨Fj⟩),(103,Z d.v)],st:=λd=>[G x.x d.t,F,(m_ d.c 26 .empty 0 d.r x.t),d.r.A]}
 |_=>none
def alf(x:bc Int)(F:ag):Nat->Option Inv:=fun
 |5=>some {X:=jY,P:=λd=>d.v<=1/\(d.v=1->x.s.az.i<x.x.L.length)/\PG x.x x.s.az x.os/\RZ x.x.L x.x.ae x.K.tv x.n x.t d.v x.s.az x.s.az=bm x.K x.x (x.n+1) (.dv x.t) x.s,mu:=λ_=>0,lv:=λd=>[(0,W (cg x)),(1,Z x.t),(5,Z d.v)],st:=λ_=>[G x.x x.s.az,F]}
 |20=>some {X:=jY,P:=λd=>d.ok x.x x.s x.os/\D9 x.x.L x.x.ae x.K.tv x.n x.t d.ks d.t=bm x.K x.x (x.n+1) (.dv x.t) x.s,mu:=λ_=>0,lv:=λd=>[(0,W (cg x)),(8,E_ d)],st:=λd=>[G x.x d.t,F,(m_ d.c 26 .empty 0 d.r x.t),d.r.A]}
 |_=>none
def gX.look{x:bY}{F:ag}(h:gX x F){b o i j:Nat}{d:a8}{u:aD}(e:x.la=some ⟨b,o,none⟩)(c:x.L[i]?=some d)(f:(lS d)[j]?=some u):aH F ⟨b,o+i*5+j,none⟩ u:=by
 have a:=h.FZ;rw[e]at a;have:=a.look (Sl x.L i j d u c f);grind
def aka{v:Nat}(h:v<=1):f64.nearest (v:Int)=bif v==1 then iI else 0:=by
 have:v=0\/v=1:=O;rcases this with rfl|rfl <;> rfl
def alh(x:bc Int)(a:ag):List (Nat×Nat×OH):=[(1,1,q iU),(3,1,aI gU),(5,2,aI zm),(5,7,aI gU),(6,3,.q [.ex 0 .slice]),(6,7,cD),(6,10,.qo (dy 5)),(6,12,.q [.ex 1 .str]),(6,17,.n 7170),(6,18,.w (eT 7170)),(7,3,cD),(7,9,dU fQ),(8,1,q (cv x.n 10)),(9,1,q iU),(10,2,q (cv x.n 79)),(10,3,.n 11030),(10,5,.w [.aS 7170]),(11,1,.q (eT 7170)),(11,2,.c fO [0,11030] [0]),
 (12,2,.n 13020),(12,3,.w (eT 13020)),(17,1,z 13020),(17,3,q (cv x.n 75)),(17,4,.n 18040),(17,5,.o (cS 3 1 8) [999] [998]),(17,7,.w [.aS 13020]),(18,1,aI gU),(19,1,z 13020),(19,3,q yX),(19,4,.n 20040),(19,5,.o (cS 3 1 8) [999] [998]),(19,7,.w [.aS 13020]),
 (13,1,aI jf),(14,1,q (cv x.n 10)),(15,1,z 13020),(15,4,.n 16040),(15,7,.c fO [0,16040] [0]),(15,8,.n 16080),(15,9,.o (cS 3 1 8) [999] [998]),(15,11,.w [.aS 13020]),
 (22,0,.qo KR),(23,1,q iU),(24,2,aI gU),(25,1,z 2),(25,3,q yX),(25,4,.n 26040),(25,5,.o (cS 3 1 8) [3] [3]),(25,7,.w [.aS 2]),(26,1,z 2),(26,3,q (cv x.n 10)),(26,4,.n 27040),(26,5,.o (cS 3 1 8) [3] [3]),(26,7,.w [.aS 2]),
 (28,1,q iU),(29,1,z 2),(29,3,q (cv x.n 79)),(29,4,.n 30040),(29,5,.o (cS 3 1 8) [3] [3]),(29,7,.w [.aS 2]),(30,1,.q (eT 2)),(30,2,.c fO [0,3] [0])]
def TT(z:jY)(a:bc Int):=z.v<=1/\(z.v=1->a.s.i+1<a.x.L.length)/\PG a.x a.s.az a.os/\RZ a.x.L a.x.ae a.K.tv a.n a.t z.v a.s.az a.s.az=bm a.K a.x (a.n+1) (aj.dv a.t) a.s
def QL(a:bc Int)(e1:ag)(c:aD)(b:St):=∃(z:jY),TT z a/\(W (cg a)=W (cg a)/\Z a.t=Z a.t/\c=Z ↑z.v/\True)/\ay b [(0,G a.x a.s.az),(1,e1)]
abbrev Cd(o:ah)(B:jY)(x:bc Int):aN:=[Z 27,C o,float f64 (f64.nearest (B.v:Int)),Q none 0 0,Z x.t]
abbrev CL(x:bc Int):aN:=[Z 26,C ⟨#[]⟩,float f64 0,Q none 0 0,Z x.t]
abbrev EX(x:bc Int)(F:ag)(p:Nat):=[(0,G x.x x.s.az),(1,F),(13020,D p (CL x) 35)]
def UW(o:jY)(x:bc Int):=o.ok x.x x.s x.os/\D9 x.x.L x.x.ae x.K.tv x.n x.t o.ks o.t=bm x.K x.x (x.n+1) (aj.dv x.t) x.s
abbrev Co(o:jY)(x:bc Int):aN:=[Z 26,C ByteArray.empty,float f64 0,Q o.r.a o.r.n o.r.aq,Z x.t]
abbrev Cj(x:bc Int)(o:jY)(F:ag):=[(0,G x.x o.t),(1,F),(2,D o.c (Co o x) 35),(3,o.r.A)]
def Kl(a:bc Int)(e1:ag)(c:aD)(b:St):=∃(z:jY),UW z a/\(W (cg a)=W (cg a)/\c=W (some ⟨z.c,0,none⟩)/\True)/\ay b (Cj a z e1)
abbrev NA(b:Row)(x:bc Int):aN:=[Z 26,C ⟨#[]⟩,float f64 0,Q b.a b.n b.aq,Z x.t]
def GD:=dP 46 yX (λa=>a.x.L.length<=1048576/\a.s.a.length<=4194304) (λa b=>gX a.x b) (λ_ _=>True)
abbrev IM(f:lI):aN:=[Z ↑f.s.a.length]
def MM(m:jY)(x:bc Int):=m.ok x.x x.s x.os/\m.v<=2/\Y5 x.x.L x.x.ae x.K.tv x.n x.t m.v m.ks m.t=bm x.K x.x (x.n+1) (aj.dv x.t) x.s
def XE(a:bc Int)(e1:ag)(c d e:aD)(b:St):=∃(z:jY),MM z a/\(W (cg a)=W (cg a)/\c=W (some ⟨z.c,0,none⟩)/\d=agg ⟨Fj⟩/\e=Z ↑z.v/\True)/\ay b (Cj a z e1)
def XF(c:Oper)(a:aN)(b:Pq->Prop):=cN prog c KR/\∃(z:Pq),a=[agg ⟨List.map C z.ts⟩,Z ↑z.n]/\(z.ts.length=2/\z.n<2)/\b z
abbrev Ip(j:jo)(F:ag)(m:jY)(x:bc Int):=[(0,G j.x j.s.az),(1,F),(2,D m.c (Co m x) 35),(3,m.r.A)]
abbrev On(m:jY)(d:Nat):aN:=[Q m.r.a m.r.n m.r.aq,Q (bq d) 1 1]
def QM(a:bc Int)(e1:ag)(c d:aD)(b:St)(mm:Nat):=∃(z:jY),MM z a/\(W (cg a)=W (cg a)/\c=W (some ⟨z.c,0,none⟩)/\agg ⟨Fj⟩=agg ⟨Fj⟩/\d=Z ↑z.v/\True)/\ay b (Cj a z e1)/\2-z.v<mm
abbrev H_(b:Row)(x:bc Int):aN:=[Z 26,C ByteArray.empty,float f64 0,Q b.a b.n b.aq,Z x.t]
abbrev Iu(F:ag)(m:jY)(x:bc Int):=[(0,aY),(1,F),(2,D m.c (Co m x) 35),(3,m.r.A)]
def q2(B:jY)(x:bc Int)(F:ag):=∀(p:Nat),bQ p (Br ((B.v:Int)==1) (true=true/\V p 3/\cd x.n 75 (kw x) [G x.x x.s.az] (g (EX x F p) [0]) (λf e=>∀(d:Nat),gu (aL f80 17 5) (zQ d) [aY] (g [(0,G f.x e.snd),(1,F),(13020,D p (CL x) 35),(18040,D d (bI e) 3)] [999]) (λc b=>V p 3/\Kl x F (bL p) [(0,G f.x e.snd),(1,F),(998,b.A),(999,aY),(13020,D p (NA b x) 35),(18040,D d (bI e) 3)])) (λf c=>∀(b:Tm),l (bh λ(a:Int)=>aj.dv a) x F (q8 c) [(0,aY),(1,F),(13020,D p (CL x) 35)])) (gP [W (cg x),Z 0,C ⟨#[59]⟩] (g (EX x F p) []) (λm n=>Br (iS m.p.L (m.p.i+m.a) m.t) (true=true/\V p 3/\GD (kw x) [G x.x x.s.az] (g (EX x F p) [0]) (λf e=>∀(d:Nat),gu (aL f80 19 5) (zQ d) [aY] (g [(0,G f.x (f.s.add ⟨(36:Int),ByteArray.empty,0,[],(I f.x.L f.x.ae f.s).au⟩)),(1,F),(13020,D p (CL x) 35),(20040,D d (IM f) 3)] [999]) (λc b=>V p 3/\Kl x F (bL p) [(0,G f.x (f.s.add ⟨(36:Int),ByteArray.empty,0,[],(I f.x.L f.x.ae f.s).au⟩)),(1,F),(998,b.A),(999,aY),(13020,D p (NA b x) 35),(20040,D d (IM f) 3)]))) (fq (kw x) (g (EX x F p) []) (λk j=>cd x.n 10 (kw x) [G x.x x.s.az] (g (EX x F p) [0]) (λi h=>true=true/\V p 3/\∀(q:Nat),c7 [W (cg x),agg ⟨[Z 20,C ⟨#[]⟩,float f64 0,Q (bq q) 1 1,Z (b_ k.L k.ae k.i).au]⟩] [G i.x h.snd,D q (bI h) 3] (λf e=>∀(d:Nat),gu (aL f80 15 9) (zQ d) [aY] (g [(0,G f.x (f.s.add f.n)),(1,F),(13020,D p (CL x) 35),(16040,aY),(16080,D d (qk f) 3)] [999]) (λc b=>V p 3/\Kl x F (bL p) [(0,G f.x (f.s.add f.n)),(1,F),(998,b.A),(999,aY),(13020,D p (NA b x) 35),(16040,aY),(16080,D d (qk f) 3)]))) (λi b=>l (bh λ(a:Int)=>aj.dv a) x F (q8 b) [(0,aY),(1,F),(13020,D p (CL x) 35)])))))/\aQ λ(o:jY)_=>UW o x->XE x F (E_ o) (agg ⟨[C ⟨#[59]⟩,C ⟨#[41]⟩]⟩) (Z 0) (Cj x o F)/\aQ λ(m:jY)_=>MM m x->aK ((m.v:Int)<2) (XF ⟨some 105,Op.index 129 (Operand.tmp 102) (Operand.tmp 103),9,"esparse.go:375",⟨[]⟩,none⟩ [agg ⟨Fj⟩,Z ↑m.v] (λk=>gE [W (cg x),C ⟨#[59]⟩] [G x.x m.t] (g (Cj x m F) [0]) (λj i=>gP [W (cg x),Z 0,C (k.ts.getD k.n ByteArray.empty)] (g (Ip j F m x) []) (λh q=>Br (iS h.p.L (h.p.i+h.a) h.t) (true=true/\V m.c 3/\GD (kw x) [G j.x j.s.az] (g (Ip j F m x) [0]) (λf e=>∀(d:Nat),gu (aL f80 25 5) (On m d) [m.r.A] (g [(0,G f.x (f.s.add ⟨(36:Int),ByteArray.empty,0,[],(I f.x.L f.x.ae f.s).au⟩)),(1,F),(2,D m.c (Co m x) 35),(3,m.r.A),(26040,D d (IM f) 3)] [3]) (λc b=>V m.c 3/\aA ((m.v:Int)+1)/\QM x F (E_ m) (Z ((m.v:Int)+1)) [(0,G f.x (f.s.add ⟨(36:Int),ByteArray.empty,0,[],(I f.x.L f.x.ae f.s).au⟩)),(1,F),(2,D m.c (H_ b x) 35),(3,b.A),(26040,D d (IM f) 3)] (2-m.v)))) (true=true/\V m.c 3/\cd x.n 10 (kw x) [G j.x j.s.az] (g (Ip j F m x) [0]) (λf e=>∀(d:Nat),gu (aL f80 26 5) (On m d) [m.r.A] (g [(0,G f.x e.snd),(1,F),(2,D m.c (Co m x) 35),(3,m.r.A),(27040,D d (bI e) 3)] [3]) (λc b=>V m.c 3/\aA ((m.v:Int)+1)/\QM x F (E_ m) (Z ((m.v:Int)+1)) [(0,G f.x e.snd),(1,F),(2,D m.c (H_ b x) 35),(3,b.A),(27040,D d (bI e) 3)] (2-m.v))) (λf c=>∀(b:Tm),l (bh λ(a:Int)=>aj.dv a) x F (q8 c) (Iu F m x))))) (λj b=>l (bh λ(a:Int)=>aj.dv a) x F (gI j) (Iu F m x)))) (gE (Cz x) [G x.x m.t] (g (Cj x m F) [0]) (λj i=>true=true/\V m.c 3/\cd x.n 79 (kw x) [G j.x j.s.az] (g (Ip j F m x) [0]) (λh q=>∀(f:Nat),gu (aL f80 29 5) (On m f) [m.r.A] (g [(0,G h.x q.snd),(1,F),(2,D m.c (Co m x) 35),(3,m.r.A),(30040,D f (bI q) 3)] [3]) (λe d=>V m.c 3/\bQ m.c (c7 [W (cg x),agg ⟨H_ d x⟩] [G h.x q.snd,d.A] (λc b=>l (bh λ(a:Int)=>aj.dv a) x F (fG c) [(0,G c.x (c.s.add c.n)),(1,F),(2,D m.c (H_ d x) 35),(3,aY),(30040,D f (bI q) 3)])))) (λh c=>∀(b:Tm),l (bh λ(a:Int)=>aj.dv a) x F (q8 c) (Iu F m x))) (λj b=>l (bh λ(a:Int)=>aj.dv a) x F (gI j) (Iu F m x))))
def alj(x:bc Int)(F:ag)(hc:aF.cond (bh (λ(p:Int)=>aj.dv p)) x)(hr:aF.aE (bh (λ(p:Int)=>aj.dv p)) x F):gE [W (cg x),C ⟨#[40]⟩] [G x.x x.s] (g [(0,G x.x x.s),(1,F)] [0]) (λE H=>gP [W (cg x),Z 0,C ⟨#[118,97,114]⟩] (g (n0 E F) []) (λc b=>Br (iS c.p.L (c.p.i+c.a) c.t) (QL x F (Z 1) (n0 E F)) (QL x F (Z 0) (n0 E F)))/\aQ λ(B:jY)_=>TT B x->Ki [W (cg x),Z ↑B.v] (g [(0,G x.x x.s.az),(1,F)] []) (λz J=>Br (Es z.p.L (z.p.i+z.a)) (aA ((B.v:Int)+1)/\gP [W (cg x),Z ((B.v:Int)+1),C ⟨#[105,110]⟩] (g [(0,G x.x x.s.az),(1,F)] []) (λw u=>Br (iS w.p.L (w.p.i+w.a) w.t) (true=true/\dN (G x.x x.s.az) ⟨x.x.b,0,none⟩ (λt s r=>T1 (G x.x x.s.az) ⟨x.x.b,1,none⟩ (λq=>aA (q+B.v)/\fV (aL f80 6 10) [Q t s r,Z (q+B.v)] (λp=>T2 F ⟨p.b,p.o+p.n.toNat*5+1,none⟩ (λo=>∀(n:Nat),bQ n (T1 (G x.x x.s.az) ⟨x.x.b,1,none⟩ (λm=>aA ((B.v:Int)+2)/\aA (m+((B.v:Int)+2))/\dM (aL f80 7 9) [W (some ⟨x.x.b,1,none⟩),Z (m+((B.v:Int)+2))] [G x.x x.s.az] (λL k=>cd x.n 10 (kw x) [G L.x L.t] (g [(0,G L.x L.t),(1,F),(7170,D n (Cd o B x) 35)] [0]) (λj i=>gE (Cz x) [G j.x i.snd] (g [(0,G j.x i.snd),(1,F),(7170,D n (Cd o B x) 35)] [0]) (λh M=>cd x.n 79 (kw x) [G h.x h.s.az] (g [(0,G h.x h.s.az),(1,F),(7170,D n (Cd o B x) 35)] [0]) (λf e=>∀(d:Nat),V n 3/\bQ n (c7 [W (cg x),agg ⟨[Z 27,C o,float f64 (f64.nearest (B.v:Int)),Q (bq d) 2 2,Z x.t]⟩] [G f.x e.snd,D d [Z i.fst,Z e.fst] 3] (λc b=>l (bh λ(a:Int)=>aj.dv a) x F (fG c) [(0,G c.x (c.s.add c.n)),(1,F),(7170,D n [Z 27,C o,float f64 (f64.nearest (B.v:Int)),Q (bq d) 2 2,Z x.t] 35),(11030,aY)]))) (λf b=>l (bh λ(a:Int)=>aj.dv a) x F (q8 b) [(0,aY),(1,F),(7170,D n (Cd o B x) 35)])) (λh b=>l (bh λ(a:Int)=>aj.dv a) x F (gI h) [(0,aY),(1,F),(7170,D n (Cd o B x) 35)])) (λj b=>l (bh λ(a:Int)=>aj.dv a) x F (q8 b) [(0,aY),(1,F),(7170,D n (Cd o B x) 35)]))))))))) (q2 B x F))) (q2 B x F))) (λE b=>l (bh λ(a:Int)=>aj.dv a) x F (gI E) (iK F)):=by
 delta jR gE cg rC gP n0 TT QL Ki dN T1 fV T2 mK mL dM cd kw Cd Cz lB c7 bq kV fG q8 gI CL EX mM jx rz l6 gu zQ bI UW Co Cj Kl bL NA GD IM fq qk MM Fj XE E_ XF Ip On QM H_ Iu q2 iK g G V aA bQ bz dK dP lh jc Z C W Q ce D aY aK al aQ;obtain⟨N,x,s,os,n,tp⟩:=x;obtain⟨ih,hK,hG,hp,z0,y9,ho⟩:=hc;replace hr:dj N x F:=hr;replace ho:bm N x (n+1) (.dv tp) s≠.out:=ho;dsimp only at ih hK hG hp z0 y9⊢;obtain⟨r,e0⟩:∃r,bm N x (n+1) (.dv tp) s=r:=⟨_,rfl⟩;rw[e0]at ho;have U:=e0;unfold bm at U;rw[P]at U;have hl:=hK.len;refine ma hG U (λU g1=>?_);rw[nt]at U;have c0:x.L.length<=1048576/\s.az.i<=1048576/\0<=1048576:=⟨hl,gi g1.i hl,b7 _⟩;have z7:s.a.length<=2*s.i:=hG.nd;have z5:=hG.l;have z6:=hG.b;refine⟨?_, ?_⟩;refine ba kO ⟨x.p s.az,0,oi⟩ c0 (hr.ls.dc 0 1 X X rfl rfl) λ_ _=>ar (λh=>⟨⟨1,s.az,[],dq,0⟩,⟨bK _,λ_=>p9 h,g1, ?_⟩,aU,ao [0,1]⟩) (λh=>⟨⟨0,s.az,[],dq,0⟩,⟨b7 _,(λe=>nomatch e),g1, ?_⟩,aU,ao [0,1]⟩);rw[show K x.L s.az 0 oi=true from h]at U;exact U.trans e0.symm;rw[show K x.L s.az 0 oi=false from h]at U;exact U.trans e0.symm;clear U;rintro⟨v,t0,w3,r0,cc⟩ js ⟨hv,x8,-,U⟩;replace hv:v<=1:=hv;replace x8:v=1->s.az.i<x.L.length:=x8;dsimp only at U⊢;rw[e0,RZ]at U;have z9:=g1.i;refine lH (A:=(nameV x.L s.az v&&K x.L s.az (v+1) wi)=false) (λkx=>ba ZO ⟨x.p s.az,v⟩ ⟨hl,gi g1.i hl,by grind⟩ (hr.ls.dc 0 1 X X rfl rfl) λ_ _=>ar (λh1=>⟨aC,kO,rfl,⟨x.p s.az,v+1,wi⟩,rfl,rfl,⟨hl,gi g1.i hl,by grind⟩,hr.ls.dc 0 1 X X rfl rfl,λ_ _=>ar (λS=>?_) (λS=>kx ?_)⟩) (λh1=>kx ?_)) (λhx=>?_);have hx:(nameV x.L s.az v&&K x.L s.az (v+1) wi)=true:=by rw[show nameV x.L s.az v=true from h1,show K x.L s.az (v+1) wi=true from S] <;> rfl
 have w0:=ZP hx;rw[hx,aW,C1]at U;obtain⟨d,hd⟩:∃d,x.L[s.az.i+v]?=some d:=⟨_,da O⟩;obtain⟨lb,lo,y3⟩:=hr.ls.af.some O;have en:((s.az.i:Int)+(v:Int)).toNat=s.az.i+v:=O;rw[hd]at U;refine⟨rfl,_,_,_,ee λ_=>rfl,_,ee λ_=>rfl,aC,bZ 5 rfl rfl rfl rfl,⟨lb,lo,x.L.length,x.lc,(s.az.i:Int)+(v:Int)⟩,by rw[y3],⟨by grind,by grind⟩,d.aJ,by dsimp only;rw[en];exact hr.ls.look (j:=1) y3 hd rfl,λc=>?_⟩
 repeat (refine⟨Y, ?_⟩)
 have T:PG x ⟨s.az.i+v+2,s.az.a,s.az.h,s.az.loops,s.az.d⟩ os:=by{obtain⟨a1,a2,a3,a4,a5,a6⟩:=g1;exact⟨O,a2.same rfl,by grind,by grind,by grind,by grind⟩};refine⟨_,ee λ_=>rfl,aC,aC,gM rfl rfl rfl,rfl,⟨x,s.az,⟨s.az.i+v+2,s.az.a,s.az.h,s.az.loops,s.az.d⟩,1,_⟩,rfl,rfl,⟨λ_=>rfl,rfl,by simp[*],rfl,rfl⟩,ai,λ_ _=>?_⟩;refine ca T (fH U ho) (λe t1 U g3 x2 x4 x1 x3 x0 x5=>?_) (cB:=ai) (ct:=ai) (cP:=ai);dsimp only[aj.sl,ap.az,ap.add]at x2 x4 x1 x3 x0 x5;refine ma g3 U (λU g4=>?_);refine ca g4 (fH U ho) (λb t2 U g5 z1 z3 y7 z2 y6 z4=>?_) (cB:=ai) (ct:=ai) (cP:=(show t1.loops<((t1.i+1:Nat):Int)/\t1.d<((t1.i+1:Nat):Int) by omega));dsimp only[aj.sl,ap.az,ap.add]at z1 z3 y7 z2 y6 z4;rw[jy]at U;intro y5
 repeat (refine⟨Y, ?_⟩)
 rw[aka hv];refine bG fy ⟨x,t2,⟨27,d.aJ,bif v==1 then iI else 0,[e,b],tp⟩,lT y5 [e,b]⟩ ⟨by have:=g5.aq hl;grind,ki y5 [e,b]⟩ λ_ _=>?_;exact eD (e0.trans U.symm);rw[show K x.L s.az (v+1) wi=false from S,nO];rw[show nameV x.L s.az v=false from h1,lj];rw[hx,y,Y4]at U;intro c
 repeat (refine⟨Y, ?_⟩)
 refine⟨?_, ?_⟩;refine ar (λh=>?_) (λh=>?_);have h:((v:Int)==1)=true:=h;have ev:v=1:=by{grind};rw[fY 1 h,aW]at U;refine⟨rfl,Y, ?_⟩;refine ca g1 (fH U ho) (λa t1 U T x9 y1 x7 y0 x6 y2=>?_) (cB:=ai) (ct:=x8 ev) (cP:=ai);dsimp only[aj.sl,ap.az,ap.add]at x9 y1 x7 y0 x6 y2;intro lb;refine mn (ks:=[]) (k:=a) 18040 BS (by simp[*]) (λr2 S=>?_);exact⟨Y,⟨v,t1,[a],r2,c⟩,⟨⟨T,S,O,O,O⟩,U.trans e0.symm⟩,aU,ao [0,1,13020,998]⟩;have h:((v:Int)==1)=false:=h;rw[fY 1 h,y]at U;refine ba kO ⟨x.p s.az,0,dt⟩ ⟨hl,by have:=g1.i;show s.az.i<=1048576;omega,by simp[*]⟩ (hr.ls.dc 0 1 X X rfl rfl) λ_ _=>?_;refine ar (λS=>?_) (λS=>?_);rw[show K x.L s.az 0 dt=true from S,aW,O3]at U;refine⟨rfl,Y,K5,rfl,⟨x,s.az⟩,rfl,rfl,⟨hl,by have:=g1.aq hl;grind⟩,hr.ls.sub (bB 1),λ_ _ lb=>?_⟩;refine mn (ks:=[]) (k:=(s.a.length:Int)) 20040 BS (by simp[*]) (λr2 S=>?_);have T:=PG.node (n:=⟨36,.empty,0,[],(I x.L x.ae s.az).au⟩) (g1.cast (dQ _).symm) (PG.hp hK s.az) (by show s.a.length+1<=2*(s.i+1);omega);exact⟨Y,⟨v,_,[(s.a.length:Int)],r2,c⟩,⟨⟨T,S,bK _,rfl,rfl⟩,U.trans e0.symm⟩,aU,ao [0,1,13020,998]⟩;rw[show K x.L s.az 0 dt=false from S,y,eZ,o7,eZ]at U;refine ba lR (x.p s.az) hl (hr.ls.dc 0 1 X X rfl rfl) λ_ _=>?_;refine ca g1 (fH U ho) (λe t1 U T x9 y1 x7 y0 x6 y2=>?_) (cB:=ai) (ct:=ai) (cP:=ai);dsimp only[aj.sl,ap.az,ap.add]at x9 y1 x7 y0 x6 y2;rw[Az]at U;have z8:=T.nd;have g3:=PG.node (n:=⟨20,.empty,0,[e],(I x.L x.ae s.az).au⟩) T (PG.hp hK s.az) O;refine⟨rfl,Y,λy4=>?_⟩;refine bG fy ⟨x,t1,⟨20,.empty,0,[e],(I x.L x.ae s.az).au⟩,lT y4 [e]⟩ ⟨by have:=T.aq hl;grind,ki y4 [e]⟩ λ_ _=>?_;intro lb;refine mn (ks:=[]) (k:=(t1.a.length:Int)) 16080 BS (by simp[*]) (λr2 S=>?_);exact⟨Y,⟨v,_,[(t1.a.length:Int)],r2,c⟩,⟨⟨g3,S,O,O,O⟩,U.trans e0.symm⟩,aU,ao [0,1,13020,998]⟩;clear U;rintro⟨v',t,ks,r',c⟩ js ⟨⟨M,R,hi,f1,f2⟩,U⟩;dsimp only at M R hi f1 f2 U⊢;refine⟨⟨⟨0,t,ks,r',c⟩,⟨⟨M,R,hi,f1,f2⟩,b7 _,U⟩,aU,ao [0,1,2,3]⟩, ?_⟩;clear U M R hi f1 f2;rintro⟨j,t,ks,r',c⟩ js ⟨⟨M,R,hi,f1,f2⟩,hj,U⟩;dsimp only at M R hi f1 f2 hj U⊢;rw[e0]at U;have w2:=M.nd;have w1:=qH M hl;refine bd (λh=>?_) (λh=>?_);have y8:j=0\/j=1:=by omega
 clear hj h;rcases y8 with rfl|rfl;replace U:D9 x.L x.ae N.tv n tp ks t=r:=U;rw[D9]at U;refine⟨X9 rfl rfl rfl rfl rfl,⟨[dt,rp],0⟩,rfl,⟨rfl,by decide⟩, ?_⟩;refine ma M U (λU T=>?_);rw[Jb]at U;refine ba kO ⟨x.p t.az,0,dt⟩ ⟨hl,by have:=T.i;show t.az.i<=1048576;omega,by simp[*]⟩ (hr.ls.dc 0 1 X X rfl rfl) λ_ _=>?_;refine ar (λS=>?_) (λS=>?_);rw[show K x.L t.az 0 dt=true from S,aW,O3]at U;refine⟨rfl,Y,K5,rfl,⟨x,t.az⟩,rfl,rfl,⟨hl,by have:=T.aq hl;grind⟩,hr.ls.sub (bB 1),λ_ _ lb=>?_⟩;refine mn (ks:=ks) (k:=(t.a.length:Int)) 26040 R O (λr2 S=>?_);have g3:=PG.node (n:=⟨36,.empty,0,[],(I x.L x.ae t.az).au⟩) (T.cast (dQ _).symm) (PG.hp hK t.az) (by show t.a.length+1<=2*(t.i+1);omega);exact⟨Y,aC,⟨1,_,ks++[(t.a.length:Int)],r2,c⟩,⟨⟨g3.cast (jJ _ _ _),S,Nat.le_succ_of_le hi,f1,f2⟩,by simp[*],U.trans e0.symm⟩,aU,ao [0,1,2,3],by simp[*]⟩;rw[show K x.L t.az 0 dt=false from S,y]at U;refine⟨rfl,Y, ?_⟩;refine ca T (fH U ho) (λe t1 U g3 x2 x4 x1 x3 x0 x5=>?_) (cB:=ai) (ct:=ai) (cP:=ai);dsimp only[aj.sl,ap.az,ap.add]at x2 x4 x1 x3 x0 x5;intro lb;refine mn (ks:=ks) (k:=e) 27040 R O (λr2 S=>?_);exact⟨Y,aC,⟨1,t1,ks++[e],r2,c⟩,⟨⟨g3.cast (jJ _ _ _),S,by grind,by simp[*],by simp[*]⟩,by simp[*],U.trans e0.symm⟩,aU,ao [0,1,2,3],by simp[*]⟩;replace U:Le x.L x.ae N.tv n tp ks t=r:=U;rw[Le]at U;refine⟨X9 rfl rfl rfl rfl rfl,⟨[dt,rp],1⟩,rfl,⟨rfl,by decide⟩, ?_⟩;refine ma M U (λU T=>?_);rw[Jb]at U;refine ba kO ⟨x.p t.az,0,rp⟩ ⟨hl,by have:=T.i;show t.az.i<=1048576;omega,by simp[*]⟩ (hr.ls.dc 0 1 X X rfl rfl) λ_ _=>?_;refine ar (λS=>?_) (λS=>?_);rw[show K x.L t.az 0 rp=true from S,aW,O3]at U;refine⟨rfl,Y,K5,rfl,⟨x,t.az⟩,rfl,rfl,⟨hl,by have:=T.aq hl;grind⟩,hr.ls.sub (bB 1),λ_ _ lb=>?_⟩;refine mn (ks:=ks) (k:=(t.a.length:Int)) 26040 R O (λr2 S=>?_);have g3:=PG.node (n:=⟨36,.empty,0,[],(I x.L x.ae t.az).au⟩) (T.cast (dQ _).symm) (PG.hp hK t.az) (by show t.a.length+1<=2*(t.i+1);omega);exact⟨Y,aC,⟨2,_,ks++[(t.a.length:Int)],r2,c⟩,⟨⟨g3.cast (jJ _ _ _),S,Nat.le_succ_of_le hi,f1,f2⟩,by simp[*],U.trans e0.symm⟩,aU,ao [0,1,2,3],by simp[*]⟩;rw[show K x.L t.az 0 rp=false from S,y]at U;refine⟨rfl,Y, ?_⟩;refine ca T (fH U ho) (λe t1 U g3 x2 x4 x1 x3 x0 x5=>?_) (cB:=ai) (ct:=ai) (cP:=ai);dsimp only[aj.sl,ap.az,ap.add]at x2 x4 x1 x3 x0 x5;intro lb;refine mn (ks:=ks) (k:=e) 27040 R O (λr2 S=>?_);exact⟨Y,aC,⟨2,t1,ks++[e],r2,c⟩,⟨⟨g3.cast (jJ _ _ _),S,by grind,by simp[*],by simp[*]⟩,by simp[*],U.trans e0.symm⟩,aU,ao [0,1,2,3],by simp[*]⟩;have ej:j=2:=by omega
 subst ej;replace U:Lf x.L x.ae N.tv n tp ks t=r:=U;rw[Lf]at U;refine ma M U (λU T=>?_);refine⟨rfl,Y, ?_⟩;refine ca T (fH U ho) (λb t2 U g3 x2 x4 x1 x3 x0 x5=>?_) (cB:=ai) (ct:=ai) (cP:=(show t.loops<((t.i+1:Nat):Int)/\t.d<((t.i+1:Nat):Int) by omega));dsimp only[aj.sl,ap.az,ap.add]at x2 x4 x1 x3 x0 x5;rw[jy]at U;intro lb;refine mn (ks:=ks) (k:=b) 30040 R O (λr2 S=>?_)
 repeat (refine⟨Y, ?_⟩)
 refine bG fy ⟨x,t2,⟨26,.empty,0,ks++[b],tp⟩,r2⟩ ⟨by have:=g3.aq hl;grind,S⟩ λ_ _=>?_;exact eD (e0.trans U.symm)
def ali:aG 80 (bh (λ(p:Int)=>aj.dv p)):=rh func80 alh alg alf alj
end
def Bq(L:List a8)(au:Int)(a:aM):j (aM):=do
 let t <-fd
 jU {t with d:=t.d-1}
 cj ⟨33,.empty,0,a,au⟩
def KX(L:List a8)(ae:Int)(tv:Nat->ah)(f:Nat)(ks:aM)(seen:Bool)(aT:Nat)(p:Int)(all:aM):j (aM):=do
 let k <-dX ⟨34,.empty,aT,all,p⟩
 P L ae tv bo f (.fk (ks++[k]) seen)
def RG(L:List a8)(ae:Int)(tv:Nat->ah)(f:Nat)(ks:aM)(seen:Bool)(aT:Nat)(p:Int)(a:aM):j (aM):=do
 cu L ae colon
 let all <-P L ae tv bo f (.fM a)
 KX L ae tv f ks seen aT p all
structure tM where
 t:ap
 ks:aM
 r:Row
 seen:Bool
 f:Nat
 c:Nat
structure mg where
 t:ap
 ks:aM
 r:Row
 seen:Bool
 f:Nat
 c:Nat
 d:Nat
 kc:aM
 rc:Row
 aT:Nat
 p:Int
 f2:Nat
def mg.ok(d:mg)(x:bY)(s:ap)(os:aM)(n:Nat):Prop:=PG x d.t (os++d.ks++d.kc)/\bl 3 1 (a7 d.ks) d.r/\bl 3 1 (a7 d.kc) d.rc/\d.f<=n/\(0<=d.p/\d.p<=x.ae)
abbrev Fz(d:tM):bv:=some ⟨d.c,0,none⟩
abbrev CD(d:mg):bv:=some ⟨d.c,0,none⟩
abbrev FD(d:mg):bv:=some ⟨d.d,0,none⟩
def ak8(x:bc Int)(F:ag):Nat->Option Inv:=fun
 |0=>some {X:=tM,P:=λd=>PG x.x d.t (x.os++d.ks)/\bl 3 1 (a7 d.ks) d.r/\d.f<=x.n/\(P x.x.L x.x.ae x.K.tv bo d.f (.fk d.ks d.seen)>>=Bq x.x.L x.t) d.t=bm x.K x.x (x.n+1) (.choose x.t) x.s,mu:=λd=>d.f,lv:=λd=>[(0,W (cg x)),(5,W (Fz d)),(6,H d.seen)],st:=λd=>[G x.x d.t,F,(m_ d.c 33 .empty 0 d.r x.t),d.r.A]}
 |3=>some {X:=mg,gh:=some ⟨Nat,λd=>d.f⟩,P:=λd=>d.ok x.x x.s x.os x.n/\d.t.a.length+1<=2*d.t.i/\d.f2<=x.n/\((P x.x.L x.x.ae x.K.tv bo d.f2 (.fM d.kc)>>=KX x.x.L x.x.ae x.K.tv d.f d.ks d.seen d.aT d.p)>>=Bq x.x.L x.t) d.t=bm x.K x.x (x.n+1) (.choose x.t) x.s,mu:=λd=>d.f2,lv:=λd=>[(0,W (cg x)),(5,W (CD d)),(6,H d.seen),(7,W (FD d))],st:=λd=>[G x.x d.t,F,(m_ d.c 33 .empty 0 d.r x.t),d.r.A,(m_ d.d 34 .empty d.aT d.rc d.p),d.rc.A]}
 |_=>none
def ak7(x:bc Int)(F:ag):Nat->Option Inv:=fun
 |14=>some {X:=mg,gh:=some ⟨Nat,λd=>d.f⟩,P:=λd=>d.ok x.x x.s x.os x.n/\(RG x.x.L x.x.ae x.K.tv d.f d.ks d.seen d.aT d.p d.kc>>=Bq x.x.L x.t) d.t=bm x.K x.x (x.n+1) (.choose x.t) x.s,mu:=λ_=>0,lv:=λd=>[(0,W (cg x)),(5,W (CD d)),(6,H d.seen),(7,W (FD d))],st:=λd=>[G x.x d.t,F,(m_ d.c 33 .empty 0 d.r x.t),d.r.A,(m_ d.d 34 .empty d.aT d.rc d.p),d.rc.A]}
 |_=>none
def ak9(x:bc Int)(a:ag):List (Nat×Nat×OH):=[(1,1,q (cv x.n 78)),(1,2,.n 2020),(1,5,.n 2050),(1,6,.w (eT 2050)),(2,1,q iU),(3,3,cD),(3,7,dU fQ),(5,1,q iQ),(6,1,aI jf),(6,4,.n 7040),(6,5,.w (eT 7040)),(8,1,q iQ),(9,1,z 7040),(9,3,q (cv x.n 10)),(9,4,.n 10040),(9,5,.o (cS 3 1 8) [999] [998]),(9,7,.w [.aS 7040]),(10,1,aI gU),(11,3,cD),(11,7,dU fQ),(13,1,.w [.aS 7040]),(7,1,aI mo),(14,1,q iU),
 (15,1,aI gU),(15,5,aI gU),(15,10,aI gU),(16,1,z 4),(16,3,q (cv x.n 17)),(16,4,.n 17040),(16,5,.o (cS 3 1 8) [5] [5]),(16,7,.w [.aS 4]),(17,1,z 2),(17,3,.q (eT 4)),(17,4,.c fO [0,5] [0]),(17,5,.n 18050),(17,6,.o (cS 3 1 8) [3] [3]),(17,8,.w [.aS 2]),(18,3,cD),(18,7,dU fQ),(19,1,.q (eT 2)),(19,2,.c fO [0,3] [0])]
abbrev ND(K:Nat)(x:bc Int):aN:=[Z 33,C ⟨#[]⟩,float f64 0,Q (bq K) 1 1,Z x.t]
def Mn(a:bc Int)(z:tM):=PG a.x z.t (a.os++z.ks)/\bl 3 1 (a7 z.ks) z.r/\z.f<=a.n/\(P a.x.L a.x.ae a.K.tv bo z.f (aj.fk z.ks z.seen)>>=Bq a.x.L a.t) z.t=bm a.K a.x (a.n+1) (aj.choose a.t) a.s
abbrev uv(z:tM)(a:bc Int):aN:=[Z 33,C ByteArray.empty,float f64 0,Q z.r.a z.r.n z.r.aq,Z a.t]
abbrev Oc(a:bc Int)(z:tM)(e1:ag):=[(0,G a.x z.t),(1,e1),(2,D z.c (uv z a) 35),(3,z.r.A)]
abbrev H0(y:dm):aN:=[Z 34,C ⟨#[]⟩,float f64 0,Q none 0 0,Z (b_ y.L y.ae y.i).au]
abbrev IL(A:jo)(F:ag)(C:tM)(x:bc Int)(u:Nat)(y:dm):=[(0,G A.x A.s),(1,F),(2,D C.c (uv C x) 35),(3,C.r.A),(7040,D u (H0 y) 35)]
def Uf(z:mg)(a:bc Int):=z.ok a.x a.s a.os a.n/\(RG a.x.L a.x.ae a.K.tv z.f z.ks z.seen z.aT z.p z.kc>>=Bq a.x.L a.t) z.t=bm a.K a.x (a.n+1) (aj.choose a.t) a.s
abbrev Ca(z:mg)(a:bc Int):aN:=[Z 33,C ByteArray.empty,float f64 0,Q z.r.a z.r.n z.r.aq,Z a.t]
abbrev Ag(z:mg):aN:=[Z 34,C ByteArray.empty,float f64 z.aT,Q z.rc.a z.rc.n z.rc.aq,Z z.p]
abbrev xF(a:bc Int)(z:mg)(b:ag):=[(0,G a.x z.t),(1,b),(2,D z.c (Ca z a) 35),(3,z.r.A),(4,D z.d (Ag z) 35),(5,z.rc.A)]
def QO(a:bc Int)(e1:Nat)(b:ag)(d e f:aD)(c:St):=∃(z:mg),(Uf z a/\z.f=e1)/\(W (cg a)=W (cg a)/\d=W (CD z)/\e=H z.seen/\f=W (FD z)/\True)/\ay c (xF a z b)
abbrev VJ(x:bc Int):aN:=[W (cg x),Z 0,C ⟨#[100,101,102,97,117,108,116]⟩]
def Vh(x:bc Int)(h:jo)(F:ag)(C:tM)(u:Nat)(y:dm):=lN (kw x) (g (IL h F C x u y) []) (λc b=>l (bh λ(a:Int)=>aj.choose a) x F (kv c) (IL h F C x u y))
def Mg(a:mg)(x:bc Int)(o:Nat):=(a.ok x.x x.s x.os x.n/\a.t.a.length+1<=2*a.t.i/\a.f2<=x.n/\(P x.x.L x.x.ae x.K.tv bo a.f2 (aj.fM a.kc)>>=KX x.x.L x.x.ae x.K.tv a.f a.ks a.seen a.aT a.p>>=Bq x.x.L x.t) a.t=bm x.K x.x (x.n+1) (aj.choose x.t) x.s)/\a.f=o
def Tz(x:bc Int)(s a:mg):=W (cg x)=W (cg x)/\W (CD s)=W (CD a)/\H s.seen=H a.seen/\W (FD s)=W (FD a)/\True
abbrev Vz(F:ag)(n:mg)(x:bc Int):=[(0,aY),(1,F),(2,D n.c (Ca n x) 35),(3,n.r.A),(4,D n.d (Ag n) 35),(5,n.rc.A)]
def XG(a:bc Int)(e1:ag)(c d:aD)(b:St)(mm:Nat):=∃(z:tM),Mn a z/\(W (cg a)=W (cg a)/\c=W (Fz z)/\d=H z.seen/\True)/\ay b (Oc a z e1)/\z.f<mm
def Ms(n:mg)(x:bc Int)(F:ag)(a:tM):=true=true/\V n.c 3/\bQ n.d (c7 [W (cg x),agg ⟨Ag n⟩] [G x.x n.t,n.rc.A] (λf e=>∀(d:Nat),gu (aL f82 17 6) [Q n.r.a n.r.n n.r.aq,Q (bq d) 1 1] [n.r.A] (g [(0,G f.x (f.s.add f.n)),(1,F),(2,D n.c (Ca n x) 35),(3,n.r.A),(4,D n.d (Ag n) 35),(5,aY),(18050,D d (qk f) 3)] [3]) (λc b=>V n.c 3/\XG x F (W (CD n)) (H n.seen) [(0,G f.x (f.s.add f.n)),(1,F),(2,D n.c [Z 33,C ByteArray.empty,float f64 0,Q b.a b.n b.aq,Z x.t] 35),(3,b.A),(4,D n.d (Ag n) 35),(5,aY),(18050,D d (qk f) 3)] a.f)))
def ala(x:bc Int)(F:ag)(hc:aF.cond (bh (λ(p:Int)=>aj.choose p)) x)(hr:aF.aE (bh (λ(p:Int)=>aj.choose p)) x F):cd x.n 78 (kw x) [G x.x x.s] (g [(0,G x.x x.s),(1,F)] [0]) (λM L=>∀(m J:Nat),bQ J (gE [W (cg x),C ⟨#[123]⟩] [G M.x L.snd] (g [(0,G M.x L.snd),(1,F),(2020,D m (bI L) 3),(2050,D J (ND m x) 35)] [0]) (λv B=>T1 (G v.x v.s.az) ⟨x.x.b,6,none⟩ (λN=>aA (N+1)/\dM (aL f82 3 7) [W (some ⟨x.x.b,6,none⟩),Z (N+1)] [G v.x v.s.az] (λE R=>(∃(a:tM),Mn x a/\(W (cg x)=W (cg x)/\W (bq J)=W (Fz a)/\H false=H a.seen/\True)/\ay [(0,G E.x E.t),(1,F),(2020,D m (bI L) 3),(2050,D J (ND m x) 35)] (Oc x a F))/\aQ λ(S:tM)_=>Mn x S->fW [W (cg x),C ⟨#[125]⟩] [G x.x S.t] (g (Oc x S F) [0]) (λA T=>T1 (G A.x A.s.az) ⟨x.x.b,6,none⟩ (λf=>aA (f-1)/\dM (aL f82 18 7) [W (some ⟨x.x.b,6,none⟩),Z (f-1)] [G A.x A.s.az] (λe d=>bQ S.c (c7 [W (cg x),agg ⟨uv S x⟩] [G e.x e.t,S.r.A] (λc b=>l (bh λ(a:Int)=>aj.choose a) x F (fG c) [(0,G c.x (c.s.add c.n)),(1,F),(2,D S.c (uv S x) 35),(3,aY)]))))) (λA z=>fq (kw x) (g [(0,G A.x A.s),(1,F),(2,D S.c (uv S x) 35),(3,S.r.A)] []) (λx0 w=>∀(u:Nat),bQ u (∃(t:Nat),fW [W (cg x),C ⟨#[99,97,115,101]⟩] [G A.x A.s] (g (IL A F S x u x0) [0]) (λh T=>true=true/\V u 3/\cd x.n 10 (kw x) [G h.x h.s.az] (g [(0,G h.x h.s.az),(1,F),(2,D S.c (uv S x) 35),(3,S.r.A),(7040,D u (H0 x0) 35)] [0]) (λf e=>∀(d:Nat),gu (aL f82 9 5) (zQ d) [aY] (g [(0,G f.x e.snd),(1,F),(2,D S.c (uv S x) 35),(3,S.r.A),(7040,D u (H0 x0) 35),(10040,D d (bI e) 3)] [999]) (λc b=>V u 3/\QO x t F (W (Fz S)) (H S.seen) (bL u) [(0,G f.x e.snd),(1,F),(2,D S.c (uv S x) 35),(3,S.r.A),(998,b.A),(999,aY),(7040,D u [Z 34,C ⟨#[]⟩,float f64 0,Q b.a b.n b.aq,Z (b_ x0.L x0.ae x0.i).au] 35),(10040,D d (bI e) 3)])) (λf c=>∀(b:Tm),l (bh λ(a:Int)=>aj.choose a) x F (q8 c) [(0,aY),(1,F),(2,D S.c (uv S x) 35),(3,S.r.A),(7040,D u (H0 x0) 35)])) (λh T=>gP (VJ x) (g (IL h F S x u x0) []) (λf e=>Br (iS f.p.L (f.p.i+f.a) f.t) (Br (!S.seen) (T1 (G h.x h.s) ⟨x.x.b,1,none⟩ (λd=>aA (d+1)/\dM (aL f82 11 7) [W (some ⟨x.x.b,1,none⟩),Z (d+1)] [G h.x h.s] (λc b=>V u 2/\QO x t F (W (Fz S)) (H true) (bL u) [(0,G c.x c.t),(1,F),(2,D S.c (uv S x) 35),(3,S.r.A),(7040,D u [Z 34,C ⟨#[]⟩,float f64 4607182418800017408,Q none 0 0,Z (b_ x0.L x0.ae x0.i).au] 35)]))) (Vh x h F S u x0)) (Vh x h F S u x0)))/\aQ λ(s:mg)_=>(Uf s x/\s.f=t)->gE [W (cg x),C ⟨#[58]⟩] [G x.x s.t] (g (xF x s F) [0]) (λq p=>∃(o:Nat),(∃(a:mg),Mg a x o/\Tz x s a/\ay [(0,G q.x q.s.az),(1,F),(2,D s.c (Ca s x) 35),(3,s.r.A),(4,D s.d (Ag s) 35),(5,s.rc.A)] (xF x a F))/\aQ λ(n:mg)_=>Mg n x o->gP [W (cg x),Z 0,C ⟨#[99,97,115,101]⟩] (g (xF x n F) []) (λx1 k=>Br (!iS x1.p.L (x1.p.i+x1.a) x1.t) (gP (VJ x) (g (xF x n F) []) (λj i=>Br (!iS j.p.L (j.p.i+j.a) j.t) (gP [W (cg x),Z 0,C ⟨#[125]⟩] (g (xF x n F) []) (λh T=>Br (!iS h.p.L (h.p.i+h.a) h.t) (true=true/\V n.d 3/\cd x.n 17 (Cw x) [G x.x n.t] (g (xF x n F) [0]) (λf e=>∀(d:Nat),gu (aL f82 16 5) [Q n.rc.a n.rc.n n.rc.aq,Q (bq d) 1 1] [n.rc.A] (g [(0,G f.x e.snd),(1,F),(2,D n.c (Ca n x) 35),(3,n.r.A),(4,D n.d (Ag n) 35),(5,n.rc.A),(17040,D d (bI e) 3)] [5]) (λc b=>V n.d 3/\∃(a:mg),Mg a x o/\Tz x n a/\ay [(0,G f.x e.snd),(1,F),(2,D n.c (Ca n x) 35),(3,n.r.A),(4,D n.d [Z 34,C ByteArray.empty,float f64 n.aT,Q b.a b.n b.aq,Z n.p] 35),(5,b.A),(17040,D d (bI e) 3)] (xF x a F)/\a.f2<n.f2)) (λf c=>∀(b:Tm),l (bh λ(a:Int)=>aj.choose a) x F (q8 c) (Vz F n x))) (Ms n x F S))) (Ms n x F S))) (Ms n x F S))) (λq b=>l (bh λ(a:Int)=>aj.choose a) x F (gI q) (Vz F s x)))))))) (λv b=>l (bh λ(a:Int)=>aj.choose a) x F (gI v) [(0,aY),(1,F),(2020,D m (bI L) 3),(2050,D J (ND m x) 35)]))) (λM b=>l (bh λ(a:Int)=>aj.choose a) x F (q8 b) (iK F)):=by
 delta cd cg kw jR gE bI bq ND T1 mK mL dM Mn Fz uv Oc fW lB c7 kV fG fq H0 IL mM jx rz l6 gu zQ Uf CD FD Ca Ag xF QO bL q8 rC gP VJ lN kv Vh Mg Tz Cw Vz qk XG Ms gI iK g G V aA bQ bz dK lh jc Z C H W Q ce D aY al aQ;obtain⟨m,x,s,os,n,tp⟩:=x;obtain⟨ih,hK,hG,hp,z0,y9,ho⟩:=hc;replace hr:dj m x F:=hr;replace ho:bm m x (n+1) (.choose tp) s≠.out:=ho;dsimp only at ih hK hG hp z0 y9⊢;obtain⟨r,e0⟩:∃r,bm m x (n+1) (.choose tp) s=r:=⟨_,rfl⟩;rw[e0]at ho;have U:=e0;unfold bm at U;rw[P]at U;have hl:=hK.len;refine ca hG (fH U ho) (λc0 t1 U g1 x9 y1 x8 y0 x7 y3=>?_) (cB:=ai) (ct:=ai) (cP:=ai);dsimp only[aj.sl,ap.az,ap.add]at x9 y1 x8 y0 x7 y3;intro lb c
 repeat (refine⟨Y, ?_⟩)
 refine ma g1 U (λU g2=>?_);rw[nt,C1]at U;have b2:=hG.b;have b3:=g2.i;refine⟨_,ee λ_=>rfl,⟨by show-9223372036854775808<=t1.d+1;omega,by show t1.d+1<=9223372036854775807;have:=hG.i;omega⟩,gM rfl rfl rfl,rfl,⟨x,t1.az,⟨t1.az.i,t1.az.a,t1.az.h,t1.az.loops,t1.az.d+1⟩,6,_⟩,rfl,rfl,⟨λ_=>rfl,rfl,by simp[*],rfl,rfl⟩,ai,λ_ _=>?_⟩;have g3:PG x ⟨t1.az.i,t1.az.a,t1.az.h,t1.az.loops,t1.az.d+1⟩ (os++[c0]):=g2.RY (t:=⟨t1.az.i,t1.az.a,t1.az.h,t1.az.loops,t1.az.d+1⟩) rfl rfl g2.f g2.l ⟨by show 0<=t1.d+1;omega,by show t1.d+1<=((t1.i+1:Nat):Int);omega⟩;refine⟨⟨⟨_,[c0],lT lb [c0],false,n,c⟩,⟨g3,ki lb [c0],bK _,U.trans e0.symm⟩,aU,ao [0,1,2050,2020]⟩, ?_⟩;clear U g3 g2 b3 g1 x9 y1 x8 y0 x7 y3;rintro⟨t,ks,r',seen,f,c⟩ js ⟨T,x2,hf,U⟩;dsimp only at T x2 hf U⊢;rw[e0]at U;obtain _|f:=f;exact absurd U (λe=>ho (e.symm.trans (by rw[P] <;> rfl)));replace hf:f<=n:=Nat.le_of_succ_le hf;rw[P,eZ]at U;have y5:=qH T hl;have x5:=T.nd;refine ba kM ⟨x,t,rc⟩ ⟨hl,T.i⟩ (hr.ls.sub (bB 1)) ⟨λ_ q=>?_,λ_ q=>?_⟩;rw[mb q,aW,iX,Bq,nt,C1,jy]at U;have g2:=T.is q;have b1:=T.b;have b4:=T.i;refine⟨_,ee λ_=>rfl,⟨by show-9223372036854775808<=t.d-1;omega,by show t.d-1<=9223372036854775807;omega⟩,gM rfl rfl rfl,rfl,⟨x,t.az,⟨t.az.i,t.az.a,t.az.h,t.az.loops,t.az.d-1⟩,6,_⟩,rfl,rfl,⟨λ_=>rfl,rfl,by simp[*],rfl,rfl⟩,ai,λ_ _=>?_⟩
 repeat (refine⟨Y, ?_⟩)
 have aq:=g2.aq hl;refine bG fy ⟨x,⟨t.az.i,t.az.a,t.az.h,t.az.loops,t.az.d-1⟩,⟨33,.empty,0,ks,tp⟩,r'⟩ ⟨by grind,x2⟩ λ_ _=>?_;exact eD (e0.trans U.symm);rw[mO q,y,eZ,o7,eZ]at U;refine ba lR (x.p t) hl (hr.ls.dc 0 1 X X rfl rfl) λ_ _ d=>?_
 repeat (refine⟨Y, ?_⟩)
 have x3:=PG.hp hK t;refine⟨f, ?_, ?_⟩
 skip
 refine ba kM ⟨x,t,C3⟩ ⟨hl,T.i⟩ (hr.ls.sub (bB 1)) ⟨λ_ q=>?_,λ_ q=>?_⟩;rw[mb q,aW,eZ]at U;have g2:=T.is q;refine⟨rfl,Y, ?_⟩;refine ca g2 ((CO U ho).up hf) (λk t1 U g3 z1 z3 y7 z2 y6 z4=>?_) (cB:=ai) (ct:=ai) (cP:=ai);dsimp only[aj.sl,ap.az,ap.add]at z1 z3 y7 z2 y6 z4;intro lb;refine mn (ks:=[]) (k:=k) 10040 BS (by simp[*]) (λr2 h2=>?_);exact⟨Y,⟨t1,ks,r',seen,f,c,d,[k],r2,0,(I x.L x.ae t).au,0⟩,⟨⟨⟨g3,x2,h2,hf,x3⟩,U.trans e0.symm⟩,rfl⟩,aU,ao [0,1,2,3,7040,998]⟩;rw[mO q,y,eZ,eZ,Jb]at U;refine ba kO ⟨x.p t,0,uJ⟩ ⟨hl,by have:=T.i;show t.i<=1048576;omega,by simp[*]⟩ (hr.ls.dc 0 1 X X rfl rfl) λ_ _=>?_;refine ar (λh1=>?_) (λh1=>?_);refine ar (λh2=>?_) (λh2=>?_);have hi:=p9 (show K x.L t 0 uJ=true from h1);rw[show K x.L t 0 uJ=true from h1,show(!seen)=true from h2,Bool.and_self,aW,eZ,mc,iX]at U;have g2:=T.step hi;refine⟨_,ee λ_=>rfl,oK (i:=t.i) (gi T.i hl),gM rfl rfl rfl,rfl,⟨x,t,t.az,1,_⟩,rfl,rfl,⟨λ_=>rfl,rfl,by simp[*],rfl,rfl⟩,ai,λ_ _=>?_⟩;exact⟨Y,⟨t.az,ks,r',true,f,c,d,[],dq,iI,(I x.L x.ae t).au,0⟩,⟨⟨⟨g2.cast (dQ _).symm,x2,BS,hf,x3⟩,U.trans e0.symm⟩,rfl⟩,aU,ao [0,1,2,3,7040,999]⟩;rw[show(!seen)=false from h2,nO,y,Ja]at U;exact ba qS (x.p t) hl (hr.ls.dc 0 1 X X rfl rfl) λ_ _=>⟨.inr (_,_),⟨_,e0.trans U.symm⟩,rfl,ao [1]⟩;rw[show K x.L t 0 uJ=false from h1,lj,y,Ja]at U;exact ba qS (x.p t) hl (hr.ls.dc 0 1 X X rfl rfl) λ_ _=>⟨.inr (_,_),⟨_,e0.trans U.symm⟩,rfl,ao [1]⟩;clear U y5 x5 q T x2 hf x3;rintro⟨t,ks,r',seen,f',c,d,kc,y2,aT,p,f2⟩ js ⟨⟨⟨T,x2,x4,hf,x3⟩,U⟩,e1⟩;have e1:f'=f:=e1;subst e1;dsimp only at T x2 x4 hf x3 U⊢;rw[e0,RG,eZ]at U;have x5:=T.nd;refine ma T U (λU g2=>?_);refine⟨f',⟨⟨t.az,ks,r',seen,f',c,d,kc,y2,aT,p,f'⟩,⟨⟨⟨g2,x2,x4,hf,x3⟩,by show t.a.length+1<=2*(t.i+1);omega,hf,U.trans e0.symm⟩,rfl⟩,aU,ao [0,1,2,3,4,5]⟩, ?_⟩;clear U;clear U T x2 x4 x3 g2 x5 hf;rintro⟨t,ks,r',seen,f,c,d,kc,y2,aT,p,f2⟩ js ⟨⟨⟨T,x2,x4,hf,x3⟩,x5,x6,U⟩,e1⟩;have e1:f=f':=e1;subst e1;dsimp only at T x2 x4 hf x3 x5 x6 U⊢;rw[e0]at U;obtain _|f2:=f2;exact absurd U (λe=>ho (e.symm.trans (by rw[P] <;> rfl)));replace x6:f2<=n:=Nat.le_of_succ_le x6;rw[P,eZ,eZ,nt]at U;have y8:=hf;have y5:=qH (os:=os) (ks:=ks++kc) (T.cast (jJ _ _ _)) hl;rw[eH]at y5;have y4:x.L.length<=1048576/\t.i<=1048576/\0<=1048576:=⟨hl,gi T.i hl,b7 _⟩;refine lH (A:=(!K x.L t 0 C3&&(!K x.L t 0 uJ&& !K x.L t 0 rc))=false) (λkx=>ba kO ⟨x.p t,0,C3⟩ y4 (hr.ls.dc 0 1 X X rfl rfl) λ_ _=>ar (λh1=>ba kO ⟨x.p t,0,uJ⟩ y4 (hr.ls.dc 0 1 X X rfl rfl) λ_ _=>ar (λh2=>ba kO ⟨x.p t,0,rc⟩ y4 (hr.ls.dc 0 1 X X rfl rfl) λ_ _=>ar (λh3=>?_) (λh3=>kx ?_)) (λh2=>kx ?_)) (λh1=>kx ?_)) (λhx=>?_);rw[show(!K x.L t 0 C3)=true from h1,show(!K x.L t 0 uJ)=true from h2,show(!K x.L t 0 rc)=true from h3,Bool.and_self,Bool.and_self,aW,eZ]at U;refine⟨rfl,Y, ?_⟩;replace hf:=x6;refine ca T ((fH U ho).up hf) (λk t1 U g1 x9 y1 x8 y0 x7 y3=>?_) (cB:=ai) (ct:=ai) (cP:=ai);dsimp only[aj.sl,ap.az,ap.add]at x9 y1 x8 y0 x7 y3;intro lb;refine ba (iN 1 8 rfl rfl rfl rfl rfl rfl rfl (by decide)) ⟨y2,a7 kc,some ⟨lb,0,none⟩,1,1,a7 [k]⟩ ⟨x4,rfl,xg _,ye x4 O,yf x4 O,λh=>nomatch h⟩ (yk 17040 rfl) λr2 h2=>?_
 replace h2:bl 3 1 (a7 (kc++[k])) r2:=by rw[xf];simp[*]
 exact⟨Y,⟨t1,ks,r',seen,f,c,d,kc++[k],r2,aT,p,f2⟩,⟨⟨⟨g1.cast (jJ _ _ _),x2,h2,y8,x3⟩,by grind,x6,(eZ.trans U).trans e0.symm⟩,rfl⟩,aU,ao [0,1,2,3,4,5],jd _⟩;rw[show(!K x.L t 0 rc)=false from h3,nO,nO];rw[show(!K x.L t 0 uJ)=false from h2,lj,nO];rw[show(!K x.L t 0 C3)=false from h1,lj];rw[hx,y,iX,KX,eZ,Az]at U;refine⟨rfl,Y, ?_⟩
 repeat (refine⟨Y, ?_⟩)
 have g3:=PG.node (n:=⟨34,.empty,aT,kc,p⟩) T x3 x5;refine bG fy ⟨x,t,⟨34,.empty,aT,kc,p⟩,y2⟩ ⟨by grind,x4⟩ λ_ _=>?_;intro lb;refine mn (ks:=ks) (k:=(t.a.length:Int)) 18050 x2 O (λr2 h2=>?_);exact⟨Y,⟨_,_,r2,seen,f,c⟩,⟨g3.cast (jJ _ _ _),h2,hf,U.trans e0.symm⟩,aU,ao [0,1,2,3],jd _⟩
def ak_:aG 82 (bh (λ(p:Int)=>aj.choose p)):=rh func82 ak9 ak8 ak7 ala
def iZ(L:List a8)(ae:Int)(tv:Nat->ah)(f:Nat)(x:a8)(body:Bool):Option (j (aM)):=
 bif bx x.aJ oi then some (do
  let v <-one (P L ae tv bo f .vars)
  eh L ae
  ret [v])
 else bif cI [rN,rK,rL,tw] x.aJ then some (P L ae tv bo f (.simple x))
 else bif bx x.aJ uK then some (bif !body then ju L ae else P L ae tv bo f (.func 35))
 else bif bx x.aJ C6 then some (do
  fh
  let c <-one (P L ae tv bo f .paren)
  let a <-one (P L ae tv bo f (.cw false))
  let g <-cT L C4
  let d <-bif g then P L ae tv bo f (.cw false) else ret []
  cj ⟨24,.empty,0,[c,a]++d,x.au⟩)
 else bif bx x.aJ C8 then some (do
  fh
  let c <-one (P L ae tv bo f .paren)
  let b <-one (P L ae tv bo f .loop)
  cj ⟨25,.empty,0,[c,b],x.au⟩)
 else bif bx x.aJ C5 then some (do
  fh
  P L ae tv bo f (.dv x.au))
 else bif bx x.aJ C7 then some (do
  fh
  P L ae tv bo f (.d5 x.au))
 else bif bx x.aJ F3 then some (do
  fh
  P L ae tv bo f (.choose x.au))
 else none
def mP(L:List a8)(ae:Int)(tv:Nat->ah)(f:Nat)(x:a8)(body:Bool)(s:ap):PR (aM):=match iZ L ae tv f x body with
 |some m=>m s
 |none=>.out
def AJ:List ah:=[rN,rK,rL,tw]
def yt:List ah:=[C6,C8,C5,C7,F3]
structure kC where
 K:bD
 x:bY
 s:ap
 os:aM
 n:Nat
 d:a8
 body:Bool
abbrev mf:aF where
 X:=kC
 Y:=(Int×ap×Bool) ⊕ (Int×Int)
 args x:=[.pointer (some ⟨x.x.b,0,none⟩),.agg #[.int .i64 x.d.ak,.string x.d.aJ,.float .f64 x.d.aT,.int .i64 x.d.au,.bool x.d.aB],.bool x.body]
 pre x:=[G x.x x.s]
 cond x:=(∀bA,aG bA (cv x.n bA))/\hW x.K x.x/\PG x.x x.s x.os/\x.d=I x.x.L x.x.ae x.s/\x.s.i<x.x.L.length/\(iZ x.x.L x.x.ae x.K.tv x.n x.d x.body=none\/mP x.x.L x.x.ae x.K.tv x.n x.d x.body x.s≠.out)
 aE x F:=dj x.K x.x F
 bS x y:=match y with
  | .inl a=>(a.2.2=true/\mP x.x.L x.x.ae x.K.tv x.n x.d x.body x.s= .ok [a.1] a.2.1)\/(a.2.2=false/\iZ x.x.L x.x.ae x.K.tv x.n x.d x.body=none/\a.2.1=x.s)
  | .inr a=>∃t,mP x.x.L x.x.ae x.K.tv x.n x.d x.body x.s= .stop a.1 a.2 t
 val x y:=match y with
  | .inl a=>.returned (.tuple #[.int .i64 a.1,.bool a.2.2])
  | .inr a=>.panicked [⟨jj a.1 a.2,false,false⟩]
 post x y:=match y with
  | .inl a=>[G x.x a.2.1]
  | .inr _=>[]
 eL _ _ _ b h:=dj.sub b h
 sum:=some (iL (Int×ap×Bool) (Int×Int))
abbrev nf(x:kC):bv:=some ⟨x.x.b,0,none⟩
def apF(x:kC)(F:ag):Nat->Option Inv:=fun
 |11=>some {X:=jA,P:=λ_=>bx x.d.aJ oi=false,mu:=λ_=>0,lv:=λd=>[(0,W (nf x)),(2,H x.body),(4,qi d),(12,C x.d.aJ),(20,H (cI AJ x.d.aJ))],st:=λd=>[G x.x x.s,F,Ht d.c x.d]}
 |21=>some {X:=jA,P:=λ_=>bx x.d.aJ oi=false/\cI AJ x.d.aJ=false/\bx x.d.aJ uK=false,mu:=λ_=>0,lv:=λd=>[(0,W (nf x)),(4,qi d),(36,H (cI yt x.d.aJ))],st:=λd=>[G x.x x.s,F,Ht d.c x.d]}
 |_=>none
def apG(x:kC)(a:ag):List (Nat×Nat×OH):=[(0,0,.n 1000),(1,1,z 1000),(4,1,q (cv x.n 75)),(5,1,q tc),(11,1,.q (eT 2)),(11,2,q (cv x.n 76)),(14,1,aI mo),(15,1,q (cv x.n 77)),(21,3,cD),(21,7,dU fQ),(22,1,z 2),
 (24,1,q (cv x.n 78)),(24,2,.n 25020),(25,2,q (cv x.n 17)),(25,3,.n 26030),(25,4,.o (cS 3 1 8) [25020] [25020]),(26,1,q iQ),(27,2,q (cv x.n 17)),(27,3,.n 28030),(27,4,.o (cS 3 1 8) [25020] [25020]),(28,3,z 2),(28,5,.c fO [0,25020] [0]),
 (30,1,q (cv x.n 78)),(30,2,.n 31020),(31,2,q (cv x.n 79)),(31,3,.n 32030),(31,4,.o (cS 3 1 8) [31020] [31020]),(32,3,z 2),(32,5,.c fO [0,31020] [0]),
 (34,2,z 2),(34,3,q (cv x.n 80)),(36,2,z 2),(36,3,q (cv x.n 81)),(37,2,z 2),(37,3,q (cv x.n 82))]
def Ln(a:ah)(l:List ah)(t:ah):cI (a::l) t=(bx t a||cI l t):=rfl
def Lo(t:ah):cI [] t=false:=rfl
abbrev CH(x:kC):aN:=[W (nf x)]
abbrev q9(a:kC):aN:=[Z a.d.ak,C a.d.aJ,float f64 a.d.aT,Z a.d.au,H a.d.aB]
abbrev E0(x:kC)(F:ag)(A:Nat):=[(0,G x.x x.s),(1,F),(1000,D A (q9 x) 56)]
abbrev rx(a:kC)(e1:ag)(z:jA):=[(0,G a.x a.s),(1,e1),(2,D z.c (q9 a) 56)]
def GF(a:kC)(e1:ag)(c d:aD)(b:St):=∃(z:jA),bx a.d.aJ oi=false/\(W (nf a)=W (nf a)/\H a.body=H a.body/\c=W (xX z)/\C a.d.aJ=C a.d.aJ/\d=H (cI AJ a.d.aJ)/\True)/\ay b (rx a e1 z)
abbrev FG(x:kC)(F:ag)(z:jA):ph->Int×ap->Prop:=λc a=>l mf x F (al (tuple ⟨[Z a.fst,H true]⟩)) [(0,G c.x a.snd),(1,F),(2,D z.c (q9 x) 56)]
abbrev EM(x:kC)(F:ag)(z:jA):ph->Int×Int->Prop:=λc b=>l mf x F (q8 b) [(0,aY),(1,F),(2,D z.c (q9 x) 56)]
abbrev NS(x:kC):=x.d.aJ.toList==(ByteArray.mk #[105,102]).toList
def U4(a:kC):=bx a.d.aJ oi=false/\cI AJ a.d.aJ=false/\bx a.d.aJ uK=false
def DC(a:kC)(e1:ag)(c d:aD)(b:St):=∃(z:jA),U4 a/\(W (nf a)=W (nf a)/\c=W (xX z)/\d=H (cI yt a.d.aJ)/\True)/\ay b (rx a e1 z)
abbrev Ny(x:kC):=x.d.aJ.toList==(ByteArray.mk #[119,104,105,108,101]).toList
abbrev NI(x:kC):=x.d.aJ.toList==(ByteArray.mk #[102,111,114]).toList
abbrev NJ(x:kC):=x.d.aJ.toList==(ByteArray.mk #[116,114,121]).toList
abbrev ET(s:yL)(F:ag)(w:jA)(x:kC):=g [(0,G s.x s.t),(1,F),(2,D w.c (q9 x) 56)] [0]
abbrev UO(x:kC)(c:Row):aN:=[W (nf x),agg ⟨[Z 24,C ⟨#[]⟩,float f64 0,Q c.a c.n c.aq,Z x.d.au]⟩]
abbrev Nz(b:tI):=al (tuple ⟨[Z ↑b.s.a.length,H true]⟩)
abbrev Oz(x:kC):aN:=[W (nf x),Z x.d.au]
def apI(x:kC)(F:ag)(hc:mf.cond x)(hr:mf.aE x F):∀(A:Nat),V A 1/\Br (x.d.aJ.toList==(ByteArray.mk #[118,97,114]).toList) (cd x.n 75 (CH x) [G x.x x.s] (g (E0 x F A) [0]) (λd c=>DB (CH x) [G d.x c.snd] (g [(0,G d.x c.snd),(1,F),(1000,D A (q9 x) 56)] [0]) (λb a=>l mf x F (al (tuple ⟨[Z c.fst,H true]⟩)) [(0,G b.x a),(1,F),(1000,D A (q9 x) 56)]) (λb a=>l mf x F (zF a) [(0,aY),(1,F),(1000,D A (q9 x) 56)])) (λd b=>l mf x F (q8 b) [(0,aY),(1,F),(1000,D A (q9 x) 56)])) (Br (x.d.aJ.toList==IE.toList) (GF x F (bL A) (H (x.d.aJ.toList==IE.toList)) (E0 x F A)) (Br (x.d.aJ.toList==IK.toList) (GF x F (bL A) (H (x.d.aJ.toList==IK.toList)) (E0 x F A)) (Br (x.d.aJ.toList==Ix.toList) (GF x F (bL A) (H (x.d.aJ.toList==Ix.toList)) (E0 x F A)) (GF x F (bL A) (H (x.d.aJ.toList==(ByteArray.mk #[116,104,114,111,119]).toList)) (E0 x F A))))/\aQ λ(z:jA)_=>bx x.d.aJ oi=false->Br (cI AJ x.d.aJ) (bQ z.c (cd x.n 76 [W (nf x),agg ⟨q9 x⟩] [G x.x x.s] (g (rx x F z) [0]) (FG x F z) (EM x F z))) (Br (x.d.aJ.toList==(ByteArray.mk #[102,117,110,99,116,105,111,110]).toList) (Br (!x.body) (lN (CH x) (g (rx x F z) []) (λb a=>l mf x F (kv b) (rx x F z))) (cd x.n 77 [W (nf x),Z 35] [G x.x x.s] (g (rx x F z) [0]) (FG x F z) (EM x F z))) (Br (NS x) (DC x F (qi z) (H (NS x)) (rx x F z)) (Br (Ny x) (DC x F (qi z) (H (Ny x)) (rx x F z)) (Br (NI x) (DC x F (qi z) (H (NI x)) (rx x F z)) (Br (NJ x) (DC x F (qi z) (H (NJ x)) (rx x F z)) (DC x F (qi z) (H (x.d.aJ.toList==(ByteArray.mk #[115,119,105,116,99,104]).toList)) (rx x F z)))))/\aQ λ(w:jA)_=>U4 x->Br (cI yt x.d.aJ) (T1 (G x.x x.s) ⟨x.x.b,1,none⟩ (λt=>aA (t+1)/\dM (aL f47 21 7) [W (some ⟨x.x.b,1,none⟩),Z (t+1)] [G x.x x.s] (λs r=>V w.c 1/\Br (NS x) (cd x.n 78 (CH x) [G s.x s.t] (ET s F w x) (λq p=>∀(o:Nat),cd x.n 17 [W (nf x),H false] [G q.x p.snd] (g [(0,G q.x p.snd),(1,F),(2,D w.c (q9 x) 56),(25020,D o (bI p) 3)] [0]) (λn m=>∀(B:Nat),gu (aL f47 25 4) [Q (bq o) 1 1,Q (bq B) 1 1] [D o (bI p) 3] (g [(0,G n.x m.snd),(1,F),(2,D w.c (q9 x) 56),(25020,D o (bI p) 3),(26030,D B (bI m) 3)] [25020]) (λk j=>fW [W (nf x),C ⟨#[101,108,115,101]⟩] [G n.x m.snd] (g [(0,G n.x m.snd),(1,F),(2,D w.c (q9 x) 56),(25020,j.A),(26030,D B (bI m) 3)] [0]) (λi h=>cd x.n 17 [W (nf x),H false] [G i.x i.s.az] (g [(0,G i.x i.s.az),(1,F),(2,D w.c (q9 x) 56),(25020,j.A),(26030,D B (bI m) 3)] [0]) (λE f=>∀(e:Nat),gu (aL f47 27 4) (vP j e) [j.A] (g [(0,G E.x f.snd),(1,F),(2,D w.c (q9 x) 56),(25020,j.A),(26030,D B (bI m) 3),(28030,D e (bI f) 3)] [25020]) (λd c=>V w.c 3/\c7 (UO x c) [G E.x f.snd,c.A] (λb a=>l mf x F (Nz b) [(0,G b.x (b.s.add b.n)),(1,F),(2,D w.c (q9 x) 56),(25020,aY),(26030,D B (bI m) 3),(28030,D e (bI f) 3)]))) (λE b=>l mf x F (q8 b) [(0,aY),(1,F),(2,D w.c (q9 x) 56),(25020,j.A),(26030,D B (bI m) 3)])) (λi c=>V w.c 3/\c7 (UO x j) [G i.x i.s,j.A] (λb a=>l mf x F (Nz b) [(0,G b.x (b.s.add b.n)),(1,F),(2,D w.c (q9 x) 56),(25020,aY),(26030,D B (bI m) 3)])))) (λn b=>l mf x F (q8 b) [(0,aY),(1,F),(2,D w.c (q9 x) 56),(25020,D o (bI p) 3)])) (λq b=>l mf x F (q8 b) [(0,aY),(1,F),(2,D w.c (q9 x) 56)])) (Br (Ny x) (cd x.n 78 (CH x) [G s.x s.t] (ET s F w x) (λj i=>∀(h:Nat),cd x.n 79 (CH x) [G j.x i.snd] (g [(0,G j.x i.snd),(1,F),(2,D w.c (q9 x) 56),(31020,D h (bI i) 3)] [0]) (λE f=>∀(e:Nat),gu (aL f47 31 4) [Q (bq h) 1 1,Q (bq e) 1 1] [D h (bI i) 3] (g [(0,G E.x f.snd),(1,F),(2,D w.c (q9 x) 56),(31020,D h (bI i) 3),(32030,D e (bI f) 3)] [31020]) (λd c=>V w.c 3/\c7 [W (nf x),agg ⟨[Z 25,C ⟨#[]⟩,float f64 0,Q c.a c.n c.aq,Z x.d.au]⟩] [G E.x f.snd,c.A] (λb a=>l mf x F (Nz b) [(0,G b.x (b.s.add b.n)),(1,F),(2,D w.c (q9 x) 56),(31020,aY),(32030,D e (bI f) 3)]))) (λE b=>l mf x F (q8 b) [(0,aY),(1,F),(2,D w.c (q9 x) 56),(31020,D h (bI i) 3)])) (λj b=>l mf x F (q8 b) [(0,aY),(1,F),(2,D w.c (q9 x) 56)])) (Br (NI x) (V w.c 3/\cd x.n 80 (Oz x) [G s.x s.t] (ET s F w x) (FG x F w) (EM x F w)) (Br (NJ x) (V w.c 3/\cd x.n 81 (Oz x) [G s.x s.t] (ET s F w x) (FG x F w) (EM x F w)) (V w.c 3/\cd x.n 82 (Oz x) [G s.x s.t] (ET s F w x) (FG x F w) (EM x F w)))))))) (l mf x F OB (rx x F w))))):=by
 delta cd nf CH q9 E0 oY o4 DB zF q8 IE xX rx GF bq bL IK Ix FG EM lN kv NS U4 DC qi Ny NI NJ T1 mK mL dM ET bI mM jx rz l6 gu jR fW vP lB c7 UO Nz Oz OB g G V aA bQ bz dK lh jc Z C H W Q ce D aY al aQ;obtain⟨K,x,s,os,n,d,body⟩:=x;obtain⟨ih,hK,hG,hd,hi,R⟩:=hc;replace hr:dj K x F:=hr;dsimp only at ih hK hG hd hi R⊢;have hl:=hK.len;have hp:0<=d.au/\d.au<=x.ae:=by rw[hd];exact PG.hp hK s
 obtain⟨r,P⟩:∃r,mP x.L x.ae K.tv n d body s=r:=⟨_,rfl⟩;clear hd;intro c
 repeat (refine⟨Y, ?_⟩)
 refine ar (λI=>?_) (λI=>?_);rw[gq]at I;replace I:bx d.aJ oi=true:=I;have U:=P;simp only[mP,iZ,I,aW,y]at U;have T:r≠.out:=by{rcases R with h|h;exfalso;revert h;simp[iZ,I];grind};refine ca hG (fH U T) (λv t1 U g1 y7 z2 y5 z0 y3 z4=>?_) (cB:=ai) (ct:=hi) (cP:=ai);dsimp only[aj.sl,ap.az,ap.add]at y7 z2 y5 z0 y3 z4;refine ba Wx ⟨x,t1⟩ ⟨hl,g1.i⟩ (hr.ls.sub (bB 1)) ⟨λu q=>?_,λp q=>⟨.inr (p,60),⟨_,P.trans (U.symm.trans (WK q))⟩,rfl,ao [1]⟩⟩;rw[WJ q,C0]at U;exact K2 (P.trans U.symm);rw[gq]at I;replace I:bx d.aJ oi=false:=I;refine⟨?_, ?_⟩
 ·refine ar (λe1=>⟨⟨c⟩,I,⟨rfl,rfl,rfl,rfl, ?_,ai⟩,ao [0,1,1000]⟩) (λe1=>ar (λe2=>⟨⟨c⟩,I,⟨rfl,rfl,rfl,rfl, ?_,ai⟩,ao [0,1,1000]⟩) (λe2=>ar (λe3=>⟨⟨c⟩,I,⟨rfl,rfl,rfl,rfl, ?_,ai⟩,ao [0,1,1000]⟩) (λe3=>⟨⟨c⟩,I,⟨rfl,rfl,rfl,rfl, ?_,ai⟩,ao [0,1,1000]⟩)))
  all_goals
   simp only[gq]at*;show bool (bx d.aJ _)=bool (cI AJ d.aJ);congr 1;simp only[AJ,Ln,Lo,rN,rK,rL,tw, *,Bool.true_or,Bool.false_or,Bool.or_false]
 rintro⟨c⟩ js-;refine ar (λM=>?_) (λM=>?_);have J:cI [rN,rK,rL,tw] d.aJ=true:=M;have U:=P;simp only[mP,iZ,I,J,aW,y]at U;have T:r≠.out:=by
  rcases R with h|h;exfalso;revert h;simp[iZ,I,J];grind
 repeat (refine⟨Y, ?_⟩)
 exact ca hG (v_ U T) (λ_ _ q _ _ _ _ _ _ _=>⟨.inl (_,_,true),.inl ⟨rfl,P.trans q.symm⟩,rfl,ao [0,1]⟩) (cB:=hp) (ct:=hi) (cP:=ai);replace M:cI AJ d.aJ=false:=M;refine ar (λL=>?_) (λL=>?_);rw[gq]at L;replace L:bx d.aJ uK=true:=L;have J:cI [rN,rK,rL,tw] d.aJ=false:=M;have U:=P;simp only[mP,iZ,I,J,L,aW,y]at U;have T:r≠.out:=by{rcases R with h|h;exfalso;revert h;simp[iZ,I,J,L];grind};refine ar (λhb=>?_) (λhb=>?_);rw[hb,aW]at U;exact ba qS (x.p s) hl (hr.ls.dc 0 1 X X rfl rfl) λ_ _=>⟨.inr (_,_),⟨_,P.trans U.symm⟩,rfl,ao [1]⟩;rw[hb,y]at U;exact ca hG (v_ U T) (λ_ _ q _ _ _ _ _ _ _=>⟨.inl (_,_,true),.inl ⟨rfl,P.trans q.symm⟩,rfl,ao [0,1]⟩) (cB:=ai) (ct:=hi) (cP:=ai);rw[gq]at L;replace L:bx d.aJ uK=false:=L;refine⟨?_, ?_⟩
 ·refine ar (λe1=>⟨⟨c⟩,⟨I,M,L⟩,⟨rfl,rfl, ?_,ai⟩,ao [0,1,2]⟩) (λe1=>ar (λe2=>⟨⟨c⟩,⟨I,M,L⟩,⟨rfl,rfl, ?_,ai⟩,ao [0,1,2]⟩) (λe2=>ar (λe3=>⟨⟨c⟩,⟨I,M,L⟩,⟨rfl,rfl, ?_,ai⟩,ao [0,1,2]⟩) (λe3=>ar (λe4=>⟨⟨c⟩,⟨I,M,L⟩,⟨rfl,rfl, ?_,ai⟩,ao [0,1,2]⟩) (λe4=>⟨⟨c⟩,⟨I,M,L⟩,⟨rfl,rfl, ?_,ai⟩,ao [0,1,2]⟩))))
  all_goals
   simp only[gq]at*;show bool (bx d.aJ _)=bool (cI yt d.aJ);congr 1;simp only[yt,Ln,Lo,C6,C8,C5,C7,F3, *,Bool.true_or,Bool.false_or,Bool.or_false]
 rintro⟨c⟩ js-;refine ar (λh4=>?_) (λh4=>?_);rotate_left;have h4:cI yt d.aJ=false:=h4;simp only[yt,Ln,Lo,Bool.or_false,Bool.or_eq_false_iff]at h4;obtain⟨N,S,a3,a4,a5⟩:=h4;have hm:iZ x.L x.ae K.tv n d body=none:=by unfold iZ;rw[I,show cI [rN,rK,rL,tw] d.aJ=false from M,L,N,S,a3,a4,a5] <;> rfl
 exact⟨.inl (0,s,false),.inr ⟨rfl,hm,rfl⟩,rfl,ao [0,1]⟩;have g1:=hG.step hi;have z6:=hG.l;have z7:=hG.b;refine⟨_,ee λ_=>rfl,oK (i:=s.i) (gi hG.i hl),gM rfl rfl rfl,rfl,⟨x,s,s.az,1,_⟩,rfl,rfl,⟨λ_=>rfl,rfl,by simp[*],rfl,rfl⟩,ai,λ_ _=>?_⟩;refine⟨Y, ?_⟩;have J:cI [rN,rK,rL,tw] d.aJ=false:=M;refine ar (λN=>?_) (λN=>?_);rw[gq]at N;replace N:bx d.aJ C6=true:=N;have U:=P;simp only[mP,iZ,I,J,L,N,aW,y]at U;have T:r≠.out:=by{rcases R with h|h;exfalso;revert h;simp[iZ,I,J,L,N];grind};rw[mc]at U;refine ca g1 (fH U T) (λO t1 U g2 x4 x9 x2 x7 x0 y1=>?_) (cB:=ai) (ct:=ai) (cP:=ai);dsimp only[aj.sl,ap.az,ap.add]at x4 x9 x2 x7 x0 y1;intro lb;refine ca g2 (fH U T) (λa t2 U g3 x5 y0 x3 x8 x1 y2=>?_) (cB:=ai) (ct:=ai) (cP:=ai);dsimp only[aj.sl,ap.az,ap.add]at x5 y0 x3 x8 x1 y2;intro x6;refine ba (iN 1 8 rfl rfl rfl rfl rfl rfl rfl (by decide)) ⟨lT lb [O],a7 [O],some ⟨x6,0,none⟩,1,1,a7 [a]⟩ ⟨ki lb [O],rfl,xg _,ye (ki lb [O]) X,yf (ki lb [O]) X,λh=>nomatch h⟩ (yk 26030 rfl) λr2 M=>?_;replace M:bl 3 1 (a7 ([O]++[a])) r2:=by rw[xf];simp[*]
 refine ba kM ⟨x,t2,C4⟩ ⟨hl,g3.i⟩ (hr.ls.sub (bB 1)) ⟨λ_ q=>?_,λ_ q=>?_⟩;rw[mb q,aW]at U;have g4:=g3.is q;refine ca g4 (CO U T) (λb t3 U g5 y8 z3 y6 z1 y4 z5=>?_) (cB:=ai) (ct:=ai) (cP:=ai);dsimp only[aj.sl,ap.az,ap.add]at y8 z3 y6 z1 y4 z5;rw[jy]at U;intro y9;refine ba (iN 1 8 rfl rfl rfl rfl rfl rfl rfl (by decide)) ⟨r2,a7 ([O]++[a]),some ⟨y9,0,none⟩,1,1,a7 [b]⟩ ⟨M,rfl,xg _,ye M X,yf M X,λh=>nomatch h⟩ (yk 28030 rfl) λr3 L=>?_;replace L:bl 3 1 (a7 ([O,a]++[b])) r3:=by rw[show[O,a]++[b]=[O]++[a]++[b]from rfl,xf];grind
 refine⟨Y, ?_⟩;refine bG fy ⟨x,t3,⟨24,.empty,0,[O,a]++[b],d.au⟩,r3⟩ ⟨by have:=g5.aq hl;grind,L⟩ λ_ _=>?_;exact K2 (P.trans U.symm);rw[mO q,y,iX,jy]at U;refine⟨Y, ?_⟩;refine bG fy ⟨x,t2,⟨24,.empty,0,[O,a]++[],d.au⟩,r2⟩ ⟨by have:=g3.aq hl;grind,M⟩ λ_ _=>?_;exact K2 (P.trans U.symm);rw[gq]at N;replace N:bx d.aJ C6=false:=N;refine ar (λS=>?_) (λS=>?_);rw[gq]at S;replace S:bx d.aJ C8=true:=S;have U:=P;simp only[mP,iZ,I,J,L,N,S,aW,y]at U;have T:r≠.out:=by{rcases R with h|h;exfalso;revert h;simp[iZ,I,J,L,N,S];grind};rw[mc]at U;refine ca g1 (fH U T) (λO t1 U g2 x4 x9 x2 x7 x0 y1=>?_) (cB:=ai) (ct:=ai) (cP:=ai);dsimp only[aj.sl,ap.az,ap.add]at x4 x9 x2 x7 x0 y1;intro lb;refine ca g2 (fH U T) (λa t2 U g3 x5 y0 x3 x8 x1 y2=>?_) (cB:=ai) (ct:=ai) (cP:=(show t1.loops<(t1.i:Int)/\t1.d<(t1.i:Int) by omega));dsimp only[aj.sl,ap.az,ap.add]at x5 y0 x3 x8 x1 y2;rw[jy]at U;intro x6;refine ba (iN 1 8 rfl rfl rfl rfl rfl rfl rfl (by decide)) ⟨lT lb [O],a7 [O],some ⟨x6,0,none⟩,1,1,a7 [a]⟩ ⟨ki lb [O],rfl,xg _,ye (ki lb [O]) X,yf (ki lb [O]) X,λh=>nomatch h⟩ (yk 32030 rfl) λr2 M=>?_;replace M:bl 3 1 (a7 ([O]++[a])) r2:=by rw[xf];simp[*]
 refine⟨Y, ?_⟩;refine bG fy ⟨x,t2,⟨25,.empty,0,[O,a],d.au⟩,r2⟩ ⟨by have:=g3.aq hl;grind,M⟩ λ_ _=>?_;exact K2 (P.trans U.symm);rw[gq]at S;replace S:bx d.aJ C8=false:=S;refine ar (λa3=>?_) (λa3=>?_);rw[gq]at a3;replace a3:bx d.aJ C5=true:=a3;have U:=P;simp only[mP,iZ,I,J,L,N,S,a3,aW,y]at U;have T:r≠.out:=by{rcases R with h|h;exfalso;revert h;simp[iZ,I,J,L,N,S,a3];grind};rw[mc]at U;refine⟨Y, ?_⟩;exact ca g1 (v_ U T) (λ_ _ q _ _ _ _ _ _ _=>⟨.inl (_,_,true),.inl ⟨rfl,P.trans q.symm⟩,rfl,ao [0,1]⟩) (cB:=hp) (ct:=ai) (cP:=ai);rw[gq]at a3;replace a3:bx d.aJ C5=false:=a3;refine ar (λa4=>?_) (λa4=>?_);rw[gq]at a4;replace a4:bx d.aJ C7=true:=a4;have U:=P;simp only[mP,iZ,I,J,L,N,S,a3,a4,aW,y]at U;have T:r≠.out:=by{rcases R with h|h;exfalso;revert h;simp[iZ,I,J,L,N,S,a3,a4];grind};rw[mc]at U;refine⟨Y, ?_⟩;exact ca g1 (v_ U T) (λ_ _ q _ _ _ _ _ _ _=>⟨.inl (_,_,true),.inl ⟨rfl,P.trans q.symm⟩,rfl,ao [0,1]⟩) (cB:=hp) (ct:=ai) (cP:=ai);rw[gq]at a4;replace a4:bx d.aJ C7=false:=a4;have a5:bx d.aJ F3=true:=by{have h4:cI yt d.aJ=true:=h4;simpa only[yt,Ln,Lo,N,S,a3,a4,Bool.false_or,Bool.or_false]using h4};have U:=P;simp only[mP,iZ,I,J,L,N,S,a3,a4,a5,aW,y]at U;have T:r≠.out:=by{rcases R with h|h;exfalso;revert h;simp[iZ,I,J,L,N,S,a3,a4,a5];grind};rw[mc]at U;refine⟨Y, ?_⟩;exact ca g1 (v_ U T) (λ_ _ q _ _ _ _ _ _ _=>⟨.inl (_,_,true),.inl ⟨rfl,P.trans q.symm⟩,rfl,ao [0,1]⟩) (cB:=hp) (ct:=ai) (cP:=ai)
def apH:aG 47 mf:=oI func47 apG apF apI
def I_(L:List a8)(ae:Int)(tv:Nat->ah)(f:Nat)(au:Int):j (aM):=do
 let e <-one (P L ae tv bo f .bf)
 eh L ae
 cj ⟨20,.empty,0,[e],au⟩
def aoJ{L:List a8}{ae:Int}{tv:Nat->ah}{f:Nat}{body:Bool}{s:ap}(a:K L s 0 lc=false)(b:K L s 0 dt=false)(c:((I L ae s).ak==2)=true):P L ae tv bo (f+1) (.cw body) s=(match iZ L ae tv f (I L ae s) body with|some m=>m s|none=>I_ L ae tv f (I L ae s).au s):=by
 rw[P,o7,nt,a,y,b,y,c,aW];unfold iZ;cases bx (I L ae s).aJ oi with
 |true=>rfl
 |false=>
  rw[y,y];cases cI [rN,rK,rL,tw] (I L ae s).aJ with
  |true=>rfl
  |false=>
   rw[y,y];cases bx (I L ae s).aJ uK with
   |true=>rfl
   |false=>
    rw[y,y];cases bx (I L ae s).aJ C6 with
    |true=>rfl
    |false=>
     rw[y,y];cases bx (I L ae s).aJ C8 with
     |true=>rfl
     |false=>
      rw[y,y];cases bx (I L ae s).aJ C5 with
      |true=>rfl
      |false=>
       rw[y,y];cases bx (I L ae s).aJ C7 with
       |true=>rfl
       |false=>
        rw[y,y];cases bx (I L ae s).aJ F3 with
        |true=>rfl
        |false=>rfl
def amz(x:bc Bool)(F:ag):Nat->Option Inv:=fun
 |12=>some {X:=jA,P:=λ_=>I_ x.x.L x.x.ae x.K.tv x.n (I x.x.L x.x.ae x.s).au x.s=bm x.K x.x (x.n+1) (.cw x.t) x.s,mu:=λ_=>0,lv:=λd=>[(0,W (jQ x)),(5,qi d)],st:=λd=>[G x.x x.s,F,Ht d.c (I x.x.L x.x.ae x.s)]}
 |_=>none
def amA(x:bc Bool)(a:ag):List (Nat×Nat×OH):=[(1,1,aI jf),(1,2,.n 2020),(1,3,.w (eT 2020)),(2,1,aI gU),(3,1,q (cv x.n 45)),(4,1,aI gU),(5,1,q yX),(6,3,cD),(6,7,dU fQ),(8,1,z 2020),(9,1,.q (eT 2020)),(9,3,q mf),(12,1,q (cv x.n 10)),(13,1,q tc),(14,2,.n 15020),(14,4,z 2),(14,6,.c fO [0,15020] [0])]
abbrev Cn(x:bc Bool)(F:ag)(o:Nat)(q:dm):=[(0,G x.x x.s),(1,F),(2020,D o (q0 q) 56)]
abbrev Cs(a:bc Bool):aN:=[Z (I a.x.L a.x.ae a.s).ak,C (I a.x.L a.x.ae a.s).aJ,float f64 (I a.x.L a.x.ae a.s).aT,Z (I a.x.L a.x.ae a.s).au,H (I a.x.L a.x.ae a.s).aB]
def QP(a:bc Bool)(e1:ag)(c:aD)(b:St):=∃(z:jA),I_ a.x.L a.x.ae a.K.tv a.n (I a.x.L a.x.ae a.s).au a.s=bm a.K a.x (a.n+1) (aj.cw a.t) a.s/\(W (jQ a)=W (jQ a)/\c=W (xX z)/\True)/\ay b [(0,G a.x a.s),(1,e1),(2,D z.c (Cs a) 56)]
def amC(x:bc Bool)(F:ag)(hc:aF.cond (bh (λ(b:Bool)=>aj.cw b)) x)(O:aF.aE (bh (λ(b:Bool)=>aj.cw b)) x F):fq [W (jQ x)] (g [(0,G x.x x.s),(1,F)] []) (λq p=>∀(o:Nat),bQ o (gP [W (jQ x),Z 0,C ⟨#[123]⟩] (g (Cn x F o q) []) (λn m=>Br (iS n.p.L (n.p.i+n.a) n.t) (cd x.n 45 [W (jQ x),H false] [G x.x x.s] (g (Cn x F o q) [0]) (λc b=>l (bh λ(a:Bool)=>aj.cw a) x F (ku b) [(0,G c.x b.snd),(1,F),(2020,D o (q0 q) 56)]) (λc b=>l (bh λ(a:Bool)=>aj.cw a) x F (q8 b) [(0,aY),(1,F),(2020,D o (q0 q) 56)])) (gP [W (jQ x),Z 0,C ⟨#[59]⟩] (g (Cn x F o q) []) (λt k=>Br (iS t.p.L (t.p.i+t.a) t.t) (GD [W (jQ x)] [G x.x x.s] (g (Cn x F o q) [0]) (λf e=>T1 (G f.x (f.s.add ⟨(36:Int),ByteArray.empty,0,[],(I f.x.L f.x.ae f.s).au⟩)) ⟨x.x.b,1,none⟩ (λd=>aA (d+1)/\dM (aL f17 6 7) [W (some ⟨x.x.b,1,none⟩),Z (d+1)] [G f.x (f.s.add ⟨(36:Int),ByteArray.empty,0,[],(I f.x.L f.x.ae f.s).au⟩)] (λc b=>l (bh λ(a:Bool)=>aj.cw a) x F (al (Z ↑f.s.a.length)) [(0,G c.x c.t),(1,F),(2020,D o (q0 q) 56)])))) ((V o 0/\Br ((b_ q.L q.ae q.i).ak==2) (bQ o (aG 47 mf/\true=true/\∃(c:kC),[W (jQ x),agg ⟨q0 q⟩,H x.t]=[W (nf c),agg ⟨q9 c⟩,H c.body]/\[G x.x x.s]=[G c.x c.s]/\((∀(a:FuncId),aG a (cv c.n a))/\hW c.K c.x/\PG c.x c.s c.os/\c.d=I c.x.L c.x.ae c.s/\c.s.i<c.x.L.length/\(iZ c.x.L c.x.ae c.K.tv c.n c.d c.body=none\/mP c.x.L c.x.ae c.K.tv c.n c.d c.body c.s≠PR.out))/\dj c.K c.x (g (Cn x F o q) [0])/\(∀(b:Int×ap×Bool),(b.snd.snd=true/\mP c.x.L c.x.ae c.K.tv c.n c.d c.body c.s=PR.ok [b.fst] b.snd.fst\/b.snd.snd=false/\iZ c.x.L c.x.ae c.K.tv c.n c.d c.body=none/\b.snd.fst=c.s)->Br b.snd.snd (l (bh λ(a:Bool)=>aj.cw a) x F (al (Z b.fst)) [(0,G c.x b.snd.fst),(1,F),(2020,D o (q0 q) 56)]) (QP x F (bL o) [(0,G c.x b.snd.fst),(1,F),(2020,D o (q0 q) 56)]))/\∀(b:Int×Int),(∃(a:ap),mP c.x.L c.x.ae c.K.tv c.n c.d c.body c.s=PR.stop b.fst b.snd a)->l (bh λ(a:Bool)=>aj.cw a) x F (q8 b) [(0,aY),(1,F),(2020,D o (q0 q) 56)])) (QP x F (bL o) (Cn x F o q)))/\aQ λ(j:jA)_=>I_ x.x.L x.x.ae x.K.tv x.n (I x.x.L x.x.ae x.s).au x.s=bm x.K x.x (x.n+1) (aj.cw x.t) x.s->cd x.n 10 [W (jQ x)] [G x.x x.s] (g [(0,G x.x x.s),(1,F),(2,D j.c (Cs x) 56)] [0]) (λh v=>DB [W (jQ x)] [G h.x v.snd] (g [(0,G h.x v.snd),(1,F),(2,D j.c (Cs x) 56)] [0]) (λf e=>∀(d:Nat),V j.c 3/\c7 [W (jQ x),agg ⟨[Z 20,C ⟨#[]⟩,float f64 0,Q (bq d) 1 1,Z (I x.x.L x.x.ae x.s).au]⟩] [G f.x e,D d (bI v) 3] (λc b=>l (bh λ(a:Bool)=>aj.cw a) x F (fG c) [(0,G c.x (c.s.add c.n)),(1,F),(2,D j.c (Cs x) 56),(15020,aY)])) (λf b=>l (bh λ(a:Bool)=>aj.cw a) x F (zF b) [(0,aY),(1,F),(2,D j.c (Cs x) 56)])) (λh b=>l (bh λ(a:Bool)=>aj.cw a) x F (q8 b) [(0,aY),(1,F),(2,D j.c (Cs x) 56)]))))))):=by
 delta fq jQ rC gP q0 Cn cd ku q8 GD T1 mK mL dM nf q9 xX Cs QP bq bL oY o4 DB lB c7 bI kV fG zF g G V aA bQ bz dK dP lh Z C H W Q ce D aY al aQ;obtain⟨w,x,s,os,n,B⟩:=x;obtain⟨ih,T,M,hp,x4,x3,S⟩:=hc;replace O:dj w x F:=O;replace S:bm w x (n+1) (.cw B) s≠.out:=S;dsimp only at ih T M hp x4 x3⊢;obtain⟨r,E⟩:∃r,bm w x (n+1) (.cw B) s=r:=⟨_,rfl⟩;rw[E]at S;have U:=E;unfold bm at U;rw[P]at U;have N:=T.len;rw[o7,nt]at U;refine ba lR (x.p s) N (O.ls.dc 0 1 X X rfl rfl) λ_ _ c=>?_
 repeat (refine⟨Y, ?_⟩)
 refine ba kO ⟨x.p s,0,lc⟩ ⟨N,by have:=M.i;show s.i<=1048576;omega,by simp[*]⟩ (O.ls.dc 0 1 X X rfl rfl) λ_ _=>?_;refine ar (λR=>?_) (λR=>?_);rw[show K x.L s 0 lc=true from R,aW]at U;exact ca M (v_ U S) (λ_ _ q _ _ _ _ _ _ _=>eD (E.trans q.symm)) (cB:=ai) (ct:=ai) (cP:=ai);replace R:K x.L s 0 lc=false:=R;rw[R,y]at U;refine ba kO ⟨x.p s,0,dt⟩ ⟨N,by have:=M.i;show s.i<=1048576;omega,by simp[*]⟩ (O.ls.dc 0 1 X X rfl rfl) λ_ _=>?_;refine ar (λA=>?_) (λA=>?_);replace A:K x.L s 0 dt=true:=A;rw[A,aW,O3,mc,C0]at U;have hi:=p9 A;have x9:=M.aq N;have x2:=M.i;refine ba K5 ⟨x,s⟩ ⟨N,by grind⟩ (O.ls.sub (bB 1)) λ_ _=>?_;refine⟨_,ee λ_=>rfl,oK (i:=s.i) (gi x2 N),gM rfl rfl rfl,rfl,⟨x,s.add ⟨36,.empty,0,[],(I x.L x.ae s).au⟩,(s.add ⟨36,.empty,0,[],(I x.L x.ae s).au⟩).az,1,_⟩,rfl,rfl,⟨λ_=>rfl,rfl,by simp[*],rfl,rfl⟩,ai,λ_ _=>?_⟩;exact eD (E.trans U.symm);replace A:K x.L s 0 dt=false:=A;rw[A,y]at U;refine⟨⟨Y,ar (λJ=>?_) (λJ=>?_)⟩, ?_⟩;replace J:((I x.L x.ae s).ak==2)=true:=J;have hi:s.i<x.L.length:=zf J (by decide);have e1:=aoJ (L:=x.L) (ae:=x.ae) (tv:=w.tv) (f:=n) (body:=B) R A J;have hw:iZ x.L x.ae w.tv n (I x.L x.ae s) B=none\/mP x.L x.ae w.tv n (I x.L x.ae s) B s≠.out:=by
  cases hm:iZ x.L x.ae w.tv n (I x.L x.ae s) B with
  |none=>exact .inl rfl
  |some m=>
   rw[hm]at e1;refine .inr λe=>S ?_;rw[mP,hm]at e;grind
 have eR:∀{z:PR (aM)},mP x.L x.ae w.tv n (I x.L x.ae s) B s=z->z≠.out->bm w x (n+1) (.cw B) s=z:=λ{z}e hy=>by{unfold bm;rw[e1];unfold mP at e;grind}
 repeat (refine⟨Y, ?_⟩)
 refine ba apH ⟨w,x,s,os,n,I x.L x.ae s,B⟩ ⟨ih,T,M,rfl,hi,hw⟩ (O.sub (bB 1)) ⟨λa q=>ar (λhb=>?_) (λhb=>?_),λa⟨u,q⟩=>⟨.inr a,⟨u,eR q (λe=>nomatch e)⟩,rfl,ao [1]⟩⟩;rcases q with⟨_,q⟩| ⟨q,_⟩;exact⟨.inl (a.1,a.2.1),eR q (λe=>nomatch e),rfl,ao [0,1]⟩;grind;rcases q with⟨q,_⟩| ⟨_,q,e⟩;grind;obtain⟨k,u,b⟩:=a;have e:u=s:=e;subst e;refine⟨⟨c⟩, ?_,aU,ao [0,1,2020]⟩;grind;replace J:((I x.L x.ae s).ak==2)=false:=J;rw[J,y]at U;exact⟨⟨c⟩,U.trans E.symm,aU,ao [0,1,2020]⟩;clear U;rintro⟨c⟩ js U;rw[E,I_]at U;refine ca M (fH U S) (λe t1 U g1 x5 x7 x1 x6 x0 x8=>?_) (cB:=ai) (ct:=ai) (cP:=ai);dsimp only[aj.sl,ap.az,ap.add]at x5 x7 x1 x6 x0 x8;refine ba Wx ⟨x,t1⟩ ⟨N,g1.i⟩ (O.ls.sub (bB 1)) ⟨λu q=>?_,λp q=>⟨.inr (p,60),⟨_,E.trans (U.symm.trans (WK q))⟩,rfl,ao [1]⟩⟩;rw[WJ q,jy]at U;obtain⟨g2,-⟩:=PG.Av T g1 q;intro lb;refine⟨Y, ?_⟩;refine bG fy ⟨x,u,⟨20,.empty,0,[e],(I x.L x.ae s).au⟩,lT lb [e]⟩ ⟨by have:=g2.aq N;grind,ki lb [e]⟩ λ_ _=>?_;exact eD (E.trans U.symm)
def amB:aG 17 (bh (λ(b:Bool)=>aj.cw b)):=oI func17 amA amz amC
def SM:∀(n:Nat)(bA:FuncId),aG bA (cv n bA)
 |0,bA=>⟨λq F I w c f g=>absurd rfl c.2.2.2.2.2.2⟩
 |n+1,bA=>⟨λq F I w c f g=>by
  have i:=SM n;obtain⟨K,x,s,j,a⟩:=q;have e:a.bA=some bA:=c.2.2.1;cases a with
  |bf=>cases e;exact(nX ag2 (λa h=>by cases a <;> first|exact⟨(),rfl⟩|cases h) i).h _ F I w c f g
  |cond=>cases e;exact(nX afP (λa h=>by cases a <;> first|exact⟨(),rfl⟩|cases h) i).h _ F I w c f g
  |level m=>cases e;exact(nX alM (λa h=>by cases a <;> first|exact⟨_,rfl⟩|cases h) i).h _ F I w c f g
  |unary=>cases e;exact(nX apa (λa h=>by cases a <;> first|exact⟨(),rfl⟩|cases h) i).h _ F I w c f g
  |eo=>cases e;exact(nX afq (λa h=>by cases a <;> first|exact⟨(),rfl⟩|cases h) i).h _ F I w c f g
  |suffix=>cases e;exact(nX amc (λa h=>by cases a <;> first|exact⟨(),rfl⟩|cases h) i).h _ F I w c f g
  |dL=>cases e;exact(nX al7 (λa h=>by cases a <;> first|exact⟨(),rfl⟩|cases h) i).h _ F I w c f g
  |func k=>cases e;exact(nX alp (λa h=>by cases a <;> first|exact⟨_,rfl⟩|cases h) i).h _ F I w c f g
  |block b=>cases e;exact(nX ak0 (λa h=>by cases a <;> first|exact⟨_,rfl⟩|cases h) i).h _ F I w c f g
  |paren=>cases e;exact(nX amh (λa h=>by cases a <;> first|exact⟨(),rfl⟩|cases h) i).h _ F I w c f g
  |vars=>cases e;exact(nX amU (λa h=>by cases a <;> first|exact⟨(),rfl⟩|cases h) i).h _ F I w c f g
  |loop=>cases e;exact(nX ajr (λa h=>by cases a <;> first|exact⟨(),rfl⟩|cases h) i).h _ F I w c f g
  |dv p=>cases e;exact(nX ali (λa h=>by cases a <;> first|exact⟨_,rfl⟩|cases h) i).h _ F I w c f g
  |d5 p=>cases e;exact(nX amG (λa h=>by cases a <;> first|exact⟨_,rfl⟩|cases h) i).h _ F I w c f g
  |choose p=>cases e;exact(nX ak_ (λa h=>by cases a <;> first|exact⟨_,rfl⟩|cases h) i).h _ F I w c f g
  |simple d=>cases e;exact(nX amv (λa h=>by cases a <;> first|exact⟨_,rfl⟩|cases h) i).h _ F I w c f g
  |cw b=>cases e;exact(nX amB (λa h=>by cases a <;> first|exact⟨_,rfl⟩|cases h) i).h _ F I w c f g
  |_=>cases e⟩
section
def Wz(b:aM)(ks:aM)(v:Int):aM:=ks.foldl (λa k=>a.set k.toNat v) b
def sj(ns:List aR):Nat->aM->Bool
 |0,_=>false
 |i+1,a=>bif decide (a.getD i 0>=48) then true else sj ns i (Wz a (((ns[i]?).map (·.b)).getD []) (a.getD i 0+1))
def mZ(ns:List aR):Bool:=sj ns ns.length (List.replicate ns.length 0)
def mi(ns:List aR)(vs:aN):Prop:=rR (λx v=>∃a n aq,v= .slice a n aq/\e6 1 (a7 x.b) a n/\n<=aq) ns vs
variable{k:Int}{ns:List aR}{vs:aN}
theorem AX.pure{I:aX}(h:AX I ns vs):mi ns vs:=rR.mono (λ_ _⟨a,n,aq,e,b,_⟩=>⟨a,n,aq,e,b⟩) h
theorem KM{α β:Type}{R:α->β->Prop}:∀{l:List α}{m:List β},rR R l m->∀(i:Nat)(a:α),l[i]?=some a->∃b,m[i]?=some b/\R a b
 |a::l,b::m,h,0,c,e=>by
  have e:a=c:=by simpa using e
  subst e;exact⟨b,rfl,h.1⟩
 |a::l,b::m,h,i+1,c,e=>by
  obtain⟨d,f,g⟩:=KM h.2 i c (by simpa using e);exact⟨d,by simpa using f,g⟩
 | [],_,_,i,c,e=>by simp at e
 |_::_,[],h,_,_,_=>h.elim
theorem Zq{i j:Nat}{d:aR}{b o n aq:Nat}(m:ns[i]?=some d)(p:vs[i]?=some (.slice (some ⟨b,o,none⟩) n aq))(U:d.b[j]?=some k):aH (gx ns vs) ⟨b,o+j,none⟩ (.int .i64 k):=⟨λI h t l g=>by
 obtain⟨v,e,q,s,c,e1,r,f⟩:=KM (show AX I ns vs from g) i d m;rw[p]at e;cases e;cases e1;have a:aX.le I h:=l;have:=Yo a (f ⟨b,o,none⟩ rfl j (.int .i64 k) (by unfold a7;rw[fZ,U] <;> rfl));rw[oC]at this;exact this⟩
structure rX where
 x:bY
 s:ap
 y:fT
 os:aM
abbrev sQ(x:rX):bv:=some ⟨x.x.b,0,none⟩
abbrev OI(x:rX):=D x.x.b [Q x.x.la x.x.L.length x.x.lc,Z x.s.i,Z x.x.ae,Q x.y.r.a x.y.r.n x.y.r.aq,Z x.s.h,Z x.s.loops,Z x.s.d] 41
abbrev By:aF where
 X:=rX
 args x:=[W (sQ x)]
 pre x:=[OI x,x.y.r.A,gx x.s.a x.y.vs]
 cond x:=x.y.ok x.s.a/\mi x.s.a x.y.vs/\bM x.x.ae x.s x.os/\x.s.a.length<=4194304
 val x _:=al (H (mZ x.s.a))
 post x _:=[OI x,x.y.r.A,gx x.s.a x.y.vs]
structure qB where
 i:Nat
 ab:aM
 b:Nat
 j:Nat
 a:bv
 n:Nat
 aq:Nat
 d:aR
abbrev vS(d:qB):bv:=some ⟨d.b,0,none⟩
abbrev IJ(d:qB):=D d.b (a7 d.ab) 3
def agE(x:rX)(F:ag):Nat->Option Inv:=fun
 |0=>some {X:=qB,P:=λd=>d.i<=x.s.a.length/\d.ab.length=x.s.a.length/\(∀k∈d.ab,0<=k/\k<=48)/\sj x.s.a d.i d.ab=mZ x.s.a,mu:=λd=>d.i,lv:=λd=>[(0,W (sQ x)),(3,Q (vS d) x.s.a.length x.s.a.length),(4,Z ((d.i:Int)-1))],st:=λd=>[OI x,x.y.r.A,gx x.s.a x.y.vs,F,IJ d]}
 |2=>some {X:=qB,gh:=some ⟨Nat,λd=>d.i⟩,P:=λd=>x.s.a[d.i]?=some d.d/\x.y.vs[d.i]?=some (.slice d.a d.n d.aq)/\e6 1 (a7 d.d.b) d.a d.n/\d.j<=d.n/\d.ab.length=x.s.a.length/\(∀k∈d.ab,0<=k/\k<=48)/\d.ab.getD d.i 0<48/\sj x.s.a d.i (Wz d.ab (d.d.b.drop d.j) (d.ab.getD d.i 0+1))=mZ x.s.a,mu:=λd=>d.n-d.j,lv:=λd=>[(0,W (sQ x)),(3,Q (vS d) x.s.a.length x.s.a.length),(4,Z d.i),(35,Q d.a d.n d.aq),(36,Z d.n),(37,Z d.j)],st:=λd=>[OI x,x.y.r.A,gx x.s.a x.y.vs,F,IJ d]}
 |_=>none
theorem p8{l:aM}{i:Nat}(h:l[i]?=some k):(a7 l)[i]?=some (.int .i64 k):=by unfold a7;rw[fZ,h] <;> rfl
theorem Zh(l:aM)(i:Nat)(k:Int):(a7 l).set i (.int .i64 k)=a7 (l.set i k):=by unfold a7;rw[List.map_set]
theorem ab5(n:Nat):ij [.int .i64 0] n=a7 (List.replicate n 0):=by rw[ab6];unfold a7;simp
def Km(b:Oper):=zb b (vz (3:TypeId) [Z 0] 8) (λa=>0<=a.n/\a.n<=a.c/\a.c*(↑(8:Nat):Int)<=281474976710656/\a.c<=9223372036854775807)
def MC(b:qB)(x:rX):=b.i<=x.s.a.length/\b.ab.length=x.s.a.length/\(∀(a:Int),a∈b.ab->0<=a/\a<=48)/\sj x.s.a b.i b.ab=mZ x.s.a
abbrev zz(x:rX):aN:=[Q x.x.la x.x.L.length x.x.lc,Z ↑x.s.i,Z x.x.ae,Q x.y.r.a x.y.r.n x.y.r.aq,Z x.s.h,Z x.s.loops,Z x.s.d]
abbrev xV(x:rX)(F:ag)(b:qB):=[(0,D x.x.b (zz x) 41),(1,x.y.r.A),(2,fN (Kf.rest x.s.a x.y.vs)),(3,F),(4,D b.b (a7 b.ab) 3)]
def OF(x:rX)(b:qB)(h:Nat):=(x.s.a[b.i]?=some b.d/\x.y.vs[b.i]?=some (Q b.a b.n b.aq)/\e6 1 (a7 b.d.b) b.a b.n/\b.j<=b.n/\b.ab.length=x.s.a.length/\(∀(a:Int),a∈b.ab->0<=a/\a<=48)/\b.ab.getD b.i (0:Int)<(48:Int)/\sj x.s.a b.i (Wz b.ab (List.drop b.j b.d.b) (b.ab.getD b.i (0:Int)+(1:Int)))=mZ x.s.a)/\b.i=h
theorem agF(x:rX)(F:ag)(hc:By.cond x)(hr:By.aE x F):V x.x.b 3/\Km (aL f21 1 5) [Z ↑x.y.r.n,Z ↑x.y.r.n] (λq p=>V x.x.b 3/\aA ((x.y.r.n:Int)-1)/\(∃(b:qB),MC b x/\(W (sQ x)=W (sQ x)/\Q (bq p) q.n.toNat q.c.toNat=Q (vS b) x.s.a.length x.s.a.length/\Z ((x.y.r.n:Int)-1)=Z ((b.i:Int)-1)/\True)/\ay [(0,D x.x.b (zz x) 41),(1,x.y.r.A),(2,fN (Kf.rest x.s.a x.y.vs)),(3,F),(2050,D p (ij [Z 0] q.c.toNat) 3)] (xV x F b))/\aQ λ(o:qB)_=>MC o x->aK ((o.i:Int)-1>=(0:Int)) ((0<=(o.i:Int)-1/\(o.i:Int)-1<(x.s.a.length:Int))/\T1 (IJ o) ⟨o.b,0+((o.i:Int)-1).toNat*1,none⟩ (λm=>aK (m>=48) (l By x F gc (xV x F o)) (V x.x.b 3/\fV (aL f21 7 5) [Q x.y.r.a x.y.r.n x.y.r.aq,Z ((o.i:Int)-1)] (λf=>dN x.y.r.A ⟨f.b,f.o+f.n.toNat*5+3,none⟩ (λk j i=>∃(h:Nat),(∃(b:qB),OF x b h/\(W (sQ x)=W (sQ x)/\Q (vS o) x.s.a.length x.s.a.length=Q (vS b) x.s.a.length x.s.a.length/\Z ((o.i:Int)-1)=Z ↑b.i/\Q k j i=Q b.a b.n b.aq/\Z ↑j=Z ↑b.n/\Z 0=Z ↑b.j/\True)/\ay (xV x F o) (xV x F b))/\aQ λ(g:qB)_=>OF x g h->aK ((g.j:Int)<(g.n:Int)) (b9 (aL f21 9 0) [Q g.a g.n g.aq,Z ↑g.j] (λe=>T1 (fN (Kf.rest x.s.a x.y.vs)) ⟨e.b,e.o+e.n.toNat*1,none⟩ (λd=>(0<=(g.i:Int)/\(g.i:Int)<(x.s.a.length:Int))/\T1 (IJ g) ⟨g.b,0+(g.i:Int).toNat*1,none⟩ (λc=>aA (c+1)/\(0<=d/\d<x.s.a.length)/\(d6 ⟨g.b,0+d.toNat*1,none⟩ g.b/\0+d.toNat*1<(a7 g.ab).length)/\aA ((g.j:Int)+1)/\∃(b:qB),OF x b h/\(W (sQ x)=W (sQ x)/\Q (vS g) x.s.a.length x.s.a.length=Q (vS b) x.s.a.length x.s.a.length/\Z ↑g.i=Z ↑b.i/\Q g.a g.n g.aq=Q b.a b.n b.aq/\Z ↑g.n=Z ↑b.n/\Z ((g.j:Int)+1)=Z ↑b.j/\True)/\ay [(0,D x.x.b (zz x) 41),(1,x.y.r.A),(2,fN (Kf.rest x.s.a x.y.vs)),(3,F),(4,D g.b ((a7 g.ab).set (0+d.toNat*1) (Z (c+1))) 3)] (xV x F b)/\b.n-b.j<g.n-g.j)))) (aA ((g.i:Int)-1)/\∃(b:qB),MC b x/\(W (sQ x)=W (sQ x)/\Q (vS g) x.s.a.length x.s.a.length=Q (vS b) x.s.a.length x.s.a.length/\Z ((g.i:Int)-1)=Z ((b.i:Int)-1)/\True)/\ay (xV x F g) (xV x F b)/\b.i<o.i)))))) (l By x F cm (xV x F o))):=by
 delta Km MC sQ bq vS zz xV T1 IJ gc fV dN OF b9 cM cm V aA zb Z H W Q D fN aK al aQ;obtain⟨⟨b,la,lc,L,ae⟩,s,y,os⟩:=x;obtain⟨R,U,N,hn⟩:=hc;dsimp only at R U N hn⊢;have hl:=R.len;have hz:∀(i:Nat)(d:aR),s.a[i]?=some d->∀k∈d.b,0<=k/\k<(i:Int):=λi d r k z=>
  ⟨(Sg (N.rn.mem_iff.1 (ra _ (List.mem_flatMap.2 ⟨d,iz r,z⟩)))).1,(N.b i d r).2 k z⟩
 refine⟨Y,Eo (P:=prog) [.int .i64 0] 8 rfl rfl rfl rfl rfl rfl X rfl,rfl,⟨y.r.n,y.r.n⟩,rfl,rfl,⟨by simp[*],by simp[*],by grind,by grind⟩,ai,λB _=>⟨Y,aC,⟨⟨s.a.length,List.replicate s.a.length 0,B,0,none,0,0,⟨0,⟨#[]⟩,0,[],0⟩⟩,⟨bK _,List.length_replicate ..,λk z=>by grind,rfl⟩,⟨rfl, ?_, ?_,ai⟩, ?_⟩, ?_⟩⟩;simp[*];simp[*];dsimp only;rw[show ij [.int .i64 0] (y.r.n:Int).toNat=a7 (List.replicate s.a.length 0) by rw[cy,ab5,hl]];exact ao [0,1,2,3,2050];have x4:∀(i:Nat)(d:aR),s.a[i]?=some d->d.b.length<=s.a.length:=by{intro i d r;have K:=N.rn.length_eq;have M:d.b.length<=(s.a.flatMap (·.b)).length:=by{rw[List.flatMap_def];exact(List.sublist_flatten_of_mem (List.mem_map.2 ⟨d,iz r,rfl⟩)).length_le};unfold oL at K;grind};rintro⟨i,t,B,_,_,_,_,_⟩ js ⟨K,M,h3,u⟩;dsimp only at K M h3 u⊢;refine bd (λx1=>?_) (λw=>⟨(),ai, ?_,ao [0,1,2,3]⟩);obtain⟨n,rfl⟩:∃n,i=n+1:=⟨i-1,O⟩;rw[show((n+1:Nat):Int)-1=(n:Int) by omega];obtain⟨d,r⟩:∃d,s.a[n]?=some d:=⟨_,da O⟩;obtain⟨v,hv,ka,kn,kc,rfl,I,-⟩:=KM U n d r;obtain⟨m,hm⟩:∃m,t[n]?=some m:=⟨_,da O⟩;have G:t.getD n 0=m:=by simp[*]
 rw[sj,G,r]at u;obtain⟨rb,ha⟩:=R.1.KO O;have x3:aH y.r.A ⟨rb,0+n*5+3,none⟩ (.slice ka kn kc):=by{have hs:=R.1.FY;rw[ha]at hs;have:=hs.look (K6 s.a y.vs n 3 d _ _ r hv rfl);omega};refine⟨aC,m,aH.cells (by rw[cy];exact p8 (by simp[*])),bd (λw=>⟨(),ai, ?_,ao [0,1,2,3]⟩) (λx2=>⟨Y,bZ 5 rfl rfl rfl rfl,⟨rb,0,y.r.n,y.r.aq,n⟩,by rw[ha],⟨by simp[*],by grind⟩,ka,kn,kc, ?_,n,⟨⟨n,t,B,0,ka,kn,kc,d⟩,⟨⟨r,hv,I,b7 _,M,h3,by grind, ?_⟩,rfl⟩,aU,ao [0,1,2,3,4]⟩, ?_⟩)⟩;rw[show decide (m>=48)=true from bp w,aW]at u;show returned (.bool true)=returned (.bool (mZ s.a));rw[<-u];grind;grind;clear hm G u r hv I x3 K M h3;rintro⟨i,t,B,j,a,q,c,d⟩ js ⟨⟨C,S,J,g4,g5,T,g7,E⟩,rfl⟩;dsimp only at C S J g4 g5 T g7 E⊢;have x7:d.b.length=q:=by{have:=J.len;unfold a7 at this;grind};have hi:i<s.a.length:=(ic.1 C).1;have x8:=x4 i d C;obtain⟨m,hm⟩:∃m,t[i]?=some m:=⟨_,da O⟩;have G:t.getD i 0=m:=by grind
 have x5:=T m (iz hm);rw[G]at g7 E;refine bd (λx1=>?_) (λw=>⟨aC,⟨i,t,B,0,a,q,c,d⟩,⟨by grind,g5,T, ?_⟩,aU,ao [0,1,2,3,4],by simp[*]⟩);obtain⟨b',o',rfl⟩:=J.some O;obtain⟨k,A⟩:∃k,d.b[j]?=some k:=⟨_,da O⟩;have x9:=hz i d C k (iz A);refine⟨bZ 1 rfl rfl rfl rfl,⟨b',o',q,c,j⟩,rfl,⟨by simp[*],O⟩,k, ?_,aC,m,aH.cells (by rw[cy];exact p8 (by grind)),aC,aC,⟨Y, ?_⟩,aC,⟨i,t.set k.toNat (m+1),B,j+1,some ⟨b',o',none⟩,q,c,d⟩,⟨⟨C,S,J,by grind, ?_, ?_, ?_, ?_⟩,rfl⟩,aU, ?_,by grind⟩;rw[cy,Nat.mul_one];exact Zq C S A;unfold a7;grind;simp[*];grind;grind;dsimp only;rw[eG,List.getElem?_set_ne O,<-eG,G];have x0:d.b.drop j=k::d.b.drop (j+1):=by{obtain⟨x6,rfl⟩:=ic.1 A;simp[*]};rw[x0]at E;exact E;dsimp only;rw[gZ,Nat.mul_one,Zh];exact ao [0,1,2,3,4];dsimp only;rw[List.drop_eq_nil_of_le O]at E;exact E;have:i=0:=by omega
 subst this;rw[sj]at u;show returned (.bool false)=returned (.bool (mZ s.a));rw[<-u]
theorem YE:aG 21 By:=mt func21 (λ_ _=>[(1,3,z 0),(1,5,.o (vz 3 [.int .i64 0] 8) [] [2050]),(2,3,z 0),(5,3,.q [.ex 4 (.int .i64)]),(7,3,z 0),(7,5,.qo (dy 5)),(7,7,.q [.ex 1 .slice]),(9,0,.qo (dy 1)),(9,1,.q [.ex 2 (.int .i64)]),(10,5,.q [.ex 4 (.int .i64)]),(10,8,.w [.ex 4 .any])]) agE agF
end
section
def ps(L:List a8)(ae:Int)(aO:Nat->ah)(wide:ah->ah)(f:Nat):j ax:=
 P L ae aO wide f .bf>>=λ_=>fd>>=λs=>bif decide (s.i<L.length) then ju L ae else ret ()
structure Rm(L W:List a8)(k:Nat):Prop where
 len:W.length=k+L.length+k
 lps:∀i,i<k->∃x:a8,W[i]?=some x/\x.ak=5/\x.aJ=lp
 mid:∀i,i<L.length->∃x y:a8,L[i]?=some x/\W[i+k]?=some y/\y.ak=x.ak/\y.aJ=x.aJ/\y.aT=x.aT/\y.aB=x.aB
 OQ:∀i,k+L.length<=i->i<k+L.length+k->∃y:a8,W[i]?=some y/\y.ak=5/\(i=k+L.length->y.aB=true)/\y.aJ=rp
structure Gv(ns ms:List aR):Prop where
 len:ms.length=ns.length
 get:∀(i:Nat)(x:aR),ns[i]?=some x->∃y:aR,ms[i]?=some y/\y.ak=x.ak/\y.op=x.op/\y.aT=x.aT/\y.b=x.b
section
variable{L W:List a8}{k:Nat}{ae y_:Int}{aO:Nat->ah}{wide:ah->ah}
theorem Lj{α:Type}{l:List α}{i:Nat}(h:l.length<=i):l[i]?=none:=oH h
theorem Rm.Hh(h:Rm L W k){f:Nat}{t:ap}(e:ps L ae aO wide f m8= .ok () t):∃F H,(∀G,F<=G->ps W y_ aO wide G m8= .ok () H)/\Gv t.a H.a:=by
 obtain⟨r,D,e1,I⟩:=Ru e;have c:(bif decide (D.i<L.length) then ju L ae else ret ()) D=PR.ok () t:=I;have w:¬D.i<L.length:=λa=>by rw[bp a]at c;cases c
 rw[bF w]at c;cases c
 let V:Vw:=⟨L,W,ae,y_,L.length,0,k,[],false,false,aO,wide⟩
 have hV:V.Ok:=by{refine⟨λi hi=>?_,λ_=>Lj (bK _),(λe=>nomatch e), ?_,(λe=>nomatch e),(λe=>nomatch e),λx o=>?_⟩;obtain⟨x,y,b,d,g,l,S,U⟩:=h.mid i hi;exact⟨x,y,b,d,g,l,S,U,λe=>nomatch e⟩;show W[L.length+k]?=none\/_;rcases Nat.eq_zero_or_pos k with M|M;exact .inl (Lj (by rw[h.len];omega));obtain⟨y,b,d,g,l⟩:=h.OQ (L.length+k) O O;exact .inr ⟨y,b,d,g O,.inl l⟩;have m:W[L.length+k+1]?=some x:=o;have a:L.length+k+1<W.length:=by{rcases Nat.lt_or_ge (L.length+k+1) W.length with a|a;exact a;rw[Lj a]at m;cases m};obtain⟨y,b,_,_,l⟩:=h.OQ (L.length+k+1) O (by rw[h.len]at a;omega);rw[m]at b;cases b;rw[l];exact nO _};have Z:V.R m8 {m8 with i:=k}:=⟨⟨rfl,rfl,λi x o=>(by simp[m8]at o),rfl,rfl,rfl⟩,0,b7 _,rfl,(gZ _).symm⟩;obtain⟨r',u,J,hp⟩:=Xn hV f .bf .bf m8 _ f (bK _) .bf (λe=>nomatch e) trivial Z r t e1;have B:V.R t u:=by{rcases hp.2.2 with h| ⟨h,_⟩;exact h;cases h};have C:u.i=L.length+k:=by{obtain⟨i,b,d,g⟩:=B.at_;have N:i<=L.length:=b;have Q:t.i=i+0:=d;have R:u.i=i+k:=g;omega};have up:∀j,j<=k->∃q,P W y_ aO wide (f+17*j) .bf {m8 with i:=k-j}= .ok q {u with i:=L.length+k+j}:=by
  intro j
  induction j with
  |zero=>intro _;exact⟨r',by rw[<-C];exact J⟩
  |succ j ih=>
   intro hj;obtain⟨q,n⟩:=ih O;obtain⟨x,x1,x2,x3⟩:=h.lps (k-(j+1)) O;obtain⟨y,y1,y2,y3,y4⟩:=h.OQ (L.length+k+j) O O;refine⟨[q.headD 0], ?_⟩;have X:nA W {{u with i:=L.length+k+j}with i:=L.length+k+j+1}:=by{rcases Nat.lt_or_ge (L.length+k+j+1) W.length with a|a;obtain⟨z,z1,z2,_,z4⟩:=h.OQ (L.length+k+j+1) O (by rw[h.len]at a;omega);exact .inr ⟨z,z1,z2,z4⟩;exact .inl (Lj a)};have:=ajs (ae:=y_) (aO:=aO) (wide:=wide) (T:=W) (s:={m8 with i:=k-(j+1)}) (u:={u with i:=L.length+k+j}) (f:=f+17*j) (r:=q) ⟨x,x1,x2,x3⟩ (by rw[show k-(j+1)+1=k-j by omega];exact n)
    (by
     unfold K;have E:W[L.length+k+j+0]?=some y:=y1;show(match W[L.length+k+j+0]? with|none=>false|some x=>(x.ak==5||x.ak==2)&&bx x.aJ rp)=true;rw[E];simp only[y2,y4];rfl) X
   exact this
 obtain⟨q,n⟩:=up k (bK _);rw[Nat.sub_self]at n;refine⟨f+17*k,{u with i:=L.length+k+k},λG Y=>?_, ?_, ?_⟩;have A:P W y_ aO wide G .bf m8= .ok q {u with i:=L.length+k+k}:=by{rcases JF W y_ aO wide Y .bf m8 with v|v;have:P W y_ aO wide (f+17*k) .bf m8= .ok q _:=n;rw[this]at v;cases v;rw[v];exact n};unfold ps;rw[qT A,Za];have:decide (({u with i:=L.length+k+k}:ap).i<W.length)=false:=bF (by show ¬L.length+k+k<W.length;rw[h.len];omega);rw[this];rfl;have:=B.len;show u.a.length=t.a.length;rw[this];exact gZ _;intro i x o;obtain⟨y,hy,b,d,g,l,_⟩:=B.get i x o;refine⟨y,by have p:u.a[0+i]?=some y:=hy;rw[gZ]at p;exact p,b,d,g, ?_⟩;rw[l];have:(λz:Int=>z+V.c)=id:=by funext z;show z+(0:Int)=z;omega
 rw[this,List.map_id]
end
end
end Go.Proofs.YthhiffpfleacaaaGreatDoor
