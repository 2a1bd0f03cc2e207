/- A part of the proof that pennantlaw07.PrintSpread answers true at every input. -/
import Derived.Test.YthhiffpfleacaaaGreatDoorPPab
set_option linter.all false
namespace Go.Proofs.YthhiffpfleacaaaGreatDoor
set_option maxRecDepth 100000
open Go.Value (int slice string bool pointer agg tuple func float iface nilIface)
open Go.IntKind (i64 u8 u64 i32 u32 u16 i8 i16)
open Go.FloatKind (f64)
open Go.Ending (returned panicked)
open Go.Proofs.Tryz
section
set_option maxRecDepth 20000
structure Py where
 s:ah
 c:Nat
abbrev sD:aF where
 X:=Py
 args x:=[C x.s,u x.c]
 cond x:=x.c<256
 val x _:=al (Z (Lib.indexByte x.s.data.toList (UInt8.ofNat x.c)))
def aif:aG 137 sD:=qC sD (λ_=>rfl) (λ_ _=>()) (λ_ _=>ai) (λ_ _=>rfl) λx F I w a b c=>
 (Go.Proofs.Tryz.stringslite_IndexByte x.s x.c w).mono λe d h=>⟨h.1,RowKit.Below.of_eq h.2⟩
abbrev Oj(b:Py):=al (Z (Lib.indexByte b.s.data.toList (UInt8.ofNat b.c)))
def aie(x:Py)(F:ag)(c:sD.cond x)(d:sD.aE x F):cG 137 sD (λb=>b.c<256) [C x.s,u ↑x.c] (λb a=>l sD x F (Oj b) [(0,F)]):=by
 delta Oj cG Z u C al;exact bG aif x c λ_ _=>iy
def Se:aG 175 sD:=cY func175 [(1,2,aI sD)] aie
structure PF where
 b:Nat
 s:ah
 p:Nat
section
variable{P:Program}
abbrev LV:aF where
 X:=PF
 Y:=ax ⊕ ax
 args x:=[W (some ⟨x.b,0,none⟩)]
 pre x:=[.iG x.b (.stringIter x.s x.p)]
 bS x y:=match y with
  | .inl _=>x.p<x.s.size
  | .inr _=>¬x.p<x.s.size
 val x y:=match y with
  | .inl _=>.returned (.tuple #[.bool true,.int .i64 x.p,.int .i32 (Utf8.decode x.s x.p).1])
  | .inr _=>.returned (.tuple #[.bool false])
 post x y:=match y with
  | .inl _=>[.iG x.b (.stringIter x.s (x.p+(Utf8.decode x.s x.p).2))]
  | .inr _=>[.iG x.b (.stringIter x.s x.p)]
 sum:=some (iL ax ax)
theorem akx{o:Oper}{x:Operand}(d:o.op= .next x true):gY P o LV:=by
 refine⟨λX F I w ρ k h m g=>?_⟩;obtain⟨b,s,p⟩:=X;simp only[d,Op.operands,LV]at k;have e:ρ x= .pointer (some ⟨b,0,none⟩):=by grind
 have U:w.heap[b]?=some (.stringIter s p):=by{obtain⟨f,i,_⟩:=g.nW;exact(i 0).2};by_cases hp:p<s.size;have a:=Lib.run_next_any_at (P:=P) w b s p o.type U hp;refine⟨.inl (),I,w.iterAt b s (p+(Utf8.decode s p).2),_,hp,.inl ?_,rfl,aX.le_refl I, ?_,Y⟩;simp[execOp,d,e,a];have l:b<w.heap.size:=(Array.getElem?_eq_some_iff.1 U).1;exact g.write (j:=0) (b:=b) (A':=.iG b (.stringIter s (p+(Utf8.decode s p).2))) (λo d=>d.1) (λc h=>by simp[World.iterAt,Array.getElem?_setIfInBounds,Ne.symm h]) (by simp[World.iterAt]) (λo d=>⟨d.1,by show(w.heap.setIfInBounds b (.stringIter s (p+(Utf8.decode s p).2)))[b]?=_;simp[*]⟩);have a:=Lib.run_next_end_at (P:=P) w b s p o.type U hp;refine⟨.inr (),I,w,_,hp,.inl ?_,rfl,aX.le_refl I,g,cn.refl w⟩;simp[execOp,d,e,a]
end
structure GW where
 c:Nat
abbrev Pi:aF where
 X:=GW
 args x:=[eA x.c]
 cond x:=Sc x.c
 val _ _:=al (H true)
def apy:aG 178 Pi:=qC Pi (λ_=>rfl) (λ_ _=>()) (λ_ _=>ai) (λ_ _=>rfl) λx F I w a c d=>by
 have a:Sc x.c:=a;have e:Lib.validRune (x.c:Int)=true:=by{unfold Sc at a;unfold Lib.validRune;simp;omega};exact(Go.Proofs.Tryz.utf8_ValidRune x.c w).mono λb f h=>⟨by rw[h.1,e] <;> rfl,RowKit.Below.of_eq h.2⟩
def fu:ah:=⟨#[98,116,110,118,102,114]⟩
def i_(c:Nat):Int:=if c<128 then Lib.indexByte fu.data.toList (UInt8.ofNat c) else-1
abbrev vu:aF where
 X:=GW
 args x:=[C fu,eA x.c]
 cond x:=Sc x.c
 val x _:=al (Z (i_ x.c))
def agp(p:Nat)(h:p<6):(Utf8.decode fu p).1<128/\(Utf8.decode fu p).2=1:=by
 have:∀p:Fin 6,(Utf8.decode fu p.val).1<128/\(Utf8.decode fu p.val).2=1:=by decide+kernel
 exact this ⟨p,h⟩
def afH(k:Nat):L fu k<128:=by
 rcases Nat.lt_or_ge k 6 with h|h;have:∀k:Fin 6,L fu k.val<128:=by decide+kernel
 exact this ⟨k,h⟩;rw[wX (show fu.size<=k from h)];decide
def Zf:∀(l:List UInt8)(b:UInt8),(∀a∈l,a≠b)->Lib.indexByte l b= -1
 | [],_,_=>rfl
 |a::l,b,h=>by
  rw[Lib.indexByte,Zf l b λa c=>h a (nP _ c)];have:(a==b)=false:=fw.2 (h a (kJ ..));rw[this] <;> rfl
def agY:∀a∈fu.data.toList,a.toNat<128:=by decide+kernel
structure Gi where
 b:Nat
 p:Nat
abbrev Ft(d:Gi):bv:=some ⟨d.b,0,none⟩
def aix(x:GW)(F:ag):Nat->Option Inv:=fun
 |1=>some {X:=ax,P:=λ_=>True,mu:=λ_=>0,lv:=λ_=>[(0,C fu),(1,eA x.c),(7,C (Utf8.encode x.c)),(8,Z ((Utf8.encode x.c).size-1)),(9,Z ((Utf8.encode x.c).size-1))],st:=λ_=>[F]}
 |9=>some {X:=Gi,P:=λd=>x.c=65533,mu:=λd=>6-d.p,lv:=λd=>[(0,C fu),(1,eA x.c),(175,W (Ft d))],st:=λd=>[F,.iG d.b (.stringIter fu d.p)]}
 |_=>none
def GK:=cG 175 sD (λa=>a.c<256)
abbrev V6(F:ag)(c:PF):=[(0,F),(1,sx c.b (Obj.stringIter c.s (c.p+(Utf8.decode c.s c.p).snd)))]
def DI(c:Oper)(a:aN)(b:PH->Prop):=cN prog c FJ/\∃(z:PH),a=[eA z.c]/\True/\b z
def Uc(x:GW):=0<=(↑(Utf8.encode (x.c:Int)).size:Int)-1/\(↑(Utf8.encode (x.c:Int)).size:Int)-1<(↑(Utf8.encode (x.c:Int)).size:Int)
def aiz(x:GW)(F:ag)(o:vu.cond x)(D:vu.aE x F):aK ((x.c:Int)<128) (GK [C fu,u (u8.wrap (x.c:Int))] (λb a=>l vu x F (Oj b) [(0,F)])) (Br ((x.c:Int)==65533) (∀(f:Nat),(∃(a:Gi),x.c=65533/\(C fu=C fu/\eA ↑x.c=eA ↑x.c/\W (bq f)=W (Ft a)/\True)/\ay [(0,F),(37010,sx f (Obj.stringIter fu 0))] [(0,F),(1,sx a.b (Obj.stringIter fu a.p))])/\aQ λ(e:Gi)_=>x.c=65533->gY prog ⟨some 176,Op.next (Operand.tmp 175) true,0,"strings.go:116",⟨[]⟩,none⟩ LV/\true=true/\∃(c:PF),[W (Ft e)]=[W (some ⟨c.b,0,none⟩)]/\[sx e.b (Obj.stringIter fu e.p)]=[sx c.b (Obj.stringIter c.s c.p)]/\True/\True/\(∀(b:ax),c.p.succ.le c.s.size->Br ((↑(Utf8.decode c.s c.p).fst:Int)==65533) (l vu x F (al (Z ↑c.p)) (V6 F c)) (∃(a:Gi),x.c=65533/\(C fu=C fu/\eA ↑x.c=eA ↑x.c/\W (Ft e)=W (Ft a)/\True)/\ay (V6 F c) [(0,F),(1,sx a.b (Obj.stringIter fu a.p))]/\6-a.p<6-e.p))/\∀(a:ax),(c.p<c.s.size->False)->l vu x F rA [(0,F),(1,sx c.b (Obj.stringIter c.s c.p))]) (cG 178 Pi (λg=>Sc g.c) [eA ↑x.c] (λg f=>DI (aL f147 1 1) [eA ↑x.c] (λe=>aA ((↑(Utf8.encode e.c).size:Int)-1)/\(∃(a:ax),True/\(C fu=C fu/\eA ↑x.c=eA ↑x.c/\C (Utf8.encode e.c)=C (Utf8.encode (x.c:Int))/\Z ((↑(Utf8.encode e.c).size:Int)-1)=Z ((↑(Utf8.encode (x.c:Int)).size:Int)-1)/\Z ((↑(Utf8.encode e.c).size:Int)-1)=Z ((↑(Utf8.encode (x.c:Int)).size:Int)-1)/\True)/\ay [(0,F)] [(0,F)])/\aQ λ(d:ax)_=>True->aK ((↑(Utf8.encode (x.c:Int)).size:Int)-1<(fu.size:Int)) (true=true/\(0<=(↑(Utf8.encode (x.c:Int)).size:Int)-1/\(↑(Utf8.encode (x.c:Int)).size:Int)-1<(fu.size:Int))/\Uc x/\Br (B fu ((↑(Utf8.encode (x.c:Int)).size:Int)-1)!=B (Utf8.encode (x.c:Int)) ((↑(Utf8.encode (x.c:Int)).size:Int)-1)) (true=true/\aA ((↑(Utf8.encode (x.c:Int)).size:Int)-1+(1:Int))/\(0<=(↑(Utf8.encode (x.c:Int)).size:Int)-1+(1:Int)/\(↑(Utf8.encode (x.c:Int)).size:Int)-1+1<=(fu.size:Int)/\(fu.size:Int)<=(fu.size:Int))/\Uc x/\GK [C (fu.extract ((↑(Utf8.encode (x.c:Int)).size:Int)-1+(1:Int)).toNat (fu.size:Int).toNat),u (B (Utf8.encode (x.c:Int)) ((↑(Utf8.encode (x.c:Int)).size:Int)-1))] (λb a=>aK (Lib.indexByte b.s.data.toList (UInt8.ofNat b.c)<0) (l vu x F rA [(0,F)]) (aA (Lib.indexByte b.s.data.toList (UInt8.ofNat b.c)+1)/\aA ((↑(Utf8.encode (x.c:Int)).size:Int)-1+(Lib.indexByte b.s.data.toList (UInt8.ofNat b.c)+1))/\False))) False) (l vu x F rA [(0,F)]))))):=by
 delta GK Oj bq Ft V6 mN rA DI Uc aA cG Z u eA C W sx aK al aQ;have q:¬x.c<128->i_ x.c= -1:=λh=>by unfold i_;omega
 refine bd (λh=>?_) (λh=>ar (λk=>?_) (λk=>?_));have h:x.c<128:=O;rw[Ju,Nat.mod_eq_of_lt O];exact bG Se ⟨fu,x.c⟩ (by grind) λ_ _=>⟨(),ai,Al (by unfold i_;simp[*]),ao [0]⟩;have k:x.c=65533:=by grind
 intro b;refine⟨⟨⟨b,0⟩,k,aU,ao [0,37010]⟩, ?_⟩;rintro⟨b,p⟩ t _;refine kH (akx rfl) ⟨b,fu,p⟩ ⟨λ_ hp=>?_,λ_ _=>⟨(),ai,Al (q O).symm,ao [0]⟩⟩;have hp:p<6:=hp;obtain⟨y,s⟩:=agp p hp;refine ar (λe=>?_) (λ_=>⟨⟨b,p+1⟩,k,aU,ay.pick [0,1] rfl (by dsimp only;rw[s] <;> rfl),by grind⟩);grind;have h:128<=x.c:=O;obtain⟨v,r⟩:=agN o h;have w:=RO o;refine bG apy ⟨x.c⟩ o λ_ _=>⟨Wf rfl rfl rfl,⟨x.c⟩,rfl,ai,⟨O,bX⟩,⟨(),ai,aU,ao [0]⟩,λ_ t _=>?_⟩;generalize Utf8.encode (x.c:Int)=i at v r w⊢;refine ar (λm=>?_) (λm=>⟨(),ai,Al (q O).symm,ao [0]⟩);have m:=kK m;have U:((i.size:Int)-1).toNat=i.size-1:=O;have A:=r (i.size-1) O;have n:=ir i (i.size-1);have z:=afH (i.size-1);refine⟨rfl,⟨O,m⟩,aC,ar (λ_=>?_) (λe=>?_)⟩;refine⟨rfl,aC,⟨O,O,O⟩,aC,Se,rfl,⟨fu.extract ((i.size:Int)-1+1).toNat (fu.size:Int).toNat,L i (i.size-1)⟩,by rw[gR,U],rfl,n,ai,λ_ _=>?_⟩;have e:Lib.indexByte (fu.extract ((i.size:Int)-1+1).toNat (fu.size:Int).toNat).data.toList (UInt8.ofNat (L i (i.size-1)))= -1:=by{apply Zf;intro a j;rw[cy,Hb]at j;have j:=agY a (List.mem_of_mem_drop j);intro e;rw[e]at j;simp at j;omega};dsimp only;rw[e];exact⟨(),ai,Al (q O).symm,ao [0]⟩;rw[gR,gR,U]at e;simp at e;omega
def aiy:aG 147 vu:=mt func147 (λ_ _=>[(35,2,F),(35,3,aI sD),(43,1,aI Pi),(1,1,.qo FJ),(7,7,aI sD),(37,1,.n 37010),(38,0,.o LV [1] [1])]) aix aiz
end
def RP:ah:=⟨#[8,9,10,11,12,13]⟩
def YK(c:Nat):Bool:=match w7.find? λp=>p.1==c with
 |none=>decide (i_ c= -1)
 |some p=>decide (0<=i_ c)&&(decide (i_ c<6)&&decide ((bo (RP.extract (i_ c).toNat ((i_ c).toNat+1))).data.toList=(cF [0,p.2]).data.toList))
def agZ:∀c:Fin 128,YK c.val=true:=by decide+kernel
def agX(c:Nat):(i_ c= -1/\w7.find? (λp=>p.1==c)=none)\/(0<=i_ c/\i_ c<6/\∃p,w7.find? (λp=>p.1==c)=some p/\bo (RP.extract (i_ c).toNat ((i_ c).toNat+1))=cF [0,p.2]):=by
 rcases Nat.lt_or_ge c 128 with h|h;have:=agZ ⟨c,h⟩;unfold YK at this;dsimp only at this;cases a:w7.find? (λp=>p.1==c)with
 |none=>rw[a]at this;exact .inl ⟨kK this,rfl⟩
 |some p=>
  rw[a]at this;simp only[iP,decide_eq_true_eq]at this;exact .inr ⟨this.1,this.2.1,p,rfl,by apply ByteArray.ext;apply Array.ext';simp[*]⟩
 refine .inl ⟨by unfold i_;rw[if_neg O], ?_⟩;unfold w7;simp;omega
structure ld where
 l:c4
abbrev Id(x:ld):aN:=[C x.l.af,Z x.l.i,H x.l.aB,Q x.l.oa x.l.on x.l.oc]
abbrev ni(x:ld):bv:=some ⟨x.l.b,0,none⟩
abbrev mq:aF where
 X:=ld
 Y:=ah
 args x:=[W (ni x)]
 pre x:=[D x.l.b (Id x) 82]
 cond x:=0<=x.l.i/\x.l.i<=x.l.af.size/\x.l.af.size<=1048576
 aE _ F:=Gl F
 bS x y:=∀u,(eE x.l.af x.l.i.toNat).2=some u->y=cF u
 val x y:=.returned (.tuple #[.string y,.bool (eE x.l.af x.l.i.toNat).2.isSome])
 post x _:=[D x.l.b [C x.l.af,Z ((eE x.l.af x.l.i.toNat).1:Nat),H x.l.aB,Q x.l.oa x.l.on x.l.oc] 82]
def D4(c j:Nat):Nat×Option (a_):=bif iD c then (j,some []) else (j,some (jl c))
def BA(s:ah)(c j:Nat):Nat×Option (a_):=bif c==13&&L s j==10 then (j+1,some []) else D4 c j
structure AU where
 c:Nat
 j:Nat
def YJ(x:ld)(F:ag)(g:ah->Nat->Nat->Nat×Option (a_)):Inv:={X:=AU,P:=λd=>Sc d.c/\d.j<=x.l.af.size/\eE x.l.af x.l.i.toNat=g x.l.af d.c d.j,mu:=λ_=>0,lv:=λd=>[(0,.pointer (some ⟨x.l.b,0,none⟩)),(4,.int .i64 d.c)],st:=λd=>[.cells x.l.b [.string x.l.af,.int .i64 d.j,.bool x.l.aB,.slice x.l.oa x.l.on x.l.oc] 82,F]}
def agT(x:ld)(F:ag):Nat->Option Inv:=fun
 |12=>some (YJ x F BA)
 |13=>some (YJ x F λ_=>D4)
 |_=>none
def WV{c:Nat}(h:c<=1114111):i32.wrap (c:Int)=(c:Int):=dw (by simp only[t6];omega)
abbrev Nt(x:ld)(j:Nat×Nat):aN:=[C x.l.af,Z (x.l.i+j.snd),H x.l.aB,Q x.l.oa x.l.on x.l.oc]
abbrev Ah(x:ld)(j:Nat×Nat)(F:ag):=[(0,D x.l.b (Nt x j) 82),(1,F)]
abbrev VY(b:e9):=al (tuple ⟨[C (bo b.s),H true]⟩)
def QY:=dK 148 vh (λa=>0<=a.l.i/\a.l.i<=a.l.af.size/\a.l.af.size<=1048576/\a.n<=4)
abbrev Te(x:ld)(F:ag):rW->ax->Prop:=λb a=>l mq x F (al (tuple ⟨[C (zg b.l.af b.n b.l.i.toNat),H (eB b.l.af b.n b.l.i.toNat 0).snd.isSome]⟩)) [(0,D b.l.b [C b.l.af,Z (↑(eB b.l.af b.n b.l.i.toNat 0).fst:Int),H b.l.aB,Q b.l.oa b.l.on b.l.oc] 82),(1,F)]
def VM(z:AU)(a:ld):=Sc z.c/\z.j<=a.l.af.size/\eE a.l.af a.l.i.toNat=BA a.l.af z.c z.j
abbrev n5(a:ld)(z:AU)(e1:ag):=[(0,D a.l.b [C a.l.af,Z ↑z.j,H a.l.aB,Q a.l.oa a.l.on a.l.oc] 82),(1,e1)]
def QZ(a:ld)(e1:ag)(c:aD)(b:St):=∃(z:AU),VM z a/\(W (ni a)=W (ni a)/\c=Z ↑z.c/\True)/\ay b (n5 a z e1)
abbrev EQ:=al (tuple ⟨[C ⟨#[]⟩,H true]⟩)
def Q0(a:ld)(e1:ag)(c:aD)(b:St):=∃(z:AU),(Sc z.c/\z.j<=a.l.af.size/\eE a.l.af a.l.i.toNat=D4 z.c z.j)/\(W (ni a)=W (ni a)/\c=Z ↑z.c/\True)/\ay b (n5 a z e1)
def agV(x:ld)(F:ag)(hc:mq.cond x)(P:mq.aE x F):true=true/\V x.l.b 0/\V x.l.b 1/\T4 [C x.l.af,Z x.l.i] (g [(0,D x.l.b (Id x) 82),(1,F)] []) (λk j=>V x.l.b 1/\aA (x.l.i+j.snd)/\V x.l.b 1/\cG 147 vu (λi=>Sc i.c) [C ⟨#[98,116,110,118,102,114]⟩,eA (Hg (j.fst:Int))] (λi h=>aK (i_ i.c>=0) (aA (i_ i.c+1)/\(0<=i_ i.c/\i_ i.c<=i_ i.c+1/\i_ i.c+1<=(↑(ByteArray.mk #[8,9,10,11,12,13]).size:Int))/\Ba [C ((ByteArray.mk #[8,9,10,11,12,13]).extract (i_ i.c).toNat (i_ i.c+1).toNat)] (g (Ah x j F) []) (λb a=>l mq x F (VY b) (Ah x j F))) (Br ((j.fst:Int)==120) (QY [W (ni x),Z 2] [D x.l.b (Nt x j) 82] (Te x F)) (Br ((j.fst:Int)==117) (QY [W (ni x),Z 4] [D x.l.b (Nt x j) 82] (Te x F)) (Br ((j.fst:Int)==48) (pY [W (ni x)] (g (Ah x j F) []) (λd c=>T0 (ur d) (λb a=>l mq x F (al (tuple ⟨[C ⟨#[0,0]⟩,H !bE b.c]⟩)) (Ah x j F)))) (aK ((j.fst:Int)>=49) (aK ((j.fst:Int)<=57) (l mq x F sM (Ah x j F)) (QZ x F (Z ↑j.fst) (Ah x j F))) (QZ x F (Z ↑j.fst) (Ah x j F))/\aQ λ(f:AU)_=>VM f x->Br ((f.c:Int)==13) (pY [W (ni x)] (g (n5 x f F) []) (λc b=>Br ((↑(L c.af c.i.toNat):Int)==10) (V x.l.b 1/\aA ((f.j:Int)+1)/\V x.l.b 1/\l mq x F EQ [(0,D x.l.b [C x.l.af,Z ((f.j:Int)+1),H x.l.aB,Q x.l.oa x.l.on x.l.oc] 82),(1,F)]) (Q0 x F (Z ↑f.c) (n5 x f F)))) (Q0 x F (Z ↑f.c) (n5 x f F))/\aQ λ(e:AU)_=>(Sc e.c/\e.j<=x.l.af.size/\eE x.l.af x.l.i.toNat=D4 e.c e.j)->Br ((e.c:Int)==10) (l mq x F EQ (n5 x e F)) (Br ((e.c:Int)==13) (l mq x F EQ (n5 x e F)) (Br ((e.c:Int)==8232) (l mq x F EQ (n5 x e F)) (Br ((e.c:Int)==8233) (l mq x F EQ (n5 x e F)) (DI (aL f119 20 2) [eA (Hg (e.c:Int))] (λc=>Ba [C (Utf8.encode c.c)] (g (n5 x e F) []) (λb a=>l mq x F (VY b) (n5 x e F))))))))))))) (λk a=>l mq x F sM [(0,D x.l.b (Id x) 82),(1,F)]):=by
 delta T4 Id xY Ba Nt Ah VY QY ni Te pY T0 ur sM VM n5 QZ EQ Q0 DI g V aA cG bz dK Z u eA C H W Q D Hg aK al aQ;obtain⟨⟨b,af,i0,aB,I,on,J⟩⟩:=x;obtain⟨T,x0,R⟩:=hc;replace P:Gl F:=P;dsimp only at T x0 R;obtain⟨i,rfl⟩:∃i:Nat,i0=(i:Int):=⟨i0.toNat,(Int.toNat_of_nonneg T).symm⟩;dsimp only;have ae:∀(j:Nat)(r:Option (a_))(y:ah)(v:Bool),eE af i=(j,r)->v=r.isSome->(∀o,r=some o->y=cF o)->l mq ⟨⟨b,af,(i:Int),aB,I,on,J⟩⟩ F (returned (tuple #[string y,bool v])) [(0,ag.cells b [string af,int i64 (j:Int),bool aB,slice I on J] 82),(1,F)]:=λj r y v e hv hy=>
  ⟨y,by show ∀o,(eE af (i:Int).toNat).2=some o->_;rw[cy,e];exact hy,by show returned _=returned (.tuple #[.string y,.bool (eE af (i:Int).toNat).2.isSome]);simp[*],ay.pick [0,1] rfl (by simp only[mq,cy,e];rfl)⟩
 rw[cy];refine⟨rfl,Y,Y,Ew,rfl,⟨af,i⟩,rfl,rfl,T,gv.rest (j:=1) X P.qu, ?_, ?_⟩;rotate_left;intro _ q;replace q:c6 af (i:Int).toNat=none:=q;rw[cy]at q;exact ae i none _ _ (by unfold eE;rw[q]) rfl (λ_ h=>nomatch h);rintro⟨c,n⟩ q;replace q:c6 af (i:Int).toNat=some (c,n):=q;rw[cy]at q;obtain⟨f1,f2,f3⟩:=lV q;have A:=ZX q;dsimp only;have S:(i:Int)+(n:Int)=((i+n:Nat):Int):=O;rw[S,WV f3];have s:eE af i=match w7.find? (λp=>p.1==c)with
  |some p=>(i+n,some [0,p.2])
  |none=>
   bif c==120 then ((eB af 2 (i+n) 0).1,(eB af 2 (i+n) 0).2.map λo=>[o/256%256,o%256])
   else bif c==117 then ((eB af 4 (i+n) 0).1,(eB af 4 (i+n) 0).2.map λo=>[o/256%256,o%256])
   else bif c==48 then (i+n,bif bE (L af (i+n)) then none else some [0,0])
   else bif oE c 49 57 then (i+n,none)
   else BA af c (i+n):=by unfold eE;rw[q] <;> rfl
 generalize i+n=j at f1 s⊢;have w:∀m:Nat,eE af i=((eB af m j 0).1,(eB af m j 0).2.map λo=>[o/256%256,o%256])->l mq ⟨⟨b,af,(i:Int),aB,I,on,J⟩⟩ F (returned (tuple #[string (zg af m (j:Int).toNat),bool (eB af m (j:Int).toNat 0).2.isSome])) [(0,ag.cells b [string af,int i64 ((eB af m (j:Int).toNat 0).1:Nat),bool aB,slice I on J] 82),(1,F)]:=λm e=>by
  rw[cy];refine ae _ _ _ _ e (by cases (eB af m j 0).2 <;> rfl) λo z=>?_;unfold zg;grind
 refine⟨Y,aC,Y,aiy,rfl,⟨c⟩,rfl,rfl,A,ai,λ_ _=>?_⟩;dsimp only;rcases agX c with⟨e1,K⟩| ⟨e1,x1,p,K,e3⟩;rotate_left;rw[K]at s;refine ar (λ_=>⟨aC,⟨e1,O,show i_ c+1<=(6:Int) by omega⟩,Pj,rfl,⟨RP.extract (i_ c).toNat (i_ c+1).toNat⟩,rfl,rfl, ?_,gv.rest (j:=1) X P.qu,λ_ _=>ae j _ _ _ s rfl λo z=>?_⟩) (λh=>absurd (R5 h) O);dsimp only;rw[iA];omega;grind;rw[K]at s;refine ar (λh=>absurd (kK h) O) (λ_=>ar (λh=>?_) (λg1=>ar (λh=>?_) (λg2=>ar (λh=>?_) (λg3=>⟨?_, ?_⟩))));replace h:=fY 120 h;exact bG YB ⟨⟨b,af,j,aB,I,on,J⟩,2⟩ ⟨by simp[*],by simp[*],R,show(2:Nat)<=4 by decide⟩ λ_ _=>w 2 (by simp[*]);replace h:=fY 117 h;exact bG YB ⟨⟨b,af,j,aB,I,on,J⟩,4⟩ ⟨by simp[*],by simp[*],R,show(4:Nat)<=4 by decide⟩ λ_ _=>w 4 (by grind);replace h:=fY 48 h;refine ba vE ⟨b,af,(j:Int),aB,I,on,J⟩ ⟨by simp[*],R⟩ ⟨aH.rest (j:=0) X (aH.cells rfl),aH.rest (j:=0) X (aH.cells rfl)⟩ λ_ _=>bG yV ⟨L af (j:Int).toNat⟩ (ir _ _) λ_ _=>?_;dsimp only;rw[cy];refine ae j (bif bE (L af j) then none else some [0,0]) _ _ (by grind) ?_ λo z=>?_;grind;cases hd:bE (L af j)with
 |true=>rw[hd]at z;cases z
 |false=>rw[hd]at z;cases z;rfl
 have N:oE c 49 57=false->eE af i=BA af c j:=λh=>by grind
 refine bd (λh1=>bd (λt=>?_) (λt=>⟨⟨c,j⟩,⟨A,f1,N ?_⟩,aU,ao [0,1]⟩)) (λh1=>⟨⟨c,j⟩,⟨A,f1,N ?_⟩,aU,ao [0,1]⟩);refine ae j none _ _ ?_ rfl (λ_ h=>nomatch h);have:oE c 49 57=true:=by{unfold oE;grind};grind;unfold oE;grind;unfold oE;grind;clear s w e1 K g1 g2 g3 f1 A q;rintro⟨c,j⟩ js ⟨B,M,E⟩;dsimp only at B M E⊢;refine⟨ar (λh=>ba vE ⟨b,af,(j:Int),aB,I,on,J⟩ ⟨by simp[*],R⟩ ⟨aH.rest (j:=0) X (aH.cells rfl),aH.rest (j:=0) X (aH.cells rfl)⟩ λ_ _=>ar (λt=>?_) (λt=>⟨⟨c,j⟩,⟨B,M, ?_⟩,aU,ao [0,1]⟩)) (λh=>⟨⟨c,j⟩,⟨B,M, ?_⟩,aU,ao [0,1]⟩), ?_⟩;replace t:((L af (j:Int).toNat:Int)==10)=true:=t;rw[cy]at t;have S:(j:Int)+1=((j+1:Nat):Int):=O;rw[S];exact⟨Y,aC,Y,ae (j+1) (some []) _ _ (by rw[E,BA,fY 13 h,fY 10 t] <;> rfl) rfl (λo z=>by cases z;rfl)⟩;replace t:((L af (j:Int).toNat:Int)==10)=false:=t;rw[cy]at t;rw[E,BA,fY 10 t,nO] <;> rfl;rw[E,BA,fY 13 h,lj] <;> rfl;clear B M E;rintro⟨c,j⟩ js ⟨B,M,E⟩;dsimp only at B M E⊢;have U:c<=1114111:=by unfold Sc at B;omega
 rw[WV U];have G:iD c=true->eE af i=(j,some []):=λh=>by rw[E,D4,h] <;> rfl
 have d7:∀o,some ([]:a_)=some o->(ByteArray.mk #[])=cF o:=λo z=>by cases z;rfl
 refine ar (λe=>ae j _ _ _ (G (BT (by grind))) rfl d7) (λe1=>ar (λe=>ae j _ _ _ (G (BT (by grind))) rfl d7) (λK=>ar (λe=>ae j _ _ _ (G (BT (by grind))) rfl d7) (λe3=>ar (λe=>ae j _ _ _ (G (BT (by grind))) rfl d7) (λe4=>?_))));have hw:=abX B;have hz:=RO B;refine⟨Wf rfl rfl rfl,⟨c⟩,rfl,ai,Pj,rfl,⟨Utf8.encode (c:Int)⟩, ?_⟩;dsimp only;generalize Utf8.encode (c:Int)=en at hw hz⊢;refine⟨rfl,rfl,O,gv.rest (j:=1) X P.qu,λ_ _=>ae j (some (jl c)) (bo en) true (by rw[E,D4,LO e1 K e3 e4] <;> rfl) rfl λo z=>?_⟩;grind
def agU:aG 119 mq:=fo 103 func119 (λ_ _=>[(1,8,aI qd),(5,1,F),(5,2,aI vu),(7,4,aI wC),(12,4,aI oR),(14,1,q vh),(15,1,q vh),(16,1,aI oR),(16,2,aI qX),(20,1,F),(20,2,.qo FJ),(20,3,aI wC)]) [(1,3,z 0),(1,7,z 0),(4,3,z 0),(4,8,.w [LH.aS (0:Nat)]),(18,3,z 0),(18,7,.w [LH.aS (0:Nat)])] dV agT gj [] agV
def Zc(s:ah):∀(n i u:Nat),i<=s.size->i<=(eB s n i u).1/\(eB s n i u).1<=s.size:=by
 intro n
 induction n with
 |zero=>intro i u h;exact⟨bK _,h⟩
 |succ n a=>
  intro i u h;rw[eB];grind
def Ha{s:ah}{i j:Nat}{r:Option (a_)}(h:eE s i=(j,r))(x:i<=s.size):i<=j/\j<=s.size/\∀u,r=some u->u.length<=4:=by
 unfold eE at h;cases k:c6 s i with
 |none=>rw[k]at h;cases h;exact⟨bK _,x,λ_ h=>nomatch h⟩
 |some q=>
  obtain⟨c,n⟩:=q;obtain⟨f1,f2,f3⟩:=lV k;rw[k]at h;dsimp only at h;have t:=Zc s 2 (i+n) 0 f1;have w:=Zc s 4 (i+n) 0 f1;cases o:w7.find? (λp=>p.1==c)with
  |some p=>rw[o]at h;cases h;exact⟨O,f1,λu a=>by cases a;simp⟩
  |none=>
   rw[o]at h;cases d:(c==120)with
   |true=>
    rw[d]at h;cases h;refine⟨O,t.2,λu a=>?_⟩;cases b:(eB s 2 (i+n) 0).2 with
    |none=>rw[b]at a;cases a
    |some v=>rw[b]at a;cases a;simp
   |false=>
   cases e:(c==117)with
   |true=>
    rw[d,e]at h;cases h;refine⟨O,w.2,λu a=>?_⟩;cases b:(eB s 4 (i+n) 0).2 with
    |none=>rw[b]at a;cases a
    |some v=>rw[b]at a;cases a;simp
   |false=>
   cases f:(c==48)with
   |true=>
    grind
   |false=>
   cases g:oE c 49 57 with
   |true=>rw[d,e,f,g]at h;cases h;exact⟨O,f1,λ_ h=>nomatch h⟩
   |false=>
   cases l:(c==13&&L s (i+n)==10)with
   |true=>
    rw[d,e,f,g,l]at h;cases h;have y:L s (i+n)=10:=by{grind};exact⟨O,wW O,λu a=>by cases a;simp⟩
   |false=>
   rw[d,e,f,g,l]at h;cases m:iD c with
   |true=>rw[m]at h;cases h;exact⟨O,f1,λu a=>by cases a;simp⟩
   |false=>rw[m]at h;cases h;exact⟨O,f1,λu a=>by cases a;exact WR c⟩
def me(s:ah)(i:Nat):Nat×Option (a_):=lE s (L s i) (s.size+1) (i+1) []
abbrev ty:aF where
 X:=ld
 Y:=ah
 args x:=[W (ni x)]
 pre x:=[D x.l.b (Id x) 82]
 cond x:=0<=x.l.i/\x.l.i<x.l.af.size/\x.l.af.size<=1048576
 aE _ F:=Gl F
 bS x y:=∀u,(me x.l.af x.l.i.toNat).2=some u->y=cF u
 val x y:=.returned (.tuple #[.string y,.bool (me x.l.af x.l.i.toNat).2.isSome])
 post x _:=[D x.l.b [C x.l.af,Z ((me x.l.af x.l.i.toNat).1:Nat),H x.l.aB,Q x.l.oa x.l.on x.l.oc] 82]
structure wP where
 i:Nat
 f:Nat
 o:a_
 bb:Nat
 p:bv
 r:Row
abbrev xO(d:wP):bv:=some ⟨d.bb,0,none⟩
abbrev xD(d:wP):aN:=[W d.p,Q d.r.a d.r.n d.r.aq]
def ao5(x:ld)(F:ag):Nat->Option Inv:=fun
 |0=>some {X:=wP,P:=λd=>d.i<=x.l.af.size/\x.l.af.size<d.i+d.f/\d.o.length<=4*d.i/\pa 5 (cF d.o) d.r/\(d.p=none\/d.p=some ⟨d.bb,0,none⟩)/\me x.l.af x.l.i.toNat=lE x.l.af (L x.l.af x.l.i.toNat) d.f d.i d.o,mu:=λd=>x.l.af.size-d.i,lv:=λd=>[(0,W (ni x)),(4,Z (L x.l.af x.l.i.toNat)),(5,W (xO d))],st:=λd=>[D x.l.b [C x.l.af,Z d.i,H x.l.aB,Q x.l.oa x.l.on x.l.oc] 82,F,D d.bb (xD d) 104,d.r.A]}
 |_=>none
def Mk(z:wP)(a:ld):=z.i<=a.l.af.size/\a.l.af.size<z.i+z.f/\z.o.length<=4*z.i/\pa 5 (cF z.o) z.r/\(z.p=none\/z.p=some ⟨z.bb,0,none⟩)/\me a.l.af a.l.i.toNat=lE a.l.af (L a.l.af a.l.i.toNat) z.f z.i z.o
abbrev CA(a:ld)(z:wP)(e1:ag):=[(0,D a.l.b [C a.l.af,Z ↑z.i,H a.l.aB,Q a.l.oa a.l.on a.l.oc] 82),(1,e1),(2,D z.bb (xD z) 104),(3,z.r.A)]
abbrev EO(x:ld)(j:wP)(g:Nat×Nat):aN:=[C x.l.af,Z ((j.i:Int)+(g.snd:Int)),H x.l.aB,Q x.l.oa x.l.on x.l.oc]
abbrev UC(e:ld):aN:=[C e.l.af,Z (↑(eE e.l.af e.l.i.toNat).fst:Int),H e.l.aB,Q e.l.oa e.l.on e.l.oc]
def Q1:=za 71 Dc (λa=>(a.p=none\/a.p=some ⟨a.b,0,none⟩)/\pa 5 a.t a.r/\a.r.n+a.s.size<=140737488355328) (λa b=>pa 5 (a.t++a.s) b)
def Q2(a:ld)(e1:ag)(c:aD)(b:St)(mm:Nat):=∃(z:wP),Mk z a/\(W (ni a)=W (ni a)/\Z (↑(L a.l.af a.l.i.toNat):Int)=Z (↑(L a.l.af a.l.i.toNat):Int)/\c=W (xO z)/\True)/\ay b (CA a z e1)/\a.l.af.size-z.i<mm
def ao7(x:ld)(F:ag)(hc:ty.cond x)(hr:ty.aE x F):true=true/\V x.l.b 0/\V x.l.b 1/\(0<=x.l.i/\x.l.i<x.l.af.size)/\aA (B x.l.af x.l.i)/\V x.l.b 1/\aA (x.l.i+1)/\V x.l.b 1/\∀(k:Nat),(∃(a:wP),Mk a x/\(W (ni x)=W (ni x)/\Z (B x.l.af x.l.i)=Z (↑(L x.l.af x.l.i.toNat):Int)/\W (bq k)=W (xO a)/\True)/\ay [(0,D x.l.b [C x.l.af,Z (x.l.i+1),H x.l.aB,Q x.l.oa x.l.on x.l.oc] 82),(1,F),(4000,D k [W none,Q none 0 0] 104)] (CA x a F))/\aQ λ(j:wP)_=>Mk j x->true=true/\V x.l.b 0/\V x.l.b 1/\T4 [C x.l.af,Z ↑j.i] (g (CA x j F) []) (λh t=>Br ((t.fst:Int)==10) (l ty x F sM (CA x j F)) (Br ((t.fst:Int)==13) (l ty x F sM (CA x j F)) (V x.l.b 1/\aA ((j.i:Int)+(t.snd:Int))/\V x.l.b 1/\Br ((t.fst:Int)==(↑(L x.l.af x.l.i.toNat):Int)) (dK 72 DY (λb=>pa 5 b.t b.r/\b.t.size<=140737488355328) [W (xO j)] [D j.bb (xD j) 104,j.r.A] (λb a=>l ty x F (al (tuple ⟨[C b.t,H true]⟩)) [(0,D x.l.b (EO x j t) 82),(1,F),(2,D b.b (xL b) 104),(3,aY)])) (Br ((t.fst:Int)==92) (dP 119 mq (λe=>0<=e.l.i/\e.l.i<=e.l.af.size/\e.l.af.size<=1048576) (λ_=>Gl) (λe d=>(∀(a:a_),(eE e.l.af e.l.i.toNat).snd=some a->d=cF a)) [W (ni x)] [D x.l.b (EO x j t) 82] (g [(0,D x.l.b (EO x j t) 82),(1,F),(2,D j.bb (xD j) 104),(3,j.r.A)] [0]) (λe d=>Br (!(eE e.l.af e.l.i.toNat).snd.isSome) (l ty x F sM [(0,D e.l.b (UC e) 82),(1,F),(2,D j.bb (xD j) 104),(3,j.r.A)]) (Q1 [W (xO j),C d] [D j.bb (xD j) 104,j.r.A] (λc b=>Q2 x F (W (xO j)) [(0,D e.l.b (UC e) 82),(1,F),(2,D c.b (Fl c b) 104),(3,b.A)] (x.l.af.size-j.i))))) (DI (aL f94 9 2) [eA (Hg (t.fst:Int))] (λf=>Ba [C (Utf8.encode f.c)] (g [(0,D x.l.b (EO x j t) 82),(1,F),(2,D j.bb (xD j) 104),(3,j.r.A)] []) (λe d=>Q1 [W (xO j),C (bo e.s)] [D j.bb (xD j) 104,j.r.A] (λc b=>Q2 x F (W (xO j)) [(0,D x.l.b (EO x j t) 82),(1,F),(2,D c.b (Fl c b) 104),(3,b.A)] (x.l.af.size-j.i))))))))) (λh a=>l ty x F sM (CA x j F)):=by
 delta Mk ni bq xO xD CA T4 sM EO xL UC Q1 Q2 uu Fl DI xY Ba g V aA bz dK dP za Z eA C H W Q D aY Hg al aQ;obtain⟨⟨b,af,i0,aB,oa,on,oc⟩⟩:=x;obtain⟨U,P,hs⟩:=hc;dsimp only at U P hs;obtain⟨i,rfl⟩:∃i:Nat,i0=(i:Int):=⟨i0.toNat,(Int.toNat_of_nonneg U).symm⟩;dsimp only;rw[gR,cy];have hi:i<af.size:=O;have hb:=ir af i;have ae:∀(j:Nat)(r:Option (a_))(w:ah)(v:Bool)(A z:ag),me af i=(j,r)->v=r.isSome->(∀u,r=some u->w=cF u)->l ty ⟨⟨b,af,(i:Int),aB,oa,on,oc⟩⟩ F (returned (tuple #[string w,bool v])) [(0,ag.cells b [string af,int i64 (j:Int),bool aB,slice oa on oc] 82),(1,F),(2,A),(3,z)]:=λj r w v A z e hv K=>
  ⟨w,by show ∀u,(me af (i:Int).toNat).2=some u->_;rw[cy,e];exact K,by show returned _=returned (.tuple #[.string w,.bool (me af (i:Int).toNat).2.isSome]);simp[*],ay.pick [0,1] rfl (by simp only[ty,cy,e];rfl)⟩
 refine⟨rfl,Y,Y,⟨U,P⟩,aC,Y,aC,Y,λJ=>⟨⟨⟨i+1,af.size+1,[],J,none,⟨none,0,0,.d7⟩⟩,⟨by grind,by grind,b7 _,⟨.nil rfl,.inl rfl⟩,.inl rfl,rfl⟩,aU,ay.pick [0,1,4000,7] rfl (by rfl)⟩, ?_⟩⟩;rintro⟨k,f,o,J,p,r⟩ js ⟨g1,g2,g3,N,T,S⟩;dsimp only at g1 g2 g3 N T S⊢;obtain⟨M,rfl⟩:∃M,f=M+1:=⟨f-1,O⟩;have x1:r.n=o.length:=by{have:=N.1.len;rw[Lib.strCells_length,se]at this;omega};refine⟨rfl,Y,Y,Ew,rfl,⟨af,k⟩,rfl,rfl,by simp[*],gv.rest (j:=1) X hr.qu, ?_, ?_⟩;rotate_left;intro _ G;replace G:c6 af (k:Int).toNat=none:=G;rw[cy]at G;exact ae k none _ _ _ _ (by rw[S,lE,G]) rfl (λ_ h=>nomatch h);rintro⟨c,n⟩ G;replace G:c6 af (k:Int).toNat=some (c,n):=G;rw[cy]at G;obtain⟨f1,f2,f3⟩:=lV G;have R:=ZX G;have I:me af i=bif c==10||c==13 then (k,none) else bif c==L af i then (k+n,some o) else bif c==92 then (match eE af (k+n)with| (j,none)=>(j,none)| (j,some u)=>lE af (L af i) M j (o++u)) else lE af (L af i) M (k+n) (o++jl c):=by rw[S,lE,G] <;> rfl
 dsimp only;have ej:(k:Int)+(n:Int)=((k+n:Nat):Int):=O;rw[ej,WV f3];clear S G;generalize hm:k+n=m at f1 I⊢;refine ar (λe=>ae k none _ _ _ _ (by grind) rfl (λ_ h=>nomatch h)) (λe1=>ar (λe=>ae k none _ _ _ _ (by grind) rfl (λ_ h=>nomatch h)) (λe2=>?_));rw[fY 10 e1,fY 13 e2,Bool.or_false,y]at I;refine⟨Y,aC,Y,ar (λe=>?_) (λe3=>ar (λe=>?_) (λe4=>?_))⟩;rw[fY (L af i) e,aW]at I;exact bG afE ⟨J,p,r,cF o,.empty⟩ ⟨N,by dsimp only;rw[se];omega⟩ λ_ _=>ae m (some o) _ _ _ _ I rfl (λu hu=>by cases hu;rfl);rw[fY (L af i) e3,y,fY 92 e,aW]at I;refine ba agU ⟨⟨b,af,(m:Int),aB,oa,on,oc⟩⟩ ⟨by simp[*],by simp[*],hs⟩ (Gl.rest (j:=1) X hr) λw K=>?_;replace K:∀u,(eE af (m:Int).toNat).2=some u->w=cF u:=K;dsimp only;rw[cy]at K⊢;have q:=Ha (s:=af) (i:=m) (j:=(eE af m).1) (r:=(eE af m).2) rfl f1;revert K q I;generalize eE af m=E;obtain⟨j,r'⟩:=E;intro I K q;obtain⟨q1,q2,q3⟩:=q;dsimp only at I K q1 q2 q3⊢;cases r' with
 |none=>exact ar (λ_=>ae j none _ _ _ _ I rfl (λ_ h=>nomatch h)) (λh=>nomatch h)
 |some u=>
  have x0:=K u rfl;subst x0;have q3:=q3 u rfl;refine ar (λh=>nomatch h) (λ_=>bG ab1 ⟨J,p,r,cF o,cF u⟩ ⟨T,N,by dsimp only;rw[se];omega⟩ λr2 h2=>⟨⟨j,M,o++u,J,some ⟨J,0,none⟩,r2⟩,⟨q2,by grind,by grind,by dsimp only;rw[<-Yh];exact h2,.inr rfl,I⟩,aU,ao [0,1,2,3],by grind⟩)
 rw[fY (L af i) e3,y,fY 92 e4,y]at I;have hw:=abX R;have hz:=RO R;have x2:=WR c;refine⟨Wf rfl rfl rfl,⟨c⟩,rfl,ai,Pj,rfl,⟨Utf8.encode (c:Int)⟩, ?_⟩;dsimp only;generalize Utf8.encode (c:Int)=en at hw hz⊢;rw[hw];refine⟨rfl,rfl,O,gv.rest (j:=1) X hr.qu,λ_ _=>bG ab1 ⟨J,p,r,cF o,cF (jl c)⟩ ⟨T,N,by dsimp only;rw[se];omega⟩ λr2 h2=>⟨⟨m,M,o++jl c,J,some ⟨J,0,none⟩,r2⟩,⟨f1,by grind,by grind,by dsimp only;rw[<-Yh];exact h2,.inr rfl,I⟩,aU,ao [0,1,2,3],by grind⟩⟩
def ao6:aG 94 ty:=fo 80 func94 (λ_ _=>[(3,0,.n 4000),(4,8,aI qd),(11,0,.c DY [2,3] [2,3]),(13,1,q mq),(16,1,.c Dc [2,3] [2,3]),(9,1,F),(9,2,.qo FJ),(9,3,aI wC),(9,4,.c Dc [2,3] [2,3])]) [(1,3,z 0),(1,7,z 0),(2,3,z 0),(2,7,.w [LH.aS (0:Nat)]),(4,3,z 0),(4,7,z 0),(7,3,z 0),(7,8,.w [LH.aS (0:Nat)])] ao5 dV gj [] ao7
def afG(m:ah):cF (dF m)=m:=by
 apply ByteArray.ext;apply Array.ext';unfold cF dF;have e:(λn=>UInt8.ofNat n)∘UInt8.toNat=id:=by funext u;simp
 simp[e]
def aj2(m:ah):∀b∈dF m,b<256:=by
 intro b a;obtain⟨u,_,rfl⟩:=List.mem_map.1 a;exact u.toNat_lt
structure Xg where
 l:c4
 A:Nat
 m:ah
def uV(l:c4)(a:Nat)(F:ag):Prop:=aH F ⟨a,0,none⟩ (.pointer (some ⟨l.b,0,none⟩))/\qF l F
def uV.sub{l:c4}{a:Nat}{A B:ag}(hs:Sub A B)(h:uV l a A):uV l a B:=⟨h.1.sub hs,qF.sub hs h.2⟩
abbrev Eh:aF where
 X:=Xg
 args x:=[C x.m,W (some ⟨x.A,0,none⟩)]
 cond x:=0<=x.l.i/\x.l.i<=x.l.af.size/\x.l.af.size<=1048576
 aE x F:=uV x.l x.A F
 val x _:=al (H (dn x.l.af x.l.i.toNat (dF x.m)))
 eL _ _ _ a h:=uV.sub a h
def aiI(x:Xg)(F:ag)(k:Eh.cond x)(h:Eh.aE x F):∃(e:bv),aH F ⟨x.A,0,none⟩ (W e)/\Gy [W e] (cO F) (λd c=>u6 [C (d.af.extract d.i.toNat d.af.size),C x.m] (λb a=>l Eh x F (al (H (iR b.a b.b))) [(0,F)])):=by
 delta vO Gy cO u6 g fv bz C H W al;obtain⟨j,f,m⟩:=k;have s:Sub F (.cJ (rest [(0,F)] [])):=bB 0;refine⟨_,h.1,Wo,rfl,x.l,rfl,rfl,⟨j,f,m⟩,qF.sub s h.2,λ_ _=>kH BH ⟨x.l.af.extract x.l.i.toNat x.l.af.size,x.m⟩ λ_ _=>⟨(),ai,l7 ?_,ao [0]⟩⟩;have:=Sa (s:=x.l.af) (i:=x.l.i.toNat) (t:=dF x.m) (aj2 _) O;rw[afG]at this;exact this
def aiH:aG 96 Eh:=cY func96 [(1,0,.q [.ex 0 .ptr]),(1,1,aI An),(1,3,aI m7)] aiI
def pC(s:ah)(i:Nat):List ah->Nat->Int
 | [],_=> -1
 |m::r,k=>bif dn s i (dF m) then (k:Int) else pC s i r (k+1)
structure Dq where
 l:c4
 A:Nat
abbrev BI:aF where
 X:=Dq
 args x:=[.slice (some ⟨1,0,none⟩) 42 42,.func (.func 96) #[] #[.pointer (some ⟨x.A,0,none⟩)]]
 cond x:=0<=x.l.i/\x.l.i<=x.l.af.size/\x.l.af.size<=1048576
 aE x F:=Gl F/\uV x.l x.A F
 val x _:=al (Z (pC x.l.af x.l.i.toNat fx 0))
 eL _ _ _ a h:=⟨h.1.sub a,uV.sub a h.2⟩
structure Gg where
 k:Nat
def aik(x:Dq)(F:ag):Nat->Option Inv:=fun
 |0=>some {X:=Gg,P:=λd=>d.k<=42/\pC x.l.af x.l.i.toNat fx 0=pC x.l.af x.l.i.toNat (fx.drop d.k) d.k,mu:=λd=>42-d.k,lv:=λd=>[(0,.slice (some ⟨1,0,none⟩) 42 42),(1,.func (.func 96) #[] #[.pointer (some ⟨x.A,0,none⟩)]),(7,.int .i64 42),(8,.int .i64 d.k)],st:=λ_=>[F]}
 |_=>none
def M5(a:Gg)(x:Dq):=a.k<=42/\pC x.l.af x.l.i.toNat fx 0=pC x.l.af x.l.i.toNat (List.drop a.k fx) a.k
abbrev zS:bv:=some ⟨1,0,none⟩
abbrev IB(x:Dq):aN:=[W (some ⟨x.A,0,none⟩)]
def b9(c:Oper)(a:aN)(b:qD->Prop):=cN prog c (dy 1)/\∃(z:qD),a=[Q (some ⟨z.b,z.o,none⟩) z.len z.aq,Z z.n]/\(0<=z.n/\z.n<z.len)/\b z
def aiG(x:Dq)(F:ag)(q:BI.cond x)(o:BI.aE x F):(∃(a:Gg),M5 a x/\(Q zS 42 42=Q zS 42 42/\func (Fn.func 96) ⟨[]⟩ ⟨IB x⟩=func (Fn.func 96) ⟨[]⟩ ⟨IB x⟩/\Z (↑(42:Nat):Int)=Z 42/\Z 0=Z ↑a.k/\True)/\ay [(0,F)] [(0,F)])/\aQ λ(f:Gg)_=>M5 f x->aK ((f.k:Int)<42) (b9 (aL f95 4 3) [Q zS 42 42,Z ↑f.k] (λe=>T2 F ⟨e.b,e.o+e.n.toNat*1,none⟩ (λd=>bz 96 Eh (λc=>0<=c.l.i/\c.l.i<=c.l.af.size/\c.l.af.size<=1048576) (λc v=>uV c.l c.A v) [C d,W (some ⟨x.A,0,none⟩)] (cO F) (λc b=>Br (dn c.l.af c.l.i.toNat (dF c.m)) (l BI x F (al (Z ↑f.k)) [(0,F)]) (aA ((f.k:Int)+1)/\∃(a:Gg),M5 a x/\(Q zS 42 42=Q zS 42 42/\func (Fn.func 96) ⟨[]⟩ ⟨IB x⟩=func (Fn.func 96) ⟨[]⟩ ⟨IB x⟩/\Z 42=Z 42/\Z ((f.k:Int)+1)=Z ↑a.k/\True)/\ay [(0,F)] [(0,F)]/\42-a.k<42-f.k))))) (l BI x F rA [(0,F)]):=by
 delta M5 zS IB b9 T2 cO mN rA g aA bz Z C W Q aK al aQ;have s:Sub F (.cJ (rest [(0,F)] [])):=bB 0;refine⟨⟨⟨0⟩,⟨b7 _,rfl⟩,aU,ao [0]⟩, ?_⟩;rintro⟨k⟩ w ⟨p,h⟩;dsimp only at p h⊢;have j:fx.length=42:=rfl;refine bd (λu=>?_) (λt=>?_);obtain⟨m,n⟩:∃m,fx[k]?=some m:=⟨_,da O⟩;have r:fx.drop k=m::fx.drop (k+1):=by{obtain⟨U,rfl⟩:=ic.1 n;exact List.drop_eq_getElem_cons U};rw[r,pC]at h;have e1:0+(k:Int).toNat*1=k:=O;refine⟨bZ 1 rfl rfl rfl rfl,⟨1,0,42,42,k⟩,rfl,bX,m,by dsimp only;rw[e1];exact o.1.LJ k m n,aiH,rfl,⟨x.l,x.A,m⟩,rfl,rfl,q,uV.sub s o.2,λ_ _=>ar (λi=>⟨(),ai,Al ?_,ao [0]⟩) (λi=>⟨aC,⟨k+1⟩,⟨bX, ?_⟩,aU,ao [0],bX⟩)⟩;rw[show dn x.l.af x.l.i.toNat (dF m)=true from i]at h;exact h.symm;rw[show dn x.l.af x.l.i.toNat (dF m)=false from i]at h;exact h;rw[List.drop_eq_nil_of_le O]at h;exact⟨(),ai,Al h.symm,ao [0]⟩
def aiF:aG 95 BI:=mt func95 (λ_ _=>[(4,3,.qo (dy 1)),(4,4,.q [.ex 0 .str]),(4,5,aI Eh)]) aik aiG
section
def vc(n:Nat):j5 where
 X:=yB
 args x:=[.pointer (some x.a)]
 cond x:=x.a.off=0/\x.a.spot=none
 val x:=.slice (some x.a) n n
def KL{P:Program}{o:Oper}{t e:TypeId}{n:Nat}{x:Operand}{c:TypeInfo}(d:o.op= .slice t x none none none)(l:P.underlying t=some (.array (P.arrayLen t) (P.elem t)))(hn:P.arrayLen t=n)(j:P.elem t=e)(k:P.info? e=some c):cN P o (vc n):=by
 refine⟨λq w ρ h i=>?_⟩;obtain⟨⟨b,m,g⟩⟩:=q;obtain⟨rfl,rfl⟩:=i;simp only[d,Op.operands,vc]at h;have a:ρ x= .pointer (some ⟨b,0,none⟩):=by grind
 have f:=run_sliceAt_array_all (P:=P) w t ⟨b,0,none⟩ l;rw[j,run_sizeOf w k,hn]at f;simp[execOp,d,a,f,slicedAt,vc,Addr.add]
def lS(x:a8):aN:=[.int .i64 x.ak,.string x.aJ,.float .f64 x.aT,.int .i64 x.au,.bool x.aB]
def iF(l:List a8):aN:=l.flatMap lS
def iV(K:bD)(s:ah)(p:Nat):Nat:=K.nv (bo (s.extract p (d8 s p).1))
variable{s:ah}{aT:Nat->Nat}
theorem Hz{i:Nat}{aB:Bool}(h:gn (L s i)=true):gH aT s i aB=(bw s iE i,some ⟨bif Db (s.extract i (bw s iE i)) then 2 else 1,s.extract i (bw s iE i),0,i,aB⟩):=by
 unfold gH;dsimp only;rw[h] <;> rfl
def jg(s:ah)(i:Nat):Bool:=bE (L s i)||(L s i==46&&(decide (i+1<s.size)&&bE (L s (i+1))))
theorem HA{i:Nat}{aB:Bool}(h:gn (L s i)=false)(a:jg s i=true):gH aT s i aB=((d8 s i).1,bif (d8 s i).2 then some ⟨3,⟨#[]⟩,aT i,i,aB⟩ else none):=by
 unfold gH;unfold jg at a;dsimp only;rw[h,a] <;> rfl
theorem HB{i:Nat}{aB:Bool}(h:gn (L s i)=false)(a:jg s i=false)(b:(L s i==34||L s i==39)=true):gH aT s i aB=match me s i with| (j,none)=>(j,none)| (j,some u)=>(j,some ⟨4,cF u,0,i,aB⟩):=by
 unfold gH;unfold jg at a;dsimp only;rw[h,a,b] <;> rfl
theorem Ez{i:Nat}{aB:Bool}(h:gn (L s i)=false)(a:jg s i=false)(b:(L s i==34||L s i==39)=false):gH aT s i aB=match fx.find? λm=>dn s i (dF m)with|none=>(i,none)|some m=>(i+m.size,some ⟨5,m,0,i,aB⟩):=by
 unfold gH;unfold jg at a;grind
theorem ajN(s:ah)(i:Nat):∀(l:List ah)(k:Nat),(l.find? (λm=>dn s i (dF m))=none/\pC s i l k= -1)\/∃j m,l[j]?=some m/\l.find? (λm=>dn s i (dF m))=some m/\pC s i l k=((k+j:Nat):Int):=by
 intro l
 induction l with
 |nil=>intro k;exact .inl ⟨rfl,rfl⟩
 |cons m l b=>
  intro k;rw[List.find?_cons,pC];cases h:dn s i (dF m)with
  |true=>exact .inr ⟨0,m,rfl,rfl,rfl⟩
  |false=>
   rcases b (k+1)with⟨e1,a⟩| ⟨j,c,e1,a,d⟩;simp[*];exact .inr ⟨j+1,c,e1,a,by grind⟩
theorem ajH:∀m∈fx,m.size<=3:=by decide+kernel
theorem ai6{x:a8}:∀u∈lS x,u.oneCell'=true:=by
 intro u a;unfold lS at a;simp at a;rcases a with rfl|rfl|rfl|rfl|rfl <;> rfl
theorem ai7(l:List a8)(d:a8):iF (l++[d])=iF l++lS d:=by unfold iF;simp
structure qG where
 K:bD
 b:Nat
 af:ah
 i:Nat
 aB:Bool
 r:Row
 ls:List a8
abbrev zt:aF where
 X:=qG
 Y:=Row ⊕ (Nat×Row)
 args x:=[W (some ⟨x.b,0,none⟩)]
 pre x:=[D x.b [C x.af,Z x.i,H x.aB,Q x.r.a x.r.n x.r.aq] 82,x.r.A]
 cond x:=x.i<x.af.size/\x.af.size<=1048570/\aG 117 (pE x.K)/\bl 56 5 (iF x.ls) x.r/\x.r.n<=1048576
 aE x F:=eu x.K F
 bS x y:=match y with
  | .inl r=>∃k d,gH (iV x.K x.af) x.af x.i x.aB=(k,some d)/\bl 56 5 (iF (x.ls++[d])) r
  | .inr _=>(gH (iV x.K x.af) x.af x.i x.aB).2=none
 val _ y:=match y with
  | .inl _=>.returned (.bool true)
  | .inr _=>.returned (.bool false)
 post x y:=match y with
  | .inl r=>[.cells x.b [.string x.af,.int .i64 ((gH (iV x.K x.af) x.af x.i x.aB).1:Nat),.bool false,.slice r.a r.n r.aq] 82,r.A]
  | .inr (k,r)=>[.cells x.b [.string x.af,.int .i64 (k:Int),.bool false,.slice r.a r.n r.aq] 82,r.A]
 sum:=some (iL Row (Nat×Row))
structure Gn where
 j:Nat
 d:a8
 ok:Bool
 A:Nat
 lc:Nat
abbrev nb(x:qG):aN:=[W (some ⟨x.b,0,none⟩)]
def akA(x:qG)(F:ag):Nat->Option Inv:=fun
 |21=>some {X:=Gn,P:=λd=>(d.ok=true->gH (iV x.K x.af) x.af x.i x.aB=(d.j,some d.d))/\(d.ok=false->(gH (iV x.K x.af) x.af x.i x.aB).2=none),mu:=λ_=>0,lv:=λd=>[(1,W (some ⟨d.A,0,none⟩)),(3,W (some ⟨d.lc,0,none⟩)),(4,H d.ok)],st:=λd=>[D x.b [C x.af,Z d.j,H false,Q x.r.a x.r.n x.r.aq] 82,x.r.A,F,D d.A (nb x) 80,D d.lc (lS d.d) 56]}
 |_=>none
abbrev Cc(x:qG):aN:=[C x.af,Z ↑x.i,H false,Q x.r.a x.r.n x.r.aq]
abbrev My(x:qG)(F:ag)(p o:Nat):=[(0,D x.b (Cc x) 82),(1,x.r.A),(2,F),(1000,D p (nb x) 80),(2090,D o [Z 0,C ⟨#[]⟩,float f64 0,Z ↑x.i,H x.aB] 56)]
abbrev UX(e:c4):aN:=[C e.af,Z (↑(bw e.af iE e.i.toNat):Int),H e.aB,Q e.oa e.on e.oc]
abbrev Ti(e:c4)(x:qG)(F:ag)(p o:Nat):=[(0,D e.b (UX e) 82),(1,x.r.A),(2,F),(1000,D p (nb x) 80),(2090,D o [Z 1,C (e.af.extract e.i.toNat (bw e.af iE e.i.toNat)),float f64 0,Z ↑x.i,H x.aB] 56)]
def Ul(z:Gn)(a:qG):=(z.ok=true->gH (iV a.K a.af) a.af a.i a.aB=(z.j,some z.d))/\(z.ok=false->(gH (iV a.K a.af) a.af a.i a.aB).snd=none)
abbrev EN(z:Gn):aN:=[Z z.d.ak,C z.d.aJ,float f64 z.d.aT,Z z.d.au,H z.d.aB]
def DJ(a:qG)(e1:ag)(c d e:aD)(b:St):=∃(z:Gn),Ul z a/\(c=W (some ⟨z.A,0,none⟩)/\d=W (some ⟨z.lc,0,none⟩)/\e=H z.ok/\True)/\ay b [(0,D a.b [C a.af,Z ↑z.j,H false,Q a.r.a a.r.n a.r.aq] 82),(1,a.r.A),(2,e1),(3,D z.A (nb a) 80),(4,D z.lc (EN z) 56)]
abbrev bL(p:Nat):=W (bq p)
def XK:=dP 93 qc (λa=>0<=a.l.i/\a.l.i<=a.l.af.size/\a.l.af.size<=1048576/\aG 117 (pE a.K)) (λa b=>eu a.K b) (λ_ _=>True)
def Uz(o p:Nat)(x:qG)(F:ag):=V o 0/\V p 0/\XK (nb x) [D x.b (Cc x) 82] (g [(0,D x.b (Cc x) 82),(1,x.r.A),(2,F),(1000,D p (nb x) 80),(2090,D o [Z 3,C ⟨#[]⟩,float f64 0,Z ↑x.i,H x.aB] 56)] [0]) (λc b=>V o 2/\DJ x F (bL p) (bL o) (H (d8 c.l.af c.l.i.toNat).snd) [(0,D c.l.b [C c.l.af,Z (↑(d8 c.l.af c.l.i.toNat).fst:Int),H c.l.aB,Q c.l.oa c.l.on c.l.oc] 82),(1,x.r.A),(2,F),(1000,D p (nb x) 80),(2090,D o [Z 3,C ⟨#[]⟩,float f64 (bif (d8 c.l.af c.l.i.toNat).snd then c.K.nv (bo (c.l.af.extract c.l.i.toNat (d8 c.l.af c.l.i.toNat).fst)) else 0),Z ↑x.i,H x.aB] 56)])
def XL:=dP 94 ty (λa=>0<=a.l.i/\a.l.i<a.l.af.size/\a.l.af.size<=1048576) (λ_=>Gl) (λa c=>(∀(b:a_),(me a.l.af a.l.i.toNat).snd=some b->c=cF b))
def Vg(o p:Nat)(x:qG)(F:ag):=V o 0/\V p 0/\XL (nb x) [D x.b (Cc x) 82] (g [(0,D x.b (Cc x) 82),(1,x.r.A),(2,F),(1000,D p (nb x) 80),(2090,D o [Z 4,C ⟨#[]⟩,float f64 0,Z ↑x.i,H x.aB] 56)] [0]) (λc b=>V o 1/\DJ x F (bL p) (bL o) (H (me c.l.af c.l.i.toNat).snd.isSome) [(0,D c.l.b [C c.l.af,Z (↑(me c.l.af c.l.i.toNat).fst:Int),H c.l.aB,Q c.l.oa c.l.on c.l.oc] 82),(1,x.r.A),(2,F),(1000,D p (nb x) 80),(2090,D o [Z 4,C b,float f64 0,Z ↑x.i,H x.aB] 56)])
def XM(c:Oper)(a:aN)(b:yB->Prop):=cN prog c (vc 42)/\∃(z:yB),a=[W (some z.a)]/\(z.a.off=0/\z.a.spot=none)/\b z
def XN:=bz 95 BI (λa=>0<=a.l.i/\a.l.i<=a.l.af.size/\a.l.af.size<=1048576) (λa b=>Gl b/\uV a.l a.A b)
def UN(e:Dq):=0<=pC e.l.af e.l.i.toNat fx 0/\pC e.l.af e.l.i.toNat fx 0<(↑(42:Nat):Int)
def q7(n:c4)(o p:Nat)(x:qG)(F:ag):=Br ((↑(L n.af n.i.toNat):Int)==34) (Vg o p x F) (Br ((↑(L n.af n.i.toNat):Int)==39) (Vg o p x F) (XM (aL f50 5 0) [W zS] (λf=>XN [Q (some f.a) 42 42,func (Fn.func 96) ⟨[]⟩ ⟨[W (bq p)]⟩] (g (My x F p o) []) (λe d=>aK (pC e.l.af e.l.i.toNat fx 0<0) (l zt x F cm (My x F p o)) (true=true/\UN e/\T2 F ⟨1,0+(pC e.l.af e.l.i.toNat fx 0).toNat*1,none⟩ (λc=>V o 0/\V o 1/\true=true/\V p 0/\V x.b 1/\UN e/\T2 F ⟨1,0+(pC e.l.af e.l.i.toNat fx 0).toNat*1,none⟩ (λb=>aA ((x.i:Int)+(b.size:Int))/\V x.b 1/\DJ x F (bL p) (bL o) (H true) [(0,D x.b [C x.af,Z ((x.i:Int)+(b.size:Int)),H false,Q x.r.a x.r.n x.r.aq] 82),(1,x.r.A),(2,F),(1000,D p (nb x) 80),(2090,D o [Z 5,C c,float f64 0,Z ↑x.i,H x.aB] 56)])))))))
theorem akC(x:qG)(F:ag)(hc:zt.cond x)(E:zt.aE x F):∀(p:Nat),true=true/\V p 0/\V x.b 1/\V p 0/\V x.b 2/\∀(o:Nat),bQ o (V p 0/\V x.b 2/\(V p 0/\pY (nb x) (g (My x F p o) []) (λn m=>Dz (ur n) (λf k=>Br (gn f.c) (V o 0/\V p 0/\dK 89 Ap (λe=>vO e) [W (some ⟨x.b,0,none⟩),func (Fn.func 90) ⟨[]⟩ ⟨[]⟩] [D x.b (Cc x) 82] (λe d=>V o 1/\V o 1/\bz 92 AK (λc=>c.s.size<=1048570) (λ_=>Gl) [C (e.af.extract e.i.toNat (bw e.af iE e.i.toNat))] (g (Ti e x F p o) []) (λc b=>Br (Db c.s) (V o 0/\DJ x F (bL p) (bL o) (H true) [(0,D e.b (UX e) 82),(1,x.r.A),(2,F),(1000,D p (nb x) 80),(2090,D o [Z 2,C (e.af.extract e.i.toNat (bw e.af iE e.i.toNat)),float f64 0,Z ↑x.i,H x.aB] 56)]) (DJ x F (bL p) (bL o) (H true) (Ti e x F p o))))) (true=true/\T0 (ur n) (λj i=>Br (bE j.c) (Uz o p x F) (Br ((↑(L n.af n.i.toNat):Int)==46) (V p 0/\V x.b 1/\aA ((x.i:Int)+1)/\V p 0/\V x.b 0/\aK ((x.i:Int)+1<(x.af.size:Int)) (V p 0/\V x.b 0/\V p 0/\V x.b 1/\aA ((x.i:Int)+1)/\(0<=(x.i:Int)+1/\(x.i:Int)+1<(x.af.size:Int))/\T0 [u (B x.af ((x.i:Int)+1))] (λh q=>Br (bE h.c) (Uz o p x F) (q7 n o p x F))) (q7 n o p x F)) (q7 n o p x F)))))))/\aQ λ(e:Gn)_=>Ul e x->true=true/\V e.A 0/\V e.A 0/\V x.b 3/\bQ e.lc (∀(c:Nat),jc (aL f50 21 7) (cS (56:TypeId) 5 48) (λb=>bl 56 5 b.cs b.r/\b.ys.length=b.m*5/\Fp b/\(b.r.n+b.m)*48<=140737488355328/\b.r.n+b.m<=9223372036854775807/\jx b) E9 (λb a=>bl 56 5 (b.cs++b.ys) a/\a.n=b.r.n+b.m/\(b.m=0->a=b.r)) [Q x.r.a x.r.n x.r.aq,Q (bq c) 1 1] [x.r.A] (g [(0,D x.b [C x.af,Z ↑e.j,H false,Q x.r.a x.r.n x.r.aq] 82),(1,x.r.A),(2,F),(3,D e.A (nb x) 80),(4,D e.lc (EN e) 56),(22060,D c (EN e) 56)] [1]) (λb a=>V x.b 3/\l zt x F (al (H e.ok)) [(0,D x.b [C x.af,Z ↑e.j,H false,Q a.a a.n a.aq] 82),(1,a.A),(2,F),(3,D e.A (nb x) 80),(4,D e.lc (EN e) 56),(22060,D c (EN e) 56)]))):=by
 delta pY nb Cc My Dz ur vO UX Ti Ul EN DJ bq bL T0 XK Uz XL Vg XM zS XN cM cm UN T2 q7 Fp jx E9 g V aA bQ cG bz dK dP jc Z u C H W Q D aK al aQ;obtain⟨K,b,af,i,aB,r,ls⟩:=x;obtain⟨hi,hs,U,w,P⟩:=hc;replace E:eu K F:=E;dsimp only at hi hs U w P;dsimp only;have hb:=ir af i;intro z;refine⟨rfl,Y,Y,Y,Y,λlc=>⟨Y,Y,Y,Y,Y,Y,Y, ?_, ?_⟩⟩;rotate_left;rintro⟨j,d,ok,z,lc⟩ js ⟨R,k2⟩;dsimp only at R k2⊢;refine⟨rfl,Y,Y,Y,Y,Y,Y,Y,Y,λsb=>ba (iN 5 48 rfl rfl rfl rfl rfl rfl rfl (by decide)) ⟨r,iF ls,some ⟨sb,0,none⟩,1,1,lS d⟩ ⟨w,rfl,ai6,by grind,by grind,λh=>nomatch h⟩ (?_) λT h2=>⟨Y, ?_⟩⟩;intro a ha;cases ha;exact cR.rest (j:=22060) X (cR.cells (λj s hj=>by rw[gZ];exact hj));cases ok with
 |true=>exact⟨.inl T,⟨j,d,R rfl,by rw[ai7];simp[*]⟩,rfl,ay.pick [0,1,2] rfl (by simp only[zt,R rfl];rfl)⟩
 |false=>exact⟨.inr (j,T),k2 rfl,rfl,ao [0,1,2]⟩
 refine lH (A:=gn (L af i)=false/\jg af i=true) (λkn=>lH (A:=gn (L af i)=false/\jg af i=false) (λS=>⟨Y,vE,rfl,⟨b,af,(i:Int),false,r.a,r.n,r.aq⟩,rfl,rfl,⟨by simp[*],by grind⟩,⟨aH.rest (j:=0) X (aH.cells rfl),aH.rest (j:=0) X (aH.cells rfl)⟩,λ_ _=>bG Sn ⟨L af (i:Int).toNat⟩ (ir _ _) λ_ _=>ar (λt=>?_) (λt=>⟨rfl,yV,rfl,⟨L af (i:Int).toNat⟩,rfl,rfl,ir _ _,ai,λ_ _=>ar (λhd=>kn ⟨t, ?_⟩) (λhd=>ar (λv=>⟨Y,Y,aC,Y,Y,bd (λM=>⟨Y,Y,Y,Y,aC,⟨O,M⟩,yV,rfl,⟨L af (i+1)⟩, ?_,rfl,ir _ _,ai,λ_ _=>ar (λN=>kn ⟨t, ?_⟩) (λN=>S ⟨t, ?_⟩)⟩) (λM=>S ⟨t, ?_⟩)⟩) (λv=>S ⟨t, ?_⟩))⟩)⟩) (λhe=>?_)) (λG=>?_)
 ·have t:gn (L af i)=true:=t;obtain⟨r1,T⟩:=n_ af iE (show i<=af.size by omega);have e1:gH (iV K af) af i aB=_:=Hz t;refine⟨Y,Y,anJ,rfl,⟨b,af,(i:Int),false,r.a,r.n,r.aq⟩,rfl,rfl,⟨by simp[*],by grind,by grind⟩,ai,λ_ _=>⟨Y,Y,apP,rfl,⟨af.extract i (bw af iE i)⟩,rfl,rfl, ?_,Gl.rest (j:=2) X E.gl,λ_ _=>ar (λhw=>⟨Y,⟨⟨bw af iE i,⟨2,af.extract i (bw af iE i),0,i,aB⟩,true,z,lc⟩,⟨λ_=>?_,λh=>nomatch h⟩,aU,ao [0,1,2,1000,2090]⟩⟩) (λhw=>⟨⟨bw af iE i,⟨1,af.extract i (bw af iE i),0,i,aB⟩,true,z,lc⟩,⟨λ_=>?_,λh=>nomatch h⟩,aU,ao [0,1,2,1000,2090]⟩)⟩⟩;dsimp only;rw[iA];omega
  all_goals grind
 unfold jg;grind;rw[gR,show((i:Int)+1).toNat=i+1 by omega];have v:((L af i:Int)==46)=true:=v;unfold jg;grind;unfold jg;grind;unfold jg;grind;have v:((L af i:Int)==46)=false:=v;unfold jg;grind
 ·obtain⟨t,G⟩:=he;refine lH (A:=(L af i==34||L af i==39)=true) (λkt=>ar (λh=>kt ?_) (λI=>ar (λh=>kt ?_) (λJ=>?_))) (λht=>?_);grind;grind;have I:((L af i:Int)==34)=false:=I;have J:((L af i:Int)==39)=false:=J;have e1:gH (iV K af) af i aB=_:=Ez t G (by grind);refine⟨KL rfl rfl rfl rfl rfl,⟨⟨1,0,none⟩⟩,rfl,Y,aiF,rfl,⟨⟨b,af,(i:Int),false,r.a,r.n,r.aq⟩,z⟩,rfl,rfl,⟨by simp[*],by grind,by grind⟩,⟨Gl.rest (j:=2) X E.gl,aH.rest (j:=1000) X (aH.cells rfl),⟨aH.rest (j:=0) X (aH.cells rfl),aH.rest (j:=0) X (aH.cells rfl)⟩⟩,λ_ _=>?_⟩;dsimp only;rw[cy];rcases ajN af i fx 0 with⟨f1,f2⟩| ⟨j,m,f1,f2,f3⟩;rw[f2];exact ar (λ_=>⟨.inr (i,r),by show(gH (iV K af) af i aB).2=none;simp[*],rfl,ao [0,1,2]⟩) (λh=>absurd h (by decide));rw[f3,gZ];have hj:j<42:=(ic.1 f1).1;have hm:m.size<=3:=ajH m (iz f1);have e2:0+(j:Int).toNat*1=j:=O;have lk:aH F ⟨1,0+(j:Int).toNat*1,none⟩ (.string m):=by rw[e2];exact E.gl.LJ j m f1
  have ej:(i:Int)+(m.size:Int)=((i+m.size:Nat):Int):=O;refine ar (λh=>absurd (kK h) O) (λ_=>⟨rfl,aC,m,lk,Y,Y,rfl,Y,Y,aC,m,lk,aC,Y,⟨⟨i+m.size,⟨5,m,0,i,aB⟩,true,z,lc⟩,⟨λ_=>by simp[*],λh=>nomatch h⟩,aU,ay.pick [0,1,2,1000,2090] rfl (by rfl)⟩⟩)
  ·have e1:gH (iV K af) af i aB=_:=HB t G ht;refine⟨Y,Y,ao6,rfl,⟨⟨b,af,(i:Int),false,r.a,r.n,r.aq⟩⟩,rfl,rfl,⟨by simp[*],by simp[*],by grind⟩,Gl.rest (j:=2) X E.gl,λy hy=>⟨Y,⟨⟨(me af i).1,⟨4,y,0,i,aB⟩,(me af i).2.isSome,z,lc⟩,⟨λh=>?_,λh=>?_⟩,aU,ao [0,1,2,1000,2090]⟩⟩⟩
   all_goals grind
 ·obtain⟨t,G⟩:=G;have e1:gH (iV K af) af i aB=_:=HA t G;refine⟨Y,Y,aj5,rfl,⟨K,⟨b,af,(i:Int),false,r.a,r.n,r.aq⟩⟩,rfl,rfl,⟨by simp[*],by grind,by grind,U⟩,eu.rest (j:=2) X E,λ_ _=>⟨Y,⟨⟨(d8 af i).1,⟨3,⟨#[]⟩,bif (d8 af i).2 then iV K af i else 0,i,aB⟩,(d8 af i).2,z,lc⟩,⟨λh=>?_,λh=>?_⟩,aU,ao [0,1,2,1000,2090]⟩⟩⟩
  all_goals grind
theorem akB:aG 50 zt:=fo 118 func50 (λ_ _=>[(0,0,.n 1000),(1,9,.n 2090),(4,1,aI oR),(10,1,aI ue),(12,1,q Ap),(13,2,aI AK),(15,1,aI qX),(15,29,aI qX),(17,1,q qc),(20,1,q ty),(5,0,.qo (vc 42)),(5,2,aI BI),(8,2,.q [.ex 2 .str]),(9,6,.q [.ex 2 .str]),(21,6,.n 22060),(21,7,.o (cS 56 5 48) [1] [1])]) [(1,0,z 1000),(1,3,z 0),(1,4,z 1000),(1,7,z 0),(1,10,.w [LH.aS (2090:Nat),LH.aS (2090:Nat),LH.aS (2090:Nat),LH.aS (2090:Nat),LH.aS (2090:Nat)]),(2,0,z 1000),(2,3,.w [LH.aS (0:Nat)]),(4,0,z 1000),(21,0,z 3),(11,1,.w [LH.aS (2090:Nat)]),(16,1,.w [LH.aS (2090:Nat)]),(15,6,z 1000),(19,1,.w [LH.aS (2090:Nat)]),(8,4,.w [LH.aS (2090:Nat)]),(21,1,z 3),(12,0,z 1000),(17,0,z 1000),(15,9,z 0),(20,0,z 1000),(8,6,.w [LH.aS (2090:Nat)]),(21,4,z 0),(12,3,.w [LH.aS (2090:Nat)]),(17,6,.w [LH.aS (2090:Nat)]),(15,11,z 1000),(20,6,.w [LH.aS (2090:Nat)]),(9,0,z 1000),(21,5,.q [LH.aS (4:Nat),LH.aS (4:Nat),LH.aS (4:Nat),LH.aS (4:Nat),LH.aS (4:Nat)]),(13,1,z 2090),(15,14,z 0),(9,3,z 0),(21,10,.w [LH.aS (0:Nat)]),(14,1,.w [LH.aS (2090:Nat)]),(15,19,z 1000),(9,11,.w [LH.aS (0:Nat)]),(15,22,z 0),(15,23,z 1000),(15,26,z 0)] dV akA gj [] akC
end
section
def Hu(s:ah):∀(f i:Nat),i<=s.size->i<=(f_ s f i).1/\(f_ s f i).1<=s.size:=by
 intro f
 induction f with
 |zero=>intro i h;exact⟨bK _,h⟩
 |succ f e=>
  intro i h;rw[f_];by_cases b:i<s.size;rw[bp b,aW];cases d:c6 s i with
  |none=>exact⟨bK _,h⟩
  |some a=>
   obtain⟨c,n⟩:=a;obtain⟨f1,f2,f3⟩:=lV d;grind
  simp[*]
variable{s:ah}{i:Nat}
theorem Hj{t:a_}(h:dn s i t=true):i+t.length<=s.size:=by
 unfold dn at h;grind
theorem Sf(s:ah)(t:a_):∀(f i k:Nat),pA s t f i=some k->k+t.length<=s.size:=by
 intro f
 induction f with
 |zero=>intro i k h;cases h
 |succ f a=>
  intro i k h;rw[pA]at h;cases hp:dn s i t with
  |true=>rw[hp]at h;cases h;exact Hj hp
  |false=>
   grind
theorem Rw(s:ah):∀(f i:Nat)(aB:Bool),i<=s.size->i<=(cW s f i aB).2.1/\(cW s f i aB).2.1<=s.size:=by
 intro f
 induction f with
 |zero=>intro i aB h;exact⟨bK _,h⟩
 |succ f p=>
  intro i aB h;rw[cW];by_cases e:i<s.size;rw[bp e,aW];cases g:c6 s i with
  |none=>exact⟨bK _,h⟩
  |some b=>
   obtain⟨c,n⟩:=b;obtain⟨f1,f2,f3⟩:=lV g;have step:∀(j:Nat)(l:Bool),i<=j->j<=s.size->i<=(cW s f j l).2.1/\(cW s f j l).2.1<=s.size:=λj l d a=>by{grind};dsimp only;cases iD c with
   |true=>exact step _ _ O f1
   |false=>
    cases t8 c with
    |true=>exact step _ _ O f1
    |false=>
     rw[y];cases d:dn s i [47,47]with
     |true=>
      rw[aW];have o:=Hu s (s.size+1) i h;grind
     |false=>
      rw[y];cases a:dn s i [47,42]with
      |true=>
       rw[aW];have hp:=Hj a;have hp:i+2<=s.size:=hp;cases m:pA (s.extract (i+2) s.size) [42,47] (s.size+1) 0 with
       |none=>exact⟨bK _,h⟩
       |some k=>
        have U:=Sf _ _ _ _ _ m;rw[iA,Nat.min_self]at U;grind
      |false=>exact⟨bK _,h⟩
  simp[*]
theorem aa1{p:Nat->Bool}(a:i<s.size)(hp:p (L s i)=true):i+1<=bw s p i/\bw s p i<=s.size:=by
 unfold bw;rw[gL,bp a,hp];exact aa3 s p _ (i+1) a
theorem abw(s:ah)(mark:Nat):∀(f i:Nat)(o:a_),i<=s.size->i<=(lE s mark f i o).1/\(lE s mark f i o).1<=s.size:=by
 intro f
 induction f with
 |zero=>intro i o h;exact⟨bK _,h⟩
 |succ f e=>
  intro i o h;rw[lE];cases d:c6 s i with
  |none=>exact⟨bK _,h⟩
  |some b=>
   obtain⟨c,n⟩:=b;obtain⟨f1,f2,f3⟩:=lV d;dsimp only;cases c==10||c==13 with
   |true=>exact⟨bK _,h⟩
   |false=>
    cases c==mark with
    |true=>exact⟨by simp[*],f1⟩
    |false=>
     rw[y];cases c==92 with
     |true=>
      rw[aW];rcases a:eE s (i+n)with⟨j,_|u⟩;obtain⟨q1,q2,_⟩:=Ha a f1;grind;obtain⟨q1,q2,_⟩:=Ha a f1;grind
     |false=>
      grind
theorem Z5{j:Nat}(h:j<=s.size)(ok:(rm s j).2=true):j<=(rm s j).1/\(rm s j).1<=s.size:=by
 unfold rm at ok⊢;cases b:(L s j|||32)==101 with
 |true=>
  rw[aW];have f:j<s.size:=by{rcases Nat.lt_or_ge j s.size with a|a;exact a;rw[wX a]at b;cases b};cases c:(L s (j+1)==43||L s (j+1)==45)with
  |true=>
   rw[aW];have d:j+1<s.size:=wW (by
    intro e;rw[e]at c;cases c)
   have:=n_ s bE (show j+2<=s.size by omega);exact⟨by show j<=bw s bE (j+2);omega,this.2⟩
  |false=>
   rw[y];have:=n_ s bE (show j+1<=s.size by omega);exact⟨by show j<=bw s bE (j+1);omega,this.2⟩
 |false=>exact⟨bK _,h⟩
theorem Z6(d:i<s.size)(h:jg s i=true)(ok:(d8 s i).2=true):i+1<=(d8 s i).1/\(d8 s i).1<=s.size:=by
 rw[BV]at ok⊢;cases f:(L s i==48&&(decide (i+1<s.size)&&(L s (i+1)|||32)==120))with
 |true=>
  rw[aW];have a:i+1<s.size:=by{grind};have:=n_ s gf (show i+2<=s.size by omega);omega
 |false=>
  rw[f,y]at ok;rw[y];unfold LU zr at ok⊢;have r:=n_ s bE (Nat.le_of_lt d);cases b:(decide (bw s bE i-i>1)&&L s i==48)with
  |true=>rw[b]at ok;cases ok
  |false=>
   rw[b,y]at ok;rw[y];unfold BU at ok⊢;cases a:L s (bw s bE i)==46 with
   |true=>
    rw[a,aW]at ok;rw[aW];have j:bw s bE i<s.size:=wW (by intro e;rw[e]at a;cases a);have g:=n_ s bE (show bw s bE i+1<=s.size by omega);have:=Z5 g.2 ok;omega
   |false=>
    rw[a,y]at ok;rw[y];have:=Z5 r.2 ok;have c:i+1<=bw s bE i:=by
     unfold jg at h;cases c:bE (L s i)with
     |true=>exact(aa1 d c).1
     |false=>
      grind
    omega
theorem SE{aT:Nat->Nat}{k:Nat}{aB:Bool}{d:a8}(e:i<s.size)(h:gH aT s i aB=(k,some d)):i+1<=k/\k<=s.size:=by
 cases a:gn (L s i)with
 |true=>
  rw[Hz a]at h;cases h;exact aa1 e (by unfold iE;simp[*])
 |false=>
  cases b:jg s i with
  |true=>
   rw[HA a b]at h;cases f:(d8 s i).2 with
   |false=>rw[f]at h;cases h
   |true=>
    have:=Z6 e b f;grind
  |false=>
   cases g:(L s i==34||L s i==39)with
   |true=>
    rw[HB a b g]at h;have:=abw s (L s i) (s.size+1) (i+1) [] e;unfold me at h;grind
   |false=>
    rw[Ez a b g]at h;cases c:fx.find? (λm=>dn s i (dF m))with
    |none=>rw[c]at h;cases h
    |some m=>
     rw[c]at h;cases h;have j:dn s i (dF m)=true:=List.find?_some (p:=λm=>dn s i (dF m)) c;have l:=Hj j;have n:(dF m).length=m.size:=by unfold dF;simp
     have o:∀m∈fx,1<=m.size:=by decide+kernel
     grind
end
def LB(l:List a8):(iF l).length=l.length*5:=by
 induction l with
 |nil=>rfl
 |cons d l a=>
  have:iF (d::l)=lS d++iF l:=rfl;rw[this,eH,a,kI];show 5+l.length*5=_;omega
structure wI where
 K:bD
 af:ah
def cA(K:bD)(s:ah):List a8×Int:=xj (iV K s) s
def kg(K:bD)(s:ah):Int×Int:=bif decide (s.size>8192) then (0,2) else ((cA K s).2,50)
abbrev vy:aF where
 X:=wI
 Y:=Row ⊕ ax
 args x:=[C x.af]
 cond x:=aG 117 (pE x.K)
 aE x F:=eu x.K F
 bS x y:=match y with
  | .inl r=>x.af.size<=8192/\(cA x.K x.af).2= -1/\bl 56 5 (iF (cA x.K x.af).1) r/\(cA x.K x.af).1.length<=x.af.size
  | .inr _=>x.af.size>8192\/0<=(cA x.K x.af).2
 val x y:=match y with
  | .inl r=>.returned (.tuple #[.slice r.a r.n r.aq,.int .i64 0,.int .i64 0])
  | .inr _=>.returned (.tuple #[.slice none 0 0,.int .i64 (kg x.K x.af).1,.int .i64 (kg x.K x.af).2])
 post _ y:=match y with
  | .inl r=>[r.A]
  | .inr _=>[.d7]
 sum:=some (iL Row ax)
structure yF where
 b:Nat
 i:Nat
 f:Nat
 aB:Bool
 r:Row
 ls:List a8
abbrev Fu(d:yF):bv:=some ⟨d.b,0,none⟩
def ajD(x:wI)(F:ag):Nat->Option Inv:=fun
 |0=>some {X:=yF,P:=λd=>x.af.size<=8192/\d.i<=x.af.size/\x.af.size<d.i+d.f/\bl 56 5 (iF d.ls) d.r/\d.ls.length<=d.i/\cA x.K x.af=kh (iV x.K x.af) x.af d.f d.i d.aB d.ls,mu:=λd=>x.af.size-d.i,lv:=λd=>[(0,C x.af),(5,W (Fu d))],st:=λd=>[F,D d.b [C x.af,Z d.i,H d.aB,Q d.r.a d.r.n d.r.aq] 82,d.r.A]}
 |_=>none
structure Dt where
 b:Nat
 j:Nat
 m:Nat
 f:Nat
 aB:Bool
 r:Row
 ls:List a8
def ZI:(T:Type)×(Dt->T):=⟨Nat,λd=>d.m⟩
def So(aT:Nat->Nat)(s:ah)(f j:Nat)(aB:Bool)(o:List a8):List a8×Int:=
 bif j==s.size then (o,-1) else match gH aT s j aB with
  | (_,none)=>([],j)
  | (k,some x)=>kh aT s f k false (o++[x])
def ajC(x:wI)(F:ag):Nat->Option Inv:=fun
 |7=>some {X:=Dt,P:=λd=>x.af.size<=8192/\d.j<=x.af.size/\d.m<=d.j/\x.af.size<d.m+(d.f+1)/\bl 56 5 (iF d.ls) d.r/\d.ls.length<=d.j/\cA x.K x.af=So (iV x.K x.af) x.af d.f d.j d.aB d.ls,mu:=λ_=>0,lv:=λd=>[(0,C x.af),(5,W (some ⟨d.b,0,none⟩))],st:=λd=>[F,D d.b [C x.af,Z d.j,H d.aB,Q d.r.a d.r.n d.r.aq] 82,d.r.A],gh:=some ZI}
 |_=>none
def Mr(x:wI)(a:yF):=x.af.size<=8192/\a.i<=x.af.size/\x.af.size<a.i+a.f/\bl 56 5 (iF a.ls) a.r/\a.ls.length<=a.i/\cA x.K x.af=kh (iV x.K x.af) x.af a.f a.i a.aB a.ls
abbrev M_(F:ag)(a:yF)(x:wI):=[(0,F),(1,D a.b [C x.af,Z ↑a.i,H a.aB,Q a.r.a a.r.n a.r.aq] 82),(2,a.r.A)]
abbrev Ty(F:ag)(c:c4)(i:yF):=[(0,F),(1,D c.b [C c.af,Z (↑(cW c.af (c.af.size+1) c.i.toNat c.aB).snd.fst:Int),H (cW c.af (c.af.size+1) c.i.toNat c.aB).snd.snd,Q c.oa c.on c.oc] 82),(2,i.r.A)]
def Tx(x:wI)(a:Dt)(g:Nat):=(x.af.size<=8192/\a.j<=x.af.size/\a.m<=a.j/\x.af.size<a.m+(a.f+1)/\bl 56 5 (iF a.ls) a.r/\a.ls.length<=a.j/\cA x.K x.af=So (iV x.K x.af) x.af a.f a.j a.aB a.ls)/\ZI.snd a=g
abbrev Na(F:ag)(a:Dt)(x:wI):=[(0,F),(1,D a.b [C x.af,Z ↑a.j,H a.aB,Q a.r.a a.r.n a.r.aq] 82),(2,a.r.A)]
def ajF(x:wI)(F:ag)(T:vy.cond x)(z:vy.aE x F):aK ((x.af.size:Int)>8192) (l vy x F (al (tuple ⟨[Q none 0 0,Z 0,Z 2]⟩)) [(0,F)]) (∀(j:Nat),(∃(a:yF),Mr x a/\(C x.af=C x.af/\W (bq j)=W (Fu a)/\True)/\ay [(0,F),(4020,D j [C x.af,Z 0,H false,Q none 0 0] 82)] (M_ F a x))/\aQ λ(i:yF)_=>Mr x i->∃(n:Nat),dP 49 qU (λc=>vO c) (λ_=>Gl) (λ_ _=>True) [W (Fu i)] [D i.b [C x.af,Z ↑i.i,H i.aB,Q i.r.a i.r.n i.r.aq] 82] (g (M_ F i x) [1]) (λc b=>aK ((cW c.af (c.af.size+1) c.i.toNat c.aB).fst>=0) (l vy x F (al (tuple ⟨[Q none 0 0,Z (cW c.af (c.af.size+1) c.i.toNat c.aB).fst,Z 50]⟩)) (Ty F c i)) (∃(a:Dt),Tx x a n/\(C x.af=C x.af/\W (Fu i)=W (some ⟨a.b,0,none⟩)/\True)/\ay (Ty F c i) (Na F a x)))/\aQ λ(f:Dt)_=>Tx x f n->V f.b 1/\Br ((f.j:Int)==(x.af.size:Int)) (V f.b 3/\l vy x F (al (tuple ⟨[Q f.r.a f.r.n f.r.aq,Z 0,Z 0]⟩)) (Na F f x)) (V f.b 1/\aG 50 zt/\true=true/\∃(d:qG),[W (some ⟨f.b,0,none⟩)]=(nb d)/\[D f.b [C x.af,Z ↑f.j,H f.aB,Q f.r.a f.r.n f.r.aq] 82,f.r.A]=[D d.b [C d.af,Z ↑d.i,H d.aB,Q d.r.a d.r.n d.r.aq] 82,d.r.A]/\(d.i<d.af.size/\d.af.size<=1048570/\aG 117 (pE d.K)/\bl 56 5 (iF d.ls) d.r/\d.r.n<=1048576)/\eu d.K (g (Na F f x) [1,2])/\(∀(c:Row),(∃(b:Nat),∃(a:a8),gH (iV d.K d.af) d.af d.i d.aB=(b,some a)/\bl 56 5 (iF (d.ls++[a])) c)->∃(a:yF),Mr x a/\(C x.af=C x.af/\W (some ⟨f.b,0,none⟩)=W (Fu a)/\True)/\ay [(0,F),(1,D d.b [C d.af,Z (↑(gH (iV d.K d.af) d.af d.i d.aB).fst:Int),H false,Q c.a c.n c.aq] 82),(2,c.A)] (M_ F a x)/\x.af.size-a.i<x.af.size-i.i)/\∀(a:Nat×Row),(gH (iV d.K d.af) d.af d.i d.aB).snd=none->l vy x F (al (tuple ⟨[Q none 0 0,Z ↑f.j,Z 50]⟩)) [(0,F),(1,D d.b [C d.af,Z ↑a.1,H false,Q a.snd.a a.2.n a.2.aq] 82),(2,a.snd.A)])):=by
 delta Mr bq Fu M_ vO Ty Tx Na nb g V dP Z C H W Q D aK al aQ;have S:aG 117 (pE x.K):=T;replace z:eu x.K F:=z;refine bd (λh=>⟨.inr (),.inl O, ?_,ao [9,0]⟩) (λh=>?_);show returned _=returned (.tuple #[.slice none 0 0,.int .i64 (kg x.K x.af).1,.int .i64 (kg x.K x.af).2]);unfold kg;grind;have E:x.af.size<=8192:=O;have fail:∀(p:Int)(A B:ag),(cA x.K x.af).2=p->0<=p->l vy x F (returned (tuple #[slice none 0 0,int i64 p,int i64 50])) [(0,F),(1,A),(2,B)]:=λp A B e hp=>
  ⟨.inr (),.inr O,by show returned _=returned (.tuple #[.slice none 0 0,.int .i64 (kg x.K x.af).1,.int .i64 (kg x.K x.af).2]);unfold kg;rw[bF (show ¬x.af.size>8192 by omega),e] <;> rfl,ao [9,0]⟩
 intro b;refine⟨⟨⟨b,0,x.af.size+1,false,⟨none,0,0,.d7⟩,[]⟩,⟨E,b7 _,by simp[*],.nil rfl,b7 _,rfl⟩,aU,ao [0,4020,9]⟩, ?_⟩;rintro⟨b,i,f,aB,r,ls⟩ js ⟨P,K,L,M,R,u⟩;dsimp only at P K L M R u⊢;obtain⟨G,rfl⟩:∃G,f=G+1:=⟨f-1,O⟩;have v:=Rw x.af (x.af.size+1) i aB K;refine⟨i,ba afv ⟨b,x.af,(i:Int),aB,r.a,r.n,r.aq⟩ ⟨by simp[*],by simp[*],by grind⟩ (Gl.rest (j:=0) X z.gl) λ_ _=>?_, ?_⟩;dsimp only;rw[cy];rw[kh]at u;revert v u;generalize cW x.af (x.af.size+1) i aB=B;obtain⟨at_,j,s⟩:=B;intro u v;dsimp only at v u⊢;refine bd (λh=>fail at_ _ _ ?_ h) (λh=>⟨⟨b,j,i,G,s,r,ls⟩,⟨⟨E,v.2,v.1,L,M,by grind, ?_⟩,rfl⟩,aU,ao [0,1,2]⟩);simp[*];rw[u,bF h] <;> rfl;rintro⟨b,j,m,f2,o,J,t⟩ x1 ⟨⟨k1,k2,k3,k4,I,k6,q⟩,N⟩;have N:m=i:=N;dsimp only at k2 k3 k4 I k6 q⊢;have x0:J.n=t.length:=by have:=I.len;rw[LB]at this;omega
 unfold So at q;refine⟨Y,ar (λh=>?_) (λh=>?_)⟩;rw[fY x.af.size h,aW]at q;exact⟨Y,.inl J,⟨E,by rw[q],by grind,by grind⟩,rfl,ao [2,0]⟩;have U:=fw.1 (fY x.af.size h);rw[fY x.af.size h,y]at q;refine⟨Y,akB,rfl,⟨x.K,b,x.af,j,o,J,t⟩,rfl,rfl,⟨by grind,by grind,S,I,by grind⟩,eu.rest (j:=0) X z, ?_, ?_⟩;rintro a ⟨k,d,e,w⟩;replace e:gH (iV x.K x.af) x.af j o=(k,some d):=e;obtain⟨o1,o2⟩:=SE (show j<x.af.size by omega) e;rw[e]at q;exact⟨⟨b,k,f2,false,a,t++[d]⟩,⟨E,o2,by grind,w,by grind,q⟩,aU,ay.pick [0,1,2] rfl (by dsimp only;rw[e] <;> rfl),by grind⟩;grind
def ajE:aG 19 vy:=fo 38 func19 (λ_ _=>[(3,2,.n 4020),(4,1,.c qU [1] [1]),(10,1,.c zt [1,2] [1,2])]) [(7,3,z 1),(8,3,z 1),(9,3,z 1)] ajD ajC gj [] ajF
def c5(set:ah)(b:Nat):Bool:=decide (Lib.indexByte set.data.toList (UInt8.ofNat b)>=0)
abbrev s7:aF where
 X:=kB
 args x:=[C x.a,C x.b]
 cond x:=x.a.size<=1099511627776
 val x _:=al (Z (bw x.a (c5 x.b) 0:Nat))
structure Gu where
 i:Nat
 f:Nat
def ant(x:kB)(F:ag):Nat->Option Inv:=fun
 |0=>some {X:=Gu,P:=λd=>d.i<=x.a.size/\x.a.size<d.i+d.f/\bw x.a (c5 x.b) 0=gL x.a (c5 x.b) d.f d.i,mu:=λd=>x.a.size-d.i,lv:=λd=>[(0,C x.a),(1,C x.b),(5,Z d.i)],st:=λ_=>[F]}
 |_=>none
def Ni(a:Gu)(x:kB):=a.i<=x.a.size/\x.a.size<a.i+a.f/\bw x.a (c5 x.b) 0=gL x.a (c5 x.b) a.f a.i
def anu(x:kB)(F:ag)(m:s7.cond x)(o:s7.aE x F):(∃(a:Gu),Ni a x/\(C x.a=C x.a/\C x.b=C x.b/\Z 0=Z ↑a.i/\True)/\ay [(0,F)] [(0,F)])/\aQ λ(e:Gu)_=>Ni e x->aK ((e.i:Int)<(x.a.size:Int)) ((0<=(e.i:Int)/\(e.i:Int)<(x.a.size:Int))/\GK [C x.b,u (B x.a (e.i:Int))] (λc b=>aK (Lib.indexByte c.s.data.toList (UInt8.ofNat c.c)>=0) (aA ((e.i:Int)+1)/\∃(a:Gu),Ni a x/\(C x.a=C x.a/\C x.b=C x.b/\Z ((e.i:Int)+1)=Z ↑a.i/\True)/\ay [(0,F)] [(0,F)]/\x.a.size-a.i<x.a.size-e.i) (l s7 x F (al (Z ↑e.i)) [(0,F)]))) (l s7 x F (al (Z ↑e.i)) [(0,F)]):=by
 delta Ni GK aA cG Z u C aK al aQ;obtain⟨s,set⟩:=x;have p:s.size<=1099511627776:=m;dsimp only;refine⟨⟨⟨0,s.size+1⟩,⟨b7 _,by simp[*],rfl⟩,aU,ao [0]⟩, ?_⟩;rintro⟨i,f⟩ q ⟨j,k,h⟩;dsimp only at j k h⊢;obtain⟨d,rfl⟩:∃d,f=d+1:=⟨f-1,O⟩;have ae:gL s (c5 set) (d+1) i=i->l s7 ⟨s,set⟩ F (returned (int i64 (i:Int))) [(0,F)]:=λe=>
  ⟨(),ai,by show returned _=returned (.int .i64 (bw s (c5 set) 0:Nat));simp[*],ao [0]⟩
 refine bd (λg=>⟨⟨O,g⟩,Se,rfl,⟨set,L s i⟩,by rw[gR,cy],rfl,ir _ _,ai,λ_ _=>ar (λe=>?_) (λe=>?_)⟩) (λn=>ae ?_);have e:c5 set (L s i)=true:=e;exact⟨aC,⟨i+1,d⟩,⟨by grind,by grind,h.trans (by rw[gL,bp (show i<s.size by omega),e] <;> rfl)⟩,aU,ao [0],by grind⟩;have e:c5 set (L s i)=false:=e;exact ae (by rw[gL,bp (show i<s.size by omega),e] <;> rfl);rw[gL,bF (show ¬i<s.size by omega)] <;> rfl
def ON:aG 143 s7:=mt func143 (λ_ _=>[(2,9,aI sD)]) ant anu
def vf(u:Int):Bool:=(decide (u>=9)&&decide (u<=13))||(u==32||(u==160||u==65279))
structure PC where
 u:Int
abbrev tS:aF where
 X:=PC
 args x:=[Z x.u]
 val x _:=al (H (vf x.u))
def TY(x:PC)(F:ag):=Br (x.u==32) (l tS x F gc [(0,F)]) (Br (x.u==160) (l tS x F gc [(0,F)]) (l tS x F (al (H (x.u==65279))) [(0,F)]))
def aft(x:PC)(F:ag)(a:tS.cond x)(c:tS.aE x F):aK (x.u>=9) (aK (x.u<=13) (l tS x F gc [(0,F)]) (TY x F)) (TY x F):=by
 delta gc TY H aK al;obtain⟨u⟩:=x;dsimp only;have ae:∀b,vf u=b->l tS ⟨u⟩ F (returned (bool b)) [(0,F)]:=λb e=>
  ⟨(),ai,by show returned _=returned (.bool (vf u));rw[e],ao [0]⟩
 repeat (first
  |exact ae _ (by unfold vf;simp only[*,bp,bF,Bool.true_and,Bool.true_or,lj,Bool.false_or,not_false_eq_true])
  |refine ar (λ_=>?_) (λ_=>?_))
def Yc:aG 174 tS:=cY func174 [] aft
def jw:ah:=⟨#[48,49,50,51,52,53,54,55,56,57]⟩
def fF(s:ah)(n:Nat):ah:=s.extract n s.size
def sf(s:ah):Bool:=decide (bw s (c5 jw) 0>0)&&bw s (c5 jw) 0==s.size
def G7(s:ah):ah:=bif decide (s.size>0)&&(L s 0==43||L s 0==45) then fF s 1 else s
def D2(s:ah):Bool:=bif decide (s.size>0)&&(L s 0==101||L s 0==69) then sf (G7 (fF s 1)) else s.size==0
def jv(s:ah):Bool:=
 let a:=bw s (c5 jw) 0
 let s1:=fF s a
 bif iR s1 ⟨#[46]⟩ then
  let b:=bw (fF s1 1) (c5 jw) 0
  bif a+b==0 then false else D2 (fF s1 (1+b))
 else bif a==0 then false else D2 s1
abbrev qW:aF where
 X:=kB
 args x:=[C x.a]
 cond x:=x.a.size<=1099511627776
 val x _:=al (H (jv x.a))
def Bu(s:ah)(n:Nat):(fF s n).size=s.size-n:=by unfold fF;rw[iA];omega
def Et(a b:Nat):(a==b)=((a:Int)==(b:Int)):=by
 grind
def O9(s:ah):(s.toList==(ByteArray.mk #[]).toList)=(s.size==0):=by
 have a:=AA s;grind
structure pU where
 a:Nat
 b:Nat
 t:ah
def agm(x:kB)(F:ag):Nat->Option Inv:=fun
 |7=>some {X:=pU,P:=λd=>d.t.size<=x.a.size/\d.a<=x.a.size/\d.b<=x.a.size/\jv x.a=bif d.a+d.b==0 then false else D2 d.t,mu:=λ_=>0,lv:=λd=>[(0,C d.t),(3,Z d.a),(4,Z d.b)],st:=λ_=>[F]}
 |11=>some {X:=pU,P:=λd=>d.t.size<=x.a.size/\jv x.a=sf (G7 d.t),mu:=λ_=>0,lv:=λd=>[(0,C d.t)],st:=λ_=>[F]}
 |13=>some {X:=pU,P:=λd=>d.t.size<=x.a.size/\jv x.a=sf d.t,mu:=λ_=>0,lv:=λd=>[(0,C d.t)],st:=λ_=>[F]}
 |_=>none
def DK:=cG 143 s7 (λa=>a.a.size<=1099511627776)
def UQ(z:pU)(a:kB):=z.t.size<=a.a.size/\z.a<=a.a.size/\z.b<=a.a.size/\(jv a.a=bif z.a+z.b==0 then false else D2 z.t)
def Q3(a:kB)(e1:ag)(c d e:aD)(b:St):=∃(z:pU),UQ z a/\(c=C z.t/\d=Z ↑z.a/\e=Z ↑z.b/\True)/\ay b [(0,e1)]
abbrev N9(j:kB):=Z (↑(bw j.a (c5 j.b) 0):Int)
def Iz(f:pU):=(0:Int)<=0/\0<(f.t.size:Int)
def Nm(h:pU):=(0:Int)<=1/\1<=(h.t.size:Int)/\(h.t.size:Int)<=(h.t.size:Int)
def XO(a:kB)(e1:ag)(c:aD)(b:St):=∃(z:pU),(z.t.size<=a.a.size/\jv a.a=sf (G7 z.t))/\(c=C z.t/\True)/\ay b [(0,e1)]
abbrev Nx(h:pU):=C (h.t.extract (Int.toNat (1:Int)) (h.t.size:Int).toNat)
def GL(a:kB)(e1:ag)(c:aD)(b:St):=∃(z:pU),(z.t.size<=a.a.size/\jv a.a=sf z.t)/\(c=C z.t/\True)/\ay b [(0,e1)]
def Ub(h:pU)(x:kB)(F:ag):=(Nm h/\XO x F (Nx h) [(0,F)])/\aQ λ(f:pU)_=>(f.t.size<=x.a.size/\jv x.a=sf (G7 f.t))->Br (!f.t.toList==gy.toList) (Iz f/\Br (B f.t (0:Int)==(43:Int)) (Nm f/\GL x F (Nx f) [(0,F)]) (Iz f/\Br (B f.t (0:Int)==(45:Int)) (Nm f/\GL x F (Nx f) [(0,F)]) (GL x F (C f.t) [(0,F)]))) (GL x F (C f.t) [(0,F)])/\aQ λ(d:pU)_=>(d.t.size<=x.a.size/\jv x.a=sf d.t)->DK [C d.t,C ⟨#[48,49,50,51,52,53,54,55,56,57]⟩] (λb a=>aK ((↑(bw b.a (c5 b.b) 0):Int)>0) (l qW x F (al (H ((↑(bw b.a (c5 b.b) 0):Int)==(d.t.size:Int)))) [(0,F)]) (l qW x F cm [(0,F)]))
def ago(x:kB)(F:ag)(X:qW.cond x)(hr:qW.aE x F):DK [C x.a,C ⟨#[48,49,50,51,52,53,54,55,56,57]⟩] (λj i=>(0<=(↑(bw j.a (c5 j.b) 0):Int)/\(↑(bw j.a (c5 j.b) 0):Int)<=(x.a.size:Int)/\(x.a.size:Int)<=(x.a.size:Int))/\u6 [C (x.a.extract (↑(bw j.a (c5 j.b) 0):Int).toNat (x.a.size:Int).toNat),C ⟨#[46]⟩] (λe d=>Br (iR e.a e.b) (((0:Int)<=1/\1<=(↑(x.a.extract (↑(bw j.a (c5 j.b) 0):Int).toNat (x.a.size:Int).toNat).size:Int)/\(↑(x.a.extract (↑(bw j.a (c5 j.b) 0):Int).toNat (x.a.size:Int).toNat).size:Int)<=(↑(x.a.extract (↑(bw j.a (c5 j.b) 0):Int).toNat (x.a.size:Int).toNat).size:Int))/\DK [C ((x.a.extract (↑(bw j.a (c5 j.b) 0):Int).toNat (x.a.size:Int).toNat).extract (Int.toNat (1:Int)) (↑(x.a.extract (↑(bw j.a (c5 j.b) 0):Int).toNat (x.a.size:Int).toNat).size:Int).toNat),C ⟨#[48,49,50,51,52,53,54,55,56,57]⟩] (λc b=>aA (1+(↑(bw c.a (c5 c.b) 0):Int))/\((0:Int)<=1+(↑(bw c.a (c5 c.b) 0):Int)/\1+(↑(bw c.a (c5 c.b) 0):Int)<=(↑(x.a.extract (↑(bw j.a (c5 j.b) 0):Int).toNat (x.a.size:Int).toNat).size:Int)/\(↑(x.a.extract (↑(bw j.a (c5 j.b) 0):Int).toNat (x.a.size:Int).toNat).size:Int)<=(↑(x.a.extract (↑(bw j.a (c5 j.b) 0):Int).toNat (x.a.size:Int).toNat).size:Int))/\Q3 x F (C ((x.a.extract (↑(bw j.a (c5 j.b) 0):Int).toNat (x.a.size:Int).toNat).extract (1+(↑(bw c.a (c5 c.b) 0):Int)).toNat (↑(x.a.extract (↑(bw j.a (c5 j.b) 0):Int).toNat (x.a.size:Int).toNat).size:Int).toNat)) (N9 j) (N9 c) [(0,F)])) (Q3 x F (C (x.a.extract (↑(bw j.a (c5 j.b) 0):Int).toNat (x.a.size:Int).toNat)) (N9 j) (Z 0) [(0,F)]))/\aQ λ(h:pU)_=>UQ h x->aA ((h.a:Int)+(h.b:Int))/\Br ((h.a:Int)+(h.b:Int)==0) (l qW x F cm [(0,F)]) (Br (!h.t.toList==gy.toList) (Iz h/\Br (B h.t (0:Int)==(101:Int)) (Ub h x F) (Iz h/\Br (B h.t (0:Int)==(69:Int)) (Ub h x F) (l qW x F (al (H (h.t.toList==gy.toList))) [(0,F)]))) (l qW x F (al (H (h.t.toList==gy.toList))) [(0,F)]))):=by
 delta DK u6 UQ Q3 N9 cM cm gy Iz Nm XO Nx GL Ub aA fv cG Z C H aK al aQ;obtain⟨s,M⟩:=x;have Y:s.size<=1099511627776:=X;dsimp only;have ae:∀b,jv s=b->l qW ⟨s,M⟩ F (returned (bool b)) [(0,F)]:=λb e=>
  ⟨(),ai,by show returned _=returned (.bool (jv s));rw[e],ao [0]⟩
 have Q:=n_ s (c5 jw) (b7 s.size);have o:(s.extract (bw s (c5 jw) 0:Int).toNat (s.size:Int).toNat)=fF s (bw s (c5 jw) 0):=by rfl
 refine bG ON ⟨s,jw⟩ Y λ_ _=>⟨⟨O,by simp[*],cH _⟩, ?_, ?_⟩;dsimp only;rw[o];have q:=Bu s (bw s (c5 jw) 0);have n:jv s=bif iR (fF s (bw s (c5 jw) 0)) ⟨#[46]⟩ then
   (bif bw s (c5 jw) 0+bw (fF (fF s (bw s (c5 jw) 0)) 1) (c5 jw) 0==0 then false else D2 (fF (fF s (bw s (c5 jw) 0)) (1+bw (fF (fF s (bw s (c5 jw) 0)) 1) (c5 jw) 0)))
  else bif bw s (c5 jw) 0==0 then false else D2 (fF s (bw s (c5 jw) 0)):=rfl
 generalize fF s (bw s (c5 jw) 0)=s1 at q n⊢;generalize bw s (c5 jw) 0=a at q n Q⊢;clear o;refine kH BH ⟨s1,⟨#[46]⟩⟩ λ_ _=>ar (λh=>?_) (λh=>?_);have h:iR s1 ⟨#[46]⟩=true:=h;have p:1<=s1.size:=by
  unfold iR at h;rw[iP,decide_eq_true_eq]at h;exact h.1
 rw[h,aW]at n;have I:(s1.extract (Int.toNat 1) (s1.size:Int).toNat)=fF s1 1:=by rfl
 rw[I];have R:=n_ (fF s1 1) (c5 jw) (b7 _);have T:=Bu s1 1;generalize fF s1 1=S at R T n⊢;refine⟨⟨O,O,cH _⟩,ON,rfl,⟨S,jw⟩,rfl,rfl,by grind,ai,λ_ _=>?_⟩;dsimp only;generalize bw S (c5 jw) 0=b at R n⊢;have U:=Bu s1 (1+b);have J:s1.extract (1+(b:Int)).toNat (s1.size:Int).toNat=fF s1 (1+b):=by{rfl};rw[J];generalize fF s1 (1+b)=s3 at U n⊢;exact⟨aC,⟨O,O,cH _⟩,⟨a,b,s3⟩,⟨by grind,by simp[*],by grind,n⟩,aU,ao [0]⟩;have h:iR s1 ⟨#[46]⟩=false:=h;rw[h,y]at n;exact⟨⟨a,0,s1⟩,⟨by simp[*],by simp[*],b7 _,n⟩,aU,ao [0]⟩;clear Q o;rintro⟨a,b,t⟩ P ⟨p,g,W,w⟩;dsimp only at p g W w⊢;have tail:∀t:ah,t.size<=s.size->jv s=sf t->aG 143 s7/\true=true/\∃x:kB,[string t,string jw]=[string x.a,string x.b]/\([]:List ag)=[]/\x.a.size<=1099511627776/\True/\∀_:ax,True->Br (decide ((bw x.a (c5 x.b) 0:Int)>0)) (l qW ⟨s,M⟩ F (returned (bool ((bw x.a (c5 x.b) 0:Int)==(t.size:Int)))) [(0,F)]) (l qW ⟨s,M⟩ F (returned (bool false)) [(0,F)]):=by{intro t ht e;refine bG ON ⟨t,jw⟩ (by grind) λ_ _=>bd (λh=>ae _ ?_) (λh=>ae _ ?_);rw[e];unfold sf;grind;rw[e];unfold sf;grind};have r:(a+b==0)=((a:Int)+(b:Int)==0):=by grind
 rw[r]at w;refine⟨aC,ar (λK=>ae _ (by simp[*])) (λK=>?_)⟩;rw[K,y]at w;have m:jv s=bif decide (t.size>0)&&(L t 0==101||L t 0==69) then sf (G7 (fF t 1)) else t.size==0:=w
 clear w K r;refine ar (λf=>?_) (λf=>ae _ ?_);rw[AA]at f;have z:=kK f;rw[f,Bool.true_and]at m;have D:∀c:Nat,((L t 0:Int)==(c:Int))=(L t 0==c):=λc=>(Et _ _).symm;refine⟨⟨cH _,O⟩,lH (A:=(L t 0==101||L t 0==69)=true) (λk=>ar (λh=>k ?_) (λh=>⟨⟨cH _,O⟩,ar (λg=>k ?_) (λg=>ae _ ?_)⟩)) (λE=>?_)⟩;rw[gR,Int.toNat_zero]at h;grind;rw[gR,Int.toNat_zero]at g;grind;rw[gR,Int.toNat_zero]at h g;rw[show(L t 0==101)=false from(D 101).symm.trans h,show(L t 0==69)=false from(D 69).symm.trans g,Bool.or_self,y]at m;rw[m,O9];rw[E,aW]at m;have q:=Bu t 1;have o:t.extract (Int.toNat 1) (t.size:Int).toNat=fF t 1:=by rfl
 rw[o];generalize fF t 1=u at q m⊢;refine⟨⟨⟨O,O,cH _⟩,⟨0,0,u⟩,⟨by grind,m⟩,⟨rfl,ai⟩,ao [0]⟩, ?_⟩;clear o q m E D z f p u;rintro⟨_,_,u⟩ P ⟨p,N⟩;dsimp only at p N⊢;have G:jv s=sf (bif decide (u.size>0)&&(L u 0==43||L u 0==45) then fF u 1 else u):=N;have D:∀c:Nat,((L u 0:Int)==(c:Int))=(L u 0==c):=λc=>(Et _ _).symm;have q:=Bu u 1;have o:u.extract (Int.toNat 1) (u.size:Int).toNat=fF u 1:=by rfl
 rw[o];refine⟨ar (λf=>?_) (λf=>⟨⟨0,0,u⟩,⟨p, ?_⟩,⟨rfl,ai⟩,ao [0]⟩), ?_⟩;rw[AA]at f;have z:=kK f;rw[f,Bool.true_and]at G;refine⟨⟨cH _,O⟩,lH (A:=(L u 0==43||L u 0==45)=true) (λk=>ar (λh=>k ?_) (λh=>⟨⟨cH _,O⟩,ar (λg=>k ?_) (λg=>⟨⟨0,0,u⟩,⟨p, ?_⟩,⟨rfl,ai⟩,ao [0]⟩)⟩)) (λE=>?_)⟩;rw[gR,Int.toNat_zero]at h;grind;rw[gR,Int.toNat_zero]at g;grind;rw[gR,Int.toNat_zero]at h g;grind;rw[E,aW]at G;exact⟨⟨O,O,cH _⟩,⟨0,0,fF u 1⟩,⟨by grind,G⟩,⟨rfl,ai⟩,ao [0]⟩;rw[AA]at f;grind;rintro⟨_,_,v⟩ P ⟨g,V⟩;exact tail v g V;rw[AA]at f;rw[f,lj,y]at m;rw[m,O9]
def agn:aG 145 qW:=oI func145 (λ_ _=>[(1,1,aI s7),(4,1,aI m7),(5,2,aI s7),(13,1,aI s7)]) agm ago
def or8{a b:Nat}(e:a<256)(f:b<256):i64.wrap (↑(BitVec.ofInt i64.bits (i64.wrap ((a:Int)*2^min (Int.toNat 8) i64.bits))|||BitVec.ofInt i64.bits (b:Int)).toNat:Int)=((a*256+b:Nat):Int):=by
 have e1:((a:Int)*2^min (Int.toNat 8) i64.bits)=((a*256:Nat):Int):=by{show(a:Int)*256=_;omega};rw[e1,dw (i:=.i64) (n:=((a*256:Nat):Int)) (by simp only[t6];omega),BitVec.ofInt_natCast,BitVec.ofInt_natCast,BitVec.toNat_or,BitVec.toNat_ofNat,BitVec.toNat_ofNat];have c:i64.bits=64:=rfl;rw[c,Nat.mod_eq_of_lt O,Nat.mod_eq_of_lt O];have d:a*256|||b=a*256+b:=by{have:=Nat.shiftLeft_add_eq_or_of_lt (i:=8) (b:=b) O a;rw[Nat.shiftLeft_eq]at this;exact this.symm};rw[d];exact dw (by simp only[t6];omega)
def bW(s:ah)(i:Nat):Nat:=bif decide (i<s.size/2) then L s (2*i)*256+L s (2*i+1) else 0
abbrev zi:aF where
 X:=kB
 args x:=[C x.a]
 cond x:=x.a.size<=1099511627776
 val x _:=al (Z (x.a.size/2:Nat))
def ai8(x:kB)(F:ag)(a:zi.cond x)(c:zi.aE x F):(2:Int)≠0/\aA ((x.a.size:Int).tdiv (2:Int))/\l zi x F (al (Z ((x.a.size:Int).tdiv (2:Int)))) [(0,F)]:=by
 delta aA Z al;have e:(x.a.size:Int).tdiv 2=((x.a.size/2:Nat):Int):=by{rw[Int.tdiv_eq_ediv_of_nonneg O];omega};have b:(x.a.size/2:Nat)<=9223372036854775807:=by{have:x.a.size<=1099511627776:=a;omega};exact⟨by decide,aC,(),ai,by rw[e] <;> rfl,ao [0]⟩
def Sm:aG 67 zi:=cY func67 [] ai8
structure Pp where
 s:ah
 i:Nat
abbrev wT:aF where
 X:=Pp
 args x:=[C x.s,Z x.i]
 cond x:=x.s.size<=1099511627776/\x.i<=1099511627776
 val x _:=.returned (.tuple #[.int .i64 (bW x.s x.i),.bool (decide (x.i<x.s.size/2))])
def DL:=cG 67 zi (λa=>a.a.size<=1099511627776)
abbrev OB:=al (tuple ⟨[Z 0,H false]⟩)
def afb(x:Pp)(F:ag)(k:wT.cond x)(m:wT.aE x F):DL [C x.s] (λb a=>aK ((x.i:Int)>=(↑(b.a.size/2):Int)) (l wT x F OB [(0,F)]) (true=true/\aA (2*(x.i:Int))/\((0:Int)<=2*(x.i:Int)/\2*(x.i:Int)<(x.s.size:Int))/\aA (B x.s (2*(x.i:Int)))/\aA (2*(x.i:Int))/\aA (2*(x.i:Int)+1)/\((0:Int)<=2*(x.i:Int)+1/\2*(x.i:Int)+1<(x.s.size:Int))/\aA (B x.s (2*(x.i:Int)+1))/\l wT x F (al (tuple ⟨[Z (bR (↑(ib (bR (B x.s (2*(x.i:Int))*2^min (Int.toNat (8:Int)) i64.bits))|||ib (B x.s (2*(x.i:Int)+1))).toNat:Int)),H true]⟩)) [(0,F)])):=by
 delta DL OB aA cG Z C H ib bR aK al;obtain⟨s,i⟩:=x;obtain⟨c,j⟩:=k;dsimp only at c j⊢;have ae:∀(u:Int)(b:Bool),u=(bW s i:Int)->b=decide (i<s.size/2)->l wT ⟨s,i⟩ F (returned (tuple #[int i64 u,bool b])) [(0,F)]:=λu b e1 g=>
  ⟨(),ai,by subst e1 g;rfl,ao [0]⟩
 refine bG Sm ⟨s,s⟩ c λ_ _=>bd (λh=>ae _ _ ?_ ?_) (λh=>?_);dsimp only at h;unfold bW;rw[bF (show ¬i<s.size/2 by omega)] <;> rfl;dsimp only at h;exact(bF (show ¬i<s.size/2 by omega)).symm;dsimp only at h;have f:B s (2*(i:Int))=(L s (2*i):Int):=by rw[gR,show(2*(i:Int)).toNat=2*i by omega]
 have e1:B s (2*(i:Int)+1)=(L s (2*i+1):Int):=by rw[gR,show(2*(i:Int)+1).toNat=2*i+1 by omega]
 have d:=ir s (2*i);have e:=ir s (2*i+1);rw[f,e1];refine⟨rfl,aC,aC,aC,aC,aC,aC,aC,ae _ _ ?_ ?_⟩;rw[or8 d e];unfold bW;rw[bp (show i<s.size/2 by omega)] <;> rfl;exact(bp (show i<s.size/2 by omega)).symm
def X8:aG 68 wT:=cY func68 [(1,5,aI zi)] afb
structure Xk where
 b:Nat
 s:ah
 i:Nat
abbrev xv:aF where
 X:=Xk
 args x:=[Z x.i,W (some ⟨x.b,0,none⟩)]
 cond x:=x.s.size<=1099511627776/\x.i<=1099511627776
 aE x F:=aH F ⟨x.b,0,none⟩ (.string x.s)
 val x _:=al (Z (bW x.s x.i))
def Kw:=cG 68 wT (λa=>a.s.size<=1099511627776/\a.i<=1099511627776)
def akI(x:Xk)(F:ag)(d:xv.cond x)(e:xv.aE x F):T2 F ⟨x.b,0,none⟩ (λc=>Kw [C c,Z ↑x.i] (λb a=>l xv x F (al (Z (↑(bW b.s b.i):Int))) [(0,F)])):=by
 delta T2 Kw cG Z C al;exact⟨x.s,e,X8,rfl,⟨x.s,x.i⟩,rfl,rfl,d,ai,λ_ _=>iy⟩
def L1:aG 173 xv:=cY func173 [(1,0,.q [.ex 0 .str]),(1,2,aI wT)] akI
def ep(s:ah):Nat:=s.size/2
def C9(s:ah)(e:Nat):Nat->Nat->Nat
 |0,i=>i
 |f+1,i=>bif decide (i<e)&&vf (bW s i) then C9 s e f (i+1) else i
def Bx(s:ah)(b:Nat):Nat->Nat->Nat
 |0,e=>e
 |f+1,e=>bif decide (b<e)&&vf (bW s (e-1)) then Bx s b f (e-1) else e
def B3(s:ah)(e:Nat):Nat->Nat->a_->Option (a_)
 |0,_,o=>some o
 |f+1,i,o=>bif decide (i<e) then (bif decide (bW s i>127) then none else B3 s e f (i+1) (o++[bW s i])) else some o
def pm(s:ah):Nat:=C9 s (ep s) (ep s+1) 0
def sm(s:ah):Nat:=Bx s (pm s) (ep s+1) (ep s)
def oT(s:ah):Option (a_):=B3 s (sm s) (sm s+1) (pm s) []
def Pe(s:ah)(i:Nat):bW s i<65536:=by
 unfold bW;have a:=ir s (2*i);have b:=ir s (2*i+1);grind
abbrev B7:aF where
 X:=e9
 args x:=[C x.s]
 cond x:=x.s.size<=8388608
 val x _:=.returned (.tuple #[.string (cF ((oT x.s).getD [])),.bool (oT x.s).isSome])
structure hX where
 b:Nat
 i:Nat
 e:Nat
 f:Nat
 o:a_
 r:Row
abbrev IH(d:hX)(x:e9):=D d.b [C x.s] 9
def alE(x:e9)(F:ag):Nat->Option Inv:=fun
 |0=>some {X:=hX,P:=λd=>d.i<=ep x.s/\ep x.s<d.i+d.f/\pm x.s=C9 x.s (ep x.s) d.f d.i,mu:=λd=>ep x.s-d.i,lv:=λd=>[(4,.int .i64 d.i),(5,.int .i64 (ep x.s:Nat)),(6,.func (.func 173) #[] #[.pointer (some ⟨d.b,0,none⟩)])],st:=λd=>[F,IH d x]}
 |2=>some {X:=hX,P:=λd=>d.i=pm x.s/\d.i<=d.e/\d.e<=ep x.s/\d.e<d.f/\sm x.s=Bx x.s d.i d.f d.e,mu:=λd=>d.e,lv:=λd=>[(4,.int .i64 d.i),(5,.int .i64 d.e),(6,.func (.func 173) #[] #[.pointer (some ⟨d.b,0,none⟩)])],st:=λd=>[F,IH d x]}
 |4=>some {X:=hX,P:=λd=>d.e=sm x.s/\d.i<=d.e/\d.e<=ep x.s/\d.e<d.i+d.f/\bl 5 1 (bJ d.o) d.r/\d.r.n<=d.i/\oT x.s=B3 x.s d.e d.f d.i d.o,mu:=λd=>d.e-d.i,lv:=λd=>[(4,.int .i64 d.i),(5,.int .i64 d.e),(6,.func (.func 173) #[] #[.pointer (some ⟨d.b,0,none⟩)]),(7,.slice d.r.a d.r.n d.r.aq)],st:=λd=>[F,IH d x,d.r.A]}
 |_=>none
def alD(x:e9)(F:ag):Nat->Option Inv:=fun
 |5=>some {X:=hX,P:=λd=>d.i=pm x.s/\d.i<=ep x.s,mu:=λ_=>0,lv:=λd=>[(4,.int .i64 d.i),(5,.int .i64 (ep x.s:Nat)),(6,.func (.func 173) #[] #[.pointer (some ⟨d.b,0,none⟩)])],st:=λd=>[F,IH d x]}
 |7=>some {X:=hX,P:=λd=>d.i=pm x.s/\d.e=sm x.s/\d.i<=d.e/\d.e<=ep x.s,mu:=λ_=>0,lv:=λd=>[(4,.int .i64 d.i),(5,.int .i64 d.e),(6,.func (.func 173) #[] #[.pointer (some ⟨d.b,0,none⟩)])],st:=λd=>[F,IH d x]}
 |_=>none
def NB(a:hX)(x:e9):=a.i<=ep x.s/\ep x.s<a.i+a.f/\pm x.s=C9 x.s (ep x.s) a.f a.i
abbrev pJ(z:hX):aN:=[W (some ⟨z.b,0,none⟩)]
abbrev oU(e1:ag)(z:hX)(a:e9):=[(0,e1),(1,D z.b [C a.s] 9)]
def GM:=bz 173 xv (λa=>a.s.size<=1099511627776/\a.i<=1099511627776) (λa b=>aH b ⟨a.b,0,none⟩ (C a.s))
abbrev N1(g:hX):aN:=[Z ↑g.i,W (some ⟨g.b,0,none⟩)]
def Q4:=fv 174 tS
def Q5(a:e9)(e1:ag)(c d:aD)(b:St):=∃(z:hX),(z.i=pm a.s/\z.i<=ep a.s)/\(c=Z ↑z.i/\Z (↑(ep a.s):Int)=Z (↑(ep a.s):Int)/\d=func (Fn.func 173) ⟨[]⟩ ⟨pJ z⟩/\True)/\ay b (oU e1 z a)
abbrev Iv(g:hX):=func (Fn.func 173) ⟨[]⟩ ⟨pJ g⟩
def Nk(a:hX)(x:e9):=a.i=pm x.s/\a.i<=a.e/\a.e<=ep x.s/\a.e<a.f/\sm x.s=Bx x.s a.i a.f a.e
def Q6(a:e9)(e1:ag)(c d e:aD)(b:St):=∃(z:hX),(z.i=pm a.s/\z.e=sm a.s/\z.i<=z.e/\z.e<=ep a.s)/\(c=Z ↑z.i/\d=Z ↑z.e/\e=func (Fn.func 173) ⟨[]⟩ ⟨pJ z⟩/\True)/\ay b (oU e1 z a)
def MG(a:hX)(x:e9):=a.e=sm x.s/\a.i<=a.e/\a.e<=ep x.s/\a.e<a.i+a.f/\bl 5 1 (bJ a.o) a.r/\a.r.n<=a.i/\oT x.s=B3 x.s a.e a.f a.i a.o
abbrev zE(F:ag)(a:hX)(x:e9):=[(0,F),(1,D a.b [C x.s] 9),(2,a.r.A)]
def mM(b:rS):=∀(a:aD),a∈b.ys->a.oneCell'=true
abbrev l6:rS->ag->Prop:=λa c=>(∀(b:Addr),a.a=some b->cR c b a.ys)
def oB(c:Oper):=jc c (cS (5:TypeId) 1 1) (λa=>bl 5 1 a.cs a.r/\a.ys.length=a.m*1/\mM a/\(a.r.n+a.m)*1<=140737488355328/\a.r.n+a.m<=9223372036854775807/\jx a) l6 (λa b=>bl 5 1 (a.cs++a.ys) b/\b.n=a.r.n+a.m/\(a.m=0->b=a.r))
def alG(x:e9)(F:ag)(hc:B7.cond x)(hr:B7.aE x F):∀(s:Nat),V s 0/\DL [C x.s] (λr q=>((∃(a:hX),NB a x/\(Z 0=Z ↑a.i/\Z (↑(r.a.size/2):Int)=Z (↑(ep x.s):Int)/\func (Fn.func 173) ⟨[]⟩ ⟨[W (bq s)]⟩=func (Fn.func 173) ⟨[]⟩ ⟨pJ a⟩/\True)/\ay [(0,F),(1000,D s [C x.s] 9)] (oU F a x))/\aQ λ(m:hX)_=>NB m x->aK ((m.i:Int)<(↑(ep x.s):Int)) (GM (N1 m) (g (oU F m x) []) (λe d=>Q4 [Z (↑(bW e.s e.i):Int)] (λc b=>Br (vf c.u) (aA ((m.i:Int)+1)/\∃(a:hX),NB a x/\(Z ((m.i:Int)+1)=Z ↑a.i/\Z (↑(ep x.s):Int)=Z (↑(ep x.s):Int)/\func (Fn.func 173) ⟨[]⟩ ⟨pJ m⟩=func (Fn.func 173) ⟨[]⟩ ⟨pJ a⟩/\True)/\ay (oU F m x) (oU F a x)/\ep x.s-a.i<ep x.s-m.i) (Q5 x F (Z ↑m.i) (Iv m) (oU F m x))))) (Q5 x F (Z ↑m.i) (Iv m) (oU F m x)))/\aQ λ(p:hX)_=>(p.i=pm x.s/\p.i<=ep x.s)->((∃(a:hX),Nk a x/\(Z ↑p.i=Z ↑a.i/\Z (↑(ep x.s):Int)=Z ↑a.e/\func (Fn.func 173) ⟨[]⟩ ⟨pJ p⟩=func (Fn.func 173) ⟨[]⟩ ⟨pJ a⟩/\True)/\ay (oU F p x) (oU F a x))/\aQ λ(m:hX)_=>Nk m x->aK ((m.i:Int)<(m.e:Int)) (aA ((m.e:Int)-1)/\GM [Z ((m.e:Int)-1),W (some ⟨m.b,0,none⟩)] (g (oU F m x) []) (λe d=>Q4 [Z (↑(bW e.s e.i):Int)] (λc b=>Br (vf c.u) (aA ((m.e:Int)-1)/\∃(a:hX),Nk a x/\(Z ↑m.i=Z ↑a.i/\Z ((m.e:Int)-1)=Z ↑a.e/\func (Fn.func 173) ⟨[]⟩ ⟨pJ m⟩=func (Fn.func 173) ⟨[]⟩ ⟨pJ a⟩/\True)/\ay (oU F m x) (oU F a x)/\a.e<m.e) (Q6 x F (Z ↑m.i) (Z ↑m.e) (Iv m) (oU F m x))))) (Q6 x F (Z ↑m.i) (Z ↑m.e) (Iv m) (oU F m x)))/\aQ λ(n:hX)_=>(n.i=pm x.s/\n.e=sm x.s/\n.i<=n.e/\n.e<=ep x.s)->aA ((n.e:Int)-(n.i:Int))/\T3 (aL f141 7 3) [Z 0,Z ((n.e:Int)-(n.i:Int))] (λt k=>(∃(a:hX),MG a x/\(Z ↑n.i=Z ↑a.i/\Z ↑n.e=Z ↑a.e/\func (Fn.func 173) ⟨[]⟩ ⟨pJ n⟩=func (Fn.func 173) ⟨[]⟩ ⟨pJ a⟩/\Q (bq k) t.n.toNat t.c.toNat=Q a.r.a a.r.n a.r.aq/\True)/\ay [(0,F),(1,D n.b [C x.s] 9),(8030,D k (ij [u 0] t.c.toNat) 5)] (zE F a x))/\aQ λ(j:hX)_=>MG j x->aK ((j.i:Int)<(j.e:Int)) (GM (N1 j) (g (zE F j x) []) (λh m=>aK ((↑(bW h.s h.i):Int)>127) (l B7 x F sM (zE F j x)) (GM (N1 j) (g (zE F j x) []) (λf e=>(0<=(↑(bW f.s f.i):Int)/\(↑(bW f.s f.i):Int)<=255)/\∀(d:Nat),oB (aL f141 12 6) [Q j.r.a j.r.n j.r.aq,Q (bq d) 1 1] [j.r.A] (g [(0,F),(1,D j.b [C x.s] 9),(2,j.r.A),(13050,D d [u (↑(bW f.s f.i):Int)] 5)] [2]) (λc b=>aA ((j.i:Int)+1)/\∃(a:hX),MG a x/\(Z ((j.i:Int)+1)=Z ↑a.i/\Z ↑j.e=Z ↑a.e/\func (Fn.func 173) ⟨[]⟩ ⟨pJ j⟩=func (Fn.func 173) ⟨[]⟩ ⟨pJ a⟩/\Q b.a b.n b.aq=Q a.r.a a.r.n a.r.aq/\True)/\ay [(0,F),(1,D j.b [C x.s] 9),(2,b.A),(13050,D d [u (↑(bW f.s f.i):Int)] 5)] (zE F a x)/\a.e-a.i<j.e-j.i))))) (T7 (aL f141 13 1) [Q j.r.a j.r.n j.r.aq] (g (zE F j x) []) (λb a=>l B7 x F (al (tuple ⟨[C (cF b.l),H true]⟩)) (zE F j x))))):=by
 delta DL NB bq pJ oU GM N1 Q4 Q5 Iv Nk Q6 T3 MG zE sM mM jx l6 oB T7 g V aA fv cG bz zb vn jc Z u C H W Q D aK al aQ;obtain⟨s⟩:=x;have hs:s.size<=8388608:=hc;dsimp only;have hh:ep s=s.size/2:=rfl;intro b;refine⟨Y,Sm,rfl,⟨s,s⟩,rfl,rfl,by grind,ai,λ_ _=>⟨⟨⟨⟨b,0,0,ep s+1,[],dq⟩,⟨b7 _,by simp[*],rfl⟩,aU,ao [0,1000]⟩, ?_⟩, ?_⟩⟩
 ·rintro⟨b,i,_,f,_,_⟩ R ⟨z,A,B⟩;dsimp only at z A B⊢;obtain⟨G,rfl⟩:∃G,f=G+1:=⟨f-1,O⟩;have b0:=Pe s i;have done:pm s=i->∃x:hX,(x.i=pm s/\x.i<=ep s)/\(int .i64 (i:Int)= .int .i64 (x.i:Int)/\int .i64 (ep s:Int)= .int .i64 (ep s:Int)/\func (.func 173) #[] #[.pointer (some ⟨b,0,none⟩)]=func (.func 173) #[] #[.pointer (some ⟨x.b,0,none⟩)]/\True)/\ay (bu [F,.cells b [.string s] 9]) (bu [F,.cells x.b [.string s] 9]):=λe=>
   ⟨⟨b,i,0,0,[],dq⟩,⟨e.symm,z⟩,aU,ay.refl _⟩
  rw[C9]at B;refine bd (λN=>ba L1 ⟨b,s,i⟩ ⟨by grind,by grind⟩ (aH.rest (j:=1) X (aH.cells rfl)) λ_ _=>kH Yc ⟨bW s i⟩ λ_ _=>ar (λE=>?_) (λE=>done ?_)) (λM=>done ?_);have E:vf (bW s i)=true:=E;rw[bp (show i<ep s by omega),E]at B;exact⟨aC,⟨b,i+1,0,G,[],dq⟩,⟨by grind,by grind,B⟩,aU,ao [0,1],by grind⟩
  all_goals grind
 clear b;rintro⟨b,i,_,_,_,_⟩ R ⟨z,A⟩;dsimp only at z A⊢;refine⟨⟨⟨⟨b,i,ep s,ep s+1,[],dq⟩,⟨z,A,bK _,jd _,by dsimp only;rw[z] <;> rfl⟩,aU,ao [0,1]⟩, ?_⟩, ?_⟩
 ·clear z A;rintro⟨b,i,e,f,_,_⟩ R ⟨z,A,B,L,J⟩;dsimp only at z A B L J⊢;obtain⟨G,rfl⟩:∃G,f=G+1:=⟨f-1,O⟩;have b0:=Pe s (e-1);have done:sm s=e->∃x:hX,(x.i=pm s/\x.e=sm s/\x.i<=x.e/\x.e<=ep s)/\(int .i64 (i:Int)= .int .i64 (x.i:Int)/\int .i64 (e:Int)= .int .i64 (x.e:Int)/\func (.func 173) #[] #[.pointer (some ⟨b,0,none⟩)]=func (.func 173) #[] #[.pointer (some ⟨x.b,0,none⟩)]/\True)/\ay (bu [F,.cells b [.string s] 9]) (bu [F,.cells x.b [.string s] 9]):=λe'=>
   ⟨⟨b,i,e,0,[],dq⟩,⟨z,e'.symm,A,B⟩,aU,ay.refl _⟩
  rw[Bx]at J;refine bd (λN=>⟨aC,L1,rfl,⟨b,s,e-1⟩,by rw[show((e-1:Nat):Int)=(e:Int)-1 by omega],rfl,⟨by grind,by grind⟩,aH.rest (j:=1) X (aH.cells rfl),λ_ _=>kH Yc ⟨bW s (e-1)⟩ λ_ _=>ar (λE=>?_) (λE=>done ?_)⟩) (λM=>done ?_);have E:vf (bW s (e-1))=true:=E;rw[bp (show i<e by omega),E]at J;exact⟨aC,⟨b,i,e-1,G,[],dq⟩,⟨z,by grind,by grind,by grind,J⟩,⟨rfl,by rw[show((e-1:Nat):Int)=(e:Int)-1 by omega],rfl,ai⟩,ao [0,1],by grind⟩
  all_goals grind
 clear z A;rintro⟨b,i,e,_,_,_⟩ R ⟨z,A,B,L⟩;dsimp only at z A B L⊢;have U:((e:Int)-(i:Int))=((e-i:Nat):Int):=O;rw[U];refine⟨aC,Eo (P:=prog) [.int .u8 0] 1 rfl rfl rfl rfl rfl rfl X rfl,rfl,⟨0,(e-i:Nat)⟩,rfl,rfl,⟨cH 0,by simp[*],by grind,by grind⟩,ai,λT _=>⟨⟨⟨b,i,e,e+1,[],⟨some ⟨T,0,none⟩,0,((e-i:Nat):Int).toNat,.cells T (ij [.int .u8 0] ((e-i:Nat):Int).toNat) 5⟩⟩,⟨A,B,L,by grind,.ft T 0 _ (ij [.int .u8 0] _) rfl (by rw[eH,WX];simp[bJ]) (b7 _),b7 _, ?_⟩,aU,ao [0,1,8030]⟩, ?_⟩⟩;dsimp only;rw[z,A] <;> rfl;clear z A B L U;rintro⟨b,i,e,f,o,r⟩ R ⟨z,A,B,L,J,h6,K⟩;dsimp only at z A B L J h6 K⊢;obtain⟨G,rfl⟩:∃G,f=G+1:=⟨f-1,O⟩;rw[B3]at K;have lk:∀{S:St}{I:a_},(1:Nat)∉I->gt S 1= .cells b [.string s] 9->aH (.cJ (rest S I)) ⟨b,0,none⟩ (.string s):=λh e=>aH.rest h (by rw[e];exact aH.cells rfl);refine bd (λN=>?_) (λM=>?_);rw[bp (show i<e by omega),aW]at K;refine ba L1 ⟨b,s,i⟩ ⟨by grind,by grind⟩ (lk X rfl) λ_ _=>bd (λE=>?_) (λE=>?_);dsimp only at E;rw[bp (show bW s i>127 by omega),aW]at K;exact⟨(),ai,by show returned _=returned (.tuple #[.string (cF ((oT s).getD [])),.bool (oT s).isSome]);rw[K] <;> rfl,ao [0]⟩;dsimp only at E;rw[bF (show ¬bW s i>127 by omega),y]at K;refine ba L1 ⟨b,s,i⟩ ⟨by grind,by grind⟩ (lk X rfl) λ_ _=>⟨⟨O,by grind⟩,λlb=>ba (iN (P:=prog) 1 1 rfl rfl rfl rfl rfl rfl rfl (by decide)) ⟨r,bJ o,some ⟨lb,0,none⟩,1,1,bJ [bW s i]⟩ ⟨J,rfl,λ_ h=>F5 h,by grind,by grind,X⟩ (?_) (?_)⟩;intro a ha;cases ha;exact cR.rest (j:=13050) X (cR.cells (λj v hj=>by rw[gZ];exact hj));rintro w ⟨y1,y2,-⟩;dsimp only at y1 y2;exact⟨aC,⟨b,i+1,e,G,o++[bW s i],w⟩,⟨z,by grind,B,by grind,by rw[AE];exact y1,by simp[*],K⟩,aU,ao [0,1,2],by grind⟩;rw[bF (show ¬i<e by omega),y]at K;exact ba (G1 rfl rfl rfl rfl) ⟨r.a,r.n,r.aq,o⟩ J.af (CP 2 X rfl J) λ_ _=>⟨(),ai,by show returned _=returned (.tuple #[.string (cF ((oT s).getD [])),.bool (oT s).isSome]);simp[*],ao [0]⟩
def alF:aG 141 B7:=rh func141 (λ_ _=>[(0,0,.n 1000),(1,0,z 1000),(1,1,aI zi),(3,6,aI xv),(3,7,aI tS),(5,7,aI xv),(5,8,aI tS),(7,3,.o (vz 5 [.int .u8 0] 1) [] [8030]),(10,2,aI xv),(12,3,aI xv),(12,5,.n 13050),(12,6,.o (cS 5 1 1) [2] [2]),(13,1,.o yS [] [])]) alE alD alG
def zn:Nat:=9221120237041090561
abbrev BQ:aF where
 X:=ax
 args _:=[]
 val _ _:=al (float f64 9221120237041090561)
abbrev E7:=al (float f64 9221120237041090561)
def aj0(x:PUnit)(F:ag)(a:BQ.cond x)(b:BQ.aE x F):l BQ x F E7 [(0,F)]:=by
 delta E7 al;exact iy
def ZQ:aG 142 BQ:=cY func142 [(1,0,F)] aj0
abbrev HE(b:ah->Nat)(K:bD):aF where
 X:=e9
 Y:=aD
 args x:=[C x.s,Z 64]
 cond x:=x.s.size<=8388610
 aE _ F:=K.rd F
 val x y:=.returned (.tuple #[.float .f64 (b x.s),y])
 eL _ _ _ a h:=K.mono h a
def Lp:ah:=⟨#[48,49,50,51,52,53,54,55,56,57,97,98,99,100,101,102,65,66,67,68,69,70]⟩
def L0:ah:=⟨#[112,48]⟩
def vt:ah:=⟨#[73,110,102,105,110,105,116,121]⟩
def Lw(s:ah):Bool:=decide (s.size>2)&&(L s 0==48&&((L s 1|||32)==120&&bw (fF s 2) (c5 Lp) 0==s.size-2))
def nI(s:ah):ah:=bif L s 0==43||L s 0==45 then fF s 1 else s
def Ex(a:ah->Nat)(s:ah):Nat:=
 bif s.size==0 then 0
 else bif Lw s then a (s++L0)
 else bif !(bx (nI s) vt)&& !jv (nI s) then zn
 else a s
def lW(a:ah->Nat)(w:ah):Nat:=match oT w with
 |none=>zn
 |some l=>Ex a (cF l)
def Zz(a b:ah):(a.toList==b.toList)=bx a b:=by
 have e:bx a b=(a.data==b.data):=by unfold bx;cases a;cases b;rfl
 rw[e,Bool.eq_iff_iff,beq_iff_eq,beq_iff_eq,ByteArray.toList_eq,ByteArray.toList_eq];simp[*]
def akH(s:ah)(e:Nat):∀(f i:Nat)(o l:a_),B3 s e f i o=some l->l.length+i<=o.length+max e i:=by
 intro f
 induction f with
 |zero=>intro i o l h;cases h;omega
 |succ f c=>
  intro i o l h;rw[B3]at h;by_cases b:i<e;rw[bp b,aW]at h;cases a:decide (bW s i>127)with
  |true=>rw[a]at h;cases h
  |false=>
   rw[a,y]at h;grind
  grind
def agD(s:ah)(b:Nat):∀(f e:Nat),Bx s b f e<=e:=by
 intro f
 induction f with
 |zero=>intro e;exact bK _
 |succ f a=>
  intro e;rw[Bx];grind
def aqU(s:ah)(e:Nat):∀(f i:Nat),i<=e->C9 s e f i<=e:=by
 intro f
 induction f with
 |zero=>intro i h;exact h
 |succ f a=>
  intro i h;rw[C9];grind
def alA{s:ah}{l:a_}(h:oT s=some l):(cF l).size<=s.size:=by
 have a:=akH _ _ _ _ _ _ h;have b:sm s<=ep s:=agD _ _ _ _;have c:ep s=s.size/2:=rfl;rw[se];grind
structure rY where
 K:bD
 pf:ah->Nat
 w:ah
abbrev zo:aF where
 X:=rY
 args x:=[C x.w]
 cond x:=x.w.size<=8388608/\aG 144 (HE x.pf x.K)
 aE x F:=x.K.rd F
 val x _:=al (float f64 (lW x.pf x.w))
 eL x _ _ a h:=x.K.mono h a
structure mR where
 t:ah
 u:ah
def akh(x:rY)(F:ag):Nat->Option Inv:=fun
 |4=>some {X:=mR,P:=λd=>d.t.size<=8388608/\lW x.pf x.w=Ex x.pf d.t,mu:=λ_=>0,lv:=λd=>[(3,C d.t)],st:=λ_=>[F]}
 |9=>some {X:=mR,P:=λd=>d.t.size<=8388608/\0<d.t.size/\lW x.pf x.w=(bif !(bx (nI d.t) vt)&& !jv (nI d.t) then zn else x.pf d.t),mu:=λ_=>0,lv:=λd=>[(3,C d.t)],st:=λ_=>[F]}
 |12=>some {X:=mR,P:=λd=>d.t.size<=8388608/\d.u=nI d.t/\d.u.size<=d.t.size/\lW x.pf x.w=(bif !(bx (nI d.t) vt)&& !jv (nI d.t) then zn else x.pf d.t),mu:=λ_=>0,lv:=λd=>[(3,C d.t),(7,C d.u)],st:=λ_=>[F]}
 |14=>some {X:=mR,P:=λd=>d.t.size<=8388608/\lW x.pf x.w=x.pf d.t,mu:=λ_=>0,lv:=λd=>[(3,C d.t)],st:=λ_=>[F]}
 |_=>none
def aki(x:rY)(a:ag):List (Nat×Nat×OH):=[(1,1,aI B7),(3,0,aI BQ),(6,17,aI s7),(7,2,aI (HE x.pf x.K)),(12,4,aI qW),(13,0,aI BQ),(14,1,aI (HE x.pf x.K))]
def XP:=fv 142 BQ
def VT(x:rY)(F:ag):=XP ([]:aN) (λb a=>l zo x F E7 [(0,F)])
def Og(j:mR):=(0:Int)<=0/\0<(j.t.size:Int)
def Q7(a:rY):=bz 144 (HE a.pf a.K) (λb=>b.s.size<=8388610) (λ_=>a.K.3)
def UB(z:mR)(a:rY):=z.t.size<=8388608/\0<z.t.size/\(lW a.pf a.w=bif !bx (nI z.t) vt&& !jv (nI z.t) then zn else a.pf z.t)
def GN(a:rY)(e1:ag)(c:aD)(b:St):=∃(z:mR),UB z a/\(c=C z.t/\True)/\ay b [(0,e1)]
def Ua(z:mR)(a:rY):=z.t.size<=8388608/\z.u=nI z.t/\z.u.size<=z.t.size/\(lW a.pf a.w=bif !bx (nI z.t) vt&& !jv (nI z.t) then zn else a.pf z.t)
def Q8(a:rY)(e1:ag)(c d:aD)(b:St):=∃(z:mR),Ua z a/\(c=C z.t/\d=C z.u/\True)/\ay b [(0,e1)]
def TM(h:mR)(x:rY)(F:ag):=((0:Int)<=1/\1<=(h.t.size:Int)/\(h.t.size:Int)<=(h.t.size:Int))/\Q8 x F (C h.t) (C (h.t.extract (Int.toNat (1:Int)) (h.t.size:Int).toNat)) [(0,F)]
def Q9(a:rY)(e1:ag)(c:aD)(b:St):=∃(z:mR),(z.t.size<=8388608/\lW a.pf a.w=a.pf z.t)/\(c=C z.t/\True)/\ay b [(0,e1)]
def akk(x:rY)(F:ag)(T:zo.cond x)(Q:zo.aE x F):cG 141 B7 (λi=>i.s.size<=8388608) [C x.w] (λi k=>Br (!(oT i.s).isSome) (VT x F) (∃(a:mR),(a.t.size<=8388608/\lW x.pf x.w=Ex x.pf a.t)/\(C (cF ((oT i.s).getD []))=C a.t/\True)/\ay [(0,F)] [(0,F)])/\aQ λ(j:mR)_=>(j.t.size<=8388608/\lW x.pf x.w=Ex x.pf j.t)->Br (j.t.toList==gy.toList) (l zo x F (al (float f64 0)) [(0,F)]) (aK ((j.t.size:Int)>2) (Og j/\Br (B j.t (0:Int)==(48:Int)) (((0:Int)<=1/\1<(j.t.size:Int))/\Br (u8.wrap (↑(BitVec.ofInt u8.bits (B j.t (1:Int))|||BitVec.ofInt u8.bits (32:Int)).toNat:Int)==120) (((0:Int)<=2/\2<=(j.t.size:Int)/\(j.t.size:Int)<=(j.t.size:Int))/\DK [C (j.t.extract (Int.toNat (2:Int)) (j.t.size:Int).toNat),C ⟨#[48,49,50,51,52,53,54,55,56,57,97,98,99,100,101,102,65,66,67,68,69,70]⟩] (λd c=>aA ((j.t.size:Int)-2)/\Br ((↑(bw d.a (c5 d.b) 0):Int)==(j.t.size:Int)-2) (j.t.size+2<=9223372036854775807/\Q7 x [C (j.t++(ByteArray.mk #[112,48])),Z 64] (cO F) (λb a=>l zo x F (al (float f64 (x.pf b.s))) [(0,F)])) (GN x F (C j.t) [(0,F)]))) (GN x F (C j.t) [(0,F)])) (GN x F (C j.t) [(0,F)])) (GN x F (C j.t) [(0,F)])/\aQ λ(h:mR)_=>UB h x->(Og h/\Br (B h.t (0:Int)==(43:Int)) (TM h x F) (Og h/\Br (B h.t (0:Int)==(45:Int)) (TM h x F) (Q8 x F (C h.t) (C h.t) [(0,F)])))/\aQ λ(f:mR)_=>Ua f x->Br (!f.u.toList==(ByteArray.mk #[73,110,102,105,110,105,116,121]).toList) (cG 145 qW (λd=>d.a.size<=1099511627776) [C f.u] (λd c=>Br (!jv d.a) (VT x F) (Q9 x F (C f.t) [(0,F)]))) (Q9 x F (C f.t) [(0,F)])/\aQ λ(d:mR)_=>(d.t.size<=8388608/\lW x.pf x.w=x.pf d.t)->Q7 x [C d.t,Z 64] (cO F) (λb a=>l zo x F (al (float f64 (x.pf b.s))) [(0,F)]))):=by
 delta XP E7 VT gy Og DK Q7 cO UB GN Ua Q8 TM Q9 g aA fv cG bz Z C aK al aQ;obtain⟨K,v,w⟩:=x;obtain⟨R,D⟩:=T;dsimp only at R D⊢;have ae:∀n,lW v w=n->l zo ⟨K,v,w⟩ F (returned (float .f64 n)) [(0,F)]:=λn e=>
  ⟨(),ai,by show returned _=returned (.float .f64 (lW v w));rw[e],ao [0]⟩
 refine bG alF ⟨w⟩ R λ_ _=>⟨ar (λh=>?_) (λh=>?_), ?_⟩;have W:oT w=none:=by
  cases hp:oT w with
  |none=>rfl
  |some i=>rw[hp]at h;cases h
 exact kH ZQ () λ_ _=>ae _ (by unfold lW;rw[W] <;> rfl);obtain⟨i,hp⟩:∃i,oT w=some i:=by
  cases hp:oT w with
  |none=>rw[hp]at h;cases h
  |some i=>exact⟨i,rfl⟩
 have:=alA hp;exact⟨⟨cF i,⟨#[]⟩⟩,⟨by grind,by unfold lW;rw[hp]⟩,⟨by rw[hp] <;> rfl,ai⟩,ao [0]⟩;rintro⟨t,_⟩ N ⟨p,q⟩;dsimp only at p q⊢;refine ar (λU=>ae _ ?_) (λJ=>⟨?_, ?_⟩);rw[O9]at U;rw[q];unfold Ex;simp[*]
 ·
  rw[O9]at J;have M:0<t.size:=by{grind};have z:lW v w=bif Lw t then v (t++L0) else bif !(bx (nI t) vt)&& !jv (nI t) then zn else v t:=by{rw[q];unfold Ex;simp[*]};have done:Lw t=false->∃o:mR,(o.t.size<=8388608/\0<o.t.size/\lW v w=bif !bx (nI o.t) vt&& !jv (nI o.t) then zn else v o.t)/\(string t=string o.t/\True)/\ay (bu [F]) (bu [F]):=λe=>
   ⟨⟨t,⟨#[]⟩⟩,⟨p,M,by grind⟩,⟨rfl,ai⟩,ay.refl _⟩
  have Y:Lw t=(decide (t.size>2)&&(L t 0==48&&((L t 1|||32)==120&&bw (fF t 2) (c5 Lp) 0==t.size-2))):=rfl;have P:=Bu t 2;have G:t.extract (Int.toNat 2) (t.size:Int).toNat=fF t 2:=by rfl
  refine bd (λV=>⟨⟨cH _,O⟩,ar (λm=>⟨⟨by decide,O⟩,ar (λr=>?_) (λr=>done ?_)⟩) (λm=>done ?_)⟩) (λV=>done ?_)
  ·
   rw[gR,Int.toNat_zero]at m;rw[gR,show(1:Int).toNat=1 from rfl,B1 (ir t 1)]at r;have m:(L t 0==48)=true:=(Et _ _).trans m;have r:((L t 1|||32)==120)=true:=(Et _ _).trans r;rw[G];refine⟨⟨by decide,O,cH _⟩,ON,rfl,⟨fF t 2,Lp⟩,rfl,rfl,by grind,ai,λ_ _=>⟨aC,ar (λI=>?_) (λI=>done ?_)⟩⟩;have I:(bw (fF t 2) (c5 Lp) 0==t.size-2)=true:=by{grind};have sz:(t++L0).size=t.size+2:=by rw[ie] <;> rfl
   rw[Y,bp (show t.size>2 by omega),m,r,I]at z;exact⟨O,D,rfl,⟨t++L0⟩,rfl,rfl,by simp[*],K.rest (j:=0) X Q,λ_ _=>ae _ z⟩;grind
  rw[gR,show(1:Int).toNat=1 from rfl,B1 (ir t 1)]at r;grind;rw[gR,Int.toNat_zero]at m;grind;grind
 clear q;rintro⟨t,_⟩ N ⟨p,q,z⟩;dsimp only at p q z⊢;have H:∀c:Nat,((L t 0:Int)==(c:Int))=(L t 0==c):=λc=>(Et _ _).symm;have P:=Bu t 1;have G:t.extract (Int.toNat 1) (t.size:Int).toNat=fF t 1:=by rfl
 have s:nI t=bif L t 0==43||L t 0==45 then fF t 1 else t:=rfl
 rw[G];refine⟨⟨⟨cH _,O⟩, ?_⟩, ?_⟩;refine lH (A:=(L t 0==43||L t 0==45)=true) (λk=>ar (λh=>k ?_) (λh=>⟨⟨cH _,O⟩,ar (λm=>k ?_) (λm=>?_)⟩)) (λS=>?_);rw[gR,Int.toNat_zero]at h;grind;rw[gR,Int.toNat_zero]at m;grind;rw[gR,Int.toNat_zero]at h m;rw[show(L t 0==43)=false from(H 43).symm.trans h,show(L t 0==45)=false from(H 45).symm.trans m,Bool.or_self,y]at s;exact⟨⟨t,t⟩,⟨p,s.symm,bK _,z⟩,aU,ay.refl _⟩;rw[S,aW]at s;exact⟨⟨by decide,O,cH _⟩,⟨t,fF t 1⟩,⟨p,s.symm,by simp[*],z⟩,aU,ay.refl _⟩;clear s G P H z q p;rintro⟨t,u⟩ N ⟨p,q,z,m⟩;dsimp only at p q z m⊢;rw[<-q]at m;have go:(!(bx u vt)&& !jv u)=false->∃E:mR,(E.t.size<=8388608/\lW v w=v E.t)/\(string t=string E.t/\True)/\ay (bu [F]) (bu [F]):=λe=>
  ⟨⟨t,t⟩,⟨p,by grind⟩,⟨rfl,ai⟩,ay.refl _⟩
 refine⟨ar (λh=>?_) (λh=>go ?_), ?_⟩;rw[Zz]at h;have h:(!bx u vt)=true:=h;refine bG agn ⟨u,u⟩ (by grind) λ_ _=>ar (λr=>?_) (λr=>go ?_);have r:(!jv u)=true:=r;exact kH ZQ () λ_ _=>ae _ (by rw[m,h,r] <;> rfl);grind;rw[Zz]at h;have h:(!bx u vt)=false:=h;grind;rintro⟨t,_⟩ N ⟨p,q⟩;exact ba D ⟨t⟩ (gi p (by decide)) (K.rest (j:=0) X Q) λ_ _=>ae _ q
def akj:aG 117 zo:=oI func117 aki akh akk
structure uR where
 v:Nat
 n:Nat
 e:Nat
structure tF where
 K:bD
 A:ah->uR
 s:ah
abbrev yP(a:ah->uR)(K:bD):aF where
 X:=e9
 Y:=ax ⊕ ax
 args x:=[C x.s]
 cond x:=x.s.size<=8388610
 aE _ F:=K.rd F
 bS x y:=match y with
  | .inl _=>(a x.s).e=0
  | .inr _=>(a x.s).e≠0/\(a x.s).e<=2
 val x y:=match y with
  | .inl _=>.returned (.tuple #[.float .f64 (a x.s).v,.int .i64 (a x.s).n,.nilIface])
  | .inr _=>.returned (.tuple #[.float .f64 (a x.s).v,.int .i64 (a x.s).n,.iface 135 (.int .i64 (a x.s).e)])
 eL _ _ _ b h:=K.mono h b
 sum:=some (iL ax ax)
abbrev B5:aF where
 X:=tF
 Y:=ax ⊕ ax
 args x:=[C x.s,Z 64]
 cond x:=x.s.size<=8388610/\aG 215 (yP x.A x.K)
 aE x F:=x.K.rd F
 bS x y:=match y with
  | .inl _=>(x.A x.s).e=0
  | .inr _=>(x.A x.s).e≠0/\(x.A x.s).e<=2
 val x y:=match y with
  | .inl _=>.returned (.tuple #[.float .f64 (x.A x.s).v,.int .i64 (x.A x.s).n,.nilIface])
  | .inr _=>.returned (.tuple #[.float .f64 (x.A x.s).v,.int .i64 (x.A x.s).n,.iface 135 (.int .i64 (x.A x.s).e)])
 eL x _ _ a h:=x.K.mono h a
 sum:=some (iL ax ax)
def alr(x:tF)(a:ag):List (Nat×Nat×OH):=[(4,1,aI (yP x.A x.K))]
def alt(x:tF)(F:ag)(e:B5.cond x)(f:B5.aE x F):aG 215 (yP x.A x.K)/\true=true/\∃(b:e9),[C x.s]=[C b.s]/\([]:List ag)=[]/\b.s.size<=8388610/\x.K.3 (cO F)/\(∀(a:ax),(x.A b.s).e=0->l B5 x F (al (tuple ⟨[float f64 (x.A b.s).v,Z (↑(x.A b.s).n:Int),nilIface]⟩)) [(0,F)])/\∀(a:ax),((x.A b.s).e≠0/\(x.A b.s).e<=2)->l B5 x F (al (tuple ⟨[float f64 (x.A b.s).v,Z (↑(x.A b.s).n:Int),ce 135 (Z (↑(x.A b.s).e:Int))]⟩)) [(0,F)]:=by
 delta cO g Z C ce al;obtain⟨K,h,s⟩:=x;obtain⟨c,d⟩:=e;exact ba d ⟨s⟩ c (K.rest (j:=0) X f) ⟨λ_ q=>⟨.inl (),q,rfl,ao [0]⟩,λ_ q=>⟨.inr (),q,rfl,ao [0]⟩⟩
def als:aG 204 B5:=iB func204 alr alt
def iC(d:uR)(n:Nat):Nat×Nat:=bif d.n==n then (d.v,d.e) else (0,2)
abbrev xh:aF where
 X:=tF
 Y:=ax ⊕ ax
 args x:=[C x.s,Z 64]
 cond x:=x.s.size<=8388610/\aG 215 (yP x.A x.K)
 aE x F:=x.K.rd F
 bS x y:=match y with
  | .inl _=>(iC (x.A x.s) x.s.size).2=0
  | .inr _=>(iC (x.A x.s) x.s.size).2≠0/\(iC (x.A x.s) x.s.size).2<=2
 val x y:=match y with
  | .inl _=>.returned (.tuple #[.float .f64 (iC (x.A x.s) x.s.size).1,.nilIface])
  | .inr _=>.returned (.tuple #[.float .f64 (iC (x.A x.s) x.s.size).1,.iface 135 (.int .i64 (iC (x.A x.s) x.s.size).2)])
 eL x _ _ a h:=x.K.mono h a
 sum:=some (iL ax ax)
def OC(b:tF):=b.s.size<=8388610/\aG 215 (yP b.A b.K)
def Vb(x:tF)(F:ag):=l xh x F (al (tuple ⟨[float f64 0,ce 135 (Z 2)]⟩)) [(0,F)]
def aiw(x:tF)(F:ag)(k:xh.cond x)(m:xh.aE x F):aG 204 B5/\true=true/\∃(b:tF),[C x.s,Z 64]=[C b.s,Z 64]/\([]:List ag)=[]/\OC b/\b.K.3 (cO F)/\(∀(a:ax),(b.A b.s).e=0->Br ((↑(b.A b.s).n:Int)!=(x.s.size:Int)) (Vb x F) (l xh x F (al (tuple ⟨[float f64 (b.A b.s).v,nilIface]⟩)) [(0,F)]))/\∀(a:ax),((b.A b.s).e≠0/\(b.A b.s).e<=2)->Br ((↑(b.A b.s).n:Int)!=(x.s.size:Int)) (Vb x F) (l xh x F (al (tuple ⟨[float f64 (b.A b.s).v,ce 135 (Z (↑(b.A b.s).e:Int))]⟩)) [(0,F)]):=by
 delta OC cO Vb g Z C ce al;obtain⟨K,c,s⟩:=x;obtain⟨f,i⟩:=k;have o:((c s).n==s.size)=(((c s).n:Int)==(s.size:Int)):=Et _ _;have d:((c s).n==s.size)=true->iC (c s) s.size=((c s).v,(c s).e):=λe=>by unfold iC;grind
 have n:((c s).n==s.size)=false->iC (c s) s.size=(0,2):=λe=>by unfold iC;grind
 have e_:((c s).n==s.size)=false->l xh ⟨K,c,s⟩ F (returned (tuple #[float .f64 0,iface 135 (int .i64 2)])) [(0,F)]:=λe=>
  ⟨.inr (),by show(iC (c s) s.size).2≠0/\(iC (c s) s.size).2<=2;rw[n e];exact⟨by decide,bK _⟩,by show _=returned (.tuple #[.float .f64 (iC (c s) s.size).1,.iface _ (.int .i64 (iC (c s) s.size).2)]);grind,ao [0]⟩
 refine ba als ⟨K,c,s⟩ ⟨f,i⟩ (K.rest (j:=0) X m) ⟨λ_ q=>ar (λh=>e_ ?_) (λh=>?_),λ_ q=>ar (λh=>e_ ?_) (λh=>?_)⟩;grind;have h:(((c s).n:Int)!=(s.size:Int))=false:=h;have e:((c s).n==s.size)=true:=by grind
 have q:(c s).e=0:=q;exact⟨.inl (),by show(iC (c s) s.size).2=0;grind,by show _=returned (.tuple #[.float .f64 (iC (c s) s.size).1,.nilIface]);rw[d e],ao [0]⟩;grind;have h:(((c s).n:Int)!=(s.size:Int))=false:=h;have e:((c s).n==s.size)=true:=by grind
 have q:(c s).e≠0/\(c s).e<=2:=q;exact⟨.inr (),by show(iC (c s) s.size).2≠0/\(iC (c s) s.size).2<=2;grind,by show _=returned (.tuple #[.float .f64 (iC (c s) s.size).1,.iface _ (.int .i64 (iC (c s) s.size).2)]);rw[d e],ao [0]⟩
def aiv:aG 176 xh:=cY func176 [(1,2,aI B5)] aiw
def uS(F:ag):Prop:=(∃t a,aH F ⟨6,0,none⟩ (.iface t (.pointer (some a))))/\(∃t a,aH F ⟨7,0,none⟩ (.iface t (.pointer (some a))))
def uS.sub{A B:ag}(h:uS A)(hs:Sub A B):uS B:=⟨let ⟨t,a,q⟩:=h.1;⟨t,a,q.sub hs⟩,let ⟨t,a,q⟩:=h.2;⟨t,a,q.sub hs⟩⟩
structure TeX where
 f:ah
 s:ah
 e:Nat
abbrev Jl:aF where
 X:=TeX
 Y:=aD
 args x:=[C x.f,C x.s,Z 0,Z 64,ce 135 (Z x.e)]
 cond x:=x.s.size<=8388610/\x.e≠0/\x.e<=2
 aE _ F:=uS F
 val _ y:=al y
abbrev I8:aF where
 X:=tF
 Y:=aD
 args x:=[C x.s,Z 64]
 cond x:=x.s.size<=8388610/\aG 215 (yP x.A x.K)/\aG 103 Jl/\(∀F,x.K.rd F->uS F)
 aE x F:=x.K.rd F
 val x y:=.returned (.tuple #[.float .f64 (iC (x.A x.s) x.s.size).1,y])
 eL x _ _ a h:=x.K.mono h a
def aoy(x:tF)(F:ag)(p:I8.cond x)(i:I8.aE x F):aG 176 xh/\true=true/\∃(d:tF),[C x.s,Z 64]=[C d.s,Z 64]/\([]:List ag)=[]/\OC d/\d.K.3 (cO F)/\(∀(a:ax),(iC (d.A d.s) d.s.size).snd=0->l I8 x F (al (tuple ⟨[float f64 (iC (d.A d.s) d.s.size).fst,nilIface]⟩)) [(0,F)])/\∀(c:ax),((iC (d.A d.s) d.s.size).snd≠0/\(iC (d.A d.s) d.s.size).snd<=2)->bz 103 Jl (λb=>b.s.size<=8388610/\b.e≠0/\b.e<=2) (λ_=>uS) [C ⟨#[80,97,114,115,101,70,108,111,97,116]⟩,C x.s,Z 0,Z 64,ce 135 (Z (↑(iC (d.A d.s) d.s.size).snd:Int))] (cO F) (λb a=>l I8 x F (al (tuple ⟨[float f64 (iC (d.A d.s) d.s.size).fst,a]⟩)) [(0,F)]):=by
 delta OC cO g bz Z C ce al;obtain⟨K,k,s⟩:=x;obtain⟨j,m,n,o⟩:=p;replace i:K.rd F:=i;have r:∀{S:St}{f:a_},(0:Nat)∉f->gt S 0=F->K.rd (.cJ (rest S f)):=λh e=>K.rest h (by simp[*]);exact ba aiv ⟨K,k,s⟩ ⟨j,m⟩ (r X rfl) ⟨λ_ q=>⟨.nilIface,ai,rfl,ao [0]⟩,λ_ q=>⟨n,rfl,⟨_,s,_⟩,rfl,rfl,⟨j,q⟩,(o F i).sub (bB 0),λy _=>⟨y,ai,rfl,ao [0]⟩⟩⟩
def aox:aG 144 I8:=cY func144 [(1,2,aI xh),(3,4,aI Jl)] aoy
def L6(a:ah->uR)(s:ah):Nat:=(iC (a s) s.size).1
def alc{a:ah->uR}{K:bD}(b:aG 215 (yP a K))(c:aG 103 Jl)(d:∀F,K.rd F->uS F):aG 144 (HE (L6 a) K):=aox.D1 λq F I w e f g=>
 ⟨⟨K,a,q.s⟩,I,aX.le_refl I,⟨e,b,c,d⟩,f,rfl,g,λy _=>⟨y,ai,rfl,ay.refl _⟩⟩
structure Bh where
 u:Int
structure Dj where
 b:Bool
abbrev wU:aF where
 X:=Dj
 args x:=[H x.b]
 val x _:=.returned (.int .u64 (bif x.b then 1 else 0))
abbrev Bm:aF where
 X:=Dj
 args x:=[H x.b]
 val x _:=.returned (.int .i64 (bif x.b then 1 else 0))
def afj(x:Dj)(F:ag)(a:wU.cond x)(b:wU.aE x F):Br x.b (l wU x F (al (T 1)) [(0,F)]) (l wU x F (al (T 0)) [(0,F)]):=by
 delta T al;exact ar (λh=>⟨(),ai,by show _=returned (.int .u64 (bif x.b then 1 else 0));simp[*],ao [0]⟩) (λh=>⟨(),ai,by show _=returned (.int .u64 (bif x.b then 1 else 0));simp[*],ao [0]⟩)
def Rt:aG 209 wU:=cY func209 [] afj
def afi(x:Dj)(F:ag)(a:Bm.cond x)(b:Bm.aE x F):Br x.b (l Bm x F (al (Z 1)) [(0,F)]) (l Bm x F (al (Z 0)) [(0,F)]):=by
 delta Z al;exact ar (λh=>⟨(),ai,by show _=returned (.int .i64 (bif x.b then 1 else 0));simp[*],ao [0]⟩) (λh=>⟨(),ai,by show _=returned (.int .i64 (bif x.b then 1 else 0));simp[*],ao [0]⟩)
def afh:aG 192 Bm:=cY func192 [] afi
abbrev jz(f:Int->Int):aF where
 X:=Bh
 args x:=[T x.u]
 cond x:=0<=x.u/\x.u<=18446744073709551615
 val x _:=al (T (f x.u))
def AH(u:Int):Int:=u64.wrap (u64.wrap (u*2^min (Int.toNat 2) u64.bits)-2)
def apg(x:Bh)(F:ag)(a:(jz AH).cond x)(b:(jz AH).aE x F):l (jz AH) x F (al (T (aZ (aZ (x.u*2^min (Int.toNat (2:Int)) u64.bits)-2)))) [(0,F)]:=by
 delta T aZ al;exact iy
def apf:aG 193 (jz AH):=cY func193 [(1,1,F),(1,2,F)] apg
def pN(u:Int):Int:=(u64.wrap (u64.wrap (u+1)+u64.wrap (↑(BitVec.ofInt u64.bits (u.fdiv (2^min (Int.toNat 2) u64.bits))&&& BitVec.ofInt u64.bits 1).toNat:Int))).fdiv (2^min (Int.toNat 2) u64.bits)
def anw(x:Bh)(F:ag)(a:(jz pN).cond x)(b:(jz pN).aE x F):l (jz pN) x F (al (T ((aZ (aZ (x.u+1)+aZ (↑(bU (x.u.fdiv ((2:Int)^min (Int.toNat (2:Int)) u64.bits))&&& bU (1:Int)).toNat:Int))).fdiv ((2:Int)^min (Int.toNat (2:Int)) u64.bits)))) [(0,F)]:=by
 delta T bU aZ al;exact iy
def aaQ:aG 190 (jz pN):=cY func190 [(1,1,F),(1,3,F),(1,4,F),(1,5,F),(1,6,F)] anw
structure wH where
 i:Int
abbrev BN:aF where
 X:=wH
 args x:=[Z x.i]
 cond x:= -100000<=x.i/\x.i<=100000
 val x _:=al (Z ((x.i*108853).fdiv (2^min (Int.toNat 15) i64.bits)))
def aiY(x:wH)(F:ag)(a:BN.cond x)(c:BN.aE x F):aA (x.i*108853)/\l BN x F (al (Z ((x.i*108853).fdiv ((2:Int)^min (Int.toNat (15:Int)) i64.bits)))) [(0,F)]:=by
 delta aA Z al;have b: -100000<=x.i/\x.i<=100000:=a;exact⟨aC,(),ai,rfl,ao [0]⟩
def Zr:aG 185 BN:=cY func185 [] aiY
structure A3 where
 u:Int
 e:Int
def L2(x:A3):Bool:=u64.wrap (↑(BitVec.ofInt u64.bits x.u&&& BitVec.ofInt u64.bits 4503599627370496).toNat:Int)==0
def akL(x:A3):Nat:=(u64.wrap (↑(BitVec.ofInt u64.bits (u64.wrap (↑(BitVec.ofInt u64.bits x.u&&& BitVec.ofInt u64.bits 9223372036854775808).toNat:Int))|||BitVec.ofInt u64.bits 9218868437227405312).toNat:Int)).toNat
def akM(x:A3):Nat:=(u64.wrap (↑(BitVec.ofInt u64.bits (u64.wrap (↑(BitVec.ofInt u64.bits x.u&&& ~~~BitVec.ofInt u64.bits 4503599627370496).toNat:Int))|||BitVec.ofInt u64.bits (u64.wrap (u64.wrap (1075+x.e)*2^min (Int.toNat 52) u64.bits))).toNat:Int)).toNat
def mC(x:A3):Nat×Nat:=bif L2 x then (x.u.toNat,0) else bif decide (x.e>=972) then (akL x,1) else (akM x,0)
abbrev vD:aF where
 X:=A3
 Y:=ax ⊕ ax
 args x:=[T x.u,Z x.e]
 cond x:=0<=x.u/\x.u<=18446744073709551615/\ -1075<=x.e/\x.e<=100000
 bS x y:=match y with
  | .inl _=>(mC x).2=0
  | .inr _=>(mC x).2=1
 val x y:=match y with
  | .inl _=>.returned (.tuple #[.float .f64 (mC x).1,.nilIface])
  | .inr _=>.returned (.tuple #[.float .f64 (mC x).1,.iface 135 (.int .i64 1)])
 sum:=some (iL ax ax)
def akK(x:A3)(F:ag)(b:vD.cond x)(d:vD.aE x F):Br (aZ (↑(bU x.u&&& bU (4503599627370496:Int)).toNat:Int)==0) (l vD x F (al (tuple ⟨[float f64 x.u.toNat,nilIface]⟩)) [(0,F)]) (aK (x.e>=972) (l vD x F (al (tuple ⟨[float f64 (aZ (↑(bU (aZ (↑(bU x.u&&& bU (9223372036854775808:Int)).toNat:Int))|||bU (9218868437227405312:Int)).toNat:Int)).toNat,ce 135 (Z 1)]⟩)) [(0,F)]) (aA (1075+x.e)/\l vD x F (al (tuple ⟨[float f64 (aZ (↑(bU (aZ (↑(bU x.u&&& ~~~bU (4503599627370496:Int)).toNat:Int))|||bU (aZ (aZ (1075+x.e)*2^min (Int.toNat (52:Int)) u64.bits))).toNat:Int)).toNat,nilIface]⟩)) [(0,F)])):=by
 delta aA Z ce bU aZ aK al;have c:0<=x.u/\x.u<=18446744073709551615/\ -1075<=x.e/\x.e<=100000:=b;have ok:∀v:Nat,mC x=(v,0)->l vD x F (returned (tuple #[float .f64 v,nilIface])) [(0,F)]:=λv e=>
  ⟨.inl (),by show(mC x).2=0;rw[e],by show _=returned (.tuple #[.float .f64 (mC x).1,.nilIface]);rw[e],ao [0]⟩
 have no:∀v:Nat,mC x=(v,1)->l vD x F (returned (tuple #[float .f64 v,iface 135 (int .i64 1)])) [(0,F)]:=λv e=>
  ⟨.inr (),by show(mC x).2=1;rw[e],by show _=returned (.tuple #[.float .f64 (mC x).1,.iface _ (.int .i64 1)]);rw[e],ao [0]⟩
 refine ar (λh=>ok _ ?_) (λh=>ar (λa=>no _ ?_) (λa=>⟨aC,ok _ ?_⟩));unfold mC;rw[show L2 x=true from h] <;> rfl;unfold mC;rw[show L2 x=false from h,a] <;> rfl;unfold mC;rw[show L2 x=false from h,a] <;> rfl
def akJ:aG 236 vD:=cY func236 [(2,1,F),(4,3,F),(5,4,F),(5,5,F),(5,7,F)] akK
end Go.Proofs.YthhiffpfleacaaaGreatDoor
namespace Go.Proofs
section
open Tryz
open Go.Shelf
def aec:Go.Shelf.Ren:=⟨λ|129=>155|n=>n,λ|53=>127|3=>3|4=>4|46=>100|5=>5|9=>9|n=>n,λ|n=>n⟩
def aeb:Go.Proofs.Lays.n129 prog aec:={
 mixed:=by kernel_rfl
 f129:=bV func155
 t3:=underlying3
 a3:=isAgg3
 z3:=sizeOf3
 v3:=zeroValue3
 t4:=underlying4
 a4:=isAgg4
 z4:=sizeOf4
 v4:=zeroValue4
 t5:=underlying5
 a5:=isAgg5
 z5:=sizeOf5
 v5:=zeroValue5
 t9:=underlying9
 a9:=isAgg9
 z9:=sizeOf9
 v9:=zeroValue9
 t46:=underlying100
 a46:=isAgg100
 z46:=sizeOf100
 v46:=zeroValue100
 t53:=underlying127
 a53:=isAgg127
 z53:=sizeOf127
 v53:=zeroValue127}
def Tryz.bits_Len64(x:Int)(w:World)(a:0<=x)(b:x<=18446744073709551615):
  Calls prog 155 #[.int .u64 x] w λe c=>e= .returned (.int .i64 (Lib.bitLen x.toNat))/\c=w:=Any.bits_Len64 aeb x w a b
def aep:Go.Shelf.Ren:=⟨λ|264=>169|n=>n,λ|53=>127|46=>100|n=>n,λ|n=>n⟩
def aeo:Go.Proofs.Lays.n264 prog aep:={
 mixed:=by kernel_rfl
 f264:=bV func169
 t46:=underlying100
 a46:=isAgg100
 z46:=sizeOf100
 v46:=zeroValue100
 t53:=underlying127
 a53:=isAgg127
 z53:=sizeOf127
 v53:=zeroValue127}
open Go.RowKit Go.Lib in
def Tryz.bits_Mul64(x y:Nat)(hx:x<18446744073709551616)(hy:y<18446744073709551616)(w:World):
  Calls prog 169 #[.int .u64 x,.int .u64 y] w λe w'=>e= .returned (.tuple #[.int .u64 ((x*y/18446744073709551616:Nat):Int),.int .u64 ((x*y%18446744073709551616:Nat):Int)])/\w'=w:=Any.bits_Mul64 aeo x y hx hy w
end
end Go.Proofs
namespace Go.Proofs.YthhiffpfleacaaaGreatDoor
set_option maxRecDepth 100000
open Go.Value (int slice string bool pointer agg tuple func float iface nilIface)
open Go.IntKind (i64 u8 u64 i32 u32 u16 i8 i16)
open Go.FloatKind (f64)
open Go.Ending (returned panicked)
open Go.Proofs.Tryz
structure N1X where
 u:Nat
abbrev Hr:aF where
 X:=N1X
 args x:=[T x.u]
 cond x:=x.u<=18446744073709551615
 val x _:=al (Z (Lib.bitLen x.u))
def Zs:aG 155 Hr:=qC Hr (λ_=>rfl) (λ_ _=>()) (λ_ _=>ai) (λ_ _=>rfl) λx F I w a b c=>
 (Go.Proofs.Tryz.bits_Len64 (x.u:Int) w (Int.natCast_nonneg _) (by have:x.u<=18446744073709551615:=a;omega)).mono λe d h=>⟨by rw[h.1,cy] <;> rfl,RowKit.Below.of_eq h.2⟩
structure yG where
 u:Nat
 v:Nat
abbrev Em:aF where
 X:=yG
 args x:=[T x.u,T x.v]
 cond x:=x.u<18446744073709551616/\x.v<18446744073709551616
 val x _:=.returned (.tuple #[.int .u64 (x.u*x.v/18446744073709551616:Nat),.int .u64 (x.u*x.v%18446744073709551616:Nat)])
def Ss:aG 169 Em:=qC Em (λ_=>rfl) (λ_ _=>()) (λ_ _=>ai) (λ_ _=>rfl) λx F I w a b c=>
 (Go.Proofs.Tryz.bits_Mul64 x.u x.v a.1 a.2 w).mono λe d h=>⟨h.1,RowKit.Below.of_eq h.2⟩
structure qN where
 u:Nat
 b:Nat
 hi:Nat
 lo:Nat
 s:Nat
def Jq(x:qN):Int:=(x.u*x.hi/18446744073709551616:Nat)
def Pf(x:qN):Int:=(x.u*x.hi%18446744073709551616:Nat)
def Pg(x:qN):Int:=(x.u*x.lo/18446744073709551616:Nat)
def Jr(x:qN):Bool:=u64.wrap ((Jq x).fdiv (2^min (↑x.s:Int).toNat u64.bits)*2^min (↑x.s:Int).toNat u64.bits)!=Jq x
def abM(x:qN):Int:=u64.wrap (↑(BitVec.ofInt u64.bits ((Jq x).fdiv (2^min (↑x.s:Int).toNat u64.bits))|||BitVec.ofInt u64.bits 1).toNat:Int)
def abN(x:qN):Int:=u64.wrap (↑(BitVec.ofInt u64.bits ((u64.wrap (Jq x-bif decide (Pf x<Pg x) then 1 else 0)).fdiv (2^min (↑x.s:Int).toNat u64.bits))|||BitVec.ofInt u64.bits (bif decide (u64.wrap (Pf x-Pg x)>1) then 1 else 0)).toNat:Int)
def iY(x:qN):Int:=bif Jr x then abM x else abN x
def ae2{d:Nat}(h:d<64):i64.wrap (↑(BitVec.ofInt i64.bits (d:Int)&&& BitVec.ofInt i64.bits 63).toNat:Int)=(d:Int):=by
 show i64.wrap (↑((BitVec.ofNat 64 d&&& BitVec.ofNat 64 63:BitVec 64).toNat):Int)=_;have:(BitVec.ofNat 64 d&&& BitVec.ofNat 64 63).toNat=d:=by{rw[BitVec.toNat_and,BitVec.toNat_ofNat,BitVec.toNat_ofNat];have a:d%2^64=d:=Nat.mod_eq_of_lt O;have b:=Nat.and_two_pow_sub_one_eq_mod d 6;simp[*]};rw[this];exact dw (i:=.i64) aC
abbrev uM:aF where
 X:=qN
 args x:=[T x.u,W (some ⟨x.b,0,none⟩)]
 cond x:=x.u<18446744073709551616/\x.hi<18446744073709551616/\x.lo<18446744073709551616/\x.s<64
 aE x F:=aH F ⟨x.b,0,none⟩ (.int .u64 x.hi)/\aH F ⟨x.b,1,none⟩ (.int .u64 x.lo)/\aH F ⟨x.b,2,none⟩ (.int .i64 x.s)
 val x _:=al (T (iY x))
 eL _ _ _ a h:=⟨h.1.sub a,h.2.1.sub a,h.2.2.sub a⟩
def api(x:qN)(F:ag):Nat->Option Inv:=fun
 |3=>some {X:=ax,P:=λ_=>True,mu:=λ_=>0,lv:=λ_=>[(0,T x.u),(1,W (some ⟨x.b,0,none⟩)),(5,T (x.u*x.hi/18446744073709551616:Nat)),(6,T (x.u*x.hi%18446744073709551616:Nat)),(7,Z x.s)],st:=λ_=>[F]}
 |_=>none
def DM(b:ag)(c:Addr)(d:Int->Prop):=∃(a:Int),aH b c (T a)/\d a
def GO:=cG 169 Em (λa=>a.u<18446744073709551616/\a.v<18446744073709551616)
def GP:=fv 209 wU
def apj(x:qN)(F:ag)(r:uM.cond x)(s:uM.aE x F):DM F ⟨x.b,0,none⟩ (λm=>GO [T ↑x.u,T m] (λk j=>T1 F ⟨x.b,2,none⟩ (λb=>∃(a:ax),True/\(T ↑x.u=T ↑x.u/\W (some ⟨x.b,0,none⟩)=W (some ⟨x.b,0,none⟩)/\T (↑(k.u*k.v/18446744073709551616):Int)=T (↑(x.u*x.hi/18446744073709551616):Int)/\T (↑(k.u*k.v%18446744073709551616):Int)=T (↑(x.u*x.hi%18446744073709551616):Int)/\Z (bR (↑(ib b&&& ib (63:Int)).toNat:Int))=Z ↑x.s/\True)/\ay [(0,F)] [(0,F)])/\aQ λ(i:ax)_=>True->Br (aZ ((↑(x.u*x.hi/18446744073709551616):Int).fdiv ((2:Int)^min (x.s:Int).toNat u64.bits)*2^min (x.s:Int).toNat u64.bits)!=(↑(x.u*x.hi/18446744073709551616):Int)) (l uM x F (al (T (aZ (↑(bU ((↑(x.u*x.hi/18446744073709551616):Int).fdiv ((2:Int)^min (x.s:Int).toNat u64.bits))|||bU (1:Int)).toNat:Int)))) [(0,F)]) (DM F ⟨x.b,1,none⟩ (λg=>GO [T ↑x.u,T g] (λf e=>GP [H (decide ((↑(x.u*x.hi%18446744073709551616):Int)<(↑(f.u*f.v/18446744073709551616):Int)))] (λd c=>true=true/\GP [H (decide (aZ ((↑(x.u*x.hi%18446744073709551616):Int)-(↑(f.u*f.v/18446744073709551616):Int))>1))] (λb a=>l uM x F (al (T (aZ (↑(bU ((aZ ((↑(x.u*x.hi/18446744073709551616):Int)-bif d.b then (1:Int) else (0:Int))).fdiv ((2:Int)^min (x.s:Int).toNat u64.bits))|||bU (bif b.b then (1:Int) else (0:Int))).toNat:Int)))) [(0,F)]))))))):=by
 delta DM GO T1 GP fv cG Z T H W bU ib aZ bR al aQ;obtain⟨n,o,p,q⟩:=r;obtain⟨t,u,w⟩:=s;have ae:∀v,iY x=v->l uM x F (returned (int .u64 v)) [(0,F)]:=λv e=>
  ⟨(),ai,by show _=returned (.int .u64 (iY x));rw[e],ao [0]⟩
 refine⟨x.hi,t,Ss,rfl,⟨x.u,x.hi⟩,rfl,rfl,⟨n,o⟩,ai,λ_ _=>⟨⟨x.s,w,(),ai,⟨rfl,rfl,rfl,rfl,by rw[ae2 q],ai⟩,ao [0]⟩,λ_ y _=>ar (λh=>ae _ ?_) (λh=>?_)⟩⟩;unfold iY;rw[show Jr x=true from h] <;> rfl;refine⟨x.lo,u,Ss,rfl,⟨x.u,x.lo⟩,rfl,rfl,⟨n,p⟩,ai,λ_ _=>⟨Rt,rfl,⟨_⟩,rfl,rfl,ai,ai,λ_ _=>⟨rfl,Rt,rfl,⟨_⟩,rfl,rfl,ai,ai,λ_ _=>ae _ ?_⟩⟩⟩;unfold iY;rw[show Jr x=false from h] <;> rfl
def Ph:aG 186 uM:=oI func186 (λ_ _=>[(1,4,.q [.ex 0 (.int .u64)]),(1,5,aI Em),(2,3,cD),(2,4,F),(3,2,F),(3,4,F),(4,2,F),(4,3,F),(5,4,.q [.ex 0 (.int .u64)]),(5,5,aI Em),(6,4,aI wU),(6,5,F),(7,2,F),(7,5,F),(7,7,aI wU),(7,8,F)]) api apj
structure JK where
 b:Nat
 v0:aD
 v1:aD
 v2:aD
 e:Int
 p:Int
 l:Int
 tb:Nat->Nat
abbrev B8:aF where
 X:=JK
 args x:=[W (some ⟨x.b,0,none⟩),Z x.e,Z x.p,Z x.l]
 pre x:=[D x.b [x.v0,x.v1,x.v2] 194]
 cond x:= -348<=x.p/\x.p<348/\ -1000000<=x.e/\x.e<=1000000/\ -1000000<=x.l/\x.l<=1000000
 aE x F:=∀i,i<1392->aH F ⟨11,i,none⟩ (.int .u64 (x.tb i))
 val x _:=.returned (.tuple #[])
 post x _:=[D x.b [T (x.tb ((x.p+348).toNat*2)),T (x.tb ((x.p+348).toNat*2+1)),Z (-(x.e+x.l+3))] 194]
 eL _ _ _ b h:=λi a=>(h i a).sub b
def VX(x:JK):=0<=x.p-(-348:Int)/\x.p-(-348:Int)<(↑(696:Nat):Int)
def ams(x:JK)(F:ag)(r:B8.cond x)(d:B8.aE x F):aA (x.p-(-348:Int))/\VX x/\DM F ⟨11,0+(x.p-(-348:Int)).toNat*2,none⟩ (λb=>V x.b 0/\aA (x.p-(-348:Int))/\VX x/\DM F ⟨11,0+(x.p-(-348:Int)).toNat*2+1,none⟩ (λa=>V x.b 1/\aA (x.e+x.l)/\aA (x.e+x.l+3)/\V x.b 2/\l B8 x F eK [(0,D x.b [T b,T a,Z (bR ((0:Int)-(x.e+x.l+3)))] 194),(1,F)])):=by
 delta VX DM eK V aA Z T D bR al;obtain⟨b,s,t,u,e,p,c,f⟩:=x;obtain⟨h,j,k,m,o,q⟩:=r;dsimp only at h j k m o q⊢;have e1:0+(p- -348).toNat*2=(p+348).toNat*2:=by rw[show p- -348=p+348 by omega,gZ]
 have g:i64.wrap (0-(e+c+3))= -(e+c+3):=by{rw[dw (i:=.i64) (n:=0-(e+c+3)) aC];omega};rw[e1];refine⟨aC,aC,f _,d _ O,Y,aC,aC,f _,d _ O,Y,aC,aC,Y,(),ai,rfl, ?_⟩
 first
  |exact ao [0,1]
  | (rw[g];exact ao [0,1])
def aaD:aG 184 B8:=cY func184 [(0,5,.q [.ex 1 (.int .u64)]),(0,8,.w [.aS 0]),(1,5,.q [.ex 1 (.int .u64)]),(1,8,.w [.aS 0]),(2,8,.w [.aS 0])] ams
section
def oh(k kn:IntKind):j5 where
 X:=Int×Int
 args x:=[.int k x.1,.int kn x.2]
 cond x:=0<=x.2
 val x:=.int k (k.wrap (x.1*2^min x.2.toNat k.bits))
def wg(k kn:IntKind):j5 where
 X:=Int×Int
 args x:=[.int k x.1,.int kn x.2]
 cond x:=0<=x.2
 val x:=.int k (x.1.fdiv (2^min x.2.toNat k.bits))
variable{k kn:IntKind}{o:Oper}{x y:Operand}{P:Program}{t tn:TypeId}
theorem o6(e:o.op= .binOp .shl t x y tn):cN P o (oh k kn):=by
 refine⟨λq w ρ f d=>?_⟩;obtain⟨a,b⟩:=q;have d:0<=b:=d;simp only[e,Op.operands,oh]at f;have c:ρ x= .int k a/\ρ y= .int kn b:=by grind
 obtain⟨h,i⟩:=c;have g:¬b<0:=O;simp[execOp,e,h,i,eqGuard,binOp,Op.shift,oh,g,Sem.run]
theorem yp(e:o.op= .binOp .shr t x y tn):cN P o (wg k kn):=by
 refine⟨λq w ρ f d=>?_⟩;obtain⟨a,b⟩:=q;have d:0<=b:=d;simp only[e,Op.operands,wg]at f;have c:ρ x= .int k a/\ρ y= .int kn b:=by grind
 obtain⟨h,i⟩:=c;have g:¬b<0:=O;simp[execOp,e,h,i,eqGuard,binOp,Op.shift,wg,g,Sem.run]
structure lf where
 m:Nat
 e:Int
 g:Nat
 tb:Nat->Nat
def dR(e:Int):Int:=(e*108853).fdiv (2^min (Int.toNat 15) i64.bits)
def iv(x:lf):Int:=Lib.bitLen x.m
def ja(x:lf):Int:=min 1074 (53-iv x-dR x.e)
def kG(x:lf):Int:= -(ja x-(64-iv x)+dR x.e+3)
def Hc(x:lf):Int:=u64.wrap (x.m*2^min (64-iv x).toNat u64.bits)
def ss(x:lf):Int:=iY ⟨(Hc x).toNat,0,x.tb ((x.e+348).toNat*2),x.tb ((x.e+348).toNat*2+1),(kG x).toNat⟩
def p7(x:lf):Int:=bif decide (ss x>=AH 9007199254740992) then 1 else 0
def YQ(x:lf):Int:=u64.wrap (↑(BitVec.ofInt u64.bits ((ss x).fdiv (2^min (p7 x).toNat u64.bits))|||BitVec.ofInt u64.bits (u64.wrap (↑(BitVec.ofInt u64.bits (ss x)&&& BitVec.ofInt u64.bits 1).toNat:Int))).toNat:Int)
def RT(x:lf):Int:=u64.wrap (↑(BitVec.ofInt u64.bits (↑x.g:Int)|||BitVec.ofInt u64.bits (pN (YQ x))).toNat:Int)
def YR(x:lf):Nat:=(u64.wrap (↑(BitVec.ofInt u64.bits (↑x.g:Int)|||BitVec.ofInt u64.bits 0).toNat:Int)).toNat
def gT(x:lf):Nat×Nat:=bif decide (kG x>=64) then (YR x,0) else mC ⟨RT x,i64.wrap (0-(ja x-p7 x))⟩
theorem gA(z:Int):0<=u64.wrap z/\u64.wrap z<=18446744073709551615:=by
 have:u64.wrap z=z%18446744073709551616:=by rfl
 omega
theorem abP(x:qN):0<=iY x/\iY x<=18446744073709551615:=by
 unfold iY;cases Jr x;exact gA _;exact gA _
theorem ajq(e:Int):dR e=e*108853/32768:=by
 unfold dR;rw[show min (Int.toNat 15) i64.bits=15 from rfl];grind
theorem aha{x:lf}(b:x.m<18446744073709551616)(c: -348<=x.e)(d:x.e<348):0<=iv x/\iv x<=64/\ -1157<=dR x.e/\dR x.e<=1153/\ja x<=1074/\ -1200<=ja x/\8<=kG x:=by
 have e:iv x<=64:=by{unfold iv;have:=Lib.bitLen_le x.m 64 O O;omega};have a:0<=iv x:=Int.natCast_nonneg _;have g:=ajq x.e;have f:ja x=min 1074 (53-iv x-dR x.e):=rfl;have h:kG x= -(ja x-(64-iv x)+dR x.e+3):=rfl;omega
abbrev D6:aF where
 X:=lf
 Y:=ax ⊕ ax
 args x:=[T x.m,Z x.e,T x.g]
 cond x:=x.m<18446744073709551616/\ -348<=x.e/\x.e<348/\x.g<18446744073709551616/\∀i,x.tb i<18446744073709551616
 aE x F:=∀i,i<1392->aH F ⟨11,i,none⟩ (.int .u64 (x.tb i))
 bS x y:=match y with
  | .inl _=>(gT x).2=0
  | .inr _=>(gT x).2=1
 val x y:=match y with
  | .inl _=>.returned (.tuple #[.float .f64 (gT x).1,.nilIface])
  | .inr _=>.returned (.tuple #[.float .f64 (gT x).1,.iface 135 (.int .i64 1)])
 eL _ _ _ b h:=λi a=>(h i a).sub b
 sum:=some (iL ax ax)
structure uT where
 b:Nat
 u:Int
 g:Int
def ag9(x:lf)(F:ag):Nat->Option Inv:=fun
 |4=>some {X:=ax,P:=λ_=>True,mu:=λ_=>0,lv:=λ_=>[(0,T x.m),(1,Z x.e),(2,T x.g),(8,Z (iv x)),(9,Z (dR x.e)),(10,Z (ja x))],st:=λ_=>[F]}
 |8=>some {X:=uT,P:=λ_=>kG x<64,mu:=λ_=>0,lv:=λd=>[(0,T x.m),(2,T x.g),(8,Z (iv x)),(10,Z (ja x)),(11,W (some ⟨d.b,0,none⟩))],st:=λd=>[F,D d.b [T (x.tb ((x.e+348).toNat*2)),T (x.tb ((x.e+348).toNat*2+1)),Z (kG x)] 194]}
 |9=>some {X:=uT,P:=λd=>kG x<64/\d.u=ss x,mu:=λ_=>0,lv:=λd=>[(2,T x.g),(10,Z (ja x)),(12,T d.u)],st:=λ_=>[F]}
 |10=>some {X:=uT,P:=λd=>kG x<64/\d.u=ss x/\d.g=p7 x,mu:=λ_=>0,lv:=λd=>[(2,T x.g),(10,Z (ja x)),(12,T d.u),(13,Z d.g)],st:=λ_=>[F]}
 |_=>none
def Kx:=cG 155 Hr (λa=>a.u<=18446744073709551615)
def Ky:=cG 185 BN (λa=>(-100000:Int)<=a.i/\a.i<=100000)
def Kz:=dP 184 B8 (λa=>(-348:Int)<=a.p/\a.p<348/\(-1000000:Int)<=a.e/\a.e<=1000000/\(-1000000:Int)<=a.l/\a.l<=1000000) (λa c=>(∀(b:Nat),b<1392->aH c ⟨11,b,none⟩ (T (↑(a.tb b):Int)))) (λ_ _=>True)
abbrev Fe:aN:=[T 0,T 0,Z 0]
abbrev HX(F:ag)(m:JK):=[(0,F),(5000,D m.b [T (↑(m.tb ((m.p+348).toNat*2)):Int),T (↑(m.tb ((m.p+348).toNat*2+1)):Int),Z (-(m.e+m.l+3))] 194)]
abbrev MI(F:ag)(a:uT)(x:lf):=[(0,F),(1,D a.b [T (↑(x.tb ((x.e+348).toNat*2)):Int),T (↑(x.tb ((x.e+348).toNat*2+1)):Int),Z (kG x)] 194)]
def qM(c:Oper)(a:aN)(b:Int×Int->Prop):=cN prog c (oh u64 i64)/\∃(z:Int×Int),a=[T z.fst,Z z.snd]/\0<=z.snd/\b z
def DN:=bz 186 uM (λa=>a.u<18446744073709551616/\a.hi<18446744073709551616/\a.lo<18446744073709551616/\a.s<64) (λa b=>aH b ⟨a.b,0,none⟩ (T ↑a.hi)/\aH b ⟨a.b,1,none⟩ (T ↑a.lo)/\aH b ⟨a.b,2,none⟩ (Z ↑a.s))
def Ff(a:Bh):=0<=a.u/\a.u<=18446744073709551615
def wO(c:Oper)(a:aN)(b:Int×Int->Prop):=cN prog c (wg u64 i64)/\∃(z:Int×Int),a=[T z.fst,Z z.snd]/\0<=z.snd/\b z
def KA:=cG 190 (jz pN) (λa=>Ff a)
theorem ahb(x:lf)(F:ag)(M:D6.cond x)(K:D6.aE x F):Kx [T ↑x.m] (λt s=>Ky [Z x.e] (λr q=>(aA ((53:Int)-(↑(Lib.bitLen t.u):Int))/\aA ((53:Int)-(↑(Lib.bitLen t.u):Int)-(r.i*108853).fdiv ((2:Int)^min (Int.toNat (15:Int)) i64.bits))/\∃(a:ax),True/\(T ↑x.m=T ↑x.m/\Z x.e=Z x.e/\T ↑x.g=T ↑x.g/\Z (↑(Lib.bitLen t.u):Int)=Z (iv x)/\Z ((r.i*108853).fdiv ((2:Int)^min (Int.toNat (15:Int)) i64.bits))=Z (dR x.e)/\Z (if (53:Int)-(↑(Lib.bitLen t.u):Int)-(r.i*108853).fdiv ((2:Int)^min (Int.toNat (15:Int)) i64.bits)<1074 then (53:Int)-(↑(Lib.bitLen t.u):Int)-(r.i*108853).fdiv ((2:Int)^min (Int.toNat (15:Int)) i64.bits) else (1074:Int))=Z (ja x)/\True)/\ay [(0,F)] [(0,F)])/\aQ λ(p:ax)_=>True->∀(n:Nat),aA ((64:Int)-iv x)/\aA (ja x-((64:Int)-iv x))/\Kz [W (bq n),Z (ja x-((64:Int)-iv x)),Z x.e,Z (dR x.e)] [D n Fe 194] (g [(0,F),(5000,D n Fe 194)] [5000]) (λm f=>(d6 ⟨n,2,none⟩ m.b/\aK (-(m.e+m.l+3)>=64) (l D6 x F (al (tuple ⟨[float f64 (aZ (↑(bU (x.g:Int)|||bU (0:Int)).toNat:Int)).toNat,nilIface]⟩)) (HX F m)) (∃(a:uT),kG x<64/\(T ↑x.m=T ↑x.m/\T ↑x.g=T ↑x.g/\Z (iv x)=Z (iv x)/\Z (ja x)=Z (ja x)/\W (bq n)=W (some ⟨a.b,0,none⟩)/\True)/\ay (HX F m) (MI F a x)))/\aQ λ(k:uT)_=>kG x<64->(aA ((64:Int)-iv x)/\qM (aL f230 8 3) [T ↑x.m,Z ((64:Int)-iv x)] (λd=>DN [T (aZ (d.fst*2^min d.snd.toNat u64.bits)),W (some ⟨k.b,0,none⟩)] (g (MI F k x) []) (λc b=>∃(a:uT),(kG x<64/\a.u=ss x)/\(T ↑x.g=T ↑x.g/\Z (ja x)=Z (ja x)/\T (iY c)=T a.u/\True)/\ay (MI F k x) [(0,F)])))/\aQ λ(i:uT)_=>(kG x<64/\i.u=ss x)->cG 193 (jz AH) (λe=>Ff e) [T 9007199254740992] (λe d=>fv 192 Bm [H (decide (i.u>=AH e.u))] (λc b=>∃(a:uT),(kG x<64/\a.u=ss x/\a.g=p7 x)/\(T ↑x.g=T ↑x.g/\Z (ja x)=Z (ja x)/\T i.u=T a.u/\Z (bif c.b then (1:Int) else (0:Int))=Z a.g/\True)/\ay [(0,F)] [(0,F)]))/\aQ λ(h:uT)_=>(kG x<64/\h.u=ss x/\h.g=p7 x)->wO (aL f230 10 2) [T h.u,Z h.g] (λe=>aA (ja x-h.g)/\KA [T (aZ (↑(bU (e.fst.fdiv ((2:Int)^min e.snd.toNat u64.bits))|||bU (aZ (↑(bU h.u&&& bU (1:Int)).toNat:Int))).toNat:Int))] (λd c=>aG 236 vD/\true=true/\∃(b:A3),[T (aZ (↑(bU (x.g:Int)|||bU (pN d.u)).toNat:Int)),Z (bR ((0:Int)-(ja x-h.g)))]=[T b.u,Z b.e]/\([]:List ag)=[]/\(0<=b.u/\b.u<=18446744073709551615/\(-1075:Int)<=b.e/\b.e<=100000)/\True/\(∀(a:ax),(mC b).snd=0->l D6 x F (al (tuple ⟨[float f64 (mC b).fst,nilIface]⟩)) [(0,F)])/\∀(a:ax),(mC b).snd=1->l D6 x F (al (tuple ⟨[float f64 (mC b).fst,ce 135 (Z 1)]⟩)) [(0,F)]))))):=by
 delta Kx Ky Kz bq Fe HX MI qM DN Ff wO KA g aA fv cG bz dP Z T H W ce D bU aZ bR aK al aQ;obtain⟨L,G,I,V,J⟩:=M;replace K:∀i,i<1392->aH F ⟨11,i,none⟩ (.int .u64 (x.tb i)):=K;obtain⟨r1,r2,r3,r4,r5,r6,r7⟩:=aha L G I;have R:∀a b:Int,(if b<a then b else a)=min a b:=λa b=>O;have Q:∀{S:St}{w:a_},(0:Nat)∉w->gt S 0=F->∀i,i<1392->aH (.cJ (rest S w)) ⟨11,i,none⟩ (.int .u64 (x.tb i)):=λP e i hi=>aH.rest (j:=0) P (by simp[*]);refine bG Zs ⟨x.m⟩ (by grind) λ_ _=>bG Zr ⟨x.e⟩ ⟨by grind,by grind⟩ λ_ _=>⟨?_,λ_ B _ b=>?_⟩;change((-9223372036854775808<=53-iv x/\53-iv x<=9223372036854775807)/\(-9223372036854775808<=53-iv x-dR x.e/\53-iv x-dR x.e<=9223372036854775807)/\_);refine⟨aC,aC,(),ai,⟨rfl,rfl,rfl,rfl,rfl, ?_,ai⟩,ao [0]⟩;exact congrArg _ (R 1074 (53-iv x-dR x.e));refine⟨aC,aC,aaD,rfl,⟨b,_,_,_,ja x-(64-iv x),x.e,dR x.e,x.tb⟩,rfl,rfl,⟨G,I,by grind,by grind,by grind,by grind⟩,Q X rfl,λ_ _=>⟨⟨Y,bd (λz=>?_) (λo=>⟨⟨b,0,0⟩,by have o:¬kG x>=64:=o;omega,aU,ao [0,5000]⟩)⟩, ?_⟩⟩;have z:kG x>=64:=z;have e:gT x=(YR x,0):=by unfold gT;simp[*]
 exact⟨.inl (),by show(gT x).2=0;rw[e],by show _=returned (.tuple #[.float .f64 (gT x).1,.nilIface]);rw[e] <;> rfl,ao [0]⟩;rintro⟨b,_,_⟩ B o;have o:kG x<64:=o;dsimp only;have hm:0<=Hc x/\Hc x<=18446744073709551615:=gA (x.m*2^min (64-iv x).toNat u64.bits);refine⟨⟨aC,o6 rfl,(x.m,64-iv x),rfl,O,Ph,rfl,⟨(Hc x).toNat,b,x.tb ((x.e+348).toNat*2),x.tb ((x.e+348).toNat*2+1),(kG x).toNat⟩, ?_,rfl,⟨?_,J _,J _, ?_⟩, ?_,λ_ _=>⟨⟨0,ss x,0⟩,⟨o,rfl⟩,aU,ao [0]⟩⟩, ?_⟩;rfl;grind;simp[*];have y:∀(i:Nat)(v:aD),[int .u64 (x.tb ((x.e+348).toNat*2):Nat),.int .u64 (x.tb ((x.e+348).toNat*2+1):Nat),.int .i64 (kG x)][i]?=some v->aH (.cJ (rest [(0,F),(1,ag.cells b [int .u64 (x.tb ((x.e+348).toNat*2):Nat),.int .u64 (x.tb ((x.e+348).toNat*2+1):Nat),.int .i64 (kG x)] 194)] [])) ⟨b,i,none⟩ v:=λi v e=>aH.rest (j:=1) X (aH.cells (by exact e));refine⟨y 0 _ rfl,y 1 _ rfl,y 2 _ ?_⟩;grind;rintro⟨_,u,_⟩ B ⟨_,A⟩;dsimp only at A⊢;subst A;have A:=abP ⟨(Hc x).toNat,0,x.tb ((x.e+348).toNat*2),x.tb ((x.e+348).toNat*2+1),(kG x).toNat⟩;refine⟨bG apf ⟨9007199254740992⟩ ⟨by decide,by decide⟩ λ_ _=>⟨afh,rfl,⟨_⟩,rfl,rfl,ai,ai,λ_ _=>⟨⟨0,ss x,p7 x⟩,⟨o,rfl,rfl⟩,aU,ao [0]⟩⟩, ?_⟩;rintro⟨_,u,h⟩ B ⟨_,e1,C⟩;dsimp only at e1 C⊢;subst e1 C;have N:0<=p7 x/\p7 x<=1:=by{unfold p7;grind};have U:i64.wrap (0-(ja x-p7 x))=0-(ja x-p7 x):=dw (i:=.i64) aC;have E:gT x=mC ⟨RT x,i64.wrap (0-(ja x-p7 x))⟩:=by unfold gT;rw[bF O] <;> rfl
 refine⟨yp rfl,(ss x,p7 x),rfl,N.1,aC,aaQ,rfl,⟨YQ x⟩,rfl,rfl,gA _,ai,λ_ _=>bG akJ ⟨RT x,i64.wrap (0-(ja x-p7 x))⟩ ⟨(gA _).1,(gA _).2,by grind,by grind⟩ ⟨λ_ q=>⟨.inl (),by show(gT x).2=0;grind,by show _=returned (.tuple #[.float .f64 (gT x).1,.nilIface]);rw[E],ao [0]⟩,λ_ q=>⟨.inr (),by show(gT x).2=1;grind,by show _=returned (.tuple #[.float .f64 (gT x).1,.iface _ (.int .i64 1)]);rw[E],ao [0]⟩⟩⟩
theorem ag_:aG 230 D6:=oI func230 (λ_ _=>[(1,1,aI Hr),(2,1,aI BN),(3,4,F),(4,0,.n 5000),(5,6,.c B8 [5000] [5000]),(6,1,z 5000),(7,1,F),(7,2,F),(8,3,.qo (oh .u64 .i64)),(8,4,aI uM),(9,1,aI (jz AH)),(9,3,aI Bm),(10,2,.qo (wg .u64 .i64)),(10,4,F),(10,5,F),(12,2,aI (jz pN)),(12,3,F),(12,6,aI vD)]) ag9 ahb
end
section
variable{P:Program}
def nN(op:BinOp)(a b:Nat):Option Nat:=floatBits op .f64 a b
def tX(op:BinOp):j5 where
 X:=Nat×Nat
 args x:=[.float .f64 x.1,.float .f64 x.2]
 cond x:=(nN op x.1 x.2).isSome=true
 val x:=.float .f64 ((nN op x.1 x.2).getD 0)
variable{op:BinOp}{d:Ieee.Datum}{o:Oper}{x y:Operand}{rt t:TypeId}
theorem Y3(e:op= .mul\/op= .quo)(f:o.op= .binOp op t x y rt):cN P o (tX op):=by
 refine⟨λq w ρ g h=>?_⟩;obtain⟨a,b⟩:=q;simp only[f,Op.operands,tX]at g;have d:ρ x= .float .f64 a/\ρ y= .float .f64 b:=by grind
 obtain⟨j,k⟩:=d;obtain⟨r,i⟩:=Option.isSome_iff_exists.1 h;have c:floatBits op .f64 a b=some r:=i;show _=_;have:(tX op).val (a,b)= .float .f64 r:=by show float .f64 ((nN op a b).getD 0)=_;simp[*]
 rw[this];rcases e with rfl|rfl <;> (unfold floatBits at c;simp only at c;simp[execOp,f,j,k,eqGuard,binOp,Op.floatArith,c,Sem.run])
theorem ZM(a:o.op= .binOp .mul t x y rt):cN P o (tX .mul):=Y3 (.inl rfl) a
theorem am8(a:o.op= .binOp .quo t x y rt):cN P o (tX .quo):=Y3 (.inr rfl) a
def cq(op:BinOp)(a b:Nat):Bool:=
 match op with
 | .eql=>f64.format.order a b==some .eq
 | .lss=>f64.format.order a b==some .lt
 | .gtr=>f64.format.order a b==some .gt
 | .neq=>f64.format.order a b !=some .eq
 |_=>false
def iO(op:BinOp):j5 where
 X:=Nat×Nat
 args x:=[.float .f64 x.1,.float .f64 x.2]
 cond _:=True
 val x:=.bool (cq op x.1 x.2)
theorem ia(d:op= .eql\/op= .lss\/op= .gtr\/op= .neq)(e:o.op= .binOp op t x y rt):cN P o (iO op):=by
 refine⟨λq w ρ f _=>?_⟩;obtain⟨a,b⟩:=q;simp only[e,Op.operands,iO]at f;have c:ρ x= .float .f64 a/\ρ y= .float .f64 b:=by grind
 obtain⟨g,h⟩:=c;rcases d with rfl|rfl|rfl|rfl <;> simp[execOp,e,g,h,eqGuard,binOp,Op.floatCmp,iO,cq,Sem.run]
def D_:j5 where
 X:=Nat
 args x:=[.float .f64 x]
 cond _:=True
 val x:=.float .f64 (Op.negFloat .f64 x)
theorem Y6(b:o.op= .unOp .neg t x):cN P o D_:=by
 refine⟨λa w ρ c _=>?_⟩;simp only[b,Op.operands,D_]at c;have d:ρ x= .float .f64 a:=by grind
 simp[execOp,b,d,Op.unary,D_,Sem.run]
def Lt(k:IntKind):j5 where
 X:=Int
 args x:=[.int k x]
 cond _:=True
 val x:=.float .f64 (f64.nearest x)
theorem aic{k:IntKind}{af a:TypeId}(e:o.op= .convert af a x)(hs:(P.underlying af).isSome=true)(g:P.underlying a=some (.float .f64)):cN P o (Lt k):=by
 refine⟨λc w ρ f h=>?_⟩;simp only[e,Op.operands,Lt]at f;have d:ρ x= .int k c:=by grind
 have b:=run_convert_int_float (P:=P) w af a k .f64 c hs g;simp only[execOp,e,d];rw[Sem.run_bind,b];rfl
def NN(x:Nat):Prop:=(Ieee.double.read x).isNaN=false
theorem ZZ{x:Nat}(h:x%Ieee.double.signWeight<=Ieee.double.infRung):NN x:=by
 unfold NN Ieee.Format.read;dsimp only;split;rfl;split;rfl;split;rfl;omega
theorem C2:Ieee.double.signWeight=9223372036854775808:=by decide+kernel
theorem Zi:Ieee.double.infRung=9218868437227405312:=by decide+kernel
theorem Sz(s:Bool)(r:Nat)(h:r<=Ieee.double.infRung):NN (Ieee.double.word s r):=by
 apply ZZ;unfold Ieee.Format.word;rw[C2,Zi]at*;grind
theorem Z1(h:d.isNaN=false):NN (Ieee.double.write d):=by
 cases d with
 |number s m e=>
  show NN (Ieee.double.nearest s m e);unfold Ieee.Format.nearest;split;exact Sz _ _ (b7 _);exact Sz _ _ (Nat.min_le_right _ _)
 |infinity s=>exact Sz _ _ (bK _)
 |nan s f=>cases h
theorem akl{x:Nat}(h:NN x):NN (Op.negFloat .f64 x):=by
 unfold NN at h;by_cases b:x%Ieee.double.signWeight<=Ieee.double.infRung;apply ZZ;have:Op.negFloat .f64 x%Ieee.double.signWeight=x%Ieee.double.signWeight:=by{show(x^^^2^63)%Ieee.double.signWeight=_;rw[show Ieee.double.signWeight=2^63 from by rw[C2],Nat.xor_mod_two_pow,Nat.mod_self,Nat.xor_zero]};omega;exfalso;unfold Ieee.Format.read at h;rw[C2,Zi]at*;have a:Ieee.double.binade=4503599627370496:=by rfl
 rw[a]at h;rw[if_neg O,if_neg O,if_neg O]at h;cases h
theorem Z0(n:Int):NN (f64.nearest n):=Z1 (d:=.number (n<0) n.natAbs 0) rfl
theorem LP(h:d.isNaN=false):(Option.map Ieee.double.write (some d)).isSome=true/\NN ((Option.map Ieee.double.write (some d)).getD 0):=⟨rfl,Z1 (d:=d) h⟩
def JD(y:Nat):Prop:=∃s m j,Ieee.double.read y= .number s m j/\m≠0
theorem ZL{x y:Nat}(e:NN x)(h:JD y):(nN .mul x y).isSome=true/\NN ((nN .mul x y).getD 0):=by
 obtain⟨s,m,j,f,i⟩:=h;show((Ieee.double.mul x y).isSome=true/\NN ((Ieee.double.mul x y).getD 0));unfold Ieee.Format.mul;rw[f];unfold NN at e;cases g:Ieee.double.read x with
 |number a b c=>exact LP (d:=.number (a^^s) (b*m) (c+j)) rfl
 |infinity a=>
  have:(Ieee.Datum.infinity a).product (.number s m j)=some (.infinity (a^^s)):=by{show(if m=0 then none else some (Ieee.Datum.infinity (a^^s)))=_;simp[*]};rw[this];exact LP (d:=.infinity (a^^s)) rfl
 |nan a b=>rw[g]at e;cases e
theorem am7{x y:Nat}(e:NN x)(i:JD y):(nN .quo x y).isSome=true/\NN ((nN .quo x y).getD 0):=by
 obtain⟨s,m,j,f,g⟩:=i;show((Ieee.double.div x y).isSome=true/\NN ((Ieee.double.div x y).getD 0));unfold Ieee.Format.div;rw[f];unfold NN at e;cases h:Ieee.double.read x with
 |number a b c=>
  unfold Ieee.Datum.quotient;dsimp only;rw[if_neg g];exact LP (d:=.number _ _ _) rfl
 |infinity a=>exact LP (d:=.infinity (a^^s)) rfl
 |nan a b=>rw[h]at e;cases e
end
end Go.Proofs.YthhiffpfleacaaaGreatDoor
