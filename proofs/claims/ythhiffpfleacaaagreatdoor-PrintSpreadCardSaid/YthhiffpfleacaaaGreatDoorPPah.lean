/- A part of the proof that pennantlaw07.PrintSpread answers true at every input. -/
import Derived.Test.YthhiffpfleacaaaGreatDoorPPag
set_option linter.all false
namespace Go.Proofs.YthhiffpfleacaaaGreatDoor
set_option maxRecDepth 100000
open Go.Value (int slice string bool pointer agg tuple func float iface nilIface)
open Go.IntKind (i64 u8 u64 i32 u32 u16 i8 i16)
open Go.FloatKind (f64)
open Go.Ending (returned panicked)
open Go.Proofs.Tryz
section
structure Gp where
 x:bY
 s:ap
 y:fT
 k:Int
variable{ns:List aR}
theorem Ev{y:fT}(c:y.ok ns){rb i j:Nat}{d:aR}{u:aD}(e:y.r.a=some ⟨rb,0,none⟩)(a:ns[i]?=some d)(g:∀v,(BC d v)[j]?=some u):aH y.r.A ⟨rb,0+i*5+j,none⟩ u:=by
 have b:=c.1.FY;rw[e]at b;have f:=(ic.1 a).1;have:=b.look (K6 ns y.vs i j d _ u a (da (by rw[<-c.2];exact f)) (g _));grind
abbrev aaH(x:Gp):=D x.x.b [Q x.x.la x.x.L.length x.x.lc,Z x.s.i,Z x.x.ae,Q x.y.r.a x.y.r.n x.y.r.aq,Z x.s.h,Z x.s.loops,Z x.s.d] 41
abbrev DW:aF where
 X:=Gp
 args x:=[W (some ⟨x.x.b,0,none⟩),Z x.k]
 pre x:=[aaH x,x.y.r.A,gx x.s.a x.y.vs]
 cond x:=x.y.ok x.s.a/\0<=x.k/\x.k<x.s.a.length
 val x _:=al (Z (dG x.s x.k))
 post x _:=[aaH x,x.y.r.A,gx x.s.a x.y.vs]
abbrev MQ(x:Gp)(F:ag):=[(0,D x.x.b [Q x.x.la x.x.L.length x.x.lc,Z ↑x.s.i,Z x.x.ae,Q x.y.r.a x.y.r.n x.y.r.aq,Z x.s.h,Z x.s.loops,Z x.s.d] 41),(1,x.y.r.A),(2,fN (Kf.rest x.s.a x.y.vs)),(3,F)]
theorem afa(x:Gp)(F:ag)(g:DW.cond x)(n:DW.aE x F):V x.x.b 3/\fV (aL f26 1 5) [Q x.y.r.a x.y.r.n x.y.r.aq,Z x.k] (λb=>T1 x.y.r.A ⟨b.b,b.o+b.n.toNat*5+4,none⟩ (λa=>l DW x F (al (Z a)) (MQ x F))):=by
 delta fV T1 MQ V Z Q D fN al;obtain⟨⟨b,o,lc,L,ae⟩,s,y,k⟩:=x;obtain⟨c,e,U⟩:=g;dsimp only at c e U⊢;obtain⟨i,rfl⟩:∃i:Nat,k=(i:Int):=⟨k.toNat,(Int.toNat_of_nonneg e).symm⟩;have j:i<s.a.length:=O;obtain⟨d,h⟩:∃d,s.a[i]?=some d:=⟨_,da j⟩;obtain⟨rb,f⟩:=c.1.KO (by rw[c.len];omega);have m:=c.len;refine⟨Y,bZ 5 rfl rfl rfl rfl,⟨rb,0,y.r.n,y.r.aq,i⟩,by rw[f],⟨O,by simp[*]⟩,d.au, ?_,(),ai, ?_,ao [0,1,2,3]⟩;rw[cy];exact Ev c f h λv=>rfl;show returned _=returned (.int .i64 (dG s (i:Int)));unfold dG;grind
theorem X7:aG 26 DW:=cY func26 [(1,3,z 0),(1,5,.qo (dy 5)),(1,7,.q [.ex 1 (.int .i64)])] afa
structure Gr where
 o:Gp
 pD:Bool
abbrev HF:aF where
 X:=Gr
 Y:=ax ⊕ ax
 args x:=[W (some ⟨x.o.x.b,0,none⟩),Z x.o.k,H x.pD]
 pre x:=[D x.o.x.b [Q x.o.x.la x.o.x.L.length x.o.x.lc,Z x.o.s.i,Z x.o.x.ae,Q x.o.y.r.a x.o.y.r.n x.o.y.r.aq,Z x.o.s.h,Z x.o.s.loops,Z x.o.s.d] 41,x.o.y.r.A,gx x.o.s.a x.o.y.vs]
 cond x:=x.o.y.ok x.o.s.a/\0<=x.o.k/\x.o.k<x.o.s.a.length
 bS x y:=match y with
  | .inl _=>lq x.o.s x.o.k x.pD=false
  | .inr _=>lq x.o.s x.o.k x.pD=true
 val x y:=match y with
  | .inl _=>.returned (.tuple #[])
  | .inr _=>.panicked [⟨jj (dG x.o.s x.o.k) 61,false,false⟩]
 post x y:=match y with
  | .inl _=>[.cells x.o.x.b [.slice x.o.x.la x.o.x.L.length x.o.x.lc,.int .i64 x.o.s.i,.int .i64 x.o.x.ae,.slice x.o.y.r.a x.o.y.r.n x.o.y.r.aq,.int .i64 x.o.s.h,.int .i64 x.o.s.loops,.int .i64 x.o.s.d] 41,x.o.y.r.A,gx x.o.s.a x.o.y.vs]
  | .inr _=>[]
 sum:=some (iL ax ax)
def XA:=dK 26 DW (λa=>a.y.ok a.s.a/\0<=a.k/\a.k<a.s.a.length)
abbrev TC(x:Gr):aN:=[Q x.o.x.la x.o.x.L.length x.o.x.lc,Z ↑x.o.s.i,Z x.o.x.ae,Q x.o.y.r.a x.o.y.r.n x.o.y.r.aq,Z x.o.s.h,Z x.o.s.loops,Z x.o.s.d]
def VF(x:Gr)(F:ag):=XA [W (some ⟨x.o.x.b,0,none⟩),Z x.o.k] [D x.o.x.b (TC x) 41,x.o.y.r.A,fN (Kf.rest x.o.s.a x.o.y.vs)] (λd c=>J8 [W (some ⟨x.o.x.b,0,none⟩),Z (dG d.s d.k),Z 61] (λb a=>l HF x F (EY b) (MQ d F)))
def OG(x:Gr)(F:ag):=l HF x F eK [(0,D x.o.x.b (TC x) 41),(1,x.o.y.r.A),(2,fN (Kf.rest x.o.s.a x.o.y.vs)),(3,F)]
theorem alI(x:Gr)(F:ag)(q:HF.cond x)(z:HF.aE x F):V x.o.x.b 3/\fV (aL f25 0 5) [Q x.o.y.r.a x.o.y.r.n x.o.y.r.aq,Z x.o.k] (λf=>T1 x.o.y.r.A ⟨f.b,f.o+f.n.toNat*5,none⟩ (λe=>Br (e !=8) (Br (e !=9) (Br (e !=3) (VF x F) (Br (!x.pD) (VF x F) (OG x F))) (OG x F)) (OG x F))):=by
 delta fV T1 XA TC J8 EY MQ VF eK OG V fv dK Z W Q ce D fN al;obtain⟨⟨⟨b,u,lc,L,ae⟩,s,y,k⟩,a⟩:=x;obtain⟨c,g,U⟩:=q;dsimp only at c g U⊢;obtain⟨i,rfl⟩:∃i:Nat,k=(i:Int):=⟨k.toNat,(Int.toNat_of_nonneg g).symm⟩;have t:i<s.a.length:=O;obtain⟨d,r⟩:∃d,s.a[i]?=some d:=⟨_,da t⟩;obtain⟨rb,h⟩:=c.1.KO (by rw[c.len];omega);have l:=c.len;have w:uc s (i:Int)=d.ak:=by unfold uc;grind
 refine⟨Y,bZ 5 rfl rfl rfl rfl,⟨rb,0,y.r.n,y.r.aq,i⟩,by rw[h],⟨O,by simp[*]⟩,d.ak, ?_, ?_⟩;rw[cy];exact Ev (j:=0) c h r λv=>rfl;refine lH (A:=lq s (i:Int) a=true) (λk=>ar (λn=>ar (λo=>ar (λm=>k ?_) (λm=>ar (λl=>k ?_) (λl=>⟨.inl (), ?_,rfl,ao [0,1,2,3]⟩))) (λo=>⟨.inl (), ?_,rfl,ao [0,1,2,3]⟩)) (λn=>⟨.inl (), ?_,rfl,ao [0,1,2,3]⟩)) (λp=>bG X7 ⟨⟨b,u,lc,L,ae⟩,s,y,(i:Int)⟩ ⟨c,g,U⟩ λ_ _=>kH YT ⟨b,dG s (i:Int),61⟩ λ_ _=>⟨.inr (),p,rfl,ao [3]⟩);unfold lq;simp[*];unfold lq;simp[*];show lq s (i:Int) a=false;unfold lq;simp[*];show lq s (i:Int) a=false;unfold lq;simp[*];show lq s (i:Int) a=false;unfold lq;simp[*]
theorem alH:aG 25 HF:=cY func25 [(0,3,z 0),(0,5,.qo (dy 5)),(0,7,.q [.ex 1 (.int .i64)]),(2,3,.c DW [0,1,2] [0,1,2]),(2,4,aI BD)] alI
structure PE where
 x:bY
 s:ap
 y:fT
 n:aR
 kr:Row
abbrev LQ:aF where
 X:=PE
 Y:=Row
 args x:=[.pointer (some ⟨x.x.b,0,none⟩),.agg #[.int .i64 x.n.ak,.string x.n.op,.float .f64 x.n.aT,.slice x.kr.a x.kr.n x.kr.aq,.int .i64 x.n.au]]
 pre x:=[D x.x.b [Q x.x.la x.x.L.length x.x.lc,Z x.s.i,Z x.x.ae,Q x.y.r.a x.y.r.n x.y.r.aq,Z x.s.h,Z x.s.loops,Z x.s.d] 41,x.y.r.A,gx x.s.a x.y.vs,x.kr.A]
 cond x:=x.y.ok x.s.a/\x.s.a.length<=4194304/\bl 3 1 (a7 x.n.b) x.kr
 bS x r:=bl 35 5 (p6 (x.s.a++[x.n]) (x.y.vs++[x.kr.v])) r
 val x _:=al (Z x.s.a.length)
 post x r:=[D x.x.b [Q x.x.la x.x.L.length x.x.lc,Z x.s.i,Z x.x.ae,Q r.a r.n r.aq,Z x.s.h,Z x.s.loops,Z x.s.d] 41,r.A,gx (x.s.a++[x.n]) (x.y.vs++[x.kr.v])]
theorem agP{A B F:ag}{vs:aN}{n:aR}{a:Row}(U:bl 3 1 (a7 n.b) a):ay (bu [A,B,gx ns vs,a.A,F]) (bu [A,B,gx (ns++[n]) (vs++[a.v]),F]):=⟨λI w h=>by
 obtain⟨J,c,b,e⟩:=h.ahM 3 U rfl;have d:=e.FT (B:=gx (ns++[n]) (vs++[a.v])) 2 λh o(q:AX J ns vs)=>(W4 (R:=λ(x:aR)v=>Dn J 1 v (a7 x.b)) b q:AX J (ns++[n]) (vs++[a.v]));exact⟨J,c,d.pick [0,1,2,4] rfl rfl⟩⟩
abbrev HV(x:PE):aN:=[Z x.n.ak,C x.n.op,float f64 x.n.aT,Q x.kr.a x.kr.n x.kr.aq,Z x.n.au]
theorem akp(x:PE)(F:ag)(p:LQ.cond x)(A:LQ.aE x F):∀(d:Nat),true=true/\V x.x.b 3/\bQ d (∀(c:Nat),jc (aL f18 1 7) (cS (35:TypeId) 5 64) (λb=>bl 35 5 b.cs b.r/\b.ys.length=b.m*5/\Fp b/\(b.r.n+b.m)*64<=140737488355328/\b.r.n+b.m<=9223372036854775807/\jx b) E9 (λb a=>bl 35 5 (b.cs++b.ys) a/\a.n=b.r.n+b.m/\(b.m=0->a=b.r)) [Q x.y.r.a x.y.r.n x.y.r.aq,Q (bq c) 1 1] [x.y.r.A] (g [(0,D x.x.b [Q x.x.la x.x.L.length x.x.lc,Z ↑x.s.i,Z x.x.ae,Q x.y.r.a x.y.r.n x.y.r.aq,Z x.s.h,Z x.s.loops,Z x.s.d] 41),(1,x.y.r.A),(2,fN (Kf.rest x.s.a x.y.vs)),(3,x.kr.A),(4,F),(1000,D d (HV x) 35),(2060,D c (HV x) 35)] [1]) (λb a=>V x.x.b 3/\V x.x.b 3/\aA ((a.n:Int)-1)/\l LQ x F (al (Z ((a.n:Int)-1))) [(0,D x.x.b [Q x.x.la x.x.L.length x.x.lc,Z ↑x.s.i,Z x.x.ae,Q a.a a.n a.aq,Z x.s.h,Z x.s.loops,Z x.s.d] 41),(1,a.A),(2,fN (Kf.rest x.s.a x.y.vs)),(3,x.kr.A),(4,F),(1000,D d (HV x) 35),(2060,D c (HV x) 35)])):=by
 delta Fp jx E9 bq HV g V aA bQ jc Z C Q D fN al;obtain⟨⟨b,B,lc,L,ae⟩,s,y,n,v⟩:=x;obtain⟨i,t,U⟩:=p;dsimp only at i t U⊢;have z:=i.len;intro c;refine⟨rfl,Y,Y,Y,Y,Y,Y,λw=>ba (iN 5 64 rfl rfl rfl rfl rfl rfl rfl (by decide)) ⟨y.r,p6 s.a y.vs,some ⟨w,0,none⟩,1,1,BC n v.v⟩ ⟨i.1,rfl, ?_,by grind,by grind,λh=>nomatch h⟩ (?_) λr f=>?_⟩;intro u k;simp only[BC,List.mem_cons,List.not_mem_nil,or_false]at k;rcases k with rfl|rfl|rfl|rfl|rfl <;> rfl;intro a o;cases o;exact cR.rest (j:=2060) X (cR.cells (λj u q=>by rw[gZ];exact q));obtain⟨f,m,_⟩:=f;dsimp only at f m;rw[<-YM _ _ _ _ i.2]at f;have e:(r.n:Int)-1=(s.a.length:Int):=O;refine⟨Y,Y,aC,r,f,by rw[e] <;> rfl,ay.trans (ao [0,1,2,3,4]) (agP U)⟩
theorem ako:aG 18 LQ:=cY func18 [(0,0,.n 1000),(1,4,z 0),(1,5,.q (eT 1000)),(1,6,.n 2060),(1,7,.o (cS 35 5 64) [1] [1]),(1,10,.w [.aS 0]),(2,3,z 0)] akp
structure W7 where
 x:bY
 s:ap
 k:Int
abbrev vd:aF where
 X:=W7
 args x:=[W (some ⟨x.x.b,0,none⟩),Z x.k]
 pre x:=[G x.x x.s]
 cond x:=0<=x.k/\x.k<x.s.a.length
 val x _:=al (Z (dG x.s x.k))
 post x _:=[G x.x x.s]
theorem yR:aG 26 vd:=X7.D1 λq F I w c _ d=>by
 obtain⟨y,b,a⟩:=L_ (F:=F) d;exact⟨⟨q.x,q.s,y,q.k⟩,I,aX.le_refl I,⟨b,c⟩,ai,rfl,a,λ_ _=>⟨(),ai,rfl,Ma b⟩⟩
structure Dv where
 x:bY
 s:ap
 k:Int
 pD:Bool
abbrev B6:aF where
 X:=Dv
 Y:=ax ⊕ ax
 args x:=[W (some ⟨x.x.b,0,none⟩),Z x.k,H x.pD]
 pre x:=[G x.x x.s]
 cond x:=0<=x.k/\x.k<x.s.a.length
 bS x y:=match y with
  | .inl _=>lq x.s x.k x.pD=false
  | .inr _=>lq x.s x.k x.pD=true
 val x y:=match y with
  | .inl _=>.returned (.tuple #[])
  | .inr _=>.panicked [⟨jj (dG x.s x.k) 61,false,false⟩]
 post x y:=match y with
  | .inl _=>[G x.x x.s]
  | .inr _=>[]
 sum:=some (iL ax ax)
theorem L7:aG 25 B6:=alH.D1 λq F I w d _ e=>by
 obtain⟨y,c,b⟩:=L_ (F:=F) e;refine⟨⟨⟨q.x,q.s,y,q.k⟩,q.pD⟩,I,aX.le_refl I,⟨c,d⟩,ai,rfl,b,λz a=>?_⟩
 match z,a with
 | .inl _,a=>exact⟨.inl (),a,rfl,Ma c⟩
 | .inr _,a=>exact⟨.inr (),a,rfl,ay.refl _⟩
structure tI where
 x:bY
 s:ap
 n:aR
 kr:Row
abbrev fO:aF where
 X:=tI
 args x:=[.pointer (some ⟨x.x.b,0,none⟩),.agg #[.int .i64 x.n.ak,.string x.n.op,.float .f64 x.n.aT,.slice x.kr.a x.kr.n x.kr.aq,.int .i64 x.n.au]]
 pre x:=[G x.x x.s,x.kr.A]
 cond x:=x.s.a.length<=4194304/\bl 3 1 (a7 x.n.b) x.kr
 val x _:=al (Z x.s.a.length)
 post x _:=[G x.x (x.s.add x.n)]
theorem fy:aG 18 fO:=ako.D1 λq F I w c _ f=>by
 obtain⟨y,d,a⟩:=amq (F:=F) f;refine⟨⟨q.x,q.s,y,q.n,q.kr⟩,I,aX.le_refl I,⟨d,c.1,c.2⟩,ai,rfl,a,λr e=>⟨(),ai,rfl, ?_⟩⟩;have b:fT.ok ⟨r,y.vs++[q.kr.v]⟩ (q.s.a++[q.n]):=⟨e,by simp[d.2]⟩;exact Ma (x:=q.x) (s:={q.s with a:=q.s.a++[q.n]}) b
end
def ah6(L:List a8)(ae:Int)(s:ap):I L ae s=b_ L ae s.i:=rfl
structure jo where
 x:bY
 s:ap
 t:ah
abbrev jR(x:jo):bv:=some ⟨x.x.b,0,none⟩
abbrev iQ:aF where
 X:=jo
 Y:=ax ⊕ ax
 args x:=[W (jR x),C x.t]
 pre x:=[G x.x x.s]
 cond x:=x.x.L.length<=1048576/\x.s.i<=x.x.L.length
 aE x F:=gX x.x F
 bS x y:=match y with
  | .inl _=>K x.x.L x.s 0 x.t=true
  | .inr _=>K x.x.L x.s 0 x.t=false
 val x y:=match y with
  | .inl _=>.returned (.bool true)
  | .inr _=>.returned (.bool false)
 post x y:=match y with
  | .inl _=>[G x.x x.s.az]
  | .inr _=>[G x.x x.s]
 eL _ _ _ a h:=gX.sub a h
 sum:=some (iL ax ax)
def rC(a:Dr):=a.p.L.length<=1048576/\a.p.i<=1048576/\a.a<=1048576
def gP:=bz 44 gU (λa=>rC a) (λa b=>j4 a.p b)
abbrev lA(x:jo)(F:ag):=[(0,G x.x x.s),(1,F)]
abbrev mK(w0:yL)(w1:aD):aN:=[Q w0.x.la w0.x.L.length w0.x.lc,Z ↑w0.s.i,Z w0.x.ae,w1,Z w0.s.h,Z w0.s.loops,Z w0.s.d]
abbrev mL(w0:yL)(w1:aD):aN:=[Q w0.x.la w0.x.L.length w0.x.lc,Z ↑w0.t.i,Z w0.x.ae,w1,Z w0.t.h,Z w0.t.loops,Z w0.t.d]
def dM(c:Oper):=lh c fQ (λa=>(∀(b:aD),(mK a b).set a.k a.v=(mL a b))/\a.t.a=a.s.a/\a.k<7/\a.v.oneCell'=true/\a.v.cells=⟨[a.v]⟩)
def ahZ(x:jo)(F:ag)(i:iQ.cond x)(k:iQ.aE x F):gP [W (jR x),Z 0,C x.t] (g (lA x F) []) (λe d=>Br (iS e.p.L (e.p.i+e.a) e.t) (T1 (G x.x x.s) ⟨x.x.b,1,none⟩ (λc=>aA (c+1)/\dM (aL f52 2 7) [W (some ⟨x.x.b,1,none⟩),Z (c+1)] [G x.x x.s] (λb a=>l iQ x F gc [(0,G b.x b.t),(1,F)]))) (l iQ x F cm (lA x F))):=by
 delta rC gP jR lA T1 mK mL dM gc cM cm g G aA bz lh Z C H W Q al;obtain⟨x,s,t⟩:=x;obtain⟨f,j⟩:=i;dsimp only at f j⊢;refine ba kO ⟨x.p s,0,t⟩ ⟨f,by show s.i<=1048576;omega,bX⟩ (k.dc 0 1 X X rfl rfl) λ_ _=>ar (λh=>⟨_,ee λ_=>rfl,aC,gM rfl rfl rfl,rfl,⟨x,s,s.az,1,_⟩,rfl,rfl,⟨λ_=>rfl,rfl,bX,rfl,rfl⟩,ai,λ_ _=>⟨.inl (),h,rfl,ao [0,1]⟩⟩) (λh=>⟨.inr (),h,rfl,ao [0,1]⟩)
def kM:aG 52 iQ:=cY func52 [(1,2,aI gU),(2,3,cD),(2,7,dU fQ)] ahZ
abbrev iU:aF where
 X:=jo
 Y:=ax ⊕ ax
 args x:=[W (jR x),C x.t]
 pre x:=[G x.x x.s]
 cond x:=x.x.L.length<=1048576/\x.s.i<=x.x.L.length
 aE x F:=gX x.x F
 bS x y:=match y with
  | .inl _=>K x.x.L x.s 0 x.t=true
  | .inr _=>K x.x.L x.s 0 x.t=false
 val x y:=match y with
  | .inl _=>.returned (.tuple #[])
  | .inr _=>.panicked [⟨jj (I x.x.L x.x.ae x.s).au 60,false,false⟩]
 post x y:=match y with
  | .inl _=>[G x.x x.s.az]
  | .inr _=>[]
 eL _ _ _ a h:=gX.sub a h
 sum:=some (iL ax ax)
def fW(a:aN)(pp:List ag)(d:ag)(b:jo->ax->Prop)(c:jo->ax->Prop):=aG 52 iQ/\true=true/\∃(z:jo),a=[W (jR z),C z.t]/\pp=[G z.x z.s]/\(z.x.L.length<=1048576/\z.s.i<=z.x.L.length)/\gX z.x d/\(∀(e:ax),K z.x.L z.s 0 z.t=true->b z e)/\∀(f:ax),K z.x.L z.s 0 z.t=false->c z f
abbrev n0(d:jo)(F:ag):=[(0,G d.x d.s.az),(1,F)]
def lN:=bz 11 mo (λa=>a.L.length<=1048576) j4
abbrev kv(b:dm):=panicked [{v:=ce 54 (agg ⟨[Z (b_ b.L b.ae b.i).au,Z 60]⟩),recovered:=false}]
def ajW(x:jo)(F:ag)(j:iU.cond x)(i:iU.aE x F):fW [W (jR x),C x.t] [G x.x x.s] (g (lA x F) [0]) (λd a=>l iU x F eK (n0 d F)) (λd c=>lN [W (jR x)] (g (lA d F) []) (λb a=>l iU x F (kv b) (lA d F))):=by
 delta jR fW lA eK n0 lN kv g G bz Z C W ce al;obtain⟨x,s,t⟩:=x;obtain⟨e,f⟩:=j;dsimp only at e f⊢;refine ba kM ⟨x,s,t⟩ ⟨e,f⟩ (i.sub (bB 1)) ⟨λ_ h=>⟨.inl (),h,rfl,ao [0,1]⟩,λ_ h=>ba qS (x.p s) e (i.dc 0 1 X X rfl rfl) λ_ _=>⟨.inr (),h,rfl,ao [1]⟩⟩
def ajV:aG 53 iU:=cY func53 [(0,2,q iQ),(1,1,aI mo)] ajW
structure lI where
 x:bY
 s:ap
abbrev oY(x:lI):bv:=some ⟨x.x.b,0,none⟩
abbrev yX:aF where
 X:=lI
 args x:=[W (oY x)]
 pre x:=[G x.x x.s]
 cond x:=x.x.L.length<=1048576/\x.s.a.length<=4194304
 aE x F:=gX x.x F
 val x _:=al (Z x.s.a.length)
 post x _:=[G x.x (x.s.add ⟨36,.empty,0,[],(I x.x.L x.x.ae x.s).au⟩)]
 eL _ _ _ a h:=gX.sub a h
abbrev o4(x:lI):aN:=[W (oY x)]
def lB(a:tI):=a.s.a.length<=4194304/\bl 3 1 (a7 a.n.b) a.kr
def c7:=dK 18 fO (λa=>lB a)
abbrev kV(b:tI):=Z ↑b.s.a.length
abbrev fG(b:tI):=al (kV b)
def agL(x:lI)(F:ag)(h:yX.cond x)(i:yX.aE x F):fq (o4 x) (g [(0,G x.x x.s),(1,F)] []) (λd c=>c7 [W (oY x),agg ⟨[Z 36,C ⟨#[]⟩,float f64 0,Q none 0 0,Z (b_ d.L d.ae d.i).au]⟩] [G x.x x.s,aY] (λb a=>l yX x F (fG b) [(0,G b.x (b.s.add b.n)),(1,F),(999,aY)])):=by
 delta fq oY o4 lB c7 kV fG g G bz dK Z C W Q aY al;obtain⟨x,s⟩:=x;obtain⟨e,f⟩:=h;dsimp only at e f⊢;refine ba lR (x.p s) e (i.dc 0 1 X X rfl rfl) λ_ _=>bG fy ⟨x,s,⟨36,.empty,0,[],(I x.L x.ae s).au⟩,dq⟩ ⟨f,.nil rfl⟩ λ_ _=>⟨(),ai,rfl,ao [0,1]⟩
def K5:aG 46 yX:=cY func46 [(1,2,aI jf),(1,5,.c fO [0,999] [0])] agL
abbrev wv:aF where
 X:=lI
 Y:=ax ⊕ ax
 args x:=[W (oY x)]
 pre x:=[G x.x x.s]
 cond x:=x.x.L.length<=1048576
 aE x F:=gX x.x F
 bS x y:=match y with
  | .inl _=>(I x.x.L x.x.ae x.s).ak=1
  | .inr _=>(I x.x.L x.x.ae x.s).ak≠1
 val x y:=match y with
  | .inl _=>.returned (.string (I x.x.L x.x.ae x.s).aJ)
  | .inr _=>.panicked [⟨jj (I x.x.L x.x.ae x.s).au 60,false,false⟩]
 post x y:=match y with
  | .inl _=>[G x.x x.s.az]
  | .inr _=>[]
 eL _ _ _ a h:=gX.sub a h
 sum:=some (iL ax ax)
def w9{L:List a8}{ae:Int}{s:ap}(h:(I L ae s).ak≠0):s.i<L.length:=ri (ae:=ae) h
abbrev q0(f:dm):aN:=[Z (b_ f.L f.ae f.i).ak,C (b_ f.L f.ae f.i).aJ,float f64 (b_ f.L f.ae f.i).aT,Z (b_ f.L f.ae f.i).au,H (b_ f.L f.ae f.i).aB]
abbrev xK(f:dm):=C (b_ f.L f.ae f.i).aJ
def apJ(x:lI)(F:ag)(m:wv.cond x)(k:wv.aE x F):fq (o4 x) (g [(0,G x.x x.s),(1,F)] []) (λf e=>∀(d:Nat),bQ d (V d 0/\Br ((b_ f.L f.ae f.i).ak !=1) (lN (o4 x) (g [(0,G x.x x.s),(1,F),(2020,D d (q0 f) 56)] []) (λb a=>l wv x F (kv b) [(0,G x.x x.s),(1,F),(2020,D d (q0 f) 56)])) (T1 (G x.x x.s) ⟨x.x.b,1,none⟩ (λc=>aA (c+1)/\dM (aL f112 4 7) [W (some ⟨x.x.b,1,none⟩),Z (c+1)] [G x.x x.s] (λb a=>V d 1/\l wv x F (al (xK f)) [(0,G b.x b.t),(1,F),(2020,D d (q0 f) 56)]))))):=by
 delta fq oY o4 lN q0 kv T1 mK mL dM xK g G V aA bQ bz lh Z C H W Q ce D al;obtain⟨x,s⟩:=x;have j:x.L.length<=1048576:=m;dsimp only;refine ba lR (x.p s) j (k.dc 0 1 X X rfl rfl) λ_ _ c=>⟨Y,Y,Y,Y,Y,Y,ar (λh=>ba qS (x.p s) j (k.dc 0 1 X X rfl rfl) λ_ _=>⟨.inr (), ?_,rfl,ao [1]⟩) (λh=>?_)⟩;intro e;have e:(b_ x.L x.ae s.i).ak=1:=e;have h:((b_ x.L x.ae s.i).ak !=1)=true:=h;rw[e]at h;cases h;have h:((I x.L x.ae s).ak !=1)=false:=h;have i:(I x.L x.ae s).ak=1:=by simpa using h
 have n:=w9 (L:=x.L) (ae:=x.ae) (s:=s) (by rw[i];decide);exact⟨_,ee λ_=>rfl,aC,gM rfl rfl rfl,rfl,⟨x,s,s.az,1,_⟩,rfl,rfl,⟨λ_=>rfl,rfl,bX,rfl,rfl⟩,ai,λ_ _=>⟨Y,.inl (),i,rfl,ao [0,1]⟩⟩
def Pk:aG 112 wv:=cY func112 [(1,1,aI jf),(1,2,.n 2020),(1,3,.w (eT 2020)),(2,1,z 2020),(3,1,aI mo),(4,3,cD),(4,7,dU fQ),(5,1,z 2020)] apJ
abbrev tc:aF where
 X:=lI
 Y:=ap ⊕ Int
 args x:=[W (oY x)]
 pre x:=[G x.x x.s]
 cond x:=x.x.L.length<=1048576/\x.s.i<=x.x.L.length
 aE x F:=gX x.x F
 bS x y:=match y with
  | .inl u=>eh x.x.L x.x.ae x.s= .ok () u
  | .inr p=>eh x.x.L x.x.ae x.s= .stop p 60 x.s
 val x y:=match y with
  | .inl _=>.returned (.tuple #[])
  | .inr p=>.panicked [⟨jj p 60,false,false⟩]
 post x y:=match y with
  | .inl u=>[G x.x u]
  | .inr _=>[]
 eL _ _ _ a h:=gX.sub a h
 sum:=some (iL ap Int)
def an0(x:lI)(F:ag)(v:tc.cond x)(t:tc.aE x F):true=true/\fW [W (oY x),C ⟨#[59]⟩] [G x.x x.s] (g [(0,G x.x x.s),(1,F)] [0]) (λm a=>l tc x F eK (n0 m F)) (λm k=>gP [W (oY x),Z 0,C ⟨#[125]⟩] (g (lA m F) []) (λj i=>Br (iS j.p.L (j.p.i+j.a) j.t) (l tc x F eK (lA m F)) (T1 (G m.x m.s) ⟨x.x.b,1,none⟩ (λh=>dN (G m.x m.s) ⟨x.x.b,0,none⟩ (λn f e=>aK (h>=f) (l tc x F eK (lA m F)) (fq (o4 x) (g (lA m F) []) (λd c=>Br (b_ d.L d.ae d.i).aB (l tc x F eK (lA m F)) (aG 11 mo/\true=true/\∃(b:dm),(o4 x)=[W (xW b)]/\([]:List ag)=[]/\b.L.length<=1048576/\j4 b (g (lA m F) [])/\∀(a:ax),True->l tc x F (kv b) (lA m F))))))))):=by
 delta jR fW oY eK n0 rC gP lA T1 dN fq o4 xW kv g G bz Z C W Q ce aK al;obtain⟨x,s⟩:=x;obtain⟨r,u⟩:=v;dsimp only at r u⊢;refine⟨rfl,kM,rfl,⟨x,s,dt⟩,rfl,rfl,⟨r,u⟩,t.sub (bB 1),λ_ h=>⟨.inl s.az, ?_,rfl,ao [0,1]⟩,λ_ h=>ba kO ⟨x.p s,0,rc⟩ ⟨r,by show s.i<=1048576;omega,bX⟩ (t.dc 0 1 X X rfl rfl) λ_ _=>ar (λo=>⟨.inl s, ?_,rfl,ao [0,1]⟩) (λo=>⟨_,ee λ_=>rfl,_,_,_,ee λ_=>rfl,bd (λq=>⟨.inl s, ?_,rfl,ao [0,1]⟩) (λq=>ba lR (x.p s) r (t.dc 0 1 X X rfl rfl) λ_ _=>ar (λp=>⟨.inl s, ?_,rfl,ao [0,1]⟩) (λp=>ba qS (x.p s) r (t.dc 0 1 X X rfl rfl) λ_ _=>⟨.inr (I x.L x.ae s).au, ?_,rfl,ao [1]⟩))⟩)⟩;have h:K x.L s 0 dt=true:=h;show eh x.L x.ae s=_;unfold eh;rw[h] <;> rfl;have h:K x.L s 0 dt=false:=h;have o:K x.L s 0 rc=true:=o;show eh x.L x.ae s=_;unfold eh;rw[h,o] <;> rfl;have h:K x.L s 0 dt=false:=h;have q:(s.i:Int)>=x.L.length:=q;show eh x.L x.ae s=_;unfold eh;rw[h,bp (show s.i>=x.L.length by omega),Bool.true_or,oG] <;> rfl;have h:K x.L s 0 dt=false:=h;have p:(I x.L x.ae s).aB=true:=p;show eh x.L x.ae s=_;unfold eh;rw[h,p,oG,oG] <;> rfl;have h:K x.L s 0 dt=false:=h;have o:K x.L s 0 rc=false:=o;have q:¬(s.i:Int)>=x.L.length:=q;have p:(I x.L x.ae s).aB=false:=p;show eh x.L x.ae s=_;unfold eh;rw[h,o,p,bF (show ¬s.i>=x.L.length by omega)] <;> rfl
def Wx:aG 48 tc:=cY func48 [(0,1,q iQ),(0,4,aI gU),(0,10,cD),(0,14,.q [.ex 0 .slice]),(0,20,aI jf),(1,1,aI mo)] an0
section
structure TxX where
 n:Nat
abbrev zq(K:bD):aF where
 X:=TxX
 args x:=[float f64 x.n]
 aE _ F:=K.rd F
 val x _:=al (C (K.tv x.n))
 eL _ _ _ a h:=K.mono h a
structure hU(F:ag):Prop where
 X6:∀i m,qQ[i]?=some m->aH F ⟨0,i,none⟩ (.string m)
 Zv:∀n row,pB[n]?=some row->∃b o c,aH F ⟨2,n,none⟩ (.slice (some ⟨b,o,none⟩) row.length c)/\cR F ⟨b,o,none⟩ (row.map string)
variable{A B:ag}{ae:Int}{L:List a8}{tv:Nat->ah}
theorem hU.sub(h:hU A)(hs:Sub A B):hU B:=⟨λi m e=>(h.X6 i m e).sub hs,λn a e=>let ⟨b,o,c,d,f⟩:=h.Zv n a e;⟨b,o,c,d.sub hs,f.sub hs⟩⟩
structure dj(K:bD)(x:bY)(F:ag):Prop where
 ls:gX x F
 gl:eu K F
 gp:hU F
theorem dj.sub{K:bD}{x:bY}(hs:Sub A B)(h:dj K x A):dj K x B:=⟨h.ls.sub hs,h.gl.sub hs,h.gp.sub hs⟩
structure PaK(K:bD)(x:bY):Prop where
 aT:aG 32 (zq K)
 Pc:∀n,(K.tv n).size<=1048576
 len:x.L.length<=1048576
 Jp:∀(i:Nat)(d:a8),x.L[i]?=some d->d.aJ.size<=1048576
theorem PaK.cE{K:bD}{x:bY}(h:PaK K x)(s:ap):(I x.L x.ae s).aJ.size<=1048576:=by
 unfold I;cases e:x.L[s.i]? with
 |none=>exact b7 _
 |some d=>exact h.Jp _ _ e
structure ox where
 K:bD
 x:bY
 s:ap
abbrev vW(x:ox):bv:=some ⟨x.x.b,0,none⟩
abbrev BL:aF where
 X:=ox
 Y:=ap ⊕ Int
 args x:=[W (vW x)]
 pre x:=[G x.x x.s]
 cond x:=PaK x.K x.x/\x.s.a.length<=4194304
 aE x F:=dj x.K x.x F
 bS x y:=match y with
  | .inl u=>ec x.x.L x.x.ae x.K.tv bo x.s= .ok x.s.a.length u
  | .inr p=>ec x.x.L x.x.ae x.K.tv bo x.s= .stop p 60 x.s
 val x y:=match y with
  | .inl _=>.returned (.int .i64 x.s.a.length)
  | .inr p=>.panicked [⟨jj p 60,false,false⟩]
 post x y:=match y with
  | .inl u=>[G x.x u]
  | .inr _=>[]
 eL _ _ _ a h:=dj.sub a h
 sum:=some (iL ap Int)
theorem Zp{s:ap}(h:((I L ae s).ak==1||(I L ae s).ak==2)=true):ec L ae tv bo s= .ok s.a.length {s with i:=s.i+1,a:=s.a++[⟨2,bo (I L ae s).aJ,0,[],(I L ae s).au⟩]}:=by
 unfold ec;dsimp only;rw[h] <;> rfl
theorem aiS{s:ap}(h:((I L ae s).ak==1||(I L ae s).ak==2)=false)(a:((I L ae s).ak==3)=true):ec L ae tv bo s= .ok s.a.length {s with i:=s.i+1,a:=s.a++[⟨2,bo (tv (I L ae s).aT),0,[],(I L ae s).au⟩]}:=by
 unfold ec;dsimp only;rw[h,a] <;> rfl
theorem aiU{s:ap}(h:((I L ae s).ak==1||(I L ae s).ak==2)=false)(a:((I L ae s).ak==3)=false)(b:((I L ae s).ak==4)=true):ec L ae tv bo s= .ok s.a.length {s with i:=s.i+1,a:=s.a++[⟨2,(I L ae s).aJ,0,[],(I L ae s).au⟩]}:=by
 unfold ec;dsimp only;rw[h,a,b] <;> rfl
theorem aiR{s:ap}(h:((I L ae s).ak==1||(I L ae s).ak==2)=false)(a:((I L ae s).ak==3)=false)(b:((I L ae s).ak==4)=false):ec L ae tv bo s= .stop (I L ae s).au 60 s:=by
 unfold ec;simp[*]
theorem zf{s:ap}{k:Int}(h:((I L ae s).ak==k)=true)(U:k≠0):s.i<L.length:=ri (ae:=ae) (λe=>by rw[e]at h;exact U (by simp at h;exact h.symm))
structure Gk where
 op:ah
 c:Nat
abbrev H3(d:Gk)(x:ox):aN:=[Z 2,C d.op,float f64 0,Q none 0 0,Z (I x.x.L x.x.ae x.s).au]
def aiP(x:ox)(F:ag):Nat->Option Inv:=fun
 |11=>some {X:=Gk,P:=λd=>x.s.i<x.x.L.length/\ec x.x.L x.x.ae x.K.tv bo x.s= .ok x.s.a.length {x.s with i:=x.s.i+1,a:=x.s.a++[⟨2,d.op,0,[],(I x.x.L x.x.ae x.s).au⟩]},mu:=λ_=>0,lv:=λd=>[(0,W (vW x)),(4,W (some ⟨d.c,0,none⟩))],st:=λd=>[G x.x x.s,F,D d.c (H3 d x) 35]}
 |_=>none
def aiQ(x:ox)(a:ag):List (Nat×Nat×OH):=[(1,1,aI jf),(1,2,.n 2020),(1,3,.w (eT 2020)),(2,1,z 2020),(2,3,z 2020),(2,5,.n 3050),(2,6,.w (eT 3050)),(3,1,z 2020),(7,1,z 2020),(7,2,aI wC),(7,4,.w [.aS 3050]),(9,1,z 2020),(9,2,aI (zq x.K)),(9,3,aI wC),(9,5,.w [.aS 3050]),(4,1,aI mo),(11,3,cD),(11,7,dU fQ),(12,1,.q (eT 2)),(12,2,.c fO [0,999] [0])]
abbrev IS(k:dm):=(b_ k.L k.ae k.i).ak==1
def J_:=bz 216 wC xY (λ_=>gv)
abbrev NM(k:dm):aN:=[Z 2,C (b_ k.L k.ae k.i).aJ,float f64 0,Q none 0 0,Z (b_ k.L k.ae k.i).au]
abbrev zB(x:ox)(F:ag)(i:Nat)(k:dm)(h:Nat):=[(0,G x.x x.s),(1,F),(2020,D i (q0 k) 56),(3050,D h (NM k) 35)]
def Tq(b:ox)(z:Gk):=b.s.i<b.x.L.length/\ec b.x.L b.x.ae b.K.tv bo b.s=PR.ok (b.s.a.length:Int) (have a:=b.s;⟨b.s.i+1,b.s.a++[⟨(2:Int),z.op,0,[],(I b.x.L b.x.ae b.s).au⟩],a.h,a.loops,a.d⟩)
def QA(a:ox)(e1:ag)(c:aD)(b:St):=∃(z:Gk),Tq a z/\(W (vW a)=W (vW a)/\c=W (some ⟨z.c,0,none⟩)/\True)/\ay b [(0,G a.x a.s),(1,e1),(2,D z.c (H3 z a) 35)]
abbrev Mm(h:Nat)(x:ox)(F:ag)(i:Nat)(k:dm):e9->ax->Prop:=λc b=>V h 1/\QA x F (bL h) [(0,G x.x x.s),(1,F),(2020,D i (q0 k) 56),(3050,D h [Z 2,C (bo c.s),float f64 0,Q none 0 0,Z (b_ k.L k.ae k.i).au] 35)]
def XB(a:ox):=bz 32 (zq a.K) (λ_=>True) (λ_=>a.K.3)
def V_(k:dm)(i:Nat)(x:ox)(F:ag)(h:Nat):=Br ((b_ k.L k.ae k.i).ak==3) (V i 2/\XB x [float f64 (b_ k.L k.ae k.i).aT] (g (zB x F i k h) []) (λe d=>J_ [C (x.K.tv e.n)] (g (zB x F i k h) []) (Mm h x F i k))) (Br ((b_ k.L k.ae k.i).ak==4) (QA x F (bL h) (zB x F i k h)) (lN [W (vW x)] (g (zB x F i k h) []) (λb a=>l BL x F (kv b) (zB x F i k h))))
theorem aiV(x:ox)(F:ag)(y:BL.cond x)(p:BL.aE x F):fq [W (vW x)] (g [(0,G x.x x.s),(1,F)] []) (λk j=>∀(i:Nat),bQ i (V i 1/\V i 3/\∀(h:Nat),bQ h ((V i 0/\Br (IS k) (Br (IS k) (V i 1/\J_ [C (b_ k.L k.ae k.i).aJ] (g (zB x F i k h) []) (Mm h x F i k)) (V_ k i x F h)) (Br ((b_ k.L k.ae k.i).ak==2) (V i 1/\J_ [C (b_ k.L k.ae k.i).aJ] (g (zB x F i k h) []) (Mm h x F i k)) (V_ k i x F h)))/\aQ λ(f:Gk)_=>Tq x f->T1 (G x.x x.s) ⟨x.x.b,1,none⟩ (λe=>aA (e+1)/\dM (aL f208 11 7) [W (some ⟨x.x.b,1,none⟩),Z (e+1)] [G x.x x.s] (λd c=>bQ f.c (c7 [W (vW x),agg ⟨H3 f x⟩] [G d.x d.t,aY] (λb a=>l BL x F (fG b) [(0,G b.x (b.s.add b.n)),(1,F),(2,D f.c (H3 f x) 35),(999,aY)]))))))):=by
 delta fq vW IS xY J_ q0 NM zB Tq H3 QA bq bL Mm XB lN kv V_ T1 mK mL dM lB c7 kV fG g G V aA bQ bz dK lh Z C H W Q ce D aY al aQ;obtain⟨K,x,s⟩:=x;obtain⟨t,v⟩:=y;replace p:dj K x F:=p;dsimp only at t v⊢;have w:(I x.L x.ae s).aJ.size<=1048576:=t.cE s;refine ba lR (x.p s) t.len (p.ls.dc 0 1 X X rfl rfl) λ_ _ c=>?_
 repeat (refine⟨Y, ?_⟩)
 intro u
 repeat (refine⟨Y, ?_⟩)
 refine⟨?_, ?_⟩
 ·skip
  refine⟨Y,ar (λm=>afD m ?_) (λm=>ar (λr=>?_) (λr=>ar (λn=>?_) (λn=>ar (λo=>?_) (λo=>?_))))⟩;replace m:((I x.L x.ae s).ak==1)=true:=m;exact⟨Y,WU,rfl,⟨(I x.L x.ae s).aJ⟩,rfl,rfl,w,gv.rest (j:=1) X p.gl.gl.qu,λ_ _=>⟨Y,⟨bo (I x.L x.ae s).aJ,u⟩,⟨zf m (by decide),Zp (by rw[m] <;> rfl)⟩,aU,ao [0,1,3050]⟩⟩;replace r:((I x.L x.ae s).ak==2)=true:=r;exact⟨Y,WU,rfl,⟨(I x.L x.ae s).aJ⟩,rfl,rfl,w,gv.rest (j:=1) X p.gl.gl.qu,λ_ _=>⟨Y,⟨bo (I x.L x.ae s).aJ,u⟩,⟨zf r (by decide),Zp (by simp[*])⟩,aU,ao [0,1,3050]⟩⟩
  all_goals
   replace m:((I x.L x.ae s).ak==1)=false:=m;replace r:((I x.L x.ae s).ak==2)=false:=r;have q:((I x.L x.ae s).ak==1||(I x.L x.ae s).ak==2)=false:=by rw[m,r] <;> rfl
  replace n:((I x.L x.ae s).ak==3)=true:=n;exact⟨Y,t.aT,rfl,⟨(I x.L x.ae s).aT⟩,rfl,rfl,ai,K.rest (j:=1) X p.gl.rd,λ_ _=>ba WU ⟨K.tv (I x.L x.ae s).aT⟩ (t.Pc _) (gv.rest (j:=1) X p.gl.gl.qu) λ_ _=>⟨Y,⟨bo (K.tv (I x.L x.ae s).aT),u⟩,⟨zf n (by decide),aiS q n⟩,aU,ao [0,1,3050]⟩⟩
  all_goals replace n:((I x.L x.ae s).ak==3)=false:=n
  replace o:((I x.L x.ae s).ak==4)=true:=o;exact⟨⟨(I x.L x.ae s).aJ,u⟩,⟨zf o (by decide),aiU q n o⟩,aU,ao [0,1,3050]⟩;replace o:((I x.L x.ae s).ak==4)=false:=o;exact ba qS (x.p s) t.len (p.ls.dc 0 1 X X rfl rfl) λ_ _=>⟨.inr (I x.L x.ae s).au,aiR q n o,rfl,ao [1]⟩
 rintro⟨z,c⟩ E ⟨A,U⟩;dsimp only at U⊢;have B:=t.len;refine⟨_,ee λ_=>rfl,aC,gM rfl rfl rfl,rfl,⟨x,s,s.az,1,_⟩,rfl,rfl,⟨λ_=>rfl,rfl,by simp[*],rfl,rfl⟩,ai,λ_ _=>?_⟩;exact⟨Y,Y,Y,Y,Y,fy,rfl,⟨x,s.az,⟨2,z,0,[],(I x.L x.ae s).au⟩,dq⟩,rfl,rfl,⟨v,.nil rfl⟩,ai,λ_ _=>⟨.inl _,U,rfl,ao [0,1]⟩⟩
theorem aiT:aG 208 BL:=oI func208 aiQ aiP aiV
end
structure Bf where
 tb:Nat->Nat
 n:Nat
abbrev wo:aF where
 X:=Bf
 args x:=[float f64 x.n]
 cond x:=pl x.tb/\cq .lss x.n 0=false
 aE x F:=ow x.tb F
 val x _:=al (C (qt x.tb x.n))
abbrev AD:aF where
 X:=Bf
 args x:=[float f64 x.n]
 cond x:=pl x.tb
 aE x F:=ow x.tb F
 val x _:=al (C (o8 x.tb x.n))
def abI(C:aF):List (Nat×Nat×OH):=[(1,2,.qo (iO .neq)),(3,1,.qo (iO .eql)),(5,1,.qo (iO .lss)),(6,1,.qo D_),(6,2,.c C [] []),(7,1,.c Sh [] []),(9,1,.c RX [] []),(9,2,.c RI [] []),(10,1,.c Rs [] []),(11,1,.c Wl [] []),(11,4,.c Sq [] [])]
def aoY(b:Bf)(a:ag):List (Nat×Nat×OH):=abI BX
def aoZ(b:Bf)(a:ag):List (Nat×Nat×OH):=abI wo
def abH{tb:Nat->Nat}(d:pl tb){n:Nat}(h:cq .lss n 0=false):(qt tb n).size<=4000:=by
 unfold qt;cases a:cq .neq n n with
 |true=>show(ByteArray.mk #[78,97,78]).size<=4000;decide
 |false=>
  cases b:cq .eql n 0 with
  |true=>show(ByteArray.mk #[48]).size<=4000;decide
  |false=>
   rw[y];cases c:t7 n with
   |true=>show(ByteArray.mk #[73,110,102,105,110,105,116,121]).size<=4000;decide
   |false=>
    rw[y];exact abJ d (Li a b h c)
def abK{tb:Nat->Nat}(b:pl tb)(n:Nat):(o8 tb n).size<=4001:=by
 unfold o8;cases c:cq .neq n n with
 |true=>show(ByteArray.mk #[78,97,78]).size<=4001;decide
 |false=>
  rw[y];cases d:cq .eql n 0 with
  |true=>show(ByteArray.mk #[48]).size<=4001;decide
  |false=>
   rw[y];cases a:cq .lss n 0 with
   |true=>
    rw[aW,ie];have:=abH b (ZV a);show 1+_<=4001;omega
   |false=>
    rw[y];cases e:t7 n with
    |true=>show(ByteArray.mk #[73,110,102,105,110,105,116,121]).size<=4001;decide
    |false=>
     rw[y];have:=abJ b (Li c d a e);omega
def qL(c:Oper)(a:aN)(b:Nat×Nat->Prop):=cN prog c (iO BinOp.neq)/\∃(z:Nat×Nat),a=(oZ z)/\True/\b z
abbrev Fy(x:Bf):aN:=[float f64 x.n,float f64 0]
def Ka:=vm 61 Sh (λ_=>True) (λa b=>b=t7 a.f)
abbrev Oh:=al (C ⟨#[73,110,102,105,110,105,116,121]⟩)
def Kb:=dP 63 RX (λa=>pl a.tb/\pW a.n) (λa b=>ow a.tb b) (λa c=>c=sy a.tb a.n)
def Kc:=dP 62 RI (λa=>a.s.size<4294967281) (λ_=>jF) (λa b=>b=⟨⟨(tU a.s a.t).fst.toArray⟩,⟨(tU a.s a.t).snd.fst.toArray⟩,(tU a.s a.t).snd.snd⟩)
def Kd:=vm 64 Rs (λa=>wF a.s) (λa b=>b=mX a.s)
def Ke:=dP 66 Wl (λa=>a.s.size<4294967281/\1<=a.t.size/\a.s.size+Lib.countB a.s a.t*a.u.size<=140737488355328) (λ_=>jF) (λa b=>b=⟨(IZ a).toArray⟩)
def Kg:=dP 65 Sq (λa=>1<=a.ds.size/\a.ds.size<=1000/\(-1000:Int)<=a.n/\a.n<=1000) (λ_=>jF) (λa b=>b=kP a.ds a.n)
def ao3(x:Bf)(F:ag)(R:wo.cond x)(A:wo.aE x F):qL (aL f32 1 2) [float f64 x.n,float f64 x.n] (λo=>Br (cq BinOp.neq o.fst o.snd) (l wo x F (al (C ⟨#[78,97,78]⟩)) [(0,F)]) (ml (aL f32 3 1) (Fy x) (λn=>Br (cq BinOp.eql n.fst n.snd) (l wo x F Fw [(0,F)]) (DP (aL f32 5 1) (Fy x) (λm=>Br (cq BinOp.lss m.fst m.snd) (DO ⟨some 19,Op.unOp UnOp.neg 32 (Operand.tmp 18),32,"esnum.go:41",⟨[⟨0,Ground.data⟩]⟩,none⟩ [float f64 x.n] (λc=>vm 32 BX (λ_=>False) (λ_ _=>False) [float f64 (Op.negFloat f64 c)] (λb a=>l wo x F (panicked []) [(0,F)]))) (Ka [float f64 x.n,Z 1] (λp k=>Br k (l wo x F Oh [(0,F)]) (Kb [float f64 x.n,u 101,Z (-1),Z 64] ([]:List ag) (cO F) (λj i=>Kc [C i,C ⟨#[101]⟩] ([]:List ag) (cO F) (λh r=>Kd [C r.x] (λf e=>Ke [C r.m,C ⟨#[46]⟩,C ⟨#[]⟩,Z 1] ([]:List ag) (cO F) (λd c=>aA (e+1)/\Kg [C c,Z (e+1)] ([]:List ag) (cO F) (λb a=>l wo x F (al (C a)) [(0,F)]))))))))))))):=by
 delta oZ qL ml Fy Fw DP DO Ka Oh Kb cO Kc Kd Ke Kg g aA dP vm Z u C al;obtain⟨s,n⟩:=x;obtain⟨D,S⟩:=R;dsimp only at D S⊢;refine⟨ia (.inr (.inr (.inr rfl))) rfl,(n,n),rfl,ai,ar (λJ=>⟨(),ai, ?_,ao [0]⟩) (λJ=>⟨ia (.inl rfl) rfl,(n,0),rfl,ai,ar (λK=>⟨(),ai, ?_,ao [0]⟩) (λK=>⟨ia (.inr (.inl rfl)) rfl,(n,0),rfl,ai,ar (λL=>?_) (λL=>kH Zg ⟨n⟩ λq w=>ar (λM=>⟨(),ai, ?_,ao [0]⟩) (λM=>?_))⟩)⟩)⟩;show returned (.string _)=returned (.string (qt s n));unfold qt;simp[*];show returned (.string _)=returned (.string (qt s n));unfold qt;simp[*];grind;show returned (.string _)=returned (.string (qt s n));unfold qt;grind;replace w:q=t7 n:=w;rw[M]at w;have N:pW n:=Li J K L w.symm;have t:=WM D N;refine ba Y2 ⟨s,n⟩ ⟨D,N⟩ (by exact A.sub (bB 0)) λy B=>ba Yx ⟨y,⟨#[101]⟩⟩ (?_) (by exact A.tx.sub (bB 0)) λz O=>?_;rw[show y=sy s n from B];have:=t.fs;grind;replace B:y=sy s n:=B;subst B;have H:z.m=wq s n:=by rw[show z=_ from O] <;> rfl
 have I:z.x=o9 s n:=by rw[show z=_ from O] <;> rfl
 rw[H,I];refine bG X4 ⟨o9 s n⟩ t.xo λe G=>ba aaS ⟨wq s n,⟨#[46]⟩,⟨#[]⟩,1⟩ ⟨?_,bK 1, ?_⟩ (by exact A.tx.sub (bB 0)) λd E=>?_;have:=t.ms;grind;have:=t.ms;show(wq s n).size+_*0<=_;omega;replace G:e=mX (o9 s n):=G;replace E:d=yr s n:=E;subst G E;have P:=t.dl;have Q:=t.dh;have U:=t.xl;refine⟨aC,ZA,rfl,⟨yr s n,mX (o9 s n)+1⟩,rfl,rfl,⟨P,Q,by grind,by grind⟩,by exact A.tx.sub (bB 0),λv T=>⟨(),ai, ?_,ao [0]⟩⟩;rw[show v=Jo s n from T];show returned (.string _)=returned (.string (qt s n));unfold qt;grind
def ao2:aG 32 wo:=iB func32 aoY ao3
def ao1(x:Bf)(F:ag)(G:AD.cond x)(w:AD.aE x F):qL (aL f32 1 2) [float f64 x.n,float f64 x.n] (λo=>Br (cq BinOp.neq o.fst o.snd) (l AD x F (al (C ⟨#[78,97,78]⟩)) [(0,F)]) (ml (aL f32 3 1) (Fy x) (λn=>Br (cq BinOp.eql n.fst n.snd) (l AD x F Fw [(0,F)]) (DP (aL f32 5 1) (Fy x) (λm=>Br (cq BinOp.lss m.fst m.snd) (DO ⟨some 19,Op.unOp UnOp.neg 32 (Operand.tmp 18),32,"esnum.go:41",⟨[⟨0,Ground.data⟩]⟩,none⟩ [float f64 x.n] (λc=>bz 32 wo (λb=>pl b.tb/\cq BinOp.lss b.n 0=false) (λb U=>ow b.tb U) [float f64 (Op.negFloat f64 c)] (cO F) (λb a=>1+(qt b.tb b.n).size<=9223372036854775807/\l AD x F (al (C ((ByteArray.mk #[45])++qt b.tb b.n))) [(0,F)]))) (Ka [float f64 x.n,Z 1] (λp k=>Br k (l AD x F Oh [(0,F)]) (Kb [float f64 x.n,u 101,Z (-1),Z 64] ([]:List ag) (cO F) (λj i=>Kc [C i,C ⟨#[101]⟩] ([]:List ag) (cO F) (λh r=>Kd [C r.x] (λf e=>Ke [C r.m,C ⟨#[46]⟩,C ⟨#[]⟩,Z 1] ([]:List ag) (cO F) (λd c=>aA (e+1)/\Kg [C c,Z (e+1)] ([]:List ag) (cO F) (λb a=>l AD x F (al (C a)) [(0,F)]))))))))))))):=by
 delta oZ qL ml Fy Fw DP DO cO Ka Oh Kb Kc Kd Ke Kg g aA bz dP vm Z u C al;obtain⟨s,n⟩:=x;replace G:pl s:=G;have A:=G;dsimp only;refine⟨ia (.inr (.inr (.inr rfl))) rfl,(n,n),rfl,ai,ar (λL=>⟨(),ai, ?_,ao [0]⟩) (λL=>⟨ia (.inl rfl) rfl,(n,0),rfl,ai,ar (λM=>⟨(),ai, ?_,ao [0]⟩) (λM=>⟨ia (.inr (.inl rfl)) rfl,(n,0),rfl,ai,ar (λE=>?_) (λE=>kH Zg ⟨n⟩ λq B=>ar (λN=>⟨(),ai, ?_,ao [0]⟩) (λN=>?_))⟩)⟩)⟩;show returned (.string _)=returned (.string (o8 s n));unfold o8;simp[*];show returned (.string _)=returned (.string (o8 s n));unfold o8;simp[*];have P:cq .lss (Op.negFloat .f64 n) 0=false:=ZV E;have W:=abH A P;refine⟨Y6 rfl,n,rfl,ai,ao2,rfl,⟨s,Op.negFloat .f64 n⟩,rfl,rfl,⟨A,P⟩,by exact w.sub (bB 0),λ_ _=>⟨by grind,(),ai, ?_,ao [0]⟩⟩;show returned (.string _)=returned (.string (o8 s n));unfold o8;simp[*];show returned (.string _)=returned (.string (o8 s n));unfold o8;grind;replace B:q=t7 n:=B;rw[N]at B;have O:pW n:=Li L M E B.symm;have t:=WM A O;refine ba Y2 ⟨s,n⟩ ⟨A,O⟩ (by exact w.sub (bB 0)) λy D=>ba Yx ⟨y,⟨#[101]⟩⟩ (?_) (by exact w.tx.sub (bB 0)) λz Q=>?_;rw[show y=sy s n from D];have:=t.fs;grind;replace D:y=sy s n:=D;subst D;have J:z.m=wq s n:=by rw[show z=_ from Q] <;> rfl
 have K:z.x=o9 s n:=by rw[show z=_ from Q] <;> rfl
 rw[J,K];refine bG X4 ⟨o9 s n⟩ t.xo λe I=>ba aaS ⟨wq s n,⟨#[46]⟩,⟨#[]⟩,1⟩ ⟨?_,bK 1, ?_⟩ (by exact w.tx.sub (bB 0)) λd H=>?_;have:=t.ms;grind;have:=t.ms;show(wq s n).size+_*0<=_;omega;replace I:e=mX (o9 s n):=I;replace H:d=yr s n:=H;subst I H;have R:=t.dl;have S:=t.dh;have V:=t.xl;refine⟨aC,ZA,rfl,⟨yr s n,mX (o9 s n)+1⟩,rfl,rfl,⟨R,S,by grind,by grind⟩,by exact w.tx.sub (bB 0),λv T=>⟨(),ai, ?_,ao [0]⟩⟩;rw[show v=Jo s n from T];show returned (.string _)=returned (.string (o8 s n));unfold o8;grind
def ao0:aG 32 AD:=iB func32 aoZ ao1
def ao8{K:bD}{tb:Nat->Nat}(a:pl tb)(c:K.tv=o8 tb)(b:∀F,K.rd F->ow tb F):aG 32 (zq K):=ao0.view (λx=>⟨tb,x.n⟩) (λ_=>rfl) (λ_=>rfl) (λ_ _=>a) (λx F _ h=>b F h) (λx _ _ _=>⟨(),ai,by show returned (.string (o8 tb x.n))=returned (.string (K.tv x.n));rw[c],rfl⟩)
section
open Go Go.RowKit
def Zt:List (String×DataW ax):=Rows.printSpreadRow.laid
noncomputable def py(g:Nat):TypeId:=((prog.globals[g]?).map (·.type)).getD 0
variable{g:Nat}{t:TypeId}
theorem nS(h:((prog.globals[g]?).map (·.type)).isSome=true):(prog.globals[g]?).map (·.type)=some (py g):=by
 unfold py;cases e:(prog.globals[g]?).map (·.type)with
 |none=>rw[e]at h;cases h
 |some t=>rfl
set_option maxRecDepth 100000
theorem ahe:j9 prog 2 (py 1) Rows.laid_pennant_eslex_marks=some (fx.map string):=bg
theorem ahc:j9 prog 2 (py 0) Rows.laid_pennant_esparse_assigns=some (qQ.map string):=bg
theorem ahd:j9 prog 2 (py 8) Rows.laid_unicode_utf8_first=some ((List.range 256).map λc=>int .u8 (Lib.firstT c)):=bg
theorem YS:j9 prog 3 (py 9) Rows.laid_unicode_utf8_acceptRanges=some ((List.range 32).map λi=>int .u8 (bif i%2==0 then Lib.accLo (i/2) else Lib.accHi (i/2))):=bg
theorem RU:j9 prog 2 (py 14) Rows.laid_internal_strconv_float64info=some [.int .u64 52,.int .u64 11,.int .i64 (-1023)]:=bg
theorem ahf:j9 prog 2 (py 5) Rows.laid_internal_strconv_optimize=some [.bool true]:=bg
theorem ahh:j9 prog 2 (py 10) Rows.laid_internal_strconv_uint64pow10=some SK:=bg
theorem ahg:j9 prog 3 (py 11) Rows.laid_internal_strconv_pow10Tab=some ((List.range 1392).map λi=>int .u64 (wj i)):=bg
def Y7:List (DataW ax):=Lh.map λb=>.lit (.float .f64 b)
def ptD:List (DataW ax):=Mb.map λz=>.lit (.int .i64 (z:Nat))
def Sk:List (DataW ax):=Pinned.cheatRows.map λx=>.agg [.lit (.int .i64 x.1),.lit (.string x.2)]
theorem agj:(Rows.laid_internal_strconv_float64pow10:DataW ax)= .slice Y7 []:=bg
theorem agl:(Rows.laid_internal_strconv_powtab:DataW ax)= .slice ptD []:=bg
theorem agk:(Rows.laid_internal_strconv_leftcheats:DataW ax)= .slice Sk []:=rfl
theorem OM{α:Type}{f:Nat->α}{n i:Nat}(h:i<n):((List.range n).map f)[i]?=some (f i):=by
 rw[fZ,List.getElem?_range h] <;> rfl
theorem abS(u:TypeId)(e:prog.typeName? 3 u=some "*errors.errorString"):u=207:=
 typeName_ptr_named (nm:= "errors.errorString") bg bg (by decide) u e
section
variable{W:World}(h:laidMet prog Zt W)
include h
theorem apx:gv (gG W):=by
 have b:=sE h 17 (n:= "unicode/utf8.first") (d:=Rows.laid_unicode_utf8_first) rfl;have a:=sE h 9 (n:= "unicode/utf8.acceptRanges") (d:=Rows.laid_unicode_utf8_acceptRanges) rfl;refine⟨λc e=>b.look bg (nS bg) 2 ahd c (OM e),λi f=>a.look bg (nS bg) 3 YS (2*i) ?_,λi f=>a.look bg (nS bg) 3 YS (2*i+1) ?_⟩;rw[OM O,show(2*i%2==0)=true by rw[beq_iff_eq];omega,show 2*i/2=i by omega] <;> rfl;rw[OM O,show((2*i+1)%2==0)=false by rw[fw];omega,show(2*i+1)/2=i by omega] <;> rfl
theorem apt:∀i m,fx[i]?=some m->aH (gG W) ⟨1,i,none⟩ (.string m):=λi m b=>by
 have a:=sE h 12 (n:= "pennant/eslex.marks") (d:=Rows.laid_pennant_eslex_marks) rfl;exact a.look bg (nS bg) 2 ahe i (by rw[fZ,b] <;> rfl)
theorem apm:∀i m,qQ[i]?=some m->aH (gG W) ⟨0,i,none⟩ (.string m):=λi m b=>by
 have a:=sE h 14 (n:= "pennant/esparse.assigns") (d:=Rows.laid_pennant_esparse_assigns) rfl;exact a.look bg (nS bg) 2 ahc i (by rw[fZ,b] <;> rfl)
theorem apv:Be (gG W) 10 SK:=by
 have b:=sE h 8 (n:= "internal/strconv.uint64pow10") (d:=Rows.laid_internal_strconv_uint64pow10) rfl;obtain⟨t,a,e⟩:=b.flat bg (nS bg) 2 ahh;exact⟨λI g o f c=>⟨t,a,f _ _ ((show aX.le (hp W) I from c) _ _ e)⟩⟩
theorem abT:∀i,i<1392->aH (gG W) ⟨11,i,none⟩ (.int .u64 (wj i)):=λi b=>by
 have a:=sE h 16 (n:= "internal/strconv.pow10Tab") (d:=Rows.laid_internal_strconv_pow10Tab) rfl;exact a.look bg (nS bg) 3 ahg i (OM b)
theorem apq:aH (gG W) ⟨14,0,none⟩ (.int .u64 52)/\aH (gG W) ⟨14,1,none⟩ (.int .u64 11)/\aH (gG W) ⟨14,2,none⟩ (.int .i64 (-1023)):=by
 have a:=sE h 3 (n:= "internal/strconv.float64info") (d:=Rows.laid_internal_strconv_float64info) rfl;exact⟨a.look bg (nS bg) 2 RU 0 rfl,a.look bg (nS bg) 2 RU 1 rfl,a.look bg (nS bg) 2 RU 2 rfl⟩
theorem apu:aH (gG W) ⟨5,0,none⟩ (.bool true):=by
 have a:=sE h 4 (n:= "internal/strconv.optimize") (d:=Rows.laid_internal_strconv_optimize) rfl;exact a.look bg (nS bg) 2 ahf 0 rfl
theorem apo:∃b o c,aH (gG W) ⟨19,0,none⟩ (.slice (some ⟨b,o,none⟩) 23 c)/\∀i,i<23->aH (gG W) ⟨b,o+i,none⟩ (.float .f64 (nQ i)):=by
 have a:=sE h 6 (n:= "internal/strconv.float64pow10") (d:=Rows.laid_internal_strconv_float64pow10) rfl;rw[agj]at a;obtain⟨b,o,c,e1,f⟩:=a.WD bg (nS bg) (e:=32) bg 0 ⟨.lit (.float .f64 4607182418800017408),.float .f64 4607182418800017408,[],rfl,bg⟩;refine⟨b,o,c,e1,λi g=>?_⟩;have j:Lh[i]?=some (nQ i):=by{unfold nQ;rw[eG];have:i<Lh.length:=g;rw[da this] <;> rfl};have:=f i (.lit (.float .f64 (nQ i))) [.float .f64 (nQ i)] (by unfold Y7;rw[fZ,j] <;> rfl) (by unfold j9 uG;rw[show prog.underlying 32=some (.float .f64) by kernel_rfl] <;> rfl) 0 _ rfl;rw[show prog.cellsOf 32=1 by kernel_rfl,Nat.mul_one,Nat.add_zero]at this;exact this
theorem apw:∃b o c,aH (gG W) ⟨18,0,none⟩ (.slice (some ⟨b,o,none⟩) 9 c)/\∀i,i<9->aH (gG W) ⟨b,o+i,none⟩ (.int .i64 (rv i)):=by
 have a:=sE h 5 (n:= "internal/strconv.powtab") (d:=Rows.laid_internal_strconv_powtab) rfl;rw[agl]at a;obtain⟨b,o,c,e1,f⟩:=a.WD bg (nS bg) (e:=3) bg 0 ⟨.lit (.int .i64 1),.int .i64 1,[],rfl,bg⟩;refine⟨b,o,c,e1,λi g=>?_⟩;have j:Mb[i]?=some (rv i):=by{unfold rv;rw[eG];have:i<Mb.length:=g;rw[da this] <;> rfl};have:=f i (.lit (.int .i64 (rv i))) [.int .i64 (rv i)] (by unfold ptD;rw[fZ,j] <;> rfl) (by unfold j9 uG;rw[show prog.underlying 3=some (.int .i64) by kernel_rfl] <;> rfl) 0 _ rfl;rw[show prog.cellsOf 3=1 by kernel_rfl,Nat.mul_one,Nat.add_zero]at this;exact this
theorem apr:∃b o c,aH (gG W) ⟨12,0,none⟩ (.slice (some ⟨b,o,none⟩) 61 c)/\∀i,i<61->aH (gG W) ⟨b,o+i*2,none⟩ (.int .i64 (kf i).1)/\aH (gG W) ⟨b,o+i*2+1,none⟩ (.string (kf i).2):=by
 have g:=sE h 15 (n:= "internal/strconv.leftcheats") (d:=Rows.laid_internal_strconv_leftcheats) rfl;rw[agk]at g;obtain⟨b,o,c,e1,k⟩:=g.WD bg (nS bg) (e:=221) bg 1 ⟨.agg [.lit (.int .i64 0),.lit (.string [])],.int .i64 0,[.string ⟨#[]⟩],rfl,bg⟩;have p:Sk.length=61:=bg;rw[p]at e1;refine⟨b,o,c,e1,λi q=>?_⟩;have f:i<Pinned.cheatRows.length:=by{have:Pinned.cheatRows.length=61:=bg;omega};have m:Pinned.cheatRows[i]?=some ((kf i).1,(kf i).2.data.toList):=by{unfold kf;rw[eG,da f];simp};have l:j9 prog 1 221 (.agg [.lit (.int .i64 (kf i).1),.lit (.string (kf i).2.data.toList)])=some [.int .i64 (kf i).1,.string ⟨(kf i).2.data.toList.toArray⟩]:=by{kernel_rfl};have a:=k i _ _ (by unfold Sk;rw[fZ,m] <;> rfl) l;rw[show prog.cellsOf 221=2 by kernel_rfl]at a;have j:=a 1 _ rfl;rw[<-Nat.add_assoc,Array.toArray_toList]at j;exact⟨a 0 _ rfl,j⟩
def ZH:List (List (DataW ax)):=pB.map λr=>r.map λm=>.lit (.string m.data.toList)
theorem aps:∀n a,pB[n]?=some a->∃b o c,aH (gG W) ⟨2,n,none⟩ (.slice (some ⟨b,o,none⟩) a.length c)/\cR (gG W) ⟨b,o,none⟩ (a.map string):=by
 have g:=sE h 13 (n:= "pennant/esparse.levels") (d:=Rows.laid_pennant_esparse_levels) rfl;rw[show(Rows.laid_pennant_esparse_levels:DataW ax)= .agg (ZH.map λv=>.slice v []) by kernel_rfl]at g;intro n a l;have q:∀m:ah,uG prog 9 (.lit (.string m.data.toList))=some (.string m):=λm=>by{unfold uG;rw[show prog.underlying 9=some .string by kernel_rfl]};have f:∃m r,a=m::r:=by
  have:(pB.all λr=> !r.isEmpty)=true:=by decide
  have:=List.all_eq_true.1 this a (iz l);cases a with
  |nil=>cases this
  |cons m r=>exact⟨m,r,rfl⟩
 obtain⟨p,y,rfl⟩:=f;obtain⟨b,o,c,e1,w⟩:=g.anz (t:=py 2) (k:=10) (e:=59) (s:=9) bg (nS bg) bg bg bg bg n ((p::y).map λm=>.lit (.string m.data.toList)) (by unfold ZH;rw[fZ,l] <;> rfl) ⟨_,_,rfl,q p⟩;rw[List.length_map]at e1;refine⟨b,o,c,e1,λj u i=>?_⟩;rw[fZ,Option.map_eq_some_iff]at i;obtain⟨m,x,rfl⟩:=i;rw[oC];exact w j _ _ (by rw[fZ,x] <;> rfl) (q m)
theorem apn:uS (gG W):=by
 have a:=h.tail.tail.tail.tail.tail.tail.tail.tail.tail.tail;have l:prog.underlying (py 7)=some (.interface (match prog.underlying (py 7)with|some (.interface f)=>f|_=>#[])):=bg;have c:prog.underlying (py 6)=some (.interface (match prog.underlying (py 6)with|some (.interface f)=>f|_=>#[])):=bg;have b:prog.underlying 209=some (.struct #[((match prog.underlying 209 with|some (.struct k)=>k|_=>#[])[0]'(kK bg))]):=bg;have g:prog.underlying 9=some .string:=bg;obtain⟨i,s1,d,-⟩:=laid_sentinel a bg (nS bg) l abS (te:=209) bg b (ts:=9) bg bg g bg bg;obtain⟨j,m,e,-⟩:=laid_sentinel a.tail bg (nS bg) c abS (te:=209) bg b (ts:=9) bg bg g bg bg;exact⟨⟨_,j,zl (World.var?_cell bg e 0)⟩,⟨_,i,zl (World.var?_cell bg d 0)⟩⟩
end
section
variable{W:World}(h:W.ShapedOpen prog)
include h
theorem aa4(i:g<prog.globals.size)(k:((((begin prog (λ_ _=>0) default).world.heap[g]?).bind Obj.row?).map (·.2))=some t):rT (gG W) g t:=by
 obtain⟨⟨z,a⟩,c,e⟩:=Option.map_eq_some_iff.1 k;have e:a=t:=e;subst e;obtain⟨b,j,-,-⟩:=h.1 g z a i c;exact⟨λI m o f d=>⟨b,f _ _ ((show aX.le (hp W) I from d) _ _ j)⟩⟩
theorem anR{k:IntKind}{zero:Array aD}(o:g<prog.globals.size)(j:((begin prog (λ_ _=>0) default).world.heap[g]?).bind Obj.row?=some (zero,t))(y:zero.size=1)
  (l:prog.buildable t=true) (n:prog.cellTypes prog.depth t=some [t]) (s:prog.underlying t=some (.int k)):∃m,aH (gG W) ⟨g,0,none⟩ (.int k m):=by
 obtain⟨c,p,x,r⟩:=h.1 g zero t o j;obtain⟨A,e,_,d⟩:=r l;rw[n]at e;cases e;have i:0<c.size:=O;obtain⟨u,f,a⟩:=d 0 c[0] (by simp[i]);have:u=t:=by simpa using f.symm
 subst this;have b:W.cell? ⟨g,0,none⟩=some c[0]:=by simp[World.cell?,p,i]
 unfold Cell.ok at a;rw[s]at a
 suffices w:∃m,c[0]= .int k m by
  obtain⟨m,q⟩:=w;exact⟨m,zl (by rw[b,q])⟩
 cases v:c[0] <;> rw[v]at a <;> simp at a
 rename_i z m
 exact⟨m,by first|rw[a]|rw[a.1]⟩
end
noncomputable def pq:bD where
 nv:=lW (L6 (yQ wj kf))
 tv:=o8 wj
 rd F:=io wj kf F/\uS F/\ow wj F
 mono h b:=⟨h.1.sub b,h.2.1.sub b,h.2.2.sub b⟩
 rest a h:=⟨h.1.sub (jk _ a rfl),h.2.1.sub (jk _ a rfl),h.2.2.sub (jk _ a rfl)⟩
theorem ahY{W:World}(h:laidMet prog Zt W)(hs:W.ShapedOpen prog):eu pq (gG W)/\hU (gG W):=by
 have a:∃m,aH (gG W) ⟨4,0,none⟩ (.int .i64 m):=anR hs (t:=3) (zero:=#[.int .i64 0]) (kK bg) bg rfl bg bg bg;obtain⟨b,c,d⟩:=apq h;exact⟨⟨⟨apx h,a,apt h⟩,⟨abT h,b,c,d,apu h,aa4 hs (kK bg) bg,aa4 hs (kK bg) bg,apo h,apw h,apr h⟩,apn h,⟨apv h,a⟩,abT h⟩,apm h,aps h⟩
end
section
def ua(t:ah):List ah->Nat->Int
 | [],_=> -1
 |m::r,k=>bif bx t m then (k:Int) else ua t r (k+1)
def Zm(t:ah):∀(l:List ah)(k:Nat),decide (ua t l k>=0)=cI l t
 | [],k=>by simp[ua,cI]
 |m::r,k=>by
  have a:=Zm t r (k+1);unfold cI at a⊢;rw[ua,List.any_cons];cases bx t m with
  |true=>simp
  |false=>rw[y,Bool.false_or];exact a
structure AV where
 b:Nat
 o:Nat
 c:Nat
 row:List ah
 t:ah
abbrev ux(x:AV):bv:=some ⟨x.b,x.o,none⟩
abbrev BJ:aF where
 X:=AV
 args x:=[Q (ux x) x.row.length x.c,C x.t]
 cond x:=x.row.length<=1000
 aE x F:=cR F ⟨x.b,x.o,none⟩ (x.row.map string)
 val x _:=al (Z (ua x.t x.row 0))
structure Gh where
 k:Nat
def aio(x:AV)(F:ag):Nat->Option Inv:=fun
 |0=>some {X:=Gh,P:=λd=>d.k<=x.row.length/\ua x.t x.row 0=ua x.t (x.row.drop d.k) d.k,mu:=λd=>x.row.length-d.k,lv:=λd=>[(0,Q (ux x) x.row.length x.c),(1,C x.t),(7,Z x.row.length),(8,Z d.k)],st:=λ_=>[F]}
 |_=>none
def Nv(a:Gh)(x:AV):=a.k<=x.row.length/\ua x.t x.row 0=ua x.t (List.drop a.k x.row) a.k
def aiu(x:AV)(F:ag)(i:BJ.cond x)(r:BJ.aE x F):(∃(a:Gh),Nv a x/\(Q (ux x) x.row.length x.c=Q (ux x) x.row.length x.c/\C x.t=C x.t/\Z ↑x.row.length=Z ↑x.row.length/\Z 0=Z ↑a.k/\True)/\ay [(0,F)] [(0,F)])/\aQ λ(e:Gh)_=>Nv e x->aK ((e.k:Int)<(x.row.length:Int)) (b9 (aL f54 4 3) [Q (ux x) x.row.length x.c,Z ↑e.k] (λc=>T2 F ⟨c.b,c.o+c.n.toNat*1,none⟩ (λb=>Br (x.t.toList==b.toList) (l BJ x F (al (Z ↑e.k)) [(0,F)]) (aA ((e.k:Int)+1)/\∃(a:Gh),Nv a x/\(Q (ux x) x.row.length x.c=Q (ux x) x.row.length x.c/\C x.t=C x.t/\Z ↑x.row.length=Z ↑x.row.length/\Z ((e.k:Int)+1)=Z ↑a.k/\True)/\ay [(0,F)] [(0,F)]/\x.row.length-a.k<x.row.length-e.k)))) (l BJ x F rA [(0,F)]):=by
 delta Nv ux b9 T2 mN rA aA Z C Q aK al aQ;obtain⟨b,o,c,d,t⟩:=x;have u:d.length<=1000:=i;dsimp only;refine⟨⟨⟨0⟩,⟨b7 _,rfl⟩,aU,ao [0]⟩, ?_⟩;rintro⟨k⟩ v ⟨h,f⟩;dsimp only at h f⊢;refine bd (λp=>?_) (λn=>⟨(),ai,Al ?_,ao [0]⟩);obtain⟨m,q⟩:∃m,d[k]?=some m:=⟨_,da O⟩;have j:d.drop k=m::d.drop (k+1):=by{obtain⟨U,rfl⟩:=ic.1 q;simp[*]};rw[j,ua]at f;have s:aH F ⟨b,o+(k:Int).toNat*1,none⟩ (.string m):=by{have:=r k (.string m) (by simp[*]);rw[oC]at this;simp[*]};refine⟨bZ 1 rfl rfl rfl rfl,⟨b,o,d.length,c,k⟩,rfl,by simp[*],m,s,ar (λg=>⟨(),ai,Al ?_,ao [0]⟩) (λg=>⟨aC,⟨k+1⟩,⟨by grind, ?_⟩,aU,ao [0],by grind⟩)⟩;rw[gq]at g;simp[*];rw[gq]at g;simp[*];rw[f,List.drop_eq_nil_of_le O] <;> rfl
def ait:aG 54 BJ:=mt func54 (λ_ _=>[(4,3,.qo (dy 1)),(4,4,.q [.ex 0 .str])]) aio aiu
abbrev Bt:aF where
 X:=AV
 args x:=[Q (ux x) x.row.length x.c,C x.t]
 cond x:=x.row.length<=1000
 aE x F:=cR F ⟨x.b,x.o,none⟩ (x.row.map string)
 val x _:=al (H (cI x.row x.t))
def agd(x:AV)(F:ag)(c:Bt.cond x)(d:Bt.aE x F):bz 54 BJ (λb=>b.row.length<=1000) (λb rr=>cR rr ⟨b.b,b.o,none⟩ (List.map C b.row)) [Q (ux x) x.row.length x.c,C x.t] (cO F) (λb a=>l Bt x F (al (H (decide (ua b.t b.row 0>=0)))) [(0,F)]):=by
 delta ux cO g bz C H Q al;exact ba ait x c (cR.rest (j:=0) X d) λ_ _=>⟨(),ai,l7 (Zm _ _ _),ao [0]⟩
def Yw:aG 24 Bt:=cY func24 [(1,2,aI BJ)] agd
def aj.args:aj->aN
 | .level n=>[.int .i64 n]
 | .func k=>[.int .i64 k]
 | .block b=>[.bool b]
 | .dv p=>[.int .i64 p]
 | .d5 p=>[.int .i64 p]
 | .choose p=>[.int .i64 p]
 | .simple d=>[.agg ⟨lS d⟩]
 | .cw b=>[.bool b]
 |_=>[]
def aj.bA:aj->Option FuncId
 | .bf=>some 10
 | .cond=>some 22
 | .level _=>some 51
 | .unary=>some 97
 | .eo=>some 120
 | .suffix=>some 149
 | .dL=>some 179
 | .func _=>some 77
 | .block _=>some 45
 | .paren=>some 78
 | .vars=>some 75
 | .loop=>some 79
 | .dv _=>some 80
 | .d5 _=>some 81
 | .choose _=>some 82
 | .simple _=>some 76
 | .cw _=>some 17
 |_=>none
structure PG(x:bY)(s:ap)(os:aM):Prop where
 i:s.i<=x.L.length
 fo:bM x.ae s os
 nd:s.a.length<=2*s.i
 f:0<=s.h/\s.h<=s.i
 l:0<=s.loops/\s.loops<=s.i
 b:0<=s.d/\s.d<=s.i
def PG.step{x:bY}{s:ap}{os:aM}(h:PG x s os)(b:s.i<x.L.length):PG x s.az os:=by
 obtain⟨c,a,d,e,f,g⟩:=h;exact⟨b,a.same rfl,by dsimp only[ap.az];omega,by dsimp only[ap.az];omega,by dsimp only[ap.az];omega,by dsimp only[ap.az];omega⟩
def PG.is{x:bY}{s:ap}{os:aM}(h:PG x s os){t:ah}(a:K x.L s 0 t=true):PG x s.az os:=h.step (p9 a)
def PG.gK{x:bY}{s:ap}{os:aM}(h:PG x s os){k:Int}(U:k∈os):0<=k/\k<s.a.length:=h.fo.gK U
def PG.cast{x:bY}{s:ap}{os a:aM}(h:PG x s os)(e:os=a):PG x s a:=e▸h
def PG.node{x:bY}{s:ap}{os:aM}{n:aR}(h:PG x s (os++n.b))(hp:0<=n.au/\n.au<=x.ae)(hn:s.a.length+1<=2*s.i):PG x (s.add n) (os++[(s.a.length:Int)]):=by
 obtain⟨a,b,f,c,d,e⟩:=h;exact⟨a,b.node hp,by dsimp only[ap.add];simp[*],c,d,e⟩
abbrev bm(K:bD)(x:bY)(n:Nat)(tag:aj)(s:ap):PR (aM):=P x.L x.ae K.tv bo n tag s
structure hW(K:bD)(x:bY):Prop extends PaK K x where
 dW:gr x.L x.ae
def PG.run{K:bD}{x:bY}(b:hW K x){f:Nat}{tag:aj}{s t:ap}{os ks:aM}(h:PG x s os)(hp:tag.cB x.ae)(hn:tag.ct x.L s)(v:tag.dW=[])(hs:tag.sk=0)(e:bm K x f tag s= .ok ks t):PG x t (os++ks)/\(tag.BP=false->∃k,ks=[k])/\s.i<=t.i/\t.a.length+2*s.i+tag.sl<=s.a.length+2*t.i/\t.h=s.h/\t.loops=s.loops/\t.d=s.d/\s.a.length<=t.a.length:=by
 obtain⟨a,n,p,q,r,u⟩:=h;have k:o x.L tag s t:=adc (ae:=x.ae) (aO:=K.tv) (wide:=bo) f tag s a hn ks t e;have w:=JE (aO:=K.tv) (wide:=bo) b.dW f tag s os hp (by simp[*]);unfold WP at w;rw[show P x.L x.ae K.tv bo f tag s= .ok ks t from e]at w;obtain⟨l,m⟩:=w;obtain⟨y,c,d,z,g,i,j⟩:=k;exact⟨⟨c,l,O,O,O,O⟩,m,O,O,g,i,j,d⟩
def PG.aq{x:bY}{s:ap}{os:aM}(h:PG x s os)(a:x.L.length<=1048576):s.a.length<=2097152:=by
 have:=h.nd;have:=h.i;omega
variable{rr:ag}{pp:List ag}{aa:aN}{u:ap}{q:Prop}
theorem PG.Av{K:bD}{x:bY}(c:hW K x){s:ap}{os:aM}(h:PG x s os)(e:eh x.L x.ae s= .ok () u):PG x u os/\s.i<=u.i/\u.a.length=s.a.length/\u.h=s.h/\u.loops=s.loops/\u.d=s.d:=by
 have k:Dk x.L 0 0 s u\/Dk x.L 1 0 s u:=KP.ok (Gj (E:=True) (Q:=λ_ t=>Dk x.L 0 0 s t\/Dk x.L 1 0 s t) (L:=x.L) (ae:=x.ae) h.i (λt a=>a)) e;have w:u.a=s.a:=by{have w:=GX (ae:=x.ae) (Q:=λ_ t=>t.a=s.a) (s:=s) c.dW (λt a=>a);unfold WP at w;grind};obtain⟨f,b,g,i,j,l⟩:=h;have d:u.a.length=s.a.length:=by rw[w]
 exact⟨⟨O,b.same w,O,O,O,O⟩,O,d,O,O,O⟩
theorem PG.key{K:bD}{x:bY}(b:hW K x){s:ap}{os:aM}{k:Int}(h:PG x s os)(e:ec x.L x.ae K.tv bo s= .ok k u):PG x u (os++[k])/\u.i=s.i+1/\u.a.length=s.a.length+1/\u.h=s.h/\u.loops=s.loops/\u.d=s.d:=by
 have q:Dk x.L 1 1 s u:=KP.ok (KP.key (E:=True) (Q:=λ_ t=>Dk x.L 1 1 s t) (L:=x.L) (ae:=x.ae) (aO:=K.tv) (wide:=bo) (λ_ t a=>a)) e;have w:bM x.ae u (os++[k]):=by{have w:=WP.key (ae:=x.ae) (aO:=K.tv) (wide:=bo) (Q:=λk t=>bM x.ae t (os++[k])) (s:=s) b.dW h.fo (λk t a=>a);unfold WP at w;grind};obtain⟨c,d,f,g,i,j⟩:=h;exact⟨⟨O,w,O,O,O,O⟩,O,O,O,O,O⟩
theorem PG.hp{K:bD}{x:bY}(a:hW K x)(s:ap):0<=(I x.L x.ae s).au/\(I x.L x.ae s).au<=x.ae:=kN a.dW s
theorem PG.au{x:bY}{s:ap}{os:aM}(h:PG x s os){k:Int}(U:k∈os):0<=dG s k/\dG s k<=x.ae:=h.fo.uj U
def aj.cP(s:ap):aj->Prop
 | .loop=>s.loops<s.i/\s.d<s.i
 |_=>True
structure ph where
 K:bD
 x:bY
 s:ap
 os:aM
 tag:aj
abbrev cv(n:Nat)(bA:FuncId):aF where
 X:=ph
 Y:=(Int×ap) ⊕ (Int×Int)
 args x:=W (some ⟨x.x.b,0,none⟩)::x.tag.args
 pre x:=[G x.x x.s]
 cond x:=hW x.K x.x/\PG x.x x.s x.os/\x.tag.bA=some bA/\x.tag.cB x.x.ae/\x.tag.ct x.x.L x.s/\x.tag.cP x.s/\bm x.K x.x n x.tag x.s≠.out
 aE x F:=dj x.K x.x F
 bS x y:=match y with
  | .inl a=>bm x.K x.x n x.tag x.s= .ok [a.1] a.2
  | .inr a=>∃t,bm x.K x.x n x.tag x.s= .stop a.1 a.2 t
 val x y:=match y with
  | .inl a=>.returned (.int .i64 a.1)
  | .inr a=>.panicked [⟨jj a.1 a.2,false,false⟩]
 post x y:=match y with
  | .inl a=>[G x.x a.2]
  | .inr _=>[]
 eL _ _ _ b h:=dj.sub b h
 sum:=some (iL (Int×ap) (Int×Int))
structure bc(T:Type)where
 K:bD
 x:bY
 s:ap
 os:aM
 n:Nat
 t:T
abbrev bh{T:Type}(b:T->aj):aF where
 X:=bc T
 Y:=(Int×ap) ⊕ (Int×Int)
 args x:=W (some ⟨x.x.b,0,none⟩)::(b x.t).args
 pre x:=[G x.x x.s]
 cond x:=(∀bA,aG bA (cv x.n bA))/\hW x.K x.x/\PG x.x x.s x.os/\(b x.t).cB x.x.ae/\(b x.t).ct x.x.L x.s/\(b x.t).cP x.s/\bm x.K x.x (x.n+1) (b x.t) x.s≠.out
 aE x F:=dj x.K x.x F
 bS x y:=match y with
  | .inl a=>bm x.K x.x (x.n+1) (b x.t) x.s= .ok [a.1] a.2
  | .inr a=>∃t,bm x.K x.x (x.n+1) (b x.t) x.s= .stop a.1 a.2 t
 val x y:=match y with
  | .inl a=>.returned (.int .i64 a.1)
  | .inr a=>.panicked [⟨jj a.1 a.2,false,false⟩]
 post x y:=match y with
  | .inl a=>[G x.x a.2]
  | .inr _=>[]
 eL _ _ _ c h:=dj.sub c h
 sum:=some (iL (Int×ap) (Int×Int))
theorem nX{T:Type}{b:T->aj}{bA:FuncId}{n:Nat}(h:aG bA (bh b))(l:∀a:aj,a.bA=some bA->∃t,b t=a)(r:∀bA,aG bA (cv n bA)):aG bA (cv (n+1) bA):=h.D1 λq F I w k m o=>by
 obtain⟨K,x,s,u,a⟩:=q;obtain⟨c,d,e,f,g,i,j⟩:=k;obtain⟨t,rfl⟩:=l a e;exact⟨⟨K,x,s,u,n,t⟩,I,aX.le_refl I,⟨r,c,d,f,g,i,j⟩,m,rfl,o,λy p=>⟨y,p,rfl,ay.refl _⟩⟩
structure Rn{α:Type}(m:PR (aM))(kk:Int->ap->PR α)(r:PR α):Prop where
 o:m≠.out
 p:∀a e u,m= .stop a e u->r= .stop a e u
 k:∀c t,m= .ok [c] t->kk c t=r
section
variable{α:Type}{m:j (aM)}{s:ap}{r:PR α}
theorem CO{k:aM->j α}(U:(m>>=k) s=r)(a:r≠.out):Rn (m s) (λc=>k [c]) r:=
 ⟨O2 (by rw[U];exact a),λ_ _ _ q=>U.symm.trans (F1 q),λ_ _ q=>(F0 q).symm.trans U⟩
theorem fH{k:Int->j α}(U:(one m>>=k) s=r)(a:r≠.out):Rn (m s) k r:=
 ⟨WI (by rw[U];exact a),λ_ _ _ q=>U.symm.trans (abn q),λ_ _ q=>(abm q).symm.trans U⟩
end
theorem v_{m r:PR (aM)}(U:m=r)(a:r≠.out):Rn m (λc t=>.ok [c] t) r:=
 ⟨λe=>a (U.symm.trans e),λ_ _ _ q=>U.symm.trans q,λ_ _ q=>q.symm.trans U⟩
theorem ca{f:FuncId}{n:Nat}{K:bD}{x:bY}{tag:aj}{s:ap}{os:aM}{α:Type}{k:Int->ap->PR α}{r:PR α}{i:ph->Int×ap->Prop}{j:ph->Int×Int->Prop}
  (b:PG x s os) (U:Rn (bm K x n tag s) k r)
  (d:∀c t,k c t=r->PG x t (os++[c])->s.i<=t.i->t.a.length+2*s.i+tag.sl<=s.a.length+2*t.i->t.h=s.h->t.loops=s.loops->t.d=s.d->s.a.length<=t.a.length->i ⟨K,x,s,os,tag⟩ (c,t))
  (cB:tag.cB x.ae:=by exact ai) (ct:tag.ct x.L s:=by exact ai) (cP:tag.cP s:=by exact ai)
  (p:dj K x rr:=by first|exact dj.sub (bB 1) (by assumption)|exact dj.sub (bB 0) (by assumption)|exact dj.sub (bB 2) (by assumption)|exact dj.sub (bB 3) (by assumption)|exact dj.sub (bB 4) (by assumption))
  (stop:∀a:Int×Int,(∃u,r= .stop a.1 a.2 u)->j ⟨K,x,s,os,tag⟩ a:=by
   intro a h;obtain⟨u,q⟩:=h
   try intro _
   first|exact⟨.inr a,⟨u,Eq.trans (by assumption) q⟩,rfl,ao [1]⟩|exact⟨.inr a,⟨u,Eq.trans (by assumption) q⟩,rfl,ao [0]⟩|exact⟨.inr a,⟨u,Eq.trans (by assumption) q⟩,rfl,ao [2]⟩|exact⟨.inr a,⟨u,Eq.trans (by assumption) q⟩,rfl,ao [3]⟩|exact⟨.inr a,⟨u,Eq.trans (by assumption) q⟩,rfl,ao [4]⟩)
  (D:∀bA,aG bA (cv n bA):=by assumption) (e:hW K x:=by assumption)
  (m:tag.bA=some f:=by exact rfl) (l:aa= .pointer (some ⟨x.b,0,none⟩)::tag.args:=by exact rfl) (hp:pp=[G x s]:=by exact rfl) (o:tag.dW=[]:=by exact rfl) (hs:tag.sk=0:=by exact rfl):
  aG f (cv n f)/\true=true/\∃z:ph,aa= .pointer (some ⟨z.x.b,0,none⟩)::z.tag.args/\pp=[G z.x z.s]/\
   (hW z.K z.x/\PG z.x z.s z.os/\z.tag.bA=some f/\z.tag.cB z.x.ae/\z.tag.ct z.x.L z.s/\z.tag.cP z.s/\bm z.K z.x n z.tag z.s≠.out)/\dj z.K z.x rr/\
   (∀a:Int×ap,bm z.K z.x n z.tag z.s= .ok [a.1] a.2->i z a)/\(∀a:Int×Int,(∃t,bm z.K z.x n z.tag z.s= .stop a.1 a.2 t)->j z a):=by
 refine⟨D _,rfl,⟨K,x,s,os,tag⟩,l,hp,⟨e,b,m,cB,ct,cP,U.o⟩,p,λa q=>?_,λa⟨u,q⟩=>stop a ⟨u,U.p _ _ _ q⟩⟩;obtain⟨c,t⟩:=a;obtain⟨g,-,v,w,y,A,B,C⟩:=PG.run e b cB ct o hs q;exact d c t (U.k _ _ q) g v w y A B C
theorem ma{α:Type}{x:bY}{T:ah}{s:ap}{os:aM}{k:ax->j α}{r:PR α}{d e:jo->ax->Prop}
  (b:PG x s os) (U:(cu x.L x.ae T>>=k) s=r) (c:k () s.az=r->PG x s.az os->d ⟨x,s,T⟩ ()) (g:x.L.length<=1048576:=by assumption)
  (h:gX x rr:=by first|exact gX.sub (bB 1) (dj.ls (by assumption))|exact gX.sub (bB 0) (dj.ls (by assumption))|exact gX.sub (bB 2) (dj.ls (by assumption))|exact gX.sub (bB 3) (dj.ls (by assumption))|exact gX.sub (bB 4) (dj.ls (by assumption)))
  (stop:r= .stop (I x.L x.ae s).au 60 s->e ⟨x,s,T⟩ ():=by
   intro q
   first|exact⟨.inr (_,_),⟨_,Eq.trans (by assumption) q⟩,rfl,ao [1]⟩|exact⟨.inr (_,_),⟨_,Eq.trans (by assumption) q⟩,rfl,ao [0]⟩|exact⟨.inr (_,_),⟨_,Eq.trans (by assumption) q⟩,rfl,ao [2]⟩|exact⟨.inr (_,_),⟨_,Eq.trans (by assumption) q⟩,rfl,ao [3]⟩|exact⟨.inr (_,_),⟨_,Eq.trans (by assumption) q⟩,rfl,ao [4]⟩)
  (f:aa=[.pointer (some ⟨x.b,0,none⟩),.string T]:=by exact rfl) (hp:pp=[G x s]:=by exact rfl):
  aG 53 iU/\true=true/\∃z:jo,aa=[.pointer (some ⟨z.x.b,0,none⟩),.string z.t]/\pp=[G z.x z.s]/\(z.x.L.length<=1048576/\z.s.i<=z.x.L.length)/\gX z.x rr/\
   (∀a:ax,K z.x.L z.s 0 z.t=true->d z a)/\(∀a:ax,K z.x.L z.s 0 z.t=false->e z a):=
 ⟨ajV,rfl,⟨x,s,T⟩,f,hp,⟨g,b.i⟩,h,λ_ q=>c ((wh q).symm.trans U) (b.is q),λ_ q=>stop (U.symm.trans (Jd q))⟩
theorem eD{p:Prop}(h:q)(g:q->p:=by exact λh=>⟨.inl (_,_),h,rfl,ao [0,1]⟩):p:=g h
theorem K2{p:Prop}(h:q)(g:q->p:=by exact λh=>⟨.inl (_,_,true),.inl ⟨rfl,h⟩,rfl,ao [0,1]⟩):p:=g h
end
def ae7{F:ag}(h:hU F):cR F ⟨0,0,none⟩ (qQ.map string):=λj u a=>by
 rw[fZ]at a;cases b:qQ[j]? with
 |none=>rw[b]at a;cases a
 |some m=>
  rw[b]at a;cases a;rw[oC,gZ];exact h.X6 j m b
def oK{i:Nat}(h:i<=1048576): -9223372036854775808<=(i:Int)+1/\(i:Int)+1<=9223372036854775807:=O
def aiW(b:Nat)(ks:aM):bl 3 1 (a7 ks) ⟨some ⟨b,0,none⟩,ks.length,ks.length,.cells b (a7 ks) 3⟩:=by
 have:=bl.ft (e:=3) (k:=1) (cs:=a7 ks) b ks.length ks.length [] (by rw[Ee,Nat.mul_one]) (by rw[dQ,Ee,Nat.mul_one]) (bK _);grind
def lT(b:Nat)(ks:aM):Row:=⟨some ⟨b,0,none⟩,ks.length,ks.length,.cells b (a7 ks) 3⟩
def ki(b:Nat)(ks:aM):bl 3 1 (a7 ks) (lT b ks):=aiW b ks
def ag1(x:bc ax)(a:ag):List (Nat×Nat×OH):=[(1,1,q (cv x.n 22)),(2,1,aI jf),(2,2,.n 3020),(2,3,.w (eT 3020)),(3,1,z 3020),(3,4,.qo (vc 6)),(3,6,z 3020),(3,7,aI Bt),(5,2,q B6),(6,3,cD),(6,7,dU fQ),(7,1,q (cv x.n 10)),(8,2,z 3020),(8,5,.n 9050),(8,8,q vd),(8,10,.c fO [0,9050] [0])]
def ag0:Nat->a_:=λr=>if r=8 then [0,1,2,3,4,6,7,8,5,9,10,11] else []
def cd(a:Nat)(b:FuncId)(e:aN)(pp:List ag)(h:ag)(f:ph->Int×ap->Prop)(g:ph->Int×Int->Prop):=aG b (cv a b)/\true=true/\∃(z:ph),e=W (some ⟨z.x.b,0,none⟩)::z.tag.args/\pp=[G z.x z.s]/\(hW z.K z.x/\PG z.x z.s z.os/\z.tag.bA=some b/\aj.cB z.x.ae z.tag/\aj.ct z.x.L z.s z.tag/\aj.cP z.s z.tag/\bm z.K z.x a z.tag z.s≠PR.out)/\dj z.K z.x h/\(∀(c:Int×ap),bm z.K z.x a z.tag z.s=PR.ok [c.fst] c.snd->f z c)/\∀(d:Int×Int),(∃(i:ap),bm z.K z.x a z.tag z.s=PR.stop d.fst d.snd i)->g z d
abbrev bT(x:bc ax):bv:=some ⟨x.x.b,0,none⟩
abbrev ef(x:bc ax):aN:=[W (bT x)]
abbrev vX(x:bc ax)(F:ag):=g [(0,G x.x x.s),(1,F)] [0]
abbrev mJ(u:ph)(t:Int×ap)(F:ag):=[(0,G u.x t.snd),(1,F)]
abbrev Ac(s:dm):=(b_ s.L s.ae s.i).ak !=5
abbrev ku(t:Int×ap):=al (Z t.fst)
abbrev zJ(u:ph)(t:Int×ap)(F:ag)(q:Nat)(s:dm):=[(0,G u.x t.snd),(1,F),(3020,D q (q0 s) 56)]
def Kh:=bz 24 Bt (λa=>a.row.length<=1000) (λa b=>cR b ⟨a.b,a.o,none⟩ (List.map C a.row))
def GB(a:aN)(pp:List ag)(b:Dv->ax->Prop)(c:Dv->ax->Prop):=aG 25 B6/\true=true/\∃(z:Dv),a=[W (some ⟨z.x.b,0,none⟩),Z z.k,H z.pD]/\pp=[G z.x z.s]/\(0<=z.k/\z.k<z.s.a.length)/\True/\(∀(d:ax),lq z.s z.k z.pD=false->b z d)/\∀(e:ax),lq z.s z.k z.pD=true->c z e
abbrev oW(x:bc ax)(k:Int):aN:=[W (some ⟨x.x.b,1,none⟩),Z (k+1)]
def tN:=dK 26 vd (λa=>0<=a.k/\a.k<a.s.a.length)
abbrev q8(b:Int×Int):=panicked [{v:=ce 54 (agg ⟨[Z b.fst,Z b.snd]⟩),recovered:=false}]
abbrev Ch(m:Dv):=panicked [{v:=ce 54 (agg ⟨[Z (dG m.s m.k),Z 61]⟩),recovered:=false}]
abbrev iK(F:ag):=[(0,aY),(1,F)]
def ag3(x:bc ax)(F:ag)(hc:aF.cond (bh (λ(_:ax)=>aj.bf)) x)(hr:aF.aE (bh (λ(_:ax)=>aj.bf)) x F):cd x.n 22 (ef x) [G x.x x.s] (vX x F) (λu t=>fq (ef x) (g (mJ u t F) []) (λs r=>∀(q:Nat),bQ q (true=true/\V q 0/\Br (Ac s) (l (bh λ(a:ax)=>aj.bf) x F (ku t) (zJ u t F q s)) (cN prog (aL f10 3 4) (vc 6)/\∃(p:yB),[W (some ⟨0,0,none⟩)]=[W (some p.a)]/\(p.a.off=0/\p.a.spot=none)/\V q 1/\Kh [Q (some p.a) 6 6,C (b_ s.L s.ae s.i).aJ] (g (zJ u t F q s) []) (λo n=>Br (!cI o.row o.t) (l (bh λ(a:ax)=>aj.bf) x F (ku t) (zJ u t F q s)) (GB [W (bT x),Z t.fst,H true] [G u.x t.snd] (λm v=>T1 (G m.x m.s) ⟨x.x.b,1,none⟩ (λk=>aA (k+1)/\dM (aL f10 6 7) (oW x k) [G m.x m.s] (λj i=>cd x.n 10 (ef x) [G j.x j.t] (g [(0,G j.x j.t),(1,F),(3020,D q (q0 s) 56)] [0]) (λh w=>true=true/\V q 1/\tN [W (bT x),Z t.fst] [G h.x w.snd] (λf e=>∀(d:Nat),c7 [W (bT x),agg ⟨[Z 16,C (b_ s.L s.ae s.i).aJ,float f64 0,Q (bq d) 2 2,Z (dG f.s f.k)]⟩] [G f.x f.s,D d [Z t.fst,Z w.fst] 3] (λc b=>l (bh λ(a:ax)=>aj.bf) x F (fG c) [(0,G c.x (c.s.add c.n)),(1,F),(3020,D q (q0 s) 56),(9050,aY)]))) (λh b=>l (bh λ(a:ax)=>aj.bf) x F (q8 b) [(0,aY),(1,F),(3020,D q (q0 s) 56)])))) (λm b=>l (bh λ(a:ax)=>aj.bf) x F (Ch m) [(0,aY),(1,F),(3020,D q (q0 s) 56)]))))))) (λu b=>l (bh λ(a:ax)=>aj.bf) x F (q8 b) (iK F)):=by
 delta cd bT ef vX fq mJ Ac ku q0 zJ Kh GB T1 mK mL dM oW tN lB c7 bq kV fG q8 Ch iK g G V aA bQ bz dK lh Z C H W Q ce D aY al;obtain⟨K,x,s,os,n,tp⟩:=x;obtain⟨ih,hK,hG,hp,x0,T,J⟩:=hc;replace J:bm K x (n+1) .bf s≠.out:=J;dsimp only at ih hK hG hp x0 T⊢;obtain⟨r,E⟩:∃r,bm K x (n+1) .bf s=r:=⟨_,rfl⟩;rw[E]at J;have U:=E;unfold bm at U;rw[P]at U;have S:=hK.len;refine ca hG (fH U J) (λk z U R x1 x5 N x3 L x7=>?_) (cB:=ai) (ct:=ai) (cP:=ai);dsimp only[aj.sl,ap.az,ap.add]at x1 x5 N x3 L x7;rw[o7]at U;refine ba lR (x.p z) S (hr.ls.dc 0 1 X X rfl rfl) λ_ _ c=>?_
 repeat (refine⟨Y, ?_⟩)
 refine⟨rfl,Y,ar (λA=>?_) (λA=>?_)⟩;replace A:((I x.L x.ae z).ak !=5)=true:=A;rw[A,Bool.true_or,aW]at U;exact eD (E.trans U.symm);replace A:((I x.L x.ae z).ak !=5)=false:=A;refine⟨KL rfl rfl rfl rfl rfl,⟨⟨0,0,none⟩⟩,rfl,Y,Y,Yw,rfl,⟨0,0,6,qQ,(I x.L x.ae z).aJ⟩,rfl,rfl,by show 6<=1000;omega,cR.rest (j:=1) X (ae7 hr.gp),λ_ _=>ar (λB=>?_) (λB=>?_)⟩;replace B:(!cI qQ (I x.L x.ae z).aJ)=true:=B;rw[B,oG,aW]at U;exact eD (E.trans U.symm);replace B:(!cI qQ (I x.L x.ae z).aJ)=false:=B;rw[A,B,Bool.or_false,y]at U;have hi:z.i<x.L.length:=w9 (ae:=x.ae) (λe=>by rw[e]at A;cases A);refine bG L7 ⟨x,z,k,true⟩ (R.gK X) ⟨λ_ q=>?_,λ_ q=>⟨.inr (_,_),⟨_,E.trans (U.symm.trans (O4 q))⟩,rfl,ao [1]⟩⟩;rw[O5 q]at U;rw[mc]at U;refine⟨_,ee λ_=>rfl,oK (i:=z.i) (gi R.i S),gM rfl rfl rfl,rfl,⟨x,z,z.az,1,_⟩,rfl,rfl,⟨λ_=>rfl,rfl,by simp[*],rfl,rfl⟩,ai,λ_ _=>?_⟩;refine ca ((R.step hi)) (fH U J) (λk2 t2 U g2 x2 x6 O x4 M x8=>?_) (cB:=ai) (ct:=ai) (cP:=ai);dsimp only[aj.sl,ap.az,ap.add]at x2 x6 O x4 M x8;rw[CZ,jy]at U;refine⟨rfl,Y,yR,rfl,⟨x,t2,k⟩,rfl,rfl,g2.gK X,ai,λ_ _ b=>?_⟩;refine bG fy ⟨x,t2,⟨16,(I x.L x.ae z).aJ,0,[k,k2],dG t2 k⟩,lT b [k,k2]⟩ ⟨by have:=g2.aq S;grind,ki b [k,k2]⟩ λ_ _=>?_;exact eD (E.trans U.symm)
def ag2:aG 10 (bh (λ(_:ax)=>aj.bf)):=fo 44 func10 ag1 [] dV dV ag0 [] ag3
def afO(x:bc ax)(a:ag):List (Nat×Nat×OH):=[(1,1,q (cv x.n 51)),(2,1,q iQ),(4,1,q (cv x.n 10)),(5,1,q iU),(6,1,q (cv x.n 10)),(7,4,.n 8040),(7,7,q vd),(7,9,.c fO [0,8040] [0])]
def gE(a:aN)(pp:List ag)(d:ag)(b:jo->ax->Prop)(c:jo->ax->Prop):=aG 53 iU/\true=true/\∃(z:jo),a=[W (jR z),C z.t]/\pp=[G z.x z.s]/\(z.x.L.length<=1048576/\z.s.i<=z.x.L.length)/\gX z.x d/\(∀(e:ax),K z.x.L z.s 0 z.t=true->b z e)/\∀(f:ax),K z.x.L z.s 0 z.t=false->c z f
abbrev gI(j:jo):=panicked [{v:=ce 54 (agg ⟨[Z (I j.x.L j.x.ae j.s).au,Z 60]⟩),recovered:=false}]
def afQ(x:bc ax)(F:ag)(hc:aF.cond (bh (λ(_:ax)=>aj.cond)) x)(hr:aF.aE (bh (λ(_:ax)=>aj.cond)) x F):cd x.n 51 [W (bT x),Z 0] [G x.x x.s] (vX x F) (λp o=>fW [W (bT x),C ⟨#[63]⟩] [G p.x o.snd] (g (mJ p o F) [0]) (λn m=>cd x.n 10 (ef x) [G n.x n.s.az] (g (n0 n F) [0]) (λt k=>gE [W (bT x),C ⟨#[58]⟩] [G t.x k.snd] (g (mJ t k F) [0]) (λj i=>cd x.n 10 (ef x) [G j.x j.s.az] (g (n0 j F) [0]) (λh u=>∀(f:Nat),tN [W (bT x),Z o.fst] [G h.x u.snd] (λe d=>c7 [W (bT x),agg ⟨[Z 15,C ⟨#[]⟩,float f64 0,Q (bq f) 3 3,Z (dG e.s e.k)]⟩] [G e.x e.s,D f [Z o.fst,Z k.fst,Z u.fst] 3] (λc b=>l (bh λ(a:ax)=>aj.cond) x F (fG c) [(0,G c.x (c.s.add c.n)),(1,F),(8040,aY)]))) (λh b=>l (bh λ(a:ax)=>aj.cond) x F (q8 b) (iK F))) (λj b=>l (bh λ(a:ax)=>aj.cond) x F (gI j) (iK F))) (λt b=>l (bh λ(a:ax)=>aj.cond) x F (q8 b) (iK F))) (λn b=>l (bh λ(a:ax)=>aj.cond) x F (ku o) (lA n F))) (λp b=>l (bh λ(a:ax)=>aj.cond) x F (q8 b) (iK F)):=by
 delta cd bT vX jR fW mJ ef n0 gE tN lB c7 bq kV fG q8 iK gI ku lA g G dK Z C W Q ce D aY al;obtain⟨K,x,s,os,n,tp⟩:=x;obtain⟨ih,hK,hG,hp,M,L,v⟩:=hc;replace v:bm K x (n+1) .cond s≠.out:=v;dsimp only at ih hK hG hp M L⊢;obtain⟨r,w⟩:∃r,bm K x (n+1) .cond s=r:=⟨_,rfl⟩;rw[w]at v;have U:=w;unfold bm at U;rw[P]at U;have hl:=hK.len;refine ca hG (fH U v) (λc t1 U g1 N Y E S z x2=>?_) (cB:=ai) (ct:=b7 _) (cP:=ai);dsimp only[aj.sl,ap.az,ap.add]at N Y E S z x2;refine ba kM ⟨x,t1,qm⟩ ⟨hl,g1.i⟩ (hr.ls.sub (bB 1)) ⟨λ_ q=>?_,λ_ q=>?_⟩;rotate_left;rw[mO q]at U;exact eD (w.trans U.symm);rw[mb q]at U;simp only[Bool.not_true,y,aW]at U;have g2:=g1.is q;refine ca g2 (fH U v) (λa t2 U g3 O x0 H T A x3=>?_) (cB:=ai) (ct:=ai) (cP:=ai);dsimp only[aj.sl,ap.az,ap.add]at O x0 H T A x3;refine ma g3 U (λU J=>?_);refine ca J (fH U v) (λb t3 U g4 R x1 I V B x4=>?_) (cB:=ai) (ct:=ai) (cP:=ai);dsimp only[aj.sl,ap.az,ap.add]at R x1 I V B x4;rw[CZ,jy]at U;intro lb;refine bG yR ⟨x,t3,c⟩ (g4.gK X) λ_ _=>?_;refine bG fy ⟨x,t3,⟨15,.empty,0,[c,a,b],dG t3 c⟩,lT lb [c,a,b]⟩ ⟨by have:=g4.aq hl;grind,ki lb [c,a,b]⟩ λ_ _=>?_;exact eD (w.trans U.symm)
def afP:aG 22 (bh (λ(_:ax)=>aj.cond)):=iB func22 afO afQ
section
def Eu{a b:Int}(h:(a !=b)=false):a=b:=by simpa using h
structure jA where
 c:Nat
def Ht(c:Nat)(d:a8):ag:=.cells c [.int .i64 d.ak,.string d.aJ,.float .f64 d.aT,.int .i64 d.au,.bool d.aB] 56
def xi(x:bY)(s:ap):Prop:=(I x.L x.ae s).ak=5\/(I x.L x.ae s).ak=2
variable{s:ap}{x:bY}
theorem xi.lt(h:xi x s):s.i<x.L.length:=w9 (ae:=x.ae) (λe=>by rcases h with h|h <;> rw[e]at h <;> cases h)
abbrev xX(d:jA):bv:=some ⟨d.c,0,none⟩
abbrev qi(d:jA):=W (xX d)
def ao9(x:bc ax)(F:ag):Nat->Option Inv:=fun
 |11=>some {X:=jA,P:=λ_=>xi x.x x.s,mu:=λ_=>0,lv:=λd=>[(0,W (bT x)),(3,qi d),(19,(C (I x.x.L x.x.ae x.s).aJ)),(20,H (cI wu (I x.x.L x.x.ae x.s).aJ))],st:=λd=>[G x.x x.s,F,Ht d.c (I x.x.L x.x.ae x.s)]}
 |18=>some {X:=jA,P:=λ_=>xi x.x x.s/\cI wu (I x.x.L x.x.ae x.s).aJ=false,mu:=λ_=>0,lv:=λd=>[(0,W (bT x)),(3,qi d),(51,H (cI [pp,mm] (I x.x.L x.x.ae x.s).aJ))],st:=λd=>[G x.x x.s,F,Ht d.c (I x.x.L x.x.ae x.s)]}
 |_=>none
def ao_(x:bc ax)(a:ag):List (Nat×Nat×OH):=[(1,1,aI jf),(1,2,.n 2020),(1,3,.w (eT 2020)),(2,1,z 2020),(2,5,z 2020),(3,1,q (cv x.n 120)),(4,1,z 2020),
 (11,3,cD),(11,7,dU fQ),(12,1,q (cv x.n 97)),(13,1,z 2),(14,2,q B6),(15,2,z 2),(15,4,.n 16040),(15,6,z 2),(15,8,.c fO [0,16040] [0]),
 (18,3,cD),(18,7,dU fQ),(19,1,q (cv x.n 97)),(20,2,q B6),(21,2,z 2),(21,4,.n 22040),(21,6,z 2),(21,8,.c fO [0,22040] [0]),(22,1,q (cv x.n 120))]
abbrev zG(x:bc ax)(F:ag)(p:Nat)(r:dm):=[(0,G x.x x.s),(1,F),(2020,D p (q0 r) 56)]
abbrev Vt(r:dm):=(b_ r.L r.ae r.i).aJ.toList==(ByteArray.mk #[45]).toList
abbrev zy(x:bc ax):aN:=[Z (I x.x.L x.x.ae x.s).ak,C (I x.x.L x.x.ae x.s).aJ,float f64 (I x.x.L x.x.ae x.s).aT,Z (I x.x.L x.x.ae x.s).au,H (I x.x.L x.x.ae x.s).aB]
abbrev E4(x:bc ax)(F:ag)(o:jA):=[(0,G x.x x.s),(1,F),(2,D o.c (zy x) 56)]
def A8(a:bc ax)(e1:ag)(c d e:aD)(b:St):=∃(z:jA),xi a.x a.s/\(W (bT a)=W (bT a)/\c=W (xX z)/\d=C (I a.x.L a.x.ae a.s).aJ/\e=H (cI wu (I a.x.L a.x.ae a.s).aJ)/\True)/\ay b (E4 a e1 z)
abbrev Vs(r:dm):=(b_ r.L r.ae r.i).aJ.toList==(ByteArray.mk #[43]).toList
abbrev Vr(r:dm):=(b_ r.L r.ae r.i).aJ.toList==(ByteArray.mk #[33]).toList
abbrev Vo(r:dm):=(b_ r.L r.ae r.i).aJ.toList==(ByteArray.mk #[126]).toList
abbrev UR(r:dm):=(b_ r.L r.ae r.i).aJ.toList==(ByteArray.mk #[116,121,112,101,111,102]).toList
abbrev ID:ah:=ByteArray.mk #[100,101,108,101,116,101]
abbrev Ue(x:bc ax)(d:Nat):aN:=[W (bT x),agg ⟨[Z 11,C (I x.x.L x.x.ae x.s).aJ,float f64 0,Q (bq d) 1 1,Z (I x.x.L x.x.ae x.s).au]⟩]
abbrev bI(g:Int×ap):aN:=[Z g.fst]
abbrev Uu(x:bc ax)(F:ag)(o:jA):tI->ax->Prop:=λc b=>l (bh λ(a:ax)=>aj.unary) x F (fG c) [(0,G c.x (c.s.add c.n)),(1,F),(2,D o.c (zy x) 56),(16040,aY)]
abbrev E3(F:ag)(o:jA)(x:bc ax):=[(0,aY),(1,F),(2,D o.c (zy x) 56)]
abbrev Vm(x:bc ax):=(I x.x.L x.x.ae x.s).aJ.toList==(ByteArray.mk #[43,43]).toList
def VP(x:bc ax):=xi x.x x.s/\cI wu (I x.x.L x.x.ae x.s).aJ=false
def QB(a:bc ax)(e1:ag)(c d:aD)(b:St):=∃(z:jA),VP a/\(W (bT a)=W (bT a)/\c=W (xX z)/\d=H (cI [pp,mm] (I a.x.L a.x.ae a.s).aJ)/\True)/\ay b (E4 a e1 z)
def q5(p:Nat)(r:dm)(x:bc ax)(F:ag):=V p 1/\Br (Vt r) (A8 x F (bL p) (xK r) (H (Vt r)) (zG x F p r)) (Br (Vs r) (A8 x F (bL p) (xK r) (H (Vs r)) (zG x F p r)) (Br (Vr r) (A8 x F (bL p) (xK r) (H (Vr r)) (zG x F p r)) (Br (Vo r) (A8 x F (bL p) (xK r) (H (Vo r)) (zG x F p r)) (Br (UR r) (A8 x F (bL p) (xK r) (H (UR r)) (zG x F p r)) (A8 x F (bL p) (xK r) (H ((b_ r.L r.ae r.i).aJ.toList==ID.toList)) (zG x F p r))))))/\aQ λ(o:jA)_=>xi x.x x.s->Br (cI wu (I x.x.L x.x.ae x.s).aJ) (T1 (G x.x x.s) ⟨x.x.b,1,none⟩ (λk=>aA (k+1)/\dM (aL f97 11 7) (oW x k) [G x.x x.s] (λj i=>cd x.n 97 (ef x) [G j.x j.t] (g [(0,G j.x j.t),(1,F),(2,D o.c (zy x) 56)] [0]) (λh n=>V o.c 1/\Br ((I x.x.L x.x.ae x.s).aJ.toList==ID.toList) (GB [W (bT x),Z n.fst,H false] [G h.x n.snd] (λf e=>V o.c 1/\∀(d:Nat),V o.c 3/\c7 (Ue x d) [G f.x f.s,D d (bI n) 3] (Uu x F o)) (λf b=>l (bh λ(a:ax)=>aj.unary) x F (Ch f) (E3 F o x))) (V o.c 1/\∀(d:Nat),V o.c 3/\c7 (Ue x d) [G h.x n.snd,D d (bI n) 3] (Uu x F o))) (λh b=>l (bh λ(a:ax)=>aj.unary) x F (q8 b) (E3 F o x))))) (Br (Vm x) (QB x F (qi o) (H (Vm x)) (E4 x F o)) (QB x F (qi o) (H ((I x.x.L x.x.ae x.s).aJ.toList==(ByteArray.mk #[45,45]).toList)) (E4 x F o))/\aQ λ(m:jA)_=>VP x->Br (cI [pp,mm] (I x.x.L x.x.ae x.s).aJ) (T1 (G x.x x.s) ⟨x.x.b,1,none⟩ (λk=>aA (k+1)/\dM (aL f97 18 7) (oW x k) [G x.x x.s] (λj i=>cd x.n 97 (ef x) [G j.x j.t] (g [(0,G j.x j.t),(1,F),(2,D m.c (zy x) 56)] [0]) (λh n=>GB [W (bT x),Z n.fst,H true] [G h.x n.snd] (λf e=>V m.c 1/\∀(d:Nat),V m.c 3/\c7 [W (bT x),agg ⟨[Z 12,C (I x.x.L x.x.ae x.s).aJ,float f64 4607182418800017408,Q (bq d) 1 1,Z (I x.x.L x.x.ae x.s).au]⟩] [G f.x f.s,D d (bI n) 3] (λc b=>l (bh λ(a:ax)=>aj.unary) x F (fG c) [(0,G c.x (c.s.add c.n)),(1,F),(2,D m.c (zy x) 56),(22040,aY)])) (λf b=>l (bh λ(a:ax)=>aj.unary) x F (Ch f) (E3 F m x))) (λh b=>l (bh λ(a:ax)=>aj.unary) x F (q8 b) (E3 F m x))))) (cd x.n 120 (ef x) [G x.x x.s] (g (E4 x F m) [0]) (λc b=>l (bh λ(a:ax)=>aj.unary) x F (ku b) [(0,G c.x b.snd),(1,F),(2,D m.c (zy x) 56)]) (λc b=>l (bh λ(a:ax)=>aj.unary) x F (q8 b) (E3 F m x))))
theorem apb(x:bc ax)(F:ag)(hc:aF.cond (bh (λ(_:ax)=>aj.unary)) x)(hr:aF.aE (bh (λ(_:ax)=>aj.unary)) x F):fq (ef x) (g [(0,G x.x x.s),(1,F)] []) (λr q=>∀(p:Nat),bQ p (V p 0/\Br (Ac r) (V p 0/\Br ((b_ r.L r.ae r.i).ak !=2) (cd x.n 120 (ef x) [G x.x x.s] (g (zG x F p r) [0]) (λc b=>l (bh λ(a:ax)=>aj.unary) x F (ku b) [(0,G c.x b.snd),(1,F),(2020,D p (q0 r) 56)]) (λc b=>l (bh λ(a:ax)=>aj.unary) x F (q8 b) [(0,aY),(1,F),(2020,D p (q0 r) 56)])) (q5 p r x F)) (q5 p r x F))):=by
 delta fq bT ef Ac cd q0 zG ku q8 Vt xX zy E4 A8 bq bL xK Vs Vr Vo UR ID T1 mK mL dM oW GB lB c7 Ue bI kV fG Uu Ch E3 Vm VP QB qi q5 g G V aA bQ bz dK lh Z C H W Q ce D aY al aQ;obtain⟨K,x,s,os,n,tp⟩:=x;obtain⟨ih,R,o,hp,O,N,t⟩:=hc;replace t:bm K x (n+1) .unary s≠.out:=t;dsimp only at ih R o hp O N⊢;obtain⟨r,e⟩:∃r,bm K x (n+1) .unary s=r:=⟨_,rfl⟩;rw[e]at t;have U:=e;unfold bm at U;rw[P]at U;have E:=R.len;rw[o7]at U;refine ba lR (x.p s) E (hr.ls.dc 0 1 X X rfl rfl) λ_ _ c=>?_
 repeat (refine⟨Y, ?_⟩)
 refine lH (A:=xi x s) (λS=>ar (λL=>⟨Y,ar (λf=>?_) (λf=>S ?_)⟩) (λL=>S ?_)) (λd=>?_);replace L:((I x.L x.ae s).ak !=5)=true:=L;replace f:((I x.L x.ae s).ak !=2)=true:=f;rw[L,f,Bool.and_self,aW]at U;exact ca o (v_ U t) (λ_ _ q _ _ _ _ _ _ _=>eD (e.trans q.symm)) (cB:=ai) (ct:=ai) (cP:=ai);exact .inr (Eu f);exact .inl (Eu L);have hb:((I x.L x.ae s).ak !=5&&(I x.L x.ae s).ak !=2)=false:=by rcases d with h|h <;> rw[h] <;> rfl
 rw[hb,y]at U;refine⟨Y, ?_, ?_⟩
 ·
  refine ar (λe1=>⟨⟨c⟩,d,⟨rfl,rfl,rfl, ?_,ai⟩,ao [0,1,2020]⟩) (λe1=>ar (λT=>⟨⟨c⟩,d,⟨rfl,rfl,rfl, ?_,ai⟩,ao [0,1,2020]⟩) (λT=>ar (λe3=>⟨⟨c⟩,d,⟨rfl,rfl,rfl, ?_,ai⟩,ao [0,1,2020]⟩) (λe3=>ar (λe4=>⟨⟨c⟩,d,⟨rfl,rfl,rfl, ?_,ai⟩,ao [0,1,2020]⟩) (λe4=>ar (λe5=>⟨⟨c⟩,d,⟨rfl,rfl,rfl, ?_,ai⟩,ao [0,1,2020]⟩) (λe5=>⟨⟨c⟩,d,⟨rfl,rfl,rfl, ?_,ai⟩,ao [0,1,2020]⟩)))))
  all_goals
   simp only[gq]at*;show bool (bx (I x.L x.ae s).aJ _)=bool (cI wu (I x.L x.ae s).aJ);congr 1;simp only[ah6,cI,wu,List.any_cons,List.any_nil];simp only[bY.p]at*;simp[*]
 rintro⟨c⟩ js-;refine ar (λh=>?_) (λh=>?_);rw[h,aW,mc]at U;refine⟨_,ee λ_=>rfl,oK (i:=s.i) (gi o.i E),gM rfl rfl rfl,rfl,⟨x,s,s.az,1,_⟩,rfl,rfl,⟨λ_=>rfl,rfl,by simp[*],rfl,rfl⟩,ai,λ_ _=>?_⟩;refine ca ((o.step d.lt)) (fH U t) (λk J U B u w m v j z=>?_) (cB:=ai) (ct:=ai) (cP:=ai);dsimp only[aj.sl,ap.az,ap.add]at u w m v j z;refine⟨Y,ar (λM=>?_) (λM=>?_)⟩;rw[gq]at M;rw[show bx (I x.L x.ae s).aJ WL=true from M,aW]at U;refine bG L7 ⟨x,J,k,false⟩ (B.gK X) ⟨λ_ q=>?_,λ_ q=>⟨.inr (_,_),⟨_,e.trans (U.symm.trans (O4 q))⟩,rfl,ao [1]⟩⟩;rw[O5 q]at U;rw[jy]at U;refine⟨Y,λlb=>⟨Y, ?_⟩⟩;refine bG fy ⟨x,J,⟨11,(I x.L x.ae s).aJ,0,[k],(I x.L x.ae s).au⟩,lT lb [k]⟩ ⟨by have:=B.aq E;grind,ki lb [k]⟩ λ_ _=>?_;exact eD (e.trans U.symm);rw[gq]at M;rw[show bx (I x.L x.ae s).aJ WL=false from M,y,iX]at U;rw[jy]at U;refine⟨Y,λlb=>⟨Y, ?_⟩⟩;refine bG fy ⟨x,J,⟨11,(I x.L x.ae s).aJ,0,[k],(I x.L x.ae s).au⟩,lT lb [k]⟩ ⟨by have:=B.aq E;grind,ki lb [k]⟩ λ_ _=>?_;exact eD (e.trans U.symm);rw[h,y]at U;refine⟨ar (λe1=>⟨⟨c⟩,⟨d,h⟩,⟨rfl,rfl, ?_,ai⟩,ao [0,1,2]⟩) (λe1=>⟨⟨c⟩,⟨d,h⟩,⟨rfl,rfl, ?_,ai⟩,ao [0,1,2]⟩), ?_⟩;simp only[gq]at*;show bool (bx (I x.L x.ae s).aJ _)=bool (cI [pp,mm] (I x.L x.ae s).aJ);congr 1;simp only[cI,pp,mm,List.any_cons,List.any_nil];simp[*];simp only[gq]at*;show bool (bx (I x.L x.ae s).aJ _)=bool (cI [pp,mm] (I x.L x.ae s).aJ);congr 1;simp only[cI,pp,mm,List.any_cons,List.any_nil];simp[*];rintro⟨c⟩ js-;refine ar (λf=>?_) (λf=>?_);rw[f,aW,mc]at U;refine⟨_,ee λ_=>rfl,oK (i:=s.i) (gi o.i E),gM rfl rfl rfl,rfl,⟨x,s,s.az,1,_⟩,rfl,rfl,⟨λ_=>rfl,rfl,by simp[*],rfl,rfl⟩,ai,λ_ _=>?_⟩;refine ca ((o.step d.lt)) (fH U t) (λk J U B u w m v j z=>?_) (cB:=ai) (ct:=ai) (cP:=ai);dsimp only[aj.sl,ap.az,ap.add]at u w m v j z;refine bG L7 ⟨x,J,k,true⟩ (B.gK X) ⟨λ_ q=>?_,λ_ q=>⟨.inr (_,_),⟨_,e.trans (U.symm.trans (O4 q))⟩,rfl,ao [1]⟩⟩;rw[O5 q]at U;rw[jy]at U;refine⟨Y,λlb=>⟨Y, ?_⟩⟩;refine bG fy ⟨x,J,⟨12,(I x.L x.ae s).aJ,iI,[k],(I x.L x.ae s).au⟩,lT lb [k]⟩ ⟨by have:=B.aq E;grind,ki lb [k]⟩ λ_ _=>?_;exact eD (e.trans U.symm);rw[f,y]at U;exact ca o (v_ U t) (λ_ _ q _ _ _ _ _ _ _=>eD (e.trans q.symm)) (cB:=ai) (ct:=ai) (cP:=ai)
theorem apa:aG 97 (bh (λ(_:ax)=>aj.unary)):=oI func97 ao_ ao9 apb
def afp(x:bc ax)(a:ag):List (Nat×Nat×OH):=[(1,1,q (cv x.n 149)),(2,1,aI jf),(2,2,.n 3020),(2,3,.w (eT 3020)),(3,1,z 3020),(3,5,z 3020),(3,9,z 3020),(3,13,z 3020),(5,2,q B6),(6,3,cD),(6,7,dU fQ),(7,2,z 3020),(7,4,.n 8040),(7,7,q vd),(7,9,.c fO [0,8040] [0])]
def afo:Nat->a_:=λr=>if r=7 then [0,1,2,3,5,6,7,4,8,9,10] else []
def S9(x:bc ax)(o:Int×ap)(p:ph)(m:Nat)(n:dm)(F:ag):=aG 25 B6/\true=true/\∃(k:Dv),[W (bT x),Z o.fst,H true]=[W (some ⟨k.x.b,0,none⟩),Z k.k,H k.pD]/\[G p.x o.snd]=[G k.x k.s]/\(0<=k.k/\k.k<k.s.a.length)/\True/\(∀(j:ax),lq k.s k.k k.pD=false->∃(i:Int),aH (G k.x k.s) ⟨x.x.b,1,none⟩ (Z i)/\((-9223372036854775808:Int)<=i+1/\i+1<=(9223372036854775807:Int))/\gY prog (aL f120 6 7) fQ/\true=true/\∃(h:yL),(oW x i)=[W (some ⟨h.x.b,h.k,none⟩),h.v]/\[G k.x k.s]=[G h.x h.s]/\((∀(a:aD),(mK h a).set h.k h.v=(mL h a))/\h.t.a=h.s.a/\h.k<7/\h.v.oneCell'=true/\h.v.cells=⟨[h.v]⟩)/\True/\∀(g:ax),True->true=true/\d6 ⟨m,1,none⟩ m/\aG 26 vd/\true=true/\∃(f:W7),[W (bT x),Z o.fst]=[W (some ⟨f.x.b,0,none⟩),Z f.k]/\[G h.x h.t]=[G f.x f.s]/\(0<=f.k/\f.k<f.s.a.length)/\True/\∀(e:ax),True->∀(d:Nat),aG 18 fO/\true=true/\∃(c:tI),[W (bT x),agg ⟨[Z 12,C (b_ n.L n.ae n.i).aJ,float f64 0,Q (bq d) 1 1,Z (dG f.s f.k)]⟩]=[W (some ⟨c.x.b,0,none⟩),agg ⟨[Z c.n.ak,C c.n.op,float f64 c.n.aT,Q c.kr.a c.kr.n c.kr.aq,Z c.n.au]⟩]/\[G f.x f.s,D d (bI o) 3]=[G c.x c.s,c.kr.A]/\lB c/\True/\∀(b:ax),True->l (bh λ(a:ax)=>aj.eo) x F (fG c) [(0,G c.x (c.s.add c.n)),(1,F),(3020,D m (q0 n) 56),(8040,aY)])/\∀(b:ax),lq k.s k.k k.pD=true->l (bh λ(a:ax)=>aj.eo) x F (Ch k) [(0,aY),(1,F),(3020,D m (q0 n) 56)]
theorem afr(x:bc ax)(F:ag)(hc:aF.cond (bh (λ(_:ax)=>aj.eo)) x)(hr:aF.aE (bh (λ(_:ax)=>aj.eo)) x F):cd x.n 149 (ef x) [G x.x x.s] (vX x F) (λp o=>fq (ef x) (g (mJ p o F) []) (λn m=>∀(d:Nat),bQ d (V d 0/\Br (Ac n) (l (bh λ(a:ax)=>aj.eo) x F (ku o) (zJ p o F d n)) (V d 4/\Br (b_ n.L n.ae n.i).aB (l (bh λ(a:ax)=>aj.eo) x F (ku o) (zJ p o F d n)) (d6 ⟨d,1,none⟩ d/\Br (!(b_ n.L n.ae n.i).aJ.toList==(ByteArray.mk #[43,43]).toList) (d6 ⟨d,1,none⟩ d/\Br (!(b_ n.L n.ae n.i).aJ.toList==(ByteArray.mk #[45,45]).toList) (l (bh λ(a:ax)=>aj.eo) x F (ku o) (zJ p o F d n)) (S9 x o p d n F)) (S9 x o p d n F)))))) (λp b=>l (bh λ(a:ax)=>aj.eo) x F (q8 b) (iK F)):=by
 delta cd bT ef vX fq mJ Ac ku q0 zJ oW mK mL bq bI lB kV fG Ch S9 q8 iK g G V bQ bz Z C H W Q ce D aY al;obtain⟨K,x,s,os,n,tp⟩:=x;obtain⟨ih,hK,T,hp,M,L,z⟩:=hc;replace z:bm K x (n+1) .eo s≠.out:=z;dsimp only at ih hK T hp M L⊢;obtain⟨r,u⟩:∃r,bm K x (n+1) .eo s=r:=⟨_,rfl⟩;rw[u]at z;have U:=u;unfold bm at U;rw[P]at U;have J:=hK.len;refine ca T (fH U z) (λk f U w N R E O B S=>?_) (cB:=ai) (ct:=ai) (cP:=ai);dsimp only[aj.sl,ap.az,ap.add]at N R E O B S;rw[o7]at U;refine ba lR (x.p f) J (hr.ls.dc 0 1 X X rfl rfl) λ_ _ c=>?_
 repeat (refine⟨Y, ?_⟩)
 refine lH (A:=(I x.L x.ae f).ak=5/\(I x.L x.ae f).aB=false/\(bx (I x.L x.ae f).aJ pp||bx (I x.L x.ae f).aJ mm)=true) (λkx=>ar (λh=>?_) (λh=>⟨Y,ar (λj=>?_) (λj=>⟨Y,ar (λv=>⟨Y,ar (λt=>?_) (λt=>kx ⟨Eu h,j, ?_⟩)⟩) (λv=>kx ⟨Eu h,j, ?_⟩)⟩)⟩)) (λhx=>?_);replace h:((I x.L x.ae f).ak !=5)=true:=h;rw[h,Bool.true_or,aW]at U;exact eD (u.trans U.symm);replace h:((I x.L x.ae f).ak !=5)=false:=h;replace j:(I x.L x.ae f).aB=true:=j;rw[h,j,Bool.true_or,oG,aW]at U;exact eD (u.trans U.symm);replace h:((I x.L x.ae f).ak !=5)=false:=h;replace j:(I x.L x.ae f).aB=false:=j;rw[gq]at v t;rw[h,j,show(!bx (I x.L x.ae f).aJ pp)=true from v,show(!bx (I x.L x.ae f).aJ mm)=true from t]at U;exact eD (u.trans U.symm);rw[gq]at t;have t:(!bx (I x.L x.ae f).aJ mm)=false:=t;grind;rw[gq]at v;have v:(!bx (I x.L x.ae f).aJ pp)=false:=v;grind;obtain⟨h,j,v⟩:=hx;have t:(!bx (I x.L x.ae f).aJ pp&& !bx (I x.L x.ae f).aJ mm)=false:=by grind
 rw[h,j,t]at U;simp only[bne_self_eq_false,Bool.or_false,y]at U;have hi:f.i<x.L.length:=w9 (ae:=x.ae) (λe=>by rw[e]at h;cases h);refine bG L7 ⟨x,f,k,true⟩ (w.gK X) ⟨λ_ q=>?_,λ_ q=>⟨.inr (_,_),⟨_,u.trans (U.symm.trans (O4 q))⟩,rfl,ao [1]⟩⟩;rw[O5 q]at U;rw[mc,CZ,jy]at U;refine⟨_,ee λ_=>rfl,oK (i:=f.i) (gi w.i J),gM rfl rfl rfl,rfl,⟨x,f,f.az,1,_⟩,rfl,rfl,⟨λ_=>rfl,rfl,by simp[*],rfl,rfl⟩,ai,λ_ _=>?_⟩;refine⟨rfl,Y, ?_⟩;refine bG yR ⟨x,f.az,k⟩ (((w.step hi)).gK X) λ_ _=>?_;intro lb;refine bG fy ⟨x,f.az,⟨12,(I x.L x.ae f).aJ,0,[k],dG f.az k⟩,lT lb [k]⟩ ⟨by have:=((w.step hi)).aq J;grind,ki lb [k]⟩ λ_ _=>?_;exact eD (u.trans U.symm)
theorem afq:aG 120 (bh (λ(_:ax)=>aj.eo)):=fo 47 func120 afp [] dV dV afo [] afr
def amg(x:bc ax)(a:ag):List (Nat×Nat×OH):=[(1,1,q iU),(2,1,q (cv x.n 10)),(3,1,q iU)]
theorem ami(x:bc ax)(F:ag)(D:aF.cond (bh (λ(_:ax)=>aj.paren)) x)(J:aF.aE (bh (λ(_:ax)=>aj.paren)) x F):gE [W (bT x),C ⟨#[40]⟩] [G x.x x.s] (vX x F) (λh f=>cd x.n 10 (ef x) [G h.x h.s.az] (g (n0 h F) [0]) (λe d=>gE [W (bT x),C ⟨#[41]⟩] [G e.x d.snd] (g (mJ e d F) [0]) (λc b=>l (bh λ(a:ax)=>aj.paren) x F (ku d) (n0 c F)) (λc b=>l (bh λ(a:ax)=>aj.paren) x F (gI c) (iK F))) (λe b=>l (bh λ(a:ax)=>aj.paren) x F (q8 b) (iK F))) (λh b=>l (bh λ(a:ax)=>aj.paren) x F (gI h) (iK F)):=by
 delta jR gE bT vX cd ef n0 mJ ku gI iK q8 g G Z C W ce aY al;obtain⟨K,x,s,L,n,N⟩:=x;obtain⟨E,z,y,hp,q,p,i⟩:=D;replace i:bm K x (n+1) .paren s≠.out:=i;dsimp only at E z y hp q p⊢;obtain⟨r,m⟩:∃r,bm K x (n+1) .paren s=r:=⟨_,rfl⟩;rw[m]at i;have U:=m;unfold bm at U;rw[P]at U;have I:=z.len;refine ma y U (λU A=>?_);refine ca A (fH U i) (λk M U B t v o u j w=>?_) (cB:=ai) (ct:=ai) (cP:=ai);dsimp only[aj.sl,ap.az,ap.add]at t v o u j w;refine ma B U (λU H=>?_);exact eD (m.trans U.symm)
theorem amh:aG 78 (bh (λ(_:ax)=>aj.paren)):=iB func78 amg ami
theorem PG.RY{t:ap}{os:aM}(h:PG x s os)(e:t.i=s.i)(a:t.a=s.a)(b:0<=t.h/\t.h<=s.i)(c:0<=t.loops/\t.loops<=s.i)(d:0<=t.d/\t.d<=s.i):PG x t os:=
 ⟨by rw[e];exact h.i,h.fo.same a,by rw[e,a];exact h.nd,by rw[e];exact b,by rw[e];exact c,by rw[e];exact d⟩
def ajp(x:bc ax)(a:ag):List (Nat×Nat×OH):=[(1,3,cD),(1,7,dU fQ),(2,3,cD),(2,7,dU fQ),(3,1,q (cv x.n 17)),(4,3,cD),(4,7,dU fQ),(5,3,cD),(5,7,dU fQ)]
theorem ajt(x:bc ax)(F:ag)(M:aF.cond (bh (λ(_:ax)=>aj.loop)) x)(X:aF.aE (bh (λ(_:ax)=>aj.loop)) x F):T1 (G x.x x.s) ⟨x.x.b,5,none⟩ (λo=>aA (o+1)/\dM (aL f79 1 7) [W (some ⟨x.x.b,5,none⟩),Z (o+1)] [G x.x x.s] (λn m=>T1 (G n.x n.t) ⟨x.x.b,6,none⟩ (λp=>aA (p+1)/\dM (aL f79 2 7) [W (some ⟨x.x.b,6,none⟩),Z (p+1)] [G n.x n.t] (λk j=>cd x.n 17 [W (bT x),H false] [G k.x k.t] (g [(0,G k.x k.t),(1,F)] [0]) (λi h=>T1 (G i.x h.snd) ⟨x.x.b,5,none⟩ (λq=>aA (q-1)/\dM (aL f79 4 7) [W (some ⟨x.x.b,5,none⟩),Z (q-1)] [G i.x h.snd] (λf e=>T1 (G f.x f.t) ⟨x.x.b,6,none⟩ (λd=>aA (d-1)/\dM (aL f79 5 7) [W (some ⟨x.x.b,6,none⟩),Z (d-1)] [G f.x f.t] (λc b=>l (bh λ(a:ax)=>aj.loop) x F (ku h) [(0,G c.x c.t),(1,F)]))))) (λi b=>l (bh λ(a:ax)=>aj.loop) x F (q8 b) (iK F)))))):=by
 delta T1 mK mL dM cd bT ku q8 iK g G aA lh Z H W Q ce aY al;obtain⟨K,x,s,Y,n,tp⟩:=x;obtain⟨N,L,v,hp,C,w,y⟩:=M;replace y:bm K x (n+1) .loop s≠.out:=y;dsimp only at N L v hp C w⊢;obtain⟨r,A⟩:∃r,bm K x (n+1) .loop s=r:=⟨_,rfl⟩;rw[A]at y;have U:=A;unfold bm at U;rw[P]at U;have V:=L.len;rw[nt,C1]at U;obtain⟨q1,q2⟩:s.loops<s.i/\s.d<s.i:=w;have O:=v.l;have R:=v.b;have S:=v.i;refine⟨_,ee λ_=>rfl,aC,gM rfl rfl rfl,rfl,⟨x,s,⟨s.i,s.a,s.h,s.loops+1,s.d⟩,5,_⟩,rfl,rfl,⟨λ_=>rfl,rfl,by simp[*],rfl,rfl⟩,ai,λ_ _=>?_⟩;refine⟨_,ee λ_=>rfl,⟨by grind,by grind⟩,gM rfl rfl rfl,rfl,⟨x,⟨s.i,s.a,s.h,s.loops+1,s.d⟩,⟨s.i,s.a,s.h,s.loops+1,s.d+1⟩,6,_⟩,rfl,rfl,⟨λ_=>rfl,rfl,by simp[*],rfl,rfl⟩,ai,λ_ _=>?_⟩;refine ca ((v.RY (t:=⟨s.i,s.a,s.h,s.loops+1,s.d+1⟩) rfl rfl v.f ⟨by grind,by grind⟩ ⟨by grind,by grind⟩)) (fH U y) (λk u U T D I B E z J=>?_) (cB:=ai) (ct:=ai) (cP:=ai);dsimp only[aj.sl,ap.az,ap.add]at D I B E z J;rw[nt,C1]at U;refine⟨_,ee λ_=>rfl,⟨by grind,by grind⟩,gM rfl rfl rfl,rfl,⟨x,u,⟨u.i,u.a,u.h,u.loops-1,u.d⟩,5,_⟩,rfl,rfl,⟨λ_=>rfl,rfl,by simp[*],rfl,rfl⟩,ai,λ_ _=>?_⟩;refine⟨_,ee λ_=>rfl,⟨by grind,by grind⟩,gM rfl rfl rfl,rfl,⟨x,⟨u.i,u.a,u.h,u.loops-1,u.d⟩,⟨u.i,u.a,u.h,u.loops-1,u.d-1⟩,6,_⟩,rfl,rfl,⟨λ_=>rfl,rfl,by simp[*],rfl,rfl⟩,ai,λ_ _=>?_⟩;exact eD (A.trans U.symm)
theorem ajr:aG 79 (bh (λ(_:ax)=>aj.loop)):=iB func79 ajp ajt
end
section
variable{K:bD}{os:aM}{dJ:a_}{n:Nat}{s:ap}{x:bY}{S:St}{tag:aj}{α:Type}
theorem eZ{β γ:Type}{m:j α}{f:α->j β}{g:β->j γ}:((m>>=f)>>=g) s=(m>>=λa=>f a>>=g) s:=by
 show bP (bP m f) g s=bP m (λa=>bP (f a) g) s;unfold bP;grind
theorem aaq{f:Nat}(h:f<=n)(a:bm K x f tag s≠.out):bm K x n tag s=bm K x f tag s:=by
 rcases JF (L:=x.L) (ae:=x.ae) (aO:=K.tv) (wide:=bo) h tag s with e|e
 all_goals grind
theorem Rn.up{f:Nat}{a:Int->ap->PR α}{r:PR α}(h:Rn (bm K x f tag s) a r)(b:f<=n):Rn (bm K x n tag s) a r:=by
 have e:bm K x n tag s=bm K x f tag s:=aaq b h.o;simp[*]
theorem xg(k:Int):∀u∈a7 [k],u.oneCell'=true:=by
 intro u a;have:u= .int .i64 k:=by simpa[a7]using a
 subst this;rfl
theorem ye{ks:aM}{r:Row}(h:bl 3 1 (a7 ks) r)(hn:ks.length<=4194304):(r.n+1)*8<=140737488355328:=by
 have:=h.len;rw[Ee]at this;omega
theorem yf{ks:aM}{r:Row}(h:bl 3 1 (a7 ks) r)(hn:ks.length<=4194304):r.n+1<=9223372036854775807:=by
 have:=h.len;rw[Ee]at this;omega
theorem yk{b:Nat}{ks:aM}(j:Nat)(e:gt S j= .cells b (a7 ks) 3)(c:j∉dJ:=by simp):∀a,(some ⟨b,0,none⟩:bv)=some a->cR (.cJ (rest S dJ)) a (a7 ks):=λa d=>by
 cases d;refine cR.rest c ?_;rw[e];exact cR.cells (λj u c=>by rw[gZ];exact c)
theorem mn{o:Oper}{lb:Nat}{c:Row}{ks:aM}{k:Int}{g:aN}{pp:List ag}{i:rS->Row->Prop}(j:Nat)(b:bl 3 1 (a7 ks) c)(hn:ks.length<=4194304)
  (d:∀f,bl 3 1 (a7 (ks++[k])) f->i ⟨c,a7 ks,some ⟨lb,0,none⟩,1,1,a7 [k]⟩ f)
  (h:gY prog o (cS 3 1 8):=by exact iN 1 8 rfl rfl rfl rfl rfl rfl rfl (by decide)) (m:g=[.slice c.a c.n c.aq,.slice (some ⟨lb,0,none⟩) 1 1]:=by exact rfl) (hp:pp=[c.A]:=by exact rfl)
  (e:gt S j= .cells lb (a7 [k]) 3:=by exact rfl) (n:j∉dJ:=by simp):
  gY prog o (cS 3 1 8)/\true=true/\∃z:rS,g=[.slice z.r.a z.r.n z.r.aq,.slice z.a z.m z.c]/\pp=[z.r.A]/\
   (bl 3 1 z.cs z.r/\z.ys.length=z.m*1/\(∀u:aD,u∈z.ys->u.oneCell'=true)/\(z.r.n+z.m)*8<=140737488355328/\z.r.n+z.m<=9223372036854775807/\(z.a=none->z.m=0/\z.c=0))/\
   (∀a:Addr,z.a=some a->cR (.cJ (rest S dJ)) a z.ys)/\∀y:Row,(bl 3 1 (z.cs++z.ys) y/\y.n=z.r.n+z.m/\(z.m=0->y=z.r))->i z y:=
 ⟨h,rfl,⟨c,a7 ks,some ⟨lb,0,none⟩,1,1,a7 [k]⟩,m,hp,⟨b,rfl,xg _,ye b hn,yf b hn,λh=>nomatch h⟩,yk j e n,λf l=>d f (by rw[xf];exact l.1)⟩
theorem aii(n:Nat):(oL n).length=n:=by unfold oL;simp
theorem bM.len{ae:Int}(h:bM ae s os):os.length<=s.a.length:=by
 have:=h.rn.length_eq;rw[aii,eH]at this;omega
theorem qH{ks:aM}(h:PG x s (os++ks))(a:x.L.length<=1048576):ks.length<=2097152:=by
 have b:=h.fo.len;have c:=h.aq a;grind
structure pg where
 t:ap
 ks:aM
 r:Row
 f:Nat
 c:Nat
def m_(c:Nat)(ak:Int)(op:ah)(aT:Nat)(r:Row)(au:Int):ag:=.cells c [.int .i64 ak,.string op,.float .f64 aT,.slice r.a r.n r.aq,.int .i64 au] 35
abbrev jQ(x:bc Bool):bv:=some ⟨x.x.b,0,none⟩
abbrev uz(d:pg):bv:=some ⟨d.c,0,none⟩
def akY(x:bc Bool)(F:ag):Nat->Option Inv:=fun
 |0=>some {X:=pg,P:=λd=>PG x.x d.t (x.os++d.ks)/\bl 3 1 (a7 d.ks) d.r/\d.f<=x.n/\(P x.x.L x.x.ae x.K.tv bo d.f (.gQ d.ks x.t)>>=λa=>cj ⟨23,.empty,0,a,(I x.x.L x.x.ae x.s).au⟩) d.t=bm x.K x.x (x.n+1) (.block x.t) x.s,mu:=λd=>d.f,lv:=λd=>[(0,W (jQ x)),(1,H x.t),(5,W (uz d))],st:=λd=>[G x.x d.t,F,(m_ d.c 23 .empty 0 d.r (I x.x.L x.x.ae x.s).au),d.r.A]}
 |_=>none
def akZ(x:bc Bool)(a:ag):List (Nat×Nat×OH):=[(1,1,aI jf),(1,4,.n 2040),(1,5,.w (eT 2040)),(2,1,q iU),(3,1,q iQ),(4,1,z 2),(4,4,q (cv x.n 17)),(4,5,.n 5050),(4,6,.o (cS 3 1 8) [3] [3]),(4,8,.w [.aS 2]),(5,1,.q (eT 2)),(5,2,.c fO [0,3] [0])]
abbrev M7(p:dm):aN:=[Z 23,C ⟨#[]⟩,float f64 0,Q none 0 0,Z (b_ p.L p.ae p.i).au]
def Md(x:bc Bool)(b:pg):=PG x.x b.t (x.os++b.ks)/\bl 3 1 (a7 b.ks) b.r/\b.f<=x.n/\(P x.x.L x.x.ae x.K.tv bo b.f (aj.gQ b.ks x.t)>>=λ(a:aM)=>cj ⟨(23:Int),ByteArray.empty,0,a,(I x.x.L x.x.ae x.s).au⟩) b.t=bm x.K x.x (x.n+1) (aj.block x.t) x.s
abbrev CK(b:pg)(x:bc Bool):aN:=[Z 23,C ByteArray.empty,float f64 0,Q b.r.a b.r.n b.r.aq,Z (I x.x.L x.x.ae x.s).au]
abbrev N7(x:bc Bool)(b:pg)(F:ag):=[(0,G x.x b.t),(1,F),(2,D b.c (CK b x) 35),(3,b.r.A)]
abbrev rz:rS->Prop:=λa=>bl 3 1 a.cs a.r/\a.ys.length=a.m*1/\mM a/\(a.r.n+a.m)*8<=140737488355328/\a.r.n+a.m<=9223372036854775807/\jx a
def gu(c:Oper):=jc c (cS (3:TypeId) 1 8) rz l6 (λa b=>bl 3 1 (a.cs++a.ys) b/\b.n=a.r.n+a.m/\(a.m=0->b=a.r))
theorem ak1(x:bc Bool)(F:ag)(hc:aF.cond (bh (λ(b:Bool)=>aj.block b)) x)(hr:aF.aE (bh (λ(b:Bool)=>aj.block b)) x F):fq [W (jQ x)] (g [(0,G x.x x.s),(1,F)] []) (λp o=>∀(n:Nat),bQ n (gE [W (jQ x),C ⟨#[123]⟩] [G x.x x.s] (g [(0,G x.x x.s),(1,F),(2040,D n (M7 p) 35)] [0]) (λm j=>(∃(b:pg),Md x b/\(W (jQ x)=W (jQ x)/\H x.t=H x.t/\W (bq n)=W (uz b)/\True)/\ay [(0,G m.x m.s.az),(1,F),(2040,D n (M7 p) 35)] (N7 x b F))/\aQ λ(k:pg)_=>Md x k->fW [W (jQ x),C ⟨#[125]⟩] [G x.x k.t] (g (N7 x k F) [0]) (λi d=>bQ k.c (c7 [W (jQ x),agg ⟨CK k x⟩] [G i.x i.s.az,k.r.A] (λc b=>l (bh λ(a:Bool)=>aj.block a) x F (fG c) [(0,G c.x (c.s.add c.n)),(1,F),(2,D k.c (CK k x) 35),(3,aY)]))) (λi h=>true=true/\V k.c 3/\cd x.n 17 [W (jQ x),H x.t] [G i.x i.s] (g [(0,G i.x i.s),(1,F),(2,D k.c (CK k x) 35),(3,k.r.A)] [0]) (λu f=>∀(e:Nat),gu (aL f45 4 6) [Q k.r.a k.r.n k.r.aq,Q (bq e) 1 1] [k.r.A] (g [(0,G u.x f.snd),(1,F),(2,D k.c (CK k x) 35),(3,k.r.A),(5050,D e (bI f) 3)] [3]) (λd c=>V k.c 3/\∃(b:pg),Md x b/\(W (jQ x)=W (jQ x)/\H x.t=H x.t/\W (uz k)=W (uz b)/\True)/\ay [(0,G u.x f.snd),(1,F),(2,D k.c [Z 23,C ByteArray.empty,float f64 0,Q c.a c.n c.aq,Z (I x.x.L x.x.ae x.s).au] 35),(3,c.A),(5050,D e (bI f) 3)] (N7 x b F)/\b.f<k.f)) (λu c=>∀(b:Tm),l (bh λ(a:Bool)=>aj.block a) x F (q8 c) [(0,aY),(1,F),(2,D k.c (CK k x) 35),(3,k.r.A)]))) (λm b=>l (bh λ(a:Bool)=>aj.block a) x F (gI m) [(0,aY),(1,F),(2040,D n (M7 p) 35)]))):=by
 delta fq jQ jR gE M7 Md bq uz CK N7 fW lB c7 kV fG cd mM jx rz l6 gu bI q8 gI g G V bQ bz dK jc Z C H W Q ce D aY al aQ;obtain⟨K,x,s,os,n,tp⟩:=x;obtain⟨ih,hK,hG,hp,N,M,A⟩:=hc;replace A:bm K x (n+1) (.block tp) s≠.out:=A;dsimp only at ih hK hG hp N M⊢;obtain⟨r,w⟩:∃r,bm K x (n+1) (.block tp) s=r:=⟨_,rfl⟩;rw[w]at A;have U:=w;unfold bm at U;rw[P]at U;have B:=hK.len;rw[o7]at U;refine ba lR (x.p s) B (hr.ls.dc 0 1 X X rfl rfl) λ_ _ c=>?_
 repeat (refine⟨Y, ?_⟩)
 refine ma hG U (λU L=>?_);refine⟨⟨⟨s.az,[],dq,n,c⟩,⟨L.cast (dQ _).symm,.nil rfl,bK _,U.trans w.symm⟩,aU,ao [0,1,2040,999]⟩, ?_⟩;clear U;rintro⟨t,S,r',f,c⟩ js ⟨u,v,z,U⟩;dsimp only at u v z U⊢;rw[w]at U;obtain _|f:=f;exact absurd U (λe=>A (e.symm.trans (by rw[P] <;> rfl)));replace z:f<=n:=Nat.le_of_succ_le z;rw[P,eZ]at U;refine ba kM ⟨x,t,rc⟩ ⟨B,u.i⟩ (hr.ls.sub (bB 1)) ⟨λ_ q=>?_,λ_ q=>?_⟩;rw[mb q,aW,iX,jy]at U;have g2:=u.is q
 repeat (refine⟨Y, ?_⟩)
 refine bG fy ⟨x,t.az,⟨23,.empty,0,S,(I x.L x.ae s).au⟩,r'⟩ ⟨by have:=g2.aq B;grind,v⟩ λ_ _=>?_;exact eD (w.trans U.symm);rw[mO q,y,eZ]at U;refine⟨rfl,Y, ?_⟩;refine ca u ((fH U A).up z) (λk t1 U L R x0 J T E x1=>?_) (cB:=ai) (ct:=ai) (cP:=ai);dsimp only[aj.sl,ap.az,ap.add]at R x0 J T E x1;intro lb;have x2:=qH u B;refine mn (ks:=S) (k:=k) 5050 v O (λr2 h2=>?_);exact⟨Y,⟨t1,S++[k],r2,f,c⟩,⟨L.cast (jJ _ _ _),h2,z,U.trans w.symm⟩,aU,ao [0,1,2,3],jd _⟩
theorem ak0:aG 45 (bh (λ(b:Bool)=>aj.block b)):=mt func45 akZ akY ak1
structure GV where
 t:ap
 ks:aM
 r:Row
 f:Nat
 c:Nat
 d:Nat
 w:ah
 kd:aM
 rd:Row
 p:Int
def amS(x:bc ax)(F:ag):Nat->Option Inv:=fun
 |0=>some {X:=pg,P:=λd=>PG x.x d.t (x.os++d.ks)/\bl 3 1 (a7 d.ks) d.r/\d.f<=x.n/\(P x.x.L x.x.ae x.K.tv bo d.f (.eO d.ks)>>=λa=>cj ⟨21,.empty,0,a,(I x.x.L x.x.ae x.s).au⟩) d.t=bm x.K x.x (x.n+1) .vars x.s,mu:=λd=>d.f,lv:=λd=>[(0,W (bT x)),(3,W (uz d))],st:=λd=>[G x.x d.t,F,(m_ d.c 21 .empty 0 d.r (I x.x.L x.x.ae x.s).au),d.r.A]}
 |_=>none
def amR(x:bc ax)(F:ag):Nat->Option Inv:=fun
 |7=>some {X:=GV,gh:=some ⟨Nat,λd=>d.f⟩,P:=λd=>PG x.x d.t (x.os++d.ks++d.kd)/\bl 3 1 (a7 d.ks) d.r/\bl 3 1 (a7 d.kd) d.rd/\d.f<=x.n/\(0<=d.p/\d.p<=x.x.ae)/\d.t.a.length+1<=2*d.t.i/\((dX ⟨22,d.w,0,d.kd,d.p⟩>>=λk=>cT x.x.L qV>>=λh=>bif !h then ret (d.ks++[k]) else P x.x.L x.x.ae x.K.tv bo d.f (.eO (d.ks++[k])))>>=λa=>cj ⟨21,.empty,0,a,(I x.x.L x.x.ae x.s).au⟩) d.t=bm x.K x.x (x.n+1) .vars x.s,mu:=λ_=>0,lv:=λd=>[(0,W (bT x)),(3,W (some ⟨d.c,0,none⟩)),(4,W (some ⟨d.d,0,none⟩))],st:=λd=>[G x.x d.t,F,(m_ d.c 21 .empty 0 d.r (I x.x.L x.x.ae x.s).au),d.r.A,m_ d.d 22 d.w 0 d.rd d.p,d.rd.A]}
 |_=>none
def amT(x:bc ax)(a:ag):List (Nat×Nat×OH):=[(1,1,aI jf),(1,4,.n 2040),(1,5,.w (eT 2040)),(2,3,cD),(2,7,dU fQ),(3,1,aI jf),(3,4,.n 4040),(3,5,.w (eT 4040)),(4,1,q wv),(4,3,.w [.aS 4040]),(5,1,q iQ),(6,1,q (cv x.n 10)),(6,2,.n 7020),(6,4,.w [.aS 4040]),
 (7,1,z 2),(7,3,.q (eT 4)),(7,4,.c fO [0,5] [0]),(7,5,.n 8050),(7,6,.o (cS 3 1 8) [3] [3]),(7,8,.w [.aS 2]),(8,1,q iQ),(9,1,.q (eT 2)),(9,2,.c fO [0,3] [0])]
def Me(x:bc ax)(b:pg):=PG x.x b.t (x.os++b.ks)/\bl 3 1 (a7 b.ks) b.r/\b.f<=x.n/\(P x.x.L x.x.ae x.K.tv bo b.f (aj.eO b.ks)>>=λ(a:aM)=>cj ⟨(21:Int),ByteArray.empty,0,a,(I x.x.L x.x.ae x.s).au⟩) b.t=bm x.K x.x (x.n+1) aj.vars x.s
abbrev xQ(b:pg)(x:bc ax):aN:=[Z 21,C ByteArray.empty,float f64 0,Q b.r.a b.r.n b.r.aq,Z (I x.x.L x.x.ae x.s).au]
abbrev N6(x:bc ax)(b:pg)(F:ag):=[(0,G x.x b.t),(1,F),(2,D b.c (xQ b x) 35),(3,b.r.A)]
def A9(a:aN)(pp:List ag)(d:ag)(b:lI->ax->Prop)(c:lI->ax->Prop):=aG 112 wv/\true=true/\∃(z:lI),a=(o4 z)/\pp=[G z.x z.s]/\z.x.L.length<=1048576/\gX z.x d/\(∀(e:ax),(I z.x.L z.x.ae z.s).ak=1->b z e)/\∀(f:ax),((I z.x.L z.x.ae z.s).ak=1->False)->c z f
abbrev US(t:dm):aN:=[Z 22,C ⟨#[]⟩,float f64 0,Q none 0 0,Z (b_ t.L t.ae t.i).au]
abbrev HT(q:lI)(t:dm):aN:=[Z 22,C (I q.x.L q.x.ae q.s).aJ,float f64 0,Q none 0 0,Z (b_ t.L t.ae t.i).au]
abbrev UV(z:GV)(a:bc ax):aN:=[Z 21,C ByteArray.empty,float f64 0,Q z.r.a z.r.n z.r.aq,Z (I a.x.L a.x.ae a.s).au]
abbrev Ce(z:GV):aN:=[Z 22,C z.w,float f64 0,Q z.rd.a z.rd.n z.rd.aq,Z z.p]
def QD(a:bc ax)(e1:Nat)(b:ag)(d e:aD)(c:St):=∃(z:GV),((PG a.x z.t (a.os++z.ks++z.kd)/\bl 3 1 (a7 z.ks) z.r/\bl 3 1 (a7 z.kd) z.rd/\z.f<=a.n/\(0<=z.p/\z.p<=a.x.ae)/\z.t.a.length+1<=2*z.t.i/\((do let k <-dX ⟨(22:Int),z.w,0,z.kd,z.p⟩ let h <-cT a.x.L qV bif !h then ret (z.ks++[k]) else P a.x.L a.x.ae a.K.tv bo z.f (aj.eO (z.ks++[k])))>>=λ(f:aM)=>cj ⟨(21:Int),ByteArray.empty,0,f,(I a.x.L a.x.ae a.s).au⟩) z.t=bm a.K a.x (a.n+1) aj.vars a.s)/\z.f=e1)/\(W (bT a)=W (bT a)/\d=W (some ⟨z.c,0,none⟩)/\e=W (some ⟨z.d,0,none⟩)/\True)/\ay c [(0,G a.x z.t),(1,b),(2,D z.c (UV z a) 35),(3,z.r.A),(4,D z.d (Ce z) 35),(5,z.rd.A)]
abbrev qk(l:tI):aN:=[Z ↑l.s.a.length]
abbrev HU(f:Row)(x:bc ax):aN:=[Z 21,C ByteArray.empty,float f64 0,Q f.a f.n f.aq,Z (I x.x.L x.x.ae x.s).au]
abbrev Cf(q:lI):=panicked [{v:=ce 54 (agg ⟨[Z (I q.x.L q.x.ae q.s).au,Z 60]⟩),recovered:=false}]
theorem amV(x:bc ax)(F:ag)(hc:aF.cond (bh (λ(_:ax)=>aj.vars)) x)(hr:aF.aE (bh (λ(_:ax)=>aj.vars)) x F):fq (ef x) (g [(0,G x.x x.s),(1,F)] []) (λm u=>∀(B:Nat),bQ B (T1 (G x.x x.s) ⟨x.x.b,1,none⟩ (λA=>aA (A+1)/\dM (aL f75 2 7) (oW x A) [G x.x x.s] (λz v=>(∃(b:pg),Me x b/\(W (bT x)=W (bT x)/\W (bq B)=W (uz b)/\True)/\ay [(0,G z.x z.t),(1,F),(2040,D B [Z 21,C ⟨#[]⟩,float f64 0,Q none 0 0,Z (b_ m.L m.ae m.i).au] 35)] (N6 x b F))/\aQ λ(w:pg)_=>Me x w->fq (ef x) (g (N6 x w F) []) (λt s=>∀(r:Nat),bQ r (A9 (ef x) [G x.x w.t] (g [(0,G x.x w.t),(1,F),(2,D w.c (xQ w x) 35),(3,w.r.A),(4040,D r (US t) 35)] [0]) (λq p=>V r 1/\∃(o:Nat),fW [W (bT x),C ⟨#[61]⟩] [G q.x q.s.az] (g [(0,G q.x q.s.az),(1,F),(2,D w.c (xQ w x) 35),(3,w.r.A),(4040,D r (HT q t) 35)] [0]) (λE f=>cd x.n 10 (ef x) [G E.x E.s.az] (g [(0,G E.x E.s.az),(1,F),(2,D w.c (xQ w x) 35),(3,w.r.A),(4040,D r (HT q t) 35)] [0]) (λe d=>∀(c:Nat),V r 3/\QD x o F (W (uz w)) (bL r) [(0,G e.x d.snd),(1,F),(2,D w.c (xQ w x) 35),(3,w.r.A),(4040,D r [Z 22,C (I q.x.L q.x.ae q.s).aJ,float f64 0,Q (bq c) 1 1,Z (b_ t.L t.ae t.i).au] 35),(7020,D c (bI d) 3)]) (λe b=>l (bh λ(a:ax)=>aj.vars) x F (q8 b) [(0,aY),(1,F),(2,D w.c (xQ w x) 35),(3,w.r.A),(4040,D r (HT q t) 35)])) (λE c=>QD x o F (W (uz w)) (bL r) [(0,G E.x E.s),(1,F),(2,D w.c (xQ w x) 35),(3,w.r.A),(4040,D r (HT q t) 35)])/\aQ λ(n:GV)_=>((PG x.x n.t (x.os++n.ks++n.kd)/\bl 3 1 (a7 n.ks) n.r/\bl 3 1 (a7 n.kd) n.rd/\n.f<=x.n/\(0<=n.p/\n.p<=x.x.ae)/\n.t.a.length+1<=2*n.t.i/\((do let k <-dX ⟨(22:Int),n.w,0,n.kd,n.p⟩ let h <-cT x.x.L qV bif !h then ret (n.ks++[k]) else P x.x.L x.x.ae x.K.tv bo n.f (aj.eO (n.ks++[k])))>>=λ(a:aM)=>cj ⟨(21:Int),ByteArray.empty,0,a,(I x.x.L x.x.ae x.s).au⟩) n.t=bm x.K x.x (x.n+1) aj.vars x.s)/\n.f=o)->true=true/\V n.c 3/\bQ n.d (c7 [W (bT x),agg ⟨Ce n⟩] [G x.x n.t,n.rd.A] (λH j=>∀(i:Nat),gu (aL f75 7 6) [Q n.r.a n.r.n n.r.aq,Q (bq i) 1 1] [n.r.A] (g [(0,G H.x (H.s.add H.n)),(1,F),(2,D n.c (UV n x) 35),(3,n.r.A),(4,D n.d (Ce n) 35),(5,aY),(8050,D i (qk H) 3)] [3]) (λE f=>V n.c 3/\fW [W (bT x),C ⟨#[44]⟩] [G H.x (H.s.add H.n)] (g [(0,G H.x (H.s.add H.n)),(1,F),(2,D n.c (HU f x) 35),(3,f.A),(4,D n.d (Ce n) 35),(5,aY),(8050,D i (qk H) 3)] [0]) (λe c=>∃(b:pg),Me x b/\(W (bT x)=W (bT x)/\W (some ⟨n.c,0,none⟩)=W (uz b)/\True)/\ay [(0,G e.x e.s.az),(1,F),(2,D n.c (HU f x) 35),(3,f.A),(4,D n.d (Ce n) 35),(5,aY),(8050,D i (qk H) 3)] (N6 x b F)/\b.f<w.f) (λe d=>bQ n.c (c7 [W (bT x),agg ⟨HU f x⟩] [G e.x e.s,f.A] (λc b=>l (bh λ(a:ax)=>aj.vars) x F (fG c) [(0,G c.x (c.s.add c.n)),(1,F),(2,D n.c (HU f x) 35),(3,aY),(4,D n.d (Ce n) 35),(5,aY),(8050,D i (qk H) 3)]))))))) (λq b=>l (bh λ(a:ax)=>aj.vars) x F (Cf q) [(0,aY),(1,F),(2,D w.c (xQ w x) 35),(3,w.r.A),(4040,D r (US t) 35)]))))))):=by
 delta fq bT ef T1 mK mL dM oW Me bq uz xQ N6 oY o4 A9 US jR fW HT cd UV Ce QD bL bI q8 lB c7 mM jx rz l6 gu qk HU kV fG Cf g G V aA bQ bz dK lh jc Z C W Q ce D aY al aQ;obtain⟨K,x,s,os,n,tp⟩:=x;obtain⟨ih,hK,hG,hp,T,x4,ho⟩:=hc;replace ho:bm K x (n+1) .vars s≠.out:=ho;dsimp only at ih hK hG hp T x4⊢;obtain⟨r,M⟩:∃r,bm K x (n+1) .vars s=r:=⟨_,rfl⟩;rw[M]at ho;have U:=M;unfold bm at U;rw[P]at U;have R:=hK.len;have T:s.i<x.L.length:=T;rw[o7,mc]at U;refine ba lR (x.p s) R (hr.ls.dc 0 1 X X rfl rfl) λ_ _ c=>?_
 repeat (refine⟨Y, ?_⟩)
 refine⟨_,ee λ_=>rfl,oK (i:=s.i) (gi hG.i R),gM rfl rfl rfl,rfl,⟨x,s,s.az,1,_⟩,rfl,rfl,⟨λ_=>rfl,rfl,by simp[*],rfl,rfl⟩,ai,λ_ _=>?_⟩;have g1:=hG.step T;refine⟨⟨⟨s.az,[],dq,n,c⟩,⟨g1.cast (dQ _).symm,.nil rfl,bK _,U.trans M.symm⟩,aU,ao [0,1,2040,999]⟩, ?_⟩;clear U;rintro⟨t,ks,r',f,c⟩ js ⟨E,J,N,U⟩;dsimp only at E J N U⊢;rw[M]at U;obtain _|f:=f;exact absurd U (λe=>ho (e.symm.trans (by rw[P] <;> rfl)));replace N:f<=n:=Nat.le_of_succ_le N;rw[P,eZ]at U;rw[o7,eZ]at U;refine ba lR (x.p t) R (hr.ls.dc 0 1 X X rfl rfl) λ_ _ d=>?_
 repeat (refine⟨Y, ?_⟩)
 refine ba Pk ⟨x,t⟩ R (hr.ls.sub (bB 1)) ⟨λ_ q=>?_,λ_ q=>⟨.inr (_,_),⟨_,M.trans (U.symm.trans (O6 q))⟩,rfl,ao [1]⟩⟩;rw[O7 q,eZ]at U;have hi:t.i<x.L.length:=w9 (ae:=x.ae) (λe=>by rw[e]at q;cases q);have g2:=E.step hi;have L:=PG.hp hK t;have S:t.a.length<=2*t.i:=E.nd;refine⟨Y,f, ?_, ?_⟩
 skip
 refine ba kM ⟨x,t.az,eq⟩ ⟨R,g2.i⟩ (hr.ls.sub (bB 1)) ⟨λ_ q=>?_,λ_ q=>?_⟩;have g3:=g2.is q;rw[mb q,aW,eZ]at U;refine ca g3 ((CO U ho).up N) (λk t1 U g4 x5 x7 x2 x6 x1 x8=>?_) (cB:=ai) (ct:=ai) (cP:=ai);dsimp only[aj.sl,ap.az,ap.add]at x5 x7 x2 x6 x1 x8;intro lb;exact⟨Y,⟨t1,ks,r',f,c,d,(I x.L x.ae t).aJ,[k],lT lb [k],(I x.L x.ae t).au⟩,⟨⟨g4,J,ki lb [k],N,L,by grind,U.trans M.symm⟩,rfl⟩,aU,ao [0,1,2,3,4040,7020]⟩;rw[mO q,y,eZ,iX]at U;exact⟨⟨t.az,ks,r',f,c,d,(I x.L x.ae t).aJ,[],dq,(I x.L x.ae t).au⟩,⟨⟨g2.cast (dQ _).symm,J,.nil rfl,N,L,by dsimp only[ap.az];omega,U.trans M.symm⟩,rfl⟩,aU,ao [0,1,2,3,4040,999]⟩;clear U q hi g2 L S N J E;rintro⟨t,ks,r',f',c,d,w,kd,rd,p⟩ js ⟨⟨E,J,x0,N,L,S,U⟩,e1⟩;have e1:f'=f:=e1;subst e1;dsimp only at E J x0 N L S U⊢;rw[M,eZ,Az,eZ]at U;refine⟨rfl,Y, ?_⟩
 repeat (refine⟨Y, ?_⟩)
 have g3:=PG.node (n:=⟨22,w,0,kd,p⟩) E L S;refine bG fy ⟨x,t,⟨22,w,0,kd,p⟩,rd⟩ ⟨by have:=E.aq R;grind,x0⟩ λ_ _=>?_;intro lb;have x3:=qH (os:=os) (ks:=ks++kd) (E.cast (jJ _ _ _)) R;rw[eH]at x3;refine mn (ks:=ks) (k:=(t.a.length:Int)) 8050 J O (λr2 h2=>?_);refine⟨Y, ?_⟩;refine ba kM ⟨x,t.add ⟨22,w,0,kd,p⟩,qV⟩ ⟨R,g3.i⟩ (hr.ls.sub (bB 1)) ⟨λ_ q=>?_,λ_ q=>?_⟩;rw[mb q]at U;simp only[Bool.not_true,y]at U;have g4:=g3.is q;exact⟨⟨_,_,r2,_,c⟩,⟨g4.cast (jJ _ _ _),h2,N,U.trans M.symm⟩,aU,ao [0,1,2,3],jd _⟩;rw[mO q]at U;simp only[Bool.not_false,aW,iX,jy]at U
 repeat (refine⟨Y, ?_⟩)
 refine bG fy ⟨x,t.add ⟨22,w,0,kd,p⟩,⟨21,.empty,0,ks++[(t.a.length:Int)],(I x.L x.ae s).au⟩,r2⟩ ⟨by have:=g3.aq R;grind,h2⟩ λ_ _=>?_;exact eD (M.trans U.symm)
theorem amU:aG 75 (bh (λ(_:ax)=>aj.vars)):=rh func75 amT amS amR amV
end
def Ea(L:List a8)(ae:Int)(tv:Nat->ah)(n:Nat)(ak:Int)(op:ah)(au:Int)(a:aM):j (aM):=do
 let s <-fd
 jU {s with h:=s.h+1,loops:=0,d:=0}
 let b <-one (P L ae tv bo n (.block true))
 let t <-fd
 jU {t with h:=t.h-1,loops:=s.loops,d:=s.d}
 cj ⟨ak,op,0,a++[b],au⟩
def R0(L:List a8)(ae:Int)(tv:Nat->ah)(n:Nat)(ak:Int)(op:ah)(au:Int):j (aM):=do
 cu L ae lp
 let a <-P L ae tv bo n (.ed [])
 Ea L ae tv n ak op au a
def R3(L:List a8)(ae:Int)(tv:Nat->ah)(f:Nat)(ks:aM):j (aM):=do
 let x <-gk L ae
 let w <-iM L ae
 let k <-dX ⟨3,w,0,[],x.au⟩
 P L ae tv bo f (.ed (ks++[k]))
structure lJ where
 t:ap
 op:ah
 ks:aM
 r:Row
 f:Nat
 c:Nat
def lJ.ok(d:lJ)(x:bY)(s:ap)(os:aM)(n:Nat):Prop:=PG x d.t (os++d.ks)/\bl 3 1 (a7 d.ks) d.r/\d.f<=n/\s.i+1<=d.t.i/\d.t.h=s.h/\d.t.loops=s.loops/\d.t.d=s.d
abbrev cg(x:bc Int):bv:=some ⟨x.x.b,0,none⟩
abbrev sS(d:lJ):bv:=some ⟨d.c,0,none⟩
def alm(x:bc Int)(F:ag):Nat->Option Inv:=fun
 |0=>some {X:=lJ,P:=λd=>d.ok x.x x.s x.os x.n/\(P x.x.L x.x.ae x.K.tv bo d.f (.ed d.ks)>>=Ea x.x.L x.x.ae x.K.tv x.n x.t d.op (I x.x.L x.x.ae x.s).au) d.t=bm x.K x.x (x.n+1) (.func x.t) x.s,mu:=λd=>d.f,lv:=λd=>[(0,W (cg x)),(5,W (sS d))],st:=λd=>[G x.x d.t,F,(m_ d.c x.t d.op 0 d.r (I x.x.L x.x.ae x.s).au),d.r.A]}
 |_=>none
def alk(x:bc Int)(F:ag):Nat->Option Inv:=fun
 |5=>some {X:=lJ,P:=λd=>d.ok x.x x.s x.os x.n/\d.ks=[]/\R0 x.x.L x.x.ae x.K.tv x.n x.t d.op (I x.x.L x.x.ae x.s).au d.t=bm x.K x.x (x.n+1) (.func x.t) x.s,mu:=λ_=>0,lv:=λd=>[(0,W (cg x)),(5,W (sS d))],st:=λd=>[G x.x d.t,F,(m_ d.c x.t d.op 0 d.r (I x.x.L x.x.ae x.s).au),d.r.A]}
 |9=>some {X:=lJ,gh:=some ⟨Nat,λd=>d.f⟩,P:=λd=>d.ok x.x x.s x.os x.n/\(R3 x.x.L x.x.ae x.K.tv d.f d.ks>>=Ea x.x.L x.x.ae x.K.tv x.n x.t d.op (I x.x.L x.x.ae x.s).au) d.t=bm x.K x.x (x.n+1) (.func x.t) x.s,mu:=λ_=>0,lv:=λd=>[(0,W (cg x)),(5,W (sS d))],st:=λd=>[G x.x d.t,F,(m_ d.c x.t d.op 0 d.r (I x.x.L x.x.ae x.s).au),d.r.A]}
 |_=>none
def alo(x:bc Int)(a:ag):List (Nat×Nat×OH):=[(1,2,aI jf),(1,5,.n 2050),(1,6,.w (eT 2050)),(2,3,cD),(2,7,dU fQ),(3,4,aI zm),(4,1,q wv),(4,3,.w [.aS 2050]),(5,1,q iU),
 (6,1,q iQ),(7,1,z 2),(8,1,q iU),(9,1,aI jf),(10,1,z 2),(10,4,q wv),(10,7,.c fO [0,999] [0]),(10,8,.n 11080),(10,9,.o (cS 3 1 8) [3] [3]),(10,11,.w [.aS 2]),
 (11,3,cD),(11,7,cD),(12,6,cD),(12,10,dU fQ),(12,13,dU fQ),(12,16,dU fQ),(13,1,z 2),(13,3,q (cv x.n 45)),(13,4,.n 14040),(13,5,.o (cS 3 1 8) [3] [3]),(13,7,.w [.aS 2]),
 (14,6,cD),(14,12,dU fQ),(14,15,dU fQ),(14,18,dU fQ),(15,1,.q (eT 2)),(15,2,.c fO [0,3] [0])]
def aln:Nat->a_:=λr=>if r=10 then [0,1,2,3,5,4,6,7,8,9,10,11] else []
abbrev kw(x:bc Int):aN:=[W (cg x)]
abbrev H1(x:bc Int)(O:dm):aN:=[Z x.t,C ⟨#[]⟩,float f64 0,Q none 0 0,Z (b_ O.L O.ae O.i).au]
def T_(z:lJ)(a:bc Int):=z.ok a.x a.s a.os a.n/\z.ks=[]/\R0 a.x.L a.x.ae a.K.tv a.n a.t z.op (I a.x.L a.x.ae a.s).au z.t=bm a.K a.x (a.n+1) (aj.func a.t) a.s
abbrev vL(a:bc Int)(z:lJ):aN:=[Z a.t,C z.op,float f64 0,Q z.r.a z.r.n z.r.aq,Z (I a.x.L a.x.ae a.s).au]
abbrev xA(a:bc Int)(z:lJ)(e1:ag):=[(0,G a.x z.t),(1,e1),(2,D z.c (vL a z) 35),(3,z.r.A)]
def QE(a:bc Int)(e1:ag)(c:aD)(b:St):=∃(z:lJ),T_ z a/\(W (cg a)=W (cg a)/\c=W (sS z)/\True)/\ay b (xA a z e1)
def V9(x:bc Int)(K:yL)(F:ag)(M:Nat)(O:dm):=A9 (kw x) [G K.x K.t] (g [(0,G K.x K.t),(1,F),(2050,D M (H1 x O) 35)] [0]) (λc b=>V M 1/\QE x F (bL M) [(0,G c.x c.s.az),(1,F),(2050,D M [Z x.t,C (I c.x.L c.x.ae c.s).aJ,float f64 0,Q none 0 0,Z (b_ O.L O.ae O.i).au] 35)]) (λc b=>l (bh λ(a:Int)=>aj.func a) x F (Cf c) [(0,aY),(1,F),(2050,D M (H1 x O) 35)])
def Ki:=bz 113 zm (λa=>a.p.L.length<=1048576/\a.p.i<=1048576/\a.a<=1048576) (λa b=>j4 a.p b)
def Ml(a:lJ)(x:bc Int):=a.ok x.x x.s x.os x.n/\(P x.x.L x.x.ae x.K.tv bo a.f (aj.ed a.ks)>>=Ea x.x.L x.x.ae x.K.tv x.n x.t a.op (I x.x.L x.x.ae x.s).au) a.t=bm x.K x.x (x.n+1) (aj.func x.t) x.s
abbrev Cz(x:bc Int):aN:=[W (cg x),C ⟨#[41]⟩]
abbrev Nh(x:bc Int)(D:lJ)(k:Row):aN:=[Z x.t,C D.op,float f64 0,Q k.a k.n k.aq,Z (I x.x.L x.x.ae x.s).au]
abbrev It(F:ag)(a:lJ)(x:bc Int):=[(0,aY),(1,F),(2,D a.c (vL x a) 35),(3,a.r.A)]
def TE(z:lJ)(a:bc Int):=z.ok a.x a.s a.os a.n/\(R3 a.x.L a.x.ae a.K.tv z.f z.ks>>=Ea a.x.L a.x.ae a.K.tv a.n a.t z.op (I a.x.L a.x.ae a.s).au) z.t=bm a.K a.x (a.n+1) (aj.func a.t) a.s
def QF(a:bc Int)(e1:Nat)(b:ag)(d:aD)(c:St):=∃(z:lJ),(TE z a/\z.f=e1)/\(W (cg a)=W (cg a)/\d=W (sS z)/\True)/\ay c (xA a z b)
def alq(x:bc Int)(F:ag)(hc:aF.cond (bh (λ(k:Int)=>aj.func k)) x)(hr:aF.aE (bh (λ(k:Int)=>aj.func k)) x F):fq (kw x) (g [(0,G x.x x.s),(1,F)] []) (λv N=>∀(M:Nat),bQ M (T1 (G x.x x.s) ⟨x.x.b,1,none⟩ (λL=>aA (L+1)/\dM (aL f77 2 7) [W (some ⟨x.x.b,1,none⟩),Z (L+1)] [G x.x x.s] (λK J=>Br (x.t==35) (V9 x K F M v) (Ki [W (cg x),Z 0] (g [(0,G K.x K.t),(1,F),(2050,D M (H1 x v) 35)] []) (λe d=>Br (Es e.p.L (e.p.i+e.a)) (V9 x K F M v) (QE x F (bL M) [(0,G K.x K.t),(1,F),(2050,D M (H1 x v) 35)])))/\aQ λ(R:lJ)_=>T_ R x->gE [W (cg x),C ⟨#[40]⟩] [G x.x R.t] (g (xA x R F) [0]) (λS E=>(∃(a:lJ),Ml a x/\(W (cg x)=W (cg x)/\W (sS R)=W (sS a)/\True)/\ay [(0,G S.x S.s.az),(1,F),(2,D R.c (vL x R) 35),(3,R.r.A)] (xA x a F))/\aQ λ(T:lJ)_=>Ml T x->fW (Cz x) [G x.x T.t] (g (xA x T F) [0]) (λB A=>true=true/\T1 (G B.x B.s.az) ⟨x.x.b,5,none⟩ (λz=>T1 (G B.x B.s.az) ⟨x.x.b,6,none⟩ (λx0=>T1 (G B.x B.s.az) ⟨x.x.b,4,none⟩ (λw=>aA (w+1)/\dM (aL f77 12 10) [W (some ⟨x.x.b,4,none⟩),Z (w+1)] [G B.x B.s.az] (λu t=>dM (aL f77 12 13) [W (some ⟨x.x.b,5,none⟩),Z 0] [G u.x u.t] (λs r=>dM (aL f77 12 16) [W (some ⟨x.x.b,6,none⟩),Z 0] [G s.x s.t] (λq p=>true=true/\V T.c 3/\cd x.n 45 [W (cg x),H true] [G q.x q.t] (g [(0,G q.x q.t),(1,F),(2,D T.c (vL x T) 35),(3,T.r.A)] [0]) (λo n=>∀(m:Nat),gu (aL f77 13 5) [Q T.r.a T.r.n T.r.aq,Q (bq m) 1 1] [T.r.A] (g [(0,G o.x n.snd),(1,F),(2,D T.c (vL x T) 35),(3,T.r.A),(14040,D m (bI n) 3)] [3]) (λx1 k=>V T.c 3/\T1 (G o.x n.snd) ⟨x.x.b,4,none⟩ (λj=>aA (j-1)/\dM (aL f77 14 12) [W (some ⟨x.x.b,4,none⟩),Z (j-1)] [G o.x n.snd] (λi h=>dM (aL f77 14 15) [W (some ⟨x.x.b,5,none⟩),Z z] [G i.x i.t] (λx2 f=>dM (aL f77 14 18) [W (some ⟨x.x.b,6,none⟩),Z x0] [G x2.x x2.t] (λe d=>bQ T.c (c7 [W (cg x),agg ⟨Nh x T k⟩] [G e.x e.t,k.A] (λc b=>l (bh λ(a:Int)=>aj.func a) x F (fG c) [(0,G c.x (c.s.add c.n)),(1,F),(2,D T.c (Nh x T k) 35),(3,aY),(14040,D m (bI n) 3)])))))))) (λo c=>∀(b:Tm),l (bh λ(a:Int)=>aj.func a) x F (q8 c) (It F T x))))))))) (λB n=>∃(m:Nat),(V T.c 3/\aK ((T.r.n:Int)>0) (gE [W (cg x),C ⟨#[44]⟩] [G B.x B.s] (g [(0,G B.x B.s),(1,F),(2,D T.c (vL x T) 35),(3,T.r.A)] [0]) (λc b=>QF x m F (W (sS T)) [(0,G c.x c.s.az),(1,F),(2,D T.c (vL x T) 35),(3,T.r.A)]) (λc b=>l (bh λ(a:Int)=>aj.func a) x F (gI c) (It F T x))) (QF x m F (W (sS T)) [(0,G B.x B.s),(1,F),(2,D T.c (vL x T) 35),(3,T.r.A)]))/\aQ λ(x1:lJ)_=>(TE x1 x/\x1.f=m)->fq (kw x) (g (xA x x1 F) []) (λj i=>true=true/\V x1.c 3/\A9 (kw x) [G x.x x1.t] (g (xA x x1 F) [0]) (λh x2=>c7 [W (cg x),agg ⟨[Z 3,C (I h.x.L h.x.ae h.s).aJ,float f64 0,Q none 0 0,Z (b_ j.L j.ae j.i).au]⟩] [G h.x h.s.az,aY] (λf e=>∀(d:Nat),gu (aL f77 10 9) [Q x1.r.a x1.r.n x1.r.aq,Q (bq d) 1 1] [x1.r.A] (g [(0,G f.x (f.s.add f.n)),(1,F),(2,D x1.c (vL x x1) 35),(3,x1.r.A),(999,aY),(11080,D d (qk f) 3)] [3]) (λc b=>V x1.c 3/\∃(a:lJ),Ml a x/\(W (cg x)=W (cg x)/\W (sS x1)=W (sS a)/\True)/\ay [(0,G f.x (f.s.add f.n)),(1,F),(2,D x1.c (Nh x x1 b) 35),(3,b.A),(999,aY),(11080,D d (qk f) 3)] (xA x a F)/\a.f<T.f))) (λh c=>∀(b:Tm),l (bh λ(a:Int)=>aj.func a) x F (Cf h) (It F x1 x))))) (λS b=>l (bh λ(a:Int)=>aj.func a) x F (gI S) (It F R x)))))):=by
 delta fq cg kw T1 mK mL dM oY o4 A9 H1 T_ sS vL xA QE bq bL Cf V9 Ki jR gE Ml fW Cz cd mM jx rz l6 gu bI lB c7 Nh kV fG q8 It TE QF gI qk g G V aA bQ bz dK lh jc Z C H W Q ce D aY aK al aQ;obtain⟨K,x,s,os,n,tp⟩:=x;obtain⟨ih,hK,hG,hp,x4,y1,ho⟩:=hc;replace hr:dj K x F:=hr;replace ho:bm K x (n+1) (.func tp) s≠.out:=ho;dsimp only at ih hK hG hp x4 y1⊢;obtain⟨r,e0⟩:∃r,bm K x (n+1) (.func tp) s=r:=⟨_,rfl⟩;rw[e0]at ho;have U:=e0;unfold bm at U;rw[P]at U;have hl:=hK.len;have x4:s.i<x.L.length:=x4;rw[o7,mc,nt]at U;refine ba lR (x.p s) hl (hr.ls.dc 0 1 X X rfl rfl) λ_ _ c=>?_
 repeat (refine⟨Y, ?_⟩)
 refine⟨_,ee λ_=>rfl,oK (i:=s.i) (gi hG.i hl),gM rfl rfl rfl,rfl,⟨x,s,s.az,1,_⟩,rfl,rfl,⟨λ_=>rfl,rfl,by simp[*],rfl,rfl⟩,ai,λ_ _=>?_⟩;have g1:=hG.step x4;have y8:=PG.hp hK s;have x7:s.i+1<=s.az.i:=bK _;refine⟨?_, ?_⟩;refine lH (A:=(tp==35||nameV x.L s.az 0)=true) (λkx=>ar (λh1=>kx ?_) (λh1=>ba ZO ⟨x.p s.az,0⟩ ⟨hl,by have:=g1.i;show s.az.i<=1048576;omega,by simp[*]⟩ (hr.ls.dc 0 1 X X rfl rfl) λ_ _=>ar (λh2=>kx ?_) (λh2=>?_))) (λhx=>?_);simp[*];rw[show nameV x.L s.az 0=true from h2,oG];rw[show(tp==35)=false from h1,show nameV x.L s.az 0=false from h2,Bool.or_self,y,iX]at U;exact⟨⟨s.az,.empty,[],dq,n,c⟩,⟨⟨g1.cast (dQ _).symm,.nil rfl,bK _,x7,rfl,rfl,rfl⟩,rfl,U.trans e0.symm⟩,aU,ao [0,1,2050,999]⟩;rw[hx,aW]at U;refine ba Pk ⟨x,s.az⟩ hl (hr.ls.sub (bB 1)) ⟨λ_ q=>?_,λ_ q=>⟨.inr (_,_),⟨_,e0.trans (U.symm.trans (O6 q))⟩,rfl,ao [1]⟩⟩;rw[O7 q]at U;have hi:s.az.i<x.L.length:=w9 (ae:=x.ae) (λe=>by rw[e]at q;cases q);have g2:=g1.step hi;exact⟨Y,⟨s.az.az,(I x.L x.ae s.az).aJ,[],dq,n,c⟩,⟨⟨g2.cast (dQ _).symm,.nil rfl,bK _,Nat.le_succ_of_le x7,rfl,rfl,rfl⟩,rfl,U.trans e0.symm⟩,aU,ao [0,1,2050,999]⟩;clear U;rintro⟨t,op,ks,r',f,c⟩ js ⟨⟨x2,x3,hf,hi,f1,f2,f3⟩,x6,U⟩;have x6:ks=[]:=x6;subst x6;dsimp only at x2 x3 hf hi f1 f2 f3 U⊢;rw[e0,R0]at U;refine ma x2 U (λU g2=>?_);refine⟨⟨⟨t.az,op,[],r',n,c⟩,⟨⟨g2,x3,bK _,Nat.le_succ_of_le hi,f1,f2,f3⟩,U.trans e0.symm⟩,aU,ao [0,1,2,3]⟩, ?_⟩;clear U x2 g2 x3 hf hi f1 f2 f3;rintro⟨t,op,ks,r',f,c⟩ js ⟨⟨x2,x3,hf,hi,f1,f2,f3⟩,U⟩;dsimp only at x2 x3 hf hi f1 f2 f3 U⊢;rw[e0]at U;obtain _|f:=f;exact absurd U (λe=>ho (e.symm.trans (by rw[P] <;> rfl)));replace hf:f<=n:=Nat.le_of_succ_le hf;rw[P,eZ]at U;have y2:r'.n=ks.length:=by have:=x3.len;rw[Ee]at this;omega
 refine ba kM ⟨x,t,rp⟩ ⟨hl,x2.i⟩ (hr.ls.sub (bB 1)) ⟨λ_ q=>?_,λ_ q=>?_⟩;rw[mb q,aW,iX,Ea,nt,C1]at U;have g2:=x2.is q;have b1:=x2.f;have b2:=x2.i;have b3:s.h<=s.i:=hG.f.2;refine⟨rfl,_,ee λ_=>rfl,_,ee λ_=>rfl, ?_⟩;refine⟨_,ee λ_=>rfl,⟨by show-9223372036854775808<=t.h+1;omega,by show t.h+1<=9223372036854775807;omega⟩,gM rfl rfl rfl,rfl,⟨x,t.az,⟨t.az.i,t.az.a,t.az.h+1,t.az.loops,t.az.d⟩,4,_⟩,rfl,rfl,⟨λ_=>rfl,rfl,by simp[*],rfl,rfl⟩,ai,λ_ _=>?_⟩;refine⟨gM rfl rfl rfl,rfl,⟨x,_,⟨t.az.i,t.az.a,t.az.h+1,0,t.az.d⟩,5,_⟩,rfl,rfl,⟨λ_=>rfl,rfl,by simp[*],rfl,rfl⟩,ai,λ_ _=>?_⟩;refine⟨gM rfl rfl rfl,rfl,⟨x,_,⟨t.az.i,t.az.a,t.az.h+1,0,0⟩,6,_⟩,rfl,rfl,⟨λ_=>rfl,rfl,by simp[*],rfl,rfl⟩,ai,λ_ _=>?_⟩;have g3:PG x ⟨t.az.i,t.az.a,t.az.h+1,0,0⟩ (os++ks):=g2.RY (t:=⟨t.az.i,t.az.a,t.az.h+1,0,0⟩) rfl rfl ⟨by show 0<=t.h+1;omega,by show t.h+1<=((t.i+1:Nat):Int);omega⟩ ⟨cH 0,Int.natCast_nonneg _⟩ ⟨cH 0,Int.natCast_nonneg _⟩;refine⟨rfl,Y, ?_⟩;refine ca g3 (fH U ho) (λb u1 U g4 y3 y5 x9 y4 x8 y6=>?_) (cB:=ai) (ct:=ai) (cP:=ai);dsimp only[aj.sl,ap.az,ap.add]at y3 y5 x9 y4 x8 y6;rw[nt,C1]at U;intro lb;have x5:=qH x2 hl;refine mn (ks:=ks) (k:=b) 14040 x3 O (λr2 h2=>?_);refine⟨Y, ?_⟩;have b4:=g4.i;refine⟨_,ee λ_=>rfl,⟨by grind,by grind⟩,gM rfl rfl rfl,rfl,⟨x,u1,⟨u1.i,u1.a,u1.h-1,u1.loops,u1.d⟩,4,_⟩,rfl,rfl,⟨λ_=>rfl,rfl,by simp[*],rfl,rfl⟩,ai,λ_ _=>?_⟩;refine⟨gM rfl rfl rfl,rfl,⟨x,_,⟨u1.i,u1.a,u1.h-1,t.az.loops,u1.d⟩,5,_⟩,rfl,rfl,⟨λ_=>rfl,rfl,by simp[*],rfl,rfl⟩,ai,λ_ _=>?_⟩;refine⟨gM rfl rfl rfl,rfl,⟨x,_,⟨u1.i,u1.a,u1.h-1,t.az.loops,t.az.d⟩,6,_⟩,rfl,rfl,⟨λ_=>rfl,rfl,by simp[*],rfl,rfl⟩,ai,λ_ _=>?_⟩
 repeat (refine⟨Y, ?_⟩)
 have aq:=g4.aq hl;refine bG fy ⟨x,⟨u1.i,u1.a,u1.h-1,t.az.loops,t.az.d⟩,⟨tp,op,0,ks++[b],(I x.L x.ae s).au⟩,r2⟩ ⟨by grind,h2⟩ λ_ _=>?_;exact eD (e0.trans U.symm);rw[mO q,y]at U;have x5:=qH x2 hl;refine⟨f,⟨Y, ?_⟩, ?_⟩;refine bd (λh1=>?_) (λh1=>?_);rw[bp (show ks.length>0 by omega),aW]at U;rw[eZ]at U;refine ma x2 U (λU g2=>?_);exact⟨⟨t.az,op,ks,r',f,c⟩,⟨⟨⟨g2,x3,hf,Nat.le_succ_of_le hi,f1,f2,f3⟩,U.trans e0.symm⟩,rfl⟩,aU,ao [0,1,2,3]⟩;rw[bF (show ¬ks.length>0 by omega),y,eZ,iX]at U;exact⟨⟨t,op,ks,r',f,c⟩,⟨⟨⟨x2,x3,hf,hi,f1,f2,f3⟩,U.trans e0.symm⟩,rfl⟩,aU,ao [0,1,2,3]⟩;clear U q x5 hf hi f1 f2 f3 x2 y2 x3;rintro⟨t,op,ks,r',f',c⟩ js ⟨⟨⟨x2,x3,hf,hi,f1,f2,f3⟩,U⟩,e1⟩;have e1:f'=f:=e1;subst e1;dsimp only at x2 x3 hf hi f1 f2 f3 U⊢;rw[e0,R3,eZ,o7,eZ]at U;refine ba lR (x.p t) hl (hr.ls.dc 0 1 X X rfl rfl) λ_ _=>?_;refine⟨rfl,Y,Pk,rfl,⟨x,t⟩,rfl,rfl,hl,hr.ls.sub (bB 1),λ_ q=>?_,λ_ q=>λ_=>⟨.inr (_,_),⟨_,e0.trans (U.symm.trans (O6 q))⟩,rfl,ao [1]⟩⟩;rw[O7 q,eZ,Az]at U;have y0:t.i<x.L.length:=w9 (ae:=x.ae) (λe=>by rw[e]at q;cases q);have g2:=x2.step y0;have y7:=x2.nd;have g3:=PG.node (n:=⟨3,(I x.L x.ae t).aJ,0,[],(I x.L x.ae t).au⟩) (g2.cast (dQ _).symm) (PG.hp hK t) (by show t.a.length+1<=2*(t.i+1);omega);refine bG fy ⟨x,t.az,⟨3,(I x.L x.ae t).aJ,0,[],(I x.L x.ae t).au⟩,dq⟩ ⟨by have:=g2.aq hl;grind,.nil rfl⟩ λ_ _=>?_;intro lb;have x5:=qH x2 hl;refine mn (ks:=ks) (k:=(t.a.length:Int)) 11080 x3 O (λr2 h2=>?_);exact⟨Y,⟨_,op,_,r2,_,c⟩,⟨⟨g3.cast (jJ _ _ _),h2,hf,Nat.le_succ_of_le hi,f1,f2,f3⟩,U.trans e0.symm⟩,aU,ao [0,1,2,3],jd _⟩
def alp:aG 77 (bh (λ(k:Int)=>aj.func k)):=fo 103 func77 alo [] alm alk aln [] alq
structure pX where
 t:ap
 k:Int
 f:Nat
def G4(L:List a8)(ae:Int)(tv:Nat->ah)(f:Nat)(k:Int)(a:aM):j (aM):=do
 let p <-fz k
 let m <-dX ⟨10,.empty,0,a,p⟩
 P L ae tv bo f (.eX m)
def RH(L:List a8)(ae:Int)(tv:Nat->ah)(f:Nat)(ks:aM):j (aM):=do
 let e <-one (P L ae tv bo f .bf)
 P L ae tv bo f (.eV (ks++[e]))
structure rV where
 t:ap
 k:Int
 ks:aM
 r:Row
 f:Nat
 f0:Nat
def rV.ok(d:rV)(x:bY)(s:ap)(os:aM)(n:Nat):Prop:=PG x d.t (os++d.ks)/\bl 3 1 (a7 d.ks) d.r/\d.f<=n/\d.f0<=n/\d.k∈d.ks
abbrev IP(d:rV):=Q d.r.a d.r.n d.r.aq
def al_(x:bc ax)(F:ag):Nat->Option Inv:=fun
 |0=>some {X:=pX,P:=λd=>PG x.x d.t (x.os++[d.k])/\d.f<=x.n/\P x.x.L x.x.ae x.K.tv bo d.f (.eX d.k) d.t=bm x.K x.x (x.n+1) .suffix x.s,mu:=λd=>d.f,lv:=λd=>[(0,W (bT x)),(3,Z d.k)],st:=λd=>[G x.x d.t,F]}
 |3=>some {X:=rV,gh:=some ⟨Nat,λd=>d.f0⟩,P:=λd=>d.ok x.x x.s x.os x.n/\(P x.x.L x.x.ae x.K.tv bo d.f (.eV d.ks)>>=G4 x.x.L x.x.ae x.K.tv d.f0 d.k) d.t=bm x.K x.x (x.n+1) .suffix x.s,mu:=λd=>d.f,lv:=λd=>[(0,W (bT x)),(3,Z d.k),(6,IP d)],st:=λd=>[G x.x d.t,F,d.r.A]}
 |_=>none
def al9(x:bc ax)(F:ag):Nat->Option Inv:=fun
 |18=>some {X:=rV,gh:=some ⟨Nat×Nat,λd=>(d.f,d.f0)⟩,P:=λd=>d.ok x.x x.s x.os x.n/\(RH x.x.L x.x.ae x.K.tv d.f d.ks>>=G4 x.x.L x.x.ae x.K.tv d.f0 d.k) d.t=bm x.K x.x (x.n+1) .suffix x.s,mu:=λ_=>0,lv:=λd=>[(0,W (bT x)),(3,Z d.k),(6,IP d)],st:=λd=>[G x.x d.t,F,d.r.A]}
 |_=>none
def amb(x:bc ax)(a:ag):List (Nat×Nat×OH):=[(1,1,q (cv x.n 179)),(3,1,q iQ),(4,1,aI jf),(4,2,.n 5020),(4,3,.w (eT 5020)),(5,1,z 5020),(5,5,z 5020),(6,1,aI mo),(7,3,cD),(7,7,dU fQ),(8,2,z 5020),(8,4,.n 9040),(8,7,q vd),(8,9,.c fO [0,9040] [0]),
 (9,1,q iQ),(10,1,q (cv x.n 10)),(11,1,q iU),(12,3,.n 13030),(12,6,q vd),(12,8,.c fO [0,13030] [0]),
 (13,1,q iQ),(14,1,.n 15010),(15,1,q iQ),(17,1,q iU),(18,2,q (cv x.n 10)),(18,3,.n 19030),(18,4,.o (cS 3 1 8) [2] [2]),(19,4,q vd),(19,6,.c fO [0,2] [0])]
def ama:Nat->a_:=λr=>if r=8 then [0,1,2,3,5,6,7,4,8,9,10] else []
def MN(a:bc ax)(z:pX):=PG a.x z.t (a.os++[z.k])/\z.f<=a.n/\P a.x.L a.x.ae a.K.tv bo z.f (aj.eX z.k) z.t=bm a.K a.x (a.n+1) aj.suffix a.s
def Kj(a:bc ax)(e1:ag)(c:aD)(b:St)(mm:Nat):=∃(z:pX),MN a z/\(W (bT a)=W (bT a)/\c=Z z.k/\True)/\ay b [(0,G a.x z.t),(1,e1)]/\z.f<mm
def Wb(u:jo)(x:bc ax)(j:Nat)(y:pX)(l:dm)(F:ag):=T1 (G u.x u.s.az) ⟨x.x.b,1,none⟩ (λi=>aA (i+1)/\dM (aL f149 7 7) (oW x i) [G u.x u.s.az] (λh g=>true=true/\V j 1/\tN [W (bT x),Z y.k] [G h.x h.t] (λf e=>∀(d:Nat),c7 [W (bT x),agg ⟨[Z 8,C (b_ l.L l.ae l.i).aJ,float f64 0,Q (bq d) 1 1,Z (dG f.s f.k)]⟩] [G f.x f.s,D d [Z y.k] 3] (λc b=>Kj x F (kV c) [(0,G c.x (c.s.add c.n)),(1,F),(5020,D j (q0 l) 56),(9040,aY)] y.f))))
def Mw(a:rV)(x:bc ax)(n:Nat):=(a.ok x.x x.s x.os x.n/\(P x.x.L x.x.ae x.K.tv bo a.f (aj.eV a.ks)>>=G4 x.x.L x.x.ae x.K.tv a.f0 a.k) a.t=bm x.K x.x (x.n+1) aj.suffix x.s)/\a.f0=n
def Uo(z:rV)(a:bc ax):=z.ok a.x a.s a.os a.n/\(RH a.x.L a.x.ae a.K.tv z.f z.ks>>=G4 a.x.L a.x.ae a.K.tv z.f0 z.k) z.t=bm a.K a.x (a.n+1) aj.suffix a.s
def QG(a:bc ax)(e1:Nat×Nat)(b:ag)(d e:aD)(c:St):=∃(z:rV),(Uo z a/\(z.f,z.f0)=e1)/\(W (bT a)=W (bT a)/\d=Z z.k/\e=Q z.r.a z.r.n z.r.aq/\True)/\ay c [(0,G a.x z.t),(1,b),(2,z.r.A)]
def amd(x:bc ax)(F:ag)(hc:aF.cond (bh (λ(_:ax)=>aj.suffix)) x)(hr:aF.aE (bh (λ(_:ax)=>aj.suffix)) x F):cd x.n 179 (ef x) [G x.x x.s] (vX x F) (λA z=>(∃(a:pX),MN x a/\(W (bT x)=W (bT x)/\Z z.fst=Z a.k/\True)/\ay (mJ A z F) [(0,G x.x a.t),(1,F)])/\aQ λ(v:pX)_=>MN x v->fW [W (bT x),C ⟨#[46]⟩] [G x.x v.t] (g [(0,G x.x v.t),(1,F)] [0]) (λu m=>fq (ef x) (g (n0 u F) []) (λw k=>∀(j:Nat),bQ j (V j 0/\Br ((b_ w.L w.ae w.i).ak !=1) (V j 0/\Br ((b_ w.L w.ae w.i).ak !=2) (lN (ef x) (g [(0,G u.x u.s.az),(1,F),(5020,D j (q0 w) 56)] []) (λc b=>l (bh λ(a:ax)=>aj.suffix) x F (kv c) [(0,G u.x u.s.az),(1,F),(5020,D j (q0 w) 56)])) (Wb u x j v w F)) (Wb u x j v w F)))) (λu t=>fW [W (bT x),C ⟨#[91]⟩] [G u.x u.s] (g (lA u F) [0]) (λs k=>cd x.n 10 (ef x) [G s.x s.s.az] (g (n0 s F) [0]) (λj i=>gE [W (bT x),C ⟨#[93]⟩] [G j.x i.snd] (g (mJ j i F) [0]) (λh B=>∀(f:Nat),tN [W (bT x),Z v.k] [G h.x h.s.az] (λe d=>c7 [W (bT x),agg ⟨[Z 9,C ⟨#[]⟩,float f64 0,Q (bq f) 2 2,Z (dG e.s e.k)]⟩] [G e.x e.s,D f [Z v.k,Z i.fst] 3] (λc b=>Kj x F (kV c) [(0,G c.x (c.s.add c.n)),(1,F),(13030,aY)] v.f))) (λh b=>l (bh λ(a:ax)=>aj.suffix) x F (gI h) (iK F))) (λj b=>l (bh λ(a:ax)=>aj.suffix) x F (q8 b) (iK F))) (λs r=>fW [W (bT x),C ⟨#[40]⟩] [G s.x s.s] (g (lA s F) [0]) (λq p=>∀(o:Nat),∃(n:Nat),(∃(a:rV),Mw a x n/\(W (bT x)=W (bT x)/\Z v.k=Z a.k/\Q (bq o) 1 1=Q a.r.a a.r.n a.r.aq/\True)/\ay [(0,G q.x q.s.az),(1,F),(15010,D o [Z v.k] 3)] [(0,G x.x a.t),(1,F),(2,a.r.A)])/\aQ λ(m:rV)_=>Mw m x n->fW [W (bT x),C ⟨#[41]⟩] [G x.x m.t] (g [(0,G x.x m.t),(1,F),(2,m.r.A)] [0]) (λk f=>tN [W (bT x),Z m.k] [G k.x k.s.az] (λe d=>c7 [W (bT x),agg ⟨[Z 10,C ⟨#[]⟩,float f64 0,Q m.r.a m.r.n m.r.aq,Z (dG e.s e.k)]⟩] [G e.x e.s,m.r.A] (λc b=>Kj x F (kV c) [(0,G c.x (c.s.add c.n)),(1,F),(2,aY)] v.f))) (λk j=>∃(i:Nat×Nat),aK ((m.r.n:Int)>1) (gE [W (bT x),C ⟨#[44]⟩] [G k.x k.s] (g [(0,G k.x k.s),(1,F),(2,m.r.A)] [0]) (λc b=>QG x i F (Z m.k) (IP m) [(0,G c.x c.s.az),(1,F),(2,m.r.A)]) (λc b=>l (bh λ(a:ax)=>aj.suffix) x F (gI c) [(0,aY),(1,F),(2,m.r.A)])) (QG x i F (Z m.k) (IP m) [(0,G k.x k.s),(1,F),(2,m.r.A)])/\aQ λ(h:rV)_=>(Uo h x/\(h.f,h.f0)=i)->cd x.n 10 (ef x) [G x.x h.t] (g [(0,G x.x h.t),(1,F),(2,h.r.A)] [0]) (λf e=>∀(d:Nat),gu (aL f149 18 4) [Q h.r.a h.r.n h.r.aq,Q (bq d) 1 1] [h.r.A] (g [(0,G f.x e.snd),(1,F),(2,h.r.A),(19030,D d (bI e) 3)] [2]) (λc b=>∃(a:rV),Mw a x n/\(W (bT x)=W (bT x)/\Z h.k=Z a.k/\Q b.a b.n b.aq=Q a.r.a a.r.n a.r.aq/\True)/\ay [(0,G f.x e.snd),(1,F),(2,b.A),(19030,D d (bI e) 3)] [(0,G x.x a.t),(1,F),(2,a.r.A)]/\a.f<m.f)) (λf b=>l (bh λ(a:ax)=>aj.suffix) x F (q8 b) [(0,aY),(1,F),(2,h.r.A)]))) (λq b=>l (bh λ(a:ax)=>aj.suffix) x F (al (Z v.k)) (lA q F))))) (λA b=>l (bh λ(a:ax)=>aj.suffix) x F (q8 b) (iK F)):=by
 delta cd bT ef vX MN mJ jR fW fq n0 lN q0 kv T1 mK mL dM oW tN lB c7 bq Kj kV Wb lA gE gI iK q8 Mw Uo QG IP mM jx rz l6 gu bI g G V aA bQ bz dK lh jc Z C H W Q ce D aY aK al aQ;obtain⟨K,x,s,os,n,tp⟩:=x;obtain⟨ih,hK,hG,hp,y0,x9,ho⟩:=hc;replace hr:dj K x F:=hr;replace ho:bm K x (n+1) .suffix s≠.out:=ho;dsimp only at ih hK hG hp y0 x9⊢;obtain⟨r,R⟩:∃r,bm K x (n+1) .suffix s=r:=⟨_,rfl⟩;rw[R]at ho;have U:=R;unfold bm at U;rw[P]at U;have S:=hK.len;refine ca hG (fH U ho) (λk t1 U g1 y2 y8 x6 y5 x1 z1=>?_) (cB:=ai) (ct:=ai) (cP:=ai);dsimp only[aj.sl,ap.az,ap.add]at y2 y8 x6 y5 x1 z1;refine⟨⟨⟨t1,k,n⟩,⟨g1,bK _,U.trans R.symm⟩,aU,ao [0,1]⟩, ?_⟩;clear U g1;rintro⟨t,k,f⟩ js ⟨B,L,U⟩;dsimp only at B L U⊢;rw[R]at U;obtain _|f:=f;exact absurd U (λe=>ho (e.symm.trans (by rw[P] <;> rfl)));replace L:f<=n:=Nat.le_of_succ_le L;rw[P]at U;have x0:=B.nd;refine ba kM ⟨x,t,YD⟩ ⟨S,B.i⟩ (hr.ls.sub (bB 1)) ⟨λ_ q=>?_,λ_ q=>?_⟩;rw[mb q,aW,o7]at U;have N:=B.is q;refine ba lR (x.p t.az) S (hr.ls.dc 0 1 X X rfl rfl) λ_ _ c=>?_
 repeat (refine⟨Y, ?_⟩)
 refine lH (A:=((I x.L x.ae t.az).ak !=1&&(I x.L x.ae t.az).ak !=2)=false) (λkx=>ar (λh1=>⟨Y,ar (λh2=>?_) (λh2=>kx ?_)⟩) (λh1=>kx ?_)) (λhx=>?_);rw[show((I x.L x.ae t.az).ak !=1)=true from h1,show((I x.L x.ae t.az).ak !=2)=true from h2,Bool.and_self,aW]at U;exact ba qS (x.p t.az) S (hr.ls.dc 0 1 X X rfl rfl) λ_ _=>⟨.inr (_,_),⟨_,R.trans U.symm⟩,rfl,ao [1]⟩;rw[show((I x.L x.ae t.az).ak !=2)=false from h2,nO];rw[show((I x.L x.ae t.az).ak !=1)=false from h1,lj];rw[hx,y,iX,mc,CZ,Az]at U;have hi:t.az.i<x.L.length:=w9 (ae:=x.ae) (λe=>by rw[e]at hx;cases hx);have g3:=N.step hi;refine⟨_,ee λ_=>rfl,oK (i:=t.az.i) (gi N.i S),gM rfl rfl rfl,rfl,⟨x,t.az,t.az.az,1,_⟩,rfl,rfl,⟨λ_=>rfl,rfl,by simp[*],rfl,rfl⟩,ai,λ_ _=>?_⟩;refine⟨rfl,Y, ?_⟩;refine bG yR ⟨x,t.az.az,k⟩ (g3.gK X) λ_ _=>?_;intro lb;have g4:=PG.node (n:=⟨8,(I x.L x.ae t.az).aJ,0,[k],dG t.az.az k⟩) g3 (g3.au X) (by show t.a.length+1<=2*(t.i+1+1);omega);refine bG fy ⟨x,t.az.az,⟨8,(I x.L x.ae t.az).aJ,0,[k],dG t.az.az k⟩,lT lb [k]⟩ ⟨by have:=g3.aq S;grind,ki lb [k]⟩ λ_ _=>?_;exact⟨⟨_,_,f⟩,⟨g4,L,U.trans R.symm⟩,aU,ao [0,1],jd _⟩;rw[mO q,y]at U;refine ba kM ⟨x,t,lb⟩ ⟨S,B.i⟩ (hr.ls.sub (bB 1)) ⟨λ_ q=>?_,λ_ q=>?_⟩;rw[mb q,aW]at U;have N:=B.is q;refine ca N ((fH U ho).up L) (λe t1 U g3 y4 z0 x8 y7 x3 z3=>?_) (cB:=ai) (ct:=ai) (cP:=ai);dsimp only[aj.sl,ap.az,ap.add]at y4 z0 x8 y7 x3 z3;refine ma g3 U (λU g4=>?_);rw[CZ,Az]at U;intro lb;refine bG yR ⟨x,t1.az,k⟩ (g4.gK X) λ_ _=>?_;have g5:=PG.node (n:=⟨9,.empty,0,[k,e],dG t1.az k⟩) (g4.cast (jJ _ _ _)) (g4.au X) (by show t1.a.length+1<=2*(t1.i+1);omega);refine bG fy ⟨x,t1.az,⟨9,.empty,0,[k,e],dG t1.az k⟩,lT lb [k,e]⟩ ⟨by have:=g4.aq S;grind,ki lb [k,e]⟩ λ_ _=>?_;exact⟨⟨_,_,f⟩,⟨g5,L,U.trans R.symm⟩,aU,ao [0,1],jd _⟩;rw[mO q,y]at U;refine ba kM ⟨x,t,lp⟩ ⟨S,B.i⟩ (hr.ls.sub (bB 1)) ⟨λ_ q=>?_,λ_ q=>?_⟩;rotate_left;rw[mO q,y]at U;exact eD (R.trans U.symm);rw[mb q,aW]at U;have N:=B.is q;intro lb;refine⟨f,⟨⟨t.az,k,[k],lT lb [k],f,f⟩,⟨⟨⟨N,ki lb [k],L,L,List.mem_singleton.2 rfl⟩,U.trans R.symm⟩,rfl⟩,aU,ao [0,1,15010]⟩, ?_⟩;clear U B N q x0;rintro⟨t,k,T,r',f2,f3⟩ js ⟨⟨⟨B,J,L,M,E⟩,U⟩,e1⟩;have e1:f3=f:=e1;subst e1;dsimp only at B J L M E U⊢;rw[R]at U;obtain _|f2:=f2;exact absurd U (λe=>ho (e.symm.trans (by rw[P] <;> rfl)));replace L:f2<=n:=Nat.le_of_succ_le L;rw[P,eZ]at U;have y1:r'.n=T.length:=by have:=J.len;rw[Ee]at this;omega
 have x0:=B.nd;refine ba kM ⟨x,t,rp⟩ ⟨S,B.i⟩ (hr.ls.sub (bB 1)) ⟨λ_ q=>?_,λ_ q=>?_⟩;rw[mb q,aW,iX,G4,CZ,Az]at U;have N:=B.is q;refine bG yR ⟨x,t.az,k⟩ (N.gK (by simp[E])) λ_ _=>?_;have g3:=PG.node (n:=⟨10,.empty,0,T,dG t.az k⟩) N (N.au (by simp[E])) (by show t.a.length+1<=2*(t.i+1);omega);refine bG fy ⟨x,t.az,⟨10,.empty,0,T,dG t.az k⟩,r'⟩ ⟨by have:=N.aq S;grind,J⟩ λ_ _=>?_;exact⟨⟨_,_,_⟩,⟨g3,M,U.trans R.symm⟩,aU,ao [0,1],jd _⟩;rw[mO q,y]at U;refine⟨(f2,f3), ?_, ?_⟩;refine bd (λh1=>?_) (λh1=>?_);rw[bp (show T.length>1 by omega),aW,eZ]at U;refine ma B U (λU N=>?_);exact⟨⟨t.az,k,T,r',f2,f3⟩,⟨⟨⟨N,J,L,M,E⟩,U.trans R.symm⟩,rfl⟩,aU,ao [0,1,2]⟩;rw[bF (show ¬T.length>1 by omega),y,eZ,iX]at U;exact⟨⟨t,k,T,r',f2,f3⟩,⟨⟨⟨B,J,L,M,E⟩,U.trans R.symm⟩,rfl⟩,aU,ao [0,1,2]⟩;clear U B J L M E y1 x0 q;rintro⟨t,k,T,r',x4,x5⟩ js ⟨⟨⟨B,J,L,M,E⟩,U⟩,e1⟩;have e1:(x4,x5)=(f2,f3):=e1;cases e1;dsimp only at B J L M E U⊢;rw[R,RH,eZ]at U;refine ca B ((fH U ho).up L) (λe t1 U N y3 y9 x7 y6 x2 z2=>?_) (cB:=ai) (ct:=ai) (cP:=ai);dsimp only[aj.sl,ap.az,ap.add]at y3 y9 x7 y6 x2 z2;intro lb;have z4:=qH B S;refine mn (ks:=T) (k:=e) 19030 J O (λr2 h2=>?_);exact⟨⟨t1,k,T++[e],r2,f2,f3⟩,⟨⟨⟨N.cast (jJ _ _ _),h2,L,M,ra _ E⟩,U.trans R.symm⟩,rfl⟩,aU,ao [0,1,2],jd _⟩
def amc:aG 149 (bh (λ(_:ax)=>aj.suffix)):=fo 83 func149 amb [] al_ al9 ama [] amd
abbrev qj(x:bc Nat):bv:=some ⟨x.x.b,0,none⟩
def alJ(x:bc Nat)(F:ag):Nat->Option Inv:=fun
 |0=>some {X:=pX,P:=λd=>PG x.x d.t (x.os++[d.k])/\d.f<=x.n/\x.t<=9/\P x.x.L x.x.ae x.K.tv bo d.f (.ig x.t d.k) d.t=bm x.K x.x (x.n+1) (.level x.t) x.s,mu:=λd=>d.f,lv:=λd=>[(0,W (qj x)),(1,Z x.t),(5,Z d.k)],st:=λd=>[G x.x d.t,F]}
 |_=>none
def alL(x:bc Nat)(a:ag):List (Nat×Nat×OH):=[(2,1,q (cv x.n 97)),(3,3,q (cv x.n 51)),(4,1,aI jf),(4,2,.n 5020),(4,3,.w (eT 5020)),(5,1,z 5020),(5,5,z 5020),(5,11,.q [.ex 1 .slice]),(5,13,z 5020),(5,14,aI Bt),(7,3,cD),(7,7,dU fQ),(8,3,q (cv x.n 51)),(12,3,z 5020),(12,6,.n 13060),(12,9,q vd),(12,11,.c fO [0,13060] [0])]
def alK:Nat->a_:=λr=>if r=12 then [0,1,2,3,4,5,7,8,9,6,10,11,12] else []
def ai_(n:Nat):((pB[n]?).getD []).length<=1000:=by
 rcases Nat.lt_or_ge n 10 with h|h;have:n=0\/n=1\/n=2\/n=3\/n=4\/n=5\/n=6\/n=7\/n=8\/n=9:=by omega
 rcases this with rfl|rfl|rfl|rfl|rfl|rfl|rfl|rfl|rfl|rfl <;> decide;rw[oH (show pB.length<=n from h)];decide
def MA(a:bc Nat)(z:pX):=PG a.x z.t (a.os++[z.k])/\z.f<=a.n/\a.t<=9/\P a.x.L a.x.ae a.K.tv bo z.f (aj.ig a.t z.k) z.t=bm a.K a.x (a.n+1) (aj.level a.t) a.s
def Vp(x:bc Nat)(F:ag)(u:pX)(q:Nat)(s:dm):=l (bh λ(a:Nat)=>aj.level a) x F (al (Z u.k)) [(0,G x.x u.t),(1,F),(5020,D q (q0 s) 56)]
def XD(a:bc Nat)(e1:ag)(c:aD)(b:St)(mm:Nat):=∃(z:pX),MA a z/\(W (qj a)=W (qj a)/\Z ↑a.t=Z ↑a.t/\c=Z z.k/\True)/\ay b [(0,G a.x z.t),(1,e1)]/\z.f<mm
abbrev VQ(x:bc Nat)(F:ag)(q:Nat)(s:dm)(u:pX):tI->ax->Prop:=λc b=>XD x F (kV c) [(0,G c.x (c.s.add c.n)),(1,F),(5020,D q (q0 s) 56),(13060,aY)] u.f
def Th(x:bc Nat)(F:ag)(q:Nat)(s:dm)(u:pX):=(0<=(x.t:Int)/\(x.t:Int)<(↑(10:Nat):Int))/\dN F ⟨2,0+(x.t:Int).toNat*1,none⟩ (λp o n=>V q 1/\Kh [Q p o n,C (b_ s.L s.ae s.i).aJ] (g [(0,G x.x u.t),(1,F),(5020,D q (q0 s) 56)] []) (λm c=>Br (!cI m.row m.t) (Vp x F u q s) (T1 (G x.x u.t) ⟨x.x.b,1,none⟩ (λk=>aA (k+1)/\dM (aL f51 7 7) [W (some ⟨x.x.b,1,none⟩),Z (k+1)] [G x.x u.t] (λj i=>aA ((x.t:Int)+1)/\cd x.n 51 [W (qj x),Z ((x.t:Int)+1)] [G j.x j.t] (g [(0,G j.x j.t),(1,F),(5020,D q (q0 s) 56)] [0]) (λh r=>aK ((x.t:Int)<2) (true=true/\V q 1/\tN [W (qj x),Z u.k] [G h.x r.snd] (λf e=>∀(d:Nat),c7 [W (qj x),agg ⟨[Z 14,C (b_ s.L s.ae s.i).aJ,float f64 0,Q (bq d) 2 2,Z (dG f.s f.k)]⟩] [G f.x f.s,D d [Z u.k,Z r.fst] 3] (VQ x F q s u))) (true=true/\V q 1/\tN [W (qj x),Z u.k] [G h.x r.snd] (λf e=>∀(d:Nat),c7 [W (qj x),agg ⟨[Z 13,C (b_ s.L s.ae s.i).aJ,float f64 0,Q (bq d) 2 2,Z (dG f.s f.k)]⟩] [G f.x f.s,D d [Z u.k,Z r.fst] 3] (VQ x F q s u)))) (λh b=>l (bh λ(a:Nat)=>aj.level a) x F (q8 b) [(0,aY),(1,F),(5020,D q (q0 s) 56)]))))))
def alN(x:bc Nat)(F:ag)(hc:aF.cond (bh (λ(m:Nat)=>aj.level m)) x)(hr:aF.aE (bh (λ(m:Nat)=>aj.level m)) x F):Br ((x.t:Int)==10) (cd x.n 97 [W (qj x)] [G x.x x.s] (g [(0,G x.x x.s),(1,F)] [0]) (λc b=>l (bh λ(a:Nat)=>aj.level a) x F (ku b) (mJ c b F)) (λc b=>l (bh λ(a:Nat)=>aj.level a) x F (q8 b) (iK F))) (aA ((x.t:Int)+1)/\cd x.n 51 [W (qj x),Z ((x.t:Int)+1)] [G x.x x.s] (g [(0,G x.x x.s),(1,F)] [0]) (λd w=>(∃(a:pX),MA x a/\(W (qj x)=W (qj x)/\Z ↑x.t=Z ↑x.t/\Z w.fst=Z a.k/\True)/\ay (mJ d w F) [(0,G x.x a.t),(1,F)])/\aQ λ(u:pX)_=>MA x u->fq [W (qj x)] (g [(0,G x.x u.t),(1,F)] []) (λs r=>∀(q:Nat),bQ q (true=true/\V q 0/\Br (Ac s) (V q 0/\Br ((b_ s.L s.ae s.i).ak !=2) (Vp x F u q s) (Th x F q s u)) (Th x F q s u)))) (λd b=>l (bh λ(a:Nat)=>aj.level a) x F (q8 b) (iK F))):=by
 delta cd qj ku mJ q8 iK MA fq Ac q0 Vp dN Kh T1 mK mL dM tN lB c7 bq XD kV VQ Th g G V aA bQ bz dK lh Z C H W Q ce D aY aK al aQ;obtain⟨K,x,s,os,n,p⟩:=x;obtain⟨ih,hK,hG,hp,N,x5,R⟩:=hc;replace R:bm K x (n+1) (.level p) s≠.out:=R;dsimp only at ih hK hG hp N x5⊢;obtain⟨r,B⟩:∃r,bm K x (n+1) (.level p) s=r:=⟨_,rfl⟩;rw[B]at R;have U:=B;unfold bm at U;rw[P]at U;have hl:=hK.len;have N:p<=10:=N;refine ar (λh=>?_) (λh=>?_);have h:((p:Int)==10)=true:=h;rw[fY 10 h,aW]at U;exact ca hG (v_ U R) (λ_ _ q _ _ _ _ _ _ _=>eD (B.trans q.symm)) (cB:=ai) (ct:=ai) (cP:=ai);have h:((p:Int)==10)=false:=h;have h9:p<=9:=by{grind};rw[fY 10 h,y]at U;refine⟨aC, ?_⟩;refine ca hG (fH U R) (λk z U g1 x6 y0 x2 x8 x0 y3=>?_) (cB:=ai) (ct:=(show p+1<=10 by omega)) (cP:=ai);dsimp only[aj.sl,ap.az,ap.add]at x6 y0 x2 x8 x0 y3;refine⟨⟨⟨z,k,n⟩,⟨g1,bK _,h9,U.trans B.symm⟩,aU,ao [0,1]⟩, ?_⟩;clear U g1;rintro⟨t,k,f⟩ js ⟨o,T,-,U⟩;dsimp only at o T U⊢;rw[B]at U;obtain _|f:=f;exact absurd U (λe=>R (e.symm.trans (by rw[P] <;> rfl)));replace T:f<=n:=Nat.le_of_succ_le T;rw[P,o7]at U;have y8:=o.nd;refine ba lR (x.p t) hl (hr.ls.dc 0 1 X X rfl rfl) λ_ _ c=>?_
 repeat (refine⟨Y, ?_⟩)
 refine lH (A:=xi x t) (λkx=>⟨rfl,Y,ar (λh1=>⟨Y,ar (λM=>?_) (λM=>kx (.inr (Eu M)))⟩) (λh1=>kx (.inl (Eu h1)))⟩) (λhx=>?_);rw[show((I x.L x.ae t).ak !=5)=true from h1,show((I x.L x.ae t).ak !=2)=true from M,Bool.and_self,Bool.true_or,aW]at U;exact eD (B.trans U.symm);have hb:((I x.L x.ae t).ak !=5&&(I x.L x.ae t).ak !=2)=false:=by rcases hx with h|h <;> rw[h] <;> rfl
 rw[hb,Bool.false_or]at U;obtain⟨v,J⟩:∃v,pB[p]?=some v:=⟨_,da (show p<pB.length from Nat.lt_succ_of_le h9)⟩;obtain⟨rb,ro,y2,y6,x4⟩:=hr.gp.Zv p v J;have S:=ai_ p;rw[J]at U S;rw[Option.getD_some]at U S;refine⟨aC,_,_,_, ?_,Y,Yw,rfl,⟨rb,ro,y2,v,(I x.L x.ae t).aJ⟩,rfl,rfl,S,cR.rest (j:=1) X x4,λ_ _=>ar (λM=>?_) (λM=>?_)⟩;simp[*];rw[show(!cI v (I x.L x.ae t).aJ)=true from M,aW]at U;exact eD (B.trans U.symm);rw[show(!cI v (I x.L x.ae t).aJ)=false from M,y,mc]at U;have g2:=o.step hx.lt;refine⟨_,ee λ_=>rfl,oK (i:=t.i) (gi o.i hl),gM rfl rfl rfl,rfl,⟨x,t,t.az,1,_⟩,rfl,rfl,⟨λ_=>rfl,rfl,by simp[*],rfl,rfl⟩,ai,λ_ _=>?_⟩;refine⟨aC, ?_⟩;refine ca g2 ((fH U R).up T) (λL z U E x7 y1 x3 x9 x1 y4=>?_) (cB:=ai) (ct:=(show p+1<=10 by omega)) (cP:=ai);dsimp only[aj.sl,ap.az,ap.add]at x7 y1 x3 x9 x1 y4;rw[CZ,Az]at U;have y7:=E.nd;have y5:1<=z.i:=O;refine bd (λh3=>?_) (λh3=>?_);rw[bp (show p<2 by omega),aW]at U;refine⟨rfl,Y, ?_⟩;refine bG yR ⟨x,z,k⟩ (E.gK X) λ_ _=>?_;intro lb;have g5:=PG.node (n:=⟨14,(I x.L x.ae t).aJ,0,[k,L],dG z k⟩) (E.cast (jJ _ _ _)) (E.au X) O;refine bG fy ⟨x,z,⟨14,(I x.L x.ae t).aJ,0,[k,L],dG z k⟩,lT lb [k,L]⟩ ⟨by have:=E.aq hl;grind,ki lb [k,L]⟩ λ_ _=>?_;exact⟨⟨_,_,f⟩,⟨g5,T,h9,U.trans B.symm⟩,aU,ao [0,1],jd _⟩;rw[bF (show ¬p<2 by omega),y]at U;refine⟨rfl,Y, ?_⟩;refine bG yR ⟨x,z,k⟩ (E.gK X) λ_ _=>?_;intro lb;have g5:=PG.node (n:=⟨13,(I x.L x.ae t).aJ,0,[k,L],dG z k⟩) (E.cast (jJ _ _ _)) (E.au X) O;refine bG fy ⟨x,z,⟨13,(I x.L x.ae t).aJ,0,[k,L],dG z k⟩,lT lb [k,L]⟩ ⟨by have:=E.aq hl;grind,ki lb [k,L]⟩ λ_ _=>?_;exact⟨⟨_,_,f⟩,⟨g5,T,h9,U.trans B.symm⟩,aU,ao [0,1],jd _⟩
def alM:aG 51 (bh (λ(m:Nat)=>aj.level m)):=fo 62 func51 alL [] alJ dV alK [] alN
end Go.Proofs.YthhiffpfleacaaaGreatDoor
