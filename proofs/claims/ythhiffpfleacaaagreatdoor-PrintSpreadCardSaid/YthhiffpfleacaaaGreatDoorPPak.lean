/- A part of the proof that pennantlaw07.PrintSpread answers true at every input. -/
import Derived.Test.YthhiffpfleacaaaGreatDoorPPaj
set_option linter.all false
namespace Go.Proofs.YthhiffpfleacaaaGreatDoor
set_option maxRecDepth 100000
open Go.Value (int slice string bool pointer agg tuple func float iface nilIface)
open Go.IntKind (i64 u8 u64 i32 u32 u16 i8 i16)
open Go.FloatKind (f64)
open Go.Ending (returned panicked)
open Go.Proofs.Tryz
section
def Lq:ah:=⟨#[48,49,50,51,52,53,54,55,56,57,97,98,99,100,101,102]⟩
def OW(u k:Nat):Nat:=u/2^k
def CV(k:Nat):j5 where
 X:=Nat
 args x:=[.int .i64 x,.int .u64 k]
 cond _:=k<64
 val x:=.int .i64 (OW x k:Nat)
variable{o:Oper}{x y:Operand}{P:Program}{t:TypeId}
theorem WC{k:Nat}{f:TypeId}(d:o.op= .binOp .shr t x y f):cN P o (CV k):=by
 refine⟨λ(a:Nat)w ρ b c=>?_⟩;have h:=(yp (P:=P) (k:=.i64) (kn:=.u64) d).h ((a:Int),(k:Int)) w ρ b (Int.natCast_nonneg k);have e:((a:Int).fdiv (2^min ((k:Int).toNat) i64.bits))=((a/2^k:Nat):Int):=by{rw[cy,show min k i64.bits=k from Nat.min_eq_left (Nat.le_of_lt c),Int.fdiv_eq_ediv_of_nonneg _ (Int.pow_nonneg (by decide))];rfl};rw[h];show Result.ok (Next.value (.int .i64 ((a:Int).fdiv (2^min ((k:Int).toNat) i64.bits)))) w=_;rw[e] <;> rfl
def Er:j5 where
 X:=Nat
 args x:=[.int .i64 x,.int .i64 15]
 cond x:=x<9223372036854775808
 val x:=.int .i64 (x%16:Nat)
theorem Sw{k:TypeId}(d:o.op= .binOp .and t x y k):cN P o Er:=by
 refine⟨λ(a:Nat)w ρ g c=>?_⟩;have c:a<9223372036854775808:=c;simp only[d,Op.operands,Er]at g;have b:ρ x= .int .i64 a/\ρ y= .int .i64 15:=by grind
 obtain⟨i,j⟩:=b;have e:i64.wrap (↑(BitVec.ofInt i64.bits (a:Int)&&& BitVec.ofInt i64.bits 15).toNat:Int)=((a%16:Nat):Int):=by{rw[BitVec.ofInt_natCast,show(15:Int)=((15:Nat):Int)from rfl,BitVec.ofInt_natCast,BitVec.toNat_and,BitVec.toNat_ofNat,BitVec.toNat_ofNat];have f:i64.bits=64:=rfl;rw[f,Nat.mod_eq_of_lt O,show 15%2^64=2^4-1 from by decide,Nat.and_two_pow_sub_one_eq_mod];exact dw (by simp only[t6];omega)};have h:(execOp ρ o).run P w= .ok (.value (.int .i64 (i64.wrap (↑(BitVec.ofInt i64.bits (a:Int)&&& BitVec.ofInt i64.bits 15).toNat:Int)))) w:=by simp[execOp,d,i,j,eqGuard,binOp,Op.intBits,Sem.run]
 rw[h,e] <;> rfl
def zh:j5 where
 X:=Nat
 args x:=[.string Lq,.int .i64 x]
 cond x:=x<16
 val x:=.int .u8 (m6 x:Nat)
theorem Lr(c:o.op= .index t x y)(h:P.underlying t=some .string):cN P o zh:=by
 refine⟨λ(a:Nat)w ρ f g=>?_⟩;simp only[c,Op.operands,zh]at f;have b:ρ x= .string Lq/\ρ y= .int .i64 a:=by grind
 obtain⟨i,j⟩:=b;have key:∀a:Nat,a<16->∃u:UInt8,Lq[a]?=some u/\u.toNat=m6 a:=by decide+kernel
 obtain⟨u,d,e⟩:=key a g;simp[execOp,c,i,j,Instr.index,asIntOf,run_underlying h,d,e,zh,Sem.run]
structure tK where
 i:Nat
 r:Row
abbrev FI:aF where
 X:=e9
 args x:=[C x.s]
 cond x:=x.s.size<=65536
 val x _:=al (C (IW x.s))
def am4(x:e9)(F:ag):Nat->Option Inv:=fun
 |0=>some {X:=tK,P:=λd=>d.i<=x.s.size/2/\bl 5 1 (bJ (n7 x.s d.i)) d.r,mu:=λd=>x.s.size/2-d.i,lv:=λd=>[(0,C x.s),(3,Q d.r.a d.r.n d.r.aq),(9,Z (x.s.size/2:Nat)),(10,Z d.i)],st:=λd=>[F,d.r.A]}
 |_=>none
def v6(u:Nat):Bool:=decide (32<=u)&&(decide (u<=126)&&(u !=34&&u !=92))
def am3(x:e9)(F:ag):Nat->Option Inv:=fun
 |8=>some {X:=tK,gh:=some ⟨Nat,λd=>d.i⟩,P:=λd=>d.i<x.s.size/2/\bl 5 1 (bJ (n7 x.s d.i)) d.r/\v6 (bW x.s d.i)=false,mu:=λ_=>0,lv:=λd=>[(0,C x.s),(3,Q d.r.a d.r.n d.r.aq),(5,Z (bW x.s d.i)),(9,Z (x.s.size/2:Nat)),(10,Z d.i)],st:=λd=>[F,d.r.A]}
 |_=>none
def NT(z:tK)(a:e9):=z.i<=a.s.size.div 2/\bl 5 1 (bJ (n7 a.s z.i)) z.r
def QU(a:e9)(e1:ag)(c d:aD)(b:St)(mm:Nat):=∃(z:tK),NT z a/\(C a.s=C a.s/\c=Q z.r.a z.r.n z.r.aq/\Z (↑(a.s.size/2):Int)=Z (↑(a.s.size/2):Int)/\d=Z ↑z.i/\True)/\ay b [(0,e1),(1,z.r.A)]/\a.s.size.div 2-z.i<mm
def Vd(z:tK)(a:e9):=z.i<a.s.size.div 2/\bl 5 1 (bJ (n7 a.s z.i)) z.r/\v6 (bW a.s z.i)=false
def XI(a:e9)(e1:Nat)(b:ag)(d e f:aD)(c:St):=∃(z:tK),(Vd z a/\z.i=e1)/\(C a.s=C a.s/\d=Q z.r.a z.r.n z.r.aq/\e=Z (↑(bW a.s z.i):Int)/\Z (↑(a.s.size/2):Int)=Z (↑(a.s.size/2):Int)/\f=Z ↑z.i/\True)/\ay c [(0,b),(1,z.r.A)]
def HZ(x:e9)(q:Nat)(F:ag)(u:tK)(s:Pp):=XI x q F (Q u.r.a u.r.n u.r.aq) (Z (↑(bW s.s s.i):Int)) (Z ↑u.i) [(0,F),(1,u.r.A)]
def GH(c:Oper)(a:aN)(b:Nat->Prop):=cN prog c zh/\∃(z:Nat),a=[C Lq,Z ↑z]/\z<16/\b z
abbrev H6:=C ⟨#[48,49,50,51,52,53,54,55,56,57,97,98,99,100,101,102]⟩
def Ko(c:Oper)(a:aN)(b:Nat->Prop):=cN prog c Er/\∃(z:Nat),a=[Z ↑z,Z 15]/\z<9223372036854775808/\b z
abbrev M1(k:Nat):aN:=[C ⟨#[48,49,50,51,52,53,54,55,56,57,97,98,99,100,101,102]⟩,Z (↑(k%16):Int)]
abbrev UZ(m j g e:Nat):aN:=[u 92,u 117,u (↑(m6 m):Int),u (↑(m6 j):Int),u (↑(m6 g):Int),u (↑(m6 e):Int)]
theorem am6(x:e9)(F:ag)(hc:FI.cond x)(hr:FI.aE x F):∀(y:Nat),DL [C x.s] (λw v=>(∃(a:tK),NT a x/\(C x.s=C x.s/\Q (bq y) 1 1=Q a.r.a a.r.n a.r.aq/\Z (↑(w.a.size/2):Int)=Z (↑(x.s.size/2):Int)/\Z 0=Z ↑a.i/\True)/\ay [(0,F),(1000,D y [u 34] 5)] [(0,F),(1,a.r.A)])/\aQ λ(o:tK)_=>NT o x->aK ((o.i:Int)<(↑(x.s.size/2):Int)) (Kw [C x.s,Z ↑o.i] (λs r=>∃(q:Nat),aK ((↑(bW s.s s.i):Int)>=32) (aK ((↑(bW s.s s.i):Int)<=126) (Br ((↑(bW s.s s.i):Int)!=34) (Br ((↑(bW s.s s.i):Int)!=92) ((0<=(↑(bW s.s s.i):Int)/\(↑(bW s.s s.i):Int)<=255)/\∀(d:Nat),oB (aL f33 7 4) [Q o.r.a o.r.n o.r.aq,Q (bq d) 1 1] [o.r.A] (g [(0,F),(1,o.r.A),(8030,D d [u (↑(bW s.s s.i):Int)] 5)] [1]) (λc b=>aA ((o.i:Int)+1)/\QU x F (kq b) (Z ((o.i:Int)+1)) [(0,F),(1,b.A),(8030,D d [u (↑(bW s.s s.i):Int)] 5)] (x.s.size.div 2-o.i))) (HZ x q F o s)) (HZ x q F o s)) (HZ x q F o s)) (HZ x q F o s)/\aQ λ(p:tK)_=>(Vd p x/\p.i=q)->true=true/\cN prog (aL f33 8 2) (CV 12)/\∃(n:Nat),[Z (↑(bW x.s p.i):Int),T 12]=[Z ↑n,T (↑(12:Nat):Int)]/\12<64/\GH ⟨some 41,Op.index 9 (Operand.const H6) (Operand.tmp 40),5,"esprint.go:82",⟨[⟨2,Ground.data⟩]⟩,none⟩ [C ⟨#[48,49,50,51,52,53,54,55,56,57,97,98,99,100,101,102]⟩,Z (↑(OW n 12):Int)] (λm=>cN prog (aL f33 8 5) (CV 8)/\∃(t:Nat),[Z (↑(bW x.s p.i):Int),T 8]=[Z ↑t,T (↑(8:Nat):Int)]/\8<64/\Ko (aL f33 8 6) [Z (↑(OW t 8):Int),Z 15] (λk=>GH ⟨some 45,Op.index 9 (Operand.const H6) (Operand.tmp 44),5,"esprint.go:82",⟨[⟨6,Ground.data⟩]⟩,none⟩ (M1 k) (λj=>cN prog (aL f33 8 9) (CV 4)/\∃(i:Nat),[Z (↑(bW x.s p.i):Int),T 4]=[Z ↑i,T (↑(4:Nat):Int)]/\4<64/\Ko (aL f33 8 10) [Z (↑(OW i 4):Int),Z 15] (λh=>GH ⟨some 49,Op.index 9 (Operand.const H6) (Operand.tmp 48),5,"esprint.go:82",⟨[⟨10,Ground.data⟩]⟩,none⟩ (M1 h) (λA=>Ko (aL f33 8 13) [Z (↑(bW x.s p.i):Int),Z 15] (λf=>GH ⟨some 52,Op.index 9 (Operand.const H6) (Operand.tmp 51),5,"esprint.go:82",⟨[⟨13,Ground.data⟩]⟩,none⟩ (M1 f) (λe=>∀(d:Nat),oB (aL f33 8 16) [Q p.r.a p.r.n p.r.aq,Q (bq d) 6 6] [p.r.A] (g [(0,F),(1,p.r.A),(9040,D d (UZ m j A e) 5)] [1]) (λc b=>aA ((p.i:Int)+1)/\QU x F (kq b) (Z ((p.i:Int)+1)) [(0,F),(1,b.A),(9040,D d (UZ m j A e) 5)] (x.s.size.div 2-o.i))))))))))) (∀(e:Nat),oB (aL f33 10 2) [Q o.r.a o.r.n o.r.aq,Q (bq e) 1 1] [o.r.A] (g [(0,F),(1,o.r.A),(11020,D e [u 34] 5)] [1]) (λd c=>T7 (aL f33 10 3) (uA c) (g [(0,F),(1,c.A),(11020,D e [u 34] 5)] []) (λb a=>l FI x F (al (C (cF b.l))) [(0,F),(1,c.A),(11020,D e [u 34] 5)])))):=by
 delta DL NT bq Kw mM jx l6 oB QU kq Vd XI HZ GH H6 Ko M1 UZ T7 uA g aA cG vn jc Z u T C Q D aK al aQ;obtain⟨s⟩:=x;have hs:s.size<=65536:=hc;have H:∀{S:St}{b k:Nat}{t:a_},k≠1->gt S k= .cells b (bJ t) 5->∀a:Addr,(some ⟨b,0,none⟩:bv)=some a->cR (.cJ (rest S [1])) a (bJ t):=λ{S b k t}U e a Y=>by
  cases Y;refine cR.rest (j:=k) (by simp[*]) ?_;rw[e];exact cR.cells (λj o hj=>by simp[*])
 intro b;refine bG Sm ⟨s,s⟩ (by grind) λ_ _=>⟨⟨⟨0,⟨some ⟨b,0,none⟩,1,1,.cells b (bJ [34]) 5⟩⟩,⟨b7 _,.ft b 1 1 [] rfl rfl (bK _)⟩,aU,ao [0,1000]⟩, ?_⟩;rintro⟨i,r⟩ js ⟨I,G⟩;dsimp only at I G⊢;have I:i<=s.size/2:=I;have R:=OL s i;have V:r.n=(n7 s i).length:=by have:=G.len;rw[AF]at this;omega
 have W:=Pe s i;refine bd (λx1=>bG X8 ⟨s,i⟩ ⟨by grind,by grind⟩ λ_ _=>⟨i, ?_, ?_⟩) (λx0 b=>ba (iN 1 1 rfl rfl rfl rfl rfl rfl rfl (by decide)) ⟨r,bJ (n7 s i),some ⟨b,0,none⟩,1,1,bJ [34]⟩ ⟨G,rfl,λ_ h=>F5 h,by grind,by grind,λh=>nomatch h⟩ (H (k:=11020) (by decide) rfl) λy E=>ba (G1 rfl rfl rfl rfl) ⟨y.a,y.n,y.aq,n7 s i++[34]⟩ (?_) (?_) λ_ _=>⟨(),ai, ?_,ao [0]⟩);have no:v6 (bW s i)=false->∃z:tK,((z.i<s.size/2/\bl 5 1 (bJ (n7 s z.i)) z.r/\v6 (bW s z.i)=false)/\z.i=i)/\(string s=string s/\slice r.a r.n r.aq=slice z.r.a z.r.n z.r.aq/\int .i64 (bW s i:Int)=int .i64 (bW s z.i:Int)/\int .i64 (s.size/2:Nat)=int .i64 (s.size/2:Nat)/\int .i64 (i:Int)=int .i64 (z.i:Int)/\True)/\ay [(0,F),(1,r.A)] [(0,F),(1,z.r.A)]:=λh=>⟨⟨i,r⟩,⟨⟨by grind,G,h⟩,rfl⟩,aU,ay.refl _⟩;refine bd (λM=>bd (λN=>ar (λK=>ar (λL=>⟨aC,λb=>ba (iN 1 1 rfl rfl rfl rfl rfl rfl rfl (by decide)) ⟨r,bJ (n7 s i),some ⟨b,0,none⟩,1,1,bJ [bW s i]⟩ ⟨G,rfl,λ_ h=>F5 h,by grind,by grind,λh=>nomatch h⟩ (H (k:=8030) (by decide) rfl) λy E=>⟨aC,⟨i+1,y⟩,⟨by dsimp only;show i+1<=s.size/2;omega, ?_⟩,aU,ao [0,1],by dsimp only;show s.size/2-(i+1)<s.size/2-i;omega⟩⟩) (λL=>no ?_)) (λK=>no ?_)) (λN=>no ?_)) (λM=>no ?_);have P:v6 (bW s i)=true:=by
  dsimp only at M N K L;unfold v6;rw[bp (show 32<=bW s i by omega),bp (show bW s i<=126 by omega)];have K:¬((bW s i:Int)=34):=by grind
  have L:¬((bW s i:Int)=92):=by grind
  simp;omega
 have E:=E.1;dsimp only at E⊢;rw[n7,AE,show CM (bW s i)=[bW s i] by unfold CM;grind];exact E;have L:((bW s i:Int)=92):=by grind
 unfold v6;grind;have K:((bW s i:Int)=34):=by grind
 unfold v6;grind;dsimp only at N;unfold v6;grind;dsimp only at M;unfold v6;grind;clear I G R V W;rintro⟨B,r⟩ js ⟨⟨J,G,P⟩,e⟩;dsimp only at J G P e⊢;subst e;have I:B<s.size/2:=J;have R:=OL s B;have V:r.n=(n7 s B).length:=by have:=G.len;rw[AF]at this;omega
 have W:=Pe s B;refine⟨rfl,WC rfl,bW s B,rfl,by decide,Lr rfl rfl,bW s B/4096,rfl,O,WC rfl,bW s B,rfl,by decide,Sw rfl,bW s B/256,rfl,O,Lr rfl rfl,bW s B/256%16,rfl,O,WC rfl,bW s B,rfl,by decide,Sw rfl,bW s B/16,rfl,O,Lr rfl rfl,bW s B/16%16,rfl,O,Sw rfl,bW s B,rfl,O,Lr rfl rfl,bW s B%16,rfl,O,λb=>ba (iN 1 1 rfl rfl rfl rfl rfl rfl rfl (by decide)) ⟨r,bJ (n7 s B),some ⟨b,0,none⟩,6,6,bJ [92,117,m6 (bW s B/4096),m6 (bW s B/256%16),m6 (bW s B/16%16),m6 (bW s B%16)]⟩ ⟨G,rfl,λ_ h=>F5 h,by grind,by grind,λh=>nomatch h⟩ (H (k:=9040) (by decide) rfl) λy E=>⟨aC,⟨B+1,y⟩,⟨by grind, ?_⟩,aU,ao [0,1],by grind⟩⟩;have E:=E.1;dsimp only at E⊢;rw[n7,AE,show CM (bW s B)=[92,117,m6 (bW s B/4096),m6 (bW s B/256%16),m6 (bW s B/16%16),m6 (bW s B%16)] by unfold CM;rw[show(decide (32<=bW s B)&&(decide (bW s B<=126)&&(bW s B !=34&&bW s B !=92)))=false from P] <;> rfl];exact E;rw[AE];exact E.1.af;have E:=E.1;dsimp only at E;rw[AE];exact CP 1 X rfl E;have e:i=s.size/2:=O;dsimp only;rw[e] <;> rfl
theorem am5:aG 33 FI:=rh func33 (λ_ _=>[(1,0,.n 1000),(2,1,aI zi),(5,2,aI wT),(7,3,.n 8030),(7,4,.o (cS 5 1 1) [1] [1]),(8,2,.qo (CV 12)),(8,3,.qo zh),(8,5,.qo (CV 8)),(8,6,.qo Er),(8,7,.qo zh),(8,9,.qo (CV 4)),(8,10,.qo Er),(8,11,.qo zh),(8,13,.qo Er),(8,14,.qo zh),(8,15,.n 9040),(8,16,.o (cS 5 1 1) [1] [1]),(10,1,.n 11020),(10,2,.o (cS 5 1 1) [1] [1]),(10,3,.o yS [] [])]) am4 am3 am6
end
section
def md(t:Nat->ah)(ks:aM):Nat:=(ks.map λk=>(t k.toNat).size).sum
def et(w:Nat->Nat)(ks:aM):Nat:=(ks.map λk=>w k.toNat).sum
variable{l m:aM}{w:Nat->Nat}
theorem aoM(h:l.Perm m):et w l=et w m:=by
 unfold et;grind
theorem Je:et w (l++m)=et w l+et w m:=by unfold et;rw[List.map_append,List.sum_append]
theorem abq{k:Int}(h:k∈l):w k.toNat<=et w l:=by
 obtain⟨a,b,rfl⟩:=List.append_of_mem h;rw[Je];have:et w (k::b)=w k.toNat+et w b:=by rfl
 omega
theorem aoL{u:Nat->Nat}(h:∀k∈l,u k.toNat=w k.toNat):et u l=et w l:=by
 unfold et;rw[List.map_congr_left h]
theorem F2{t:Nat->ah}{w:Nat->Nat}:∀{l:aM},(∀k∈l,(t k.toNat).size<=w k.toNat)->md t l<=et w l
 | [],_=>bK _
 |k::l,h=>by
  have a:=h k kJ;have b:=F2 (l:=l) λk U=>h k (nP _ U);unfold md et at*;rw[List.map_cons,List.map_cons,List.sum_cons,List.sum_cons];omega
theorem Sj(l:List ah)(a:ah):(vw l a).size<=(l.map ByteArray.size).sum+a.size*l.length:=by
 have b:∀r:List ah,Lib.lens (r.map (·.data.toList))=(r.map ByteArray.size).sum:=by{intro r;unfold Lib.lens;rw[List.map_map];congr 1};have:(Lib.join (l.map (·.data.toList)) a.data.toList).length<=(l.map ByteArray.size).sum+a.size*l.length:=by
  cases l with
  |nil=>exact b7 _
  |cons x r=>
   rw[List.map_cons,Lib.join_length,<-List.map_cons (f:=λx:ah=>x.data.toList),b,kI,Nat.mul_add,List.length_map];have:a.data.toList.length=a.size:=X;grind
 unfold vw;show(Lib.join _ _).toArray.size<=_;omega
def yu(T:Nat->aR)(C:Nat):Nat->a_
 |0=>[]
 |i+1=>yu T C i++[C+et (λk=>(yu T C i).getD k 0) (T i).b]
theorem Pl(T:Nat->aR)(C:Nat):∀n,(yu T C n).length=n
 |0=>rfl
 |n+1=>by rw[yu,eH,Pl T C n] <;> rfl
def wt(T:Nat->aR)(C:Nat)(i:Nat):Nat:=(yu T C (i+1)).getD i 0
theorem ab2(T:Nat->aR)(C:Nat):∀(n i:Nat),i<n->(yu T C n).getD i 0=wt T C i
 |0,i,h=>absurd h (Nat.not_lt_zero _)
 |n+1,i,h=>by
  by_cases e:i=n;subst e;rfl;rw[<-ab2 T C n i O,yu,eG,eG,m5 (by rw[Pl];omega)]
theorem apV{T:Nat->aR}{C i:Nat}(h:∀k∈(T i).b,0<=k/\k<(i:Int)):wt T C i=C+et (wt T C) (T i).b:=by
 have:wt T C i=C+et (λk=>(yu T C i).getD k 0) (T i).b:=by{unfold wt;rw[yu,eG,lQ (by rw[Pl];omega),Pl,Nat.sub_self];rfl};rw[this,aoL (w:=wt T C) λk U=>ab2 T C i k.toNat (by simp[*])]
section
variable{tv:Nat->ah}{T:Nat->aR}{t:Nat->ah}{u:Nat->Nat}{d:aR}
theorem ub(ks:aM)(a:ah):(ff t ks a).size<=md t ks+a.size*ks.length:=by
 have:=Sj (lG t ks) a;unfold lG at this;rw[List.length_map,List.map_map]at this;exact this
theorem SL:∀{l:aM},(∀k∈l,(t k.toNat).size<=u k.toNat)->((kl t l).map ByteArray.size).sum<=et u l+2*l.length/\(kl t l).length<=l.length
 | [],_=>⟨b7 _,bK _⟩
 | [_],_=>⟨b7 _,b7 _⟩
 |a::b::l,h=>by
  obtain⟨c,d⟩:=SL (l:=l) λk U=>h k (nP _ (nP _ U));have f:=h a kJ;have g:=h b (nP _ kJ);rw[kl,List.map_cons,List.sum_cons,kI,kI,kI,ie,ie,show(⟨#[58,32]⟩:ah).size=2 from rfl];have e:et u (a::b::l)=u a.toNat+(u b.toNat+et u l):=by unfold et;simp
  omega
theorem aoV(s p:ah):(Jn s p).size<=s.size:=by
 unfold Jn Lib.trimSuffix;show(if _ then _ else _:List UInt8).toArray.size<=_;split;simp[*];simp
theorem L4(s:ah):(xw s).size=s.size+2:=by
 unfold xw;rw[ie,ie];show 1+_+1=_;omega
theorem am_(w:ah):(IW w).size<=3*w.size+2:=by
 have:=OL w (w.size/2);unfold IW;rw[se,eH,zc];omega
theorem HC(i:Nat):(di T t i).size<=(t i).size+2:=by
 unfold di;cases B0 (T i).ak with
 |true=>exact Nat.le_add_right _ _
 |false=>exact Nat.le_of_eq (L4 _)
theorem Ya(i:Nat):(hZ T t i).size<=(t i).size+2:=by
 unfold hZ;cases (T i).ak==1 with
 |true=>exact Nat.le_of_eq (L4 _)
 |false=>exact HC i
theorem aak(i:Nat):(iJ T t i).size<=(t i).size:=by
 unfold iJ;cases (T i).ak==36 with
 |true=>exact b7 _
 |false=>exact bK _
theorem Jg(a:Array UInt8):(ByteArray.mk a).size=a.size:=rfl
theorem ahr(a b:Nat):cq .neq a b= !cq .eql a b:=rfl
structure aeA(T:Nat->aR)(t:Nat->ah)(u:Nat->Nat)(d:aR):Prop where
 tx:∀k∈d.b,(t k.toNat).size<=u k.toNat
 fi:∀k∈d.b,(iw T t k.toNat).size<=u k.toNat
theorem Zo{j:Nat}(h:j<d.b.length):∃k∈d.b,k.toNat=kd d j:=⟨_,List.getElem_mem h,by unfold kd;rw[eG,da h] <;> rfl⟩
theorem Jf(j k:Nat)(e:k=j+1)(h:j<d.b.length):u (kd d j)+et u (d.b.drop k)=et u (d.b.drop j):=by
 subst e;rw[List.drop_eq_getElem_cons h];unfold et kd;grind
theorem aoN(h:1<=d.b.length):et u (d.b.take (d.b.length-1))+u (kd d (d.b.length-1))=et u d.b:=by
 have a:=Jf (u:=u) (d:=d) (d.b.length-1) _ rfl O;have b:=congrArg (et u) (List.take_append_drop (d.b.length-1) d.b);rw[Je]at b;rw[show d.b.length-1+1=d.b.length by omega,List.drop_length]at a;have:et u []=0:=rfl;omega
set_option maxHeartbeats 0 in
theorem akn(U:df T d=true)(a:aeA T t u d)(R:d.b.length<=4096)(B:d.op.size<=16384)(c:∀n,(tv n).size<=8192):(xu tv T t d).size<=100000+et u d.b:=by
 have g:∀j,j<d.b.length->(t (kd d j)).size<=u (kd d j)/\(iw T t (kd d j)).size<=u (kd d j):=λj A=>by{obtain⟨k,b,m⟩:=Zo A;rw[<-m];exact⟨a.tx k b,a.fi k b⟩};have G:=Jf (u:=u) (d:=d) 0 1 rfl;have s1:=Jf (u:=u) (d:=d) 1 2 rfl;have Y:=Jf (u:=u) (d:=d) 2 3 rfl;have Z:=Jf (u:=u) (d:=d) 3 4 rfl;have sl:=aoN (u:=u) (d:=d);rw[List.drop_zero]at G;have M:=g 0;have N:=g 1;have O:=g 2;have P:=g 3;have Q:=g (d.b.length-1);have q2:d.b.length=2->(t (kd d (d.b.length-1))).size=(t (kd d 1)).size:=λh=>by rw[h]
 have q3:d.b.length=3->(t (kd d (d.b.length-1))).size=(t (kd d 2)).size:=λh=>by rw[h]
 have K:md t (d.b.drop 1)<=et u (d.b.drop 1):=F2 λk U=>a.tx k (List.mem_of_mem_drop U);have tk:md t (d.b.take (d.b.length-1))<=et u (d.b.take (d.b.length-1)):=F2 λk U=>a.tx k (List.mem_of_mem_take U);have I:md t d.b<=et u d.b:=F2 a.tx;have S:=HC (T:=T) (t:=t) (kd d 0);have V:=HC (T:=T) (t:=t) (kd d 1);have J:=Ya (T:=T) (t:=t) (kd d 0);have b:=aak (T:=T) (t:=t) (kd d 1);have m:=aak (T:=T) (t:=t) (kd d 2);have C:=ub (t:=t) d.b cX;have r:=ub (t:=t) (d.b.drop 1) cX;have s:=ub (t:=t) (d.b.take (d.b.length-1)) cX;have D:=ub (t:=t) d.b ⟨#[]⟩;have v:=ub (t:=t) (d.b.drop 1) ⟨#[]⟩;have x:cX.size=2:=rfl;have w:(⟨#[]⟩:ah).size=0:=rfl;have F:=List.length_drop (i:=1) (l:=d.b);have lt:=List.length_take (i:=d.b.length-1) (l:=d.b);have W:=SL (t:=t) (u:=u) a.tx;have E:=Sj (kl t d.b) cX;have tr:=aoV (mw t d) ⟨#[10]⟩;have X:=am_ d.op;have H:=c d.aT;rw[x]at C r s E;rw[w]at D v;rw[F]at r v;rw[lt]at s;have L:1<=d.b.length->(mw t d).size<=30000+et u d.b:=λh=>by{unfold mw;simp only[ie,Jg,List.size_toArray,kI,List.length_nil];omega};have f:d.ak=1\/d.ak=2\/d.ak=3\/d.ak=4\/d.ak=5\/d.ak=6\/d.ak=7\/d.ak=8\/d.ak=9\/d.ak=10\/d.ak=11\/d.ak=12\/d.ak=13\/d.ak=14\/d.ak=15\/d.ak=16\/d.ak=20\/d.ak=21\/d.ak=22\/d.ak=23\/d.ak=24\/d.ak=25\/d.ak=26\/d.ak=27\/d.ak=28\/d.ak=29\/d.ak=30\/d.ak=31\/d.ak=32\/d.ak=33\/d.ak=34\/d.ak=35\/d.ak=36\/d.ak=37:=by{apply Classical.byContradiction;intro q;simp only[not_or]at q;simp[df,dx,q]at U};rcases f with e|e|e|e|e|e|e|e|e|e|e|e|e|e|e|e|e|e|e|e|e|e|e|e|e|e|e|e|e|e|e|e|e|e
 all_goals simp[df,dx,F4,e]at U
 all_goals simp only[xu,jL,K7,jV,jm,e,ge_iff_le,Int.reduceLE,Int.reduceBEq,decide_true,decide_false,aW,y,oG,Bool.true_or,Bool.or_false,Bool.false_or]
 all_goals try simp only[Pb,DX,Bool.cond_eq_ite]
 all_goals repeat' split
 all_goals try simp only[L4,ie,Jg,List.size_toArray,kI,List.length_nil,AI,FQ,Wh,FL]
 all_goals first
  |omega
  | (rename_i z;simp only[beq_iff_eq,Bool.or_eq_true,not_or]at z;omega)
  | (rename_i o p;rw[ahr,Bool.not_eq_true']at o p;rw[o,p]at U;simp at U;omega)
end
end
end Go.Proofs.YthhiffpfleacaaaGreatDoor
namespace Go.Proofs
section
open Tryz
open Go.Shelf
def XY:Go.Shelf.Ren:=⟨λ|156=>35|165=>70|166=>71|169=>72|240=>108|241=>109|276=>135|277=>136|n=>n,λ|31=>59|9=>9|3=>3|4=>4|0=>0|20=>20|72=>104|76=>93|70=>102|37=>97|75=>92|127=>126|164=>144|5=>5|80=>106|n=>n,λ|n=>n⟩
def XX:Go.Proofs.Lays.n156 prog XY:={
 mixed:=by kernel_rfl
 f156:=bV func35
 f165:=bV func70
 f166:=bV func71
 f169:=bV func72
 f240:=bV func108
 f241:=bV func109
 f276:=bV func135
 f277:=bV func136
 t0:=underlying0
 a0:=isAgg0
 z0:=sizeOf0
 v0:=zeroValue0
 t3:=underlying3
 a3:=isAgg3
 z3:=sizeOf3
 v3:=zeroValue3
 t4:=underlying4
 a4:=isAgg4
 z4:=sizeOf4
 v4:=zeroValue4
 t9:=underlying9
 a9:=isAgg9
 z9:=sizeOf9
 v9:=zeroValue9
 t20:=underlying20
 a20:=isAgg20
 z20:=sizeOf20
 v20:=zeroValue20
 t31:=underlying59
 a31:=isAgg59
 z31:=sizeOf59
 v31:=zeroValue59
 t37:=underlying97
 a37:=isAgg97
 z37:=sizeOf97
 v37:=zeroValue97
 t70:=underlying102
 a70:=isAgg102
 z70:=sizeOf102
 v70:=zeroValue102
 t72:=underlying104
 a72:=isAgg104
 z72:=sizeOf104
 v72:=zeroValue104
 t75:=underlying92
 a75:=isAgg92
 z75:=sizeOf92
 v75:=zeroValue92
 t76:=underlying93
 a76:=isAgg93
 z76:=sizeOf93
 v76:=zeroValue93
 t127:=underlying126
 a127:=isAgg126
 z127:=sizeOf126
 v127:=zeroValue126
 t164:=underlying144
 a164:=isAgg144
 z164:=sizeOf144
 v164:=zeroValue144}
def XV:Builder.Extra prog XY:={
 sizeBuilder:=by kernel_rfl
 liesBuilder:=by kernel_rfl
 t5:=underlying5
 a5:=isAgg5
 z5:=sizeOf5
 v5:=zeroValue5
 infoByte:=by kernel_rfl
 cellsByte:=by kernel_rfl
 sizeByte:=by kernel_rfl
 neB5:=by decide}
open Go.RowKit in
def Tryz.strings_Join_none(a:Option Addr)(c:Nat)(kA:ByteArray)(w:World):
  Calls prog 35 #[.slice a 0 c,.string kA] w λe w'=>e= .returned (.string ⟨#[]⟩)/\w'=w:=Any.strings_Join_none XX XV a c kA w
open Go.RowKit in
def Tryz.strings_Join(bk o c:Nat)(xs:List ByteArray)(kA:ByteArray)(w:World)(ah3:∀(j:Nat)x,xs[j]?=some x->w.cell? ⟨bk,o+j,none⟩=some (.string x))(hbk:bk<w.heap.size)(hN:xs.length<=140737488355328)(ah2:xs.length<=c)(R9:(Lib.join (xs.map (·.data.toList)) kA.data.toList).length<=140737488355328):
  Calls prog 35 #[.slice (some ⟨bk,o,none⟩) xs.length c,.string kA] w λe w'=>e= .returned (.string ⟨(Lib.join (xs.map (·.data.toList)) kA.data.toList).toArray⟩)/\Below w.heap.size w w':=Any.strings_Join XX XV bk o c xs kA w ah3 hbk hN ah2 R9
def ad9:Go.Shelf.Ren:=⟨λ|102=>36|209=>73|207=>110|n=>n,λ|9=>9|4=>4|3=>3|n=>n,λ|n=>n⟩
def ad8:Go.Proofs.Lays.n102 prog ad9:={
 mixed:=by kernel_rfl
 f102:=bV func36
 f207:=bV func110
 f209:=bV func73
 t3:=underlying3
 a3:=isAgg3
 z3:=sizeOf3
 v3:=zeroValue3
 t4:=underlying4
 a4:=isAgg4
 z4:=sizeOf4
 v4:=zeroValue4
 t9:=underlying9
 a9:=isAgg9
 z9:=sizeOf9
 v9:=zeroValue9}
open Go.RowKit Go.Lib in
def Tryz.strings_TrimSuffix(s p:ByteArray)(w:World)(hs:s.size<=9223372036854775807):
  Calls prog 36 #[.string s,.string p] w λe w'=>e= .returned (.string ⟨(Lib.trimSuffix s.data.toList p.data.toList).toArray⟩)/\w'=w:=Any.strings_TrimSuffix ad8 s p w hs
end
end Go.Proofs
namespace Go.Proofs.YthhiffpfleacaaaGreatDoor
set_option maxRecDepth 100000
open Go.Value (int slice string bool pointer agg tuple func float iface nilIface)
open Go.IntKind (i64 u8 u64 i32 u32 u16 i8 i16)
open Go.FloatKind (f64)
open Go.Ending (returned panicked)
open Go.Proofs.Tryz
section
def jW(l:List ah):aN:=l.map .string
def Hn(b:List ah)(a:ah):Nat:=(Lib.join (b.map (·.data.toList)) a.data.toList).length
structure JnX where
 xs:List ah
 a:bv
 c:Nat
 kA:ah
abbrev Hm:aF where
 X:=JnX
 args x:=[Q x.a x.xs.length x.c,C x.kA]
 cond x:=e6 1 (jW x.xs) x.a x.xs.length/\x.xs.length<=4096/\x.xs.length<=x.c/\Hn x.xs x.kA<=140737488355328
 aE x F:=e8 F x.a (jW x.xs)
 val x _:=al (C (vw x.xs x.kA))
def Si:aG 35 Hm:=qC Hm (λ_=>rfl) (λ_ _=>()) (λ_ _=>ai) (λ_ _=>rfl) λx F I w s n t=>by
 obtain⟨z,a,c,f⟩:=x;obtain⟨k,p,l,m⟩:=s;dsimp only at k p l m n;cases z with
 |nil=>exact(Go.Proofs.Tryz.strings_Join_none a c f w).mono λe y h=>⟨h.1,h.2▸RowKit.Below.refl _ _⟩
 |cons x0 r=>
  obtain⟨b,o,rfl⟩:=k.some X;have i:e8 F (some ⟨b,o,none⟩) (jW (x0::r)):=n;have d:∀(j:Nat)x,(x0::r)[j]?=some x->w.cell? ⟨b,o+j,none⟩=some (.string x):=λj x u=>by{exact t.xr (i.look (j:=j) (v:=.string x) (by unfold jW;rw[fZ,u] <;> rfl))};have q:b<w.heap.size:=by{have h:=d 0 x0 rfl;rcases Nat.lt_or_ge b w.heap.size with g|g;exact g;exfalso;unfold World.cell? at h;rw[show w.heap[(⟨b,o+0,none⟩:Addr).block]?=none from by simp[g]]at h;cases h};exact(Go.Proofs.Tryz.strings_Join b o c (x0::r) f w d q O l m).mono λe y h=>h
abbrev Mc:aF where
 X:=kB
 args x:=[C x.a,C x.b]
 cond x:=x.a.size<=9223372036854775807
 val x _:=al (C (Jn x.a x.b))
def aoU:aG 36 Mc:=qC Mc (λ_=>rfl) (λ_ _=>()) (λ_ _=>ai) (λ_ _=>rfl) λx F I w a b c=>
 (Go.Proofs.Tryz.strings_TrimSuffix x.a x.b w a).mono λe d h=>⟨h.1,h.2▸RowKit.Below.refl _ _⟩
def uI(a:bv)(aq:Nat):bv:=if aq=1 then a else a.map (·.add 1)
structure PJ where
 a:bv
 n:Nat
 aq:Nat
def CQ:j5 where
 X:=PJ
 args x:=[.slice x.a x.n x.aq,.int .i64 1]
 cond x:=1<=x.n
 val x:=.slice (uI x.a x.aq) (x.n-1) (x.aq-1)
variable{A B G:ag}{q:Nat}{o:Oper}
theorem Ws{P:Program}{t e:TypeId}{x y:Operand}{b:TypeInfo}(h:o.op= .slice t x (some y) none none)(k:P.underlying t=some (.slice e))(i:P.info? e=some b)(p:b.size=1):cN P o CQ:=by
 refine⟨λq w ρ f g=>?_⟩;obtain⟨a,n,aq⟩:=q;have g:1<=n:=g;simp only[h,Op.operands,CQ]at f;have c:ρ x= .slice a n aq/\ρ y= .int .i64 1:=by simpa using f
 obtain⟨l,m⟩:=c;have j:(1:Int)<=n:=O;have d:P.cellsOf e=1:=by unfold Program.cellsOf;simp[*]
 simp[execOp,h,l,m,Instr.sliceAt,Instr.slice,Instr.sliceBounds,Instr.sliceBound,asIntOf,run_underlying k,run_sizeOf w i,d,j,CQ,uI]
structure mS(K:bD)(ns:List aR):Prop where
 aT:aG 32 (zq K)
 len:ns.length<=4096
 lm:∀(i:Nat)(d:aR),ns[i]?=some d->d.b.length<=4096/\(∀k∈d.b,0<=k/\k<(i:Int))/\df (S ns) d=true/\d.op.size<=16384
 l_:∀m i,(aP K.tv (S ns) m i).size<=4398046511104
 sum:∀(m i:Nat)(d:aR),ns[i]?=some d->md (aP K.tv (S ns) m) d.b<=4398046511104
 tvs:∀n,(K.tv n).size<=8192
structure fK(K:bD)(ns:List aR)(a:bv)(F:ag):Prop where
 nd:mj ns a F
 gl:eu K F
theorem fK.sub{K:bD}{b:List aR}{a:bv}(hs:Sub A B)(h:fK K b a A):fK K b a B:=⟨h.nd.sub hs,h.gl.sub hs⟩
structure tO where
 K:bD
 ns:List aR
 a:bv
 ca:Nat
 i:Nat
abbrev d9(m:Nat):aF where
 X:=tO
 args x:=[.agg #[.slice x.a x.ns.length x.ca],.int .i64 x.i]
 cond x:=mS x.K x.ns/\x.i<m/\x.i<x.ns.length
 aE x F:=fK x.K x.ns x.a F
 val x _:=al (C (aP x.K.tv (S x.ns) m x.i))
structure eQ where
 K:bD
 ns:List aR
 a:bv
 ca:Nat
 i:Nat
 m:Nat
structure A4(x:eQ):Prop where
 tx:aG 13 (d9 x.m)
 ok:mS x.K x.ns
 im:x.i<x.m
 il:x.i<x.ns.length
abbrev dY(v:(Nat->aR)->(Nat->ah)->Nat->ah):aF where
 X:=eQ
 args x:=[.agg #[.slice x.a x.ns.length x.ca],.int .i64 x.i]
 cond x:=A4 x
 aE x F:=fK x.K x.ns x.a F
 val x _:=al (C (v (S x.ns) (aP x.K.tv (S x.ns) x.m) x.i))
theorem bC{n:Nat}(h:n<=9223372036854775807:=by first|omega| (simp only[ie,Jg,List.size_toArray,kI,List.length_nil];omega)):n<=9223372036854775807:=h
theorem wl{K:bD}{b:List aR}{a:bv}{ca m:Nat}{R:tO->Prop}(d:aG 13 (d9 m))(c:mS K b)(g:q<m)(f:q<b.length)(e:fK K b a G)(k:R ⟨K,b,a,ca,q⟩):
  aG 13 (d9 m)/\true=true/\∃x:tO,[agg #[.slice a b.length ca],.int .i64 (q:Int)]=[.agg #[.slice x.a x.ns.length x.ca],.int .i64 (x.i:Int)]/\([]:List ag)=[]/\(mS x.K x.ns/\x.i<m/\x.i<x.ns.length)/\fK x.K x.ns x.a G/\∀_:ax,True->R x:=
 (ba d ⟨K,b,a,ca,q⟩ ⟨c,g,f⟩ e λ_ _=>k)
theorem Z7{K:bD}{b:List aR}{a:bv}{ca m:Nat}{f:FuncId}{v:(Nat->aR)->(Nat->ah)->Nat->ah}{R:eQ->Prop}(e:aG f (dY v))(d:aG 13 (d9 m))(c:mS K b)(i:q<m)(h:q<b.length)(g:fK K b a G)(k:R ⟨K,b,a,ca,q,m⟩):
  aG f (dY v)/\true=true/\∃x:eQ,[agg #[.slice a b.length ca],.int .i64 (q:Int)]=[.agg #[.slice x.a x.ns.length x.ca],.int .i64 (x.i:Int)]/\([]:List ag)=[]/\A4 x/\fK x.K x.ns x.a G/\∀_:ax,True->R x:=
 (ba e ⟨K,b,a,ca,q,m⟩ ⟨d,c,i,h⟩ g λ_ _=>k)
theorem Hq{F:ag}{b p n c:Nat}(j:Nat){q:Int}{R:Int->Prop}(a:cN prog o (dy 1))(e:j<n)(d:aH F ⟨b,p+j,none⟩ (.int .i64 q))(k:R q):
  cN prog o (dy 1)/\∃x:qD,[slice (some ⟨b,p,none⟩) n c,.int .i64 (j:Int)]=[.slice (some ⟨x.b,x.o,none⟩) x.len x.aq,.int .i64 x.n]/\(0<=x.n/\x.n<(x.len:Int))/\∃v:Int,aH F ⟨x.b,x.o+x.n.toNat*1,none⟩ (.int .i64 v)/\R v:=
 ⟨a,⟨b,p,n,c,j⟩,rfl,rf,q,by dsimp only;rw[cy,Nat.mul_one];exact d,k⟩
structure mT where
 K:bD
 ns:List aR
 a:bv
 ca:Nat
 m:Nat
 ks:aM
 k:bv
 c:Nat
structure nF(x:mT):Prop where
 tx:aG 13 (d9 x.m)
 ok:mS x.K x.ns
 af:e6 1 (a7 x.ks) x.k x.ks.length
 len:x.ks.length<=4096
 gK:∀k∈x.ks,0<=k/\k<(x.m:Int)/\k<x.ns.length
 sum:md (aP x.K.tv (S x.ns) x.m) x.ks<=4398046511104
structure tJ(x:mT)(F:ag):Prop where
 g:fK x.K x.ns x.a F
 ks:e8 F x.k (a7 x.ks)
theorem tJ.sub{x:mT}(hs:Sub A B)(h:tJ x A):tJ x B:=⟨h.g.sub hs,h.ks.sub hs⟩
abbrev DV:aF where
 X:=mT
 Y:=Row
 args x:=[.agg #[.slice x.a x.ns.length x.ca],.slice x.k x.ks.length x.c,.func (.func 13) #[.agg #[.slice x.a x.ns.length x.ca]] #[]]
 cond x:=nF x
 aE x F:=tJ x F
 bS x y:=bl 9 1 (jW (lG (aP x.K.tv (S x.ns) x.m) x.ks)) y
 val _ y:=al (Q y.a y.n y.aq)
 post _ y:=[y.A]
structure Gt where
 i:Nat
 r:Row
def akO(x:mT)(F:ag):Nat->Option Inv:=fun
 |0=>some {X:=Gt,P:=λd=>d.i<=x.ks.length/\bl 9 1 (jW (lG (aP x.K.tv (S x.ns) x.m) (x.ks.take d.i))) d.r,mu:=λd=>x.ks.length-d.i,lv:=λd=>[(2,.func (.func 13) #[.agg #[.slice x.a x.ns.length x.ca]] #[]),(7,.slice d.r.a d.r.n d.r.aq),(10,.slice x.k x.ks.length x.c),(11,.int .i64 x.ks.length),(12,.int .i64 d.i)],st:=λd=>[F,d.r.A]}
 |_=>none
def akP(x:mT)(a:ag):List (Nat×Nat×OH):=[(0,0,.n 10),(4,0,.qo (dy 1)),(4,1,cD),(5,3,aI (d9 x.m)),(5,4,.n 6040),(5,5,.o (cS 9 1 16) [1] [1])]
def M0(a:Gt)(x:mT):=a.i<=x.ks.length/\bl 9 1 (jW (lG (aP x.K.tv (S x.ns) x.m) (List.take a.i x.ks))) a.r
abbrev qh(x:mT):aN:=[Q x.a x.ns.length x.ca]
def Kq(c:Oper):=jc c (cS (9:TypeId) 1 16) (λa=>bl 9 1 a.cs a.r/\a.ys.length=a.m*1/\mM a/\(a.r.n+a.m)*16<=140737488355328/\a.r.n+a.m<=9223372036854775807/\jx a) l6 (λa b=>bl 9 1 (a.cs++a.ys) b/\b.n=a.r.n+a.m/\(a.m=0->b=a.r))
theorem akQ(x:mT)(F:ag)(M:DV.cond x)(U:DV.aE x F):∀(k:Nat),(∃(a:Gt),M0 a x/\(func (Fn.func 13) ⟨[agg ⟨qh x⟩]⟩ ⟨[]⟩=func (Fn.func 13) ⟨[agg ⟨qh x⟩]⟩ ⟨[]⟩/\Q none 0 0=Q a.r.a a.r.n a.r.aq/\Q x.k x.ks.length x.c=Q x.k x.ks.length x.c/\Z ↑x.ks.length=Z ↑x.ks.length/\Z 0=Z ↑a.i/\True)/\ay [(0,F),(10,D k (qh x) 45)] [(0,F),(1,a.r.A)])/\aQ λ(j:Gt)_=>M0 j x->aK ((j.i:Int)<(x.ks.length:Int)) (b9 (aL f69 4 0) [Q x.k x.ks.length x.c,Z ↑j.i] (λh=>T1 F ⟨h.b,h.o+h.n.toNat*1,none⟩ (λn=>bz 13 (d9 x.m) (λf=>mS f.K f.ns/\f.i<x.m/\f.i<f.ns.length) (λf W=>fK f.K f.ns f.a W) [agg ⟨qh x⟩,Z n] (g [(0,F),(1,j.r.A)] []) (λf e=>∀(d:Nat),Kq (aL f69 5 5) [Q j.r.a j.r.n j.r.aq,Q (bq d) 1 1] [j.r.A] (g [(0,F),(1,j.r.A),(6040,D d [C (aP f.K.tv (S f.ns) x.m f.i)] 9)] [1]) (λc b=>aA ((j.i:Int)+1)/\∃(a:Gt),M0 a x/\(func (Fn.func 13) ⟨[agg ⟨qh x⟩]⟩ ⟨[]⟩=func (Fn.func 13) ⟨[agg ⟨qh x⟩]⟩ ⟨[]⟩/\Q b.a b.n b.aq=Q a.r.a a.r.n a.r.aq/\Q x.k x.ks.length x.c=Q x.k x.ks.length x.c/\Z ↑x.ks.length=Z ↑x.ks.length/\Z ((j.i:Int)+1)=Z ↑a.i/\True)/\ay [(0,F),(1,b.A),(6040,D d [C (aP f.K.tv (S f.ns) x.m f.i)] 9)] [(0,F),(1,a.r.A)]/\x.ks.length-a.i<x.ks.length-j.i))))) (l DV x F (al (Q j.r.a j.r.n j.r.aq)) [(0,F),(1,j.r.A)]):=by
 delta M0 qh b9 T1 mM jx l6 Kq bq g aA bz jc Z C Q D aK al aQ;obtain⟨K,v,a,ca,m,p,k,c⟩:=x;obtain⟨G,E,A,I,B,J⟩:=M;obtain⟨n,r⟩:=U;dsimp only at G E A I B J n r⊢;intro b;refine⟨⟨⟨0,dq⟩,⟨b7 _,.nil rfl⟩,aU,ao [0,9999]⟩, ?_⟩;rintro⟨i,w⟩ js ⟨P,s⟩;dsimp only at P s⊢;refine bd (λR=>?_) (λN=>⟨w, ?_,rfl,ao [1,0]⟩);obtain⟨q,t⟩:∃q,p[i]?=some q:=⟨_,da O⟩;obtain⟨b1,o1,rfl⟩:=A.some O;have T:=B q (iz t);obtain⟨z,rfl⟩:∃z:Nat,q=(z:Int):=⟨q.toNat,O⟩;have H:=s.len;unfold jW lG at H;rw[List.length_map,List.length_map,List.length_take]at H;refine Hq i (bZ 1 rfl rfl rfl rfl) O (r.look (p8 t)) (wl G E O O (n.sub (bB 0)) ?_);intro b;refine ba (iN 1 16 rfl rfl rfl rfl rfl rfl rfl (by decide)) ⟨w,jW (lG (aP K.tv (S v) m) (p.take i)),some ⟨b,0,none⟩,1,1,[.string (aP K.tv (S v) m z)]⟩ ⟨s,rfl,λu V=>by rw[List.mem_singleton.1 V] <;> rfl,by grind,by grind,λh=>nomatch h⟩ (λY L=>?_) λy o=>⟨aC,⟨i+1,y⟩,⟨by grind, ?_⟩,aU,ao [0,1],by grind⟩;cases L;exact cR.rest (j:=6040) X (cR.cells (λj u hj=>by simp[*]));have o:=o.1;dsimp only at o⊢;rw[List.take_add_one,t];unfold jW lG at o⊢;rw[List.map_append,List.map_append];exact o;have e:i=p.length:=O;show bl 9 1 (jW (lG (aP K.tv (S v) m) p)) w;grind
theorem aap:aG 69 DV:=mt func69 akP akO akQ
abbrev kD(a:ah):aF where
 X:=mT
 args x:=[.agg #[.slice x.a x.ns.length x.ca],.slice x.k x.ks.length x.c]
 cond x:=nF x
 aE x F:=tJ x F
 val x _:=al (C (ff (aP x.K.tv (S x.ns) x.m) x.ks a))
def aav(b:mT)(a:ag):List (Nat×Nat×OH):=[(0,0,.n 10),(1,0,z 10),(1,2,z 10),(1,4,.c DV [] [20]),(1,5,aI Hm)]
def Kr:=dP 69 DV nF tJ (λa b=>bl 9 1 (jW (lG (aP a.K.tv (S a.ns) a.m) a.ks)) b)
abbrev NW(x:mT):aN:=[agg ⟨qh x⟩,Q x.k x.ks.length x.c,func (Fn.func 13) ⟨[agg ⟨qh x⟩]⟩ ⟨[]⟩]
def DG:=bz 35 Hm (λa=>e6 1 (jW a.xs) a.a a.xs.length/\a.xs.length<=4096/\a.xs.length<=a.c/\Hn a.xs a.kA<=140737488355328) (λa b=>e8 b a.a (jW a.xs))
abbrev Fx(F:ag)(e:Nat)(x:mT)(c:Row):=[(0,F),(10,D e (qh x) 45),(20,c.A)]
theorem alb(x:mT)(F:ag)(p:(kD cX).cond x)(q:(kD cX).aE x F):∀(e:Nat),V e 0/\V e 0/\Kr (NW x) ([]:List ag) (g [(0,F),(10,D e (qh x) 45)] []) (λd c=>DG [Q c.a c.n c.aq,C ⟨#[44,32]⟩] (g (Fx F e x c) []) (λb a=>l (kD cX) x F (al (C (vw b.xs b.kA))) (Fx F e x c))):=by
 delta Kr qh NW DG Fx g V bz dP C Q D al;obtain⟨K,h,a,ca,m,f,k,c⟩:=x;have q:tJ ⟨K,h,a,ca,m,f,k,c⟩ F:=q;intro b;refine⟨Y,Y,aap,rfl,⟨K,h,a,ca,m,f,k,c⟩,rfl,rfl,p,q.sub (bB 0),λy i=>?_⟩;have i:bl 9 1 (jW (lG (aP K.tv (S h) m) f)) y:=i;have n:(lG (aP K.tv (S h) m) f).length=y.n:=by{have n:=i.len;unfold jW at n;grind};have j:=i.le;have o:=i.af;rw[<-n]at j o;refine⟨Si,rfl,⟨lG (aP K.tv (S h) m) f,y.a,y.aq,cX⟩,by first| (rw[<-n];done)| (rw[<-n] <;> rfl),rfl,⟨o, ?_,j, ?_⟩,CP 20 X rfl i,λ_ _=>iy⟩;have:=p.len;unfold lG;simp[*];have v:=ub (t:=aP K.tv (S h) m) f cX;have s:=p.sum;have r:=p.len;dsimp only at s r⊢;have w:(ff (aP K.tv (S h) m) f cX).size=Hn (lG (aP K.tv (S h) m) f) cX:=List.size_toArray;have u:(cX:ah).size<=2:=by decide
 have z:=Nat.mul_le_mul u r;omega
theorem HD:aG 34 (kD cX):=iB func34 aav alb
theorem akU(x:mT)(F:ag)(p:(kD ⟨#[]⟩).cond x)(q:(kD ⟨#[]⟩).aE x F):∀(e:Nat),V e 0/\V e 0/\Kr (NW x) ([]:List ag) (g [(0,F),(10,D e (qh x) 45)] []) (λd c=>DG [Q c.a c.n c.aq,C ⟨#[]⟩] (g (Fx F e x c) []) (λb a=>l (kD gy) x F (al (C (vw b.xs b.kA))) (Fx F e x c))):=by
 delta Kr qh NW DG Fx gy g V bz dP C Q D al;obtain⟨K,h,a,ca,m,f,k,c⟩:=x;have q:tJ ⟨K,h,a,ca,m,f,k,c⟩ F:=q;intro b;refine⟨Y,Y,aap,rfl,⟨K,h,a,ca,m,f,k,c⟩,rfl,rfl,p,q.sub (bB 0),λy i=>?_⟩;have i:bl 9 1 (jW (lG (aP K.tv (S h) m) f)) y:=i;have n:(lG (aP K.tv (S h) m) f).length=y.n:=by{have n:=i.len;unfold jW at n;grind};have j:=i.le;have o:=i.af;rw[<-n]at j o;refine⟨Si,rfl,⟨lG (aP K.tv (S h) m) f,y.a,y.aq,⟨#[]⟩⟩,by first| (rw[<-n];done)| (rw[<-n] <;> rfl),rfl,⟨o, ?_,j, ?_⟩,CP 20 X rfl i,λ_ _=>iy⟩;have:=p.len;unfold lG;simp[*];have v:=ub (t:=aP K.tv (S h) m) f ⟨#[]⟩;have s:=p.sum;have r:=p.len;dsimp only at s r⊢;have w:(ff (aP K.tv (S h) m) f ⟨#[]⟩).size=Hn (lG (aP K.tv (S h) m) f) ⟨#[]⟩:=List.size_toArray;have u:(⟨#[]⟩:ah).size<=2:=by decide
 have z:=Nat.mul_le_mul u r;omega
theorem EC:aG 57 (kD ⟨#[]⟩):=iB func57 aav akU
def alQ(x:eQ)(a:ag):List (Nat×Nat×OH):=[(0,0,.n 10),(1,2,z 10),(1,4,.qo (dy 5)),(1,6,cD),(10,0,z 1),(10,2,aI (d9 x.m)),(11,0,z 1),(11,2,aI (d9 x.m))]
abbrev l5(x:eQ):aN:=[Q x.a x.ns.length x.ca]
def alP(x:eQ)(F:ag):Nat->Option Inv:=fun
 |10=>some {X:=Nat,P:=λ_=>True,mu:=λ_=>0,lv:=λp=>[(1,Z x.i),(2,bL p),(12,H (B0 (S x.ns x.i).ak))],st:=λp=>[F,D p (l5 x) 45]}
 |_=>none
abbrev vQ(x:eQ):aN:=[Q x.a x.ns.length x.ca,Z ↑x.i]
abbrev Fq(a:ag)(z:Nat)(e1:eQ):=[(0,a),(1,D z (l5 e1) 45)]
def wM(a:ag)(e1:eQ)(c d:aD)(b:St):=∃(z:Nat),True/\(Z ↑e1.i=Z ↑e1.i/\c=W (bq z)/\d=H (B0 (S e1.ns e1.i).ak)/\True)/\ay b (Fq a z e1)
abbrev nh(F:ag)(g:Nat)(x:eQ):=[(0,F),(10,D g (l5 x) 45)]
def nG(b:eQ):=bz 13 (d9 b.m) (λa=>mS a.K a.ns/\a.i<b.m/\a.i<a.ns.length) (λa c=>fK a.K a.ns a.a c)
abbrev vT(x:eQ):aN:=[agg ⟨l5 x⟩,Z ↑x.i]
abbrev Fh(b:tO)(x:eQ):=al (C (aP b.K.tv (S b.ns) x.m b.i))
abbrev l4:ah:=ByteArray.mk #[40]
abbrev E1(b:tO)(x:eQ):=al (C (l4++aP b.K.tv (S b.ns) x.m b.i++(ByteArray.mk #[41])))
theorem alR(x:eQ)(F:ag)(w:(dY di).cond x)(n:(dY di).aE x F):∀(h:Nat),V h 0/\fV (aL f39 1 4) (vQ x) (λf=>T1 F ⟨f.b,f.o+f.n.toNat*5,none⟩ (λe=>Br (e==1) (wM F x (bL h) (H (e==1)) (nh F h x)) (Br (e==2) (wM F x (bL h) (H (e==2)) (nh F h x)) (Br (e==3) (wM F x (bL h) (H (e==3)) (nh F h x)) (Br (e==4) (wM F x (bL h) (H (e==4)) (nh F h x)) (Br (e==5) (wM F x (bL h) (H (e==5)) (nh F h x)) (Br (e==8) (wM F x (bL h) (H (e==8)) (nh F h x)) (Br (e==9) (wM F x (bL h) (H (e==9)) (nh F h x)) (wM F x (bL h) (H (e==10)) (nh F h x))))))))/\aQ λ(d:Nat)_=>True->Br (B0 (S x.ns x.i).ak) (V d 0/\nG x (vT x) (g (Fq F d x) []) (λb a=>l (dY di) x F (Fh b x) (Fq F d x))) (V d 0/\nG x (vT x) (g (Fq F d x) []) (λb a=>1+(aP b.K.tv (S b.ns) x.m b.i).size<=9223372036854775807/\(l4++aP b.K.tv (S b.ns) x.m b.i).size+1<=9223372036854775807/\l (dY di) x F (E1 b x) (Fq F d x))))):=by
 delta fV vQ T1 bq l5 Fq wM bL nh nG vT Fh l4 E1 g V bz Z C H W Q D al aQ;obtain⟨K,j,a,ca,i,m⟩:=x;obtain⟨s,o,t,r⟩:=w;replace n:fK K j a F:=n;dsimp only at s o t r⊢;obtain⟨d,u⟩:∃d,j[i]?=some d:=⟨_,da r⟩;obtain⟨rb,k,c,e,-,-,y,-⟩:=n.nd.h i d u;have U:(S j i).ak=d.ak:=by rw[mY u]
 have B:=o.l_ m i;intro b;refine⟨Y,bZ 5 rfl rfl rfl rfl,⟨rb,0,j.length,ca,i⟩,by rw[e],⟨by simp[*],by simp[*]⟩,d.ak,y, ?_, ?_⟩;rw[U];exact RC [1,2,3,4,5,8,9,10] (A:=λv=>∃p:Nat,True/\(int .i64 (i:Int)=int .i64 (i:Int)/\pointer (some ⟨b,0,none⟩)=pointer (some ⟨p,0,none⟩)/\bool v=bool (B0 d.ak)/\True)/\ay [(0,F),(10,ag.cells b [slice a j.length ca] 45)] [(0,F),(1,ag.cells p [slice a j.length ca] 45)]) ⟨b,ai,⟨rfl,rfl,by unfold B0 dx;simp[*],ai⟩,ao [0,10]⟩;intro b z _;exact ar (λq=>⟨Y,wl s o t r (n.sub (bB 0)) ⟨(),ai,by show _=returned (.string (di _ _ _));unfold di;grind,ao [0]⟩⟩) (λq=>⟨Y,wl s o t r (n.sub (bB 0)) ⟨bC,bC,(),ai,by show _=returned (.string (di _ _ _));unfold di;rw[q] <;> rfl,ao [0]⟩⟩)
theorem vF:aG 39 (dY di):=oI func39 alQ alP alR
def ak5(x:eQ)(a:ag):List (Nat×Nat×OH):=[(0,0,.n 10),(1,2,z 10),(1,4,.qo (dy 5)),(1,6,cD),(2,0,z 10),(2,2,aI (d9 x.m)),(3,0,z 10),(3,2,aI (dY di))]
abbrev Fi:eQ->ag->Prop:=λa b=>fK a.K a.ns a.a b
def u7:=bz 39 (dY di) A4 Fi
theorem ak6(x:eQ)(F:ag)(s:(dY hZ).cond x)(f:(dY hZ).aE x F):∀(e:Nat),V e 0/\fV (aL f38 1 4) (vQ x) (λd=>T1 F ⟨d.b,d.o+d.n.toNat*5,none⟩ (λc=>Br (c==1) (V e 0/\nG x (vT x) (g (nh F e x) []) (λb a=>1+(aP b.K.tv (S b.ns) x.m b.i).size<=9223372036854775807/\(l4++aP b.K.tv (S b.ns) x.m b.i).size+1<=9223372036854775807/\l (dY hZ) x F (E1 b x) (nh F e x))) (V e 0/\u7 (vT x) (g (nh F e x) []) (λb a=>l (dY hZ) x F (al (C (di (S b.ns) (aP b.K.tv (S b.ns) b.m) b.i))) (nh F e x))))):=by
 delta fV vQ T1 nG l5 vT nh l4 E1 Fi u7 g V bz Z C Q D al;obtain⟨K,n,a,ca,i,m⟩:=x;obtain⟨o,h,p,j⟩:=s;replace f:fK K n a F:=f;dsimp only at o h p j⊢;obtain⟨d,r⟩:∃d,n[i]?=some d:=⟨_,da j⟩;obtain⟨rb,k,c,e,-,-,t,-⟩:=f.nd.h i d r;have U:(S n i).ak=d.ak:=by rw[mY r]
 have u:=h.l_ m i;intro b;exact⟨Y,bZ 5 rfl rfl rfl rfl,⟨rb,0,n.length,ca,i⟩,by rw[e],⟨by simp[*],by simp[*]⟩,d.ak,t,ar (λq=>⟨Y,wl o h p j (f.sub (bB 0)) ⟨bC,bC,(),ai,by show _=returned (.string (hZ _ _ _));unfold hZ;rw[U,q] <;> rfl,ao [0]⟩⟩) (λq=>⟨Y,Z7 vF o h p j (f.sub (bB 0)) ⟨(),ai,by show _=returned (.string (hZ _ _ _));unfold hZ;simp[*],ao [0]⟩⟩)⟩
theorem SN:aG 38 (dY hZ):=iB func38 ak5 ak6
def alV(x:eQ)(a:ag):List (Nat×Nat×OH):=[(0,0,.n 10),(1,2,z 10),(1,4,.qo (dy 5)),(1,6,cD),(3,0,z 10),(3,2,aI (d9 x.m))]
theorem alW(x:eQ)(F:ag)(r:(dY iJ).cond x)(f:(dY iJ).aE x F):∀(e:Nat),V e 0/\fV (aL f59 1 4) (vQ x) (λd=>T1 F ⟨d.b,d.o+d.n.toNat*5,none⟩ (λc=>Br (c==36) (l (dY iJ) x F zY (nh F e x)) (V e 0/\nG x (vT x) (g (nh F e x) []) (λb a=>l (dY iJ) x F (Fh b x) (nh F e x))))):=by
 delta fV vQ T1 zY l5 nh nG vT Fh g V bz Z C Q D al;obtain⟨K,h,a,ca,i,m⟩:=x;obtain⟨p,o,s,n⟩:=r;replace f:fK K h a F:=f;obtain⟨d,j⟩:∃d,h[i]?=some d:=⟨_,da n⟩;obtain⟨rb,k,c,e,-,-,t,-⟩:=f.nd.h i d j;have U:(S h i).ak=d.ak:=by rw[mY j]
 intro b;exact⟨Y,bZ 5 rfl rfl rfl rfl,⟨rb,0,h.length,ca,i⟩,by rw[e],⟨by simp[*],by simp[*]⟩,d.ak,t,ar (λq=>⟨(),ai,by show _=returned (.string (iJ _ _ _));unfold iJ;simp[*],ao [0]⟩) (λq=>⟨Y,wl p o s n (f.sub (bB 0)) ⟨(),ai,by show _=returned (.string (iJ _ _ _));unfold iJ;simp[*],ao [0]⟩⟩)⟩
theorem aay:aG 59 (dY iJ):=iB func59 alV alW
end
section
structure jB where
 K:bD
 ns:List aR
 a:bv
 ca:Nat
 i:Nat
 m:Nat
 d:aR
 k:bv
 c:Nat
structure nE(x:jB):Prop where
 tx:aG 13 (d9 x.m)
 ok:mS x.K x.ns
 at_:x.ns[x.i]?=some x.d
 im:x.i<=x.m
 af:e6 1 (a7 x.d.b) x.k x.d.b.length
 aq:x.d.b.length<=x.c
structure uX(x:jB)(F:ag):Prop where
 g:fK x.K x.ns x.a F
 ks:e8 F x.k (a7 x.d.b)
variable{F G:ag}{f:FuncId}{j:Nat}{o:Oper}{x:jB}
theorem uX.sub{A B:ag}(hs:Sub A B)(h:uX x A):uX x B:=⟨h.g.sub hs,h.ks.sub hs⟩
abbrev dO(v:(Nat->aR)->(Nat->ah)->aR->ah)(c:aR->Prop):aF where
 X:=jB
 args x:=[.agg #[.slice x.a x.ns.length x.ca],.agg #[.int .i64 x.d.ak,.string x.d.op,.float .f64 x.d.aT,.slice x.k x.d.b.length x.c,.int .i64 x.d.au]]
 cond x:=nE x/\c x.d
 aE x F:=uX x F
 val x _:=al (C (v (S x.ns) (aP x.K.tv (S x.ns) x.m) x.d))
structure acX(m n:Nat)(d:aR)(j q:Nat):Prop where
 e:d.b[j]?=some (q:Int)
 g:kd d j=q
 l:q<m
 n:q<n
theorem nE.lm(h:nE x)(j:Nat)(a:j<x.d.b.length):∃q,acX x.m x.ns.length x.d j q:=by
 obtain⟨z,b⟩:∃z,x.d.b[j]?=some z:=⟨_,da a⟩;have e:=(h.ok.lm x.i x.d h.at_).2.1 z (iz b);have c:=h.im;have d:=(ic.1 h.at_).1;exact⟨z.toNat,by grind,by unfold kd;grind,O,O⟩
theorem nE.ls(h:nE x){ks:aM}{k:bv}{c:Nat}(hs:∀z∈ks,z∈x.d.b)(d:ks.length<=x.d.b.length)(b:md (aP x.K.tv (S x.ns) x.m) ks<=md (aP x.K.tv (S x.ns) x.m) x.d.b)(a:e6 1 (a7 ks) k ks.length):nF ⟨x.K,x.ns,x.a,x.ca,x.m,ks,k,c⟩:=
 ⟨h.tx,h.ok,a,gi d (h.ok.lm x.i x.d h.at_).1,λz e=>by
  have i:=(h.ok.lm x.i x.d h.at_).2.1 z (hs z e);have f:=h.im;have g:=(ic.1 h.at_).1;dsimp only;omega,gi b (h.ok.sum x.m x.i x.d h.at_)⟩
theorem abr(t:Nat->ah)(l m:aM):md t (l++m)=md t l+md t m:=by unfold md;rw[List.map_append,List.sum_append]
theorem abs(t:Nat->ah)(l:aM)(j:Nat):md t (l.drop j)<=md t l:=by
 have:=abr t (l.take j) (l.drop j);rw[List.take_append_drop]at this;omega
theorem abt(t:Nat->ah)(l:aM)(j:Nat):md t (l.take j)<=md t l:=by
 have:=abr t (l.take j) (l.drop j);rw[List.take_append_drop]at this;omega
theorem ud{K:bD}{b:List aR}{a:bv}{ca m:Nat}{ks:aM}{k:bv}{n c:Nat}{d:ah}{R:mT->Prop}(e:aG f (kD d))(hn:n=ks.length)(h:nF ⟨K,b,a,ca,m,ks,k,c⟩)(g:fK K b a G)(U:e8 G k (a7 ks))(r:R ⟨K,b,a,ca,m,ks,k,c⟩):
  aG f (kD d)/\true=true/\∃x:mT,[agg #[.slice a b.length ca],.slice k n c]=[.agg #[.slice x.a x.ns.length x.ca],.slice x.k x.ks.length x.c]/\([]:List ag)=[]/\nF x/\tJ x G/\∀_:ax,True->R x:=by
 subst hn;exact ba e ⟨K,b,a,ca,m,ks,k,c⟩ h ⟨g,U⟩ λ_ _=>r
theorem nF.jb{x:mT}(h:nF x)(a:ah)(hs:a.size<=2:=by decide):(ff (aP x.K.tv (S x.ns) x.m) x.ks a).size<=4398046519296:=by
 have b:=ub (t:=aP x.K.tv (S x.ns) x.m) x.ks a;have c:=h.sum;have d:=Nat.mul_le_mul hs h.len;omega
theorem abl{ks:aM}{k:bv}{n c:Nat}(h:e6 1 (a7 ks) k n)(hn:1<=n):e6 1 (a7 (ks.drop 1)) (uI k c) (n-1):=by
 have a:=h.len;obtain⟨b,o,rfl⟩:=h.some O;have:(a7 (ks.drop 1)).length=(n-1)*1:=by unfold a7 at a⊢;simp[*]
 unfold uI;split;exact .ft b o _ this;exact .ft b (o+1) _ this
theorem WH{ks:aM}{k:bv}{n c:Nat}(h:e8 F k (a7 ks))(hs:e6 1 (a7 ks) k n)(hn:1<=n)(g:n<=c):e8 F (uI k c) (a7 (ks.drop 1)):=by
 have d:=hs.len;unfold a7 at d;obtain⟨b,o,rfl⟩:=hs.some O;intro f e j u a;unfold a7 at a;rw[fZ,List.getElem?_drop,<-fZ]at a;unfold uI at e;split at e;grind;cases e;have:=h ⟨b,o,none⟩ rfl (1+j) u a;rw[oC]at this;show aH F (Addr.add (Addr.add ⟨b,o,none⟩ 1) j) u;rw[oC,oC];grind
def kL(r i:Nat):List (Nat×Nat×OH):=[(r,i,.qo (dy 1)),(r,i+1,.q [.ex 0 (.int .i64)])]
def am1(x:jB)(a:ag):List (Nat×Nat×OH):=[(0,0,.n 10),(0,1,.n 20),(1,1,z 20),(2,1,z 20),(2,4,z 10),(2,6,z 20),(2,8,.qo CW),(2,9,aI (kD cX)),(2,12,z 10),(2,14,z 20),(2,18,aI (d9 x.m))]++kL 2 16
abbrev ER:ah:=ByteArray.mk #[102,117,110,99,116,105,111,110,32]
abbrev EW(x:jB):aN:=[Q x.k x.d.b.length x.c,Z ((x.d.b.length:Int)-1)]
def wN:=bz 34 (kD cX) nF tJ
abbrev uo(x:jB):aN:=[Q x.a x.ns.length x.ca]
abbrev EV(x:jB):aN:=[Z x.d.ak,C x.d.op,float f64 x.d.aT,Q x.k x.d.b.length x.c,Z x.d.au]
abbrev q1(F:ag)(l:Nat)(x:jB)(k:Nat):=[(0,F),(10,D l (uo x) 45),(20,D k (EV x) 35)]
abbrev fP(F:ag)(l:Nat)(x:jB)(k:Nat):=g (q1 F l x k) []
def jE(b:jB):=bz 13 (d9 b.m) (λa=>mS a.K a.ns/\a.i<b.m/\a.i<a.ns.length) (λa c=>fK a.K a.ns a.a c)
abbrev iW(x:jB)(f:Int):aN:=[agg ⟨uo x⟩,Z f]
abbrev kU:ah:=ByteArray.mk #[41,32]
theorem alu(x:jB)(F:ag)(hc:aF.cond (dO (λ_ t d=>mw t d) (λd=>1<=d.b.length)) x)(R:aF.aE (dO (λ_ t d=>mw t d) (λd=>1<=d.b.length)) x F):∀(r k:Nat),V k 3/\aA ((x.d.b.length:Int)-1)/\true=true/\V k 1/\9+x.d.op.size<=9223372036854775807/\(ER++x.d.op).size+1<=9223372036854775807/\V r 0/\V k 3/\DA (aL f37 2 8) (EW x) (λj=>wN [agg ⟨uo x⟩,Q j.a j.h.toNat j.aq] (fP F r x k) (λi h=>(ER++x.d.op++l4).size+(ff (aP i.K.tv (S i.ns) i.m) i.ks cX).size<=9223372036854775807/\(ER++x.d.op++l4++ff (aP i.K.tv (S i.ns) i.m) i.ks cX).size+2<=9223372036854775807/\V r 0/\V k 3/\b9 (aL f37 2 16) (EW x) (λs=>T1 F ⟨s.b,s.o+s.n.toNat*1,none⟩ (λf=>jE x (iW x f) (fP F r x k) (λe d=>(ER++x.d.op++l4++ff (aP i.K.tv (S i.ns) i.m) i.ks cX++kU).size+(aP e.K.tv (S e.ns) x.m e.i).size<=9223372036854775807/\l (dO (λ(c:Nat->aR)(b:Nat->ah)(a:aR)=>mw b a) λ(a:aR)=>1<=a.b.length) x F (al (C (ER++x.d.op++l4++ff (aP i.K.tv (S i.ns) i.m) i.ks cX++kU++aP e.K.tv (S e.ns) x.m e.i))) (q1 F r x k)))))):=by
 delta ER DA EW wN uo EV q1 fP l4 b9 T1 jE iW kU g V aA bz Z C Q D al;obtain⟨K,T,a,ca,i,m,d,k,c⟩:=x;obtain⟨h,hn⟩:=hc;have H:=R.g;have A:=R.ks;have N:=h.tx;have I:=h.ok;have w:=h.af;have B:=h.aq;have y:=I.lm i d h.at_;have M:=y.2.2.2;dsimp only at hn H A N I w B M⊢;have P:=y.1;have lm:=h.lm;dsimp only at lm;have G:∀{v:St},gt v 0=F->fK K T a (.cJ (rest v [])):=λh=>H.sub (jk 0 X h);have L:∀{j q:Nat}{b o:Nat},k=some ⟨b,o,none⟩->d.b[j]?=some (q:Int)->aH F ⟨b,o+j,none⟩ (.int .i64 (q:Int)):=λe hq=>by subst e;exact A.look (p8 hq)
 have sz:=λq=>I.l_ m q;have J:nF ⟨K,T,a,ca,m,d.b.take (d.b.length-1),k,c⟩:=h.ls (λz hz=>List.mem_of_mem_take hz) (by simp[*]) (abt _ _ _) (by
  obtain⟨b,o,e⟩:=w.some O;rw[e];exact .ft b o _ (by unfold a7;simp[*]))
 have jb:=J.jb cX;dsimp only at jb;have hJ:e8 F k (a7 (d.b.take (d.b.length-1))):=λW e j u E=>A W e j u (by
  unfold a7 at E⊢;rw[fZ,List.getElem?_take]at E;rw[fZ];split at E;exact E;cases E)
 obtain⟨q,e,s,r,n⟩:=lm (d.b.length-1) O;have s0:=sz q;have e1:(d.b.length:Int)-1=((d.b.length-1:Nat):Int):=O;have e2:((d.b.length-1:Nat):Int).toNat=d.b.length-1:=cy _;intro p p2;obtain⟨b,o,U⟩:=w.some O;rw[e1];refine⟨Y,aC,rfl,Y,bC,bC,Y,Y,WE rfl rfl rfl,⟨k,d.b.length,c,(d.b.length-1:Nat)⟩,rfl,⟨by simp[*],by grind⟩,ud HD (by simp[*]) J (G rfl) (hJ.sub (bB 0)) ⟨bC,bC,Y,Y, ?_⟩⟩;subst U;refine Hq (d.b.length-1) (bZ 1 rfl rfl rfl rfl) O (L rfl e) (wl N I r n (G rfl) ⟨bC,(),ai, ?_,ao [0]⟩);show _=returned (.string (mw _ _));unfold mw;rw[s]
theorem aaw:aG 37 (dO (λ_ t d=>mw t d) (λd=>1<=d.b.length)):=iB func37 am1 alu
theorem nE.kt{K:bD}{f:List aR}{a:bv}{ca i m c:Nat}{d:aR}{k:bv}{R:tO->Prop}(h:nE ⟨K,f,a,ca,i,m,d,k,c⟩)(u:uX ⟨K,f,a,ca,i,m,d,k,c⟩ F)(s:fK K f a G)(p:j<d.b.length)(t:cN prog o (dy 1))(r:R ⟨K,f,a,ca,kd d j⟩):
  cN prog o (dy 1)/\∃x:qD,[slice k d.b.length c,.int .i64 (j:Int)]=[.slice (some ⟨x.b,x.o,none⟩) x.len x.aq,.int .i64 x.n]/\(0<=x.n/\x.n<(x.len:Int))/\∃v:Int,aH F ⟨x.b,x.o+x.n.toNat*1,none⟩ (.int .i64 v)/\aG 13 (d9 m)/\true=true/\∃x:tO,[agg #[.slice a f.length ca],.int .i64 v]=[.agg #[.slice x.a x.ns.length x.ca],.int .i64 (x.i:Int)]/\([]:List ag)=[]/\(mS x.K x.ns/\x.i<m/\x.i<x.ns.length)/\fK x.K x.ns x.a G/\∀_:ax,True->R x:=by
 obtain⟨q,e,g,l,n⟩:=h.lm j p;obtain⟨b,w,e1⟩:=h.af.some (by grind);dsimp only at e1;subst e1 g;exact Hq j t p (u.ks.look (p8 e)) (wl h.tx h.ok l n s r)
theorem nE.ot{K:bD}{p:List aR}{a:bv}{ca i m c:Nat}{d:aR}{k:bv}{v:(Nat->aR)->(Nat->ah)->Nat->ah}{R:eQ->Prop}(h:nE ⟨K,p,a,ca,i,m,d,k,c⟩)(t:aG f (dY v))(y:uX ⟨K,p,a,ca,i,m,d,k,c⟩ F)(u:fK K p a G)(s:j<d.b.length)(w:cN prog o (dy 1))(r:R ⟨K,p,a,ca,kd d j,m⟩):
  cN prog o (dy 1)/\∃x:qD,[slice k d.b.length c,.int .i64 (j:Int)]=[.slice (some ⟨x.b,x.o,none⟩) x.len x.aq,.int .i64 x.n]/\(0<=x.n/\x.n<(x.len:Int))/\∃z:Int,aH F ⟨x.b,x.o+x.n.toNat*1,none⟩ (.int .i64 z)/\aG f (dY v)/\true=true/\∃x:eQ,[agg #[.slice a p.length ca],.int .i64 z]=[.agg #[.slice x.a x.ns.length x.ca],.int .i64 (x.i:Int)]/\([]:List ag)=[]/\A4 x/\fK x.K x.ns x.a G/\∀_:ax,True->R x:=by
 obtain⟨q,e,g,l,n⟩:=h.lm j s;obtain⟨b,A,e1⟩:=h.af.some (by grind);dsimp only at e1;subst e1 g;exact Hq j w s (y.ks.look (p8 e)) (Z7 t h.tx h.ok l n u r)
theorem ahD{K:bD}{a:List aR}(h:mS K a)(m i:Nat):(iw (S a) (aP K.tv (S a) m) i).size<=4398046520000:=by
 have e:=h.l_ m i;have f:=h.l_ m (kd (S a i) 0);unfold iw;cases (S a i).ak==36 with
 |true=>exact b7 _
 |false=>
  cases (S a i).ak==21 with
  |true=>
   show(AI++ff _ _ cX).size<=_;cases b:a[i]? with
   |none=>
    have:S a i=⟨0,.empty,0,[],0⟩:=by unfold S;rw[b]
    rw[this];exact Nat.le_of_ble_eq_true rfl
   |some d=>
    have g:=ub (t:=aP K.tv (S a) m) d.b cX;have j:=h.sum m i d b;have c:=(h.lm i d b).1;have k:cX.size*d.b.length<=2*4096:=Nat.mul_le_mul (bK 2) c;have l:AI.size=4:=rfl;rw[mY b,ie];grind
  |false=>
   cases (S a i).ak==20 with
   |true=>
    show(xw _).size<=_;unfold xw;simp only[ie,Jg,List.size_toArray,kI,List.length_nil];omega
   |false=>show(aP _ _ m i).size<=_;omega
theorem aaj{K:bD}{a:List aR}(h:mS K a)(m i:Nat):(iJ (S a) (aP K.tv (S a) m) i).size<=4398046520000:=by
 have b:=h.l_ m i;unfold iJ;cases (S a i).ak==36 with
 |true=>exact b7 _
 |false=>show(aP _ _ m i).size<=_;omega
theorem aoX{d:aR}(h:F4 d=true):2<=d.b.length:=by
 unfold F4 at h;grind
def am0(x:eQ)(a:ag):List (Nat×Nat×OH):=[(0,0,.n 10),(1,2,z 10),(1,4,.qo (dy 5)),(1,5,.q (BB 0)),(1,6,.n 2060),(1,7,.w (qR 2060)),(2,1,z 2060),(6,0,z 10),(6,2,z 2060),(6,3,aI (kD cX)),(8,0,z 10),(8,2,z 2060),(8,5,aI (d9 x.m)),(9,0,z 10),(9,2,aI (d9 x.m))]++kL 8 3
abbrev gb(F:ag)(n:Nat)(x:eQ)(e:Nat)(l:Int)(k:ah)(j:Nat)(i:bv)(h g:Nat)(f:Int):=[(0,F),(10,D n (l5 x) 45),(2060,D e (lY l k j i h g f) 35)]
abbrev vM:ah:=ByteArray.mk #[118,97,114,32]
abbrev mF(x:eQ)(c:Int):aN:=[agg ⟨l5 x⟩,Z c]
theorem ale(x:eQ)(F:ag)(W:(dY iw).cond x)(B:(dY iw).aE x F):∀(n:Nat),V n 0/\fV (aL f58 1 4) (vQ x) (λm=>T1 F ⟨m.b,m.o+m.n.toNat*5,none⟩ (λo=>T2 F ⟨m.b,m.o+m.n.toNat*5+1,none⟩ (λk=>lO F ⟨m.b,m.o+m.n.toNat*5+2,none⟩ (λj=>dN F ⟨m.b,m.o+m.n.toNat*5+3,none⟩ (λi h p=>T1 F ⟨m.b,m.o+m.n.toNat*5+4,none⟩ (λf=>∀(e:Nat),bQ e (V e 0/\Br (o==36) (l (dY iw) x F zY (gb F n x e o k j i h p f)) (Br (o==21) (V n 0/\V e 3/\wN [agg ⟨l5 x⟩,Q i h p] (g (gb F n x e o k j i h p f) []) (λb a=>4+(ff (aP b.K.tv (S b.ns) b.m) b.ks cX).size<=9223372036854775807/\l (dY iw) x F (al (C (vM++ff (aP b.K.tv (S b.ns) b.m) b.ks cX))) (gb F n x e o k j i h p f))) (Br (o==20) (true=true/\V n 0/\V e 3/\b9 (aL f58 8 3) [Q i h p,Z 0] (λd=>T1 F ⟨d.b,d.o+d.n.toNat*1,none⟩ (λc=>nG x (mF x c) (g (gb F n x e o k j i h p f) []) (λb a=>1+(aP b.K.tv (S b.ns) x.m b.i).size<=9223372036854775807/\(l4++aP b.K.tv (S b.ns) x.m b.i).size+1<=9223372036854775807/\l (dY iw) x F (E1 b x) (gb F n x e o k j i h p f))))) (V n 0/\nG x (vT x) (g (gb F n x e o k j i h p f) []) (λb a=>l (dY iw) x F (Fh b x) (gb F n x e o k j i h p f)))))))))))):=by
 delta fV vQ T1 T2 lO dN zY l5 lY gb wN vM b9 nG mF l4 E1 vT Fh g V bQ bz Z C Q D al;obtain⟨K,t,a,ca,i,m⟩:=x;obtain⟨y,u,H,E⟩:=W;replace B:fK K t a F:=B;dsimp only at y u H E⊢;obtain⟨d,A⟩:∃d,t[i]?=some d:=⟨_,da E⟩;obtain⟨rb,k,c,e,s1,R,v0,v1,v2,v3,v4,v5⟩:=B.nd.h i d A;have U:S t i=⟨d.ak,d.op,d.aT,d.b,0⟩:=mY A;have h:nE ⟨K,t,a,ca,i,m,d,k,c⟩:=⟨y,u,A,Nat.le_of_lt H,s1,v5⟩;have T:=(u.lm i d A).2.2.1;have G:∀{r:St},gt r 0=F->fK K t a (.cJ (rest r [])):=λh=>B.sub (jk 0 X h);obtain⟨w,M⟩:∃w,iw (S t) (aP K.tv (S t) m) i=w:=⟨_,rfl⟩;have val:∀v,v=w->returned (string v)=(dY iw).val ⟨K,t,a,ca,i,m⟩ ():=λv e=>by rw[e,<-M] <;> rfl
 have s:=M;unfold iw at s;rw[U]at s;intro b;refine⟨Y,bZ 5 rfl rfl rfl rfl,⟨rb,0,t.length,ca,i⟩,by rw[e],⟨by simp[*],by simp[*]⟩,d.ak,v0,d.op,v1,d.aT,v2,k,_,c,v3,d.au,v4,λb2=>⟨Y,Y,Y,Y,Y,Y,ar (λq=>?_) (λq=>ar (λq2=>?_) (λq2=>ar (λq3=>?_) (λq3=>?_)))⟩⟩;rw[q]at s;exact⟨(),ai,val _ s,ao [0]⟩;rw[q,q2]at s;have J:nF ⟨K,t,a,ca,m,d.b,k,c⟩:=h.ls (λz hz=>hz) (bK _) (bK _) s1;have jb:=J.jb cX;dsimp only at jb;exact⟨Y,Y,ud HD rfl J (G rfl) (R.sub (bB 0)) ⟨bC,(),ai,val _ s,ao [0]⟩⟩;rw[q,q2,q3]at s;have hn:=T;simp[df,dx,eq_of_beq q3]at hn;obtain⟨z,I,L,N,P⟩:=h.lm 0 (by grind);dsimp only at I L N P;obtain⟨kb,ko,rfl⟩:=s1.some O;have s0:=u.l_ m z;rw[show kd ⟨d.ak,d.op,d.aT,d.b,0⟩ 0=z from L]at s;exact⟨rfl,Y,Y,Hq 0 (bZ 1 rfl rfl rfl rfl) O (R.look (p8 I)) (wl y u N P (G rfl) ⟨bC,bC,(),ai,val _ s,ao [0]⟩)⟩;rw[q,q2,q3]at s;exact⟨Y,wl y u H E (G rfl) ⟨(),ai,val _ s,ao [0]⟩⟩
theorem ald:aG 58 (dY iw):=iB func58 am0 ale
def ana(x:jB)(a:ag):List (Nat×Nat×OH):=[(0,0,.n 10),(0,1,.n 20),(1,1,z 20),(2,1,z 20),(6,0,z 10),(6,4,aI (d9 x.m)),(8,0,z 10),(8,4,aI (d9 x.m)),(16,0,z 10),(16,4,aI (d9 x.m)),(17,1,z 20),(17,2,.qo (iO .neq)),(18,2,z 20),(18,5,z 10),(18,9,aI (d9 x.m)),(19,1,z 20),(19,2,.qo (iO .neq)),(20,1,z 10),(20,8,aI (d9 x.m)),
 (23,0,z 10),(23,4,aI (d9 x.m)),(23,7,z 10),(23,9,.qo CQ),(23,10,aI (kD ⟨#[]⟩)),(25,1,z 20),(25,2,.qo (iO .eql)),(26,0,z 10),(26,2,aI (kD ⟨#[]⟩)),(27,0,z 10),(27,4,aI (d9 x.m)),(27,7,z 10),(27,9,.qo CQ),(27,10,aI (kD ⟨#[]⟩)),(29,0,z 10),(29,1,.q (qR 20)),(29,2,aI (dO (λ_ t d=>mw t d) (λd=>1<=d.b.length))),(30,0,z 10),(30,2,aI (kD ⟨#[]⟩))]++(kL 6 2++kL 8 2++kL 16 2++kL 18 7++kL 20 6++kL 23 2++kL 27 2)
abbrev qf(x:jB):aN:=[Q x.k x.d.b.length x.c,Z 0]
abbrev Cy:ah:=ByteArray.mk #[59,10]
abbrev Cl:ah:=ByteArray.mk #[99,97,116,99,104,32,40]
abbrev vK(x:jB):aN:=[Q x.k x.d.b.length x.c,Z 1]
abbrev zH:ah:=ByteArray.mk #[116,114,121,32]
abbrev E5(x:jB):aN:=[float f64 x.d.aT,float f64 4607182418800017408]
abbrev Il:ah:=ByteArray.mk #[102,105,110,97,108,108,121,32]
abbrev In:ah:=ByteArray.mk #[115,119,105,116,99,104,32,40]
def GI(c:Oper)(a:aN)(b:PJ->Prop):=cN prog c CQ/\∃(z:PJ),a=[Q z.a z.n z.aq,Z 1]/\1<=z.n/\b z
def Bc:=bz 57 (kD gy) nF tJ
abbrev Ot:ah:=ByteArray.mk #[41,32,123,10]
abbrev E6(x:jB):aN:=[agg ⟨uo x⟩,Q x.k x.d.b.length x.c]
def SY(s:Nat)(x:jB)(F:ag)(r:Nat):=V s 0/\Bc (E6 x) (fP F s x r) (λe d=>9+(ff (aP e.K.tv (S e.ns) e.m) e.ks gy).size<=9223372036854775807/\l (dO (λ(c:Nat->aR)(b:Nat->ah)(a:aR)=>jm b a) λ(a:aR)=>True) x F (al (C ((ByteArray.mk #[100,101,102,97,117,108,116,58,10])++ff (aP e.K.tv (S e.ns) e.m) e.ks gy))) (q1 F s x r))
abbrev Of:ah:=ByteArray.mk #[99,97,115,101,32]
def Kt:=bz 37 (dO (λ(d:Nat->aR)(c:Nat->ah)(a:aR)=>mw c a) λ(a:aR)=>1<=a.b.length) (λb=>nE b/\1<=b.d.b.length) uX
theorem amZ(x:jB)(F:ag)(hc:aF.cond (dO (λ_ t d=>jm t d) (λ_=>True)) x)(I:aF.aE (dO (λ_ t d=>jm t d) (λ_=>True)) x F):∀(s r:Nat),V r 3/\V r 0/\Br (x.d.ak==28) (Br ((x.d.b.length:Int)==0) (l (dO (λ(c:Nat->aR)(b:Nat->ah)(a:aR)=>jm b a) λ(a:aR)=>True) x F (al (C ⟨#[114,101,116,117,114,110,59,10]⟩)) (q1 F s x r)) (true=true/\V s 0/\b9 (aL f60 6 2) (qf x) (λu=>T1 F ⟨u.b,u.o+u.n.toNat*1,none⟩ (λf=>jE x (iW x f) (fP F s x r) (λe d=>7+(aP e.K.tv (S e.ns) x.m e.i).size<=9223372036854775807/\((ByteArray.mk #[114,101,116,117,114,110,32])++aP e.K.tv (S e.ns) x.m e.i).size+2<=9223372036854775807/\l (dO (λ(c:Nat->aR)(b:Nat->ah)(a:aR)=>jm b a) λ(a:aR)=>True) x F (al (C ((ByteArray.mk #[114,101,116,117,114,110,32])++aP e.K.tv (S e.ns) x.m e.i++Cy))) (q1 F s x r)))))) (Br (x.d.ak==31) (true=true/\V s 0/\b9 (aL f60 8 2) (qf x) (λu=>T1 F ⟨u.b,u.o+u.n.toNat*1,none⟩ (λf=>jE x (iW x f) (fP F s x r) (λe d=>6+(aP e.K.tv (S e.ns) x.m e.i).size<=9223372036854775807/\((ByteArray.mk #[116,104,114,111,119,32])++aP e.K.tv (S e.ns) x.m e.i).size+2<=9223372036854775807/\l (dO (λ(c:Nat->aR)(b:Nat->ah)(a:aR)=>jm b a) λ(a:aR)=>True) x F (al (C ((ByteArray.mk #[116,104,114,111,119,32])++aP e.K.tv (S e.ns) x.m e.i++Cy))) (q1 F s x r))))) (Br (x.d.ak==29) (l (dO (λ(c:Nat->aR)(b:Nat->ah)(a:aR)=>jm b a) λ(a:aR)=>True) x F (al (C ⟨#[98,114,101,97,107,59,10]⟩)) (q1 F s x r)) (Br (x.d.ak==30) (l (dO (λ(c:Nat->aR)(b:Nat->ah)(a:aR)=>jm b a) λ(a:aR)=>True) x F (al (C ⟨#[99,111,110,116,105,110,117,101,59,10]⟩)) (q1 F s x r)) (Br (x.d.ak==36) (l (dO (λ(c:Nat->aR)(b:Nat->ah)(a:aR)=>jm b a) λ(a:aR)=>True) x F (al (C ⟨#[59,10]⟩)) (q1 F s x r)) (Br (x.d.ak==32) (true=true/\V s 0/\b9 (aL f60 16 2) (qf x) (λq=>T1 F ⟨q.b,q.o+q.n.toNat*1,none⟩ (λp=>jE x (iW x p) (fP F s x r) (λo n=>4+(aP o.K.tv (S o.ns) x.m o.i).size<=9223372036854775807/\V r 2/\qL (aL f60 17 2) [float f64 x.d.aT,float f64 4611686018427387904] (λm=>Br (cq BinOp.neq m.fst m.snd) (true=true/\V r 1/\7+x.d.op.size<=9223372036854775807/\(Cl++x.d.op).size+2<=9223372036854775807/\V s 0/\b9 (aL f60 18 7) (vK x) (λy=>T1 F ⟨y.b,y.o+y.n.toNat*1,none⟩ (λk=>jE x (iW x k) (fP F s x r) (λj i=>(Cl++x.d.op++kU).size+(aP j.K.tv (S j.ns) x.m j.i).size<=9223372036854775807/\(zH++aP o.K.tv (S o.ns) x.m o.i).size+(Cl++x.d.op++kU++aP j.K.tv (S j.ns) x.m j.i).size<=9223372036854775807/\V r 2/\qL (aL f60 19 2) (E5 x) (λh=>Br (cq BinOp.neq h.fst h.snd) (true=true/\V s 0/\aA ((x.d.b.length:Int)-1)/\b9 (aL f60 20 6) (EW x) (λu=>T1 F ⟨u.b,u.o+u.n.toNat*1,none⟩ (λf=>jE x (iW x f) (fP F s x r) (λe d=>8+(aP e.K.tv (S e.ns) x.m e.i).size<=9223372036854775807/\(zH++aP o.K.tv (S o.ns) x.m o.i++(Cl++x.d.op++kU++aP j.K.tv (S j.ns) x.m j.i)).size+(Il++aP e.K.tv (S e.ns) x.m e.i).size<=9223372036854775807/\l (dO (λ(c:Nat->aR)(b:Nat->ah)(a:aR)=>jm b a) λ(a:aR)=>True) x F (al (C (zH++aP o.K.tv (S o.ns) x.m o.i++(Cl++x.d.op++kU++aP j.K.tv (S j.ns) x.m j.i)++(Il++aP e.K.tv (S e.ns) x.m e.i)))) (q1 F s x r))))) (l (dO (λ(c:Nat->aR)(b:Nat->ah)(a:aR)=>jm b a) λ(a:aR)=>True) x F (al (C (zH++aP o.K.tv (S o.ns) x.m o.i++(Cl++x.d.op++kU++aP j.K.tv (S j.ns) x.m j.i)))) (q1 F s x r))))))) (V r 2/\qL (aL f60 19 2) (E5 x) (λh=>Br (cq BinOp.neq h.fst h.snd) (true=true/\V s 0/\aA ((x.d.b.length:Int)-1)/\b9 (aL f60 20 6) (EW x) (λu=>T1 F ⟨u.b,u.o+u.n.toNat*1,none⟩ (λf=>jE x (iW x f) (fP F s x r) (λe d=>8+(aP e.K.tv (S e.ns) x.m e.i).size<=9223372036854775807/\(zH++aP o.K.tv (S o.ns) x.m o.i).size+(Il++aP e.K.tv (S e.ns) x.m e.i).size<=9223372036854775807/\l (dO (λ(c:Nat->aR)(b:Nat->ah)(a:aR)=>jm b a) λ(a:aR)=>True) x F (al (C (zH++aP o.K.tv (S o.ns) x.m o.i++(Il++aP e.K.tv (S e.ns) x.m e.i)))) (q1 F s x r))))) (l (dO (λ(c:Nat->aR)(b:Nat->ah)(a:aR)=>jm b a) λ(a:aR)=>True) x F (al (C (zH++aP o.K.tv (S o.ns) x.m o.i))) (q1 F s x r))))))))) (Br (x.d.ak==33) (true=true/\V s 0/\b9 (aL f60 23 2) (qf x) (λj=>T1 F ⟨j.b,j.o+j.n.toNat*1,none⟩ (λi=>jE x (iW x i) (fP F s x r) (λh u=>8+(aP h.K.tv (S h.ns) x.m h.i).size<=9223372036854775807/\(In++aP h.K.tv (S h.ns) x.m h.i).size+4<=9223372036854775807/\V s 0/\GI (aL f60 23 9) (vK x) (λf=>Bc [agg ⟨uo x⟩,Q (uI f.a f.aq) (f.n-1) (f.aq-1)] (fP F s x r) (λe d=>(In++aP h.K.tv (S h.ns) x.m h.i++Ot).size+(ff (aP e.K.tv (S e.ns) e.m) e.ks gy).size<=9223372036854775807/\(In++aP h.K.tv (S h.ns) x.m h.i++Ot++ff (aP e.K.tv (S e.ns) e.m) e.ks gy).size+2<=9223372036854775807/\l (dO (λ(c:Nat->aR)(b:Nat->ah)(a:aR)=>jm b a) λ(a:aR)=>True) x F (al (C (In++aP h.K.tv (S h.ns) x.m h.i++Ot++ff (aP e.K.tv (S e.ns) e.m) e.ks gy++(ByteArray.mk #[125,10])))) (q1 F s x r))))))) (Br (x.d.ak==34) (V r 2/\ml (aL f60 25 2) (E5 x) (λk=>Br (cq BinOp.eql k.fst k.snd) (SY s x F r) (Br ((x.d.b.length:Int)==0) (SY s x F r) (true=true/\V s 0/\b9 (aL f60 27 2) (qf x) (λj=>T1 F ⟨j.b,j.o+j.n.toNat*1,none⟩ (λi=>jE x (iW x i) (fP F s x r) (λh u=>5+(aP h.K.tv (S h.ns) x.m h.i).size<=9223372036854775807/\(Of++aP h.K.tv (S h.ns) x.m h.i).size+2<=9223372036854775807/\V s 0/\GI (aL f60 27 9) (vK x) (λf=>Bc [agg ⟨uo x⟩,Q (uI f.a f.aq) (f.n-1) (f.aq-1)] (fP F s x r) (λe d=>(Of++aP h.K.tv (S h.ns) x.m h.i++(ByteArray.mk #[58,10])).size+(ff (aP e.K.tv (S e.ns) e.m) e.ks gy).size<=9223372036854775807/\l (dO (λ(c:Nat->aR)(b:Nat->ah)(a:aR)=>jm b a) λ(a:aR)=>True) x F (al (C (Of++aP h.K.tv (S h.ns) x.m h.i++(ByteArray.mk #[58,10])++ff (aP e.K.tv (S e.ns) e.m) e.ks gy))) (q1 F s x r)))))))))) (Br (x.d.ak==35) (V s 0/\bQ r (Kt [agg ⟨uo x⟩,agg ⟨EV x⟩] (fP F s x r) (λe d=>l (dO (λ(c:Nat->aR)(b:Nat->ah)(a:aR)=>jm b a) λ(a:aR)=>True) x F (al (C ((λ(c:Nat->aR)(b:Nat->ah)(a:aR)=>mw b a) (S e.ns) (aP e.K.tv (S e.ns) e.m) e.d))) (q1 F s x r)))) (V s 0/\Bc (E6 x) (fP F s x r) (λe d=>l (dO (λ(c:Nat->aR)(b:Nat->ah)(a:aR)=>jm b a) λ(a:aR)=>True) x F (al (C (ff (aP e.K.tv (S e.ns) e.m) e.ks gy))) (q1 F s x r))))))))))):=by
 delta uo EV q1 b9 qf T1 jE iW fP Cy oZ qL Cl vK kU zH E5 EW Il In GI gy Bc Ot ml E6 SY Of Kt g V aA bQ bz Z C Q D al;obtain⟨K,L,a,ca,i,m,d,k,c⟩:=x;have h:nE ⟨K,L,a,ca,i,m,d,k,c⟩:=hc.1;clear hc;obtain⟨-,-,P,T⟩:=h.ok.lm i d h.at_;have x0:d.b.length<=4096:=(h.ok.lm i d h.at_).1;have H:=h.aq;dsimp only at T H⊢;have G:∀{A:St},gt A 0=F->fK K L a (.cJ (rest A [])):=λe=>I.g.sub (jk 0 X e);have M:∀{A:St},gt A 0=F->e8 (.cJ (rest A [])) k (a7 d.b):=λe=>I.ks.sub (jk 0 X e);have R:mS K L:=h.ok;have s0:=R.l_ m (kd d 0);have s1:=R.l_ m (kd d 1);have sl:=R.l_ m (kd d (d.b.length-1));have J:nF ⟨K,L,a,ca,m,d.b,k,c⟩:=h.ls (λz U=>U) (bK _) (bK _) h.af;have j0:=J.jb ⟨#[]⟩;dsimp only at j0;obtain⟨w,hw⟩:∃w,jm (aP K.tv (S L) m) d=w:=⟨_,rfl⟩;have val:∀v,v=w->returned (string v)=(dO (λ_ t d=>jm t d) (λ_=>True)).val ⟨K,L,a,ca,i,m,d,k,c⟩ ():=λv e=>by rw[e,<-hw] <;> rfl
 have B:=hw;unfold jm at B;have N:1<=d.b.length->nF ⟨K,L,a,ca,m,d.b.drop 1,uI k c,c-1⟩:=λE=>h.ls (λz U=>List.mem_of_mem_drop U) (by simp[*]) (abs _ _ _) (by rw[List.length_drop];exact abl h.af E);intro b b2;refine⟨Y,Y,ar (λq=>?_) (λq=>?_)⟩ <;> rw[q]at B;refine ar (λq2=>?_) (λq2=>?_) <;> rw[q2]at B;exact⟨(),ai,val _ B,ao [0]⟩;have E:=ne_of_beq_false q2;exact⟨rfl,Y,h.kt (j:=0) I (G rfl) O (bZ 1 rfl rfl rfl rfl) ⟨bC,bC,(),ai,val _ B,ao [0]⟩⟩;refine ar (λq=>?_) (λq=>?_) <;> rw[q]at B;have E:=P;simp[df,dx,eq_of_beq q]at E;exact⟨rfl,Y,h.kt (j:=0) I (G rfl) O (bZ 1 rfl rfl rfl rfl) ⟨bC,bC,(),ai,val _ B,ao [0]⟩⟩;refine ar (λq=>?_) (λq=>?_) <;> rw[q]at B;exact⟨(),ai,val _ B,ao [0]⟩;refine ar (λq=>?_) (λq=>?_) <;> rw[q]at B;exact⟨(),ai,val _ B,ao [0]⟩;refine ar (λq=>?_) (λq=>?_) <;> rw[q]at B;exact⟨(),ai,val _ B,ao [0]⟩;refine ar (λq=>?_) (λq=>?_) <;> rw[q]at B;have E:=P;simp[df,dx,eq_of_beq q]at E;have E:=aoX E;have e1:(d.b.length:Int)-1=((d.b.length-1:Nat):Int):=O;replace B:Pb (aP K.tv (S L) m) d=w:=B;unfold Pb at B;rw[e1];refine⟨rfl,Y,h.kt (j:=0) I (G rfl) O (bZ 1 rfl rfl rfl rfl) ⟨bC,Y,ia (.inr (.inr (.inr rfl))) rfl,(d.aT,uL),rfl,ai,ar (λq2=>?_) (λq2=>?_)⟩⟩ <;> rw[q2]at B;refine⟨rfl,Y,bC,bC,Y,h.kt (j:=1) I (G rfl) O (bZ 1 rfl rfl rfl rfl) ⟨bC,bC,Y,ia (.inr (.inr (.inr rfl))) rfl,(d.aT,iI),rfl,ai,ar (λq3=>?_) (λq3=>?_)⟩⟩ <;> rw[q3]at B;exact⟨rfl,Y,aC,h.kt (j:=d.b.length-1) I (G rfl) O (bZ 1 rfl rfl rfl rfl) ⟨bC,bC,(),ai,val _ B,ao [0]⟩⟩;exact⟨(),ai,val _ B,ao [0]⟩;refine⟨Y,ia (.inr (.inr (.inr rfl))) rfl,(d.aT,iI),rfl,ai,ar (λq3=>?_) (λq3=>?_)⟩ <;> rw[q3]at B;exact⟨rfl,Y,aC,h.kt (j:=d.b.length-1) I (G rfl) O (bZ 1 rfl rfl rfl rfl) ⟨bC,bC,(),ai,val _ B,ao [0]⟩⟩;exact⟨(),ai,val _ B,ao [0]⟩;refine ar (λq=>?_) (λq=>?_) <;> rw[q]at B;have E:=P;simp[df,dx,eq_of_beq q]at E;have E:1<=d.b.length:=O;have W:=(N E).jb ⟨#[]⟩;dsimp only at W;exact⟨rfl,Y,h.kt (j:=0) I (G rfl) O (bZ 1 rfl rfl rfl rfl) ⟨bC,bC,Y,Ws rfl rfl rfl rfl,⟨k,d.b.length,c⟩,rfl,E,ud EC (by simp[*]) (N E) (G rfl) (WH (M rfl) h.af E H) ⟨bC,bC,(),ai,val _ B,ao [0]⟩⟩⟩;refine ar (λq=>?_) (λq=>?_) <;> rw[q]at B;refine⟨Y,ia (.inl rfl) rfl,(d.aT,iI),rfl,ai,ar (λq2=>?_) (λq2=>?_)⟩ <;> rw[q2]at B;exact⟨Y,ud EC rfl J (G rfl) (M rfl) ⟨bC,(),ai,val _ B,ao [0]⟩⟩;refine ar (λq3=>?_) (λq3=>?_) <;> rw[q3]at B;exact⟨Y,ud EC rfl J (G rfl) (M rfl) ⟨bC,(),ai,val _ B,ao [0]⟩⟩;have E:=ne_of_beq_false q3;have E:1<=d.b.length:=O;have W:=(N E).jb ⟨#[]⟩;dsimp only at W;exact⟨rfl,Y,h.kt (j:=0) I (G rfl) O (bZ 1 rfl rfl rfl rfl) ⟨bC,bC,Y,Ws rfl rfl rfl rfl,⟨k,d.b.length,c⟩,rfl,E,ud EC (by simp[*]) (N E) (G rfl) (WH (M rfl) h.af E H) ⟨bC,(),ai,val _ B,ao [0]⟩⟩⟩;refine ar (λq=>?_) (λq=>?_) <;> rw[q]at B;have E:=P;simp[df,dx,eq_of_beq q]at E;exact⟨Y,Y,Y,Y,Y,Y,aaw,rfl,⟨K,L,a,ca,i,m,d,k,c⟩,rfl,rfl,⟨h,by grind⟩,⟨G rfl,M rfl⟩,λ_ _=>⟨(),ai,val _ B,ao [0]⟩⟩;exact⟨Y,ud EC rfl J (G rfl) (M rfl) ⟨(),ai,val _ B,ao [0]⟩⟩
theorem amY:aG 60 (dO (λ_ t d=>jm t d) (λ_=>True)):=iB func60 ana amZ
def am2(x:jB)(a:ag):List (Nat×Nat×OH):=[(0,0,.n 10),(0,1,.n 20),(1,1,.q [.aS 20]),(2,1,.q [.aS 20]),(4,0,.q [.aS 10]),(4,4,.c (d9 x.m) [] []),(5,1,.c m7 [] []),(5,4,.c m7 [] []),(9,0,.q [.aS 10]),(9,2,.c (kD cX) [] []),(12,1,.q [.aS 20]),(13,1,.q [.aS 20]),(13,3,.q [.aS 10]),(13,7,.c (d9 x.m) [] []),(15,0,.q [.aS 10]),(15,2,.c (kD ⟨#[]⟩) [] []),(17,0,.q [.aS 10]),(17,4,.c (d9 x.m) [] []),(17,7,.q [.aS 10]),(17,11,.c (d9 x.m) [] []),(19,1,.q [.aS 10]),(19,5,.c (d9 x.m) [] []),
 (22,0,.q [.aS 10]),(22,4,.c (d9 x.m) [] []),(22,7,.q [.aS 10]),(22,11,.c (d9 x.m) [] []),(24,0,.q [.aS 10]),(24,4,.c (dY iw) [] []),(24,7,.q [.aS 10]),(24,11,.c (dY iJ) [] []),(24,14,.q [.aS 10]),(24,18,.c (dY iJ) [] []),(24,21,.q [.aS 10]),(24,25,.c (d9 x.m) [] []),(27,1,.q [.aS 20]),(27,2,.qo (iO .eql)),(29,3,.q [.aS 20]),(29,6,.q [.aS 10]),(29,10,.c (d9 x.m) [] []),(29,13,.q [.aS 10]),(29,17,.c (d9 x.m) [] []),(30,0,.q [.aS 10]),(30,1,.q (qR 20)),(30,2,.c (dO (λ_ t d=>jm t d) (λ_=>True)) [] [])]++(kL 4 2++kL 13 5++kL 17 2++kL 17 9++kL 19 3++kL 22 2++kL 22 9++kL 24 2++kL 24 9++kL 24 16++kL 24 23++kL 29 8++kL 29 15)
def SX(i:tO)(x:jB)(F:ag)(u t:Nat):=1+(aP i.K.tv (S i.ns) x.m i.i).size<=9223372036854775807/\(l4++aP i.K.tv (S i.ns) x.m i.i).size+1<=9223372036854775807/\(l4++aP i.K.tv (S i.ns) x.m i.i++(ByteArray.mk #[41])).size+2<=9223372036854775807/\l (dO (λ(c:Nat->aR)(b:Nat->ah)(a:aR)=>jV c b a) λ(a:aR)=>True) x F (al (C (l4++aP i.K.tv (S i.ns) x.m i.i++(ByteArray.mk #[41])++Cy))) (q1 F u x t)
abbrev E8:ah:=ByteArray.mk #[105,102,32,40]
abbrev NX:ah:=ByteArray.mk #[119,104,105,108,101,32,40]
abbrev na:ah:=ByteArray.mk #[102,111,114,32,40]
def QW:=bz 59 (dY iJ) A4 Fi
abbrev ut:ah:=ByteArray.mk #[59,32]
abbrev xH:ah:=ByteArray.mk #[32,105,110,32]
theorem amE(x:jB)(F:ag)(W:aF.cond (dO (λT t d=>jV T t d) (λ_=>True)) x)(H:aF.aE (dO (λT t d=>jV T t d) (λ_=>True)) x F):∀(u t:Nat),V t 3/\V t 0/\Br (x.d.ak==20) (true=true/\V u 0/\b9 (aL f31 4 2) (qf x) (λk=>T1 F ⟨k.b,k.o+k.n.toNat*1,none⟩ (λj=>jE x (iW x j) (fP F u x t) (λi h=>u6 [C (aP i.K.tv (S i.ns) x.m i.i),C ⟨#[123]⟩] (λy f=>Br (iR y.a y.b) (SX i x F u t) (u6 [C (aP i.K.tv (S i.ns) x.m i.i),C ⟨#[102,117,110,99,116,105,111,110]⟩] (λe d=>Br (iR e.a e.b) (SX i x F u t) ((aP i.K.tv (S i.ns) x.m i.i).size+2<=9223372036854775807/\l (dO (λ(c:Nat->aR)(b:Nat->ah)(a:aR)=>jV c b a) λ(a:aR)=>True) x F (al (C (aP i.K.tv (S i.ns) x.m i.i++Cy))) (q1 F u x t))))))))) (Br (x.d.ak==21) (V u 0/\wN (E6 x) (fP F u x t) (λe d=>4+(ff (aP e.K.tv (S e.ns) e.m) e.ks cX).size<=9223372036854775807/\(vM++ff (aP e.K.tv (S e.ns) e.m) e.ks cX).size+2<=9223372036854775807/\l (dO (λ(c:Nat->aR)(b:Nat->ah)(a:aR)=>jV c b a) λ(a:aR)=>True) x F (al (C (vM++ff (aP e.K.tv (S e.ns) e.m) e.ks cX++Cy))) (q1 F u x t))) (Br (x.d.ak==22) (Br ((x.d.b.length:Int)==0) (V t 1/\l (dO (λ(c:Nat->aR)(b:Nat->ah)(a:aR)=>jV c b a) λ(a:aR)=>True) x F (al (C x.d.op)) (q1 F u x t)) (true=true/\V t 1/\x.d.op.size+3<=9223372036854775807/\V u 0/\b9 (aL f31 13 5) (qf x) (λy=>T1 F ⟨y.b,y.o+y.n.toNat*1,none⟩ (λf=>jE x (iW x f) (fP F u x t) (λe d=>(x.d.op++(ByteArray.mk #[32,61,32])).size+(aP e.K.tv (S e.ns) x.m e.i).size<=9223372036854775807/\l (dO (λ(c:Nat->aR)(b:Nat->ah)(a:aR)=>jV c b a) λ(a:aR)=>True) x F (al (C (x.d.op++(ByteArray.mk #[32,61,32])++aP e.K.tv (S e.ns) x.m e.i))) (q1 F u x t)))))) (Br (x.d.ak==23) (V u 0/\Bc (E6 x) (fP F u x t) (λe d=>2+(ff (aP e.K.tv (S e.ns) e.m) e.ks gy).size<=9223372036854775807/\((ByteArray.mk #[123,10])++ff (aP e.K.tv (S e.ns) e.m) e.ks gy).size+2<=9223372036854775807/\l (dO (λ(c:Nat->aR)(b:Nat->ah)(a:aR)=>jV c b a) λ(a:aR)=>True) x F (al (C ((ByteArray.mk #[123,10])++ff (aP e.K.tv (S e.ns) e.m) e.ks gy++(ByteArray.mk #[125,10])))) (q1 F u x t))) (Br (x.d.ak==24) (true=true/\V u 0/\b9 (aL f31 17 2) (qf x) (λo=>T1 F ⟨o.b,o.o+o.n.toNat*1,none⟩ (λn=>jE x (iW x n) (fP F u x t) (λm A=>4+(aP m.K.tv (S m.ns) x.m m.i).size<=9223372036854775807/\(E8++aP m.K.tv (S m.ns) x.m m.i).size+2<=9223372036854775807/\V u 0/\b9 (aL f31 17 9) (vK x) (λk=>T1 F ⟨k.b,k.o+k.n.toNat*1,none⟩ (λj=>jE x (iW x j) (fP F u x t) (λi h=>(E8++aP m.K.tv (S m.ns) x.m m.i++kU).size+(aP i.K.tv (S i.ns) x.m i.i).size<=9223372036854775807/\Br ((x.d.b.length:Int)==3) (true=true/\V u 0/\b9 (aL f31 19 3) [Q x.k x.d.b.length x.c,Z 2] (λy=>T1 F ⟨y.b,y.o+y.n.toNat*1,none⟩ (λf=>jE x (iW x f) (fP F u x t) (λe d=>5+(aP e.K.tv (S e.ns) x.m e.i).size<=9223372036854775807/\(E8++aP m.K.tv (S m.ns) x.m m.i++kU++aP i.K.tv (S i.ns) x.m i.i).size+((ByteArray.mk #[101,108,115,101,32])++aP e.K.tv (S e.ns) x.m e.i).size<=9223372036854775807/\l (dO (λ(c:Nat->aR)(b:Nat->ah)(a:aR)=>jV c b a) λ(a:aR)=>True) x F (al (C (E8++aP m.K.tv (S m.ns) x.m m.i++kU++aP i.K.tv (S i.ns) x.m i.i++((ByteArray.mk #[101,108,115,101,32])++aP e.K.tv (S e.ns) x.m e.i)))) (q1 F u x t))))) (l (dO (λ(c:Nat->aR)(b:Nat->ah)(a:aR)=>jV c b a) λ(a:aR)=>True) x F (al (C (E8++aP m.K.tv (S m.ns) x.m m.i++kU++aP i.K.tv (S i.ns) x.m i.i))) (q1 F u x t))))))))) (Br (x.d.ak==25) (true=true/\V u 0/\b9 (aL f31 22 2) (qf x) (λk=>T1 F ⟨k.b,k.o+k.n.toNat*1,none⟩ (λj=>jE x (iW x j) (fP F u x t) (λi h=>7+(aP i.K.tv (S i.ns) x.m i.i).size<=9223372036854775807/\(NX++aP i.K.tv (S i.ns) x.m i.i).size+2<=9223372036854775807/\V u 0/\b9 (aL f31 22 9) (vK x) (λy=>T1 F ⟨y.b,y.o+y.n.toNat*1,none⟩ (λf=>jE x (iW x f) (fP F u x t) (λe d=>(NX++aP i.K.tv (S i.ns) x.m i.i++kU).size+(aP e.K.tv (S e.ns) x.m e.i).size<=9223372036854775807/\l (dO (λ(c:Nat->aR)(b:Nat->ah)(a:aR)=>jV c b a) λ(a:aR)=>True) x F (al (C (NX++aP i.K.tv (S i.ns) x.m i.i++kU++aP e.K.tv (S e.ns) x.m e.i))) (q1 F u x t)))))))) (Br (x.d.ak==26) (true=true/\V u 0/\b9 (aL f31 24 2) (qf x) (λs=>T1 F ⟨s.b,s.o+s.n.toNat*1,none⟩ (λr=>bz 58 (dY iw) A4 (λq rr=>fK q.K q.ns q.a rr) (iW x r) (fP F u x t) (λq p=>5+(iw (S q.ns) (aP q.K.tv (S q.ns) q.m) q.i).size<=9223372036854775807/\(na++iw (S q.ns) (aP q.K.tv (S q.ns) q.m) q.i).size+2<=9223372036854775807/\V u 0/\b9 (aL f31 24 9) (vK x) (λo=>T1 F ⟨o.b,o.o+o.n.toNat*1,none⟩ (λn=>QW (iW x n) (fP F u x t) (λm A=>(na++iw (S q.ns) (aP q.K.tv (S q.ns) q.m) q.i++ut).size+(iJ (S m.ns) (aP m.K.tv (S m.ns) m.m) m.i).size<=9223372036854775807/\(na++iw (S q.ns) (aP q.K.tv (S q.ns) q.m) q.i++ut++iJ (S m.ns) (aP m.K.tv (S m.ns) m.m) m.i).size+2<=9223372036854775807/\V u 0/\b9 (aL f31 24 16) [Q x.k x.d.b.length x.c,Z 2] (λk=>T1 F ⟨k.b,k.o+k.n.toNat*1,none⟩ (λj=>QW (iW x j) (fP F u x t) (λi h=>(na++iw (S q.ns) (aP q.K.tv (S q.ns) q.m) q.i++ut++iJ (S m.ns) (aP m.K.tv (S m.ns) m.m) m.i++ut).size+(iJ (S i.ns) (aP i.K.tv (S i.ns) i.m) i.i).size<=9223372036854775807/\(na++iw (S q.ns) (aP q.K.tv (S q.ns) q.m) q.i++ut++iJ (S m.ns) (aP m.K.tv (S m.ns) m.m) m.i++ut++iJ (S i.ns) (aP i.K.tv (S i.ns) i.m) i.i).size+2<=9223372036854775807/\V u 0/\b9 (aL f31 24 23) [Q x.k x.d.b.length x.c,Z 3] (λy=>T1 F ⟨y.b,y.o+y.n.toNat*1,none⟩ (λf=>jE x (iW x f) (fP F u x t) (λe d=>(na++iw (S q.ns) (aP q.K.tv (S q.ns) q.m) q.i++ut++iJ (S m.ns) (aP m.K.tv (S m.ns) m.m) m.i++ut++iJ (S i.ns) (aP i.K.tv (S i.ns) i.m) i.i++kU).size+(aP e.K.tv (S e.ns) x.m e.i).size<=9223372036854775807/\l (dO (λ(c:Nat->aR)(b:Nat->ah)(a:aR)=>jV c b a) λ(a:aR)=>True) x F (al (C (na++iw (S q.ns) (aP q.K.tv (S q.ns) q.m) q.i++ut++iJ (S m.ns) (aP m.K.tv (S m.ns) m.m) m.i++ut++iJ (S i.ns) (aP i.K.tv (S i.ns) i.m) i.i++kU++aP e.K.tv (S e.ns) x.m e.i))) (q1 F u x t)))))))))))))) (Br (x.d.ak==27) (V t 2/\ml (aL f31 27 2) (E5 x) (λA=>Br (cq BinOp.eql A.fst A.snd) (true=true/\9<=9223372036854775807/\V t 1/\9+x.d.op.size<=9223372036854775807/\(na++vM++x.d.op).size+4<=9223372036854775807/\V u 0/\b9 (aL f31 29 8) (qf x) (λk=>T1 F ⟨k.b,k.o+k.n.toNat*1,none⟩ (λj=>jE x (iW x j) (fP F u x t) (λi h=>(na++vM++x.d.op++xH).size+(aP i.K.tv (S i.ns) x.m i.i).size<=9223372036854775807/\(na++vM++x.d.op++xH++aP i.K.tv (S i.ns) x.m i.i).size+2<=9223372036854775807/\V u 0/\b9 (aL f31 29 15) (vK x) (λy=>T1 F ⟨y.b,y.o+y.n.toNat*1,none⟩ (λf=>jE x (iW x f) (fP F u x t) (λe d=>(na++vM++x.d.op++xH++aP i.K.tv (S i.ns) x.m i.i++kU).size+(aP e.K.tv (S e.ns) x.m e.i).size<=9223372036854775807/\l (dO (λ(c:Nat->aR)(b:Nat->ah)(a:aR)=>jV c b a) λ(a:aR)=>True) x F (al (C (na++vM++x.d.op++xH++aP i.K.tv (S i.ns) x.m i.i++kU++aP e.K.tv (S e.ns) x.m e.i))) (q1 F u x t)))))))) (true=true/\5<=9223372036854775807/\V t 1/\5+x.d.op.size<=9223372036854775807/\(na++gy++x.d.op).size+4<=9223372036854775807/\V u 0/\b9 (aL f31 29 8) (qf x) (λk=>T1 F ⟨k.b,k.o+k.n.toNat*1,none⟩ (λj=>jE x (iW x j) (fP F u x t) (λi h=>(na++gy++x.d.op++xH).size+(aP i.K.tv (S i.ns) x.m i.i).size<=9223372036854775807/\(na++gy++x.d.op++xH++aP i.K.tv (S i.ns) x.m i.i).size+2<=9223372036854775807/\V u 0/\b9 (aL f31 29 15) (vK x) (λy=>T1 F ⟨y.b,y.o+y.n.toNat*1,none⟩ (λf=>jE x (iW x f) (fP F u x t) (λe d=>(na++gy++x.d.op++xH++aP i.K.tv (S i.ns) x.m i.i++kU).size+(aP e.K.tv (S e.ns) x.m e.i).size<=9223372036854775807/\l (dO (λ(c:Nat->aR)(b:Nat->ah)(a:aR)=>jV c b a) λ(a:aR)=>True) x F (al (C (na++gy++x.d.op++xH++aP i.K.tv (S i.ns) x.m i.i++kU++aP e.K.tv (S e.ns) x.m e.i))) (q1 F u x t)))))))))) (V u 0/\bQ t (bz 60 (dO (λ(c:Nat->aR)(b:Nat->ah)(a:aR)=>jm b a) λ(a:aR)=>True) (λe=>nE e/\True) uX [agg ⟨uo x⟩,agg ⟨EV x⟩] (fP F u x t) (λe d=>l (dO (λ(c:Nat->aR)(b:Nat->ah)(a:aR)=>jV c b a) λ(a:aR)=>True) x F (al (C ((λ(c:Nat->aR)(b:Nat->ah)(a:aR)=>jm b a) (S e.ns) (aP e.K.tv (S e.ns) e.m) e.d))) (q1 F u x t))))))))))):=by
 delta b9 qf T1 jE uo iW EV q1 fP u6 l4 Cy SX wN E6 vM gy Bc E8 vK kU NX na Fi QW ut oZ ml E5 xH g V bQ fv bz Z C Q D al;obtain⟨K,L,a,ca,i,m,d,k,c⟩:=x;have h:nE ⟨K,L,a,ca,i,m,d,k,c⟩:=W.1;clear W;obtain⟨-,-,N,U⟩:=h.ok.lm i d h.at_;have x0:d.b.length<=4096:=(h.ok.lm i d h.at_).1;have P:=h.aq;dsimp only at U P⊢;have G:∀{B:St},gt B 0=F->fK K L a (.cJ (rest B [])):=λe=>H.g.sub (jk 0 X e);have R:∀{B:St},gt B 0=F->e8 (.cJ (rest B [])) k (a7 d.b):=λe=>H.ks.sub (jk 0 X e);have M:mS K L:=h.ok;have s0:=M.l_ m (kd d 0);have s1:=M.l_ m (kd d 1);have s2:=M.l_ m (kd d 2);have s3:=M.l_ m (kd d 3);have f0:=ahD M m (kd d 0);have o1:=aaj M m (kd d 1);have o2:=aaj M m (kd d 2);have J:nF ⟨K,L,a,ca,m,d.b,k,c⟩:=h.ls (λz hz=>hz) (bK _) (bK _) h.af;have j0:=J.jb ⟨#[]⟩;have j2:=J.jb cX;dsimp only at j0 j2;obtain⟨w,hw⟩:∃w,jV (S L) (aP K.tv (S L) m) d=w:=⟨_,rfl⟩;have val:∀v,v=w->returned (string v)=(dO jV (λ_=>True)).val ⟨K,L,a,ca,i,m,d,k,c⟩ ():=λv e=>by rw[e,<-hw] <;> rfl
 have E:=hw;unfold jV at E;intro b b2;refine⟨Y,Y,ar (λq=>?_) (λq=>?_)⟩ <;> rw[q]at E;have I:=N;simp[df,dx,eq_of_beq q]at I;exact⟨rfl,Y,h.kt (j:=0) H (G rfl) O (bZ 1 rfl rfl rfl rfl) (kH BH ⟨aP K.tv (S L) m (kd d 0),⟨#[123]⟩⟩ λ_ _=>ar (λq2=>⟨bC,bC,bC,(),ai,val _ (by rw[<-E];dsimp only[cond_true];rw[q2] <;> rfl),ao [0]⟩) (λq2=>kH BH ⟨aP K.tv (S L) m (kd d 0),⟨#[102,117,110,99,116,105,111,110]⟩⟩ λ_ _=>ar (λq3=>⟨bC,bC,bC,(),ai,val _ (by rw[<-E];dsimp only[cond_true];rw[q2,q3] <;> rfl),ao [0]⟩) (λq3=>⟨bC,(),ai,val _ (by rw[<-E];dsimp only[cond_true];rw[q2,q3] <;> rfl),ao [0]⟩)))⟩;refine ar (λq=>?_) (λq=>?_) <;> rw[q]at E;exact⟨Y,ud HD rfl J (G rfl) (R rfl) ⟨bC,bC,(),ai,val _ E,ao [0]⟩⟩;refine ar (λq=>?_) (λq=>?_) <;> rw[q]at E;have I:=N;simp[df,dx,eq_of_beq q]at I;refine ar (λq2=>?_) (λq2=>?_) <;> rw[q2]at E;exact⟨Y,(),ai,val _ E,ao [0]⟩;have I:=ne_of_beq_false q2;exact⟨rfl,Y,bC,Y,h.kt (j:=0) H (G rfl) O (bZ 1 rfl rfl rfl rfl) ⟨bC,(),ai,val _ E,ao [0]⟩⟩;refine ar (λq=>?_) (λq=>?_) <;> rw[q]at E;exact⟨Y,ud EC rfl J (G rfl) (R rfl) ⟨bC,bC,(),ai,val _ E,ao [0]⟩⟩;refine ar (λq=>?_) (λq=>?_) <;> rw[q]at E;have I:=N;simp[df,dx,eq_of_beq q]at I;refine⟨rfl,Y,h.kt (j:=0) H (G rfl) O (bZ 1 rfl rfl rfl rfl) ⟨bC,bC,Y,h.kt (j:=1) H (G rfl) O (bZ 1 rfl rfl rfl rfl) ⟨bC,ar (λq2=>?_) (λq2=>?_)⟩⟩⟩ <;> (replace E:(bif (d.b.length:Int)==3 then _ else _)=w:=E;rw[q2]at E);have q3:=eq_of_beq q2;exact⟨rfl,Y,h.kt (j:=2) H (G rfl) O (bZ 1 rfl rfl rfl rfl) ⟨bC,bC,(),ai,val _ E,ao [0]⟩⟩;exact⟨(),ai,val _ E,ao [0]⟩;refine ar (λq=>?_) (λq=>?_) <;> rw[q]at E;have I:=N;simp[df,dx,eq_of_beq q]at I;exact⟨rfl,Y,h.kt (j:=0) H (G rfl) O (bZ 1 rfl rfl rfl rfl) ⟨bC,bC,Y,h.kt (j:=1) H (G rfl) O (bZ 1 rfl rfl rfl rfl) ⟨bC,(),ai,val _ E,ao [0]⟩⟩⟩;refine ar (λq=>?_) (λq=>?_) <;> rw[q]at E;have I:=N;simp[df,dx,eq_of_beq q]at I;exact⟨rfl,Y,h.ot (j:=0) ald H (G rfl) O (bZ 1 rfl rfl rfl rfl) ⟨bC,bC,Y,h.ot (j:=1) aay H (G rfl) O (bZ 1 rfl rfl rfl rfl) ⟨bC,bC,Y,h.ot (j:=2) aay H (G rfl) O (bZ 1 rfl rfl rfl rfl) ⟨bC,bC,Y,h.kt (j:=3) H (G rfl) O (bZ 1 rfl rfl rfl rfl) ⟨bC,(),ai,val _ E,ao [0]⟩⟩⟩⟩⟩;refine ar (λq=>?_) (λq=>?_) <;> rw[q]at E;have I:=N;simp[df,dx,eq_of_beq q]at I;refine⟨Y,ia (.inl rfl) rfl,(d.aT,iI),rfl,ai,ar (λq2=>?_) (λq2=>?_)⟩ <;> rw[q2]at E;exact⟨rfl,bC,Y,bC,bC,Y,h.kt (j:=0) H (G rfl) O (bZ 1 rfl rfl rfl rfl) ⟨bC,bC,Y,h.kt (j:=1) H (G rfl) O (bZ 1 rfl rfl rfl rfl) ⟨bC,(),ai,val _ E,ao [0]⟩⟩⟩;exact⟨rfl,bC,Y,bC,bC,Y,h.kt (j:=0) H (G rfl) O (bZ 1 rfl rfl rfl rfl) ⟨bC,bC,Y,h.kt (j:=1) H (G rfl) O (bZ 1 rfl rfl rfl rfl) ⟨bC,(),ai,val _ E,ao [0]⟩⟩⟩;exact⟨Y,Y,Y,Y,Y,Y,amY,rfl,⟨K,L,a,ca,i,m,d,k,c⟩,rfl,rfl,⟨h,ai⟩,⟨G rfl,R rfl⟩,λ_ _=>⟨(),ai,val _ E,ao [0]⟩⟩
theorem amD:aG 31 (dO (λT t d=>jV T t d) (λ_=>True)):=iB func31 am2 amE
end
abbrev lX:aF where
 X:=eQ
 args x:=[.agg #[.slice x.a x.ns.length x.ca],.int .i64 x.i]
 cond x:=aG 13 (d9 x.m)/\mS x.K x.ns/\x.i<=x.m/\x.i<x.ns.length
 aE x F:=fK x.K x.ns x.a F
 val x _:=al (C (aP x.K.tv (S x.ns) (x.m+1) x.i))
def Yj(p:Nat)(b:List aR)(a:bv)(ca:Nat):ag:=.cells p [.slice a b.length ca] 45
def Yk(q:Nat)(d:aR)(k:bv)(c:Nat):ag:=.cells q [.int .i64 d.ak,.string d.op,.float .f64 d.aT,.slice k d.b.length c,.int .i64 d.au] 35
def aam(t:Nat->ah):∀l:aM,(kl t l).length=l.length/2
 | []=>rfl
 | [_]=>by simp[kl]
 |_::_::l=>by rw[kl,kI,aam t l,kI,kI];omega
def aan(t:Nat->ah):∀(l:aM)(j:Nat),j%2=0->j+1<l.length->kl t (l.take (j+2))=kl t (l.take j)++[(t (l.getD j 0).toNat++⟨#[58,32]⟩)++t (l.getD (j+1) 0).toNat]
 | [],_,_,h=>nomatch h
 | [_],_,_,h=>by simp at h
 |a::b::l,0,_,_=>by simp[kl]
 |a::b::l,1,h,_=>O
 |a::b::l,j+2,h,c=>by
  have:=aan t l j O (by simp at c;omega);rw[List.take_succ_cons,List.take_succ_cons,List.take_succ_cons,List.take_succ_cons,kl,kl,this];rfl
def Z2(tv:Nat->ah)(T:Nat->aR)(t:Nat->ah)(d:aR):xu tv T t ⟨d.ak,d.op,d.aT,d.b,0⟩=xu tv T t d:=rfl
def ahW{x:jB}(h:nE x):(mw (aP x.K.tv (S x.ns) x.m) x.d).size<=9223372036854775807:=by
 have a:=ub (t:=aP x.K.tv (S x.ns) x.m) (x.d.b.take (x.d.b.length-1)) cX;have b:=gi (abt (aP x.K.tv (S x.ns) x.m) x.d.b (x.d.b.length-1)) (h.ok.sum x.m x.i x.d h.at_);have c:=(h.ok.lm x.i x.d h.at_).1;have d:cX.size*(x.d.b.take (x.d.b.length-1)).length<=2*4096:=Nat.mul_le_mul (bK 2) (by grind);have e:=h.ok.l_ x.m (kd x.d (x.d.b.length-1));have f:=(h.ok.lm x.i x.d h.at_).2.2.2;unfold mw;simp only[ie,Jg,List.size_toArray,kI,List.length_nil];omega
structure oy where
 d:aR
 k:bv
 c:Nat
 p:Nat
 q:Nat
 i:Nat
 r:Row
abbrev FA(s:oy):bv:=some ⟨s.p,0,none⟩
abbrev FB(s:oy):bv:=some ⟨s.q,0,none⟩
def amJ(x:eQ)(F:ag):Nat->Option Inv:=fun
 |1=>some {X:=oy,gh:=some ⟨aR×bv×Nat,λs=>(s.d,s.k,s.c)⟩,P:=λs=>s.i%2=0/\s.i<=s.d.b.length/\bl 9 1 (jW (kl (aP x.K.tv (S x.ns) x.m) (s.d.b.take s.i))) s.r,mu:=λs=>s.d.b.length-s.i,lv:=λs=>[(2,W (FA s)),(5,W (FB s)),(6,Q s.r.a s.r.n s.r.aq),(7,Z s.i)],st:=λs=>[F,Yj s.p x.ns x.a x.ca,Yk s.q s.d s.k s.c,s.r.A]}
 |_=>none
def amI(x:eQ)(F:ag):Nat->Option Inv:=fun
 |36=>some {X:=oy,gh:=some ⟨aR×bv×Nat,λs=>(s.d,s.k,s.c)⟩,P:=λ_=>True,mu:=λ_=>0,lv:=λs=>[(2,.pointer (some ⟨s.p,0,none⟩)),(5,.pointer (some ⟨s.q,0,none⟩)),(21,.int .i64 s.d.ak),(176,.bool (s.d.ak==13||s.d.ak==14))],st:=λs=>[F,Yj s.p x.ns x.a x.ca,Yk s.q s.d s.k s.c]}
 |_=>none
def amK(x:eQ)(a:ag):List (Nat×Nat×OH):=[(0,0,.n 10),(1,2,z 10),(1,4,.qo (dy 5)),(1,5,.q (BB 0)),(1,6,.n 2060),(1,7,.w (qR 2060)),(2,0,.q (qR 2060)),(2,1,aI ww),(3,0,z 10),(3,1,.q (qR 2060)),(3,2,aI (dO jV (λ_=>True))),(4,1,z 2060),(6,1,z 2060),(6,2,aI (zq x.K)),(8,1,z 2060),(8,2,aI FI),(10,0,z 10),(10,2,z 2060),(10,3,aI (kD cX)),
 (14,2,z 2),(16,1,z 1),(16,3,z 2),(16,7,aI (d9 x.m)),(16,9,z 1),(16,11,z 2),(16,16,aI (d9 x.m)),(16,18,.n 17180),(16,19,.o (cS 9 1 16) [3] [3]),(17,1,aI Hm),
 (19,0,z 10),(19,1,.q (qR 2060)),(19,2,aI (dO (λ_ t d=>mw t d) (λd=>1<=d.b.length))),(19,3,aI Mc),
 (21,0,z 10),(21,2,z 2060),(21,5,aI (dY hZ)),(21,8,z 2060),(23,0,z 10),(23,2,z 2060),(23,5,aI (dY hZ)),(23,7,z 10),(23,9,z 2060),(23,12,aI (d9 x.m)),(25,0,z 10),(25,2,z 2060),(25,5,aI (dY hZ)),(25,7,z 10),(25,9,z 2060),(25,10,.qo CQ),(25,11,aI (kD cX)),
 (27,1,z 2060),(27,5,z 2060),(28,1,z 2060),(28,3,z 10),(28,5,z 2060),(28,8,aI (dY di)),(29,1,z 2060),(29,2,z 10),(29,4,z 2060),(29,7,aI (dY di)),(31,1,z 2060),(31,2,.qo (iO .eql)),(32,1,z 2060),(32,2,z 10),(32,4,z 2060),(32,7,aI (dY di)),(33,0,z 10),(33,2,z 2060),(33,5,aI (dY di)),(33,7,z 2060),
 (36,0,z 1),(36,2,z 2),(36,5,aI (dY di)),(36,8,z 2),(36,11,z 1),(36,13,z 2),(36,16,aI (dY di)),(38,0,z 1),(38,2,z 2),(38,5,aI (dY di)),(38,8,z 2),(38,11,z 1),(38,13,z 2),(38,16,aI (d9 x.m)),
 (40,0,z 1),(40,2,z 2),(40,5,aI (dY di)),(40,7,z 1),(40,9,z 2),(40,12,aI (d9 x.m)),(40,15,z 1),(40,17,z 2),(40,20,aI (d9 x.m)),(41,1,z 2)]++(kL 16 5++kL 16 14++kL 21 3++kL 23 3++kL 23 10++kL 25 3++kL 28 6++kL 29 5++kL 32 5++kL 33 3++kL 36 3++kL 36 14++kL 38 3++kL 38 14++kL 40 3++kL 40 10++kL 40 18)
abbrev Fm:ah:=ByteArray.mk #[91]
def MJ(a:oy)(x:eQ)(o:aR×bv×Nat):=(a.i.mod 2=0/\a.i<=a.d.b.length/\bl 9 1 (jW (kl (aP x.K.tv (S x.ns) x.m) (List.take a.i a.d.b))) a.r)/\(a.d,a.k,a.c)=o
abbrev HW(z:oy):aN:=[Z z.d.ak,C z.d.op,float f64 z.d.aT,Q z.k z.d.b.length z.c,Z z.d.au]
abbrev CE(F:ag)(a:oy)(x:eQ):=[(0,F),(1,D a.p (l5 x) 45),(2,D a.q (HW a) 35),(3,a.r.A)]
abbrev Vf(j:tO)(x:eQ)(f:tO):aN:=[C (aP j.K.tv (S j.ns) x.m j.i++(ByteArray.mk #[58,32])++aP f.K.tv (S f.ns) x.m f.i)]
def Ku:=bz 38 (dY hZ) A4 Fi
def SZ(r:Nat)(y:ah)(B:Nat)(v:bv)(u t:Nat)(F:ag)(x:eQ)(z:Int)(w:Nat)(s:Int):=true=true/\V r 1/\y.size+1<=9223372036854775807/\V B 0/\V r 3/\b9 (aL f13 28 6) [Q v u t,Z 0] (λd=>T1 F ⟨d.b,d.o+d.n.toNat*1,none⟩ (λc=>u7 (mF x c) (g (gb F B x r z y w v u t s) []) (λb a=>(y++mG).size+(di (S b.ns) (aP b.K.tv (S b.ns) b.m) b.i).size<=9223372036854775807/\l lX x F (al (C (y++mG++di (S b.ns) (aP b.K.tv (S b.ns) b.m) b.i))) (gb F B x r z y w v u t s))))
abbrev Tr(F:ag)(x:eQ)(B r:Nat)(z:Int)(y:ah)(w:Nat)(v:bv)(u t:Nat)(s:Int):qD->Prop:=λd=>T1 F ⟨d.b,d.o+d.n.toNat*1,none⟩ (λc=>u7 (mF x c) (g (gb F B x r z y w v u t s) []) (λb a=>y.size+(di (S b.ns) (aP b.K.tv (S b.ns) b.m) b.i).size<=9223372036854775807/\l lX x F (al (C (y++di (S b.ns) (aP b.K.tv (S b.ns) b.m) b.i))) (gb F B x r z y w v u t s)))
abbrev Ck(e1:ag)(z:oy)(a:eQ):=[(0,e1),(1,D z.p (l5 a) 45),(2,D z.q (HW z) 35)]
def QX(a:aR×bv×Nat)(e1:ag)(b:eQ)(d e f g:aD)(c:St):=∃(z:oy),(True/\(z.d,z.k,z.c)=a)/\(d=W (FA z)/\e=W (FB z)/\f=Z z.d.ak/\g=H (z.d.ak==13||z.d.ak==14)/\True)/\ay c (Ck e1 z b)
abbrev Od(n:oy):aN:=[Q n.k n.d.b.length n.c,Z 0]
abbrev Af(F:ag)(n:oy)(x:eQ):=g (Ck F n x) []
abbrev Oe(n:oy):aN:=[Q n.k n.d.b.length n.c,Z 1]
abbrev IG:ah:=ByteArray.mk #[32,63,32]
def amM(x:eQ)(F:ag)(hc:lX.cond x)(hr:lX.aE x F):∀(B:Nat),V B 0/\fV (aL f13 1 4) (vQ x) (λA=>T1 F ⟨A.b,A.o+A.n.toNat*5,none⟩ (λz=>T2 F ⟨A.b,A.o+A.n.toNat*5+1,none⟩ (λy=>lO F ⟨A.b,A.o+A.n.toNat*5+2,none⟩ (λw=>dN F ⟨A.b,A.o+A.n.toNat*5+3,none⟩ (λv u t=>T1 F ⟨A.b,A.o+A.n.toNat*5+4,none⟩ (λs=>∀(r:Nat),bQ r (bQ r (DF [agg ⟨lY z y w v u t s⟩] (λq p=>Br (!jL q.d.ak) (V B 0/\bQ r (bz 31 (dO jV λ(a:aR)=>True) (λb=>nE b/\True) uX [agg ⟨l5 x⟩,agg ⟨lY z y w v u t s⟩] (g (gb F B x r z y w v u t s) []) (λb a=>l lX x F (al (C (jV (S b.ns) (aP b.K.tv (S b.ns) b.m) b.d))) (gb F B x r z y w v u t s)))) (V r 0/\Br (z==1) (V r 2/\bz 32 (zq x.K) (λ_=>True) (λ_=>x.K.3) [float f64 w] (g (gb F B x r z y w v u t s) []) (λb a=>l lX x F (al (C (x.K.tv b.n))) (gb F B x r z y w v u t s))) (Br (z==2) (V r 1/\cG 33 FI (λb=>b.s.size<=65536) [C y] (λb a=>l lX x F (al (C (IW b.s))) (gb F B x r z y w v u t s))) (Br (z==5) (V B 0/\V r 3/\wN [agg ⟨l5 x⟩,Q v u t] (g (gb F B x r z y w v u t s) []) (λb a=>1+(ff (aP b.K.tv (S b.ns) b.m) b.ks cX).size<=9223372036854775807/\(Fm++ff (aP b.K.tv (S b.ns) b.m) b.ks cX).size+1<=9223372036854775807/\l lX x F (al (C (Fm++ff (aP b.K.tv (S b.ns) b.m) b.ks cX++(ByteArray.mk #[93])))) (gb F B x r z y w v u t s))) (Br (z==6) (∃(o:aR×bv×Nat),(∃(a:oy),MJ a x o/\(W (bq B)=W (FA a)/\W (bq r)=W (FB a)/\Q none 0 0=Q a.r.a a.r.n a.r.aq/\Z 0=Z ↑a.i/\True)/\ay (gb F B x r z y w v u t s) (CE F a x))/\aQ λ(n:oy)_=>MJ n x o->V n.q 3/\aK ((n.i:Int)<(n.d.b.length:Int)) (true=true/\V n.p 0/\V n.q 3/\b9 (aL f13 16 5) [Q n.k n.d.b.length n.c,Z ↑n.i] (λE=>T1 F ⟨E.b,E.o+E.n.toNat*1,none⟩ (λk=>nG x (mF x k) (g (CE F n x) []) (λj i=>(aP j.K.tv (S j.ns) x.m j.i).size+2<=9223372036854775807/\V n.p 0/\V n.q 3/\aA ((n.i:Int)+1)/\b9 (aL f13 16 14) [Q n.k n.d.b.length n.c,Z ((n.i:Int)+1)] (λh=>T1 F ⟨h.b,h.o+h.n.toNat*1,none⟩ (λI=>nG x (mF x I) (g (CE F n x) []) (λf e=>(aP j.K.tv (S j.ns) x.m j.i++(ByteArray.mk #[58,32])).size+(aP f.K.tv (S f.ns) x.m f.i).size<=9223372036854775807/\∀(d:Nat),Kq (aL f13 16 19) [Q n.r.a n.r.n n.r.aq,Q (bq d) 1 1] [n.r.A] (g [(0,F),(1,D n.p (l5 x) 45),(2,D n.q (HW n) 35),(3,n.r.A),(17180,D d (Vf j x f) 9)] [3]) (λc b=>aA ((n.i:Int)+2)/\∃(a:oy),MJ a x o/\(W (FA n)=W (FA a)/\W (FB n)=W (FB a)/\Q b.a b.n b.aq=Q a.r.a a.r.n a.r.aq/\Z ((n.i:Int)+2)=Z ↑a.i/\True)/\ay [(0,F),(1,D n.p (l5 x) 45),(2,D n.q (HW n) 35),(3,b.A),(17180,D d (Vf j x f) 9)] (CE F a x)/\a.d.b.length-a.i<n.d.b.length-n.i)))))))) (DG [Q n.r.a n.r.n n.r.aq,C ⟨#[44,32]⟩] (g (CE F n x) []) (λb a=>1+(vw b.xs b.kA).size<=9223372036854775807/\((ByteArray.mk #[123])++vw b.xs b.kA).size+1<=9223372036854775807/\l lX x F (al (C ((ByteArray.mk #[123])++vw b.xs b.kA++(ByteArray.mk #[125])))) (CE F n x)))) (Br (z==7) (V B 0/\bQ r (Kt [agg ⟨l5 x⟩,agg ⟨lY z y w v u t s⟩] (g (gb F B x r z y w v u t s) []) (λf e=>cG 36 Mc (λd=>d.a.size<=9223372036854775807) [C ((λ(c:Nat->aR)(b:Nat->ah)(a:aR)=>mw b a) (S f.ns) (aP f.K.tv (S f.ns) f.m) f.d),C ⟨#[10]⟩] (λd a=>l lX x F (al (C (Jn d.a d.b))) (gb F B x r z y w v u t s))))) (Br (z==8) (true=true/\V B 0/\V r 3/\b9 (aL f13 21 3) [Q v u t,Z 0] (λd=>T1 F ⟨d.b,d.o+d.n.toNat*1,none⟩ (λc=>Ku (mF x c) (g (gb F B x r z y w v u t s) []) (λb a=>(hZ (S b.ns) (aP b.K.tv (S b.ns) b.m) b.i).size+1<=9223372036854775807/\V r 1/\(hZ (S b.ns) (aP b.K.tv (S b.ns) b.m) b.i++zZ).size+y.size<=9223372036854775807/\l lX x F (al (C (hZ (S b.ns) (aP b.K.tv (S b.ns) b.m) b.i++zZ++y))) (gb F B x r z y w v u t s))))) (Br (z==9) (true=true/\V B 0/\V r 3/\b9 (aL f13 23 3) [Q v u t,Z 0] (λh=>T1 F ⟨h.b,h.o+h.n.toNat*1,none⟩ (λI=>Ku (mF x I) (g (gb F B x r z y w v u t s) []) (λf e=>(hZ (S f.ns) (aP f.K.tv (S f.ns) f.m) f.i).size+1<=9223372036854775807/\V B 0/\V r 3/\b9 (aL f13 23 10) [Q v u t,Z 1] (λd=>T1 F ⟨d.b,d.o+d.n.toNat*1,none⟩ (λc=>nG x (mF x c) (g (gb F B x r z y w v u t s) []) (λb a=>(hZ (S f.ns) (aP f.K.tv (S f.ns) f.m) f.i++Fm).size+(aP b.K.tv (S b.ns) x.m b.i).size<=9223372036854775807/\(hZ (S f.ns) (aP f.K.tv (S f.ns) f.m) f.i++Fm++aP b.K.tv (S b.ns) x.m b.i).size+1<=9223372036854775807/\l lX x F (al (C (hZ (S f.ns) (aP f.K.tv (S f.ns) f.m) f.i++Fm++aP b.K.tv (S b.ns) x.m b.i++(ByteArray.mk #[93])))) (gb F B x r z y w v u t s)))))))) (Br (z==10) (true=true/\V B 0/\V r 3/\b9 (aL f13 25 3) [Q v u t,Z 0] (λI=>T1 F ⟨I.b,I.o+I.n.toNat*1,none⟩ (λf=>Ku (mF x f) (g (gb F B x r z y w v u t s) []) (λe d=>(hZ (S e.ns) (aP e.K.tv (S e.ns) e.m) e.i).size+1<=9223372036854775807/\V B 0/\V r 3/\GI (aL f13 25 10) [Q v u t,Z 1] (λc=>wN [agg ⟨l5 x⟩,Q (uI c.a c.aq) (c.n-1) (c.aq-1)] (g (gb F B x r z y w v u t s) []) (λb a=>(hZ (S e.ns) (aP e.K.tv (S e.ns) e.m) e.i++l4).size+(ff (aP b.K.tv (S b.ns) b.m) b.ks cX).size<=9223372036854775807/\(hZ (S e.ns) (aP e.K.tv (S e.ns) e.m) e.i++l4++ff (aP b.K.tv (S b.ns) b.m) b.ks cX).size+1<=9223372036854775807/\l lX x F (al (C (hZ (S e.ns) (aP e.K.tv (S e.ns) e.m) e.i++l4++ff (aP b.K.tv (S b.ns) b.m) b.ks cX++(ByteArray.mk #[41])))) (gb F B x r z y w v u t s))))))) (Br (z==11) (V r 1/\Br (y.toList==(ByteArray.mk #[116,121,112,101,111,102]).toList) (SZ r y B v u t F x z w s) (V r 1/\Br (y.toList==ID.toList) (SZ r y B v u t F x z w s) (true=true/\V r 1/\V B 0/\V r 3/\b9 (aL f13 29 5) [Q v u t,Z 0] (Tr F x B r z y w v u t s)))) (Br (z==12) (V r 2/\ml (aL f13 31 2) [float f64 w,float f64 4607182418800017408] (λe=>Br (cq BinOp.eql e.fst e.snd) (true=true/\V r 1/\V B 0/\V r 3/\b9 (aL f13 32 5) [Q v u t,Z 0] (Tr F x B r z y w v u t s)) (true=true/\V B 0/\V r 3/\b9 (aL f13 33 3) [Q v u t,Z 0] (λd=>T1 F ⟨d.b,d.o+d.n.toNat*1,none⟩ (λc=>u7 (mF x c) (g (gb F B x r z y w v u t s) []) (λb a=>V r 1/\(di (S b.ns) (aP b.K.tv (S b.ns) b.m) b.i).size+y.size<=9223372036854775807/\l lX x F (al (C (di (S b.ns) (aP b.K.tv (S b.ns) b.m) b.i++y))) (gb F B x r z y w v u t s))))))) (∃(o:aR×bv×Nat),Br (z==13) (QX o F x (bL B) (bL r) (Z z) (H (z==13)) (gb F B x r z y w v u t s)) (QX o F x (bL B) (bL r) (Z z) (H (z==14)) (gb F B x r z y w v u t s))/\aQ λ(n:oy)_=>(True/\(n.d,n.k,n.c)=o)->Br (n.d.ak==13||n.d.ak==14) (true=true/\V n.p 0/\V n.q 3/\b9 (aL f13 36 3) (Od n) (λh=>T1 F ⟨h.b,h.o+h.n.toNat*1,none⟩ (λI=>u7 (mF x I) (Af F n x) (λf e=>(di (S f.ns) (aP f.K.tv (S f.ns) f.m) f.i).size+1<=9223372036854775807/\V n.q 1/\(di (S f.ns) (aP f.K.tv (S f.ns) f.m) f.i++mG).size+n.d.op.size<=9223372036854775807/\(di (S f.ns) (aP f.K.tv (S f.ns) f.m) f.i++mG++n.d.op).size+1<=9223372036854775807/\V n.p 0/\V n.q 3/\b9 (aL f13 36 14) (Oe n) (λd=>T1 F ⟨d.b,d.o+d.n.toNat*1,none⟩ (λc=>u7 (mF x c) (Af F n x) (λb a=>(di (S f.ns) (aP f.K.tv (S f.ns) f.m) f.i++mG++n.d.op++mG).size+(di (S b.ns) (aP b.K.tv (S b.ns) b.m) b.i).size<=9223372036854775807/\l lX x F (al (C (di (S f.ns) (aP f.K.tv (S f.ns) f.m) f.i++mG++n.d.op++mG++di (S b.ns) (aP b.K.tv (S b.ns) b.m) b.i))) (Ck F n x)))))))) (Br (n.d.ak==16) (true=true/\V n.p 0/\V n.q 3/\b9 (aL f13 38 3) (Od n) (λh=>T1 F ⟨h.b,h.o+h.n.toNat*1,none⟩ (λI=>u7 (mF x I) (Af F n x) (λf e=>(di (S f.ns) (aP f.K.tv (S f.ns) f.m) f.i).size+1<=9223372036854775807/\V n.q 1/\(di (S f.ns) (aP f.K.tv (S f.ns) f.m) f.i++mG).size+n.d.op.size<=9223372036854775807/\(di (S f.ns) (aP f.K.tv (S f.ns) f.m) f.i++mG++n.d.op).size+1<=9223372036854775807/\V n.p 0/\V n.q 3/\b9 (aL f13 38 14) (Oe n) (λd=>T1 F ⟨d.b,d.o+d.n.toNat*1,none⟩ (λc=>nG x (mF x c) (Af F n x) (λb a=>(di (S f.ns) (aP f.K.tv (S f.ns) f.m) f.i++mG++n.d.op++mG).size+(aP b.K.tv (S b.ns) x.m b.i).size<=9223372036854775807/\l lX x F (al (C (di (S f.ns) (aP f.K.tv (S f.ns) f.m) f.i++mG++n.d.op++mG++aP b.K.tv (S b.ns) x.m b.i))) (Ck F n x)))))))) (Br (n.d.ak==15) (true=true/\V n.p 0/\V n.q 3/\b9 (aL f13 40 3) (Od n) (λE=>T1 F ⟨E.b,E.o+E.n.toNat*1,none⟩ (λk=>u7 (mF x k) (Af F n x) (λj i=>(di (S j.ns) (aP j.K.tv (S j.ns) j.m) j.i).size+3<=9223372036854775807/\V n.p 0/\V n.q 3/\b9 (aL f13 40 10) (Oe n) (λh=>T1 F ⟨h.b,h.o+h.n.toNat*1,none⟩ (λI=>nG x (mF x I) (Af F n x) (λf e=>(di (S j.ns) (aP j.K.tv (S j.ns) j.m) j.i++IG).size+(aP f.K.tv (S f.ns) x.m f.i).size<=9223372036854775807/\(di (S j.ns) (aP j.K.tv (S j.ns) j.m) j.i++IG++aP f.K.tv (S f.ns) x.m f.i).size+3<=9223372036854775807/\V n.p 0/\V n.q 3/\b9 (aL f13 40 18) [Q n.k n.d.b.length n.c,Z 2] (λd=>T1 F ⟨d.b,d.o+d.n.toNat*1,none⟩ (λc=>nG x (mF x c) (Af F n x) (λb a=>(di (S j.ns) (aP j.K.tv (S j.ns) j.m) j.i++IG++aP f.K.tv (S f.ns) x.m f.i++(ByteArray.mk #[32,58,32])).size+(aP b.K.tv (S b.ns) x.m b.i).size<=9223372036854775807/\l lX x F (al (C (di (S j.ns) (aP j.K.tv (S j.ns) j.m) j.i++IG++aP f.K.tv (S f.ns) x.m f.i++(ByteArray.mk #[32,58,32])++aP b.K.tv (S b.ns) x.m b.i))) (Ck F n x))))))))))) (V n.q 1/\l lX x F (al (C n.d.op)) (Ck F n x)))))))))))))))))))))))):=by
 delta fV vQ T1 T2 lO dN DF lY l5 gb wN Fm MJ bq FA FB HW CE b9 nG mF mM jx l6 Kq Vf DG Kt Fi Ku zZ GI l4 u7 mG SZ ID Tr oZ ml Ck QX bL Od Af Oe IG g V aA bQ fv cG bz jc Z C H W Q D aK al aQ;obtain⟨K,P,a,ca,i,m⟩:=x;obtain⟨hT,hO,hm,hl⟩:=hc;replace hr:fK K P a F:=hr;dsimp only at hT hO hm hl⊢;obtain⟨d,hd⟩:∃d,P[i]?=some d:=⟨_,da hl⟩;obtain⟨rb,k,c,e,hs,h2,v0,v1,v2,v3,v4,x0⟩:=hr.nd.h i d hd;have h:nE ⟨K,P,a,ca,i,m,d,k,c⟩:=⟨hT,hO,hd,hm,hs,x0⟩;have R:uX ⟨K,P,a,ca,i,m,d,k,c⟩ F:=⟨hr,h2⟩;obtain⟨x6,-,U,x9⟩:=hO.lm i d hd;have G:∀{L:St},gt L 0=F->fK K P a (.cJ (rest L [])):=λe=>hr.sub (jk 0 X e);have G2:∀{L:St},gt L 0=F->e8 (.cJ (rest L [])) k (a7 d.b):=λe=>h2.sub (jk 0 X e);have s0:=hO.l_ m (kd d 0);have s1:=hO.l_ m (kd d 1);have s2:=hO.l_ m (kd d 2);have b0:=Ya (T:=S P) (t:=aP K.tv (S P) m) (kd d 0);have o0:=HC (T:=S P) (t:=aP K.tv (S P) m) (kd d 0);have o1:=HC (T:=S P) (t:=aP K.tv (S P) m) (kd d 1);have J:nF ⟨K,P,a,ca,m,d.b,k,c⟩:=h.ls (λz hz=>hz) (bK _) (bK _) hs;have j2:=J.jb cX;dsimp only at j2;have J1:1<=d.b.length->nF ⟨K,P,a,ca,m,d.b.drop 1,uI k c,c-1⟩:=λN=>h.ls (λz hz=>List.mem_of_mem_drop hz) (by simp[*]) (abs _ _ _) (by rw[List.length_drop];exact abl h.af N);obtain⟨w,hw⟩:∃w,xu K.tv (S P) (aP K.tv (S P) m) d=w:=⟨_,rfl⟩;have val:∀v,v=w->returned (string v)=lX.val ⟨K,P,a,ca,i,m⟩ ():=λv e=>by{rw[e,<-hw,<-Z2,<-mY hd] <;> rfl};have M:=hw;unfold xu at M;intro b;refine⟨Y,bZ 5 rfl rfl rfl rfl,⟨rb,0,P.length,ca,i⟩,by rw[e],⟨by simp[*],by simp[*]⟩,d.ak,v0,d.op,v1,d.aT,v2,k,_,c,v3,d.au,v4,λb2=>⟨Y,Y,Y,Y,Y,Y,Y,Y,Y,Y,WW,rfl,⟨d,k,c⟩,rfl,rfl,ai,ai,λ_ _=>ar (λq=>?_) (λq=>?_)⟩⟩;have q2:jL d.ak=false:=by revert q;dsimp only;cases jL d.ak <;> decide
 rw[q2]at M;exact⟨Y,Y,Y,Y,Y,Y,amD,rfl,⟨K,P,a,ca,i,m,d,k,c⟩,rfl,rfl,⟨h,ai⟩,⟨G rfl,G2 rfl⟩,λ_ _=>⟨(),ai,val _ M,ao [0]⟩⟩;have q2:jL d.ak=true:=by revert q;dsimp only;cases jL d.ak <;> decide
 rw[q2]at M;clear q q2;replace M:K7 K.tv (S P) (aP K.tv (S P) m) d=w:=M;unfold K7 at M;refine⟨Y,ar (λq=>?_) (λq=>?_)⟩ <;> rw[q]at M;exact⟨Y,hO.aT,rfl,⟨d.aT⟩,rfl,rfl,ai,(G rfl).gl.rd,λ_ _=>⟨(),ai,val _ M,ao [0]⟩⟩;refine ar (λq=>?_) (λq=>?_) <;> rw[q]at M;exact⟨Y,am5,rfl,⟨d.op⟩,rfl,rfl,by grind,ai,λ_ _=>⟨(),ai,val _ M,ao [0]⟩⟩;refine ar (λq=>?_) (λq=>?_) <;> rw[q]at M;exact⟨Y,Y,ud HD rfl J (G rfl) (G2 rfl) ⟨bC,bC,(),ai,val _ M,ao [0]⟩⟩;refine ar (λq=>?_) (λq=>?_) <;> rw[q]at M
 ·have N:=U;unfold df at N;rw[eq_of_beq q]at N;replace N:(bif sq (S P) d.b then ((d.b.length:Int).tmod 2)==0 else false)=true:=N;have x8:d.b.length%2=0:=by
   grind
  refine⟨(d,k,c),⟨⟨d,k,c,b,b2,0,dq⟩,⟨⟨rfl,b7 _,.nil rfl⟩,rfl⟩,aU,ao [0,10,2060,9999]⟩, ?_⟩;clear b b2;rintro⟨d,k,c,p,p2,j,r2⟩ js ⟨⟨hj,x3,hR⟩,e⟩;dsimp only at e;cases e;dsimp only at hj x3 hR⊢;replace hj:j%2=0:=hj;refine⟨Y,bd (λx7=>?_) (λx4=>?_)⟩;have N:=hR.len;unfold jW at N;rw[List.length_map,aam,List.length_take]at N;have x5:j+1<d.b.length:=O;have s3:=hO.l_ m (kd d j);have s4:=hO.l_ m (kd d (j+1));refine⟨rfl,Y,Y,h.kt (j:=j) R (G rfl) O (bZ 1 rfl rfl rfl rfl) ⟨bC,Y,Y,aC,h.kt (j:=j+1) R (G rfl) O (bZ 1 rfl rfl rfl rfl) ⟨bC, ?_⟩⟩⟩;intro b;refine ba (iN 1 16 rfl rfl rfl rfl rfl rfl rfl (by decide)) ⟨r2,jW (kl (aP K.tv (S P) m) (d.b.take j)),some ⟨b,0,none⟩,1,1,[.string ((aP K.tv (S P) m (kd d j)++⟨#[58,32]⟩)++aP K.tv (S P) m (kd d (j+1)))]⟩ ⟨hR,rfl,λu hu=>by rw[List.mem_singleton.1 hu] <;> rfl,by grind,by grind,λh=>nomatch h⟩ (λad ha=>?_) λy hy=>⟨aC,⟨d,k,c,p,p2,j+2,y⟩,⟨⟨by show(j+2)%2=0;omega,by grind, ?_⟩,rfl⟩,aU,ao [0,1,2,3],by grind⟩;cases ha;exact cR.rest (j:=17180) X (cR.cells (λj u hj=>by simp[*]));have hy:=hy.1;dsimp only at hy⊢;rw[aan _ _ _ hj O];unfold jW at hy⊢;rw[List.map_append];exact hy
  ·have ej:j=d.b.length:=by omega
   rw[ej,List.take_length]at hR;have N:(kl (aP K.tv (S P) m) d.b).length=r2.n:=by{have N:=hR.len;unfold jW at N;grind};have x1:=hR.le;have x2:=hR.af;rw[<-N]at x1 x2;have z1:=SL (t:=aP K.tv (S P) m) (u:=λk=>(aP K.tv (S P) m k).size) (l:=d.b) (λ_ _=>bK _);have z2:=Sj (kl (aP K.tv (S P) m) d.b) cX;have z3:cX.size*(kl (aP K.tv (S P) m) d.b).length<=2*4096:=Nat.mul_le_mul (bK 2) O;have z4:et (λk=>(aP K.tv (S P) m k).size) d.b<=4398046511104:=J.sum;have z5:(vw (kl (aP K.tv (S P) m) d.b) cX).size=Hn (kl (aP K.tv (S P) m) d.b) cX:=List.size_toArray;exact⟨Si,rfl,⟨kl (aP K.tv (S P) m) d.b,r2.a,r2.aq,cX⟩,by first| (rw[<-N];done)| (rw[<-N] <;> rfl),rfl,⟨x2,by grind,x1,by grind⟩,CP 3 X rfl hR,λ_ _=>⟨bC,bC,(),ai,val _ M,ao [0]⟩⟩
 refine ar (λq=>?_) (λq=>?_) <;> rw[q]at M;have N:=U;simp[df,dx,eq_of_beq q]at N;have z:=ahW h;exact⟨Y,Y,Y,Y,Y,Y,aaw,rfl,⟨K,P,a,ca,i,m,d,k,c⟩,rfl,rfl,⟨h,by grind⟩,⟨G rfl,G2 rfl⟩,λ_ _=>bG aoU ⟨mw (aP K.tv (S P) m) d,⟨#[10]⟩⟩ z λ_ _=>⟨(),ai,val _ M,ao [0]⟩⟩;refine ar (λq=>?_) (λq=>?_) <;> rw[q]at M;have N:=U;simp[df,dx,eq_of_beq q]at N;exact⟨rfl,Y,Y,h.ot (j:=0) SN R (G rfl) O (bZ 1 rfl rfl rfl rfl) ⟨bC,Y,bC,(),ai,val _ M,ao [0]⟩⟩;refine ar (λq=>?_) (λq=>?_) <;> rw[q]at M;have N:=U;simp[df,dx,eq_of_beq q]at N;exact⟨rfl,Y,Y,h.ot (j:=0) SN R (G rfl) O (bZ 1 rfl rfl rfl rfl) ⟨bC,Y,Y,h.kt (j:=1) R (G rfl) O (bZ 1 rfl rfl rfl rfl) ⟨bC,bC,(),ai,val _ M,ao [0]⟩⟩⟩;refine ar (λq=>?_) (λq=>?_) <;> rw[q]at M;have N:=U;simp[df,dx,eq_of_beq q]at N;have N:1<=d.b.length:=O;have j1:=(J1 N).jb cX;dsimp only at j1;exact⟨rfl,Y,Y,h.ot (j:=0) SN R (G rfl) O (bZ 1 rfl rfl rfl rfl) ⟨bC,Y,Y,Ws rfl rfl rfl rfl,⟨k,d.b.length,c⟩,rfl,N,ud HD (by simp[*]) (J1 N) (G rfl) (WH (G2 rfl) hs N x0) ⟨bC,bC,(),ai,val _ M,ao [0]⟩⟩⟩;refine ar (λq=>?_) (λq=>?_) <;> rw[q]at M;have N:=U;simp[df,dx,eq_of_beq q]at N;refine⟨Y,ar (λq3=>?_) (λq3=>?_)⟩ <;> rw[q3]at M;exact⟨rfl,Y,bC,Y,Y,h.ot (j:=0) vF R (G rfl) O (bZ 1 rfl rfl rfl rfl) ⟨bC,(),ai,val _ M,ao [0]⟩⟩;refine⟨Y,ar (λq4=>?_) (λq4=>?_)⟩ <;> rw[q4]at M;exact⟨rfl,Y,bC,Y,Y,h.ot (j:=0) vF R (G rfl) O (bZ 1 rfl rfl rfl rfl) ⟨bC,(),ai,val _ M,ao [0]⟩⟩;exact⟨rfl,Y,Y,Y,h.ot (j:=0) vF R (G rfl) O (bZ 1 rfl rfl rfl rfl) ⟨bC,(),ai,val _ M,ao [0]⟩⟩;refine ar (λq=>?_) (λq=>?_) <;> rw[q]at M;have N:=U;simp[df,dx,eq_of_beq q]at N;refine⟨Y,ia (.inl rfl) rfl,(d.aT,iI),rfl,ai,ar (λq3=>?_) (λq3=>?_)⟩ <;> rw[q3]at M;exact⟨rfl,Y,Y,Y,h.ot (j:=0) vF R (G rfl) O (bZ 1 rfl rfl rfl rfl) ⟨bC,(),ai,val _ M,ao [0]⟩⟩;exact⟨rfl,Y,Y,h.ot (j:=0) vF R (G rfl) O (bZ 1 rfl rfl rfl rfl) ⟨Y,bC,(),ai,val _ M,ao [0]⟩⟩;refine⟨(d,k,c),ar (λq=>⟨⟨d,k,c,b,b2,0,dq⟩,⟨ai,rfl⟩,⟨rfl,rfl,rfl,by simp[*],ai⟩,ao [0,10,2060]⟩) (λq=>⟨⟨d,k,c,b,b2,0,dq⟩,⟨ai,rfl⟩,⟨rfl,rfl,rfl,by simp[*],ai⟩,ao [0,10,2060]⟩), ?_⟩;clear b b2;rintro⟨d,k,c,p,p2,j,r2⟩ js ⟨-,e⟩;dsimp only at e;cases e;dsimp only;refine ar (λq=>?_) (λq=>?_) <;> rw[q]at M;have N:d.b.length=2:=by{rcases Bool.or_eq_true_iff.1 q with q|q <;> (have N:=U;simp[df,dx,eq_of_beq q]at N;omega)};exact⟨rfl,Y,Y,h.ot (j:=0) vF R (G rfl) O (bZ 1 rfl rfl rfl rfl) ⟨bC,Y,bC,bC,Y,Y,h.ot (j:=1) vF R (G rfl) O (bZ 1 rfl rfl rfl rfl) ⟨bC,(),ai,val _ M,ao [0]⟩⟩⟩;refine ar (λq=>?_) (λq=>?_) <;> rw[q]at M;have N:=U;simp[df,dx,eq_of_beq q]at N;exact⟨rfl,Y,Y,h.ot (j:=0) vF R (G rfl) O (bZ 1 rfl rfl rfl rfl) ⟨bC,Y,bC,bC,Y,Y,h.kt (j:=1) R (G rfl) O (bZ 1 rfl rfl rfl rfl) ⟨bC,(),ai,val _ M,ao [0]⟩⟩⟩;refine ar (λq=>?_) (λq=>?_) <;> rw[q]at M;have N:=U;simp[df,dx,eq_of_beq q]at N;exact⟨rfl,Y,Y,h.ot (j:=0) vF R (G rfl) O (bZ 1 rfl rfl rfl rfl) ⟨bC,Y,Y,h.kt (j:=1) R (G rfl) O (bZ 1 rfl rfl rfl rfl) ⟨bC,bC,Y,Y,h.kt (j:=2) R (G rfl) O (bZ 1 rfl rfl rfl rfl) ⟨bC,(),ai,val _ M,ao [0]⟩⟩⟩⟩;exact⟨Y,(),ai,val _ M,ao [0]⟩
def amL:aG 13 lX:=rh func13 amK amJ amI amM
def aaF:∀m,aG 13 (d9 m)
 |0=>⟨λx _ _ _ a=>absurd a.2.1 (Nat.not_lt_zero _)⟩
 |m+1=>⟨λx F I w a b c=>amL.h ⟨x.K,x.ns,x.a,x.ca,x.i,m⟩ F I w ⟨aaF m,a.1,Nat.le_of_lt_succ a.2.1,a.2.2⟩ b c⟩
section
def A1(B:Nat)(s:ap):Prop:=∀x∈s.a,x.op.size<=B
def HO{α:Type}(B:Nat)(m:j α)(Q:α->Prop):Prop:=∀s a t,A1 B s->m s= .ok a t->Q a/\A1 B t
section
variable{B:Nat}{α β:Type}{L:List a8}{ae:Int}{aO:Nat->ah}{wide:ah->ah}
theorem HO.bind{m:j α}{f:α->j β}{Q:α->Prop}{R:β->Prop}(h:HO B m Q)(i:∀a,Q a->HO B (f a) R):HO B (m>>=f) R:=by
 intro s b t k e;have e:bP m f s= .ok b t:=e;unfold bP at e;cases c:m s with
 |ok a u=>
  rw[c]at e;obtain⟨d,g⟩:=h s a u k c;exact i a d u b t g e
 |stop q r u=>rw[c]at e;cases e
 |out=>rw[c]at e;cases e
variable{b:Bool}{t:ah}{x:aR}{k:Int}
theorem HO.bif{m k:j α}{Q:α->Prop}(h:HO B m Q)(U:HO B k Q):HO B (bif b then m else k) Q:=by cases b;exact U;exact h
theorem HO.ret{a:α}{Q:α->Prop}(h:Q a):HO B (ret a) Q:=λs _ _ b e=>by cases e;exact⟨h,b⟩
theorem acr{a:α}:HO B (Go.Proofs.YthhiffpfleacaaaGreatDoor.ret a) (λ_=>True):=HO.ret trivial
theorem Xd{w:ah}{l:aM}(h:w.size<=B):HO B (Go.Proofs.YthhiffpfleacaaaGreatDoor.ret (w,l)) (λp=>p.1.size<=B):=HO.ret h
theorem HO.out{Q:α->Prop}:HO B (SJ:j α) Q:=λ_ _ _ _ e=>by cases e
theorem HO.fail{p e:Int}{Q:α->Prop}:HO B (ahj p e:j α) Q:=λ_ _ _ _ e=>by cases e
theorem HO.get:HO B fd (A1 B):=λ_ _ _ a e=>by cases e;exact⟨a,a⟩
theorem HO.set{t:ap}(h:A1 B t):HO B (jU t) (λ_=>True):=λ_ _ _ _ e=>by cases e;exact⟨ai,h⟩
theorem HO.step:HO B fh (λ_=>True):=λ_ _ _ a e=>by cases e;exact⟨ai,a⟩
theorem HO.node(h:x.op.size<=B):HO B (dX x) (λ_=>True):=λs _ _ b e=>by
 cases e;refine⟨ai,λy a=>?_⟩;rcases List.mem_append.1 a with a|a;exact b y a;rw[List.mem_singleton.1 a];exact h
theorem HO.ga(h:x.op.size<=B):HO B (cj x) (λ_=>True):=HO.bind (HO.node h) λ_ _=>HO.ret trivial
theorem HO.one{m:j (aM)}(h:HO B m (λ_=>True)):HO B (Go.Proofs.YthhiffpfleacaaaGreatDoor.one m) (λ_=>True):=HO.bind h λ_ _=>HO.ret trivial
theorem HO.e_{Q:α->Prop}:HO B (ju L ae:j α) Q:=λ_ _ _ _ e=>by cases e
theorem HO.is{a:Nat}:HO B (jM L a t) (λ_=>True):=λ_ _ _ b e=>by cases e;exact⟨ai,b⟩
theorem HO.au:HO B (fz k) (λ_=>True):=λ_ _ _ a e=>by cases e;exact⟨ai,a⟩
theorem HO.cK:HO B (cT L t) (λ_=>True):=by
 intro s a u b e;unfold cT at e;revert e;cases K L s 0 t <;> (intro e;cases e;exact⟨ai,b⟩)
theorem HO.cC:HO B (cu L ae t) (λ_=>True):=by
 intro s a u b e;unfold cu at e;revert e;cases K L s 0 t <;> (intro e;cases e;try exact⟨ai,b⟩)
theorem HO.oS:HO B (mD k b) (λ_=>True):=by
 intro s p u a e;unfold mD at e;grind
theorem HO.Av:HO B (eh L ae) (λ_=>True):=by
 intro s p u a e;unfold eh at e;revert e;cases K L s 0 dt;grind;intro e;cases e;exact⟨ai,a⟩
structure u5(B:Nat)(L:List a8)(aO:Nat->ah)(wide:ah->ah):Prop where
 l:∀x∈L,x.aJ.size<=B
 w:∀x∈L,(wide x.aJ).size<=B
 n:∀n,(wide (aO n)).size<=B
theorem u5.get(h:u5 B L aO wide)(i:Nat):(((L[i]?).map a8.aJ).getD ByteArray.empty).size<=B:=by
 cases e:L[i]? with
 |none=>exact b7 _
 |some x=>exact h.l x (iz e)
theorem u5.aJ(h:u5 B L aO wide)(s:ap):(I L ae s).aJ.size<=B:=by
 unfold I;cases e:L[s.i]? with
 |none=>exact b7 _
 |some x=>exact h.l x (iz e)
theorem HO.cE(h:u5 B L aO wide):HO B (gk L ae) (λx=>x.aJ.size<=B):=λs _ _ a e=>by cases e;exact⟨h.aJ s,a⟩
theorem HO.word(h:u5 B L aO wide):HO B (iM L ae) (λx=>x.size<=B):=by
 intro s p u a e;unfold iM at e;revert e;cases (I L ae s).ak !=1 <;> (intro e;cases e;try exact⟨h.aJ s,a⟩)
theorem HO.empty(h:u5 B L aO wide):HO B (kF L ae) (λ_=>True):=HO.bind (HO.cE h) λ_ _=>HO.node (b7 _)
theorem HO.key(h:u5 B L aO wide):HO B (ec L ae aO wide) (λ_=>True):=by
 intro s p u f e;unfold ec at e;dsimp only at e;unfold I at e;revert e;cases g:L[s.i]? with
 |none=>intro e;cases e
 |some x=>
  have b:=iz g;dsimp only[Option.getD_some];have key:∀{y:aR}{a:ap},a.a=s.a->y.op.size<=B->dX y a= .ok p u->True/\A1 B u:=λ{y a}e1 c d=>HO.node c a _ _ (by unfold A1;rw[e1];exact f) d;cases x.ak==1||x.ak==2;cases x.ak==3;cases x.ak==4;simp[*];exact key rfl (h.l x b);exact key rfl (h.n _);exact key rfl (h.w x b)
def aj.sh(B:Nat):aj->Prop
 | .simple x=>x.aJ.size<=B
 |_=>True
set_option maxHeartbeats 4000000 in
theorem Xm(h:u5 B L aO wide):∀(f:Nat)(a:aj),a.sh B->HO B (P L ae aO wide f a) (λ_=>True):=by
 intro f
 induction f with
 |zero=>intro a _;rw[P];exact HO.out
 |succ f b=>
  intro a c;cases a <;> rw[P]
  all_goals
   repeat (first
    |exact b _ trivial
    |exact b _ (by assumption)
    |exact Xd (by assumption)
    |exact Xd (b7 _)
    |exact acr
    |exact HO.ret (b7 _)
    |exact HO.get
    |exact HO.set (by assumption)
    |exact HO.step
    |exact HO.node (b7 _)
    |exact HO.node (by assumption)
    |exact HO.e_ (Q:=λ_=>True)
    |exact HO.e_
    |exact HO.cK
    |exact HO.cC
    |exact HO.is
    |exact HO.cE h
    |exact HO.au
    |exact HO.oS
    |exact HO.word h
    |exact HO.Av
    |exact HO.key h
    |exact HO.empty h
    |exact HO.ga (b7 _)
    |exact HO.ga (by assumption)
    |exact HO.ga (h.get _)
    |exact HO.fail (Q:=λ_=>True)
    |exact HO.fail
    |apply HO.one
    |apply HO.bind
    |apply HO.bif
    |with_reducible intro _)
end
end
section
structure Dp(ns:List aR):Prop where
 om:nH ns
 aV:∀d∈ns,d.op.size<=16384
def abB{ae:Int}{t:ap}{k:Int}(h:bM ae t [k])(a:t.a.length<=4096):nH t.a:=by
 have b:=h.gK (List.mem_singleton.2 rfl);have c:=anv h;refine⟨O,a, ?_,h.b⟩;have:=h.rn;grind
def abd{K:bD}{s:ah}(tY:∀n,(K.tv n).size<=4001)(c:¬p0 K s)(hs:s.size<=1017):u5 16384 (cA K s).1 K.tv bo:=by
 obtain⟨d,e,b,f⟩:=pe.Ek c;refine⟨λx a=>?_,λx a=>?_,λn=>?_⟩;have:=(b x a).2.2;omega;have:=(b x a).2.2;have:=WS x.aJ;omega;have:=tY n;have:=WS (K.tv n);omega
def aae:A1 16384 dE:=λx a=>by cases a
section
variable{K:bD}(hK:pe K)(tY:∀n,(K.tv n).size<=4001){s:ah}(hs:s.size<=1017)
include hK tY hs
theorem RQ(h:(cf ci K s (cz K s)).2.2=0):Dp (cf ci K s (cz K s)).1:=by
 obtain⟨d,t,j,l,q,m⟩:=SV (λp t=>YN _ p t) K8 h;have n:=hK.L3 d;obtain⟨r,b,e1,f⟩:=Ru (show ps (cA K s).1 s.size K.tv bo (cz K s) m8= .ok () t from j);have a:(bif decide (b.i<(cA K s).1.length) then ju (cA K s).1 s.size else ret ()) b=PR.ok () t:=f;have g:t=b:=by
  cases e:decide (b.i<(cA K s).1.length)with
  |true=>rw[e]at a;cases a
  |false=>rw[e]at a;cases a;rfl
 have c:=JE (aO:=K.tv) (wide:=bo) n.dW (cz K s) .bf m8 [] trivial ⟨List.Perm.refl _,List.Pairwise.nil,λi x h=>by simp[m8]at h,λx h=>by simp[m8]at h⟩;have o:=(Xm (abd tY d hs) (cz K s) .bf trivial m8 r b aae e1).2;unfold WP at c;rw[show P (jH K s).L (jH K s).ae K.tv bo (cz K s) .bf m8= .ok r b from e1]at c;obtain⟨k,rfl⟩:=c.2 rfl;rw[m];subst g;exact⟨abB c.1 l,o⟩
theorem amo(h:(cf cU K s (cz K s)).2.2=0)(a:∀p t,cU K (jH K s) (cz K s) dE≠.stop p 0 t):Dp (cf cU K s (cz K s)).1:=by
 obtain⟨d,t,g,i,o,j⟩:=SV a aaB h;have m:=hK.L3 d;obtain⟨r,c,e1,e⟩:=Ru (show(P (cA K s).1 s.size K.tv bo (cz K s) (.prog [])>>=λ_=>ret ()) dE= .ok () t from g);have f:t=c:=by cases e;rfl
 have b:=amn (aO:=K.tv) (wide:=bo) m.dW (cz K s);have n:=(Xm (abd tY d hs) (cz K s) (.prog []) trivial dE r c aae e1).2;unfold WP at b;rw[show P (jH K s).L (jH K s).ae K.tv bo (cz K s) (.prog []) ⟨0,[],0,0,0⟩= .ok r c from e1]at b;obtain⟨k,l⟩:=b;rw[j];subst f;exact⟨abB l i,n⟩
end
section
variable{K:bD}{ns:List aR}
theorem aij(n:Nat):oL (n+1)=oL n++[(n:Int)]:=by
 unfold oL;rw[List.range_succ,List.map_append];rfl
variable{d:aR}{i:Nat}
theorem Jv(h:nH ns)(C:Nat)(a:ns[i]?=some d):wt (S ns) C i=C+et (wt (S ns) C) d.b:=by
 have:=apV (T:=S ns) (C:=C) (i:=i) (by rw[mY a];exact λk U=>h.gK a k U);rw[mY a]at this;omega
theorem ab3(h:nH ns)(C:Nat):∀m,m<=ns.length->et (wt (S ns) C) (oL m)=m*C+et (wt (S ns) C) ((ns.take m).flatMap (·.b))
 |0,_=>by rw[List.take_zero,Nat.zero_mul] <;> rfl
 |m+1,b=>by
  obtain⟨d,a⟩:∃d,ns[m]?=some d:=⟨_,da O⟩;rw[aij,Je,ab3 h C m O,WN a,Je];have:et (wt (S ns) C) [(m:Int)]=wt (S ns) C m:=by unfold et;simp
  rw[this,Jv h C a,Nat.add_mul];omega
theorem apX(h:nH ns)(C:Nat):wt (S ns) C (ns.length-1)=ns.length*C:=by
 have a:=ab3 h C ns.length (bK _);rw[List.take_length,<-aoM h.rn,Je]at a;have:et (wt (S ns) C) [((ns.length-1:Nat):Int)]=wt (S ns) C (ns.length-1):=by rfl
 omega
theorem apW(h:nH ns)(C:Nat):∀(j i:Nat),i+j+1=ns.length->wt (S ns) C i<=ns.length*C:=by
 intro j
 induction j using Nat.strongRecOn with
 |ind j c=>
  intro i l;by_cases m:j=0;have:=apX h C;grind;have k:=h.Yu (j:=i) O;have b:(i:Int)∈ns.flatMap (·.b):=List.count_pos_iff.1 O;obtain⟨d,a,U⟩:=List.mem_flatMap.1 b;obtain⟨p,hp,rfl⟩:=List.getElem_of_mem a;have a:ns[p]?=some ns[p]:=da hp;have n:=h.gK a _ U;have g:=c (ns.length-1-p) O p O;have e:=Jv h C a;have:=abq (w:=wt (S ns) C) U;grind
theorem WB(h:ti (S ns) ns.length=true)(a:ns[i]?=some d):df (S ns) d=true:=by
 have h:=List.all_eq_true.1 ((Bool.and_eq_true_iff.1 h).2) i (List.mem_range.2 (ic.1 a).1);rw[mY a]at h;exact h
theorem abx(b:Dp ns)(tY:∀n,(K.tv n).size<=4001)(hs:ti (S ns) ns.length=true):∀m i,i<ns.length->(aP K.tv (S ns) m i).size<=wt (S ns) 100000 i/\(iw (S ns) (aP K.tv (S ns) m) i).size<=wt (S ns) 100000 i:=by
 have o:∀m,(∀i,i<ns.length->(aP K.tv (S ns) m i).size<=wt (S ns) 100000 i)->∀i,i<ns.length->(iw (S ns) (aP K.tv (S ns) m) i).size<=wt (S ns) 100000 i:=by
  intro m g i c;obtain⟨d,a⟩:∃d,ns[i]?=some d:=⟨_,da c⟩;have f:=mY a;have e:=Jv b.om 100000 a;have r:=b.om.gK a;unfold iw;rw[f];cases s:d.ak==36 with
  |true=>exact b7 _
  |false=>
  cases v:d.ak==21 with
  |true=>
   show(AI++ff _ _ cX).size<=_;have A:=ub (t:=aP K.tv (S ns) m) d.b cX;have B:md (aP K.tv (S ns) m) d.b<=et (wt (S ns) 100000) d.b:=F2 λk U=>g _ (by grind);have C:cX.size*d.b.length<=2*4096:=Nat.mul_le_mul (bK 2) (b.om.Hf (iz a));have D:AI.size=4:=rfl;grind
  |false=>
  cases p:d.ak==20 with
  |true=>
   show(xw _).size<=_;rw[L4];have q:=WB hs a;simp[df,dx,eq_of_beq p]at q;obtain⟨k,U,l⟩:=Zo (d:=d) (j:=0) O;have:=abq (w:=wt (S ns) 100000) U;have x:=g k.toNat (by grind);rw[show kd ⟨d.ak,d.op,d.aT,d.b,0⟩ 0=k.toNat from l.symm];omega
  |false=>exact g i c
 have y:∀m i,i<ns.length->(aP K.tv (S ns) m i).size<=wt (S ns) 100000 i:=by
  intro m
  induction m with
  |zero=>intro i _;exact b7 _
  |succ m h=>
   intro i c;obtain⟨d,a⟩:∃d,ns[i]?=some d:=⟨_,da c⟩;have f:=mY a;have e:=Jv b.om 100000 a;have r:=b.om.gK a;have z:=akn (tv:=K.tv) (T:=S ns) (t:=aP K.tv (S ns) m) (u:=wt (S ns) 100000) (d:=d) (WB hs a) ⟨λk U=>h _ (by grind),λk U=>o m h _ (by grind)⟩ (b.om.Hf (iz a)) (b.aV d (iz a)) (λn=>gi (tY n) (by decide));rw[e];show(xu _ _ _ (S ns i)).size<=_;rw[f,Z2];exact z
 grind
theorem aky(hK:pe K)(a:Dp ns)(tY:∀n,(K.tv n).size<=4001)(hs:ti (S ns) ns.length=true):mS K ns:=by
 have l:ns.length*100000<=4096*100000:=Nat.mul_le_mul a.om.He (bK _);have f:∀i,i<ns.length->wt (S ns) 100000 i<=4398046511104:=λi c=>by{have:=apW a.om 100000 (ns.length-1-i) i O;omega};refine⟨hK.Jp,a.om.He,λi d b=>⟨a.om.Hf (iz b),a.om.gK b,WB hs b,a.aV d (iz b)⟩,λm i=>?_,λm i d b=>?_,λn=>gi (tY n) (by decide)⟩;by_cases c:i<ns.length;exact gi (abx a tY hs m i c).1 (f i c);have g:S ns i=⟨0,.empty,0,[],0⟩:=by unfold S;rw[oH O]
 cases m with
 |zero=>exact b7 _
 |succ m=>
  show(xu _ _ _ (S ns i)).size<=_;rw[g];exact b7 _
 have c:=(ic.1 b).1;have e:=Jv a.om 100000 b;have j:=a.om.gK b;have h:=f i c;have o:md (aP K.tv (S ns) m) d.b<=et (wt (S ns) 100000) d.b:=F2 λk U=>(abx a tY hs m _ (by grind)).1;omega
end
end
structure wK where
 K:bD
 ns:List aR
 a:bv
 ca:Nat
def uE(a:List aR):bD->bY->Nat->j ax:=bif jL (S a (a.length-1)).ak then ci else cU
def zx(K:bD)(a:List aR):ah:=aP K.tv (S a) a.length (a.length-1)
def EA(K:bD)(a:List aR):List aR×Int×Int:=cf (uE a) K (zx K a) (cz K (zx K a))
def jO(K:bD)(a:List aR):ah×Int:=
 bif !ti (S a) a.length then (⟨#[]⟩,1)
 else bif decide (((zx K a).size:Int)>8192) then (⟨#[]⟩,2)
 else bif (EA K a).2.2 !=0 then (⟨#[]⟩,1)
 else bif !uF a (EA K a).1 then (⟨#[]⟩,1)
 else (zx K a,0)
def amk{K:bD}{b a:List aR}(h:Gv b a):jO K a=jO K b:=by
 unfold jO EA zx uE uF;rw[afl h,h.len]
structure Xq(x:wK):Prop where
 K:pe x.K
 tv:∀n,(x.K.tv n).size<=4001
 g:Dp x.ns
abbrev pI:aF where
 X:=wK
 args x:=[.agg #[.slice x.a x.ns.length x.ca]]
 cond x:=Xq x
 aE x F:=fK x.K x.ns x.a F/\hU F
 val x _:=.returned (.tuple #[.string (jO x.K x.ns).1,.int .i64 (jO x.K x.ns).2])
def ame(x:wK)(a:ag):List (Nat×Nat×OH):=[(0,0,.n 10),(1,0,z 10),(1,1,aI tj),(3,0,z 10),(3,2,.n 4020),(3,3,.w [.aS 4020]),(4,1,z 10),(5,0,z 4020),(5,2,aI (d9 x.ns.length)),(9,1,z 10),(9,3,.qo (dy 5)),(9,4,.q (BB 0)),(9,5,aI ww),(11,2,.c (oj (uE x.ns)) [] [21,22]),(11,7,.n 12070),(11,8,.w [.aS 12070]),(12,3,z 10),(12,4,z 12070),(12,5,aI FX)]
abbrev vI(x:wK):aN:=[Q x.a x.ns.length x.ca]
abbrev NE:=al (tuple ⟨[C ⟨#[]⟩,Z 1]⟩)
abbrev Io(F:ag)(u:Nat)(x:wK)(r:Nat):=[(0,F),(10,D u (vI x) 25),(4020,D r (vI x) 45)]
abbrev TW(x:wK):qO->fT->Prop:=λe d=>d.ok (cf (uE x.ns) e.K e.af (cz e.K e.af)).fst/\mi (cf (uE x.ns) e.K e.af (cz e.K e.af)).fst d.vs
abbrev Ib(F:ag)(u:Nat)(x:wK)(d:fT)(e:qO)(r c:Nat):=[(0,F),(10,D u (vI x) 25),(21,d.r.A),(22,fN (Kf.rest (cf (uE x.ns) e.K e.af (cz e.K e.af)).fst d.vs)),(4020,D r (vI x) 45),(12070,D c (km d) 25)]
def XJ:=bz 15 FX (λa=>(a.ns.length<=1048576/\∀(b:aR),b∈a.ns->b.b.length<=1048576)) (λa c=>mj a.ns a.a c/\mj a.ms a.b c)
abbrev Wc(x:wK)(F:ag)(u r:Nat)(q:tO):qO->fT->Prop:=λe d=>∀(c:Nat),V c 0/\Br ((cf (uE x.ns) e.K e.af (cz e.K e.af)).snd.snd !=0) (l pI x F NE (Ib F u x d e r c)) (V u 0/\V c 0/\XJ [agg ⟨vI x⟩,agg ⟨km d⟩] (g (Ib F u x d e r c) []) (λb a=>Br (!uF b.ns b.ms) (l pI x F NE (Ib F u x d e r c)) (l pI x F (al (tuple ⟨[C (aP q.K.tv (S q.ns) x.ns.length q.i),Z 0]⟩)) (Ib F u x d e r c))))
def amf(x:wK)(F:ag)(hc:pI.cond x)(J:pI.aE x F):∀(u:Nat),V u 0/\bz 12 tj (λt=>nH t.ns) (λt H=>mj t.ns t.a H) [agg ⟨vI x⟩] (g [(0,F),(10,D u (vI x) 25)] []) (λt s=>Br (!ti (S t.ns) t.ns.length) (l pI x F NE [(0,F),(10,D u (vI x) 25)]) (V u 0/\∀(r:Nat),V r 0/\V u 0/\aA ((x.ns.length:Int)-1)/\V r 0/\bz 13 (d9 x.ns.length) (λq=>mS q.K q.ns/\q.i<x.ns.length/\q.i<q.ns.length) (λq H=>fK q.K q.ns q.a H) [agg ⟨vI x⟩,Z ((x.ns.length:Int)-1)] (g (Io F u x r) []) (λq p=>aK ((↑(aP q.K.tv (S q.ns) x.ns.length q.i).size:Int)>8192) (l pI x F (al (tuple ⟨[C ⟨#[]⟩,Z 2]⟩)) (Io F u x r)) (V u 0/\fV (aL f6 9 3) [Q x.a x.ns.length x.ca,Z ((x.ns.length:Int)-1)] (λo=>T1 F ⟨o.b,o.o+o.n.toNat*5,none⟩ (λn=>T2 F ⟨o.b,o.o+o.n.toNat*5+1,none⟩ (λm=>lO F ⟨o.b,o.o+o.n.toNat*5+2,none⟩ (λv=>dN F ⟨o.b,o.o+o.n.toNat*5+3,none⟩ (λk j i=>T1 F ⟨o.b,o.o+o.n.toNat*5+4,none⟩ (λh=>DF [agg ⟨lY n m v k j i h⟩] (λz f=>Br (!jL z.d.ak) (dP 7 (oj (uE x.ns)) (λe=>pe e.K) (λe H=>eu e.K H/\hU H) (TW x) [C (aP q.K.tv (S q.ns) x.ns.length q.i)] ([]:List ag) (g (Io F u x r) []) (Wc x F u r q)) (dP 5 (oj (uE x.ns)) (λe=>pe e.K) (λe H=>eu e.K H/\hU H) (TW x) [C (aP q.K.tv (S q.ns) x.ns.length q.i)] ([]:List ag) (g (Io F u x r) []) (Wc x F u r q))))))))))))):=by
 delta vI NE Io fV T1 T2 lO dN DF lY TW km Ib XJ Wc g V aA fv bz dP Z C Q D fN aK al;obtain⟨K,B,a,ca⟩:=x;obtain⟨N,M,I⟩:=hc;obtain⟨J,hp⟩:=J;dsimp only at N M I J hp⊢;have h1:=I.om.one;have h4:=I.om.He;obtain⟨d,P⟩:∃d,B[B.length-1]?=some d:=⟨_,da O⟩;obtain⟨rb,k,c,e,hs,h2,v0,v1,v2,v3,v4,W⟩:=J.nd.h (B.length-1) d P;have G:∀{A:St},gt A 0=F->fK K B a (.cJ (rest A [])):=λe=>J.sub (jk 0 X e);have U:∀{A:St},gt A 0=F->hU (.cJ (rest A [])):=λe=>hp.sub (jk 0 X e);obtain⟨w,hw⟩:∃w,jO K B=w:=⟨_,rfl⟩;have val:∀s e,(s,e)=w->returned (tuple #[.string s,.int .i64 e])=pI.val ⟨K,B,a,ca⟩ ():=λs e h=>by{show _=returned (tuple #[.string (jO K B).1,.int .i64 (jO K B).2]);grind};have E:=hw;unfold jO at E;have e1:(B.length:Int)-1=((B.length-1:Nat):Int):=O;rw[e1];intro b;refine⟨Y,aoj,rfl,⟨B,a,ca⟩,rfl,rfl,I.om,(G rfl).nd,λ_ _=>ar (λq=>?_) (λq=>?_)⟩ <;> rw[q]at E;exact⟨(),ai,val _ _ E,ao [0]⟩;have R:ti (S B) B.length=true:=by revert q;dsimp only;cases ti (S B) B.length <;> decide
 have hO:=aky N I M R;refine⟨Y,λb1=>⟨Y,Y,aC,Y,wl (aaF B.length) hO O O (G rfl) (ar (λq2=>?_) (λq2=>?_))⟩⟩ <;> (replace q2:decide (((zx K B).size:Int)>8192)=_:=q2;rw[q2]at E);exact⟨(),ai,val _ _ E,ao [0]⟩;have L:uE B=bif jL d.ak then ci else cU:=by unfold uE;rw[mY P]
 refine⟨Y,bZ 5 rfl rfl rfl rfl,⟨rb,0,B.length,ca,(B.length-1:Nat)⟩,by rw[e],⟨by simp[*],by grind⟩,d.ak,v0,d.op,v1,d.aT,v2,k,_,c,v3,d.au,v4,WW,rfl,⟨d,k,c⟩,rfl,rfl,ai,ai,λ_ _=>ar (λz=>ba (?_) ⟨K,zx K B⟩ N ⟨(G rfl).gl,U rfl⟩ (?_)) (λz=>ba (?_) ⟨K,zx K B⟩ N ⟨(G rfl).gl,U rfl⟩ (?_))⟩;rw[L,show jL d.ak=false by revert z;dsimp only;cases jL d.ak <;> decide];exact abz;rotate_left;rw[L,show jL d.ak=true by revert z;dsimp only;cases jL d.ak <;> decide];exact Pa
 all_goals
  intro y T b3;refine⟨Y,ar (λq3=>?_) (λq3=>?_)⟩ <;> (replace q3:((EA K B).2.2 !=0)=_:=q3;rw[q3]at E);exact⟨(),ai,val _ _ E,ao [0]⟩;refine⟨Y,Y,aot,rfl,⟨B,(EA K B).1,a,ca,y.r.a,y.r.aq⟩,by rw[T.1.len] <;> rfl,rfl,⟨by grind,λd P=>gi (I.om.Hf P) (by decide)⟩,⟨(G rfl).nd,Hv T.1 T.2 (bB 21) (bB 22)⟩,λ_ _=>ar (λq4=>?_) (λq4=>?_)⟩ <;> (replace q4:(!uF B (EA K B).1)=_:=q4;rw[q4]at E);exact⟨(),ai,val _ _ E,ao [0]⟩;exact⟨(),ai,val _ _ E,ao [0]⟩
def HJ:aG 6 pI:=iB func6 ame amf
section
def CX:ah:=⟨#[32,40,32,47,42,32,97,32,42,47]⟩
def CY:ah:=⟨#[9,41,32]⟩
def kY(s:ah):ah:=((⟨#[32,40,32,47,42,32,97,32,42,47,10,40]⟩:ah)++s)++⟨#[10,41,9,41,32]⟩
def I9(s:ah):(kY s).data.toList=CX.data.toList++(10::40::(s.data.toList++(10::41::CY.data.toList))):=by
 rfl
def WG(s:ah):(kY s).size=s.size+17:=by
 have:=congrArg List.length (I9 s);rw[qa,eH,kI,kI,eH,kI,kI,qa,qa,qa]at this;have e1:CX.size=10:=rfl;have a:CY.size=3:=rfl;omega
def aoB(s:ah):L (kY s) 10=10/\L (kY s) 11=40/\L (kY s) (s.size+12)=10/\L (kY s) (s.size+13)=41:=by
 have h:∀k,L (kY s) (s.size+12+k)=((((10::41::CY.data.toList:List UInt8))[k]?).map UInt8.toNat).getD 0:=λk=>by{rw[KV,I9,lQ (by rw[qa];show 10<=_;omega),qa,show s.size+12+k-CX.size=s.size+k+2 by show _-10=_;omega,List.getElem?_cons_succ,List.getElem?_cons_succ,lQ (by simp[*]),qa,Nat.add_sub_cancel_left]};refine⟨?_, ?_,h 0,h 1⟩;rfl;rfl
variable{s:ah}{K:bD}
theorem aoC(h:(cA K s).2<0):(cA K (kY s)).2= -1/\Rm (cA K s).1 (cA K (kY s)).1 2:=by
 have v:c8 CX (kY s) 0:=⟨[],_,I9 s,rfl,.inr ⟨_,rfl⟩⟩;have x:c8 s (kY s) 12:=⟨CX.data.toList++[10,40],10::41::CY.data.toList,by rw[I9,jJ] <;> rfl,rfl,.inr ⟨_,rfl⟩⟩;have z:c8 CY (kY s) (s.size+14):=⟨CX.data.toList++(10::40::(s.data.toList++[10,41])),[],by rw[I9];simp,by simp[qa];show 10+_=_;omega,.inl rfl⟩;obtain⟨A,g,B,j⟩:=aoB s;have I:=WG s;generalize H:kY s=w at*;obtain⟨r,e⟩:=ajf (s:=s) h;obtain⟨x1,o,a,p,t,d⟩:=v.Ek (v.aT K) (CX.size+1) (w.size+1) 0 false [] [⟨5,lp,0,1,false⟩] (b7 _) O bg;rw[List.nil_append]at p;subst p;have d:kh (iV K w) w (w.size+1) 0 false []=kh (iV K w) w a 10 o [⟨5,lp,0,1,false⟩]:=d [];have t:w.size-10<a:=t;obtain⟨a,rfl⟩:∃k,a=k+1:=⟨a-1,O⟩;rw[Zx ZJ (Yf ZJ (l:=o) O A g) O g]at d;obtain⟨x2,E,c,q1,q2,q3⟩:=x.Ek (x.aT K) (s.size+1) a 0 false [] r (b7 _) O e;rw[List.nil_append]at q1;subst q1;have q3:=q3 ([⟨5,lp,0,1,false⟩]++[⟨5,lp,0,((11:Nat):Int),true⟩]);rw[gZ]at q3;obtain⟨c,rfl⟩:∃k,c=k+1:=⟨c-1,O⟩;rw[Zx ZK (Yf ZK (l:=E) O B j) O j]at q3;obtain⟨x3,J,f,u,L,b⟩:=z.Ek (z.aT K) (CY.size+1) c 0 false [] [⟨5,rp,0,1,false⟩] (b7 _) O bg;rw[List.nil_append]at u;subst u;have b:=b ([⟨5,lp,0,1,false⟩]++[⟨5,lp,0,((11:Nat):Int),true⟩]++r.map (a8.mv 12)++[⟨5,rp,0,((s.size+12+1:Nat):Int),true⟩]);rw[gZ,show CY.size+(s.size+14)=w.size by show 3+_=_;omega]at b;obtain⟨f,rfl⟩:∃k,f=k+1:=⟨f-1,O⟩;rw[aje]at b;have D:cA K w=(([⟨5,lp,0,1,false⟩]++[⟨5,lp,0,((11:Nat):Int),true⟩]++r.map (a8.mv 12)++[⟨5,rp,0,((s.size+12+1:Nat):Int),true⟩])++[(⟨5,rp,0,1,false⟩:a8)].map (a8.mv (s.size+14)),-1):=by{unfold cA xj;exact d.trans (q3.trans b)};have C:(cA K s).1=r:=by unfold cA;rw[e]
 rw[D,C];have lr:(r.map (a8.mv 12)).length=r.length:=List.length_map _;refine⟨rfl,by simp;omega,λi m=>?_,λi m=>?_,λi F G=>?_⟩;rcases(by omega:i=0\/i=1)with rfl|rfl;exact⟨_,rfl,rfl,rfl⟩;exact⟨_,rfl,rfl,rfl⟩;obtain⟨y,n⟩:∃y,r[i]?=some y:=⟨_,da m⟩;refine⟨y,y.mv 12,n, ?_,rfl,rfl,rfl,rfl⟩;dsimp only;rw[jJ,jJ,lQ (by show 2<=_;omega),show i+2-([⟨5,lp,0,1,false⟩]++[⟨5,lp,0,((11:Nat):Int),true⟩]:List a8).length=i from rfl,m5 O];exact ajX n;dsimp only;rw[jJ,lQ (by rw[eH,lr];show 2+_<=_;omega),eH,lr];rcases(by omega:i=2+r.length\/i=2+r.length+1)with rfl|rfl;exact⟨_,by rw[show 2+r.length-(([⟨5,lp,0,1,false⟩]++[⟨5,lp,0,((11:Nat):Int),true⟩]:List a8).length+r.length)=0 by show 2+_-(2+_)=0;omega] <;> rfl,rfl,λ_=>rfl,rfl⟩;exact⟨_,by rw[show 2+r.length+1-(([⟨5,lp,0,1,false⟩]++[⟨5,lp,0,((11:Nat):Int),true⟩]:List a8).length+r.length)=1 by show 2+_+1-(2+_)=1;omega] <;> rfl,rfl,λq=>absurd q O,rfl⟩
theorem aoE(hs:s.size<=1500)(h:(cf ci K s (cz K s)).2.2=0):
  (cf ci K (kY s) (cz K (kY s))).2.2=0/\Gv (cf ci K s (cz K s)).1 (cf ci K (kY s) (cz K (kY s))).1:=by
 obtain⟨j,t,d,f,g,i⟩:=SV (λp t=>YN _ p t) K8 h;have k:=aoC (K:=K) (s:=s) (ajg j);have n:=WG s;generalize kY s=w at*;obtain⟨o,m⟩:=k;have a:¬p0 K w:=by{rintro(e|e);all_goals omega};obtain⟨F,u,l,b⟩:=m.Hh (y_:=w.size) (show ps (cA K s).1 s.size K.tv bo (cz K s) m8= .ok () t from d);have c:ci K (jH K w) (cz K w) dE= .ok () u:=ag5 l K8;rw[amQ a c (by rw[b.len];exact f) (by rw[anS b];exact g),i];simp[*]
end
def sJ:ah:=⟨#[49,43,50,42,45,97]⟩
def sK:ah:=⟨#[105,102,40,97,41,98,59,101,108,115,101,123,125]⟩
def HL:List aR:=[⟨3,⟨#[105,102]⟩,0,[],0⟩]
structure AwP(K:bD):Prop where
 e1:(cf ci K sJ (cz K sJ)).2.2=0
 p1:jO K (cf ci K sJ (cz K sJ)).1=(⟨#[49,32,43,32,40,50,32,42,32,40,45,97,41,41]⟩,0)
 e2:(cf cU K sK (cz K sK)).2.2=0
 p2:jO K (cf cU K sK (cz K sK)).1=(⟨#[105,102,32,40,97,41,32,98,59,10,101,108,115,101,32,123,10,125,10]⟩,0)
 p3:jO K HL=(⟨#[]⟩,1)
def amW:Dp HL:=⟨⟨bK 1,by decide,List.Perm.refl _,λi d h=>by
 rcases i with _|i;cases h;exact⟨List.Pairwise.nil,λk U=>by cases U⟩;cases h⟩,λd a=>by rw[List.mem_singleton.1 a];decide⟩
def aml{K:bD}{s:ah}{n:Nat}:∀p t,cU K (jH K s) n dE≠.stop p 0 t:=λp t e=>by
 have h:=Xo (L:=(cA K s).1) (ae:=s.size) (aO:=K.tv) (wide:=bo) (s:=dE) (f:=n) (tag:=.prog []) (b7 _) trivial p;have b:bP (P (cA K s).1 s.size K.tv bo n (.prog [])) (λ_=>ret ()) dE= .stop p 0 t:=e;unfold bP at b;revert h b;cases P (cA K s).1 s.size K.tv bo n (.prog []) dE with
 |ok a u=>intro _ e;cases e
 |stop q r u=>intro h e;cases e;exact h _ rfl
 |out=>intro _ e;cases e
def amX{b:Nat}{F:ag}(h:Sub (.cells b [.int .i64 3,.string ⟨#[105,102]⟩,.float .f64 0,.slice none 0 0,.int .i64 0] 35) F):mj HL (some ⟨b,0,none⟩) F:=⟨λi d a=>by
 rcases i with _|i;cases a;exact⟨b,none,0,rfl,.nil rfl,(λc e=>by cases e),aH.sub h (aH.cells rfl),aH.sub h (aH.cells rfl),aH.sub h (aH.cells rfl),aH.sub h (aH.cells rfl),aH.sub h (aH.cells rfl),bK _⟩;cases a⟩
structure Xp where
 K:bD
structure JI(K:bD):Prop where
 ok:pe K
 tv:∀n,(K.tv n).size<=4001
 aw:AwP K
abbrev sH:aF where
 X:=Xp
 args _:=[]
 cond x:=JI x.K
 aE x F:=eu x.K F/\hU F
 val _ _:=al (H true)
def GJ:=dP 5 (oj ci) (λa=>pe a.K) (λa b=>eu a.K b/\hU b) (λa c=>c.ok (cf ci a.K a.af (cz a.K a.af)).fst/\mi (cf ci a.K a.af (cz a.K a.af)).fst c.vs)
def Bd:=bz 6 pI Xq (λa b=>fK a.K a.ns a.a b/\hU b)
abbrev UA(F:ag)(l:fT)(m:qO)(k:Nat):=g [(0,F),(11,l.r.A),(12,fN (Kf.rest (cf ci m.K m.af (cz m.K m.af)).fst l.vs)),(2050,D k (km l) 25)] []
abbrev xz(F:ag)(l:fT)(m:qO)(g:fT)(h:qO)(k f c:Nat):=[(0,F),(11,l.r.A),(12,fN (Kf.rest (cf ci m.K m.af (cz m.K m.af)).fst l.vs)),(31,g.r.A),(32,fN (Kf.rest (cf cU h.K h.af (cz h.K h.af)).fst g.vs)),(2050,D k (km l) 25),(4050,D f (km g) 25),(6010,D c [Z 3,C ⟨#[105,102]⟩,float f64 0,Q none 0 0,Z 0] 35)]
def akT(x:Xp)(F:ag)(L:sH.cond x)(M:sH.aE x F):GJ [C ⟨#[49,43,50,42,45,97]⟩] ([]:List ag) (cO F) (λm n=>∀(k:Nat),V k 0/\V k 0/\Bd [agg ⟨km n⟩] (UA F n m k) (λj i=>dP 7 (oj cU) (λh=>pe h.K) (λh A=>eu h.K A/\hU A) (λh o=>o.ok (cf cU h.K h.af (cz h.K h.af)).fst/\mi (cf cU h.K h.af (cz h.K h.af)).fst o.vs) [C ⟨#[105,102,40,97,41,98,59,101,108,115,101,123,125]⟩] ([]:List ag) (UA F n m k) (λh o=>∀(f:Nat),V f 0/\V f 0/\Bd [agg ⟨km o⟩] (g [(0,F),(11,n.r.A),(12,fN (Kf.rest (cf ci m.K m.af (cz m.K m.af)).fst n.vs)),(31,o.r.A),(32,fN (Kf.rest (cf cU h.K h.af (cz h.K h.af)).fst o.vs)),(2050,D k (km n) 25),(4050,D f (km o) 25)] []) (λe d=>∀(c:Nat),Bd [agg ⟨[Q (bq c) 1 1]⟩] (g (xz F n m o h k f c) []) (λb a=>Br ((cf ci m.K m.af (cz m.K m.af)).snd.snd==0) (Br ((jO j.K j.ns).snd==0) (Br ((cf cU h.K h.af (cz h.K h.af)).snd.snd==0) (Br ((jO e.K e.ns).snd==0) (Br ((jO b.K b.ns).snd==1) (Br ((jO j.K j.ns).fst.toList==(ByteArray.mk #[49,32,43,32,40,50,32,42,32,40,45,97,41,41]).toList) (l sH x F (al (H ((jO e.K e.ns).fst.toList==(ByteArray.mk #[105,102,32,40,97,41,32,98,59,10,101,108,115,101,32,123,10,125,10]).toList))) (xz F n m o h k f c)) (l sH x F cm (xz F n m o h k f c))) (l sH x F cm (xz F n m o h k f c))) (l sH x F cm (xz F n m o h k f c))) (l sH x F cm (xz F n m o h k f c))) (l sH x F cm (xz F n m o h k f c))) (l sH x F cm (xz F n m o h k f c))))))):=by
 delta GJ cO Bd km UA bq xz cM cm g V bz dP Z C H Q D fN al;obtain⟨K⟩:=x;obtain⟨t,r,⟨e1,N,z,O,P⟩⟩:=L;obtain⟨w,y⟩:=M;have p:∀{S:St}{q:a_},(0:Nat)∉q->gt S 0=F->eu K (.cJ (rest S q))/\hU (.cJ (rest S q)):=λh e=>⟨eu.sub w (jk 0 h e),hU.sub y (jk 0 h e)⟩;have I:=RQ t r (s:=sJ) (by decide) e1;have J:=amo t r (s:=sK) (by decide) z aml;refine ba Pa ⟨K,sJ⟩ t (p X rfl) λB u U=>⟨Y,Y, ?_⟩;dsimp only at u⊢;generalize cf ci K sJ (cz K sJ)=R at*;refine⟨HJ,rfl,⟨K,R.1,B.r.a,B.r.aq⟩,by rw[u.1.len],rfl,⟨t,r,I⟩,⟨⟨Hv u.1 u.2 (bB 11) (bB 12),(p X rfl).1⟩,(p X rfl).2⟩,λ_ _=>ba abz ⟨K,sK⟩ t (p X rfl) λE v W=>⟨Y,Y, ?_⟩⟩;dsimp only at v⊢;generalize cf cU K sK (cz K sK)=T at*;refine⟨HJ,rfl,⟨K,T.1,E.r.a,E.r.aq⟩,by rw[v.1.len],rfl,⟨t,r,J⟩,⟨⟨Hv v.1 v.2 (bB 31) (bB 32),(p X rfl).1⟩,(p X rfl).2⟩,λ_ _=>λG=>ba HJ ⟨K,HL,some ⟨G,0,none⟩,1⟩ ⟨t,r,amW⟩ ⟨⟨amX (bB 6010),(p X rfl).1⟩,(p X rfl).2⟩ λ_ _=>?_⟩;dsimp only;rw[e1,N,z,O,P];exact Bo rfl (Bo rfl (Bo rfl (Bo rfl (Bo rfl (Bo (beq_self_eq_true _) ⟨(),ai,congrArg (λb=>returned (bool b)) (beq_self_eq_true _),ao [0]⟩)))))
def akS:aG 4 sH:=cY func4 [(1,0,.c (oj ci) [] [11,12]),(1,5,.n 2050),(1,6,.w [.aS 2050]),(2,0,z 2050),(2,1,aI pI),(3,0,.c (oj cU) [] [31,32]),(3,5,.n 4050),(3,6,.w [.aS 4050]),(4,0,z 4050),(4,1,aI pI),(5,1,.n 6010),(5,3,aI pI)] akT
structure Xr where
 K:bD
 af:ah
abbrev zw:aF where
 X:=Xr
 args x:=[C x.af]
 cond x:=JI x.K
 aE x F:=eu x.K F/\hU F
 val _ _:=al (H true)
abbrev VK:ah:=ByteArray.mk #[32,40,32,47,42,32,97,32,42,47,10,40]
abbrev Ij(j:qO):=(cf ci j.K j.af (cz j.K j.af)).snd.snd !=0
abbrev Cm(F:ag)(i:fT)(j:qO)(f:fT)(g:qO)(h e:Nat):=[(0,F),(11,i.r.A),(12,fN (Kf.rest (cf ci j.K j.af (cz j.K j.af)).fst i.vs)),(21,f.r.A),(22,fN (Kf.rest (cf ci g.K g.af (cz g.K g.af)).fst f.vs)),(6060,D h (km i) 25),(7080,D e (km f) 25)]
def amy(x:Xr)(F:ag)(N:zw.cond x)(P:zw.aE x F):bz 4 sH (λm=>JI m.K) (λm E=>eu m.K E/\hU E) ([]:aN) (cO F) (λm k=>aK ((x.af.size:Int)>1000) (l zw x F gc [(0,F)]) (GJ [C x.af] ([]:List ag) (cO F) (λj i=>∀(h:Nat),V h 0/\12+x.af.size<=9223372036854775807/\(VK++x.af).size+5<=9223372036854775807/\GJ [C (VK++x.af++(ByteArray.mk #[10,41,9,41,32]))] ([]:List ag) (g [(0,F),(11,i.r.A),(12,fN (Kf.rest (cf ci j.K j.af (cz j.K j.af)).fst i.vs)),(6060,D h (km i) 25)] []) (λn f=>∀(e:Nat),V e 0/\Br (Ij j) (l zw x F (al (H (Ij j))) (Cm F i j f n h e)) (Br (Ij n) (l zw x F (al (H (Ij j))) (Cm F i j f n h e)) (V h 0/\Bd [agg ⟨km i⟩] (g (Cm F i j f n h e) []) (λd c=>V e 0/\Bd [agg ⟨km f⟩] (g (Cm F i j f n h e) []) (λb a=>Br ((jO d.K d.ns).fst.toList==(jO b.K b.ns).fst.toList) (l zw x F (al (H ((jO d.K d.ns).snd==(jO b.K b.ns).snd))) (Cm F i j f n h e)) (l zw x F cm (Cm F i j f n h e)))))))))):=by
 delta cO gc GJ VK km Ij Cm Bd cM cm g V bz dP C H Q D fN aK al;obtain⟨K,af⟩:=x;obtain⟨u,t,y⟩:=N;obtain⟨z,A⟩:=P;have o:∀{S:St}{p:a_},(0:Nat)∉p->gt S 0=F->eu K (.cJ (rest S p))/\hU (.cJ (rest S p)):=λh e=>⟨eu.sub z (jk 0 h e),hU.sub A (jk 0 h e)⟩;have U:=WG af;refine ba akS ⟨K⟩ ⟨u,t,y⟩ (o X rfl) λ_ _=>bd (λh=>iy) (λr=>?_);have r:af.size<=1000:=by have r:¬(af.size:Int)>1000:=r;omega
 refine ba Pa ⟨K,af⟩ u (o X rfl) λG v R=>⟨Y,O,bC,Pa,rfl,⟨K,kY af⟩,rfl,rfl,u,o X rfl,λI w T=>⟨Y,ar (λq=>⟨(),ai, ?_,ao [0]⟩) (λq=>?_)⟩⟩;exact congrArg (λb=>returned (bool b)) q;have e1:(cf ci K af (cz K af)).2.2=0:=by simpa using q
 obtain⟨B,M⟩:=aoE (K:=K) (s:=af) O e1;have J:=RQ u t (s:=af) O e1;have L:=RQ u t (s:=kY af) O B;refine Bn (by dsimp only;rw[B] <;> rfl) ⟨Y,HJ,rfl,⟨K,(cf ci K af (cz K af)).1,G.r.a,G.r.aq⟩,by rw[v.1.len],rfl,⟨u,t,J⟩,⟨⟨Hv v.1 v.2 (bB 11) (bB 12),(o X rfl).1⟩,(o X rfl).2⟩,λ_ _=>⟨Y,HJ,rfl,⟨K,(cf ci K (kY af) (cz K (kY af))).1,I.r.a,I.r.aq⟩,by rw[w.1.len],rfl,⟨u,t,L⟩,⟨⟨Hv w.1 w.2 (bB 21) (bB 22),(o X rfl).1⟩,(o X rfl).2⟩,λ_ _=>?_⟩⟩;dsimp only;rw[amk M];exact Bo (beq_self_eq_true _) ⟨(),ai,congrArg (λb=>returned (bool b)) (beq_self_eq_true _),ao [0]⟩
def amx:aG 3 zw:=cY func3 [(1,0,aI sH),(5,1,.c (oj ci) [] [11,12]),(5,6,.n 6060),(5,7,.w [.aS 6060]),(6,3,.c (oj ci) [] [21,22]),(6,8,.n 7080),(6,9,.w [.aS 7080]),(9,0,z 6060),(9,1,aI pI),(10,0,z 7080),(10,1,aI pI)] amy
def afc:(cf ci pq sJ (cz pq sJ)).2.2=0:=bg
def afd:(cf cU pq sK (cz pq sK)).2.2=0:=bg
def afg:jO pq HL=(⟨#[]⟩,1):=bg
def afe:jO pq (cf ci pq sJ (cz pq sJ)).1=(⟨#[49,32,43,32,40,50,32,42,32,40,45,97,41,41]⟩,0):=bg
def aff:jO pq (cf cU pq sK (cz pq sK)).1=(⟨#[105,102,32,40,97,41,32,98,59,10,101,108,115,101,32,123,10,125,10]⟩,0):=bg
def akR:JI pq:=⟨kOk,λn=>abK ⟨O_,λi _=>WO i⟩ n,⟨afc,afe,afd,aff,afg⟩⟩
end Go.Proofs.YthhiffpfleacaaaGreatDoor
